/- The walk of jotterlaw10's takes. -/
import Derived.Test.YtkicbnkacjnhoaaDoorMakesB
namespace Go.Proofs.YtkicbnkacjnhoaaDoor
open Go.RowKit
set_option linter.unusedVariables false
set_option linter.unusedSimpArgs false

theorem OwnO.tail2 {α : Type} {F : Flat α} {w : World} {A : Option Addr} {cap : Nat} {x : α} {xs : List α} (h : OwnO F w A cap (x :: xs)) : OwnO F w (if cap = 1 then A else A.map (fun x => x.add (1 * F.n))) (cap - 1) xs := by
  have hle := h.le
  simp only [List.length_cons] at hle
  rcases h with ⟨_, _, h⟩ | ⟨g, off, rfl, hg, hl, hr, ht⟩
  · cases h
  · by_cases h0 : cap = 1
    · rw [if_pos h0]
      obtain rfl : xs = [] := List.eq_nil_of_length_eq_zero (by omega)
      refine .inr ⟨g, off, rfl, hg, by simp, fun j u hu => by simp at hu, fun j hj => by rw [h0] at hj; simp at hj⟩
    · rw [if_neg h0]
      have e : (some (⟨g, off, none⟩ : Addr)).map (fun x => x.add (1 * F.n)) = some ⟨g, off + F.n, none⟩ := by simp [add_plain]
      rw [e]
      exact OwnO.tail (.inr ⟨g, off, rfl, hg, hl, hr, ht⟩)
theorem own_tail2 {A : Option Addr} {cap n : Nat} : own (if cap = 1 then A else A.map (fun x => x.add (1 * n))) = own A := by
  split
  · rfl
  · rcases A with _ | ⟨b, off, _ | m⟩
    · rfl
    · simp [own, add_plain]
    · simp only [own, Option.map_some, Addr.add]
      split <;> rfl
section
variable {P : Program} {ops : Array Oper} {rest : List Oper} {o : Oper} {a : Act} {Q : Exit → Act → World → Prop} {α : Type} {F : Flat α} {e : TypeId} {bytes : Nat} {z : α}
/-- x[1:], x of one holder. -/
theorem ev_slO (E : El P F e bytes z) (W : World) (hg : o.guard = none) (t : TypeId) (x y : Operand) (ho : o.op = .slice t x (some y) none none) (ht : P.underlying t = some (.slice e)) (A : Option Addr) (u : α) (xs : List α) (len cap : Nat) (kl : IntKind)
    (hx : a.eval x = .slice A len cap) (hlen : len = xs.length + 1) (hy : a.eval y = .int kl 1) (HO : OwnO F W A cap (u :: xs))
    (hK : ∀ A', (∀ W', OwnO F W' A cap (u :: xs) → OwnO F W' A' (cap - 1) xs) → own A' = own A → wpList P ops Q rest (a.put o.dst (.slice A' (len - 1) (cap - 1))) W) : wpList P ops Q (o :: rest) a W := by
  obtain ⟨i, hi, h3, h4, h5⟩ := info_parts E.info
  have he : P.elem t = e := by simp [Program.elem, ht]
  have hc := HO.le
  simp only [List.length_cons] at hc
  refine wpList_plain hg fun K hK' => ?_
  unfold Oper.wp execOp
  simp only [ho, hx, hy, Option.map_some, Option.map_none]
  rw [Sem.run_bind, run_sliceAt_slice (P := P) W t _ _ _ _ (by rw [he]; exact ht), run_slice_l (P := P) W t A len cap (by rw [he]; exact ht) kl 1 (by omega) (by omega)]
  have hs : (sizeOf e).run P W = .ok F.n W := by simp [sizeOf, typeInfo, hi, h4]
  rw [he, hs]
  simp only [Result.andThen_ok, sliced, Sem.run_pure]
  exact hK' _ _ (hK _ (fun W' h => h.tail2) own_tail2)
end
/-- The first parcel is taken out. -/
theorem SdAt.wayDrop {W : World} {L : Loc} {s : PSd} {f : Bool} (h : SdAt W L s f) {r : List PPar} {V' : Option Addr} (hO : OwnO parF W V' (L.cV - 1) r) (ho : own V' = own L.V) (n : Nat) (hn : n = r.length) :
    SdAt (W.setCell ⟨L.ps, 4, none⟩ (.slice V' n (L.cV - 1))) { L with V := V', cV := L.cV - 1 } { s with way := r } f :=
  h.wayTo (But.refl _ _) hO (fun b hb => .inl (by rw [← ho]; exact hb)) n hn
/-- The seven cells of a parcel. -/
@[reducible] def ParAt (w : World) (b off : Nat) (x : PPar) : Prop :=
  w.cell? ⟨b, off, none⟩ = some (.int .i64 x.m) ∧ w.cell? ⟨b, off + 1, none⟩ = some (.int .i64 x.t) ∧ w.cell? ⟨b, off + 2, none⟩ = some (.int .i64 x.o.k) ∧ w.cell? ⟨b, off + 3, none⟩ = some (.int .i64 x.o.p) ∧ w.cell? ⟨b, off + 4, none⟩ = some (.int .u8 x.o.c) ∧ w.cell? ⟨b, off + 5, none⟩ = some (.int .i64 x.o.l) ∧ w.cell? ⟨b, off + 6, none⟩ = some (.int .i64 x.o.s)
theorem Rd.par0 {w : World} {A : Option Addr} {v : PPar} {r : List PPar} (h : Rd parF w A (v :: r)) : ∃ b off, A = some ⟨b, off, none⟩ ∧ b < w.heap.size ∧ ParAt w b off v := by
  obtain ⟨b, off, e, hc⟩ := h.at_ 0 (by simp)
  have h0 := hc 0 _ rfl
  simp only [Nat.zero_mul, Nat.add_zero] at h0 hc
  exact ⟨b, off, e, World.block_lt_of_cell? w _ h0, h0, hc 1 _ rfl, hc 2 _ rfl, hc 3 _ rfl, hc 4 _ rfl, hc 5 _ rfl, hc 6 _ rfl⟩
theorem RulesAt.but {w w1 : World} (h : RulesAt w) {bs : List Nat} (hb : But bs w w1) (h0 : 0 ∉ bs) : RulesAt w1 := by
  have e := World.cell?_of_block (w := w) (w' := w1) (a := ⟨0, 0, none⟩) (hb.block 0 h.pos h0)
  have k : ∀ i, w1.cell? ⟨0, i, none⟩ = w.cell? ⟨0, i, none⟩ := fun i => World.cell?_of_block (a := ⟨0, i, none⟩) (hb.block 0 h.pos h0)
  constructor <;> (rw [k]; first | exact h.c0 | exact h.c1 | exact h.c2 | exact h.c3 | exact h.c4 | exact h.c5 | exact h.c6 | exact h.c7 | exact h.c8)
/-- Two sides in memory, as they come from two others. -/
structure Two2 (w W : World) (L Lc M Mc : Loc) (s t : PSd) (f g : Bool) : Prop where
  a1 : SdAt W Lc s f
  a2 : SdAt W Mc t g
  ps : Lc.ps = L.ps
  qs : Mc.ps = M.ps
  but : But (L.foot ++ M.foot) w W
  far1 : ∀ b ∈ Lc.foot, b ∈ L.foot ∨ w.heap.size ≤ b
  far2 : ∀ b ∈ Mc.foot, b ∈ M.foot ∨ w.heap.size ≤ b
  dj : ∀ b ∈ Lc.foot, b ∉ Mc.foot
section
variable {w W W' : World} {L Lc M Mc : Loc} {s t : PSd} {f g : Bool}
theorem Two2.on (h : Two2 w W L Lc M Mc s t f g) (hb : Below W.heap.size W W') : Two2 w W' L Lc M Mc s t f g :=
  ⟨h.a1.on hb, h.a2.on hb, h.ps, h.qs, h.but.trans (But.ofBelow (bs := []) hb) (by simp), h.far1, h.far2, h.dj⟩
theorem Two2.drew (h : Two2 w W L Lc M Mc s t f g) : Two2 w W.drew L Lc M Mc s t f g := h.on (Below.refl _ _).drew
theorem Two2.start (h1 : SdAt w L s f) (h2 : SdAt w M t g) (dj : ∀ b ∈ L.foot, b ∉ M.foot) : Two2 w w L L M M s t f g :=
  ⟨h1, h2, rfl, rfl, But.refl _ _, fun b hb => .inl hb, fun b hb => .inl hb, dj⟩
theorem Two2.in1 (h : Two2 w W L Lc M Mc s t f g) {bs : List Nat} (hb : ∀ b ∈ bs, b ∈ Lc.foot) : ∀ b ∈ bs, b ∈ L.foot ++ M.foot ∨ w.heap.size ≤ b := fun b hm => by
  rcases h.far1 b (hb b hm) with h1 | h1
  · exact .inl (List.mem_append_left _ h1)
  · exact .inr h1
theorem Two2.in2 (h : Two2 w W L Lc M Mc s t f g) {bs : List Nat} (hb : ∀ b ∈ bs, b ∈ Mc.foot) : ∀ b ∈ bs, b ∈ L.foot ++ M.foot ∨ w.heap.size ≤ b := fun b hm => by
  rcases h.far2 b (hb b hm) with h1 | h1
  · exact .inl (List.mem_append_right _ h1)
  · exact .inr h1
theorem foot_A {L : Loc} {A' : Option Addr} {c' : Nat} {b : Nat} (hb : b ∈ Loc.foot { L with A := A', c := c' }) : b ∈ L.foot ∨ b ∈ own A' := by
  rcases mem_foot.1 hb with h | h | h | h | h | h
  · exact .inl (mem_foot.2 (.inl h))
  · exact .inl (mem_foot.2 (.inr (.inl h)))
  · exact .inl (mem_foot.2 (.inr (.inr (.inl h))))
  · exact .inr h
  · exact .inl (mem_foot.2 (.inr (.inr (.inr (.inr (.inl h))))))
  · exact .inl (mem_foot.2 (.inr (.inr (.inr (.inr (.inr h))))))
theorem foot_T {L : Loc} {T' : Option Addr} {c' : Nat} {b : Nat} (hb : b ∈ Loc.foot { L with T := T', cT := c' }) : b ∈ L.foot ∨ b ∈ own T' := by
  rcases mem_foot.1 hb with h | h | h | h | h | h
  · exact .inl (mem_foot.2 (.inl h))
  · exact .inl (mem_foot.2 (.inr (.inl h)))
  · exact .inr h
  · exact .inl (mem_foot.2 (.inr (.inr (.inr (.inl h)))))
  · exact .inl (mem_foot.2 (.inr (.inr (.inr (.inr (.inl h))))))
  · exact .inl (mem_foot.2 (.inr (.inr (.inr (.inr (.inr h))))))
theorem foot_V {L : Loc} {V' : Option Addr} {c' : Nat} {b : Nat} (hb : b ∈ Loc.foot { L with V := V', cV := c' }) : b ∈ L.foot ∨ b ∈ own V' := by
  rcases mem_foot.1 hb with h | h | h | h | h | h
  · exact .inl (mem_foot.2 (.inl h))
  · exact .inl (mem_foot.2 (.inr (.inl h)))
  · exact .inl (mem_foot.2 (.inr (.inr (.inl h))))
  · exact .inl (mem_foot.2 (.inr (.inr (.inr (.inl h)))))
  · exact .inr h
  · exact .inl (mem_foot.2 (.inr (.inr (.inr (.inr (.inr h))))))
theorem foot_ps (L : Loc) : L.ps ∈ L.foot := mem_foot.2 (.inl rfl)
theorem foot_sp (L : Loc) : ∀ b ∈ L.p :: own L.A, b ∈ L.foot := fun b hb => mem_foot.2 (by rcases List.mem_cons.1 hb with h1 | h1; exact .inr (.inl h1); exact .inr (.inr (.inr (.inl h1))))
theorem Two2.setSp (h : Two2 w W L Lc M Mc s t f g) {A' : Option Addr} {c' : Nat} {q' : List PMk} {last' : Int} (hb : But (Lc.p :: own Lc.A) W W') (hs : SpAt W' Lc.p A' c' q' last' f) (hf : ∀ b ∈ own A', b ∈ own Lc.A ∨ W.heap.size ≤ b) :
    Two2 w W' L { Lc with A := A', c := c' } M Mc { s with q := q', last := last' } t f g := by
  refine ⟨h.a1.setSp hb hs hf, h.a2.but hb (fun b hb' hm => h.dj b (foot_sp Lc b hm) hb'), h.ps, h.qs, h.but.trans hb (h.in1 (foot_sp Lc)), fun b hb' => ?_, h.far2, fun b hb' hm => ?_⟩
  · rcases foot_A hb' with h1 | h1
    · exact h.far1 b h1
    · rcases hf b h1 with h2 | h2
      · exact h.far1 b (foot_sp Lc b (List.mem_cons_of_mem _ h2))
      · exact .inr (Nat.le_trans h.but.size h2)
  · rcases foot_A hb' with h1 | h1
    · exact h.dj b h1 hm
    · rcases hf b h1 with h2 | h2
      · exact h.dj b (foot_sp Lc b (List.mem_cons_of_mem _ h2)) hm
      · have := h.a2.lt b hm; omega
theorem Two2.setText (h : Two2 w W L Lc M Mc s t f g) (T' : Option Addr) (cT' : Nat) (x' : List PEl) (hr : Rd elF W T' x') (hc : x'.length ≤ cT') (ht : ∀ b ∈ own T', b < W.heap.size ∧ b ∉ Lc.foot ∧ b ∉ Mc.foot ∧ w.heap.size ≤ b) :
    Two2 w (W.setCell ⟨Lc.ps, 0, none⟩ (.slice T' x'.length cT')) L { Lc with T := T', cT := cT' } M Mc { s with x := x' } t f g := by
  have hb := But.setCell W Lc.ps 0 (.slice T' x'.length cT') (bs := [Lc.ps]) (by simp)
  refine ⟨h.a1.setText T' cT' x' hr hc (fun b hb' => ⟨(ht b hb').1, (ht b hb').2.1⟩), h.a2.but hb (fun b hb' hm => h.dj b (by rw [List.mem_singleton.1 hm]; exact foot_ps Lc) hb'), h.ps, h.qs, h.but.trans hb (h.in1 (fun b hm => by rw [List.mem_singleton.1 hm]; exact foot_ps Lc)), fun b hb' => ?_, h.far2, fun b hb' hm => ?_⟩
  · rcases foot_T hb' with h1 | h1
    · exact h.far1 b h1
    · exact .inr (ht b h1).2.2.2
  · rcases foot_T hb' with h1 | h1
    · exact h.dj b h1 hm
    · exact (ht b h1).2.2.1 hm
theorem Two2.setTook (h : Two2 w W L Lc M Mc s t f g) (m : Int) : Two2 w (W.setCell ⟨Lc.ps, 3, none⟩ (.int .i64 m)) L Lc M Mc { s with took := m } t f g := by
  have hb := But.setCell W Lc.ps 3 (.int .i64 m) (bs := [Lc.ps]) (by simp)
  exact ⟨h.a1.setTook m, h.a2.but hb (fun b hb' hm => h.dj b (by rw [List.mem_singleton.1 hm]; exact foot_ps Lc) hb'), h.ps, h.qs, h.but.trans hb (h.in1 (fun b hm => by rw [List.mem_singleton.1 hm]; exact foot_ps Lc)), h.far1, h.far2, h.dj⟩
theorem Two2.wayDrop (h : Two2 w W L Lc M Mc s t f g) {r : List PPar} {V' : Option Addr} (hO : OwnO parF W V' (Mc.cV - 1) r) (ho : own V' = own Mc.V) (n : Nat) (hn : n = r.length) :
    Two2 w (W.setCell ⟨Mc.ps, 4, none⟩ (.slice V' n (Mc.cV - 1))) L Lc M { Mc with V := V', cV := Mc.cV - 1 } s { t with way := r } f g := by
  have hb := But.setCell W Mc.ps 4 (.slice V' n (Mc.cV - 1)) (bs := [Mc.ps]) (by simp)
  have hV : ∀ b ∈ own V', b ∈ Mc.foot := fun b hb' => mem_foot.2 (.inr (.inr (.inr (.inr (.inl (by rw [← ho]; exact hb'))))))
  refine ⟨h.a1.but hb (fun b hb' hm => h.dj b hb' (by rw [List.mem_singleton.1 hm]; exact foot_ps Mc)), h.a2.wayDrop hO ho n hn, h.ps, h.qs, h.but.trans hb (h.in2 (fun b hm => by rw [List.mem_singleton.1 hm]; exact foot_ps Mc)), h.far1, fun b hb' => ?_, fun b hb' hm => ?_⟩
  · rcases foot_V hb' with h1 | h1
    · exact h.far2 b h1
    · exact h.far2 b (hV b h1)
  · rcases foot_V hm with h1 | h1
    · exact h.dj b hb' h1
    · exact h.dj b hb' (hV b h1)
end
theorem Two2.aside {w W W' : World} {L Lc M Mc : Loc} {s t : PSd} {f g : Bool} (h : Two2 w W L Lc M Mc s t f g) {bs : List Nat} (hb : But bs W W') (hn : ∀ b ∈ bs, b ∉ Lc.foot ∧ b ∉ Mc.foot ∧ w.heap.size ≤ b) : Two2 w W' L Lc M Mc s t f g :=
  ⟨h.a1.but hb (fun b hb' hm => (hn b hm).1 hb'), h.a2.but hb (fun b hb' hm => (hn b hm).2.1 hb'), h.ps, h.qs, h.but.trans hb (fun b hm => .inr (hn b hm).2.2), h.far1, h.far2, h.dj⟩
theorem tk_s {V : World} {p b : Nat} {t t' : TypeId} {v0 v1 v2 v3 v4 v5 v6 u0 u1 u2 u3 u4 u5 u6 : Value} (h : Blk V p #[v0, v1, v2, v3, v4, v5, v6] t) (k : Blk V b #[u0, u1, u2, u3, u4, u5, u6] t') :
    V.cell? ⟨p, 1, none⟩ = some v1 ∧ (V.cell? ⟨b, 2, none⟩ = some u2 ∧ V.cell? ⟨b, 3, none⟩ = some u3 ∧ V.cell? ⟨b, 4, none⟩ = some u4 ∧ V.cell? ⟨b, 5, none⟩ = some u5 ∧ V.cell? ⟨b, 6, none⟩ = some u6) :=
  ⟨h.cell 1, k.cell 2, k.cell 3, k.cell 4, k.cell 5, k.cell 6⟩
theorem takes_none (ps : Nat) (M : Loc) (t : PSd) (g : Bool) (w : World) (ht : SdAt w M t g) (hw : t.way = []) :
    Calls Tryd.prog 65 #[.pointer (some ⟨ps, 0, none⟩), .pointer (some ⟨M.ps, 0, none⟩)] w fun r w' => r = .returned (.bool true) ∧ Below w.heap.size w w' := by
  obtain ⟨qs, T2, cT2, p2, A2, c2, V2, cV2, G2, cG2⟩ := M
  obtain ⟨x2, q2, last2, made2, took2, way2, base2, gone2⟩ := t
  dsimp only at *
  subst hw
  obtain ⟨e0, e1, e2, e3, e4, e5, e6⟩ := ht.blk.seven
  dsimp only at e0 e1 e2 e3 e4 e5 e6
  go_enter Tryd.func65, Tryd.ntmps65
  go_wp2
  go_ret
  exact ⟨rfl, Below.refl _ _⟩
set_option maxHeartbeats 8000000 in
set_option maxRecDepth 100000 in
theorem takes_some (L M : Loc) (s t : PSd) (f g : Bool) (v : PPar) (r : List PPar) (e : List PEl) (y : POp) (w : World) (hR : RulesAt w) (hs : SdAt w L s f) (ht : SdAt w M t g) (dj : ∀ b ∈ L.foot, b ∉ M.foot) (h0 : 0 ∉ L.foot ++ M.foot) (hw : t.way = v :: r)
    (hy : (pastL v.o (opsQ (dropQ v.t s.q)) f).1 = y) (hput : putL s.x y = some e) (hvl : validL v.o = 0) (hvc : 0 ≤ v.o.c ∧ v.o.c ≤ 255) (hyl : validL y = 0) (hyc : 0 ≤ y.c ∧ y.c ≤ 255) (hq : s.q.length ≤ 1000) (hx : s.x.length ≤ 4000) (hr : r.length ≤ 1000) :
    Calls Tryd.prog 65 #[.pointer (some ⟨L.ps, 0, none⟩), .pointer (some ⟨M.ps, 0, none⟩)] w fun r' w' => r' = .returned (.bool true) ∧ ∃ L' M', Two2 w w' L L' M M' { s with x := e, q := crossQ f (dropQ v.t s.q) v.o, took := v.m } { t with way := r } f g := by
  have h2 := Two2.start hs ht dj
  obtain ⟨ps, T, cT, p, A, c, V, cV, G, cG⟩ := L
  obtain ⟨x, q, last, made, took, way, base, gone⟩ := s
  obtain ⟨qs, T2, cT2, p2, A2, c2, V2, cV2, G2, cG2⟩ := M
  obtain ⟨x2, q2, last2, made2, took2, way2, base2, gone2⟩ := t
  obtain ⟨L0, hL0⟩ : ∃ L0 : Loc, L0 = ⟨ps, T, cT, p, A, c, V, cV, G, cG⟩ := ⟨_, rfl⟩
  obtain ⟨M0, hM0⟩ : ∃ M0 : Loc, M0 = ⟨qs, T2, cT2, p2, A2, c2, V2, cV2, G2, cG2⟩ := ⟨_, rfl⟩
  rw [← hL0] at h0 ⊢
  rw [← hM0] at h0 ⊢
  have h2' : Two2 w w L0 ⟨ps, T, cT, p, A, c, V, cV, G, cG⟩ M0 ⟨qs, T2, cT2, p2, A2, c2, V2, cV2, G2, cG2⟩ ⟨x, q, last, made, took, way, base, gone⟩ ⟨x2, q2, last2, made2, took2, way2, base2, gone2⟩ f g := by rw [hL0, hM0]; exact h2
  have hps : L0.ps = ps := by rw [hL0]
  have hqs : M0.ps = qs := by rw [hM0]
  rw [hps, hqs]
  clear h2 hs ht dj hL0 hM0 hps hqs
  dsimp only at *
  subst hw
  have HY := Lib.hid hy
  have HPUT := Lib.hid hput
  have HVL := Lib.hid hvl
  have HYL := Lib.hid hyl
  have H0 := Lib.hid h0
  obtain ⟨vb, vo, hV2, hvb, v0, v1, v2, v3, v4, v5, v6⟩ := h2'.a2.wy.rd.par0
  dsimp only at hV2
  subst hV2
  have kt : Blk w qs #[.slice T2 x2.length cT2, .pointer (some ⟨p2, 0, none⟩), .int .i64 made2, .int .i64 took2, .slice (some ⟨vb, vo, none⟩) (r.length + 1) cV2, .int .i64 base2, .slice G2 gone2.length cG2] 108 := h2'.a2.blk
  obtain ⟨e0, e1, e2, e3, e4, e5, e6⟩ := kt.seven
  have ez := kt.frozen
  have W1 := below_alloc (Below.refl w.heap.size w) (.cells #[.int .i64 v.m, .int .i64 v.t, .int .i64 v.o.k, .int .i64 v.o.p, .int .u8 v.o.c, .int .i64 v.o.l, .int .i64 v.o.s] 116)
  have ht1 := h2'.a2.wy.on W1
  dsimp only at ht1
  have hqsl : qs < w.heap.size := kt.lt
  clear hy hput hvl hyl h0
  go_enter Tryd.func65, Tryd.ntmps65
  go_wp2_with (refine at_dst 27 rfl ?_; refine ev_slO El.par _ rfl 106 _ _ rfl Tryd.underlying106 (some ⟨vb, vo, none⟩) v r (r.length + 1) cV2 .i64 rfl rfl rfl ht1 ?_; intro V' hV' hoV)
  clear W1 ht1 e0 e1 e2 e3 e4 e5 e6 ez v0 v1 v2 v3 v4 v5 v6 kt
  have h3 := h2'.wayDrop (hV' _ h2'.a2.wy) hoV r.length rfl
  have hsz : (w.setCell ⟨qs, 4, none⟩ (.slice V' r.length (cV2 - 1))).heap.size = w.heap.size := by simp
  dsimp only at h3
  have OO : Hid (w.heap.size ∉ Loc.foot ⟨ps, T, cT, p, A, c, V, cV, G, cG⟩) := Lib.hid (fun hm => by have := h2'.a1.lt _ hm; omega)
  clear h2' hV' hoV
  generalize w.setCell ⟨qs, 4, none⟩ (.slice V' r.length (cV2 - 1)) = w1 at *
  have W2 := below_alloc (Below.refl w1.heap.size w1) (.cells #[.int .i64 v.m, .int .i64 v.t, .int .i64 v.o.k, .int .i64 v.o.p, .int .u8 v.o.c, .int .i64 v.o.l, .int .i64 v.o.s] 116)
  have kv := Blk.new w1 #[.int .i64 v.m, .int .i64 v.t, .int .i64 v.o.k, .int .i64 v.o.p, .int .u8 v.o.c, .int .i64 v.o.l, .int .i64 v.o.s] 116
  rw [hsz] at kv
  have h4 := h3.on W2
  clear h3 W2 hsz
  generalize w1.alloc (.cells #[.int .i64 v.m, .int .i64 v.t, .int .i64 v.o.k, .int .i64 v.o.p, .int .u8 v.o.c, .int .i64 v.o.l, .int .i64 v.o.s] 116) = w2 at *
  have kb : Blk w2 ps #[.slice T x.length cT, .pointer (some ⟨p, 0, none⟩), .int .i64 made, .int .i64 took, .slice V way.length cV, .int .i64 base, .slice G gone.length cG] 108 := h4.a1.blk
  obtain ⟨e0, e1, e2, e3, e4, e5, e6⟩ := kb.seven
  obtain ⟨v0, v1, v2, v3, v4, v5, v6⟩ := kv.seven
  go_still_tail 8, (by kernel_rfl)
  change wpList _ _ _ _ _ (World.drew _)
  go_wp2_with fail
  with_reducible refine (drop_any v.t _ (SpAt.drew h4.a1.sp) (show q.length ≤ 100000 by omega)).mono ?_
  rintro r' w3 ⟨n, A', c', rfl, hn, hsp, b3, f3⟩
  have h5 := h4.drew.setSp (b3.mono (by simp)) hsp (fun b hb => .inr (f3 b hb))
  dsimp only at h5
  rw [← hn.out.2] at h5
  have hql : (dropQ v.t q).length ≤ q.length := by rw [hn.out.2]; simp
  have kv3 := kv.drew.but b3 (fun hm => OO.out (mem_foot.2 (.inr (.inl (List.mem_singleton.1 hm)))))
  have hR3 : RulesAt w3 := hR.but h5.but H0.out
  have OO3 : Hid (w.heap.size ∉ own A') := Lib.hid (fun hm => by have h8 : w2.drew.heap.size ≤ w.heap.size := f3 _ hm; have h9 : w.heap.size < w2.drew.heap.size := kv.lt; omega)
  clear e0 e1 e2 e3 e4 e5 e6 v0 v1 v2 v3 v4 v5 v6 kb kv h4 hsp hn b3 f3
  have kb : Blk w3 ps #[.slice T x.length cT, .pointer (some ⟨p, 0, none⟩), .int .i64 made, .int .i64 took, .slice V way.length cV, .int .i64 base, .slice G gone.length cG] 108 := h5.a1.blk
  obtain ⟨v0, v1, v2, v3, v4, v5, v6⟩ := kv3.seven
  obtain ⟨e0, e1, e2, e3, e4, e5, e6⟩ := kb.seven
  generalize hq3 : dropQ v.t q = q3 at *
  have HQ3 := Lib.hid hq3
  clear hq3
  have lkv := kv3.lt
  have lkb := kb.lt
  go_upto_region 6 with fail
  clear e0 e1 e2 e3 e4 e5 e6 v0 v1 v2 v3 v4 v5 v6
  go_cut [6, 7] from 39 to 48 (fun s6 s7 wx => ∃ bo : Nat, s6 = .pointer (some ⟨bo, 0, none⟩) ∧ s7 = .int .i64 0 ∧ w.heap.size ≤ bo ∧ Blk wx bo #[.int .i64 y.k, .int .i64 y.p, .int .u8 y.c, .int .i64 y.l, .int .i64 y.s] 23 ∧ Blk wx w.heap.size #[.int .i64 v.m, .int .i64 v.t, .int .i64 v.o.k, .int .i64 v.o.p, .int .u8 v.o.c, .int .i64 v.o.l, .int .i64 v.o.s] 116 ∧ Two2 w wx L0 ⟨ps, T, cT, p, A', c', V, cV, G, cG⟩ M0 ⟨qs, T2, cT2, p2, A2, c2, V', cV2 - 1, G2, cG2⟩ ⟨x, crossQ f q3 v.o, last, made, took, way, base, gone⟩ ⟨x2, q2, last2, made2, took2, r, base2, gone2⟩ f g)
  case first =>
    have nb : ps ∉ own A' := h5.a1.psn.2.2.1
    have np : ps ≠ w3.heap.size := by omega
    have nv : w.heap.size ≠ w3.heap.size := by omega
    have nz : w3.heap.size ∉ own A' := fun hm => by have := h5.a1.lt _ (foot_sp _ _ (List.mem_cons_of_mem _ hm)); omega
    have nf1 : w3.heap.size ∉ Loc.foot ⟨ps, T, cT, p, A', c', V, cV, G, cG⟩ := fun hm => by have := h5.a1.lt _ hm; omega
    have nf2 : w3.heap.size ∉ Loc.foot ⟨qs, T2, cT2, p2, A2, c2, V', cV2 - 1, G2, cG2⟩ := fun hm => by have := h5.a2.lt _ hm; omega
    have hq3 : q3.length ≤ 4096 := by omega
    have kz := (Blk.new w3 #[.int .i64 0, .int .i64 0, .int .u8 0, .int .i64 0, .int .i64 0] 23).drew
    have lww : w.heap.size ≤ w3.heap.size := by omega
    go_region_held3 (fun V' => V'.cell? ⟨ps, 1, none⟩ = some (.pointer (some ⟨p, 0, none⟩)) ∧ (V'.cell? ⟨w.heap.size, 2, none⟩ = some (.int .i64 v.o.k) ∧ V'.cell? ⟨w.heap.size, 3, none⟩ = some (.int .i64 v.o.p) ∧ V'.cell? ⟨w.heap.size, 4, none⟩ = some (.int .u8 v.o.c) ∧ V'.cell? ⟨w.heap.size, 5, none⟩ = some (.int .i64 v.o.l) ∧ V'.cell? ⟨w.heap.size, 6, none⟩ = some (.int .i64 v.o.s)))
      (first | ((with_reducible exact tk_s kb.drew kv3.drew); done) | ((with_reducible exact tk_s (kb.alloc _).drew (kv3.alloc _).drew); done) | ((with_reducible exact tk_s (kb.drew.alloc _) (kv3.drew.alloc _)); done) | ((with_reducible exact tk_s kb4 kv4); done) | ((with_reducible exact tk_s (kb4.alloc _) (kv4.alloc _)); done) | ((with_reducible exact tk_s (kb4.other5 np _ _ _ _ _) (kv4.other5 nv _ _ _ _ _)); done) | fail)
      (first
        | (go_at_call 50; (with_reducible refine (cross_ok v.o _ (hR3.on (by (repeat' (first | with_reducible exact Below.refl _ _ | with_reducible refine Below.drew ?_ | with_reducible refine below_alloc ?_ _ | fail)))) (h5.a1.sp.on (by (repeat' (first | with_reducible exact Below.refl _ _ | with_reducible refine Below.drew ?_ | with_reducible refine below_alloc ?_ _ | fail)))) hvc HVL.out hq3).mono ?_); rintro r' w4 ⟨y', hy', rfl, hsp, b4⟩; obtain rfl : y' = y := hy'.out.symm.trans HY.out; (have kb4 : Blk w4 ps #[.slice T x.length cT, .pointer (some ⟨p, 0, none⟩), .int .i64 made, .int .i64 took, .slice V way.length cV, .int .i64 base, .slice G gone.length cG] 108 := by first | exact kb.drew.but b4 nb | exact (kb.alloc _).drew.but b4 nb); (have kv4 : Blk w4 w.heap.size #[.int .i64 v.m, .int .i64 v.t, .int .i64 v.o.k, .int .i64 v.o.p, .int .u8 v.o.c, .int .i64 v.o.l, .int .i64 v.o.s] 116 := by first | exact kv3.drew.but b4 OO3.out | exact (kv3.alloc _).drew.but b4 OO3.out); (have h6 : Two2 w w4 L0 ⟨ps, T, cT, p, A', c', V, cV, G, cG⟩ M0 ⟨qs, T2, cT2, p2, A2, c2, V', cV2 - 1, G2, cG2⟩ ⟨x, crossQ f q3 v.o, last, made, took, way, base, gone⟩ ⟨x2, q2, last2, made2, took2, r, base2, gone2⟩ f g := by first | exact h5.drew.setSp (b4.mono (fun b hb => List.mem_cons_of_mem _ hb)) hsp (fun b hb => .inl hb) | exact (h5.on (below_alloc (Below.refl _ _) _)).drew.setSp (b4.mono (fun b hb => List.mem_cons_of_mem _ hb)) hsp (fun b hb => .inl hb)); (try have kz4 := kz.but b4 nz); (try obtain ⟨n0, n1, n2, n3, n4⟩ := kz4.cells5); (try have nzz := kz4.frozen))
        | fail)
    all_goals
      go_wp2_with fail
      go_meet
      first
        | exact ⟨w4.heap.size, rfl, rfl, Nat.le_of_lt kv4.lt, Blk.new w4 _ _, kv4.alloc _, h6.on (below_alloc (Below.refl _ _) _)⟩
        | exact ⟨w3.heap.size, rfl, rfl, lww, kz4.set5 _ _ _ _ _, kv4.other5 nv _ _ _ _ _, h6.aside (But.ofGrown (bs := [w3.heap.size]) (grown_put5 _ _ _ _ _ _ _) (fun k e => .inl (by obtain rfl := Option.some.inj e; simp))) (fun b hb => by rw [List.mem_singleton.1 hb]; exact ⟨nf1, nf2, lww⟩)⟩
  case rest =>
    clear kb kv3 h5 hR3 lkv lkb
    obtain ⟨bo, rfl, rfl, hbo, ko, kv4, h6⟩ := hcut
    have kb : Blk wc ps #[.slice T x.length cT, .pointer (some ⟨p, 0, none⟩), .int .i64 made, .int .i64 took, .slice V way.length cV, .int .i64 base, .slice G gone.length cG] 108 := h6.a1.blk
    have hput1 := HPUT.out
    have tx6 := h6.a1.tx
    have tl6 := h6.a1.tl
    dsimp only at tx6 tl6
    have HP1 := Lib.hid hput1
    clear hput1
    go_upto_region 7 with fail
    go_region_held3 (fun V' => V'.cell? ⟨ps, 0, none⟩ = some (.slice T x.length cT) ∧ (V'.cell? ⟨bo, 0, none⟩ = some (.int .i64 y.k) ∧ V'.cell? ⟨bo, 1, none⟩ = some (.int .i64 y.p) ∧ V'.cell? ⟨bo, 2, none⟩ = some (.int .u8 y.c) ∧ V'.cell? ⟨bo, 3, none⟩ = some (.int .i64 y.l) ∧ V'.cell? ⟨bo, 4, none⟩ = some (.int .i64 y.s)))
      (first | ((with_reducible exact mk_s9 kb.drew ko.drew); done) | ((with_reducible exact mk_s9 (kb.on B2) (ko.on B2)); done) | fail)
      (first
        | (go_at_call 84; (with_reducible refine (apply_any T cT x e y _ (Rd.drew tx6) tl6 (by omega) HP1.out hyc HYL.out).mono ?_); rintro r' w5 ⟨g', cap, rfl, oc, hg, hb2⟩; (have B2 : Below wc.heap.size wc w5 := (Below.refl _ _).drew.trans hb2))
        | fail)
    have h7 := h6.on B2
    have kv7 := kv4.on B2
    have kb7 := kb.on B2
    have rd7 := oc.rd
    have rl7 := oc.le
    have gl7 := oc.lt
    have hg1 : wc.heap.size ≤ g' := hg
    have gw : w.heap.size ≤ g' := by have := kv4.lt; omega
    have gF : Hid (g' ∉ Loc.foot ⟨ps, T, cT, p, A', c', V, cV, G, cG⟩ ∧ g' ∉ Loc.foot ⟨qs, T2, cT2, p2, A2, c2, V', cV2 - 1, G2, cG2⟩) := Lib.hid ⟨fun hm => by have := h6.a1.lt _ hm; omega, fun hm => by have := h6.a2.lt _ hm; omega⟩
    have hpv : w.heap.size ≠ ps := fun e => OO.out (by rw [e]; exact mem_foot.2 (.inl rfl))
    obtain ⟨e0, e1, e2, e3, e4, e5, e6⟩ := kb7.seven
    obtain ⟨v0, v1, v2, v3, v4, v5, v6⟩ := kv7.seven
    have ez := kb7.frozen
    clear kb ko h6 B2 hb2 oc kv4 tx6 tl6
    go_wp2
    go_ret
    have h8 := (h7.setText (some ⟨g', 0, none⟩) cap e rd7 rl7 (fun b hb => by obtain rfl := List.mem_singleton.1 hb; exact ⟨gl7, gF.out.1, gF.out.2, gw⟩)).setTook v.m
    dsimp only at h8
    rw [← HQ3.out] at h8
    exact ⟨rfl, ⟨ps, some ⟨g', 0, none⟩, cap, p, A', c', V, cV, G, cG⟩, ⟨qs, T2, cT2, p2, A2, c2, V', cV2 - 1, G2, cG2⟩, h8⟩
end Go.Proofs.YtkicbnkacjnhoaaDoor
