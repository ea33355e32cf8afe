/- fill of jotterlaw05: a list of one's own written full, and one element more. -/
import Derived.Test.YtkicbnkacjnhoaaDoorSp
namespace Go.Proofs.YtkicbnkacjnhoaaDoor
open Go.RowKit
set_option linter.unusedVariables false
set_option linter.unusedSimpArgs false

def fillAt (m : Int) (k : Nat) : POp := ⟨1, m, 109, m, k⟩
def fillF (m : Int) (n : Nat) : List POp := (List.range n).map (fillAt m)
def fillL (m : Int) (n : Nat) : List POp := fillF m n ++ [⟨2, m, 0, m, 0⟩]
theorem fillF_length (m : Int) (n : Nat) : (fillF m n).length = n := by simp [fillF]
theorem fillL_length (m : Int) (n : Nat) : (fillL m n).length = n + 1 := by simp [fillL, fillF_length]
theorem fillF_succ (m : Int) (n : Nat) : fillF m (n + 1) = fillF m n ++ [fillAt m n] := by simp [fillF, List.range_succ]
theorem fill_set (m : Int) (xs : List POp) (k : Nat) (hk : k < xs.length) : (fillF m k ++ xs.drop k).set k (fillAt m k) = fillF m (k + 1) ++ xs.drop (k + 1) := by
  rw [List.set_append_right _ _ (by rw [fillF_length]; exact Nat.le_refl _), fillF_length, Nat.sub_self, List.drop_eq_getElem_cons hk, List.set_cons_zero, fillF_succ, List.append_assoc]
  rfl
theorem fill_len (m : Int) (xs : List POp) (k : Nat) (hk : k ≤ xs.length) : (fillF m k ++ xs.drop k).length = xs.length := by
  rw [List.length_append, fillF_length, List.length_drop]; omega

/-- A prefix of an own list. -/
theorem OwnC.front {α : Type} {F : Flat α} {e : TypeId} {w : World} {g cap : Nat} {xs ys : List α} (h : OwnC F e w g cap (xs ++ ys)) : OwnC F e w g cap xs := by
  rcases h.2 with ⟨h', _⟩ | ⟨g', cap', cur, hv, hbg, hb, hnc, hcm, hcs, htake⟩
  · cases h'
  · refine ⟨by rw [flatMap_cells_length], .inr ⟨g', cap', cur, ?_, hbg, hb, ?_, hcm, hcs, ?_⟩⟩
    · injection hv with h1 h2 h3
      rw [h1, h3]
    · rw [List.length_append] at hnc; omega
    · have h1 : (xs.length * F.n) ≤ (xs ++ ys).length * F.n := Nat.mul_le_mul_right _ (by simp)
      have h2 := congrArg (List.take (xs.length * F.n)) htake
      rw [List.take_take, Nat.min_eq_left h1] at h2
      rw [h2, List.flatMap_append, List.take_append_of_le_length (by rw [flatMap_cells_length]; exact Nat.le_refl _), List.take_of_length_le (by rw [flatMap_cells_length]; exact Nat.le_refl _)]

set_option maxHeartbeats 1000000 in
theorem fill_c (g cap : Nat) (xs : List POp) (m : Int) (w : World) (h : OwnC opF 23 w g cap xs) (hb : xs.length ≤ 5000) :
    Calls Tryd.prog 45 #[.slice (some ⟨g, 0, none⟩) xs.length cap, .int .i64 m] w fun e w' =>
      ∃ (A' : Option Addr) (c' : Nat), e = .returned (.slice A' (xs.length + 1) c') ∧ OwnV opF 23 0 w' (.slice A' (xs.length + 1) c') (fillL m xs.length) ∧ w.grownBy w' (some g) ∧ (own A' = [g] ∨ ∃ k, own A' = [k] ∧ w.heap.size ≤ k) := by
  have lg := h.lt
  go_enter Tryd.func45, Tryd.ntmps45
  go_wp2
  go_loopw [5] (fun i wr => ∃ k : Nat, k ≤ xs.length ∧ i = .int .i64 k ∧ OwnC opF 23 wr g cap (fillF m k ++ xs.drop k) ∧ w.grownBy wr (some g)) (fun i wr => xs.length - (intOf i).toNat)
  case atStart => exact ⟨0, Nat.zero_le _, rfl, h, World.grownBy.refl _ _⟩
  case round =>
    obtain ⟨k, hk, rfl, hO, hB⟩ := hrel
    have HL := Lib.hid (fill_len m xs k hk)
    by_cases hlt : k < xs.length
    · go_wp2_with (refine at_st 18 rfl ?_; go_must (refine ev_setF El.op _ rfl _ _ rfl g cap _ k _ (fillAt m k) ?hoff (by rw [HL.out]; exact hlt) rfl rfl hO ?_); (case hoff => simp [opF]); intro w2 hO2 hg2)
      go_roundw
      case rel =>
        refine ⟨k + 1, by omega, by go_num, ?_, World.grownBy.trans hB hg2⟩
        rw [← fill_set m xs k hlt]
        exact hO2
      case measure => simp [intOf]; omega
    · have hk2 : k = xs.length := by omega
      have hO2 : OwnC opF 23 wr g cap (fillF m xs.length) := by
        rw [hk2] at hO
        simpa using hO
      have hO3 : OwnV opF 23 0 wr (.slice (some ⟨g, 0, none⟩) xs.length cap) (fillF m xs.length) := by
        have := hO2.v (Nat.zero_le g)
        rwa [fillF_length] at this
      have hbb : ((fillF m xs.length).length + 1) * 40 ≤ 140737488355328 := by rw [fillF_length]; omega
      have HBB := Lib.hid hbb
      clear hO hk2 hO2 hbb
      go_wp2_with (at_builtin; refine ev_app1V El.op (by decide) (by decide) wr rfl _ _ 35 rfl Tryd.underlying35 0 (.slice (some ⟨g, 0, none⟩) xs.length cap) (fillF m xs.length) ⟨2, m, 0, m, 0⟩ rfl rfl hO3 HBB.out (Nat.zero_le _) ?_; intro v' w2 oV2 hg2 hv2; obtain ⟨A2, c2, rfl, hrd2⟩ := oV2.rd)
      go_ret
      refine ⟨A2, c2, by simp [fillF_length], ?_, ?_, ?_⟩
      · have := oV2
        simpa [fillL, fillF_length] using this
      · exact World.grownBy.trans hB hg2
      · rcases hv2 with h1 | ⟨k2, h1, h2⟩
        · exact .inl (own_block h1)
        · exact .inr ⟨k2, own_block h1, Nat.le_trans hB.size h2⟩
set_option maxHeartbeats 1000000 in
theorem fill_nil (m : Int) (w : World) :
    Calls Tryd.prog 45 #[.slice none 0 0, .int .i64 m] w fun e w' =>
      ∃ (A' : Option Addr) (c' : Nat), e = .returned (.slice A' 1 c') ∧ OwnV opF 23 0 w' (.slice A' 1 c') (fillL m 0) ∧ w.grownBy w' none ∧ ∃ k, own A' = [k] ∧ w.heap.size ≤ k := by
  go_enter Tryd.func45, Tryd.ntmps45
  go_wp2
  go_loopw [5] (fun i wr => i = .int .i64 0 ∧ wr = w) (fun i wr => 0)
  case atStart => exact ⟨rfl, rfl⟩
  case round =>
    obtain ⟨rfl, rfl⟩ := hrel
    go_wp2_with (at_builtin; refine ev_app1V El.op (by decide) (by decide) wr rfl _ _ 35 rfl Tryd.underlying35 0 (.slice none 0 0) [] ⟨2, m, 0, m, 0⟩ rfl rfl (OwnV.nil _ _) (by simp) (Nat.zero_le _) ?_; intro v' w2 oV2 hg2 hv2; obtain ⟨A2, c2, rfl, hrd2⟩ := oV2.rd)
    go_ret
    refine ⟨A2, c2, by simp, oV2, hg2, ?_⟩
    rcases hv2 with h1 | ⟨k2, h1, h2⟩
    · have hc := oV2.c
      rcases hc with ⟨_, h⟩ | ⟨g, cap, e, _⟩
      · simp at h
      · rw [e] at h1; cases h1
    · exact ⟨k2, own_block h1, h2⟩

/-- A list in memory that the walk holds as its own. -/
structure Ent where
  A : Option Addr
  n : Nat
  c : Nat
  xs : List POp
structure Hold (w0 W : World) (es : List Ent) : Prop where
  rules : RulesAt w0
  below : Below w0.heap.size w0 W
  len : ∀ e ∈ es, e.n = e.xs.length
  mine : ∀ e ∈ es, OwnV opF 23 w0.heap.size W (.slice e.A e.n e.c) e.xs
  dis : es.Pairwise fun a b => ∀ g ∈ own a.A, g ∉ own b.A
theorem own_off {A : Option Addr} {n c n' c' : Nat} : (Value.slice A n c).ownBlock = (Value.slice A n' c').ownBlock := by cases A <;> rfl
section
variable {w0 W W' : World} {es : List Ent} {A : Option Addr} {n c : Nat} {xs : List POp}
theorem Hold.start (w : World) (hr : RulesAt w) : Hold w w [] := ⟨hr, Below.refl _ _, by simp, by simp, .nil⟩
theorem Hold.rulesW (h : Hold w0 W es) : RulesAt W := h.rules.on h.below
theorem Hold.on (h : Hold w0 W es) (hb : Below W.heap.size W W') : Hold w0 W' es :=
  ⟨h.rules, h.below.trans (hb.mono h.below.size), h.len, fun e he => (h.mine e he).on hb, h.dis⟩
theorem Hold.drewN (h : Hold w0 W es) (k : Nat) : Hold w0 (W.drewN k) es := h.on (below_drewN (Below.refl _ _) k)
theorem Hold.alloc (h : Hold w0 W es) (o : Obj) : Hold w0 (W.alloc o) es := h.on (below_alloc (Below.refl _ _) o)
theorem Hold.lt (h : Hold w0 W es) {e : Ent} (he : e ∈ es) : ∀ g ∈ own e.A, w0.heap.size ≤ g ∧ g < W.heap.size := fun g hg => (h.mine e he).lt g (own_mem hg)
theorem Hold.add (h : Hold w0 W es) (hb : Below W.heap.size W W') (ho : OwnV opF 23 W.heap.size W' (.slice A n c) xs) (hn : n = xs.length) : Hold w0 W' (es ++ [⟨A, n, c, xs⟩]) := by
  refine ⟨h.rules, h.below.trans (hb.mono h.below.size), fun e he => ?_, fun e he => ?_, ?_⟩
  · rcases List.mem_append.1 he with he | he
    · exact h.len e he
    · obtain rfl := List.mem_singleton.1 he
      exact hn
  · rcases List.mem_append.1 he with he | he
    · exact (h.mine e he).on hb
    · obtain rfl := List.mem_singleton.1 he
      exact ho.weak h.below.size
  · refine List.pairwise_append.2 ⟨h.dis, List.pairwise_singleton _ _, fun a ha b hb2 g hg hg2 => ?_⟩
    obtain rfl := List.mem_singleton.1 hb2
    have h1 := (h.lt ha g hg).2
    have h2 := (ho.lt g (own_mem hg2)).1
    omega
theorem Hold.rd (h : Hold w0 W es) (i : Nat) (hi : es[i]? = some ⟨A, n, c, xs⟩) : Rd opF W A xs := (h.mine _ (List.mem_of_getElem? hi)).rd2
theorem Hold.ln (h : Hold w0 W es) (i : Nat) (hi : es[i]? = some ⟨A, n, c, xs⟩) : n = xs.length := h.len _ (List.mem_of_getElem? hi)
theorem Hold.room (h : Hold w0 W es) (i : Nat) (hi : es[i]? = some ⟨A, n, c, xs⟩) : n ≤ c := by
  have hn := h.ln i hi
  have hm : OwnV opF 23 w0.heap.size W (.slice A n c) xs := h.mine _ (List.mem_of_getElem? hi)
  rcases hm.c with ⟨e, h0⟩ | ⟨g, cap, e, _, hc⟩
  · have e1 : n = 0 := by injection e
    omega
  · have e1 : n = xs.length := by injection e
    have e2 : c = cap := by injection e
    have := hc.le
    omega
theorem Rd.fore {ys : List POp} (h : Rd opF W A (xs ++ ys)) : Rd opF W A xs :=
  ⟨fun i hi => by
    obtain ⟨b, off, e, hc⟩ := h.at_ i (by simp; omega)
    refine ⟨b, off, e, fun j u hu => hc j u ?_⟩
    rw [List.getElem_append_left hi]
    exact hu⟩
theorem Rd.last5 {g : Nat} {x : POp} (h : Rd opF W (some ⟨g, 0, none⟩) (xs ++ [x])) (hn : n = xs.length) :
    W.cell? ⟨g, n * 5, none⟩ = some (.int .i64 x.k) ∧ W.cell? ⟨g, n * 5 + 1, none⟩ = some (.int .i64 x.p) ∧ W.cell? ⟨g, n * 5 + 2, none⟩ = some (.int .u8 x.c) ∧ W.cell? ⟨g, n * 5 + 3, none⟩ = some (.int .i64 x.l) ∧ W.cell? ⟨g, n * 5 + 4, none⟩ = some (.int .i64 x.s) := by
  subst hn
  obtain ⟨b, off, e, hc⟩ := h.at_ xs.length (by simp)
  obtain ⟨rfl, rfl⟩ : g = b ∧ 0 = off := by simpa using e
  simp only [List.getElem_concat_length, opF, Nat.zero_add] at hc
  exact ⟨hc 0 _ rfl, hc 1 _ rfl, hc 2 _ rfl, hc 3 _ rfl, hc 4 _ rfl⟩
theorem pairwise_set {α : Type} {R : α → α → Prop} (hs : ∀ a b, R a b → R b a) {l : List α} (h : l.Pairwise R) {i : Nat} {x y : α} (hi : l[i]? = some x) (hy : ∀ z ∈ l, R x z → R y z) : (l.set i y).Pairwise R := by
  obtain ⟨hlt, hx⟩ := List.getElem?_eq_some_iff.1 hi
  rw [List.pairwise_iff_getElem] at h ⊢
  intro a b ha hb hab
  simp only [List.length_set] at ha hb
  rw [List.getElem_set, List.getElem_set]
  by_cases h1 : i = a
  · subst h1
    rw [if_pos rfl, if_neg (by omega)]
    exact hy _ (List.getElem_mem _) (hx ▸ h _ _ ha hb hab)
  · rw [if_neg h1]
    by_cases h2 : i = b
    · subst h2
      rw [if_pos rfl]
      exact hs _ _ (hy _ (List.getElem_mem _) (hs _ _ (hx ▸ h _ _ ha hb hab)))
    · rw [if_neg h2]
      exact h _ _ ha hb hab
theorem Hold.change (h : Hold w0 W es) (i : Nat) (hi : es[i]? = some ⟨A, n, c, xs⟩) {A' : Option Addr} {n' c' : Nat} {xs' : List POp} (hn : n' = xs'.length) (ho : OwnV opF 23 0 W' (.slice A' n' c') xs') (hg : W.grownBy W' (Value.slice A n c).ownBlock) (hA : ∀ g ∈ own A', g ∈ own A ∨ W.heap.size ≤ g) : Hold w0 W' (es.set i ⟨A', n', c', xs'⟩) := by
  have hm := List.mem_of_getElem? hi
  have hlow : ∀ g ∈ own A', w0.heap.size ≤ g := fun g hg => by
    rcases hA g hg with h1 | h1
    · exact (h.lt hm g h1).1
    · exact Nat.le_trans h.below.size h1
  have hsym : ∀ a b : Ent, (∀ g ∈ own a.A, g ∉ own b.A) → ∀ g ∈ own b.A, g ∉ own a.A := fun a b hab g h1 h2 => hab g h2 h1
  have hdis : ∀ (j : Nat) (e : Ent), es[j]? = some e → j ≠ i → ∀ g ∈ own A, g ∉ own e.A := fun j e hj hne => by
    obtain ⟨l1, e1⟩ := List.getElem?_eq_some_iff.1 hj
    obtain ⟨l2, e2⟩ := List.getElem?_eq_some_iff.1 hi
    have hp := List.pairwise_iff_getElem.1 h.dis
    rcases Nat.lt_or_gt_of_ne hne with hlt | hlt
    · have := hp j i l1 l2 hlt
      rw [e1, e2] at this
      exact hsym _ _ this
    · have := hp i j l2 l1 hlt
      rw [e1, e2] at this
      exact this
  refine ⟨h.rules, h.below.grown hg h.below.size (fun k e => (h.lt hm k (by rw [own_block e]; simp)).1), fun e he => ?_, fun e he => ?_, ?_⟩
  · rcases List.mem_or_eq_of_mem_set he with he | rfl
    · exact h.len e he
    · exact hn
  · obtain ⟨j, hj, rfl⟩ := List.getElem_of_mem he
    rw [List.getElem_set]
    split
    · refine ⟨ho.1, ?_⟩
      rcases ho.2 with h2 | ⟨g, cap, cur, hv, hbg, hh, r⟩
      · exact .inl h2
      · exact .inr ⟨g, cap, cur, hv, hlow g (by injection hv with hv1; rw [hv1]; simp [own]), hh, r⟩
    · rename_i hne
      have hj' : j < es.length := by simpa using hj
      refine (h.mine _ (List.getElem_mem hj')).grown hg ?_
      have hd := hdis j es[j] (List.getElem?_eq_getElem hj') (fun h => hne h.symm)
      cases hA1 : A with
      | none =>
        cases hA2 : es[j].A with
        | none => exact .inl rfl
        | some a2 => exact .inr (by intro hc; cases hc)
      | some a1 =>
        cases hA2 : es[j].A with
        | none => exact .inl rfl
        | some a2 =>
          refine .inr fun hc => ?_
          have hc2 : a2.block = a1.block := Option.some.inj hc
          rw [hA1, hA2] at hd
          exact hd a1.block (by simp [own]) (by simp [own, hc2])
  · refine pairwise_set hsym h.dis hi fun z hz hR g hg2 hg3 => ?_
    rcases hA g hg2 with h1 | h1
    · exact hR g h1 hg3
    · have := (h.lt hz g hg3).2
      omega
theorem Hold.front (h : Hold w0 W es) (i : Nat) {ys : List POp} {n' : Nat} (hi : es[i]? = some ⟨A, n, c, xs ++ ys⟩) (hn' : n' = xs.length) : Hold w0 W (es.set i ⟨A, n', c, xs⟩) := by
  subst hn'
  refine h.change i hi rfl ?_ (World.grownBy.refl _ _) (fun g hg => .inl hg)
  have ho := h.mine _ (List.mem_of_getElem? hi)
  have hn := h.ln i hi
  subst hn
  rcases ho.c with ⟨e, h0⟩ | ⟨g, cap, e, _, hc⟩
  · obtain ⟨rfl, rfl⟩ := List.append_eq_nil_iff.1 h0
    have e' : Value.slice A ([] : List POp).length c = .slice none 0 0 := e
    exact e' ▸ OwnV.nil _ _
  · injection e with e1 e2 e3
    have := hc.front.v (Nat.zero_le g)
    subst e1 e3
    exact this
theorem Blk.rdOp {w : World} {b : Nat} {t : TypeId} {x0 x1 x2 x3 x4 : Int} (h : Blk w b #[.int .i64 x0, .int .i64 x1, .int .u8 x2, .int .i64 x3, .int .i64 x4] t) : Rd opF w (some ⟨b, 0, none⟩) [⟨x0, x1, x2, x3, x4⟩] :=
  ⟨fun i hi => ⟨b, 0, rfl, fun j u hu => by
    obtain rfl : i = 0 := by simpa using hi
    rw [h.cell]
    simpa [opF] using hu⟩⟩
theorem copied_m (A : Option Addr) (c : Nat) (xs : List POp) (n : Nat) (w : World) (e : n = xs.length) (hl : Rd opF w A xs) (hb : n * 40 ≤ 281474976710656) :
    Calls Tryd.prog 31 #[.slice A n c] w fun e w' => ∃ g, w.heap.size ≤ g ∧ e = .returned (.slice (some ⟨g, 0, none⟩) n n) ∧ OwnC opF 23 w' g n xs ∧ Below w.heap.size w w' := by
  subst e
  exact copied_any A c xs w hl hb
theorem Hold.copied (h : Hold w0 W es) (hr : Rd opF W A xs) (hn : n = xs.length) (hb : n ≤ 5000) :
    Calls Tryd.prog 31 #[.slice A n c] W fun e W' => ∃ g, e = .returned (.slice (some ⟨g, 0, none⟩) n n) ∧ Hold w0 W' (es ++ [⟨some ⟨g, 0, none⟩, n, n, xs⟩]) := by
  subst hn
  refine (copied_any A c xs W hr (by omega)).mono ?_
  rintro e w' ⟨g, hg, rfl, ho, hb⟩
  exact ⟨g, rfl, h.add hb (ho.v hg) rfl⟩
theorem Hold.through (h : Hold w0 W es) (p0 p1 p2 p3 p4 : Int) (f : Bool) {y : POp} {m : List POp} (hy : Hid (pastL ⟨p0, p1, p2, p3, p4⟩ xs f = (y, m))) (hr : Rd opF W A xs) (hn : n = xs.length) (hb : n ≤ 4096) :
    Calls Tryd.prog 30 #[.agg #[.int .i64 p0, .int .i64 p1, .int .u8 p2, .int .i64 p3, .int .i64 p4], .slice A n c, .bool f] W fun e W' =>
      ∃ g cap, e = .returned (.tuple #[.agg #[.int .i64 y.k, .int .i64 y.p, .int .u8 y.c, .int .i64 y.l, .int .i64 y.s], .slice (some ⟨g, 0, none⟩) n cap, .int .i64 0]) ∧ Hold w0 W' (es ++ [⟨some ⟨g, 0, none⟩, n, cap, m⟩]) := by
  subst hn
  refine (through_any p0 p1 p2 p3 p4 A c xs f W h.rulesW hr hb).mono ?_
  rintro e w' ⟨g, cap, y', m', hy', rfl, ho, hg, hb⟩
  have h1 := hy.out
  rw [hy'.out] at h1
  obtain ⟨rfl, rfl⟩ := Prod.mk.inj h1
  have h2 := pastL_length f xs ⟨p0, p1, p2, p3, p4⟩
  rw [hy'.out] at h2
  have h3 : m'.length = xs.length := h2
  have ho2 := ho.v hg
  rw [h3] at ho2
  exact ⟨g, cap, by rw [h3], h.add hb ho2 h3.symm⟩
theorem Hold.weave (h : Hold w0 W es) {A1 A2 : Option Addr} {n1 n2 c1 c2 : Nat} {xs ys ls out : List POp} (hq : Hid (weaveL xs ys = (ls, out))) (h1 : Rd opF W A1 xs) (h2 : Rd opF W A2 ys) (e1 : n1 = xs.length) (e2 : n2 = ys.length) (b1 : n1 ≤ 4096) (b2 : n2 ≤ 4096) :
    Calls Tryd.prog 42 #[.slice A1 n1 c1, .slice A2 n2 c2] W fun e W' => ∃ (A A' : Option Addr) (c c' : Nat), e = .returned (.tuple #[.slice A n1 c, .slice A' n2 c', .int .i64 0]) ∧ Hold w0 W' (es ++ [⟨A, n1, c, ls⟩] ++ [⟨A', n2, c', out⟩]) := by
  subst e1 e2
  refine (weave_any A1 A2 c1 c2 xs ys W h.rulesW h1 h2 b1 b2).mono ?_
  rintro e w' ⟨A, c, g, cap, ls', out', hq', rfl, oL, oC, hne, hg, hb⟩
  have h3 := hq.out
  rw [hq'.out] at h3
  obtain ⟨rfl, rfl⟩ := Prod.mk.inj h3
  have h4 := weaveL_length ys xs
  rw [hq'.out] at h4
  obtain ⟨h5, h6⟩ : ls'.length = xs.length ∧ out'.length = ys.length := h4
  rw [h5] at oL hne
  have oC2 := oC.v hg
  rw [h6] at oC2
  refine ⟨A, some ⟨g, 0, none⟩, c, cap, by rw [h5, h6], ?_⟩
  have H1 := h.add hb oL h5.symm
  refine ⟨H1.rules, H1.below, fun e he => ?_, fun e he => ?_, List.pairwise_append.2 ⟨H1.dis, List.pairwise_singleton _ _, fun a ha b hb2 g' hg1 hg2 => ?_⟩⟩
  · rcases List.mem_append.1 he with he | he
    · exact H1.len e he
    · obtain rfl := List.mem_singleton.1 he
      exact h6.symm
  · rcases List.mem_append.1 he with he | he
    · exact H1.mine e he
    · obtain rfl := List.mem_singleton.1 he
      exact oC2.weak h.below.size
  · obtain rfl := List.mem_singleton.1 hb2
    obtain rfl : g' = g := by simpa [own] using hg2
    rcases List.mem_append.1 ha with ha | ha
    · have := (h.lt ha g' hg1).2
      omega
    · obtain rfl := List.mem_singleton.1 ha
      exact hne (own_mem hg1)
theorem Hold.fill (h : Hold w0 W es) (i : Nat) (hi : es[i]? = some ⟨A, n, c, xs⟩) (hb : n ≤ 5000) (m : Int) :
    Calls Tryd.prog 45 #[.slice A n c, .int .i64 m] W fun e W' => ∃ (A' : Option Addr) (c' : Nat), e = .returned (.slice A' (n + 1) c') ∧ Hold w0 W' (es.set i ⟨A', n + 1, c', fillL m n⟩) := by
  have ho := h.mine _ (List.mem_of_getElem? hi)
  have hn := h.ln i hi
  subst hn
  rcases ho.c with ⟨e, rfl⟩ | ⟨g, cap, e, hg, hc⟩
  · have e' : Value.slice A ([] : List POp).length c = .slice none 0 0 := e
    have eA : A = none := by injection e'
    have ec : c = 0 := by injection e'
    subst eA ec
    refine (fill_nil m W).mono ?_
    rintro e w' ⟨A', c', rfl, o, hg, k, hk, hk2⟩
    exact ⟨A', c', rfl, h.change i hi (by rw [fillL_length]) o hg (fun g hg => .inr (by rw [hk] at hg; obtain rfl := List.mem_singleton.1 hg; exact hk2))⟩
  · have eA : A = some ⟨g, 0, none⟩ := by injection e
    have ec : c = cap := by injection e
    subst eA ec
    refine (fill_c g c xs m W hc hb).mono ?_
    rintro e w' ⟨A', c', rfl, o, hg, hk⟩
    refine ⟨A', c', rfl, h.change i hi (by rw [fillL_length]) o hg (fun g' hg' => ?_)⟩
    rcases hk with hk | ⟨k, hk, hk2⟩
    · exact .inl (by rw [hk] at hg'; exact hg')
    · exact .inr (by rw [hk] at hg'; obtain rfl := List.mem_singleton.1 hg'; exact hk2)
theorem Below.next {a b c : World} (h : Below a.heap.size a b) (k : Below b.heap.size b c) : Below a.heap.size a c := h.trans (k.mono h.size)
theorem OwnV.c1 {w : World} {base : Nat} {v : Value} {x : POp} (hn : n = xs.length) (h : OwnV opF 23 base w v (xs ++ [x])) : ∃ g cap, v = .slice (some ⟨g, 0, none⟩) (n + 1) cap ∧ base ≤ g ∧ OwnC opF 23 w g cap (xs ++ [x]) := by
  subst hn
  rcases h.c with ⟨_, h0⟩ | ⟨g, cap, e, hg, hc⟩
  · simp at h0
  · exact ⟨g, cap, by rw [e]; simp, hg, hc⟩
theorem Hold.two (hr : RulesAt w0) (hb : Below w0.heap.size w0 W) {g1 g2 d1 d2 n1 n2 : Nat} {xs ys : List POp} (o1 : OwnC opF 23 W g1 d1 xs) (o2 : OwnC opF 23 W g2 d2 ys) (e1 : n1 = xs.length) (e2 : n2 = ys.length) (l1 : w0.heap.size ≤ g1) (l2 : g1 < g2) :
    Hold w0 W [⟨some ⟨g1, 0, none⟩, n1, d1, xs⟩, ⟨some ⟨g2, 0, none⟩, n2, d2, ys⟩] := by
  subst e1 e2
  refine ⟨hr, hb, ?_, ?_, ?_⟩
  · intro e he
    simp only [List.mem_cons, List.not_mem_nil, or_false] at he
    rcases he with rfl | rfl <;> rfl
  · intro e he
    simp only [List.mem_cons, List.not_mem_nil, or_false] at he
    rcases he with rfl | rfl
    · exact o1.v l1
    · exact o2.v (by omega)
  · refine .cons ?_ (List.pairwise_singleton _ _)
    intro b hb2 g hg hg2
    obtain rfl := List.mem_singleton.1 hb2
    simp only [own, List.mem_singleton] at hg hg2
    omega
/-- sameLine of two lists that are alike. -/
theorem same_h {A1 A2 : Option Addr} {n1 n2 c1 c2 : Nat} {xs : List POp} {W : World} (h1 : Rd opF W A1 xs) (h2 : Rd opF W A2 xs) (e1 : n1 = xs.length) (e2 : n2 = xs.length) (b1 : n1 ≤ 5000) :
    Calls Tryd.prog 33 #[.slice A1 n1 c1, .slice A2 n2 c2] W fun e w' => e = .returned (.bool true) ∧ Below W.heap.size W w' := by
  subst e2
  subst e1
  refine (sameLine_any A1 A2 c1 c2 xs xs W h1 h2 (by omega) (by omega)).mono ?_
  rintro e w' ⟨rfl, n, rfl⟩
  exact ⟨by simp, below_drewN (Below.refl _ _) _⟩
end
end Go.Proofs.YtkicbnkacjnhoaaDoor
