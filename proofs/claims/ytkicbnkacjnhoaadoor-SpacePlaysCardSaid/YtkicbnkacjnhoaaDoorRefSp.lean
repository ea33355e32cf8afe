/- The document's space in memory; the walks of jotterref10's New, Last, Keep, DropTo. -/
import Derived.Test.YtkicbnkacjnhoaaDoorKeep
import Derived.Test.YtkicbnkacjnhoaaDoorRefValid
import Derived.Test.YtkicbnkacjnhoaaDoorOtPlay
namespace Go.Proofs.YtkicbnkacjnhoaaDoor
open Go.RowKit
set_option linter.unusedVariables false
set_option linter.unusedSimpArgs false

def farF : Flat PFar := ⟨7, fun x => [.int .i64 x.a, .int .i64 x.b, .int .i64 x.o.k, .int .i64 x.o.p, .int .u8 x.o.c, .int .i64 x.o.l, .int .i64 x.o.s], fun _ => rfl⟩
theorem El.far : El Tryd.prog farF 149 56 ⟨0, 0, ⟨0, 0, 0, 0, 0⟩⟩ := ⟨by kernel_rfl, fun x u hu => by
  simp only [farF, List.mem_cons, List.not_mem_nil, or_false] at hu
  rcases hu with rfl | rfl | rfl | rfl | rfl | rfl | rfl <;> rfl⟩
theorem El.ownm : El Tryd.prog mkF 139 48 ⟨0, ⟨0, 0, 0, 0, 0⟩⟩ := ⟨by kernel_rfl, fun x u hu => by
  simp only [mkF, List.mem_cons, List.not_mem_nil, or_false] at hu
  rcases hu with rfl | rfl | rfl | rfl | rfl | rfl <;> rfl⟩
@[reducible] def SevenAt (w : World) (b off : Nat) (x : PFar) : Prop :=
  w.cell? ⟨b, off, none⟩ = some (.int .i64 x.a) ∧ w.cell? ⟨b, off + 1, none⟩ = some (.int .i64 x.b) ∧ w.cell? ⟨b, off + 2, none⟩ = some (.int .i64 x.o.k) ∧ w.cell? ⟨b, off + 3, none⟩ = some (.int .i64 x.o.p) ∧ w.cell? ⟨b, off + 4, none⟩ = some (.int .u8 x.o.c) ∧ w.cell? ⟨b, off + 5, none⟩ = some (.int .i64 x.o.l) ∧ w.cell? ⟨b, off + 6, none⟩ = some (.int .i64 x.o.s)
theorem Rd.seven {w : World} {A : Option Addr} {xs : List PFar} (h : Rd farF w A xs) (i : Nat) (hi : i < xs.length) : ∃ b off x, A = some ⟨b, off, none⟩ ∧ Hid (xs[i]? = some x) ∧ b < w.heap.size ∧ SevenAt w b (off + i * 7) x := by
  obtain ⟨b, off, e, hc⟩ := h.at_ i hi
  have h0 := hc 0 _ rfl
  exact ⟨b, off, xs[i], e, List.getElem?_eq_getElem hi, World.block_lt_of_cell? w _ h0, h0, hc 1 _ rfl, hc 2 _ rfl, hc 3 _ rfl, hc 4 _ rfl, hc 5 _ rfl, hc 6 _ rfl⟩
theorem Blk.four {w : World} {b : Nat} {t : TypeId} {v0 v1 v2 v3 : Value} (h : Blk w b #[v0, v1, v2, v3] t) : w.cell? ⟨b, 0, none⟩ = some v0 ∧ w.cell? ⟨b, 1, none⟩ = some v1 ∧ w.cell? ⟨b, 2, none⟩ = some v2 ∧ w.cell? ⟨b, 3, none⟩ = some v3 ∧ b < w.heap.size :=
  ⟨h.cell 0, h.cell 1, h.cell 2, h.cell 3, h.lt⟩
theorem Blk.rdFar {w : World} {b : Nat} {t : TypeId} {x : PFar} (h : Blk w b (farF.cells x).toArray t) : Rd farF w (some ⟨b, 0, none⟩) [x] :=
  ⟨fun i hi => ⟨b, 0, rfl, fun j u hu => by
    obtain rfl : i = 0 := by simp at hi; omega
    rw [h.cell]
    simpa using hu⟩⟩

/-- The document's space at block p. -/
structure RefAt (W : World) (p : Nat) (A : Option Addr) (c : Nat) (B : Option Addr) (e : Nat) (y : PRef) (f : Bool) : Prop where
  blk : Blk W p #[.bool f, .slice A y.own.length c, .slice B y.far.length e, .int .i64 y.d] 135
  ow : OwnV mkF 139 0 W (.slice A y.own.length c) y.own
  fa : OwnV farF 149 0 W (.slice B y.far.length e) y.far
  ne : p ∉ own A
  nf : p ∉ own B
  na : ∀ b ∈ own A, b ∉ own B
@[reducible] def refB (p : Nat) (A B : Option Addr) : List Nat := p :: (own A ++ own B)
section
variable {W W' : World} {p : Nat} {A : Option Addr} {c : Nat} {B : Option Addr} {e : Nat} {y : PRef} {f : Bool}
theorem RefAt.lt (h : RefAt W p A c B e y f) : ∀ b ∈ refB p A B, b < W.heap.size := fun b hb => by
  rcases List.mem_cons.1 hb with rfl | hb
  · exact h.blk.lt
  · rcases List.mem_append.1 hb with hb | hb
    · exact (h.ow.lt b (own_mem hb)).2
    · exact (h.fa.lt b (own_mem hb)).2
theorem RefAt.but {bs : List Nat} (h : RefAt W p A c B e y f) (hb : But bs W W') (hn : ∀ b ∈ refB p A B, b ∉ bs) : RefAt W' p A c B e y f :=
  ⟨h.blk.but hb (hn p (by simp)), h.ow.but hb fun g hg => hn g (by unfold refB; rw [own_block hg]; simp), h.fa.but hb fun g hg => hn g (by unfold refB; rw [own_block hg]; simp), h.ne, h.nf, h.na⟩
theorem RefAt.on (h : RefAt W p A c B e y f) (hb : Below W.heap.size W W') : RefAt W' p A c B e y f := h.but (bs := []) (But.ofBelow hb) (by simp)
theorem RefAt.rdO (h : RefAt W p A c B e y f) : Rd mkF W A y.own := h.ow.rd2
theorem RefAt.rdF (h : RefAt W p A c B e y f) : Rd farF W B y.far := h.fa.rd2
end
theorem rnew_any (f : Bool) (w : World) : Calls Tryd.prog 58 #[.bool f] w fun e w' => e = .returned (.pointer (some ⟨w.heap.size, 0, none⟩)) ∧ RefAt w' w.heap.size none 0 none 0 ⟨[], [], 0⟩ f ∧ Below w.heap.size w w' := by
  go_enter Tryd.func58, Tryd.ntmps58
  go_wp2
  go_ret
  exact ⟨rfl, ⟨Blk.new _ _ _, OwnV.nil _ _, OwnV.nil _ _, by simp [own], by simp [own], by simp [own]⟩, below_alloc (Below.refl _ _) _⟩

theorem lastM_at (q : List PMk) (x : PMk) (h : q[q.length - 1]? = some x) : lastM q = x.m := by
  rcases List.eq_nil_or_concat q with rfl | ⟨r, z, rfl⟩
  · simp at h
  · rw [List.concat_eq_append, lastM_snoc]
    simp at h
    rw [h]
section
variable {p : Nat} {A : Option Addr} {c : Nat} {B : Option Addr} {e : Nat} {y : PRef} {f : Bool}
set_option maxHeartbeats 1000000 in
theorem rlast_any (w : World) (h : RefAt w p A c B e y f) (hl : y.own.length ≤ 100000) : Calls Tryd.prog 60 #[.pointer (some ⟨p, 0, none⟩)] w fun ex w' => ex = .returned (.int .i64 (lastM y.own)) ∧ Below w.heap.size w w' := by
  obtain ⟨e0, e1, e2, e3, lt⟩ := h.blk.four
  by_cases h0 : y.own.length = 0
  · rw [show lastM y.own = 0 by rw [List.length_eq_zero_iff.1 h0]; rfl]
    rw [h0] at e1
    go_enter Tryd.func60, Tryd.ntmps60
    go_wp2
    go_ret
    exact ⟨rfl, Below.refl _ _⟩
  · obtain ⟨b, off, x, rfl, hx, hbl, s0, s1, s2, s3, s4, s5⟩ := h.rdO.six (y.own.length - 1) (by omega)
    rw [lastM_at _ x hx.out]
    have hc : ((y.own.length : Int) - 1) = ((y.own.length - 1 : Nat) : Int) := by omega
    have hlt : y.own.length - 1 < y.own.length := by omega
    clear hx
    generalize hn : y.own.length = n at *
    generalize hm : n - 1 = m at *
    go_enter Tryd.func60, Tryd.ntmps60
    go_wp2
    go_quiet (fail)
    go_wp2
    go_ret
    exact ⟨rfl, ⟨rfl, rfl, rfl, Nat.le_refl _, fun _ _ => rfl⟩⟩
set_option maxHeartbeats 1000000 in
theorem rkeep_bad (mark : Int) (o : POp) (w : World) (hc : 0 ≤ o.c ∧ o.c ≤ 255) (hv : validL o ≠ 0) :
    Calls Tryd.prog 77 #[.pointer (some ⟨p, 0, none⟩), .int .i64 mark, .agg #[.int .i64 o.k, .int .i64 o.p, .int .u8 o.c, .int .i64 o.l, .int .i64 o.s]] w fun ex w' => ex = .returned (.int .i64 (validL o)) ∧ Below w.heap.size w w' := by
  have hq : (validL o != 0) = true := by simpa using hv
  clear hv
  go_enter Tryd.func77, Tryd.ntmps77
  go_wp2_with fail
  with_reducible refine (rvalid_any _ _ hc).mono ?_
  rintro ex w1 ⟨rfl, hb⟩
  go_wp2
  go_ret
  exact ⟨rfl, (below_alloc (Below.refl _ _) _).trans (hb.mono (by simp))⟩
set_option maxHeartbeats 1000000 in
theorem rkeep_mark (mark : Int) (o : POp) (w : World) (h : RefAt w p A c B e y f) (hl : y.own.length ≤ 100000) (hc : 0 ≤ o.c ∧ o.c ≤ 255) (hv : validL o = 0) (hm : mark ≤ lastM y.own ∨ 4096 < mark) :
    Calls Tryd.prog 77 #[.pointer (some ⟨p, 0, none⟩), .int .i64 mark, .agg #[.int .i64 o.k, .int .i64 o.p, .int .u8 o.c, .int .i64 o.l, .int .i64 o.s]] w fun ex w' => ex = .returned (.int .i64 100) ∧ Below w.heap.size w w' := by
  have HV := Lib.hid hv
  clear hv
  by_cases h1 : mark ≤ lastM y.own
  all_goals
    (try have h2 : 4096 < mark := by omega)
    clear hm
    go_enter Tryd.func77, Tryd.ntmps77
    go_wp2_with fail
    with_reducible refine (rvalid_any _ _ hc).mono ?_
    rintro ex w1 ⟨rfl, hb⟩
    rw [HV.out]
    have B1 : Below w.heap.size w w1 := (below_alloc (Below.refl _ _) _).trans (hb.mono (by simp))
    go_wp2_with fail
    with_reducible refine (rlast_any _ (h.on B1) hl).mono ?_
    rintro ex w2 ⟨rfl, hb2⟩
    go_wp2
    go_ret
    exact ⟨rfl, B1.trans (hb2.mono B1.size)⟩
set_option maxHeartbeats 2000000 in
theorem rkeep_ok (mark : Int) (o : POp) (w : World) (h : RefAt w p A c B e y f) (hc : 0 ≤ o.c ∧ o.c ≤ 255) (hv : validL o = 0) (hm : lastM y.own < mark) (hm2 : mark ≤ 4096) (hl : y.own.length ≤ 100000) :
    Calls Tryd.prog 77 #[.pointer (some ⟨p, 0, none⟩), .int .i64 mark, .agg #[.int .i64 o.k, .int .i64 o.p, .int .u8 o.c, .int .i64 o.l, .int .i64 o.s]] w fun ex w' =>
      ex = .returned (.int .i64 0) ∧ ∃ A' c', RefAt w' p A' c' B e ⟨y.own ++ [⟨mark, o⟩], y.far, y.d⟩ f ∧ But (refB p A B) w w' ∧ ∀ b ∈ own A', b ∈ own A ∨ w.heap.size ≤ b := by
  have HV := Lib.hid hv
  clear hv
  have hd1 : decide (mark ≤ lastM y.own) = false := by simp; omega
  have hd2 : decide (4096 < mark) = false := by simp; omega
  go_enter Tryd.func77, Tryd.ntmps77
  go_wp2_with fail
  with_reducible refine (rvalid_any _ _ hc).mono ?_
  rintro ex w1 ⟨rfl, hb⟩
  rw [HV.out]
  have B1 : Below w.heap.size w w1 := (below_alloc (Below.refl _ _) _).trans (hb.mono (by simp))
  have kx := (Blk.new w #[.int .i64 o.k, .int .i64 o.p, .int .u8 o.c, .int .i64 o.l, .int .i64 o.s] 23).on hb
  go_wp2_with fail
  with_reducible refine (rlast_any _ (h.on B1) hl).mono ?_
  rintro ex w2 ⟨rfl, hb2⟩
  have B2 : Below w.heap.size w w2 := B1.trans (hb2.mono B1.size)
  have hS := h.on B2
  have kx2 := kx.on hb2
  clear kx
  obtain ⟨e0, e1, e2, e3, lt⟩ := hS.blk.four
  obtain ⟨x0, x1, x2, x3, x4⟩ := kx2.cells5
  have zp := hS.blk.frozen
  have hpx : p < w.heap.size := h.blk.lt
  go_wp2_with fail
  have kp := hS.blk
  have hne : ∀ (n c : Nat), some p ≠ (Value.slice A n c).ownBlock := fun n c e => h.ne (by rw [own_block e.symm]; simp)
  go_region_law (first
    | (refine step_appV El.ownm (by decide) (by decide) _ rfl _ _ 132 rfl Tryd.underlying132 0 (.slice A y.own.length c) y.own [⟨mark, o⟩] ⟨w2.heap.size, 0, none⟩ 1 1 rfl rfl rfl (OwnV.drew (hS.ow.alloc _)) (Rd.drew (Blk.rdMk (Blk.new w2 _ _))) (by simp; omega) (Nat.zero_le _) ?_; intro v' w3 hO3 hg3 hv3; obtain ⟨A', c', hv', hR⟩ := hO3.rd; subst hv'; (have kp2 := ((kp.alloc (.cells (mkF.cells ⟨mark, o⟩).toArray 139)).drew).grown hg3 (hne _ _)); obtain ⟨y0, y1, y2, y3, lty⟩ := kp2.four; have zp2 := kp2.frozen)
    | fail)
  all_goals
    have hlen : (y.own ++ [(⟨mark, o⟩ : PMk)]).length = y.own.length + 1 := by simp
    rw [hlen] at hO3 hv3
    have W1 := ((below_alloc (Below.refl w2.heap.size w2) (.cells (mkF.cells ⟨mark, o⟩).toArray 139)).drew)
    have hown : ∀ b ∈ own A', b ∈ own A ∨ w.heap.size ≤ b := fun b hb => by
      have h1 := own_mem (n := y.own.length + 1) (c := c') hb
      rcases hv3 with h2 | h2
      · exact .inl (by rw [h1] at h2; rw [own_block h2.symm]; simp)
      · refine .inr ?_
        rw [h1] at h2
        have h3 := Option.some.inj h2
        have h4 := B2.size
        have h5 := W1.size
        rw [h3]
        exact Nat.le_trans h4 h5
    have b2 : But (refB p A B) w w3 := ((But.ofBelow (B2.trans (W1.mono B2.size))).trans (But.ofGrown (bs := own A) hg3 (fun k e => .inl (by rw [own_block e]; simp))) (fun b hb => .inl (by simp [refB, hb])))
    have hpn : p ∉ own A' := fun hm => by
      rcases hown p hm with h1 | h1
      · exact h.ne h1
      · omega
    have hnB : ∀ b ∈ own A', b ∉ own B := fun b hb hB => by
      rcases hown b hb with h1 | h1
      · exact h.na b h1 hB
      · have := (h.fa.lt b (own_mem hB)).2; omega
    have hfa3 : OwnV farF 149 0 w3 (.slice B y.far.length e) y.far := ((OwnV.drew (hS.fa.alloc (.cells (mkF.cells ⟨mark, o⟩).toArray 139)))).but (But.ofGrown (bs := own A) hg3 (fun k e => .inl (by rw [own_block e]; simp))) (fun g hg hA => h.na g hA (by rw [own_block hg]; simp))
    go_wp2
    go_ret
    refine ⟨rfl, A', c', ⟨?_, ?_, ?_, hpn, h.nf, hnB⟩, ?_, hown⟩
    · rw [hlen]
      simpa using kp2.set 1 (.slice A' (y.own.length + 1) c')
    · rw [hlen]
      exact hO3.but (But.setCell _ p 1 _ (bs := [p]) (by simp)) (fun g hg => by rw [own_block hg] at hpn; simp at hpn; simp; omega)
    · exact hfa3.but (But.setCell _ p 1 _ (bs := [p]) (by simp)) (fun g hg => by have := h.nf; rw [own_block hg] at this; simp at this; simp; omega)
    · exact b2.trans (But.setCell _ p 1 _ (bs := [p]) (by simp)) (by simp [refB])
end
end Go.Proofs.YtkicbnkacjnhoaaDoor
