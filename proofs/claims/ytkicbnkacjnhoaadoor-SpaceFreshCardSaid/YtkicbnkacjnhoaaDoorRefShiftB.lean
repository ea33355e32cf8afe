/- The walk of jotterref05.Shift: it answers 'shift'. -/
import Derived.Test.YtkicbnkacjnhoaaDoorRefShift
namespace Go.Proofs.YtkicbnkacjnhoaaDoor
open Go.RowKit
set_option linter.unusedVariables false
set_option linter.unusedSimpArgs false

set_option maxHeartbeats 1000000 in
theorem rshift_na (a0 a1 a2 a3 a4 b0 b1 b2 b3 b4 : Int) (f : Bool) (w : World) (hk : actsB a0 = false) :
    Calls Tryd.prog 22 #[.agg #[.int .i64 a0, .int .i64 a1, .int .u8 a2, .int .i64 a3, .int .i64 a4], .agg #[.int .i64 b0, .int .i64 b1, .int .u8 b2, .int .i64 b3, .int .i64 b4], .bool f] w fun e w' => e = .returned (opv (shift ⟨a0, a1, a2, a3, a4⟩ ⟨b0, b1, b2, b3, b4⟩ f)) ∧ Below w.heap.size w w' := by
  go_enter Tryd.func22, Tryd.ntmps22
  go_wp2_with fail
  with_reducible refine (acts_any _ _ _ _ _ _).mono ?_
  rintro e w1 ⟨rfl, hb1⟩
  have kA1 : Blk w1 w.heap.size #[.int .i64 a0, .int .i64 a1, .int .u8 a2, .int .i64 a3, .int .i64 a4] 23 := (((Blk.new w _ _).alloc _).alloc _).on hb1
  have kB1 : Blk w1 (w.heap.size + 1) #[.int .i64 b0, .int .i64 b1, .int .u8 b2, .int .i64 b3, .int .i64 b4] 23 := ((Blk.new1 w _ _ _).alloc _).on hb1
  have kR1 : Blk w1 (w.heap.size + 1 + 1) #[.int .i64 0, .int .i64 0, .int .u8 0, .int .i64 0, .int .i64 0] 23 := (Blk.new2 w _ _ _ _).on hb1
  have B1 : Below w.heap.size w w1 := (below_alloc (below_alloc (below_alloc (Below.refl _ _) _) _) _).trans (hb1.mono (by simp; omega))
  have l1 := kR1.lt
  obtain ⟨e10, e11, e12, e13, e14⟩ := kA1.cells5
  obtain ⟨f10, f11, f12, f13, f14⟩ := kB1.cells5
  have z1 := kA1.frozen
  clear hb1
  rw [show actsB a0 = false from hk]
  go_wp2_with (refine at_st 6 rfl ?_; go_must (refine ev_storeF El.op _ rfl _ _ rfl (w.heap.size + 1 + 1) ⟨a0, a1, a2, a3, a4⟩ _ 23 rfl rfl kR1 rfl ?_); intro w9 k9 hg9; have B9 : Below w.heap.size w w9 := B1.grown hg9 B1.size (fun k e => by injection e; omega))
  obtain ⟨h0, h1, h2, h3, h4⟩ := Blk.cells5 (v0 := .int .i64 (POp.k ⟨a0, a1, a2, a3, a4⟩)) (v1 := .int .i64 (POp.p ⟨a0, a1, a2, a3, a4⟩)) (v2 := .int .u8 (POp.c ⟨a0, a1, a2, a3, a4⟩)) (v3 := .int .i64 (POp.l ⟨a0, a1, a2, a3, a4⟩)) (v4 := .int .i64 (POp.s ⟨a0, a1, a2, a3, a4⟩)) k9
  refine bodyPost_ret (v := opv ⟨a0, a1, a2, a3, a4⟩) (by simp [results, Tryd.results22, go_sem, opv, h0, h1, h2, h3, h4]) rfl ⟨?_, B9⟩
  exact ret_val (congrArg opv (by have := hk; simp [actsB] at this; simp [shift, this]))

set_option maxHeartbeats 1000000 in
theorem rshift_nb (a0 a1 a2 a3 a4 b0 b1 b2 b3 b4 : Int) (f : Bool) (w : World) (ha : actsB a0 = true) (hk : actsB b0 = false) :
    Calls Tryd.prog 22 #[.agg #[.int .i64 a0, .int .i64 a1, .int .u8 a2, .int .i64 a3, .int .i64 a4], .agg #[.int .i64 b0, .int .i64 b1, .int .u8 b2, .int .i64 b3, .int .i64 b4], .bool f] w fun e w' => e = .returned (opv (shift ⟨a0, a1, a2, a3, a4⟩ ⟨b0, b1, b2, b3, b4⟩ f)) ∧ Below w.heap.size w w' := by
  go_enter Tryd.func22, Tryd.ntmps22
  go_wp2_with fail
  with_reducible refine (acts_any _ _ _ _ _ _).mono ?_
  rintro e w1 ⟨rfl, hb1⟩
  have kA1 : Blk w1 w.heap.size #[.int .i64 a0, .int .i64 a1, .int .u8 a2, .int .i64 a3, .int .i64 a4] 23 := (((Blk.new w _ _).alloc _).alloc _).on hb1
  have kB1 : Blk w1 (w.heap.size + 1) #[.int .i64 b0, .int .i64 b1, .int .u8 b2, .int .i64 b3, .int .i64 b4] 23 := ((Blk.new1 w _ _ _).alloc _).on hb1
  have kR1 : Blk w1 (w.heap.size + 1 + 1) #[.int .i64 0, .int .i64 0, .int .u8 0, .int .i64 0, .int .i64 0] 23 := (Blk.new2 w _ _ _ _).on hb1
  have B1 : Below w.heap.size w w1 := (below_alloc (below_alloc (below_alloc (Below.refl _ _) _) _) _).trans (hb1.mono (by simp; omega))
  have l1 := kR1.lt
  obtain ⟨e10, e11, e12, e13, e14⟩ := kA1.cells5
  obtain ⟨f10, f11, f12, f13, f14⟩ := kB1.cells5
  have z1 := kA1.frozen
  clear hb1
  rw [show actsB a0 = true from ha]
  go_wp2_with fail
  with_reducible refine (acts_any _ _ _ _ _ _).mono ?_
  rintro e w2 ⟨rfl, hb2⟩
  have kA2 := kA1.on hb2
  have kB2 := kB1.on hb2
  have kR2 := kR1.on hb2
  have B2 : Below w.heap.size w w2 := B1.trans (hb2.mono B1.size)
  have l2 := kR2.lt
  obtain ⟨e20, e21, e22, e23, e24⟩ := kA2.cells5
  obtain ⟨f20, f21, f22, f23, f24⟩ := kB2.cells5
  have z2 := kA2.frozen
  clear hb2
  rw [show actsB b0 = false from hk]
  go_wp2_with (refine at_st 6 rfl ?_; go_must (refine ev_storeF El.op _ rfl _ _ rfl (w.heap.size + 1 + 1) ⟨a0, a1, a2, a3, a4⟩ _ 23 rfl rfl kR2 rfl ?_); intro w9 k9 hg9; have B9 : Below w.heap.size w w9 := B2.grown hg9 B2.size (fun k e => by injection e; omega))
  obtain ⟨h0, h1, h2, h3, h4⟩ := Blk.cells5 (v0 := .int .i64 (POp.k ⟨a0, a1, a2, a3, a4⟩)) (v1 := .int .i64 (POp.p ⟨a0, a1, a2, a3, a4⟩)) (v2 := .int .u8 (POp.c ⟨a0, a1, a2, a3, a4⟩)) (v3 := .int .i64 (POp.l ⟨a0, a1, a2, a3, a4⟩)) (v4 := .int .i64 (POp.s ⟨a0, a1, a2, a3, a4⟩)) k9
  refine bodyPost_ret (v := opv ⟨a0, a1, a2, a3, a4⟩) (by simp [results, Tryd.results22, go_sem, opv, h0, h1, h2, h3, h4]) rfl ⟨?_, B9⟩
  exact ret_val (congrArg opv (by have := hk; simp [actsB] at this; simp [shift, this]))

set_option maxHeartbeats 1000000 in
theorem rshift_dd (a1 a2 a3 a4 b2 b3 b4 : Int) (f : Bool) (w : World) :
    Calls Tryd.prog 22 #[.agg #[.int .i64 2, .int .i64 a1, .int .u8 a2, .int .i64 a3, .int .i64 a4], .agg #[.int .i64 2, .int .i64 a1, .int .u8 b2, .int .i64 b3, .int .i64 b4], .bool f] w fun e w' => e = .returned (opv (shift ⟨2, a1, a2, a3, a4⟩ ⟨2, a1, b2, b3, b4⟩ f)) ∧ Below w.heap.size w w' := by
  go_enter Tryd.func22, Tryd.ntmps22
  go_wp2_with fail
  with_reducible refine (acts_any _ _ _ _ _ _).mono ?_
  rintro e w1 ⟨rfl, hb1⟩
  have kA1 : Blk w1 w.heap.size #[.int .i64 2, .int .i64 a1, .int .u8 a2, .int .i64 a3, .int .i64 a4] 23 := (((Blk.new w _ _).alloc _).alloc _).on hb1
  have kB1 : Blk w1 (w.heap.size + 1) #[.int .i64 2, .int .i64 a1, .int .u8 b2, .int .i64 b3, .int .i64 b4] 23 := ((Blk.new1 w _ _ _).alloc _).on hb1
  have kR1 : Blk w1 (w.heap.size + 1 + 1) #[.int .i64 0, .int .i64 0, .int .u8 0, .int .i64 0, .int .i64 0] 23 := (Blk.new2 w _ _ _ _).on hb1
  have B1 : Below w.heap.size w w1 := (below_alloc (below_alloc (below_alloc (Below.refl _ _) _) _) _).trans (hb1.mono (by simp; omega))
  have l1 := kR1.lt
  obtain ⟨e10, e11, e12, e13, e14⟩ := kA1.cells5
  obtain ⟨f10, f11, f12, f13, f14⟩ := kB1.cells5
  have z1 := kA1.frozen
  clear hb1
  rw [show actsB 2 = true from rfl]
  go_wp2_with fail
  with_reducible refine (acts_any _ _ _ _ _ _).mono ?_
  rintro e w2 ⟨rfl, hb2⟩
  have kA2 := kA1.on hb2
  have kB2 := kB1.on hb2
  have kR2 := kR1.on hb2
  have B2 : Below w.heap.size w w2 := B1.trans (hb2.mono B1.size)
  have l2 := kR2.lt
  obtain ⟨e20, e21, e22, e23, e24⟩ := kA2.cells5
  obtain ⟨f20, f21, f22, f23, f24⟩ := kB2.cells5
  have z2 := kA2.frozen
  clear hb2
  rw [show actsB 2 = true from rfl]
  go_wp2_with (refine at_st 6 rfl ?_; go_must (refine ev_storeF El.op _ rfl _ _ rfl (w.heap.size + 1 + 1) ⟨0, 0, 0, a3, a4⟩ _ 23 rfl rfl kR2 rfl ?_); intro w9 k9 hg9; have B9 : Below w.heap.size w w9 := B2.grown hg9 B2.size (fun k e => by injection e; omega))
  obtain ⟨h0, h1, h2, h3, h4⟩ := Blk.cells5 (v0 := .int .i64 (POp.k ⟨0, 0, 0, a3, a4⟩)) (v1 := .int .i64 (POp.p ⟨0, 0, 0, a3, a4⟩)) (v2 := .int .u8 (POp.c ⟨0, 0, 0, a3, a4⟩)) (v3 := .int .i64 (POp.l ⟨0, 0, 0, a3, a4⟩)) (v4 := .int .i64 (POp.s ⟨0, 0, 0, a3, a4⟩)) k9
  refine bodyPost_ret (v := opv ⟨0, 0, 0, a3, a4⟩) (by simp [results, Tryd.results22, go_sem, opv, h0, h1, h2, h3, h4]) rfl ⟨?_, B9⟩
  exact ret_val (congrArg opv (by simp [shift]))

set_option maxHeartbeats 1000000 in
theorem rshift_11y (a1 a2 a3 a4 b1 b2 b3 b4 : Int) (f : Bool) (w : World) (hc : b1 < a1 ∨ (b1 = a1 ∧ f = false)) :
    Calls Tryd.prog 22 #[.agg #[.int .i64 1, .int .i64 a1, .int .u8 a2, .int .i64 a3, .int .i64 a4], .agg #[.int .i64 1, .int .i64 b1, .int .u8 b2, .int .i64 b3, .int .i64 b4], .bool f] w fun e w' => e = .returned (opv (shift ⟨1, a1, a2, a3, a4⟩ ⟨1, b1, b2, b3, b4⟩ f)) ∧ Below w.heap.size w w' := by
  have hah : aheadB ⟨1, b1, b2, b3, b4⟩ ⟨1, a1, a2, a3, a4⟩ f = true := by
    simp only [aheadB]
    rcases hc with h | ⟨h, hf⟩
    · rw [if_pos (show b1 ≠ a1 by omega)]; simpa using h
    · rw [if_neg (by simp [h]), if_pos (by simp)]; simp [hf]
  go_enter Tryd.func22, Tryd.ntmps22
  go_wp2_with fail
  with_reducible refine (acts_any _ _ _ _ _ _).mono ?_
  rintro e w1 ⟨rfl, hb1⟩
  have kA1 : Blk w1 w.heap.size #[.int .i64 1, .int .i64 a1, .int .u8 a2, .int .i64 a3, .int .i64 a4] 23 := (((Blk.new w _ _).alloc _).alloc _).on hb1
  have kB1 : Blk w1 (w.heap.size + 1) #[.int .i64 1, .int .i64 b1, .int .u8 b2, .int .i64 b3, .int .i64 b4] 23 := ((Blk.new1 w _ _ _).alloc _).on hb1
  have kR1 : Blk w1 (w.heap.size + 1 + 1) #[.int .i64 0, .int .i64 0, .int .u8 0, .int .i64 0, .int .i64 0] 23 := (Blk.new2 w _ _ _ _).on hb1
  have B1 : Below w.heap.size w w1 := (below_alloc (below_alloc (below_alloc (Below.refl _ _) _) _) _).trans (hb1.mono (by simp; omega))
  have l1 := kR1.lt
  obtain ⟨e10, e11, e12, e13, e14⟩ := kA1.cells5
  obtain ⟨f10, f11, f12, f13, f14⟩ := kB1.cells5
  have z1 := kA1.frozen
  clear hb1
  rw [show actsB 1 = true from rfl]
  go_wp2_with fail
  with_reducible refine (acts_any _ _ _ _ _ _).mono ?_
  rintro e w2 ⟨rfl, hb2⟩
  have kA2 := kA1.on hb2
  have kB2 := kB1.on hb2
  have kR2 := kR1.on hb2
  have B2 : Below w.heap.size w w2 := B1.trans (hb2.mono B1.size)
  have l2 := kR2.lt
  obtain ⟨e20, e21, e22, e23, e24⟩ := kA2.cells5
  obtain ⟨f20, f21, f22, f23, f24⟩ := kB2.cells5
  have z2 := kA2.frozen
  clear hb2
  rw [show actsB 1 = true from rfl]
  go_wp2_with fail
  with_reducible refine (ahead_any _ _ _ _ _ _ _ _ _ _ _ _).mono ?_
  rintro e w3 ⟨rfl, hb3⟩
  have kA3 := kA2.on hb3
  have kB3 := kB2.on hb3
  have kR3 := kR2.on hb3
  have B3 : Below w.heap.size w w3 := B2.trans (hb3.mono B2.size)
  have l3 := kR3.lt
  obtain ⟨e30, e31, e32, e33, e34⟩ := kA3.cells5
  obtain ⟨f30, f31, f32, f33, f34⟩ := kB3.cells5
  have z3 := kA3.frozen
  clear hb3
  rw [show aheadB ⟨1, b1, b2, b3, b4⟩ ⟨1, a1, a2, a3, a4⟩ f = true from hah]
  go_wp2_with (refine at_st 6 rfl ?_; go_must (refine ev_storeF El.op _ rfl _ _ rfl (w.heap.size + 1 + 1) ⟨1, wrap64 (a1 + 1), a2, a3, a4⟩ _ 23 rfl rfl (kR3.setOther (a := ⟨w.heap.size, 1, none⟩) (by simp; omega) _) rfl ?_); intro w9 k9 hg9; have B9 : Below w.heap.size w w9 := (B3.setCell (p := ⟨w.heap.size, 1, none⟩) (Nat.le_refl _) _).grown hg9 (by have := B3.size; simp; omega) (fun k e => by injection e; omega))
  obtain ⟨h0, h1, h2, h3, h4⟩ := Blk.cells5 (v0 := .int .i64 (POp.k ⟨1, wrap64 (a1 + 1), a2, a3, a4⟩)) (v1 := .int .i64 (POp.p ⟨1, wrap64 (a1 + 1), a2, a3, a4⟩)) (v2 := .int .u8 (POp.c ⟨1, wrap64 (a1 + 1), a2, a3, a4⟩)) (v3 := .int .i64 (POp.l ⟨1, wrap64 (a1 + 1), a2, a3, a4⟩)) (v4 := .int .i64 (POp.s ⟨1, wrap64 (a1 + 1), a2, a3, a4⟩)) k9
  refine bodyPost_ret (v := opv ⟨1, wrap64 (a1 + 1), a2, a3, a4⟩) (by simp [results, Tryd.results22, go_sem, opv, h0, h1, h2, h3, h4]) rfl ⟨?_, B9⟩
  exact ret_val (congrArg opv (by have e : pastII a1 b1 f = wrap64 (a1 + 1) := if_pos hc; simp [shift, e]))

set_option maxHeartbeats 1000000 in
theorem rshift_11n (a1 a2 a3 a4 b1 b2 b3 b4 : Int) (f : Bool) (w : World) (hc : ¬ (b1 < a1 ∨ (b1 = a1 ∧ f = false))) :
    Calls Tryd.prog 22 #[.agg #[.int .i64 1, .int .i64 a1, .int .u8 a2, .int .i64 a3, .int .i64 a4], .agg #[.int .i64 1, .int .i64 b1, .int .u8 b2, .int .i64 b3, .int .i64 b4], .bool f] w fun e w' => e = .returned (opv (shift ⟨1, a1, a2, a3, a4⟩ ⟨1, b1, b2, b3, b4⟩ f)) ∧ Below w.heap.size w w' := by
  have hah : aheadB ⟨1, b1, b2, b3, b4⟩ ⟨1, a1, a2, a3, a4⟩ f = false := by
    simp only [aheadB]
    by_cases h : b1 = a1
    · rw [if_neg (by simp [h]), if_pos (by simp)]; cases f
      · exact absurd (Or.inr ⟨h, rfl⟩) hc
      · rfl
    · rw [if_pos (by simpa using h)]; simp only [decide_eq_false_iff_not]; exact fun h2 => hc (Or.inl h2)
  go_enter Tryd.func22, Tryd.ntmps22
  go_wp2_with fail
  with_reducible refine (acts_any _ _ _ _ _ _).mono ?_
  rintro e w1 ⟨rfl, hb1⟩
  have kA1 : Blk w1 w.heap.size #[.int .i64 1, .int .i64 a1, .int .u8 a2, .int .i64 a3, .int .i64 a4] 23 := (((Blk.new w _ _).alloc _).alloc _).on hb1
  have kB1 : Blk w1 (w.heap.size + 1) #[.int .i64 1, .int .i64 b1, .int .u8 b2, .int .i64 b3, .int .i64 b4] 23 := ((Blk.new1 w _ _ _).alloc _).on hb1
  have kR1 : Blk w1 (w.heap.size + 1 + 1) #[.int .i64 0, .int .i64 0, .int .u8 0, .int .i64 0, .int .i64 0] 23 := (Blk.new2 w _ _ _ _).on hb1
  have B1 : Below w.heap.size w w1 := (below_alloc (below_alloc (below_alloc (Below.refl _ _) _) _) _).trans (hb1.mono (by simp; omega))
  have l1 := kR1.lt
  obtain ⟨e10, e11, e12, e13, e14⟩ := kA1.cells5
  obtain ⟨f10, f11, f12, f13, f14⟩ := kB1.cells5
  have z1 := kA1.frozen
  clear hb1
  rw [show actsB 1 = true from rfl]
  go_wp2_with fail
  with_reducible refine (acts_any _ _ _ _ _ _).mono ?_
  rintro e w2 ⟨rfl, hb2⟩
  have kA2 := kA1.on hb2
  have kB2 := kB1.on hb2
  have kR2 := kR1.on hb2
  have B2 : Below w.heap.size w w2 := B1.trans (hb2.mono B1.size)
  have l2 := kR2.lt
  obtain ⟨e20, e21, e22, e23, e24⟩ := kA2.cells5
  obtain ⟨f20, f21, f22, f23, f24⟩ := kB2.cells5
  have z2 := kA2.frozen
  clear hb2
  rw [show actsB 1 = true from rfl]
  go_wp2_with fail
  with_reducible refine (ahead_any _ _ _ _ _ _ _ _ _ _ _ _).mono ?_
  rintro e w3 ⟨rfl, hb3⟩
  have kA3 := kA2.on hb3
  have kB3 := kB2.on hb3
  have kR3 := kR2.on hb3
  have B3 : Below w.heap.size w w3 := B2.trans (hb3.mono B2.size)
  have l3 := kR3.lt
  obtain ⟨e30, e31, e32, e33, e34⟩ := kA3.cells5
  obtain ⟨f30, f31, f32, f33, f34⟩ := kB3.cells5
  have z3 := kA3.frozen
  clear hb3
  rw [show aheadB ⟨1, b1, b2, b3, b4⟩ ⟨1, a1, a2, a3, a4⟩ f = false from hah]
  go_wp2_with (refine at_st 6 rfl ?_; go_must (refine ev_storeF El.op _ rfl _ _ rfl (w.heap.size + 1 + 1) ⟨1, a1, a2, a3, a4⟩ _ 23 rfl rfl kR3 rfl ?_); intro w9 k9 hg9; have B9 : Below w.heap.size w w9 := B3.grown hg9 B3.size (fun k e => by injection e; omega))
  obtain ⟨h0, h1, h2, h3, h4⟩ := Blk.cells5 (v0 := .int .i64 (POp.k ⟨1, a1, a2, a3, a4⟩)) (v1 := .int .i64 (POp.p ⟨1, a1, a2, a3, a4⟩)) (v2 := .int .u8 (POp.c ⟨1, a1, a2, a3, a4⟩)) (v3 := .int .i64 (POp.l ⟨1, a1, a2, a3, a4⟩)) (v4 := .int .i64 (POp.s ⟨1, a1, a2, a3, a4⟩)) k9
  refine bodyPost_ret (v := opv ⟨1, a1, a2, a3, a4⟩) (by simp [results, Tryd.results22, go_sem, opv, h0, h1, h2, h3, h4]) rfl ⟨?_, B9⟩
  exact ret_val (congrArg opv (by have e : pastII a1 b1 f = a1 := if_neg hc; simp [shift, e]))

set_option maxHeartbeats 1000000 in
theorem rshift_12y (a1 a2 a3 a4 b1 b2 b3 b4 : Int) (f : Bool) (w : World) (hc : b1 < a1) :
    Calls Tryd.prog 22 #[.agg #[.int .i64 1, .int .i64 a1, .int .u8 a2, .int .i64 a3, .int .i64 a4], .agg #[.int .i64 2, .int .i64 b1, .int .u8 b2, .int .i64 b3, .int .i64 b4], .bool f] w fun e w' => e = .returned (opv (shift ⟨1, a1, a2, a3, a4⟩ ⟨2, b1, b2, b3, b4⟩ f)) ∧ Below w.heap.size w w' := by
  have hah : aheadB ⟨2, b1, b2, b3, b4⟩ ⟨1, a1, a2, a3, a4⟩ f = true := by
    simp only [aheadB]
    rw [if_pos (show b1 ≠ a1 by omega)]; simpa using hc
  go_enter Tryd.func22, Tryd.ntmps22
  go_wp2_with fail
  with_reducible refine (acts_any _ _ _ _ _ _).mono ?_
  rintro e w1 ⟨rfl, hb1⟩
  have kA1 : Blk w1 w.heap.size #[.int .i64 1, .int .i64 a1, .int .u8 a2, .int .i64 a3, .int .i64 a4] 23 := (((Blk.new w _ _).alloc _).alloc _).on hb1
  have kB1 : Blk w1 (w.heap.size + 1) #[.int .i64 2, .int .i64 b1, .int .u8 b2, .int .i64 b3, .int .i64 b4] 23 := ((Blk.new1 w _ _ _).alloc _).on hb1
  have kR1 : Blk w1 (w.heap.size + 1 + 1) #[.int .i64 0, .int .i64 0, .int .u8 0, .int .i64 0, .int .i64 0] 23 := (Blk.new2 w _ _ _ _).on hb1
  have B1 : Below w.heap.size w w1 := (below_alloc (below_alloc (below_alloc (Below.refl _ _) _) _) _).trans (hb1.mono (by simp; omega))
  have l1 := kR1.lt
  obtain ⟨e10, e11, e12, e13, e14⟩ := kA1.cells5
  obtain ⟨f10, f11, f12, f13, f14⟩ := kB1.cells5
  have z1 := kA1.frozen
  clear hb1
  rw [show actsB 1 = true from rfl]
  go_wp2_with fail
  with_reducible refine (acts_any _ _ _ _ _ _).mono ?_
  rintro e w2 ⟨rfl, hb2⟩
  have kA2 := kA1.on hb2
  have kB2 := kB1.on hb2
  have kR2 := kR1.on hb2
  have B2 : Below w.heap.size w w2 := B1.trans (hb2.mono B1.size)
  have l2 := kR2.lt
  obtain ⟨e20, e21, e22, e23, e24⟩ := kA2.cells5
  obtain ⟨f20, f21, f22, f23, f24⟩ := kB2.cells5
  have z2 := kA2.frozen
  clear hb2
  rw [show actsB 2 = true from rfl]
  go_wp2_with fail
  with_reducible refine (ahead_any _ _ _ _ _ _ _ _ _ _ _ _).mono ?_
  rintro e w3 ⟨rfl, hb3⟩
  have kA3 := kA2.on hb3
  have kB3 := kB2.on hb3
  have kR3 := kR2.on hb3
  have B3 : Below w.heap.size w w3 := B2.trans (hb3.mono B2.size)
  have l3 := kR3.lt
  obtain ⟨e30, e31, e32, e33, e34⟩ := kA3.cells5
  obtain ⟨f30, f31, f32, f33, f34⟩ := kB3.cells5
  have z3 := kA3.frozen
  clear hb3
  rw [show aheadB ⟨2, b1, b2, b3, b4⟩ ⟨1, a1, a2, a3, a4⟩ f = true from hah]
  go_wp2_with (refine at_st 6 rfl ?_; go_must (refine ev_storeF El.op _ rfl _ _ rfl (w.heap.size + 1 + 1) ⟨1, wrap64 (a1 - 1), a2, a3, a4⟩ _ 23 rfl rfl (kR3.setOther (a := ⟨w.heap.size, 1, none⟩) (by simp; omega) _) rfl ?_); intro w9 k9 hg9; have B9 : Below w.heap.size w w9 := (B3.setCell (p := ⟨w.heap.size, 1, none⟩) (Nat.le_refl _) _).grown hg9 (by have := B3.size; simp; omega) (fun k e => by injection e; omega))
  obtain ⟨h0, h1, h2, h3, h4⟩ := Blk.cells5 (v0 := .int .i64 (POp.k ⟨1, wrap64 (a1 - 1), a2, a3, a4⟩)) (v1 := .int .i64 (POp.p ⟨1, wrap64 (a1 - 1), a2, a3, a4⟩)) (v2 := .int .u8 (POp.c ⟨1, wrap64 (a1 - 1), a2, a3, a4⟩)) (v3 := .int .i64 (POp.l ⟨1, wrap64 (a1 - 1), a2, a3, a4⟩)) (v4 := .int .i64 (POp.s ⟨1, wrap64 (a1 - 1), a2, a3, a4⟩)) k9
  refine bodyPost_ret (v := opv ⟨1, wrap64 (a1 - 1), a2, a3, a4⟩) (by simp [results, Tryd.results22, go_sem, opv, h0, h1, h2, h3, h4]) rfl ⟨?_, B9⟩
  exact ret_val (congrArg opv (by have e : pastID a1 b1 = wrap64 (a1 - 1) := if_pos hc; simp [shift, e]))

set_option maxHeartbeats 1000000 in
theorem rshift_12n (a1 a2 a3 a4 b1 b2 b3 b4 : Int) (f : Bool) (w : World) (hc : ¬ (b1 < a1)) :
    Calls Tryd.prog 22 #[.agg #[.int .i64 1, .int .i64 a1, .int .u8 a2, .int .i64 a3, .int .i64 a4], .agg #[.int .i64 2, .int .i64 b1, .int .u8 b2, .int .i64 b3, .int .i64 b4], .bool f] w fun e w' => e = .returned (opv (shift ⟨1, a1, a2, a3, a4⟩ ⟨2, b1, b2, b3, b4⟩ f)) ∧ Below w.heap.size w w' := by
  have hah : aheadB ⟨2, b1, b2, b3, b4⟩ ⟨1, a1, a2, a3, a4⟩ f = false := by
    simp only [aheadB]
    by_cases h : b1 = a1
    · rw [if_neg (by simp [h]), if_neg (by simp)]; simp
    · rw [if_pos (by simpa using h)]; simp only [decide_eq_false_iff_not]; exact hc
  go_enter Tryd.func22, Tryd.ntmps22
  go_wp2_with fail
  with_reducible refine (acts_any _ _ _ _ _ _).mono ?_
  rintro e w1 ⟨rfl, hb1⟩
  have kA1 : Blk w1 w.heap.size #[.int .i64 1, .int .i64 a1, .int .u8 a2, .int .i64 a3, .int .i64 a4] 23 := (((Blk.new w _ _).alloc _).alloc _).on hb1
  have kB1 : Blk w1 (w.heap.size + 1) #[.int .i64 2, .int .i64 b1, .int .u8 b2, .int .i64 b3, .int .i64 b4] 23 := ((Blk.new1 w _ _ _).alloc _).on hb1
  have kR1 : Blk w1 (w.heap.size + 1 + 1) #[.int .i64 0, .int .i64 0, .int .u8 0, .int .i64 0, .int .i64 0] 23 := (Blk.new2 w _ _ _ _).on hb1
  have B1 : Below w.heap.size w w1 := (below_alloc (below_alloc (below_alloc (Below.refl _ _) _) _) _).trans (hb1.mono (by simp; omega))
  have l1 := kR1.lt
  obtain ⟨e10, e11, e12, e13, e14⟩ := kA1.cells5
  obtain ⟨f10, f11, f12, f13, f14⟩ := kB1.cells5
  have z1 := kA1.frozen
  clear hb1
  rw [show actsB 1 = true from rfl]
  go_wp2_with fail
  with_reducible refine (acts_any _ _ _ _ _ _).mono ?_
  rintro e w2 ⟨rfl, hb2⟩
  have kA2 := kA1.on hb2
  have kB2 := kB1.on hb2
  have kR2 := kR1.on hb2
  have B2 : Below w.heap.size w w2 := B1.trans (hb2.mono B1.size)
  have l2 := kR2.lt
  obtain ⟨e20, e21, e22, e23, e24⟩ := kA2.cells5
  obtain ⟨f20, f21, f22, f23, f24⟩ := kB2.cells5
  have z2 := kA2.frozen
  clear hb2
  rw [show actsB 2 = true from rfl]
  go_wp2_with fail
  with_reducible refine (ahead_any _ _ _ _ _ _ _ _ _ _ _ _).mono ?_
  rintro e w3 ⟨rfl, hb3⟩
  have kA3 := kA2.on hb3
  have kB3 := kB2.on hb3
  have kR3 := kR2.on hb3
  have B3 : Below w.heap.size w w3 := B2.trans (hb3.mono B2.size)
  have l3 := kR3.lt
  obtain ⟨e30, e31, e32, e33, e34⟩ := kA3.cells5
  obtain ⟨f30, f31, f32, f33, f34⟩ := kB3.cells5
  have z3 := kA3.frozen
  clear hb3
  rw [show aheadB ⟨2, b1, b2, b3, b4⟩ ⟨1, a1, a2, a3, a4⟩ f = false from hah]
  go_wp2_with (refine at_st 6 rfl ?_; go_must (refine ev_storeF El.op _ rfl _ _ rfl (w.heap.size + 1 + 1) ⟨1, a1, a2, a3, a4⟩ _ 23 rfl rfl kR3 rfl ?_); intro w9 k9 hg9; have B9 : Below w.heap.size w w9 := B3.grown hg9 B3.size (fun k e => by injection e; omega))
  obtain ⟨h0, h1, h2, h3, h4⟩ := Blk.cells5 (v0 := .int .i64 (POp.k ⟨1, a1, a2, a3, a4⟩)) (v1 := .int .i64 (POp.p ⟨1, a1, a2, a3, a4⟩)) (v2 := .int .u8 (POp.c ⟨1, a1, a2, a3, a4⟩)) (v3 := .int .i64 (POp.l ⟨1, a1, a2, a3, a4⟩)) (v4 := .int .i64 (POp.s ⟨1, a1, a2, a3, a4⟩)) k9
  refine bodyPost_ret (v := opv ⟨1, a1, a2, a3, a4⟩) (by simp [results, Tryd.results22, go_sem, opv, h0, h1, h2, h3, h4]) rfl ⟨?_, B9⟩
  exact ret_val (congrArg opv (by have e : pastID a1 b1 = a1 := if_neg (by omega); simp [shift, e]))

set_option maxHeartbeats 1000000 in
theorem rshift_21y (a1 a2 a3 a4 b1 b2 b3 b4 : Int) (f : Bool) (w : World) (hc : b1 ≤ a1) :
    Calls Tryd.prog 22 #[.agg #[.int .i64 2, .int .i64 a1, .int .u8 a2, .int .i64 a3, .int .i64 a4], .agg #[.int .i64 1, .int .i64 b1, .int .u8 b2, .int .i64 b3, .int .i64 b4], .bool f] w fun e w' => e = .returned (opv (shift ⟨2, a1, a2, a3, a4⟩ ⟨1, b1, b2, b3, b4⟩ f)) ∧ Below w.heap.size w w' := by
  have hah : aheadB ⟨1, b1, b2, b3, b4⟩ ⟨2, a1, a2, a3, a4⟩ f = true := by
    simp only [aheadB]
    by_cases h : b1 = a1
    · rw [if_neg (by simp [h]), if_neg (by simp)]; simp
    · rw [if_pos (by simpa using h)]; simp only [decide_eq_true_eq]; omega
  go_enter Tryd.func22, Tryd.ntmps22
  go_wp2_with fail
  with_reducible refine (acts_any _ _ _ _ _ _).mono ?_
  rintro e w1 ⟨rfl, hb1⟩
  have kA1 : Blk w1 w.heap.size #[.int .i64 2, .int .i64 a1, .int .u8 a2, .int .i64 a3, .int .i64 a4] 23 := (((Blk.new w _ _).alloc _).alloc _).on hb1
  have kB1 : Blk w1 (w.heap.size + 1) #[.int .i64 1, .int .i64 b1, .int .u8 b2, .int .i64 b3, .int .i64 b4] 23 := ((Blk.new1 w _ _ _).alloc _).on hb1
  have kR1 : Blk w1 (w.heap.size + 1 + 1) #[.int .i64 0, .int .i64 0, .int .u8 0, .int .i64 0, .int .i64 0] 23 := (Blk.new2 w _ _ _ _).on hb1
  have B1 : Below w.heap.size w w1 := (below_alloc (below_alloc (below_alloc (Below.refl _ _) _) _) _).trans (hb1.mono (by simp; omega))
  have l1 := kR1.lt
  obtain ⟨e10, e11, e12, e13, e14⟩ := kA1.cells5
  obtain ⟨f10, f11, f12, f13, f14⟩ := kB1.cells5
  have z1 := kA1.frozen
  clear hb1
  rw [show actsB 2 = true from rfl]
  go_wp2_with fail
  with_reducible refine (acts_any _ _ _ _ _ _).mono ?_
  rintro e w2 ⟨rfl, hb2⟩
  have kA2 := kA1.on hb2
  have kB2 := kB1.on hb2
  have kR2 := kR1.on hb2
  have B2 : Below w.heap.size w w2 := B1.trans (hb2.mono B1.size)
  have l2 := kR2.lt
  obtain ⟨e20, e21, e22, e23, e24⟩ := kA2.cells5
  obtain ⟨f20, f21, f22, f23, f24⟩ := kB2.cells5
  have z2 := kA2.frozen
  clear hb2
  rw [show actsB 1 = true from rfl]
  go_wp2_with fail
  with_reducible refine (ahead_any _ _ _ _ _ _ _ _ _ _ _ _).mono ?_
  rintro e w3 ⟨rfl, hb3⟩
  have kA3 := kA2.on hb3
  have kB3 := kB2.on hb3
  have kR3 := kR2.on hb3
  have B3 : Below w.heap.size w w3 := B2.trans (hb3.mono B2.size)
  have l3 := kR3.lt
  obtain ⟨e30, e31, e32, e33, e34⟩ := kA3.cells5
  obtain ⟨f30, f31, f32, f33, f34⟩ := kB3.cells5
  have z3 := kA3.frozen
  clear hb3
  rw [show aheadB ⟨1, b1, b2, b3, b4⟩ ⟨2, a1, a2, a3, a4⟩ f = true from hah]
  go_wp2_with (refine at_st 6 rfl ?_; go_must (refine ev_storeF El.op _ rfl _ _ rfl (w.heap.size + 1 + 1) ⟨2, wrap64 (a1 + 1), a2, a3, a4⟩ _ 23 rfl rfl (kR3.setOther (a := ⟨w.heap.size, 1, none⟩) (by simp; omega) _) rfl ?_); intro w9 k9 hg9; have B9 : Below w.heap.size w w9 := (B3.setCell (p := ⟨w.heap.size, 1, none⟩) (Nat.le_refl _) _).grown hg9 (by have := B3.size; simp; omega) (fun k e => by injection e; omega))
  obtain ⟨h0, h1, h2, h3, h4⟩ := Blk.cells5 (v0 := .int .i64 (POp.k ⟨2, wrap64 (a1 + 1), a2, a3, a4⟩)) (v1 := .int .i64 (POp.p ⟨2, wrap64 (a1 + 1), a2, a3, a4⟩)) (v2 := .int .u8 (POp.c ⟨2, wrap64 (a1 + 1), a2, a3, a4⟩)) (v3 := .int .i64 (POp.l ⟨2, wrap64 (a1 + 1), a2, a3, a4⟩)) (v4 := .int .i64 (POp.s ⟨2, wrap64 (a1 + 1), a2, a3, a4⟩)) k9
  refine bodyPost_ret (v := opv ⟨2, wrap64 (a1 + 1), a2, a3, a4⟩) (by simp [results, Tryd.results22, go_sem, opv, h0, h1, h2, h3, h4]) rfl ⟨?_, B9⟩
  exact ret_val (congrArg opv (by have e : pastDI a1 b1 = wrap64 (a1 + 1) := if_pos hc; simp [shift, e]))

set_option maxHeartbeats 1000000 in
theorem rshift_21n (a1 a2 a3 a4 b1 b2 b3 b4 : Int) (f : Bool) (w : World) (hc : ¬ (b1 ≤ a1)) :
    Calls Tryd.prog 22 #[.agg #[.int .i64 2, .int .i64 a1, .int .u8 a2, .int .i64 a3, .int .i64 a4], .agg #[.int .i64 1, .int .i64 b1, .int .u8 b2, .int .i64 b3, .int .i64 b4], .bool f] w fun e w' => e = .returned (opv (shift ⟨2, a1, a2, a3, a4⟩ ⟨1, b1, b2, b3, b4⟩ f)) ∧ Below w.heap.size w w' := by
  have hah : aheadB ⟨1, b1, b2, b3, b4⟩ ⟨2, a1, a2, a3, a4⟩ f = false := by
    simp only [aheadB]
    rw [if_pos (show b1 ≠ a1 by omega)]; simp only [decide_eq_false_iff_not]; omega
  go_enter Tryd.func22, Tryd.ntmps22
  go_wp2_with fail
  with_reducible refine (acts_any _ _ _ _ _ _).mono ?_
  rintro e w1 ⟨rfl, hb1⟩
  have kA1 : Blk w1 w.heap.size #[.int .i64 2, .int .i64 a1, .int .u8 a2, .int .i64 a3, .int .i64 a4] 23 := (((Blk.new w _ _).alloc _).alloc _).on hb1
  have kB1 : Blk w1 (w.heap.size + 1) #[.int .i64 1, .int .i64 b1, .int .u8 b2, .int .i64 b3, .int .i64 b4] 23 := ((Blk.new1 w _ _ _).alloc _).on hb1
  have kR1 : Blk w1 (w.heap.size + 1 + 1) #[.int .i64 0, .int .i64 0, .int .u8 0, .int .i64 0, .int .i64 0] 23 := (Blk.new2 w _ _ _ _).on hb1
  have B1 : Below w.heap.size w w1 := (below_alloc (below_alloc (below_alloc (Below.refl _ _) _) _) _).trans (hb1.mono (by simp; omega))
  have l1 := kR1.lt
  obtain ⟨e10, e11, e12, e13, e14⟩ := kA1.cells5
  obtain ⟨f10, f11, f12, f13, f14⟩ := kB1.cells5
  have z1 := kA1.frozen
  clear hb1
  rw [show actsB 2 = true from rfl]
  go_wp2_with fail
  with_reducible refine (acts_any _ _ _ _ _ _).mono ?_
  rintro e w2 ⟨rfl, hb2⟩
  have kA2 := kA1.on hb2
  have kB2 := kB1.on hb2
  have kR2 := kR1.on hb2
  have B2 : Below w.heap.size w w2 := B1.trans (hb2.mono B1.size)
  have l2 := kR2.lt
  obtain ⟨e20, e21, e22, e23, e24⟩ := kA2.cells5
  obtain ⟨f20, f21, f22, f23, f24⟩ := kB2.cells5
  have z2 := kA2.frozen
  clear hb2
  rw [show actsB 1 = true from rfl]
  go_wp2_with fail
  with_reducible refine (ahead_any _ _ _ _ _ _ _ _ _ _ _ _).mono ?_
  rintro e w3 ⟨rfl, hb3⟩
  have kA3 := kA2.on hb3
  have kB3 := kB2.on hb3
  have kR3 := kR2.on hb3
  have B3 : Below w.heap.size w w3 := B2.trans (hb3.mono B2.size)
  have l3 := kR3.lt
  obtain ⟨e30, e31, e32, e33, e34⟩ := kA3.cells5
  obtain ⟨f30, f31, f32, f33, f34⟩ := kB3.cells5
  have z3 := kA3.frozen
  clear hb3
  rw [show aheadB ⟨1, b1, b2, b3, b4⟩ ⟨2, a1, a2, a3, a4⟩ f = false from hah]
  go_wp2_with (refine at_st 6 rfl ?_; go_must (refine ev_storeF El.op _ rfl _ _ rfl (w.heap.size + 1 + 1) ⟨2, a1, a2, a3, a4⟩ _ 23 rfl rfl kR3 rfl ?_); intro w9 k9 hg9; have B9 : Below w.heap.size w w9 := B3.grown hg9 B3.size (fun k e => by injection e; omega))
  obtain ⟨h0, h1, h2, h3, h4⟩ := Blk.cells5 (v0 := .int .i64 (POp.k ⟨2, a1, a2, a3, a4⟩)) (v1 := .int .i64 (POp.p ⟨2, a1, a2, a3, a4⟩)) (v2 := .int .u8 (POp.c ⟨2, a1, a2, a3, a4⟩)) (v3 := .int .i64 (POp.l ⟨2, a1, a2, a3, a4⟩)) (v4 := .int .i64 (POp.s ⟨2, a1, a2, a3, a4⟩)) k9
  refine bodyPost_ret (v := opv ⟨2, a1, a2, a3, a4⟩) (by simp [results, Tryd.results22, go_sem, opv, h0, h1, h2, h3, h4]) rfl ⟨?_, B9⟩
  exact ret_val (congrArg opv (by have e : pastDI a1 b1 = a1 := if_neg (by omega); simp [shift, e]))

set_option maxHeartbeats 1000000 in
theorem rshift_22y (a1 a2 a3 a4 b1 b2 b3 b4 : Int) (f : Bool) (w : World) (hne : b1 ≠ a1) (hc : b1 < a1) :
    Calls Tryd.prog 22 #[.agg #[.int .i64 2, .int .i64 a1, .int .u8 a2, .int .i64 a3, .int .i64 a4], .agg #[.int .i64 2, .int .i64 b1, .int .u8 b2, .int .i64 b3, .int .i64 b4], .bool f] w fun e w' => e = .returned (opv (shift ⟨2, a1, a2, a3, a4⟩ ⟨2, b1, b2, b3, b4⟩ f)) ∧ Below w.heap.size w w' := by
  have hne' : (a1 == b1) = false := by simpa using (Ne.symm hne)
  have hah : aheadB ⟨2, b1, b2, b3, b4⟩ ⟨2, a1, a2, a3, a4⟩ f = true := by
    simp only [aheadB]
    rw [if_pos (show b1 ≠ a1 by omega)]; simpa using hc
  go_enter Tryd.func22, Tryd.ntmps22
  go_wp2_with fail
  with_reducible refine (acts_any _ _ _ _ _ _).mono ?_
  rintro e w1 ⟨rfl, hb1⟩
  have kA1 : Blk w1 w.heap.size #[.int .i64 2, .int .i64 a1, .int .u8 a2, .int .i64 a3, .int .i64 a4] 23 := (((Blk.new w _ _).alloc _).alloc _).on hb1
  have kB1 : Blk w1 (w.heap.size + 1) #[.int .i64 2, .int .i64 b1, .int .u8 b2, .int .i64 b3, .int .i64 b4] 23 := ((Blk.new1 w _ _ _).alloc _).on hb1
  have kR1 : Blk w1 (w.heap.size + 1 + 1) #[.int .i64 0, .int .i64 0, .int .u8 0, .int .i64 0, .int .i64 0] 23 := (Blk.new2 w _ _ _ _).on hb1
  have B1 : Below w.heap.size w w1 := (below_alloc (below_alloc (below_alloc (Below.refl _ _) _) _) _).trans (hb1.mono (by simp; omega))
  have l1 := kR1.lt
  obtain ⟨e10, e11, e12, e13, e14⟩ := kA1.cells5
  obtain ⟨f10, f11, f12, f13, f14⟩ := kB1.cells5
  have z1 := kA1.frozen
  clear hb1
  rw [show actsB 2 = true from rfl]
  go_wp2_with fail
  with_reducible refine (acts_any _ _ _ _ _ _).mono ?_
  rintro e w2 ⟨rfl, hb2⟩
  have kA2 := kA1.on hb2
  have kB2 := kB1.on hb2
  have kR2 := kR1.on hb2
  have B2 : Below w.heap.size w w2 := B1.trans (hb2.mono B1.size)
  have l2 := kR2.lt
  obtain ⟨e20, e21, e22, e23, e24⟩ := kA2.cells5
  obtain ⟨f20, f21, f22, f23, f24⟩ := kB2.cells5
  have z2 := kA2.frozen
  clear hb2
  rw [show actsB 2 = true from rfl]
  go_wp2_with fail
  with_reducible refine (ahead_any _ _ _ _ _ _ _ _ _ _ _ _).mono ?_
  rintro e w3 ⟨rfl, hb3⟩
  have kA3 := kA2.on hb3
  have kB3 := kB2.on hb3
  have kR3 := kR2.on hb3
  have B3 : Below w.heap.size w w3 := B2.trans (hb3.mono B2.size)
  have l3 := kR3.lt
  obtain ⟨e30, e31, e32, e33, e34⟩ := kA3.cells5
  obtain ⟨f30, f31, f32, f33, f34⟩ := kB3.cells5
  have z3 := kA3.frozen
  clear hb3
  rw [show aheadB ⟨2, b1, b2, b3, b4⟩ ⟨2, a1, a2, a3, a4⟩ f = true from hah]
  go_wp2_with (refine at_st 6 rfl ?_; go_must (refine ev_storeF El.op _ rfl _ _ rfl (w.heap.size + 1 + 1) ⟨2, wrap64 (a1 - 1), a2, a3, a4⟩ _ 23 rfl rfl (kR3.setOther (a := ⟨w.heap.size, 1, none⟩) (by simp; omega) _) rfl ?_); intro w9 k9 hg9; have B9 : Below w.heap.size w w9 := (B3.setCell (p := ⟨w.heap.size, 1, none⟩) (Nat.le_refl _) _).grown hg9 (by have := B3.size; simp; omega) (fun k e => by injection e; omega))
  obtain ⟨h0, h1, h2, h3, h4⟩ := Blk.cells5 (v0 := .int .i64 (POp.k ⟨2, wrap64 (a1 - 1), a2, a3, a4⟩)) (v1 := .int .i64 (POp.p ⟨2, wrap64 (a1 - 1), a2, a3, a4⟩)) (v2 := .int .u8 (POp.c ⟨2, wrap64 (a1 - 1), a2, a3, a4⟩)) (v3 := .int .i64 (POp.l ⟨2, wrap64 (a1 - 1), a2, a3, a4⟩)) (v4 := .int .i64 (POp.s ⟨2, wrap64 (a1 - 1), a2, a3, a4⟩)) k9
  refine bodyPost_ret (v := opv ⟨2, wrap64 (a1 - 1), a2, a3, a4⟩) (by simp [results, Tryd.results22, go_sem, opv, h0, h1, h2, h3, h4]) rfl ⟨?_, B9⟩
  exact ret_val (congrArg opv (by have e : pastDD a1 b1 = wrap64 (a1 - 1) := if_pos hc; simp [shift, e, hne]))

set_option maxHeartbeats 1000000 in
theorem rshift_22n (a1 a2 a3 a4 b1 b2 b3 b4 : Int) (f : Bool) (w : World) (hne : b1 ≠ a1) (hc : ¬ (b1 < a1)) :
    Calls Tryd.prog 22 #[.agg #[.int .i64 2, .int .i64 a1, .int .u8 a2, .int .i64 a3, .int .i64 a4], .agg #[.int .i64 2, .int .i64 b1, .int .u8 b2, .int .i64 b3, .int .i64 b4], .bool f] w fun e w' => e = .returned (opv (shift ⟨2, a1, a2, a3, a4⟩ ⟨2, b1, b2, b3, b4⟩ f)) ∧ Below w.heap.size w w' := by
  have hne' : (a1 == b1) = false := by simpa using (Ne.symm hne)
  have hah : aheadB ⟨2, b1, b2, b3, b4⟩ ⟨2, a1, a2, a3, a4⟩ f = false := by
    simp only [aheadB]
    by_cases h : b1 = a1
    · rw [if_neg (by simp [h]), if_neg (by simp)]; simp
    · rw [if_pos (by simpa using h)]; simp only [decide_eq_false_iff_not]; exact hc
  go_enter Tryd.func22, Tryd.ntmps22
  go_wp2_with fail
  with_reducible refine (acts_any _ _ _ _ _ _).mono ?_
  rintro e w1 ⟨rfl, hb1⟩
  have kA1 : Blk w1 w.heap.size #[.int .i64 2, .int .i64 a1, .int .u8 a2, .int .i64 a3, .int .i64 a4] 23 := (((Blk.new w _ _).alloc _).alloc _).on hb1
  have kB1 : Blk w1 (w.heap.size + 1) #[.int .i64 2, .int .i64 b1, .int .u8 b2, .int .i64 b3, .int .i64 b4] 23 := ((Blk.new1 w _ _ _).alloc _).on hb1
  have kR1 : Blk w1 (w.heap.size + 1 + 1) #[.int .i64 0, .int .i64 0, .int .u8 0, .int .i64 0, .int .i64 0] 23 := (Blk.new2 w _ _ _ _).on hb1
  have B1 : Below w.heap.size w w1 := (below_alloc (below_alloc (below_alloc (Below.refl _ _) _) _) _).trans (hb1.mono (by simp; omega))
  have l1 := kR1.lt
  obtain ⟨e10, e11, e12, e13, e14⟩ := kA1.cells5
  obtain ⟨f10, f11, f12, f13, f14⟩ := kB1.cells5
  have z1 := kA1.frozen
  clear hb1
  rw [show actsB 2 = true from rfl]
  go_wp2_with fail
  with_reducible refine (acts_any _ _ _ _ _ _).mono ?_
  rintro e w2 ⟨rfl, hb2⟩
  have kA2 := kA1.on hb2
  have kB2 := kB1.on hb2
  have kR2 := kR1.on hb2
  have B2 : Below w.heap.size w w2 := B1.trans (hb2.mono B1.size)
  have l2 := kR2.lt
  obtain ⟨e20, e21, e22, e23, e24⟩ := kA2.cells5
  obtain ⟨f20, f21, f22, f23, f24⟩ := kB2.cells5
  have z2 := kA2.frozen
  clear hb2
  rw [show actsB 2 = true from rfl]
  go_wp2_with fail
  with_reducible refine (ahead_any _ _ _ _ _ _ _ _ _ _ _ _).mono ?_
  rintro e w3 ⟨rfl, hb3⟩
  have kA3 := kA2.on hb3
  have kB3 := kB2.on hb3
  have kR3 := kR2.on hb3
  have B3 : Below w.heap.size w w3 := B2.trans (hb3.mono B2.size)
  have l3 := kR3.lt
  obtain ⟨e30, e31, e32, e33, e34⟩ := kA3.cells5
  obtain ⟨f30, f31, f32, f33, f34⟩ := kB3.cells5
  have z3 := kA3.frozen
  clear hb3
  rw [show aheadB ⟨2, b1, b2, b3, b4⟩ ⟨2, a1, a2, a3, a4⟩ f = false from hah]
  go_wp2_with (refine at_st 6 rfl ?_; go_must (refine ev_storeF El.op _ rfl _ _ rfl (w.heap.size + 1 + 1) ⟨2, a1, a2, a3, a4⟩ _ 23 rfl rfl kR3 rfl ?_); intro w9 k9 hg9; have B9 : Below w.heap.size w w9 := B3.grown hg9 B3.size (fun k e => by injection e; omega))
  obtain ⟨h0, h1, h2, h3, h4⟩ := Blk.cells5 (v0 := .int .i64 (POp.k ⟨2, a1, a2, a3, a4⟩)) (v1 := .int .i64 (POp.p ⟨2, a1, a2, a3, a4⟩)) (v2 := .int .u8 (POp.c ⟨2, a1, a2, a3, a4⟩)) (v3 := .int .i64 (POp.l ⟨2, a1, a2, a3, a4⟩)) (v4 := .int .i64 (POp.s ⟨2, a1, a2, a3, a4⟩)) k9
  refine bodyPost_ret (v := opv ⟨2, a1, a2, a3, a4⟩) (by simp [results, Tryd.results22, go_sem, opv, h0, h1, h2, h3, h4]) rfl ⟨?_, B9⟩
  exact ret_val (congrArg opv (by have e : pastDD a1 b1 = a1 := if_neg (by omega); simp [shift, e, hne]))
end Go.Proofs.YtkicbnkacjnhoaaDoor
