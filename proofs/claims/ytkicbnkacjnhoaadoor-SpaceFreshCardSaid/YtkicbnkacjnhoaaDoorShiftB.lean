/- The walk of Shift: the nine cases of the table of rules, and their join. -/
import Derived.Test.YtkicbnkacjnhoaaDoorShift
import Derived.Test.YtkicbnkacjnhoaaDoorOt
namespace Go.Proofs.YtkicbnkacjnhoaaDoor
open Go.RowKit
set_option linter.unusedVariables false
set_option linter.unusedSimpArgs false

set_option maxHeartbeats 400000 in
theorem shift_00 (a0 a1 a2 a3 a4 b0 b1 b2 b3 b4 : Int) (f : Bool) (w : World) (r1 : rowOf a0 = 0) (r2 : rowOf b0 = 0) (hr : w.cell? ⟨0, 0, none⟩ = some (.func (.func 106) #[] #[])) :
    Calls Tryd.prog 21 #[.agg #[.int .i64 a0, .int .i64 a1, .int .u8 a2, .int .i64 a3, .int .i64 a4], .agg #[.int .i64 b0, .int .i64 b1, .int .u8 b2, .int .i64 b3, .int .i64 b4], .bool f] w fun e w' => e = .returned (.agg #[.int .i64 a0, .int .i64 a1, .int .u8 a2, .int .i64 a3, .int .i64 a4]) ∧ Below w.heap.size w w' := by
  have hz : 0 < w.heap.size := World.block_lt_of_cell? w _ hr
  go_enter Tryd.func21, Tryd.ntmps21
  go_wp2
  go_quiet ((first | (go_at_call 69; exact Calls.quiet_of_same (row_any _ _)) | (go_at_call 106; exact Calls.quiet_of_same (stays_any _ _ _ _))))
  go_wp2
  exact bodyPost_ret (v := .agg #[.int .i64 a0, .int .i64 a1, .int .u8 a2, .int .i64 a3, .int .i64 a4]) (by simp [results, Tryd.results21, go_sem]) rfl ⟨rfl, below_drewN (below_alloc (below_alloc (below_alloc (Below.refl _ _) _) _) _) _⟩

set_option maxHeartbeats 400000 in
theorem shift_01 (a0 a1 a2 a3 a4 b0 b1 b2 b3 b4 : Int) (f : Bool) (w : World) (r1 : rowOf a0 = 0) (r2 : rowOf b0 = 1) (hr : w.cell? ⟨0, 1, none⟩ = some (.func (.func 106) #[] #[])) :
    Calls Tryd.prog 21 #[.agg #[.int .i64 a0, .int .i64 a1, .int .u8 a2, .int .i64 a3, .int .i64 a4], .agg #[.int .i64 b0, .int .i64 b1, .int .u8 b2, .int .i64 b3, .int .i64 b4], .bool f] w fun e w' => e = .returned (.agg #[.int .i64 a0, .int .i64 a1, .int .u8 a2, .int .i64 a3, .int .i64 a4]) ∧ Below w.heap.size w w' := by
  have hz : 0 < w.heap.size := World.block_lt_of_cell? w _ hr
  go_enter Tryd.func21, Tryd.ntmps21
  go_wp2
  go_quiet ((first | (go_at_call 69; exact Calls.quiet_of_same (row_any _ _)) | (go_at_call 106; exact Calls.quiet_of_same (stays_any _ _ _ _))))
  go_wp2
  exact bodyPost_ret (v := .agg #[.int .i64 a0, .int .i64 a1, .int .u8 a2, .int .i64 a3, .int .i64 a4]) (by simp [results, Tryd.results21, go_sem]) rfl ⟨rfl, below_drewN (below_alloc (below_alloc (below_alloc (Below.refl _ _) _) _) _) _⟩

set_option maxHeartbeats 400000 in
theorem shift_02 (a0 a1 a2 a3 a4 b0 b1 b2 b3 b4 : Int) (f : Bool) (w : World) (r1 : rowOf a0 = 0) (r2 : rowOf b0 = 2) (hr : w.cell? ⟨0, 2, none⟩ = some (.func (.func 106) #[] #[])) :
    Calls Tryd.prog 21 #[.agg #[.int .i64 a0, .int .i64 a1, .int .u8 a2, .int .i64 a3, .int .i64 a4], .agg #[.int .i64 b0, .int .i64 b1, .int .u8 b2, .int .i64 b3, .int .i64 b4], .bool f] w fun e w' => e = .returned (.agg #[.int .i64 a0, .int .i64 a1, .int .u8 a2, .int .i64 a3, .int .i64 a4]) ∧ Below w.heap.size w w' := by
  have hz : 0 < w.heap.size := World.block_lt_of_cell? w _ hr
  go_enter Tryd.func21, Tryd.ntmps21
  go_wp2
  go_quiet ((first | (go_at_call 69; exact Calls.quiet_of_same (row_any _ _)) | (go_at_call 106; exact Calls.quiet_of_same (stays_any _ _ _ _))))
  go_wp2
  exact bodyPost_ret (v := .agg #[.int .i64 a0, .int .i64 a1, .int .u8 a2, .int .i64 a3, .int .i64 a4]) (by simp [results, Tryd.results21, go_sem]) rfl ⟨rfl, below_drewN (below_alloc (below_alloc (below_alloc (Below.refl _ _) _) _) _) _⟩

set_option maxHeartbeats 400000 in
theorem shift_10 (a0 a1 a2 a3 a4 b0 b1 b2 b3 b4 : Int) (f : Bool) (w : World) (r1 : rowOf a0 = 1) (r2 : rowOf b0 = 0) (hr : w.cell? ⟨0, 3, none⟩ = some (.func (.func 106) #[] #[])) :
    Calls Tryd.prog 21 #[.agg #[.int .i64 a0, .int .i64 a1, .int .u8 a2, .int .i64 a3, .int .i64 a4], .agg #[.int .i64 b0, .int .i64 b1, .int .u8 b2, .int .i64 b3, .int .i64 b4], .bool f] w fun e w' => e = .returned (.agg #[.int .i64 a0, .int .i64 a1, .int .u8 a2, .int .i64 a3, .int .i64 a4]) ∧ Below w.heap.size w w' := by
  have hz : 0 < w.heap.size := World.block_lt_of_cell? w _ hr
  go_enter Tryd.func21, Tryd.ntmps21
  go_wp2
  go_quiet ((first | (go_at_call 69; exact Calls.quiet_of_same (row_any _ _)) | (go_at_call 106; exact Calls.quiet_of_same (stays_any _ _ _ _))))
  go_wp2
  exact bodyPost_ret (v := .agg #[.int .i64 a0, .int .i64 a1, .int .u8 a2, .int .i64 a3, .int .i64 a4]) (by simp [results, Tryd.results21, go_sem]) rfl ⟨rfl, below_drewN (below_alloc (below_alloc (below_alloc (Below.refl _ _) _) _) _) _⟩

set_option maxHeartbeats 400000 in
theorem shift_11 (a0 a1 a2 a3 a4 b0 b1 b2 b3 b4 : Int) (f : Bool) (w : World) (r1 : rowOf a0 = 1) (r2 : rowOf b0 = 1) (hr : w.cell? ⟨0, 4, none⟩ = some (.func (.func 107) #[] #[])) :
    Calls Tryd.prog 21 #[.agg #[.int .i64 a0, .int .i64 a1, .int .u8 a2, .int .i64 a3, .int .i64 a4], .agg #[.int .i64 b0, .int .i64 b1, .int .u8 b2, .int .i64 b3, .int .i64 b4], .bool f] w fun e w' => e = .returned (.agg #[.int .i64 a0, .int .i64 (pastII a1 b1 f), .int .u8 a2, .int .i64 a3, .int .i64 a4]) ∧ Below w.heap.size w w' := by
  have hz : 0 < w.heap.size := World.block_lt_of_cell? w _ hr
  go_enter Tryd.func21, Tryd.ntmps21
  go_wp2
  go_quiet ((first | (go_at_call 69; exact Calls.quiet_of_same (row_any _ _)) | (go_at_call 107; exact Calls.quiet_of_same (ii_any _ _ _ _))))
  go_wp2
  exact bodyPost_ret (v := .agg #[.int .i64 a0, .int .i64 (pastII a1 b1 f), .int .u8 a2, .int .i64 a3, .int .i64 a4]) (by simp [results, Tryd.results21, go_sem]) rfl ⟨rfl, below_drewN (below_alloc (below_alloc (below_alloc (Below.refl _ _) _) _) _) _⟩

set_option maxHeartbeats 400000 in
theorem shift_12 (a0 a1 a2 a3 a4 b0 b1 b2 b3 b4 : Int) (f : Bool) (w : World) (r1 : rowOf a0 = 1) (r2 : rowOf b0 = 2) (hr : w.cell? ⟨0, 5, none⟩ = some (.func (.func 108) #[] #[])) :
    Calls Tryd.prog 21 #[.agg #[.int .i64 a0, .int .i64 a1, .int .u8 a2, .int .i64 a3, .int .i64 a4], .agg #[.int .i64 b0, .int .i64 b1, .int .u8 b2, .int .i64 b3, .int .i64 b4], .bool f] w fun e w' => e = .returned (.agg #[.int .i64 a0, .int .i64 (pastID a1 b1), .int .u8 a2, .int .i64 a3, .int .i64 a4]) ∧ Below w.heap.size w w' := by
  have hz : 0 < w.heap.size := World.block_lt_of_cell? w _ hr
  go_enter Tryd.func21, Tryd.ntmps21
  go_wp2
  go_quiet ((first | (go_at_call 69; exact Calls.quiet_of_same (row_any _ _)) | (go_at_call 108; exact Calls.quiet_of_same (id_any _ _ _ _))))
  go_wp2
  exact bodyPost_ret (v := .agg #[.int .i64 a0, .int .i64 (pastID a1 b1), .int .u8 a2, .int .i64 a3, .int .i64 a4]) (by simp [results, Tryd.results21, go_sem]) rfl ⟨rfl, below_drewN (below_alloc (below_alloc (below_alloc (Below.refl _ _) _) _) _) _⟩

set_option maxHeartbeats 400000 in
theorem shift_20 (a0 a1 a2 a3 a4 b0 b1 b2 b3 b4 : Int) (f : Bool) (w : World) (r1 : rowOf a0 = 2) (r2 : rowOf b0 = 0) (hr : w.cell? ⟨0, 6, none⟩ = some (.func (.func 106) #[] #[])) :
    Calls Tryd.prog 21 #[.agg #[.int .i64 a0, .int .i64 a1, .int .u8 a2, .int .i64 a3, .int .i64 a4], .agg #[.int .i64 b0, .int .i64 b1, .int .u8 b2, .int .i64 b3, .int .i64 b4], .bool f] w fun e w' => e = .returned (.agg #[.int .i64 a0, .int .i64 a1, .int .u8 a2, .int .i64 a3, .int .i64 a4]) ∧ Below w.heap.size w w' := by
  have hz : 0 < w.heap.size := World.block_lt_of_cell? w _ hr
  go_enter Tryd.func21, Tryd.ntmps21
  go_wp2
  go_quiet ((first | (go_at_call 69; exact Calls.quiet_of_same (row_any _ _)) | (go_at_call 106; exact Calls.quiet_of_same (stays_any _ _ _ _))))
  go_wp2
  exact bodyPost_ret (v := .agg #[.int .i64 a0, .int .i64 a1, .int .u8 a2, .int .i64 a3, .int .i64 a4]) (by simp [results, Tryd.results21, go_sem]) rfl ⟨rfl, below_drewN (below_alloc (below_alloc (below_alloc (Below.refl _ _) _) _) _) _⟩

set_option maxHeartbeats 400000 in
theorem shift_21 (a0 a1 a2 a3 a4 b0 b1 b2 b3 b4 : Int) (f : Bool) (w : World) (r1 : rowOf a0 = 2) (r2 : rowOf b0 = 1) (hr : w.cell? ⟨0, 7, none⟩ = some (.func (.func 109) #[] #[])) :
    Calls Tryd.prog 21 #[.agg #[.int .i64 a0, .int .i64 a1, .int .u8 a2, .int .i64 a3, .int .i64 a4], .agg #[.int .i64 b0, .int .i64 b1, .int .u8 b2, .int .i64 b3, .int .i64 b4], .bool f] w fun e w' => e = .returned (.agg #[.int .i64 a0, .int .i64 (pastDI a1 b1), .int .u8 a2, .int .i64 a3, .int .i64 a4]) ∧ Below w.heap.size w w' := by
  have hz : 0 < w.heap.size := World.block_lt_of_cell? w _ hr
  go_enter Tryd.func21, Tryd.ntmps21
  go_wp2
  go_quiet ((first | (go_at_call 69; exact Calls.quiet_of_same (row_any _ _)) | (go_at_call 109; exact Calls.quiet_of_same (di_any _ _ _ _))))
  go_wp2
  exact bodyPost_ret (v := .agg #[.int .i64 a0, .int .i64 (pastDI a1 b1), .int .u8 a2, .int .i64 a3, .int .i64 a4]) (by simp [results, Tryd.results21, go_sem]) rfl ⟨rfl, below_drewN (below_alloc (below_alloc (below_alloc (Below.refl _ _) _) _) _) _⟩

set_option maxHeartbeats 400000 in
theorem shift_22n (a0 a1 a2 a3 a4 b0 b1 b2 b3 b4 : Int) (f : Bool) (w : World) (r1 : rowOf a0 = 2) (r2 : rowOf b0 = 2) (hne : b1 ≠ a1) (hr : w.cell? ⟨0, 8, none⟩ = some (.func (.func 110) #[] #[])) :
    Calls Tryd.prog 21 #[.agg #[.int .i64 a0, .int .i64 a1, .int .u8 a2, .int .i64 a3, .int .i64 a4], .agg #[.int .i64 b0, .int .i64 b1, .int .u8 b2, .int .i64 b3, .int .i64 b4], .bool f] w fun e w' => e = .returned (.agg #[.int .i64 a0, .int .i64 (pastDD a1 b1), .int .u8 a2, .int .i64 a3, .int .i64 a4]) ∧ Below w.heap.size w w' := by
  have hz : 0 < w.heap.size := World.block_lt_of_cell? w _ hr
  go_enter Tryd.func21, Tryd.ntmps21
  go_wp2
  go_quiet ((first | (go_at_call 69; exact Calls.quiet_of_same (row_any _ _)) | (go_at_call 110; exact Calls.quiet_of_same (dd_ne _ _ _ _ hne))))
  go_wp2
  exact bodyPost_ret (v := .agg #[.int .i64 a0, .int .i64 (pastDD a1 b1), .int .u8 a2, .int .i64 a3, .int .i64 a4]) (by simp [results, Tryd.results21, go_sem]) rfl ⟨rfl, below_drewN (below_alloc (below_alloc (below_alloc (Below.refl _ _) _) _) _) _⟩

set_option maxHeartbeats 400000 in
theorem shift_22e (a0 a1 a2 a3 a4 b0  b2 b3 b4 : Int) (f : Bool) (w : World) (r1 : rowOf a0 = 2) (r2 : rowOf b0 = 2) (hr : w.cell? ⟨0, 8, none⟩ = some (.func (.func 110) #[] #[])) :
    Calls Tryd.prog 21 #[.agg #[.int .i64 a0, .int .i64 a1, .int .u8 a2, .int .i64 a3, .int .i64 a4], .agg #[.int .i64 b0, .int .i64 a1, .int .u8 b2, .int .i64 b3, .int .i64 b4], .bool f] w fun e w' => e = .returned (.agg #[.int .i64 0, .int .i64 0, .int .u8 0, .int .i64 a3, .int .i64 a4]) ∧ Below w.heap.size w w' := by
  have hz : 0 < w.heap.size := World.block_lt_of_cell? w _ hr
  go_enter Tryd.func21, Tryd.ntmps21
  go_wp2
  go_quiet ((first | (go_at_call 69; exact Calls.quiet_of_same (row_any _ _)) | (go_at_call 110; exact Calls.quiet_of_same (dd_eq _ _ _))))
  go_wp2
  exact bodyPost_ret (v := .agg #[.int .i64 0, .int .i64 0, .int .u8 0, .int .i64 a3, .int .i64 a4]) (by simp [results, Tryd.results21, go_sem]) rfl ⟨rfl, below_drewN (below_alloc (below_alloc (below_alloc (Below.refl _ _) _) _) _) _⟩

/-- What the walks ask of the table of rules: its nine cells. -/
structure RulesAt (w : World) : Prop where
  c0 : w.cell? ⟨0, 0, none⟩ = some (.func (.func 106) #[] #[])
  c1 : w.cell? ⟨0, 1, none⟩ = some (.func (.func 106) #[] #[])
  c2 : w.cell? ⟨0, 2, none⟩ = some (.func (.func 106) #[] #[])
  c3 : w.cell? ⟨0, 3, none⟩ = some (.func (.func 106) #[] #[])
  c4 : w.cell? ⟨0, 4, none⟩ = some (.func (.func 107) #[] #[])
  c5 : w.cell? ⟨0, 5, none⟩ = some (.func (.func 108) #[] #[])
  c6 : w.cell? ⟨0, 6, none⟩ = some (.func (.func 106) #[] #[])
  c7 : w.cell? ⟨0, 7, none⟩ = some (.func (.func 109) #[] #[])
  c8 : w.cell? ⟨0, 8, none⟩ = some (.func (.func 110) #[] #[])
theorem RulesAt.below {w w1 : World} (h : RulesAt w) {B : Nat} (hb : Below B w w1) (hB : 0 < B) : RulesAt w1 :=
  have k : ∀ i, w1.cell? ⟨0, i, none⟩ = w.cell? ⟨0, i, none⟩ := fun i => hb.cell (p := ⟨0, i, none⟩) hB
  ⟨(k _).trans h.c0, (k _).trans h.c1, (k _).trans h.c2, (k _).trans h.c3, (k _).trans h.c4, (k _).trans h.c5, (k _).trans h.c6, (k _).trans h.c7, (k _).trans h.c8⟩
theorem RulesAt.pos {w : World} (h : RulesAt w) : 0 < w.heap.size := World.block_lt_of_cell? w _ h.c0
/-- The same where all that was there stays. -/
theorem RulesAt.on {w w1 : World} (h : RulesAt w) (hb : Below w.heap.size w w1) : RulesAt w1 := h.below hb h.pos

/-- SHIFT: of whatever operations it answers 'shift', and writes nothing that was there. -/
theorem shift_any (a0 a1 a2 a3 a4 b0 b1 b2 b3 b4 : Int) (f : Bool) (w : World) (hr : RulesAt w) :
    Calls Tryd.prog 21 #[.agg #[.int .i64 a0, .int .i64 a1, .int .u8 a2, .int .i64 a3, .int .i64 a4], .agg #[.int .i64 b0, .int .i64 b1, .int .u8 b2, .int .i64 b3, .int .i64 b4], .bool f] w fun e w' => e = .returned (opv (shift ⟨a0, a1, a2, a3, a4⟩ ⟨b0, b1, b2, b3, b4⟩ f)) ∧ Below w.heap.size w w' := by
  have hop : ∀ a b : Int, (rowOf a = 0 ∧ a ≠ 1 ∧ a ≠ 2) ∨ (rowOf a = 1 ∧ a = 1) ∨ (rowOf a = 2 ∧ a = 2) := by
    intro a _
    unfold rowOf
    by_cases h1 : a = 1
    · simp [h1]
    · by_cases h2 : a = 2
      · simp [h2]
      · simp [h1, h2]
  rcases hop a0 0 with ⟨ra, na1, na2⟩ | ⟨ra, rfl⟩ | ⟨ra, rfl⟩
  · rcases hop b0 0 with ⟨rb, nb1, nb2⟩ | ⟨rb, rfl⟩ | ⟨rb, rfl⟩
    · exact (shift_00 _ _ _ _ _ _ _ _ _ _ f w ra rb hr.c0).mono fun e w' ⟨he, hb⟩ => ⟨by rw [he]; simp [shift, opv, na1, na2], hb⟩
    · exact (shift_01 _ _ _ _ _ _ _ _ _ _ f w ra rb hr.c1).mono fun e w' ⟨he, hb⟩ => ⟨by rw [he]; simp [shift, opv, na1, na2], hb⟩
    · exact (shift_02 _ _ _ _ _ _ _ _ _ _ f w ra rb hr.c2).mono fun e w' ⟨he, hb⟩ => ⟨by rw [he]; simp [shift, opv, na1, na2], hb⟩
  · rcases hop b0 0 with ⟨rb, nb1, nb2⟩ | ⟨rb, rfl⟩ | ⟨rb, rfl⟩
    · exact (shift_10 _ _ _ _ _ _ _ _ _ _ f w ra rb hr.c3).mono fun e w' ⟨he, hb⟩ => ⟨by rw [he]; simp [shift, opv, nb1, nb2], hb⟩
    · exact (shift_11 _ _ _ _ _ _ _ _ _ _ f w ra rb hr.c4).mono fun e w' ⟨he, hb⟩ => ⟨by rw [he]; simp [shift, opv], hb⟩
    · exact (shift_12 _ _ _ _ _ _ _ _ _ _ f w ra rb hr.c5).mono fun e w' ⟨he, hb⟩ => ⟨by rw [he]; simp [shift, opv], hb⟩
  · rcases hop b0 0 with ⟨rb, nb1, nb2⟩ | ⟨rb, rfl⟩ | ⟨rb, rfl⟩
    · exact (shift_20 _ _ _ _ _ _ _ _ _ _ f w ra rb hr.c6).mono fun e w' ⟨he, hb⟩ => ⟨by rw [he]; simp [shift, opv, nb1, nb2], hb⟩
    · exact (shift_21 _ _ _ _ _ _ _ _ _ _ f w ra rb hr.c7).mono fun e w' ⟨he, hb⟩ => ⟨by rw [he]; simp [shift, opv], hb⟩
    · by_cases h : b1 = a1
      · subst h
        exact (shift_22e _ _ _ _ _ _ _ _ _ f w ra rb hr.c8).mono fun e w' ⟨he, hb⟩ => ⟨by rw [he]; simp [shift, opv], hb⟩
      · exact (shift_22n _ _ _ _ _ _ _ _ _ _ f w ra rb h hr.c8).mono fun e w' ⟨he, hb⟩ => ⟨by rw [he]; simp [shift, opv, h], hb⟩
end Go.Proofs.YtkicbnkacjnhoaaDoor
