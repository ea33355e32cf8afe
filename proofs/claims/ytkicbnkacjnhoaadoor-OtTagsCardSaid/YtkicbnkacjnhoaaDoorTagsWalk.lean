/- The walk of jotterlaw05.OtTags: it answers true. -/
import Derived.Test.YtkicbnkacjnhoaaDoorPast
namespace Go.Proofs.YtkicbnkacjnhoaaDoor
open Go.RowKit
set_option linter.unusedVariables false
set_option linter.unusedSimpArgs false

theorem shift_is (a0 a1 a2 a3 a4 b0 b1 b2 b3 b4 x0 x1 x2 x3 x4 : Int) (f : Bool) (w : World) (hr : RulesAt w) (h : shift ⟨a0, a1, a2, a3, a4⟩ ⟨b0, b1, b2, b3, b4⟩ f = ⟨x0, x1, x2, x3, x4⟩) :
    Calls Tryd.prog 21 #[.agg #[.int .i64 a0, .int .i64 a1, .int .u8 a2, .int .i64 a3, .int .i64 a4], .agg #[.int .i64 b0, .int .i64 b1, .int .u8 b2, .int .i64 b3, .int .i64 b4], .bool f] w fun e w' =>
      e = .returned (.agg #[.int .i64 x0, .int .i64 x1, .int .u8 x2, .int .i64 x3, .int .i64 x4]) ∧ Below w.heap.size w w' :=
  (shift_any a0 a1 a2 a3 a4 b0 b1 b2 b3 b4 f w hr).mono fun e w' ⟨he, hb⟩ => ⟨by rw [he, h]; rfl, hb⟩

set_option maxHeartbeats 1000000 in
theorem tags_nb (a0 a1 a2 a3 a4 b0 b1 b2 b3 b4 : Int) (f : Bool) (w : World) (hr : RulesAt w) (n1 : b0 ≠ 1) (n2 : b0 ≠ 2) (h : shift ⟨a0, a1, a2, a3, a4⟩ ⟨b0, b1, b2, b3, b4⟩ f = ⟨a0, a1, a2, a3, a4⟩) :
    Calls Tryd.prog 3 #[.agg #[.int .i64 a0, .int .i64 a1, .int .u8 a2, .int .i64 a3, .int .i64 a4], .agg #[.int .i64 b0, .int .i64 b1, .int .u8 b2, .int .i64 b3, .int .i64 b4], .bool f] w fun e w' => e = .returned (.bool true) ∧ Below w.heap.size w w' := by
  have m1 : (b0 != 1) = true := by simpa using n1
  have m2 : (b0 != 2) = true := by simpa using n2
  have hq : opEq ⟨a0, a1, a2, a3, a4⟩ ⟨a0, a1, a2, a3, a4⟩ = true := opEq_true.2 rfl
  have H := Lib.hid h
  clear h
  go_enter Tryd.func3, Tryd.ntmps3
  go_wp2_with fail
  with_reducible refine (shift_is _ _ _ _ _ _ _ _ _ _ _ _ _ _ _ _ _ (hr.on (below_alloc (below_alloc (Below.refl _ _) _) _)) H.out).mono ?_
  rintro e w1 ⟨rfl, hb1⟩
  have kA := ((Blk.new w _ _).alloc _).on hb1
  have kB := (Blk.new1 w _ _ _).on hb1
  have B1 : Below w.heap.size w w1 := (below_alloc (below_alloc (Below.refl _ _) _) _).trans (hb1.mono (by simp; omega))
  have lA := kA.lt
  have lB := kB.lt
  obtain ⟨e0, e1, e2, e3, e4⟩ := kA.cells5
  obtain ⟨f0, f1, f2, f3, f4⟩ := kB.cells5
  clear hb1
  go_wp2
  all_goals (go_ret; exact ⟨rfl, below_alloc B1 _⟩)

set_option maxHeartbeats 1000000 in
theorem tags_na1 (a0 a1 a2 a3 a4 b1 b2 b3 b4 : Int) (f : Bool) (w : World) (hr : RulesAt w) (n1 : a0 ≠ 1) (n2 : a0 ≠ 2) (h : shift ⟨a0, a1, a2, a3, a4⟩ ⟨1, b1, b2, b3, b4⟩ f = ⟨a0, a1, a2, a3, a4⟩) :
    Calls Tryd.prog 3 #[.agg #[.int .i64 a0, .int .i64 a1, .int .u8 a2, .int .i64 a3, .int .i64 a4], .agg #[.int .i64 1, .int .i64 b1, .int .u8 b2, .int .i64 b3, .int .i64 b4], .bool f] w fun e w' => e = .returned (.bool true) ∧ Below w.heap.size w w' := by
  have m1 : (a0 != 1) = true := by simpa using n1
  have m2 : (a0 != 2) = true := by simpa using n2
  have hq : opEq ⟨a0, a1, a2, a3, a4⟩ ⟨a0, a1, a2, a3, a4⟩ = true := opEq_true.2 rfl
  have H := Lib.hid h
  clear h
  go_enter Tryd.func3, Tryd.ntmps3
  go_wp2_with fail
  with_reducible refine (shift_is _ _ _ _ _ _ _ _ _ _ _ _ _ _ _ _ _ (hr.on (below_alloc (below_alloc (Below.refl _ _) _) _)) H.out).mono ?_
  rintro e w1 ⟨rfl, hb1⟩
  have kA := ((Blk.new w _ _).alloc _).on hb1
  have kB := (Blk.new1 w _ _ _).on hb1
  have B1 : Below w.heap.size w w1 := (below_alloc (below_alloc (Below.refl _ _) _) _).trans (hb1.mono (by simp; omega))
  have lA := kA.lt
  have lB := kB.lt
  obtain ⟨e0, e1, e2, e3, e4⟩ := kA.cells5
  obtain ⟨f0, f1, f2, f3, f4⟩ := kB.cells5
  clear hb1
  go_wp2
  all_goals (go_ret; exact ⟨rfl, below_alloc B1 _⟩)

set_option maxHeartbeats 1000000 in
theorem tags_na2 (a0 a1 a2 a3 a4 b1 b2 b3 b4 : Int) (f : Bool) (w : World) (hr : RulesAt w) (n1 : a0 ≠ 1) (n2 : a0 ≠ 2) (h : shift ⟨a0, a1, a2, a3, a4⟩ ⟨2, b1, b2, b3, b4⟩ f = ⟨a0, a1, a2, a3, a4⟩) :
    Calls Tryd.prog 3 #[.agg #[.int .i64 a0, .int .i64 a1, .int .u8 a2, .int .i64 a3, .int .i64 a4], .agg #[.int .i64 2, .int .i64 b1, .int .u8 b2, .int .i64 b3, .int .i64 b4], .bool f] w fun e w' => e = .returned (.bool true) ∧ Below w.heap.size w w' := by
  have m1 : (a0 != 1) = true := by simpa using n1
  have m2 : (a0 != 2) = true := by simpa using n2
  have hq : opEq ⟨a0, a1, a2, a3, a4⟩ ⟨a0, a1, a2, a3, a4⟩ = true := opEq_true.2 rfl
  have H := Lib.hid h
  clear h
  go_enter Tryd.func3, Tryd.ntmps3
  go_wp2_with fail
  with_reducible refine (shift_is _ _ _ _ _ _ _ _ _ _ _ _ _ _ _ _ _ (hr.on (below_alloc (below_alloc (Below.refl _ _) _) _)) H.out).mono ?_
  rintro e w1 ⟨rfl, hb1⟩
  have kA := ((Blk.new w _ _).alloc _).on hb1
  have kB := (Blk.new1 w _ _ _).on hb1
  have B1 : Below w.heap.size w w1 := (below_alloc (below_alloc (Below.refl _ _) _) _).trans (hb1.mono (by simp; omega))
  have lA := kA.lt
  have lB := kB.lt
  obtain ⟨e0, e1, e2, e3, e4⟩ := kA.cells5
  obtain ⟨f0, f1, f2, f3, f4⟩ := kB.cells5
  clear hb1
  go_wp2
  all_goals (go_ret; exact ⟨rfl, below_alloc B1 _⟩)

set_option maxHeartbeats 1000000 in
theorem tags_dd (a1 a2 a3 a4 b2 b3 b4 : Int) (f : Bool) (w : World) (hr : RulesAt w) (h : shift ⟨2, a1, a2, a3, a4⟩ ⟨2, a1, b2, b3, b4⟩ f = ⟨0, 0, 0, a3, a4⟩) :
    Calls Tryd.prog 3 #[.agg #[.int .i64 2, .int .i64 a1, .int .u8 a2, .int .i64 a3, .int .i64 a4], .agg #[.int .i64 2, .int .i64 a1, .int .u8 b2, .int .i64 b3, .int .i64 b4], .bool f] w fun e w' => e = .returned (.bool true) ∧ Below w.heap.size w w' := by
  have H := Lib.hid h
  clear h
  go_enter Tryd.func3, Tryd.ntmps3
  go_wp2_with fail
  with_reducible refine (shift_is _ _ _ _ _ _ _ _ _ _ _ _ _ _ _ _ _ (hr.on (below_alloc (below_alloc (Below.refl _ _) _) _)) H.out).mono ?_
  rintro e w1 ⟨rfl, hb1⟩
  have kA := ((Blk.new w _ _).alloc _).on hb1
  have kB := (Blk.new1 w _ _ _).on hb1
  have B1 : Below w.heap.size w w1 := (below_alloc (below_alloc (Below.refl _ _) _) _).trans (hb1.mono (by simp; omega))
  have lA := kA.lt
  have lB := kB.lt
  obtain ⟨e0, e1, e2, e3, e4⟩ := kA.cells5
  obtain ⟨f0, f1, f2, f3, f4⟩ := kB.cells5
  clear hb1
  go_wp2
  all_goals (go_ret; exact ⟨rfl, below_alloc B1 _⟩)

set_option maxHeartbeats 1000000 in
theorem tags_11s (a1 a2 a3 a4 b1 b2 b3 b4 : Int) (f : Bool) (w : World) (hr : RulesAt w) (h : shift ⟨1, a1, a2, a3, a4⟩ ⟨1, b1, b2, b3, b4⟩ f = ⟨1, a1, a2, a3, a4⟩) :
    Calls Tryd.prog 3 #[.agg #[.int .i64 1, .int .i64 a1, .int .u8 a2, .int .i64 a3, .int .i64 a4], .agg #[.int .i64 1, .int .i64 b1, .int .u8 b2, .int .i64 b3, .int .i64 b4], .bool f] w fun e w' => e = .returned (.bool true) ∧ Below w.heap.size w w' := by
  have H := Lib.hid h
  clear h
  go_enter Tryd.func3, Tryd.ntmps3
  go_wp2_with fail
  with_reducible refine (shift_is _ _ _ _ _ _ _ _ _ _ _ _ _ _ _ _ _ (hr.on (below_alloc (below_alloc (Below.refl _ _) _) _)) H.out).mono ?_
  rintro e w1 ⟨rfl, hb1⟩
  have kA := ((Blk.new w _ _).alloc _).on hb1
  have kB := (Blk.new1 w _ _ _).on hb1
  have B1 : Below w.heap.size w w1 := (below_alloc (below_alloc (Below.refl _ _) _) _).trans (hb1.mono (by simp; omega))
  have lA := kA.lt
  have lB := kB.lt
  obtain ⟨e0, e1, e2, e3, e4⟩ := kA.cells5
  obtain ⟨f0, f1, f2, f3, f4⟩ := kB.cells5
  clear hb1
  go_wp2
  all_goals (go_ret; exact ⟨rfl, below_alloc B1 _⟩)

set_option maxHeartbeats 1000000 in
theorem tags_11m (a1 a2 a3 a4 b1 b2 b3 b4 : Int) (f : Bool) (w : World) (hr : RulesAt w) (h : shift ⟨1, a1, a2, a3, a4⟩ ⟨1, b1, b2, b3, b4⟩ f = ⟨1, wrap64 (a1 + 1), a2, a3, a4⟩) :
    Calls Tryd.prog 3 #[.agg #[.int .i64 1, .int .i64 a1, .int .u8 a2, .int .i64 a3, .int .i64 a4], .agg #[.int .i64 1, .int .i64 b1, .int .u8 b2, .int .i64 b3, .int .i64 b4], .bool f] w fun e w' => e = .returned (.bool true) ∧ Below w.heap.size w w' := by
  have H := Lib.hid h
  clear h
  go_enter Tryd.func3, Tryd.ntmps3
  go_wp2_with fail
  with_reducible refine (shift_is _ _ _ _ _ _ _ _ _ _ _ _ _ _ _ _ _ (hr.on (below_alloc (below_alloc (Below.refl _ _) _) _)) H.out).mono ?_
  rintro e w1 ⟨rfl, hb1⟩
  have kA := ((Blk.new w _ _).alloc _).on hb1
  have kB := (Blk.new1 w _ _ _).on hb1
  have B1 : Below w.heap.size w w1 := (below_alloc (below_alloc (Below.refl _ _) _) _).trans (hb1.mono (by simp; omega))
  have lA := kA.lt
  have lB := kB.lt
  obtain ⟨e0, e1, e2, e3, e4⟩ := kA.cells5
  obtain ⟨f0, f1, f2, f3, f4⟩ := kB.cells5
  clear hb1
  go_wp2
  all_goals (go_ret; exact ⟨rfl, below_alloc B1 _⟩)

set_option maxHeartbeats 1000000 in
theorem tags_12s (a1 a2 a3 a4 b1 b2 b3 b4 : Int) (f : Bool) (w : World) (hr : RulesAt w) (h : shift ⟨1, a1, a2, a3, a4⟩ ⟨2, b1, b2, b3, b4⟩ f = ⟨1, a1, a2, a3, a4⟩) :
    Calls Tryd.prog 3 #[.agg #[.int .i64 1, .int .i64 a1, .int .u8 a2, .int .i64 a3, .int .i64 a4], .agg #[.int .i64 2, .int .i64 b1, .int .u8 b2, .int .i64 b3, .int .i64 b4], .bool f] w fun e w' => e = .returned (.bool true) ∧ Below w.heap.size w w' := by
  have H := Lib.hid h
  clear h
  go_enter Tryd.func3, Tryd.ntmps3
  go_wp2_with fail
  with_reducible refine (shift_is _ _ _ _ _ _ _ _ _ _ _ _ _ _ _ _ _ (hr.on (below_alloc (below_alloc (Below.refl _ _) _) _)) H.out).mono ?_
  rintro e w1 ⟨rfl, hb1⟩
  have kA := ((Blk.new w _ _).alloc _).on hb1
  have kB := (Blk.new1 w _ _ _).on hb1
  have B1 : Below w.heap.size w w1 := (below_alloc (below_alloc (Below.refl _ _) _) _).trans (hb1.mono (by simp; omega))
  have lA := kA.lt
  have lB := kB.lt
  obtain ⟨e0, e1, e2, e3, e4⟩ := kA.cells5
  obtain ⟨f0, f1, f2, f3, f4⟩ := kB.cells5
  clear hb1
  go_wp2
  all_goals (go_ret; exact ⟨rfl, below_alloc B1 _⟩)

set_option maxHeartbeats 1000000 in
theorem tags_12m (a1 a2 a3 a4 b1 b2 b3 b4 : Int) (f : Bool) (w : World) (hr : RulesAt w) (h : shift ⟨1, a1, a2, a3, a4⟩ ⟨2, b1, b2, b3, b4⟩ f = ⟨1, wrap64 (a1 - 1), a2, a3, a4⟩) :
    Calls Tryd.prog 3 #[.agg #[.int .i64 1, .int .i64 a1, .int .u8 a2, .int .i64 a3, .int .i64 a4], .agg #[.int .i64 2, .int .i64 b1, .int .u8 b2, .int .i64 b3, .int .i64 b4], .bool f] w fun e w' => e = .returned (.bool true) ∧ Below w.heap.size w w' := by
  have H := Lib.hid h
  clear h
  go_enter Tryd.func3, Tryd.ntmps3
  go_wp2_with fail
  with_reducible refine (shift_is _ _ _ _ _ _ _ _ _ _ _ _ _ _ _ _ _ (hr.on (below_alloc (below_alloc (Below.refl _ _) _) _)) H.out).mono ?_
  rintro e w1 ⟨rfl, hb1⟩
  have kA := ((Blk.new w _ _).alloc _).on hb1
  have kB := (Blk.new1 w _ _ _).on hb1
  have B1 : Below w.heap.size w w1 := (below_alloc (below_alloc (Below.refl _ _) _) _).trans (hb1.mono (by simp; omega))
  have lA := kA.lt
  have lB := kB.lt
  obtain ⟨e0, e1, e2, e3, e4⟩ := kA.cells5
  obtain ⟨f0, f1, f2, f3, f4⟩ := kB.cells5
  clear hb1
  go_wp2
  all_goals (go_ret; exact ⟨rfl, below_alloc B1 _⟩)

set_option maxHeartbeats 1000000 in
theorem tags_21s (a1 a2 a3 a4 b1 b2 b3 b4 : Int) (f : Bool) (w : World) (hr : RulesAt w) (h : shift ⟨2, a1, a2, a3, a4⟩ ⟨1, b1, b2, b3, b4⟩ f = ⟨2, a1, a2, a3, a4⟩) :
    Calls Tryd.prog 3 #[.agg #[.int .i64 2, .int .i64 a1, .int .u8 a2, .int .i64 a3, .int .i64 a4], .agg #[.int .i64 1, .int .i64 b1, .int .u8 b2, .int .i64 b3, .int .i64 b4], .bool f] w fun e w' => e = .returned (.bool true) ∧ Below w.heap.size w w' := by
  have H := Lib.hid h
  clear h
  go_enter Tryd.func3, Tryd.ntmps3
  go_wp2_with fail
  with_reducible refine (shift_is _ _ _ _ _ _ _ _ _ _ _ _ _ _ _ _ _ (hr.on (below_alloc (below_alloc (Below.refl _ _) _) _)) H.out).mono ?_
  rintro e w1 ⟨rfl, hb1⟩
  have kA := ((Blk.new w _ _).alloc _).on hb1
  have kB := (Blk.new1 w _ _ _).on hb1
  have B1 : Below w.heap.size w w1 := (below_alloc (below_alloc (Below.refl _ _) _) _).trans (hb1.mono (by simp; omega))
  have lA := kA.lt
  have lB := kB.lt
  obtain ⟨e0, e1, e2, e3, e4⟩ := kA.cells5
  obtain ⟨f0, f1, f2, f3, f4⟩ := kB.cells5
  clear hb1
  go_wp2
  all_goals (go_ret; exact ⟨rfl, below_alloc B1 _⟩)

set_option maxHeartbeats 1000000 in
theorem tags_21m (a1 a2 a3 a4 b1 b2 b3 b4 : Int) (f : Bool) (w : World) (hr : RulesAt w) (h : shift ⟨2, a1, a2, a3, a4⟩ ⟨1, b1, b2, b3, b4⟩ f = ⟨2, wrap64 (a1 + 1), a2, a3, a4⟩) :
    Calls Tryd.prog 3 #[.agg #[.int .i64 2, .int .i64 a1, .int .u8 a2, .int .i64 a3, .int .i64 a4], .agg #[.int .i64 1, .int .i64 b1, .int .u8 b2, .int .i64 b3, .int .i64 b4], .bool f] w fun e w' => e = .returned (.bool true) ∧ Below w.heap.size w w' := by
  have H := Lib.hid h
  clear h
  go_enter Tryd.func3, Tryd.ntmps3
  go_wp2_with fail
  with_reducible refine (shift_is _ _ _ _ _ _ _ _ _ _ _ _ _ _ _ _ _ (hr.on (below_alloc (below_alloc (Below.refl _ _) _) _)) H.out).mono ?_
  rintro e w1 ⟨rfl, hb1⟩
  have kA := ((Blk.new w _ _).alloc _).on hb1
  have kB := (Blk.new1 w _ _ _).on hb1
  have B1 : Below w.heap.size w w1 := (below_alloc (below_alloc (Below.refl _ _) _) _).trans (hb1.mono (by simp; omega))
  have lA := kA.lt
  have lB := kB.lt
  obtain ⟨e0, e1, e2, e3, e4⟩ := kA.cells5
  obtain ⟨f0, f1, f2, f3, f4⟩ := kB.cells5
  clear hb1
  go_wp2
  all_goals (go_ret; exact ⟨rfl, below_alloc B1 _⟩)

set_option maxHeartbeats 1000000 in
theorem tags_22s (a1 a2 a3 a4 b1 b2 b3 b4 : Int) (f : Bool) (w : World) (hr : RulesAt w) (hne : a1 ≠ b1) (h : shift ⟨2, a1, a2, a3, a4⟩ ⟨2, b1, b2, b3, b4⟩ f = ⟨2, a1, a2, a3, a4⟩) :
    Calls Tryd.prog 3 #[.agg #[.int .i64 2, .int .i64 a1, .int .u8 a2, .int .i64 a3, .int .i64 a4], .agg #[.int .i64 2, .int .i64 b1, .int .u8 b2, .int .i64 b3, .int .i64 b4], .bool f] w fun e w' => e = .returned (.bool true) ∧ Below w.heap.size w w' := by
  have m1 : (a1 == b1) = false := by simpa using hne
  have H := Lib.hid h
  clear h
  go_enter Tryd.func3, Tryd.ntmps3
  go_wp2_with fail
  with_reducible refine (shift_is _ _ _ _ _ _ _ _ _ _ _ _ _ _ _ _ _ (hr.on (below_alloc (below_alloc (Below.refl _ _) _) _)) H.out).mono ?_
  rintro e w1 ⟨rfl, hb1⟩
  have kA := ((Blk.new w _ _).alloc _).on hb1
  have kB := (Blk.new1 w _ _ _).on hb1
  have B1 : Below w.heap.size w w1 := (below_alloc (below_alloc (Below.refl _ _) _) _).trans (hb1.mono (by simp; omega))
  have lA := kA.lt
  have lB := kB.lt
  obtain ⟨e0, e1, e2, e3, e4⟩ := kA.cells5
  obtain ⟨f0, f1, f2, f3, f4⟩ := kB.cells5
  clear hb1
  go_wp2
  all_goals (go_ret; exact ⟨rfl, below_alloc B1 _⟩)

set_option maxHeartbeats 1000000 in
theorem tags_22m (a1 a2 a3 a4 b1 b2 b3 b4 : Int) (f : Bool) (w : World) (hr : RulesAt w) (hne : a1 ≠ b1) (h : shift ⟨2, a1, a2, a3, a4⟩ ⟨2, b1, b2, b3, b4⟩ f = ⟨2, wrap64 (a1 - 1), a2, a3, a4⟩) :
    Calls Tryd.prog 3 #[.agg #[.int .i64 2, .int .i64 a1, .int .u8 a2, .int .i64 a3, .int .i64 a4], .agg #[.int .i64 2, .int .i64 b1, .int .u8 b2, .int .i64 b3, .int .i64 b4], .bool f] w fun e w' => e = .returned (.bool true) ∧ Below w.heap.size w w' := by
  have m1 : (a1 == b1) = false := by simpa using hne
  have H := Lib.hid h
  clear h
  go_enter Tryd.func3, Tryd.ntmps3
  go_wp2_with fail
  with_reducible refine (shift_is _ _ _ _ _ _ _ _ _ _ _ _ _ _ _ _ _ (hr.on (below_alloc (below_alloc (Below.refl _ _) _) _)) H.out).mono ?_
  rintro e w1 ⟨rfl, hb1⟩
  have kA := ((Blk.new w _ _).alloc _).on hb1
  have kB := (Blk.new1 w _ _ _).on hb1
  have B1 : Below w.heap.size w w1 := (below_alloc (below_alloc (Below.refl _ _) _) _).trans (hb1.mono (by simp; omega))
  have lA := kA.lt
  have lB := kB.lt
  obtain ⟨e0, e1, e2, e3, e4⟩ := kA.cells5
  obtain ⟨f0, f1, f2, f3, f4⟩ := kB.cells5
  clear hb1
  go_wp2
  all_goals (go_ret; exact ⟨rfl, below_alloc B1 _⟩)

theorem tags_any (a0 a1 a2 a3 a4 b0 b1 b2 b3 b4 : Int) (f : Bool) (w : World) (hr : RulesAt w) :
    Calls Tryd.prog 3 #[.agg #[.int .i64 a0, .int .i64 a1, .int .u8 a2, .int .i64 a3, .int .i64 a4], .agg #[.int .i64 b0, .int .i64 b1, .int .u8 b2, .int .i64 b3, .int .i64 b4], .bool f] w fun e w' => e = .returned (.bool true) ∧ Below w.heap.size w w' := by
  by_cases kb1 : b0 = 1
  · subst kb1
    by_cases ka1 : a0 = 1
    · subst ka1
      by_cases hc : b1 < a1 ∨ (b1 = a1 ∧ f = false)
      · exact tags_11m _ _ _ _ _ _ _ _ f w hr (by have e : pastII a1 b1 f = wrap64 (a1 + 1) := if_pos hc; simp [shift, e])
      · exact tags_11s _ _ _ _ _ _ _ _ f w hr (by have e : pastII a1 b1 f = a1 := if_neg hc; simp [shift, e])
    · by_cases ka2 : a0 = 2
      · subst ka2
        by_cases hc : b1 ≤ a1
        · exact tags_21m _ _ _ _ _ _ _ _ f w hr (by have e : pastDI a1 b1 = wrap64 (a1 + 1) := if_pos hc; simp [shift, e])
        · exact tags_21s _ _ _ _ _ _ _ _ f w hr (by have e : pastDI a1 b1 = a1 := if_neg hc; simp [shift, e])
      · exact tags_na1 _ _ _ _ _ _ _ _ _ f w hr ka1 ka2 (by simp [shift, ka1, ka2])
  · by_cases kb2 : b0 = 2
    · subst kb2
      by_cases ka1 : a0 = 1
      · subst ka1
        by_cases hc : b1 < a1
        · exact tags_12m _ _ _ _ _ _ _ _ f w hr (by have e : pastID a1 b1 = wrap64 (a1 - 1) := if_pos hc; simp [shift, e])
        · exact tags_12s _ _ _ _ _ _ _ _ f w hr (by have e : pastID a1 b1 = a1 := if_neg hc; simp [shift, e])
      · by_cases ka2 : a0 = 2
        · subst ka2
          by_cases hne : a1 = b1
          · subst hne
            exact tags_dd _ _ _ _ _ _ _ f w hr (by simp [shift])
          · by_cases hc : b1 < a1
            · exact tags_22m _ _ _ _ _ _ _ _ f w hr hne (by have e : pastDD a1 b1 = wrap64 (a1 - 1) := if_pos hc; simp [shift, e, Ne.symm hne])
            · exact tags_22s _ _ _ _ _ _ _ _ f w hr hne (by have e : pastDD a1 b1 = a1 := if_neg hc; simp [shift, e, Ne.symm hne])
        · exact tags_na2 _ _ _ _ _ _ _ _ _ f w hr ka1 ka2 (by simp [shift, ka1, ka2])
    · exact tags_nb _ _ _ _ _ _ _ _ _ _ f w hr kb1 kb2 (by simp [shift, kb1, kb2])
end Go.Proofs.YtkicbnkacjnhoaaDoor
