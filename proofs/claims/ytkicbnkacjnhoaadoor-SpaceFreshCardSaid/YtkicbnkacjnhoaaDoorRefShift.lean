/- The walks of jotterref05.Shift and what it calls. -/
import Derived.Test.YtkicbnkacjnhoaaDoorPast
namespace Go.Proofs.YtkicbnkacjnhoaaDoor
open Go.RowKit
set_option linter.unusedVariables false
set_option linter.unusedSimpArgs false

def actsB (k : Int) : Bool := decide (k = 1 ∨ k = 2)
set_option maxHeartbeats 400000 in
theorem acts_any (a0 a1 a2 a3 a4 : Int) (w : World) :
    Calls Tryd.prog 70 #[.agg #[.int .i64 a0, .int .i64 a1, .int .u8 a2, .int .i64 a3, .int .i64 a4]] w fun e w' => e = .returned (.bool (actsB a0)) ∧ Below w.heap.size w w' := by
  by_cases h1 : a0 = 1
  · subst h1
    go_enter Tryd.func70, Tryd.ntmps70
    go_wp2
    go_ret
    exact ⟨rfl, below_alloc (Below.refl _ _) _⟩
  · have e1 : (a0 == 1) = false := by simpa using h1
    by_cases h2 : a0 = 2
    · subst h2
      go_enter Tryd.func70, Tryd.ntmps70
      go_wp2
      go_ret
      exact ⟨rfl, below_alloc (Below.refl _ _) _⟩
    · have e2 : (a0 == 2) = false := by simpa using h2
      have e3 : actsB a0 = false := by simp [actsB, h1, h2]
      go_enter Tryd.func70, Tryd.ntmps70
      go_wp2
      go_ret
      exact ⟨ret_bool e3.symm, below_alloc (Below.refl _ _) _⟩
def aheadB (b a : POp) (f : Bool) : Bool := if b.p ≠ a.p then decide (b.p < a.p) else if b.k = 1 ∧ a.k = 1 then !f else decide (b.k = 1 ∧ a.k = 2)
set_option maxHeartbeats 400000 in
theorem ahead_any (b0 b1 b2 b3 b4 a0 a1 a2 a3 a4 : Int) (f : Bool) (w : World) :
    Calls Tryd.prog 71 #[.agg #[.int .i64 b0, .int .i64 b1, .int .u8 b2, .int .i64 b3, .int .i64 b4], .agg #[.int .i64 a0, .int .i64 a1, .int .u8 a2, .int .i64 a3, .int .i64 a4], .bool f] w fun e w' => e = .returned (.bool (aheadB ⟨b0, b1, b2, b3, b4⟩ ⟨a0, a1, a2, a3, a4⟩ f)) ∧ Below w.heap.size w w' := by
  by_cases h1 : b1 = a1
  · subst h1
    by_cases h2 : b0 = 1
    · subst h2
      by_cases h3 : a0 = 1
      · subst h3
        go_enter Tryd.func71, Tryd.ntmps71
        go_wp2
        go_ret
        exact ⟨ret_bool (by simp [aheadB]), below_alloc (below_alloc (Below.refl _ _) _) _⟩
      · have e3 : (a0 == 1) = false := by simpa using h3
        by_cases h4 : a0 = 2
        · subst h4
          go_enter Tryd.func71, Tryd.ntmps71
          go_wp2
          go_ret
          exact ⟨ret_bool (by simp [aheadB]), below_alloc (below_alloc (Below.refl _ _) _) _⟩
        · have e4 : (a0 == 2) = false := by simpa using h4
          have e5 : aheadB ⟨1, b1, b2, b3, b4⟩ ⟨a0, b1, a2, a3, a4⟩ f = false := by simp [aheadB, h3, h4]
          go_enter Tryd.func71, Tryd.ntmps71
          go_wp2
          go_ret
          exact ⟨ret_bool e5.symm, below_alloc (below_alloc (Below.refl _ _) _) _⟩
    · have e2 : (b0 == 1) = false := by simpa using h2
      have e5 : aheadB ⟨b0, b1, b2, b3, b4⟩ ⟨a0, b1, a2, a3, a4⟩ f = false := by simp [aheadB, h2]
      go_enter Tryd.func71, Tryd.ntmps71
      go_wp2
      go_ret
      exact ⟨ret_bool e5.symm, below_alloc (below_alloc (Below.refl _ _) _) _⟩
  · have e1 : (b1 != a1) = true := by simpa using h1
    have e5 : aheadB ⟨b0, b1, b2, b3, b4⟩ ⟨a0, a1, a2, a3, a4⟩ f = decide (b1 < a1) := by simp [aheadB, h1]
    go_enter Tryd.func71, Tryd.ntmps71
    go_wp2
    go_ret
    exact ⟨ret_bool e5.symm, below_alloc (below_alloc (Below.refl _ _) _) _⟩

end Go.Proofs.YtkicbnkacjnhoaaDoor
