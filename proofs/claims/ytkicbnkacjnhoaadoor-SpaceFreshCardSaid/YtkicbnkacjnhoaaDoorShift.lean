/- The walks of package ot's rules and of Shift. -/
import Derived.Test.YtkicbnkacjnhoaaDoorBase
import Derived.Test.YtkicbnkacjnhoaaDoorOt
namespace Go.Proofs.YtkicbnkacjnhoaaDoor
open Go.RowKit
set_option linter.unusedVariables false
set_option linter.unusedSimpArgs false

set_option maxHeartbeats 400000 in
theorem stays_any (a b : Int) (f : Bool) (w : World) :
    Calls Tryd.prog 106 #[.int .i64 a, .int .i64 b, .bool f] w fun e w' => e = .returned (.tuple #[.int .i64 a, .bool true]) ∧ w' = w := by
  go_enter Tryd.func106, Tryd.ntmps106
  go_wp2
  go_ret2
  exact ⟨rfl, rfl⟩

set_option maxHeartbeats 400000 in
theorem row_any (k : Int) (w : World) :
    Calls Tryd.prog 69 #[.int .i64 k] w fun e w' => e = .returned (.int .i64 (rowOf k)) ∧ w' = w := by
  unfold rowOf
  by_cases h1 : k = 1
  · subst h1
    go_enter Tryd.func69, Tryd.ntmps69
    go_wp2
    go_ret
    exact ⟨rfl, rfl⟩
  · by_cases h2 : k = 2
    · subst h2
      go_enter Tryd.func69, Tryd.ntmps69
      go_wp2
      go_ret
      exact ⟨rfl, rfl⟩
    · have e1 : (k == 1) = false := by simpa using h1
      have e2 : (k == 2) = false := by simpa using h2
      go_enter Tryd.func69, Tryd.ntmps69
      go_wp2
      go_ret
      exact ⟨by simp [h1, h2], rfl⟩



set_option maxHeartbeats 400000 in
theorem ii_any (a b : Int) (f : Bool) (w : World) :
    Calls Tryd.prog 107 #[.int .i64 a, .int .i64 b, .bool f] w fun e w' => e = .returned (.tuple #[.int .i64 (pastII a b f), .bool true]) ∧ w' = w := by
  by_cases h1 : b < a
  · have e : pastII a b f = wrap64 (a + 1) := by simp [pastII, h1]
    rw [e]
    go_enter Tryd.func107, Tryd.ntmps107
    go_wp2
    go_ret2
    exact ⟨rfl, rfl⟩
  · by_cases h2 : b = a
    · subst h2
      cases f
      · have e : pastII b b false = wrap64 (b + 1) := by simp [pastII]
        rw [e]
        go_enter Tryd.func107, Tryd.ntmps107
        go_wp2
        go_ret2
        exact ⟨rfl, rfl⟩
      · have e : pastII b b true = b := by simp [pastII]
        rw [e]
        go_enter Tryd.func107, Tryd.ntmps107
        go_wp2
        go_ret2
        exact ⟨rfl, rfl⟩
    · have e : pastII a b f = a := by simp [pastII, h1, h2]
      rw [e]
      have e1 : (b == a) = false := by simpa using h2
      go_enter Tryd.func107, Tryd.ntmps107
      go_wp2
      go_ret2
      exact ⟨rfl, rfl⟩
set_option maxHeartbeats 400000 in
theorem id_any (a b : Int) (f : Bool) (w : World) :
    Calls Tryd.prog 108 #[.int .i64 a, .int .i64 b, .bool f] w fun e w' => e = .returned (.tuple #[.int .i64 (pastID a b), .bool true]) ∧ w' = w := by
  unfold pastID
  by_cases h1 : b < a
  · rw [if_pos h1]
    go_enter Tryd.func108, Tryd.ntmps108
    go_wp2
    go_ret2
    exact ⟨rfl, rfl⟩
  · rw [if_neg h1]
    go_enter Tryd.func108, Tryd.ntmps108
    go_wp2
    go_ret2
    exact ⟨rfl, rfl⟩
set_option maxHeartbeats 400000 in
theorem di_any (a b : Int) (f : Bool) (w : World) :
    Calls Tryd.prog 109 #[.int .i64 a, .int .i64 b, .bool f] w fun e w' => e = .returned (.tuple #[.int .i64 (pastDI a b), .bool true]) ∧ w' = w := by
  unfold pastDI
  by_cases h1 : b ≤ a
  · rw [if_pos h1]
    go_enter Tryd.func109, Tryd.ntmps109
    go_wp2
    go_ret2
    exact ⟨rfl, rfl⟩
  · rw [if_neg h1]
    go_enter Tryd.func109, Tryd.ntmps109
    go_wp2
    go_ret2
    exact ⟨rfl, rfl⟩
set_option maxHeartbeats 400000 in
theorem dd_ne (a b : Int) (f : Bool) (w : World) (hne : b ≠ a) :
    Calls Tryd.prog 110 #[.int .i64 a, .int .i64 b, .bool f] w fun e w' => e = .returned (.tuple #[.int .i64 (pastDD a b), .bool true]) ∧ w' = w := by
  unfold pastDD
  by_cases h1 : b < a
  · rw [if_pos h1]
    go_enter Tryd.func110, Tryd.ntmps110
    go_wp2
    go_ret2
    exact ⟨rfl, rfl⟩
  · rw [if_neg h1]
    have e1 : (b == a) = false := by simpa using hne
    go_enter Tryd.func110, Tryd.ntmps110
    go_wp2
    go_ret2
    exact ⟨rfl, rfl⟩
set_option maxHeartbeats 400000 in
theorem dd_eq (a : Int) (f : Bool) (w : World) :
    Calls Tryd.prog 110 #[.int .i64 a, .int .i64 a, .bool f] w fun e w' => e = .returned (.tuple #[.int .i64 0, .bool false]) ∧ w' = w := by
  go_enter Tryd.func110, Tryd.ntmps110
  go_wp2
  go_ret2
  exact ⟨rfl, rfl⟩
end Go.Proofs.YtkicbnkacjnhoaaDoor
