/- The walks of jotterlaw05.rest and jotterlaw05.bounded. -/
import Derived.Test.YtkicbnkacjnhoaaDoorPast
namespace Go.Proofs.YtkicbnkacjnhoaaDoor
open Go.RowKit
set_option linter.unusedVariables false
set_option linter.unusedSimpArgs false

theorem bounded_any (n : Int) (w : World) : Calls Tryd.prog 35 #[.int .i64 n] w fun e w' => ∃ k : Nat, k ≤ 4096 ∧ e = .returned (.int .i64 k) ∧ w' = w := by
  by_cases h1 : n < 0
  · go_enter Tryd.func35, Tryd.ntmps35
    go_wp2
    go_ret
    exact ⟨0, by omega, rfl, rfl⟩
  · by_cases h2 : 4096 < n
    · go_enter Tryd.func35, Tryd.ntmps35
      go_wp2
      go_ret
      exact ⟨4096, by omega, rfl, rfl⟩
    · go_enter Tryd.func35, Tryd.ntmps35
      go_wp2
      go_ret
      exact ⟨n.toNat, by omega, ret_int (show n = ((n.toNat : Nat) : Int) by omega), rfl⟩

theorem rest_any (a n : Int) (w : World) (hn : 1 ≤ n) (hN : n ≤ 4611686018427387904) : Calls Tryd.prog 25 #[.int .i64 a, .int .i64 n] w fun e w' => ∃ k : Nat, (k : Int) < n ∧ e = .returned (.int .i64 k) ∧ w' = w := by
  have h0 : n ≠ 0 := by omega
  have r1 : -n < Int.tmod a n := by
    have := Int.natAbs_tmod a n
    have h := Nat.mod_lt a.natAbs (show 0 < n.natAbs by omega)
    omega
  have r2 : Int.tmod a n < n := Int.tmod_lt_of_pos a (by omega)
  by_cases h : Int.tmod a n < 0
  · go_enter Tryd.func25, Tryd.ntmps25
    go_wp2
    go_ret
    exact ⟨(a.tmod n + n).toNat, by omega, ret_int (show a.tmod n + n = (((a.tmod n + n).toNat : Nat) : Int) by omega), rfl⟩
  · go_enter Tryd.func25, Tryd.ntmps25
    go_wp2
    go_ret
    exact ⟨(a.tmod n).toNat, by omega, ret_int (show a.tmod n = (((a.tmod n).toNat : Nat) : Int) by omega), rfl⟩
end Go.Proofs.YtkicbnkacjnhoaaDoor
