/- The walks of jotterlaw10's into, same (where both are the same), begun, sides. -/
import Derived.Test.YtkicbnkacjnhoaaDoorSide
namespace Go.Proofs.YtkicbnkacjnhoaaDoor
open Go.RowKit
set_option linter.unusedVariables false
set_option linter.unusedSimpArgs false

theorem tmod_lt (n m : Int) (hm : 1 ≤ m) : -m < n.tmod m ∧ n.tmod m < m := by
  have h1 := Int.tmod_lt_of_pos n (show 0 < m by omega)
  have h2 := Int.tmod_lt_of_pos (-n) (show 0 < m by omega)
  rw [Int.neg_tmod] at h2
  omega
theorem tmod_emod (n m : Int) (hm : 1 ≤ m) : n % m = n.tmod m % m := by
  have h := Int.mul_tdiv_add_tmod n m
  conv => lhs; rw [← h]
  rw [Int.add_comm, Int.add_mul_emod_self_left]
theorem tmod_neg_emod (n m : Int) (hm : 1 ≤ m) (h : n.tmod m < 0) : n % m = n.tmod m + m := by
  have h1 := tmod_lt n m hm
  rw [tmod_emod n m hm, ← Int.add_emod_right, Int.emod_eq_of_lt (by omega) (by omega)]
theorem tmod_pos_emod (n m : Int) (hm : 1 ≤ m) (h : ¬ n.tmod m < 0) : n % m = n.tmod m := by
  have h1 := tmod_lt n m hm
  rw [tmod_emod n m hm, Int.emod_eq_of_lt (by omega) (by omega)]
theorem into_any (n m : Int) (w : World) (hm : 1 ≤ m) (hm2 : m ≤ 1000000000) (h1 : -9223372036854775808 ≤ n) (h2 : n ≤ 9223372036854775807) : Calls Tryd.prog 82 #[.int .i64 n, .int .i64 m] w fun e w' => e = .returned (.int .i64 (n % m)) ∧ w' = w := by
  by_cases hn : 0 ≤ n
  · have hp : 0 ≤ n % m := Int.emod_nonneg _ (by omega)
    have hl : n % m < m := Int.emod_lt_of_pos _ (by omega)
    go_enter Tryd.func82, Tryd.ntmps82
    go_wp2
    go_ret
    exact ⟨rfl, rfl⟩
  · have hb := tmod_lt n m hm
    by_cases hr : n.tmod m < 0
    · have he := Lib.hid (tmod_neg_emod n m hm hr)
      obtain ⟨hb1, hb2⟩ := hb
      go_enter Tryd.func82, Tryd.ntmps82
      go_wp2
      go_ret
      exact ⟨ret_int he.out.symm, rfl⟩
    · have he := Lib.hid (tmod_pos_emod n m hm hr)
      obtain ⟨hb1, hb2⟩ := hb
      go_enter Tryd.func82, Tryd.ntmps82
      go_wp2
      go_ret
      exact ⟨ret_int he.out.symm, rfl⟩
set_option maxHeartbeats 2000000 in
theorem same_yes (A1 A2 : Option Addr) (c1 c2 : Nat) (xs : List PEl) (w : World) (h1 : Rd elF w A1 xs) (h2 : Rd elF w A2 xs) (l1 : xs.length ≤ 1000000) :
    Calls Tryd.prog 64 #[.slice A1 xs.length c1, .slice A2 xs.length c2] w fun e w' => e = .returned (.bool true) ∧ Below w.heap.size w w' := by
  go_enter Tryd.func64, Tryd.ntmps64
  go_wp2
  go_loopw [5] (fun i wr => ∃ k : Nat, k ≤ xs.length ∧ i = .int .i64 k ∧ Below w.heap.size w wr) (fun i wr => xs.length - (intOf i).toNat)
  case atStart => exact ⟨0, Nat.zero_le _, rfl, Below.refl _ _⟩
  case round =>
    obtain ⟨k, hk, rfl, hB⟩ := hrel
    by_cases hlt : k < xs.length
    · obtain ⟨b1, o1, x, rfl, hx, hb1, e0, e1, e2⟩ := (h1.below hB).el k hlt
      obtain ⟨b2, o2, x', rfl, hx', hb2, f0, f1, f2⟩ := (h2.below hB).el k hlt
      have hxx : x = x' := Option.some.inj (hx.out.symm.trans hx'.out)
      subst hxx
      clear hx hx'
      go_wp2_with fail
      go_quiet (fail)
      go_wp2
      go_roundw
      case rel => exact ⟨k + 1, by omega, by go_num, below_drewN hB _⟩
      case measure => simp [intOf]; omega
    · go_wp2
      go_ret
      exact ⟨rfl, hB⟩
/-- The text to begin with. -/
def begL : Nat → List PEl
  | 0 => []
  | k + 1 => begL k ++ [⟨97 + (k : Int) % 26, 64, (k : Int) + 1⟩]
theorem begL_length : ∀ k, (begL k).length = k
  | 0 => rfl
  | k + 1 => by simp [begL, begL_length k]
set_option maxHeartbeats 2000000 in
theorem begun_any (n : Int) (w : World) (h1 : -9223372036854775808 ≤ n) (h2 : n ≤ 9223372036854775807) :
    Calls Tryd.prog 66 #[.int .i64 n] w fun e w' => ∃ (A : Option Addr) (c : Nat), e = .returned (.slice A (begL (n % 40).toNat).length c) ∧ OwnV elF 41 w.heap.size w' (.slice A (begL (n % 40).toNat).length c) (begL (n % 40).toNat) ∧ Below w.heap.size w w' := by
  obtain ⟨N, hN⟩ : ∃ N : Nat, N = (n % 40).toNat := ⟨_, rfl⟩
  have hp : 0 ≤ n % 40 := Int.emod_nonneg _ (by omega)
  have hl : n % 40 < 40 := Int.emod_lt_of_pos _ (by omega)
  have hNn : Hid (n % 40 = (N : Int)) := Lib.hid (by omega)
  rw [← hN]
  have hN40 : N < 40 := by omega
  clear hN hp hl
  go_enter Tryd.func66, Tryd.ntmps66
  go_wp2_with fail
  go_loopw [3, 4] (fun v i wr => ∃ (k : Nat) (l : List PEl) (A : Option Addr) (c : Nat), k ≤ N ∧ i = .int .i64 k ∧ Hid (l = begL k) ∧ l.length ≤ k ∧ v = .slice A l.length c ∧ OwnV elF 41 w.heap.size wr (.slice A l.length c) l ∧ Below w.heap.size w wr) (fun v i wr => N - (intOf i).toNat)
  case atStart => exact ⟨0, [], none, 0, Nat.zero_le _, rfl, Lib.hid rfl, by simp, rfl, OwnV.nil _ _, Below.refl _ _⟩
  case round =>
    obtain ⟨k, l, A, c, hk, rfl, hl, hlk, rfl, hO, hB⟩ := hrel
    have sz := hB.size
    by_cases hlt : k < N
    · go_wp2_with fail
      with_reducible refine (into_any n 40 _ (by omega) (by omega) h1 h2).mono ?_
      rintro e w1 ⟨rfl, hw1⟩
      subst w1
      rw [hNn.out]
      have hk26 : 0 ≤ (k : Int) % 26 := Int.emod_nonneg _ (by omega)
      have hk27 : (k : Int) % 26 < 26 := Int.emod_lt_of_pos _ (by omega)
      go_wp2_with (at_builtin; refine ev_app1V El.el (by decide) (by decide) _ rfl _ _ 33 rfl Tryd.underlying33 w.heap.size (.slice A l.length c) l ⟨97 + (k : Int) % 26, 64, (k : Int) + 1⟩ rfl rfl hO (by omega) sz ?_; intro v' w3 hO3 hg3 hv3; obtain ⟨A3, c3, hv', hR⟩ := hO3.rd; subst hv')
      have hl1 : Hid (l ++ [⟨97 + (k : Int) % 26, 64, (k : Int) + 1⟩] = begL (k + 1)) := Lib.hid (by rw [hl.out]; rfl)
      have hlen : (l ++ [(⟨97 + (k : Int) % 26, 64, (k : Int) + 1⟩ : PEl)]).length = l.length + 1 := by simp
      have hB3 := hB.grown hg3 sz (fun t e => (hO.lt t e).1)
      go_roundw
      case rel => exact ⟨k + 1, l ++ [⟨97 + (k : Int) % 26, 64, (k : Int) + 1⟩], A3, c3, by omega, by go_num, hl1, by rw [hlen]; omega, by rw [hlen], hO3, hB3⟩
      case measure => simp [intOf]; omega
    · have hkN : Hid (l = begL N) := Lib.hid (by rw [hl.out, show k = N by omega])
      go_wp2_with fail
      with_reducible refine (into_any n 40 _ (by omega) (by omega) h1 h2).mono ?_
      rintro e w1 ⟨rfl, hw1⟩
      subst w1
      rw [hNn.out]
      go_wp2
      go_ret
      rw [hkN.out] at hO
      exact ⟨A, c, by rw [hkN.out]; rfl, hO, hB⟩
end Go.Proofs.YtkicbnkacjnhoaaDoor
