/- sameLine -/
import Derived.Test.YtkicbnkacjnhoaaDoorMem
namespace Go.Proofs.YtkicbnkacjnhoaaDoor
open Go.RowKit
set_option linter.unusedVariables false
set_option linter.unusedSimpArgs false

theorem take_succ_eq {α : Type} {xs ys : List α} {k : Nat} {x y : α} (h : xs.take k = ys.take k) (hx : xs[k]? = some x) (hy : ys[k]? = some y) (e : x = y) : xs.take (k + 1) = ys.take (k + 1) := by
  rw [List.take_add_one, List.take_add_one, h, hx, hy, e]

set_option maxHeartbeats 400000 in
theorem sameLine_any (A1 A2 : Option Addr) (c1 c2 : Nat) (xs ys : List POp) (w : World) (h1 : Rd opF w A1 xs) (h2 : Rd opF w A2 ys) (l1 : xs.length ≤ 9223372036854775807) (l2 : ys.length ≤ 9223372036854775807) :
    Calls Tryd.prog 33 #[.slice A1 xs.length c1, .slice A2 ys.length c2] w fun e w' => e = .returned (.bool (decide (xs = ys))) ∧ ∃ n, w' = w.drewN n := by
  by_cases hl : xs.length = ys.length
  · have hlb : ((xs.length : Int) != ys.length) = false := by simp [hl]
    have HL := Lib.hid hl
    clear hl
    go_enter Tryd.func33, Tryd.ntmps33
    go_wp2
    go_loopw [5] (fun i wr => ∃ k : Nat, k ≤ xs.length ∧ i = .int .i64 k ∧ Hid (xs.take k = ys.take k) ∧ ∃ n, wr = w.drewN n) (fun i wr => xs.length - (intOf i).toNat)
    case atStart => exact ⟨0, Nat.zero_le _, rfl, rfl, 0, rfl⟩
    case round =>
      obtain ⟨k, hk, rfl, he, n, rfl⟩ := hrel
      by_cases hlt : k < xs.length
      · have hlt2 : k < ys.length := by have := HL.out; omega
        obtain ⟨b1, o1, x, rfl, hx, e0, e1, e2, e3, e4⟩ := h1.op k hlt
        obtain ⟨b2, o2, y, rfl, hy, f0, f1, f2, f3, f4⟩ := h2.op k hlt2
        by_cases hxy : x = y
        · have hq : opEq ⟨x.k, x.p, x.c, x.l, x.s⟩ ⟨y.k, y.p, y.c, y.l, y.s⟩ = true := opEq_true.2 hxy
          have HXY := Lib.hid hxy
          clear hxy
          go_wp2
          go_quiet (fail)
          go_wp2
          go_roundw
          case rel => exact ⟨k + 1, by omega, by go_num, take_succ_eq he.out hx.out hy.out HXY.out, _, rfl⟩
          case measure => simp [intOf]; omega
        · have hq : opEq ⟨x.k, x.p, x.c, x.l, x.s⟩ ⟨y.k, y.p, y.c, y.l, y.s⟩ = false := opEq_false.2 hxy
          have hne : ¬ xs = ys := fun h => hxy (by have e1 := hx.out; have e2 := hy.out; rw [h, e2] at e1; exact (Option.some.inj e1).symm)
          have HN := Lib.hid hne
          clear hne hxy
          go_wp2
          go_quiet (fail)
          go_wp2
          go_ret
          exact ⟨ret_bool (decide_eq_false HN.out).symm, n + nq, World.drewN_drewN ..⟩
      · have hk2 : k = xs.length := by omega
        have heq : xs = ys := by
          have := he.out
          rw [List.take_of_length_le (by omega), List.take_of_length_le (by have := HL.out; omega)] at this
          exact this
        have HN := Lib.hid heq
        clear heq hk2
        go_wp2
        go_ret
        exact ⟨ret_bool (decide_eq_true HN.out).symm, _, rfl⟩
  · have hlb : ((xs.length : Int) != ys.length) = true := by simp; omega
    have hne : ¬ xs = ys := fun h => hl (by rw [h])
    go_enter Tryd.func33, Tryd.ntmps33
    go_wp2
    go_ret
    exact ⟨by simp [hne], 0, rfl⟩
end Go.Proofs.YtkicbnkacjnhoaaDoor
