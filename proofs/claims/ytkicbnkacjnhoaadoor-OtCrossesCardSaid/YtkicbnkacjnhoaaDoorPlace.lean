/- The walk of jotterlaw05.place. -/
import Derived.Test.YtkicbnkacjnhoaaDoorElem
namespace Go.Proofs.YtkicbnkacjnhoaaDoor
open Go.RowKit
set_option linter.unusedVariables false
set_option linter.unusedSimpArgs false

theorem not_mem_take_succ {xs : List PEl} {k : Nat} {x y : PEl} (h : y ∉ xs.take k) (hx : xs[k]? = some x) (hne : ¬ x = y) : y ∉ xs.take (k + 1) := by
  rw [List.take_add_one, hx, Option.toList_some, List.mem_append]
  rintro (h1 | h1)
  · exact h h1
  · exact hne (List.mem_singleton.1 h1).symm

set_option maxHeartbeats 1000000 in
theorem place_any (A : Option Addr) (c : Nat) (xs : List PEl) (y0 y1 y2 : Int) (w : World) (hl : Rd elF w A xs) (l1 : xs.length ≤ 9223372036854775807) :
    Calls Tryd.prog 41 #[.slice A xs.length c, .agg #[.int .u8 y0, .int .i64 y1, .int .i64 y2]] w fun e w' =>
      ∃ r : Int, e = .returned (.int .i64 r) ∧ ((r = -1 ∧ (⟨y0, y1, y2⟩ : PEl) ∉ xs) ∨ ∃ k : Nat, r = k ∧ xs[k]? = some ⟨y0, y1, y2⟩) ∧ Below w.heap.size w w' := by
  go_enter Tryd.func41, Tryd.ntmps41
  go_wp2_with fail
  go_loopw [5] (fun i wr => ∃ k : Nat, k ≤ xs.length ∧ i = .int .i64 k ∧ Hid ((⟨y0, y1, y2⟩ : PEl) ∉ xs.take k) ∧ Blk wr w.heap.size #[.int .u8 y0, .int .i64 y1, .int .i64 y2] 41 ∧ Below w.heap.size w wr) (fun i wr => xs.length - (intOf i).toNat)
  case atStart => exact ⟨0, Nat.zero_le _, rfl, Lib.hid (by simp), Blk.new w _ _, below_alloc (Below.refl _ _) _⟩
  case round =>
    obtain ⟨k, hk, rfl, hn, kB, hB⟩ := hrel
    by_cases hlt : k < xs.length
    · obtain ⟨b1, o1, x, rfl, hx, hbl, e0, e1, e2⟩ := (hl.below hB).el k hlt
      obtain ⟨f0, f1, f2, lz⟩ := kB.three
      by_cases hxy : x = ⟨y0, y1, y2⟩
      · have hq : elEq ⟨x.c, x.l, x.s⟩ ⟨y0, y1, y2⟩ = true := elEq_true.2 hxy
        have HXY := Lib.hid hxy
        clear hxy
        go_wp2
        go_quiet (fail)
        go_wp2
        go_ret
        exact ⟨k, rfl, .inr ⟨k, rfl, by rw [hx.out, HXY.out]⟩, below_drewN hB _⟩
      · have hq : elEq ⟨x.c, x.l, x.s⟩ ⟨y0, y1, y2⟩ = false := elEq_false.2 hxy
        have HN := Lib.hid (not_mem_take_succ hn.out hx.out hxy)
        clear hxy
        go_wp2
        go_quiet (fail)
        go_wp2
        go_roundw
        case rel => exact ⟨k + 1, by omega, by go_num, HN, kB.drewN _, below_drewN hB _⟩
        case measure => simp [intOf]; omega
    · have hk2 : k = xs.length := by omega
      have hnm : (⟨y0, y1, y2⟩ : PEl) ∉ xs := by
        have := hn.out
        rwa [hk2, List.take_length] at this
      have HM := Lib.hid hnm
      clear hnm hk2
      go_wp2
      go_ret
      exact ⟨-1, rfl, .inl ⟨rfl, HM.out⟩, hB⟩
end Go.Proofs.YtkicbnkacjnhoaaDoor
