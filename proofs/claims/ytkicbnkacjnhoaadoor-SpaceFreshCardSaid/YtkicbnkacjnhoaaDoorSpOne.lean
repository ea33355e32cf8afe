/- The walks of jotterlaw10's one and queues, where both are the same. -/
import Derived.Test.YtkicbnkacjnhoaaDoorSpCross
namespace Go.Proofs.YtkicbnkacjnhoaaDoor
open Go.RowKit
set_option linter.unusedVariables false
set_option linter.unusedSimpArgs false

set_option maxHeartbeats 1000000 in
theorem one_yes (x : POp) (w : World) : Calls Tryd.prog 52 #[.agg #[.int .i64 x.k, .int .i64 x.p, .int .u8 x.c, .int .i64 x.l, .int .i64 x.s], .agg #[.int .i64 x.k, .int .i64 x.p, .int .u8 x.c, .int .i64 x.l, .int .i64 x.s]] w fun e w' => e = .returned (.bool true) ∧ Below w.heap.size w w' := by
  go_enter Tryd.func52, Tryd.ntmps52
  go_wp2
  go_ret
  exact ⟨rfl, below_alloc (below_alloc (Below.refl _ _) _) _⟩
set_option maxHeartbeats 2000000 in
theorem queues_yes (A1 A2 : Option Addr) (c1 c2 : Nat) (xs : List PMk) (w : World) (h1 : Rd mkF w A1 xs) (h2 : Rd mkF w A2 xs) (hl : xs.length ≤ 1000000) :
    Calls Tryd.prog 49 #[.slice A1 xs.length c1, .slice A2 xs.length c2] w fun e w' => e = .returned (.bool true) ∧ Below w.heap.size w w' := by
  go_enter Tryd.func49, Tryd.ntmps49
  go_wp2
  go_loopw [5] (fun i wr => ∃ k : Nat, k ≤ xs.length ∧ i = .int .i64 k ∧ Below w.heap.size w wr) (fun i wr => xs.length - (intOf i).toNat)
  case atStart => exact ⟨0, Nat.zero_le _, rfl, Below.refl _ _⟩
  case round =>
    obtain ⟨k, hk, rfl, hB⟩ := hrel
    by_cases hlt : k < xs.length
    · obtain ⟨b1, o1, x, rfl, hx, hb1, S1⟩ := (h1.below hB).six k hlt
      obtain ⟨b2, o2, x', rfl, hx', hb2, S2⟩ := (h2.below hB).six k hlt
      have hxx : x = x' := Option.some.inj (hx.out.symm.trans hx'.out)
      subst hxx
      clear hx hx'
      go_wp2_with fail
      go_region_held3 (fun V => (V.cell? ⟨b1, o1 + k * 6, none⟩ = some (.int .i64 x.m) ∧ V.cell? ⟨b1, o1 + k * 6 + 1, none⟩ = some (.int .i64 x.o.k) ∧ V.cell? ⟨b1, o1 + k * 6 + 2, none⟩ = some (.int .i64 x.o.p) ∧ V.cell? ⟨b1, o1 + k * 6 + 3, none⟩ = some (.int .u8 x.o.c) ∧ V.cell? ⟨b1, o1 + k * 6 + 4, none⟩ = some (.int .i64 x.o.l) ∧ V.cell? ⟨b1, o1 + k * 6 + 5, none⟩ = some (.int .i64 x.o.s)) ∧ (V.cell? ⟨b2, o2 + k * 6, none⟩ = some (.int .i64 x.m) ∧ V.cell? ⟨b2, o2 + k * 6 + 1, none⟩ = some (.int .i64 x.o.k) ∧ V.cell? ⟨b2, o2 + k * 6 + 2, none⟩ = some (.int .i64 x.o.p) ∧ V.cell? ⟨b2, o2 + k * 6 + 3, none⟩ = some (.int .u8 x.o.c) ∧ V.cell? ⟨b2, o2 + k * 6 + 4, none⟩ = some (.int .i64 x.o.l) ∧ V.cell? ⟨b2, o2 + k * 6 + 5, none⟩ = some (.int .i64 x.o.s)))
        (first | ((with_reducible refine And.intro (six_keep S1 ?_ hb1) (six_keep S2 ?_ hb2) <;> (repeat' (first | with_reducible exact Below.refl _ _ | with_reducible exact hB2 | with_reducible refine Below.drew ?_ | fail))); done) | fail)
        (first
          | (go_at_call 52; (with_reducible refine (one_yes _ _).mono ?_); rintro e w2 ⟨rfl, hb⟩; (have hB2 : Below wr.heap.size wr w2 := (Below.refl _ _).drew.trans hb))
          | fail)
      all_goals
        go_wp2_with fail
        go_roundw
        case rel => exact ⟨k + 1, by omega, by go_num, hB.trans (hB2.mono hB.size)⟩
        case measure => simp [intOf]; omega
    · go_wp2
      go_ret
      exact ⟨rfl, hB⟩
end Go.Proofs.YtkicbnkacjnhoaaDoor
