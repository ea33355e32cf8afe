/- The walk of jotterlaw05.made. -/
import Derived.Test.YtkicbnkacjnhoaaDoorRest
import Derived.Test.YtkicbnkacjnhoaaDoorRefThrough
import Derived.Test.YtkicbnkacjnhoaaDoorOtText
namespace Go.Proofs.YtkicbnkacjnhoaaDoor
open Go.RowKit
set_option linter.unusedVariables false
set_option linter.unusedSimpArgs false

/-- An operation that fits a text of n elements, of this client and number. -/
def FitsOp (n : Nat) (l s : Int) (o : POp) : Prop := o.l = l ∧ o.s = s ∧ ((o.k = 2 ∧ ∃ p : Nat, o.p = p ∧ p < n) ∨ (o.k = 1 ∧ ∃ p : Nat, o.p = p ∧ p ≤ n))

set_option maxHeartbeats 1000000 in
theorem made_del (m1 m2 : Int) (n : Nat) (l s : Int) (w : World) (hn : n ≤ 4611686018427387903) (h0 : 0 < n) :
    Calls Tryd.prog 36 #[.agg #[.bool true, .int .i64 m1, .int .u8 m2], .int .i64 n, .int .i64 l, .int .i64 s] w fun e w' => ∃ o : POp, FitsOp n l s o ∧ e = .returned (.agg #[.int .i64 o.k, .int .i64 o.p, .int .u8 o.c, .int .i64 o.l, .int .i64 o.s]) ∧ Below w.heap.size w w' := by
  go_enter Tryd.func36, Tryd.ntmps36
  go_wp2_with fail
  with_reducible refine (rest_any _ _ _ (by omega) (by omega)).mono ?_
  rintro e w1 ⟨k, hk, rfl, hw⟩
  subst w1
  go_wp2
  have k1 := Blk.new1 w (.cells #[.bool true, .int .i64 m1, .int .u8 m2] 53) #[.int .i64 2, .int .i64 k, .int .u8 0, .int .i64 l, .int .i64 s] 23
  obtain ⟨q0, q1, q2, q3, q4⟩ := k1.cells5
  refine bodyPost_ret (v := .agg #[.int .i64 2, .int .i64 k, .int .u8 0, .int .i64 l, .int .i64 s]) (by simp [results, Tryd.results36, go_sem, q0, q1, q2, q3, q4]) rfl ?_
  exact ⟨⟨2, k, 0, l, s⟩, ⟨rfl, rfl, .inl ⟨rfl, k, rfl, by omega⟩⟩, rfl, below_alloc (below_alloc (Below.refl _ _) _) _⟩

set_option maxHeartbeats 1000000 in
set_option maxRecDepth 100000 in
theorem made_ins (m1 m2 : Int) (n : Nat) (l s : Int) (w : World) (hn : n ≤ 4611686018427387903) :
    Calls Tryd.prog 36 #[.agg #[.bool false, .int .i64 m1, .int .u8 m2], .int .i64 n, .int .i64 l, .int .i64 s] w fun e w' => ∃ o : POp, FitsOp n l s o ∧ e = .returned (.agg #[.int .i64 o.k, .int .i64 o.p, .int .u8 o.c, .int .i64 o.l, .int .i64 o.s]) ∧ Below w.heap.size w w' := by
  go_enter Tryd.func36, Tryd.ntmps36
  go_wp2_with fail
  refine wp_abs ?_
  intro W hW
  have kA : Blk W w.heap.size #[.bool false, .int .i64 m1, .int .u8 m2] 53 := hW ▸ (Blk.new w _ _).alloc _
  have kB : Blk W (w.heap.size + 1) #[.int .i64 0, .int .i64 0, .int .u8 0, .int .i64 0, .int .i64 0] 23 := hW ▸ Blk.new1 w _ _ _
  have hB : Below w.heap.size w W := hW ▸ below_alloc (below_alloc (Below.refl _ _) _) _
  clear hW
  have hwr : IntKind.i64.wrap ((n : Int) + 1) = n + 1 := by first | exact wrap64_small (by omega) (by omega) | (rw [← wrap64_small (x := (n : Int) + 1) (by omega) (by omega)]; rfl) | (simp [IntKind.wrap, IntKind.bits, IntKind.signed]; omega) | (rw [IntKind.wrap_of_wf (WalkArith.wf_i64 (by omega) (by omega))])
  obtain ⟨e0, e1, e2, lA⟩ := kA.three
  obtain ⟨f0, f1, f2, f3, f4⟩ := kB.cells5
  have zB := kB.frozen
  have lB := kB.lt
  go_region_held3 (fun V => V.cell? ⟨w.heap.size, 1, none⟩ = some (.int .i64 m1) ∧ V.cell? ⟨w.heap.size, 2, none⟩ = some (.int .u8 m2))
    (first | (with_reducible exact ⟨e1, e2⟩) | (go_keep) | fail)
    (first
      | (go_at_call 25; (with_reducible refine (rest_any _ _ _ (by omega) (by omega)).mono ?_); rintro e w1 ⟨k, hk, rfl, hw⟩; subst w1)
      | fail)
  go_wp2
  have jB := (kB.set5 (.int .i64 1) (.int .i64 k) (.int .u8 m2) (.int .i64 l) (.int .i64 s)).drew
  obtain ⟨q0, q1, q2, q3, q4⟩ := jB.cells5
  refine bodyPost_ret (v := .agg #[.int .i64 1, .int .i64 k, .int .u8 m2, .int .i64 l, .int .i64 s]) (by simp [results, Tryd.results36, go_sem, q0, q1, q2, q3, q4]) rfl ?_
  exact ⟨⟨1, k, m2, l, s⟩, ⟨rfl, rfl, .inr ⟨rfl, k, rfl, by omega⟩⟩, rfl, (below_put5 hB (by omega) _ _ _ _ _).drew⟩
set_option maxHeartbeats 1000000 in
set_option maxRecDepth 100000 in
theorem made_empty (m1 m2 : Int) (n : Nat) (l s : Int) (w : World) (hn : n ≤ 4611686018427387903) (hz : ¬ 0 < n) :
    Calls Tryd.prog 36 #[.agg #[.bool true, .int .i64 m1, .int .u8 m2], .int .i64 n, .int .i64 l, .int .i64 s] w fun e w' => ∃ o : POp, FitsOp n l s o ∧ e = .returned (.agg #[.int .i64 o.k, .int .i64 o.p, .int .u8 o.c, .int .i64 o.l, .int .i64 o.s]) ∧ Below w.heap.size w w' := by
  go_enter Tryd.func36, Tryd.ntmps36
  go_wp2_with fail
  refine wp_abs ?_
  intro W hW
  have kA : Blk W w.heap.size #[.bool true, .int .i64 m1, .int .u8 m2] 53 := hW ▸ (Blk.new w _ _).alloc _
  have kB : Blk W (w.heap.size + 1) #[.int .i64 0, .int .i64 0, .int .u8 0, .int .i64 0, .int .i64 0] 23 := hW ▸ Blk.new1 w _ _ _
  have hB : Below w.heap.size w W := hW ▸ below_alloc (below_alloc (Below.refl _ _) _) _
  clear hW
  have hwr : IntKind.i64.wrap ((n : Int) + 1) = n + 1 := by first | exact wrap64_small (by omega) (by omega) | (rw [← wrap64_small (x := (n : Int) + 1) (by omega) (by omega)]; rfl) | (simp [IntKind.wrap, IntKind.bits, IntKind.signed]; omega) | (rw [IntKind.wrap_of_wf (WalkArith.wf_i64 (by omega) (by omega))])
  obtain ⟨e0, e1, e2, lA⟩ := kA.three
  obtain ⟨f0, f1, f2, f3, f4⟩ := kB.cells5
  have zB := kB.frozen
  have lB := kB.lt
  go_region_held3 (fun V => V.cell? ⟨w.heap.size, 1, none⟩ = some (.int .i64 m1) ∧ V.cell? ⟨w.heap.size, 2, none⟩ = some (.int .u8 m2))
    (first | (with_reducible exact ⟨e1, e2⟩) | (go_keep) | fail)
    (first
      | (go_at_call 25; (with_reducible refine (rest_any _ _ _ (by omega) (by omega)).mono ?_); rintro e w1 ⟨k, hk, rfl, hw⟩; subst w1)
      | fail)
  go_wp2
  have jB := (kB.set5 (.int .i64 1) (.int .i64 k) (.int .u8 m2) (.int .i64 l) (.int .i64 s)).drew
  obtain ⟨q0, q1, q2, q3, q4⟩ := jB.cells5
  refine bodyPost_ret (v := .agg #[.int .i64 1, .int .i64 k, .int .u8 m2, .int .i64 l, .int .i64 s]) (by simp [results, Tryd.results36, go_sem, q0, q1, q2, q3, q4]) rfl ?_
  exact ⟨⟨1, k, m2, l, s⟩, ⟨rfl, rfl, .inr ⟨rfl, k, rfl, by omega⟩⟩, rfl, (below_put5 hB (by omega) _ _ _ _ _).drew⟩

theorem made_any (m0 : Bool) (m1 m2 : Int) (n : Nat) (l s : Int) (w : World) (hn : n ≤ 4611686018427387903) :
    Calls Tryd.prog 36 #[.agg #[.bool m0, .int .i64 m1, .int .u8 m2], .int .i64 n, .int .i64 l, .int .i64 s] w fun e w' => ∃ o : POp, FitsOp n l s o ∧ e = .returned (.agg #[.int .i64 o.k, .int .i64 o.p, .int .u8 o.c, .int .i64 o.l, .int .i64 o.s]) ∧ Below w.heap.size w w' := by
  cases m0
  · exact made_ins m1 m2 n l s w hn
  · by_cases h0 : 0 < n
    · exact made_del m1 m2 n l s w hn h0
    · exact made_empty m1 m2 n l s w hn h0
end Go.Proofs.YtkicbnkacjnhoaaDoor
