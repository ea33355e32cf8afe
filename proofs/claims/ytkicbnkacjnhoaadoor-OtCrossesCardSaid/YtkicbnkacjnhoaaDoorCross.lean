/- The walk of ot.Cross. -/
import Derived.Test.YtkicbnkacjnhoaaDoorPast
import Derived.Deep.RegionHeld3
import Derived.Deep.RegionWith
namespace Go.Proofs.YtkicbnkacjnhoaaDoor
open Go.RowKit
set_option linter.unusedVariables false
set_option linter.unusedSimpArgs false

set_option maxHeartbeats 1000000 in
set_option maxRecDepth 100000 in
theorem cross_any (a0 a1 a2 a3 a4 b0 b1 b2 b3 b4 : Int) (w : World) (hr : RulesAt w) :
    Calls Tryd.prog 23 #[.agg #[.int .i64 a0, .int .i64 a1, .int .u8 a2, .int .i64 a3, .int .i64 a4], .agg #[.int .i64 b0, .int .i64 b1, .int .u8 b2, .int .i64 b3, .int .i64 b4]] w fun e w' =>
      ∃ x y : POp, Hid (shift ⟨a0, a1, a2, a3, a4⟩ ⟨b0, b1, b2, b3, b4⟩ true = x) ∧ Hid (shift ⟨b0, b1, b2, b3, b4⟩ ⟨a0, a1, a2, a3, a4⟩ false = y) ∧
        e = .returned (.tuple #[.agg #[.int .i64 x.k, .int .i64 x.p, .int .u8 x.c, .int .i64 x.l, .int .i64 x.s], .agg #[.int .i64 y.k, .int .i64 y.p, .int .u8 y.c, .int .i64 y.l, .int .i64 y.s]]) ∧ Below w.heap.size w w' := by
  go_enter Tryd.func23, Tryd.ntmps23
  go_wp2_with fail
  refine wp_abs ?_
  intro W hW
  have kA : Blk W w.heap.size #[.int .i64 a0, .int .i64 a1, .int .u8 a2, .int .i64 a3, .int .i64 a4] 23 := hW ▸ (((Blk.new w _ _).alloc _).alloc _).alloc _
  have kB : Blk W (w.heap.size + 1) #[.int .i64 b0, .int .i64 b1, .int .u8 b2, .int .i64 b3, .int .i64 b4] 23 := hW ▸ ((Blk.new1 w _ _ _).alloc _).alloc _
  have kX : Blk W (w.heap.size + 1 + 1) #[.int .i64 0, .int .i64 0, .int .u8 0, .int .i64 0, .int .i64 0] 23 := hW ▸ (Blk.new2 w _ _ _ _).alloc _
  have kY : Blk W (w.heap.size + 1 + 1 + 1) #[.int .i64 0, .int .i64 0, .int .u8 0, .int .i64 0, .int .i64 0] 23 := hW ▸ Blk.new3 w _ _ _ _ _
  have hB : Below w.heap.size w W := hW ▸ below_alloc (below_alloc (below_alloc (below_alloc (Below.refl _ _) _) _) _) _
  have hrW : RulesAt W.drew := hr.on hB.drew
  clear hW hr
  have lY := kY.lt
  obtain ⟨e0, e1, e2, e3, e4⟩ := kA.cells5
  obtain ⟨f0, f1, f2, f3, f4⟩ := kB.cells5
  go_region_held3 (fun W => (W.cell? ⟨w.heap.size, 0, none⟩ = some (.int .i64 a0) ∧ W.cell? ⟨w.heap.size, 1, none⟩ = some (.int .i64 a1) ∧ W.cell? ⟨w.heap.size, 2, none⟩ = some (.int .u8 a2) ∧ W.cell? ⟨w.heap.size, 3, none⟩ = some (.int .i64 a3) ∧ W.cell? ⟨w.heap.size, 4, none⟩ = some (.int .i64 a4)) ∧
      (W.cell? ⟨w.heap.size + 1, 0, none⟩ = some (.int .i64 b0) ∧ W.cell? ⟨w.heap.size + 1, 1, none⟩ = some (.int .i64 b1) ∧ W.cell? ⟨w.heap.size + 1, 2, none⟩ = some (.int .u8 b2) ∧ W.cell? ⟨w.heap.size + 1, 3, none⟩ = some (.int .i64 b3) ∧ W.cell? ⟨w.heap.size + 1, 4, none⟩ = some (.int .i64 b4)))
    (first | (with_reducible exact ⟨kA.drew.cells5, kB.drew.cells5⟩) | (with_reducible exact ⟨kA1.cells5, kB1.cells5⟩) | (with_reducible exact ⟨kA2.cells5, kB2.cells5⟩) | (with_reducible exact ⟨(kA2.other5 (b' := w.heap.size + 1 + 1) (by omega) _ _ _ _ _).cells5, (kB2.other5 (b' := w.heap.size + 1 + 1) (by omega) _ _ _ _ _).cells5⟩) | (with_reducible exact ⟨(kA2.other5 (b' := w.heap.size + 1 + 1 + 1) (by omega) _ _ _ _ _).cells5, (kB2.other5 (b' := w.heap.size + 1 + 1 + 1) (by omega) _ _ _ _ _).cells5⟩) | (with_reducible exact ⟨((kA2.other5 (b' := w.heap.size + 1 + 1) (by omega) _ _ _ _ _).other5 (b' := w.heap.size + 1 + 1 + 1) (by omega) _ _ _ _ _).cells5, ((kB2.other5 (b' := w.heap.size + 1 + 1) (by omega) _ _ _ _ _).other5 (b' := w.heap.size + 1 + 1 + 1) (by omega) _ _ _ _ _).cells5⟩) | (with_reducible exact ⟨((kA2.other5 (b' := w.heap.size + 1 + 1 + 1) (by omega) _ _ _ _ _).other5 (b' := w.heap.size + 1 + 1) (by omega) _ _ _ _ _).cells5, ((kB2.other5 (b' := w.heap.size + 1 + 1 + 1) (by omega) _ _ _ _ _).other5 (b' := w.heap.size + 1 + 1) (by omega) _ _ _ _ _).cells5⟩) | fail)
    (first
      | (go_at_call 21; (with_reducible refine (shift_ex _ _ _ _ _ _ _ _ _ _ _ _ hrW).mono ?_); rintro e w1 ⟨y, hy, rfl, hb⟩; have kA1 := kA.drew.on hb; have kB1 := kB.drew.on hb; have kX1 := kX.drew.on hb; have kY1 := kY.drew.on hb; have hr1 := hrW.on hb; have hB1 : Below w.heap.size w w1 := hB.drew.trans (hb.mono hB.size))
      | (go_at_call 21; with_reducible refine (shift_ex _ _ _ _ _ _ _ _ _ _ _ _ hr1).mono ?_; (rintro e w2 ⟨x, hx, rfl, hb2⟩); have kA2 := kA1.on hb2; have kB2 := kB1.on hb2; have kX2 := kX1.on hb2; have kY2 := kY1.on hb2; have hB2 : Below w.heap.size w w2 := hB1.trans (hb2.mono hB1.size); obtain ⟨x0, x1, x2, x3, x4⟩ := kX2.cells5; obtain ⟨y0, y1, y2, y3, y4⟩ := kY2.cells5; have zx := kX2.frozen; have zy := kY2.frozen))
  go_wp2
  have jX := (kX2.set5 (.int .i64 y.k) (.int .i64 y.p) (.int .u8 y.c) (.int .i64 y.l) (.int .i64 y.s)).other5 (b' := w.heap.size + 1 + 1 + 1) (by omega) (.int .i64 x.k) (.int .i64 x.p) (.int .u8 x.c) (.int .i64 x.l) (.int .i64 x.s)
  have jY := (kY2.other5 (b' := w.heap.size + 1 + 1) (by omega) (.int .i64 y.k) (.int .i64 y.p) (.int .u8 y.c) (.int .i64 y.l) (.int .i64 y.s)).set5 (.int .i64 x.k) (.int .i64 x.p) (.int .u8 x.c) (.int .i64 x.l) (.int .i64 x.s)
  obtain ⟨p0, p1, p2, p3, p4⟩ := jX.cells5
  obtain ⟨q0, q1, q2, q3, q4⟩ := jY.cells5
  refine bodyPost_ret (v := .tuple #[.agg #[.int .i64 y.k, .int .i64 y.p, .int .u8 y.c, .int .i64 y.l, .int .i64 y.s], .agg #[.int .i64 x.k, .int .i64 x.p, .int .u8 x.c, .int .i64 x.l, .int .i64 x.s]]) (by simp [results, Tryd.results23, go_sem, p0, p1, p2, p3, p4, q0, q1, q2, q3, q4]) rfl ?_
  exact ⟨y, x, hy, hx, rfl, below_put5 (below_put5 hB2 (by omega) _ _ _ _ _) (by omega) _ _ _ _ _⟩
end Go.Proofs.YtkicbnkacjnhoaaDoor
