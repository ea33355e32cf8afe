/- jotterref05.Shift answers 'shift', of whatever operations; the walk of jotterref05.Cross. -/
import Derived.Test.YtkicbnkacjnhoaaDoorRefShiftB
import Derived.Deep.RegionHeld3
namespace Go.Proofs.YtkicbnkacjnhoaaDoor
open Go.RowKit
set_option linter.unusedVariables false
set_option linter.unusedSimpArgs false

theorem actsB_cases (k : Int) : actsB k = false ∨ (actsB k = true ∧ (k = 1 ∨ k = 2)) := by
  by_cases h : k = 1 ∨ k = 2
  · exact .inr ⟨by simp [actsB, h], h⟩
  · exact .inl (by simp [actsB]; omega)
theorem rshift_any (a0 a1 a2 a3 a4 b0 b1 b2 b3 b4 : Int) (f : Bool) (w : World) :
    Calls Tryd.prog 22 #[.agg #[.int .i64 a0, .int .i64 a1, .int .u8 a2, .int .i64 a3, .int .i64 a4], .agg #[.int .i64 b0, .int .i64 b1, .int .u8 b2, .int .i64 b3, .int .i64 b4], .bool f] w fun e w' => e = .returned (opv (shift ⟨a0, a1, a2, a3, a4⟩ ⟨b0, b1, b2, b3, b4⟩ f)) ∧ Below w.heap.size w w' := by
  rcases actsB_cases a0 with ha | ⟨ha, ka⟩
  · exact rshift_na _ _ _ _ _ _ _ _ _ _ f w ha
  · rcases actsB_cases b0 with hb | ⟨hb, kb⟩
    · exact rshift_nb _ _ _ _ _ _ _ _ _ _ f w ha hb
    · rcases ka with rfl | rfl
      · rcases kb with rfl | rfl
        · by_cases hc : b1 < a1 ∨ (b1 = a1 ∧ f = false)
          · exact rshift_11y _ _ _ _ _ _ _ _ f w hc
          · exact rshift_11n _ _ _ _ _ _ _ _ f w hc
        · by_cases hc : b1 < a1
          · exact rshift_12y _ _ _ _ _ _ _ _ f w hc
          · exact rshift_12n _ _ _ _ _ _ _ _ f w hc
      · rcases kb with rfl | rfl
        · by_cases hc : b1 ≤ a1
          · exact rshift_21y _ _ _ _ _ _ _ _ f w hc
          · exact rshift_21n _ _ _ _ _ _ _ _ f w hc
        · by_cases hne : b1 = a1
          · subst hne
            exact rshift_dd _ _ _ _ _ _ _ f w
          · by_cases hc : b1 < a1
            · exact rshift_22y _ _ _ _ _ _ _ _ f w hne hc
            · exact rshift_22n _ _ _ _ _ _ _ _ f w hne hc
theorem rshift_ex (a0 a1 a2 a3 a4 b0 b1 b2 b3 b4 : Int) (f : Bool) (w : World) :
    Calls Tryd.prog 22 #[.agg #[.int .i64 a0, .int .i64 a1, .int .u8 a2, .int .i64 a3, .int .i64 a4], .agg #[.int .i64 b0, .int .i64 b1, .int .u8 b2, .int .i64 b3, .int .i64 b4], .bool f] w fun e w' =>
      ∃ y : POp, Hid (shift ⟨a0, a1, a2, a3, a4⟩ ⟨b0, b1, b2, b3, b4⟩ f = y) ∧ e = .returned (.agg #[.int .i64 y.k, .int .i64 y.p, .int .u8 y.c, .int .i64 y.l, .int .i64 y.s]) ∧ Below w.heap.size w w' :=
  (rshift_any a0 a1 a2 a3 a4 b0 b1 b2 b3 b4 f w).mono fun e w' ⟨he, hb⟩ => ⟨_, rfl, he, hb⟩

set_option maxHeartbeats 1000000 in
set_option maxRecDepth 100000 in
theorem rcross_any (a0 a1 a2 a3 a4 b0 b1 b2 b3 b4 : Int) (w : World) :
    Calls Tryd.prog 24 #[.agg #[.int .i64 a0, .int .i64 a1, .int .u8 a2, .int .i64 a3, .int .i64 a4], .agg #[.int .i64 b0, .int .i64 b1, .int .u8 b2, .int .i64 b3, .int .i64 b4]] w fun e w' =>
      ∃ x y : POp, Hid (shift ⟨a0, a1, a2, a3, a4⟩ ⟨b0, b1, b2, b3, b4⟩ true = x) ∧ Hid (shift ⟨b0, b1, b2, b3, b4⟩ ⟨a0, a1, a2, a3, a4⟩ false = y) ∧
        e = .returned (.tuple #[.agg #[.int .i64 x.k, .int .i64 x.p, .int .u8 x.c, .int .i64 x.l, .int .i64 x.s], .agg #[.int .i64 y.k, .int .i64 y.p, .int .u8 y.c, .int .i64 y.l, .int .i64 y.s]]) ∧ Below w.heap.size w w' := by
  go_enter Tryd.func24, Tryd.ntmps24
  go_wp2_with fail
  with_reducible refine (rshift_ex _ _ _ _ _ _ _ _ _ _ _ _).mono ?_
  rintro e w1 ⟨x, hx, rfl, hb1⟩
  have kA := ((((Blk.new w _ _).alloc _).alloc _).alloc _).on hb1
  have kB := (((Blk.new1 w _ _ _).alloc _).alloc _).on hb1
  have kX := ((Blk.new2 w _ _ _ _).alloc _).on hb1
  have kY := (Blk.new3 w _ _ _ _ _).on hb1
  have B1 : Below w.heap.size w w1 := (below_alloc (below_alloc (below_alloc (below_alloc (Below.refl _ _) _) _) _) _).trans (hb1.mono (by simp; omega))
  have lA := kA.lt
  have lB := kB.lt
  have lX := kX.lt
  have lY := kY.lt
  obtain ⟨e0, e1, e2, e3, e4⟩ := kA.cells5
  obtain ⟨f0, f1, f2, f3, f4⟩ := kB.cells5
  clear hb1
  go_wp2_with fail
  with_reducible refine (rshift_ex _ _ _ _ _ _ _ _ _ _ _ _).mono ?_
  rintro e w2 ⟨y, hy, rfl, hb2⟩
  have kX2 := (kX.alloc _).on hb2
  have kY2 := (kY.alloc _).on hb2
  have kV2 := (Blk.new w1 _ _).on hb2
  have B2 : Below w.heap.size w w2 := (below_alloc B1 _).trans (hb2.mono (by have := B1.size; simp; omega))
  have l2 := kV2.lt
  clear e0 e1 e2 e3 e4 f0 f1 f2 f3 f4 hb2 kA kB kX kY
  go_wp2_with fail
  refine wp_abs ?_
  intro W hW
  have kX3 : Blk W (w.heap.size + 1 + 1) _ _ := hW ▸ kX2.alloc _
  have kY3 : Blk W (w.heap.size + 1 + 1 + 1) _ _ := hW ▸ kY2.alloc _
  have kV3 : Blk W w1.heap.size #[.int .i64 x.k, .int .i64 x.p, .int .u8 x.c, .int .i64 x.l, .int .i64 x.s] 23 := hW ▸ kV2.alloc _
  have kZ3 : Blk W w2.heap.size #[.int .i64 y.k, .int .i64 y.p, .int .u8 y.c, .int .i64 y.l, .int .i64 y.s] 23 := hW ▸ Blk.new w2 _ _
  have B3 : Below w.heap.size w W := hW ▸ below_alloc B2 _
  clear hW kX2 kY2 kV2 B2
  obtain ⟨x0, x1, x2, x3, x4⟩ := kX3.cells5
  obtain ⟨y0, y1, y2, y3, y4⟩ := kY3.cells5
  have zx := kX3.frozen
  have zy := kY3.frozen
  go_region_held3 (fun V => (V.cell? ⟨w1.heap.size, 0, none⟩ = some (.int .i64 x.k) ∧ V.cell? ⟨w1.heap.size, 1, none⟩ = some (.int .i64 x.p) ∧ V.cell? ⟨w1.heap.size, 2, none⟩ = some (.int .u8 x.c) ∧ V.cell? ⟨w1.heap.size, 3, none⟩ = some (.int .i64 x.l) ∧ V.cell? ⟨w1.heap.size, 4, none⟩ = some (.int .i64 x.s)) ∧ (V.cell? ⟨w2.heap.size, 0, none⟩ = some (.int .i64 y.k) ∧ V.cell? ⟨w2.heap.size, 1, none⟩ = some (.int .i64 y.p) ∧ V.cell? ⟨w2.heap.size, 2, none⟩ = some (.int .u8 y.c) ∧ V.cell? ⟨w2.heap.size, 3, none⟩ = some (.int .i64 y.l) ∧ V.cell? ⟨w2.heap.size, 4, none⟩ = some (.int .i64 y.s)))
    (first | (with_reducible exact ⟨kV3.drew.cells5, kZ3.drew.cells5⟩) | (with_reducible exact ⟨(kV3.other5 (b' := w.heap.size + 1 + 1) (by omega) _ _ _ _ _).drew.cells5, (kZ3.other5 (b' := w.heap.size + 1 + 1) (by omega) _ _ _ _ _).drew.cells5⟩) | (with_reducible exact ⟨(kV3.other5 (b' := w.heap.size + 1 + 1 + 1) (by omega) _ _ _ _ _).drew.cells5, (kZ3.other5 (b' := w.heap.size + 1 + 1 + 1) (by omega) _ _ _ _ _).drew.cells5⟩) | (with_reducible exact ⟨((kV3.other5 (b' := w.heap.size + 1 + 1) (by omega) _ _ _ _ _).other5 (b' := w.heap.size + 1 + 1 + 1) (by omega) _ _ _ _ _).drew.cells5, ((kZ3.other5 (b' := w.heap.size + 1 + 1) (by omega) _ _ _ _ _).other5 (b' := w.heap.size + 1 + 1 + 1) (by omega) _ _ _ _ _).drew.cells5⟩) | (with_reducible exact ⟨((kV3.other5 (b' := w.heap.size + 1 + 1 + 1) (by omega) _ _ _ _ _).other5 (b' := w.heap.size + 1 + 1) (by omega) _ _ _ _ _).drew.cells5, ((kZ3.other5 (b' := w.heap.size + 1 + 1 + 1) (by omega) _ _ _ _ _).other5 (b' := w.heap.size + 1 + 1) (by omega) _ _ _ _ _).drew.cells5⟩) | fail)
    (first | fail)
  go_wp2
  have jX := (kX3.set5 (.int .i64 x.k) (.int .i64 x.p) (.int .u8 x.c) (.int .i64 x.l) (.int .i64 x.s)).other5 (b' := w.heap.size + 1 + 1 + 1) (by omega) (.int .i64 y.k) (.int .i64 y.p) (.int .u8 y.c) (.int .i64 y.l) (.int .i64 y.s)
  have jY := (kY3.other5 (b' := w.heap.size + 1 + 1) (by omega) (.int .i64 x.k) (.int .i64 x.p) (.int .u8 x.c) (.int .i64 x.l) (.int .i64 x.s)).set5 (.int .i64 y.k) (.int .i64 y.p) (.int .u8 y.c) (.int .i64 y.l) (.int .i64 y.s)
  obtain ⟨p0, p1, p2, p3, p4⟩ := jX.drew.cells5
  obtain ⟨q0, q1, q2, q3, q4⟩ := jY.drew.cells5
  refine bodyPost_ret (v := .tuple #[.agg #[.int .i64 x.k, .int .i64 x.p, .int .u8 x.c, .int .i64 x.l, .int .i64 x.s], .agg #[.int .i64 y.k, .int .i64 y.p, .int .u8 y.c, .int .i64 y.l, .int .i64 y.s]]) (by simp [results, Tryd.results24, go_sem, p0, p1, p2, p3, p4, q0, q1, q2, q3, q4]) rfl ?_
  exact ⟨x, y, hx, hy, rfl, (below_put5 (below_put5 B3 (by omega) _ _ _ _ _) (by omega) _ _ _ _ _).drew⟩
end Go.Proofs.YtkicbnkacjnhoaaDoor
