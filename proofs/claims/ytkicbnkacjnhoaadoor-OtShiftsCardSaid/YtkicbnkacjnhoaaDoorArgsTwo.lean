/- How OtShifts' elements read. -/
import Derived.Test.YtkicbnkacjnhoaaDoorArgs
import Derived.Test.YtkicbnkacjnhoaaDoorTwo
namespace Go.Proofs.YtkicbnkacjnhoaaDoor
open Go.ChangeShapes Go.WideShapes Go.ChangeAt Go.RowKit
set_option linter.unusedVariables false
set_option maxRecDepth 100000

theorem c28 : Tryd.prog.cellsOf 28 = 11 := by kernel_rfl
theorem list11 {α : Type} {l : List α} (h : l.length = 11) : ∃ a b c d e f g i j k m, l = [a, b, c, d, e, f, g, i, j, k, m] := by
  match l, h with
  | [a, b, c, d, e, f, g, i, j, k, m], _ => exact ⟨a, b, c, d, e, f, g, i, j, k, m, rfl⟩
def PTwo.Ok (t : PTwo) : Prop := t.a.Ok ∧ t.b.Ok
theorem reads28 : Reads 28 twoF PTwo.Ok := by
  intro H enc W base spare held fuel cs x h
  obtain ⟨xs, m, _, _, hlen, hxl, hf⟩ := DataW.trod_struct Tryd.underlying28 h
  rw [c28] at hlen
  obtain ⟨v0, v1, v2, v3, v4, v5, v6, v7, v8, v9, v10, rfl⟩ := list11 hlen
  have hl : xs.length = 3 := hxl
  have g0 : DataW.trod enc Tryd.prog W base spare held m 23 [v0, v1, v2, v3, v4] = xs[0]? := by simpa [c23] using hf 0 _ rfl
  have g1 : DataW.trod enc Tryd.prog W base spare held m 23 [v5, v6, v7, v8, v9] = xs[1]? := by simpa [c23] using hf 1 _ rfl
  have g2 : DataW.trod enc Tryd.prog W base spare held m 4 [v10] = xs[2]? := by simpa [c4] using hf 2 _ rfl
  obtain ⟨z0, hz0⟩ := Option.isSome_iff_exists.1 (isSome_at (xs := xs) (i := 0) (by omega))
  obtain ⟨z1, hz1⟩ := Option.isSome_iff_exists.1 (isSome_at (xs := xs) (i := 1) (by omega))
  rw [hz0] at g0
  rw [hz1] at g1
  obtain ⟨a, ea, wa⟩ := reads23 _ _ _ _ _ _ _ _ g0
  obtain ⟨b, eb, wb⟩ := reads23 _ _ _ _ _ _ _ _ g1
  obtain ⟨f, rfl⟩ := field_bool g2 (isSome_at (by omega))
  refine ⟨⟨a, b, f⟩, ?_, wa, wb⟩
  simp only [opF, List.cons.injEq, and_true] at ea eb
  obtain ⟨rfl, rfl, rfl, rfl, rfl⟩ := ea
  obtain ⟨rfl, rfl, rfl, rfl, rfl⟩ := eb
  rfl
end Go.Proofs.YtkicbnkacjnhoaaDoor
