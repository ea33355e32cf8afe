/- How a script's calls read. -/
import Derived.Test.YtkicbnkacjnhoaaDoorArgs
import Derived.Test.YtkicbnkacjnhoaaDoorTwo
import Derived.Test.YtkicbnkacjnhoaaDoorSpRebWalk
namespace Go.Proofs.YtkicbnkacjnhoaaDoor
open Go.ChangeShapes Go.WideShapes Go.ChangeAt Go.RowKit
set_option linter.unusedVariables false
set_option maxRecDepth 100000

instance : Inhabited PSOp := ⟨⟨0, false, 0, ⟨0, 0, 0, 0, 0⟩⟩⟩
theorem c94 : Tryd.prog.cellsOf 94 = 8 := by kernel_rfl
theorem list8 {α : Type} {l : List α} (h : l.length = 8) : ∃ a b c d e f g i, l = [a, b, c, d, e, f, g, i] := by
  match l, h with
  | [a, b, c, d, e, f, g, i], _ => exact ⟨a, b, c, d, e, f, g, i, rfl⟩
def PSOp.Ok (t : PSOp) : Prop := I64 t.k ∧ I64 t.m ∧ t.o.Ok
theorem reads94 : Reads 94 sopF PSOp.Ok := by
  intro H enc W base spare held fuel cs x h
  obtain ⟨xs, m, _, _, hlen, hxl, hf⟩ := DataW.trod_struct Tryd.underlying94 h
  rw [c94] at hlen
  obtain ⟨v0, v1, v2, v3, v4, v5, v6, v7, rfl⟩ := list8 hlen
  have hl : xs.length = 4 := hxl
  have g0 : DataW.trod enc Tryd.prog W base spare held m 3 [v0] = xs[0]? := by simpa [c3] using hf 0 _ rfl
  have g1 : DataW.trod enc Tryd.prog W base spare held m 4 [v1] = xs[1]? := by simpa [c4] using hf 1 _ rfl
  have g2 : DataW.trod enc Tryd.prog W base spare held m 3 [v2] = xs[2]? := by simpa [c3] using hf 2 _ rfl
  have g3 : DataW.trod enc Tryd.prog W base spare held m 23 [v3, v4, v5, v6, v7] = xs[3]? := by simpa [c23] using hf 3 _ rfl
  obtain ⟨a0, rfl, w0⟩ := field_int g0 (isSome_at (by omega))
  obtain ⟨b, rfl⟩ := field_bool g1 (isSome_at (by omega))
  obtain ⟨a2, rfl, w2⟩ := field_int g2 (isSome_at (by omega))
  obtain ⟨z3, hz3⟩ := Option.isSome_iff_exists.1 (isSome_at (xs := xs) (i := 3) (by omega))
  rw [hz3] at g3
  obtain ⟨o, eo, wo⟩ := reads23 _ _ _ _ _ _ _ _ g3
  refine ⟨⟨a0, b, a2, o⟩, ?_, w0, w2, wo⟩
  simp only [opF, List.cons.injEq, and_true] at eo
  obtain ⟨rfl, rfl, rfl, rfl, rfl⟩ := eo
  rfl
end Go.Proofs.YtkicbnkacjnhoaaDoor
