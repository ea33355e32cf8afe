/- How moves read. -/
import Derived.Test.YtkicbnkacjnhoaaDoorArgs
import Derived.Test.YtkicbnkacjnhoaaDoorLine
namespace Go.Proofs.YtkicbnkacjnhoaaDoor
open Go.ChangeShapes Go.WideShapes Go.ChangeAt Go.RowKit
set_option linter.unusedVariables false
set_option maxRecDepth 100000

instance : Inhabited PMv := ⟨⟨false, 0, 0⟩⟩
theorem c53 : Tryd.prog.cellsOf 53 = 3 := by kernel_rfl
def PMv.Ok (t : PMv) : Prop := I64 t.a ∧ U8 t.c
theorem reads53 : Reads 53 moveF PMv.Ok := by
  intro H enc W base spare held fuel cs x h
  obtain ⟨xs, m, _, _, hlen, hxl, hf⟩ := DataW.trod_struct Tryd.underlying53 h
  rw [c53] at hlen
  obtain ⟨v0, v1, v2, rfl⟩ := list3 hlen
  have hl : xs.length = 3 := hxl
  have g0 : DataW.trod enc Tryd.prog W base spare held m 4 [v0] = xs[0]? := by simpa [c4] using hf 0 _ rfl
  have g1 : DataW.trod enc Tryd.prog W base spare held m 3 [v1] = xs[1]? := by simpa [c3] using hf 1 _ rfl
  have g2 : DataW.trod enc Tryd.prog W base spare held m 5 [v2] = xs[2]? := by simpa [c5] using hf 2 _ rfl
  obtain ⟨b, rfl⟩ := field_bool g0 (isSome_at (by omega))
  obtain ⟨a1, rfl, w1⟩ := field_int g1 (isSome_at (by omega))
  obtain ⟨a2, rfl, w2⟩ := field_u8 g2 (isSome_at (by omega))
  exact ⟨⟨b, a1, a2⟩, rfl, w1, w2⟩
end Go.Proofs.YtkicbnkacjnhoaaDoor
