/- How acts read. -/
import Derived.Test.YtkicbnkacjnhoaaDoorArgs
import Derived.Test.YtkicbnkacjnhoaaDoorMeetsWalk
namespace Go.Proofs.YtkicbnkacjnhoaaDoor
open Go.ChangeShapes Go.WideShapes Go.ChangeAt Go.RowKit
set_option linter.unusedVariables false
set_option maxRecDepth 100000

instance : Inhabited PAct := ⟨⟨0, false, false, 0, 0⟩⟩
theorem c111 : Tryd.prog.cellsOf 111 = 5 := by kernel_rfl
theorem list5a {α : Type} {l : List α} (h : l.length = 5) : ∃ a b c d e, l = [a, b, c, d, e] := by
  match l, h with
  | [a, b, c, d, e], _ => exact ⟨a, b, c, d, e, rfl⟩
def PAct.Ok (t : PAct) : Prop := I64 t.k ∧ I64 t.n ∧ U8 t.ch
theorem reads111 : Reads 111 actF PAct.Ok := by
  intro H enc W base spare held fuel cs x h
  obtain ⟨xs, m, _, _, hlen, hxl, hf⟩ := DataW.trod_struct Tryd.underlying111 h
  rw [c111] at hlen
  obtain ⟨v0, v1, v2, v3, v4, rfl⟩ := list5a hlen
  have hl : xs.length = 5 := hxl
  have g0 : DataW.trod enc Tryd.prog W base spare held m 3 [v0] = xs[0]? := by simpa [c3] using hf 0 _ rfl
  have g1 : DataW.trod enc Tryd.prog W base spare held m 4 [v1] = xs[1]? := by simpa [c4] using hf 1 _ rfl
  have g2 : DataW.trod enc Tryd.prog W base spare held m 4 [v2] = xs[2]? := by simpa [c4] using hf 2 _ rfl
  have g3 : DataW.trod enc Tryd.prog W base spare held m 3 [v3] = xs[3]? := by simpa [c3] using hf 3 _ rfl
  have g4 : DataW.trod enc Tryd.prog W base spare held m 5 [v4] = xs[4]? := by simpa [c5] using hf 4 _ rfl
  obtain ⟨a0, rfl, w0⟩ := field_int g0 (isSome_at (by omega))
  obtain ⟨b1, rfl⟩ := field_bool g1 (isSome_at (by omega))
  obtain ⟨b2, rfl⟩ := field_bool g2 (isSome_at (by omega))
  obtain ⟨a3, rfl, w3⟩ := field_int g3 (isSome_at (by omega))
  obtain ⟨a4, rfl, w4⟩ := field_u8 g4 (isSome_at (by omega))
  exact ⟨⟨a0, b1, b2, a3, a4⟩, rfl, w0, w3, w4⟩
theorem PAct.Ok.fine {t : PAct} (h : t.Ok) : t.Fine := by
  obtain ⟨h1, h2, h3⟩ := h
  exact ⟨h3, h2, h1⟩
end Go.Proofs.YtkicbnkacjnhoaaDoor
