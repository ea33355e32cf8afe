/-
  DERIVED. GIVEN WITH THE SEED: THE CARDS: each row of YtkicbnkacjnhoaaDoorRows.lean that lists a variable, with what it lists TIED to the program's text (the seventh form; the later family's looks); each row that meets fmt, with fmt's text TOLD by the authors' own Lean function (tested against real Go, not proved from fmt's source: count such statements apart). THE CARD IS WHAT COUNTS. Prove the row's statement (the work); the ties are given (YtkicbnkacjnhoaaDoorTie.lean); close each card by the builder's one call (the guide's Derived/Test/ToyasCard.lean, 'card_holds'). Laid BY PROGRAM, IN A SANDBOX (cutbox-door.mjs). By AI agents, Wed Nov 11 2026. No macro, syntax, notation, axiom, sorry.
-/
import Derived.Test.YtkicbnkacjnhoaaDoorRows
import GoSem.ClaimSeven
namespace Go.Proofs.YtkicbnkacjnhoaaDoor
namespace Rows

/-- THE TIED CARD OF 'jotterlaw05.OtTags'. -/
def otTagsCard : Claim7 := { stood := { row := otTagsRow, standIns := [], harness := (true, "c4212513f26db8c62b53fef12b929e9ad22db1d2ac872dd533d3f702ec45025c"), looks := false }, kinds := [], alts := [], laidByText := true, laidKinds := [.funcs], laidTests := true, laidLooks := .later }
def OtTagsCardSaid : Prop := Claim7.holds Tryd.pinned (.plain (OpenSpec.ofChange otTagsSpec)) otTagsCard

/-- THE TIED CARD OF 'jotterlaw05.OtShifts'. -/
def otShiftsCard : Claim7 := { stood := { row := otShiftsRow, standIns := [], harness := (true, "c4212513f26db8c62b53fef12b929e9ad22db1d2ac872dd533d3f702ec45025c"), looks := false }, kinds := [], alts := [], laidByText := true, laidKinds := [.funcs], laidTests := true, laidLooks := .later }
def OtShiftsCardSaid : Prop := Claim7.holds Tryd.pinned (.plain (OpenSpec.ofChange otShiftsSpec)) otShiftsCard

/-- THE TIED CARD OF 'jotterlaw05.OtCrosses'. -/
def otCrossesCard : Claim7 := { stood := { row := otCrossesRow, standIns := [], harness := (true, "c4212513f26db8c62b53fef12b929e9ad22db1d2ac872dd533d3f702ec45025c"), looks := false }, kinds := [], alts := [], laidByText := true, laidKinds := [.funcs], laidTests := true, laidLooks := .later }
def OtCrossesCardSaid : Prop := Claim7.holds Tryd.pinned (.plain (OpenSpec.ofChange otCrossesSpec)) otCrossesCard

/-- THE TIED CARD OF 'jotterlaw05.OtThroughs'. -/
def otThroughsCard : Claim7 := { stood := { row := otThroughsRow, standIns := [], harness := (true, "c4212513f26db8c62b53fef12b929e9ad22db1d2ac872dd533d3f702ec45025c"), looks := false }, kinds := [], alts := [], laidByText := true, laidKinds := [.funcs], laidTests := true, laidLooks := .later }
def OtThroughsCardSaid : Prop := Claim7.holds Tryd.pinned (.plain (OpenSpec.ofChange otThroughsSpec)) otThroughsCard

/-- THE TIED CARD OF 'jotterlaw05.OtMeans'. -/
def otMeansCard : Claim7 := { stood := { row := otMeansRow, standIns := [], harness := (true, "c4212513f26db8c62b53fef12b929e9ad22db1d2ac872dd533d3f702ec45025c"), looks := false }, kinds := [], alts := [], laidByText := true, laidKinds := [.funcs], laidTests := true, laidLooks := .later }
def OtMeansCardSaid : Prop := Claim7.holds Tryd.pinned (.plain (OpenSpec.ofChange otMeansSpec)) otMeansCard

/-- THE TIED CARD OF 'jotterlaw05.OtWeaves'. -/
def otWeavesCard : Claim7 := { stood := { row := otWeavesRow, standIns := [], harness := (true, "c4212513f26db8c62b53fef12b929e9ad22db1d2ac872dd533d3f702ec45025c"), looks := false }, kinds := [], alts := [], laidByText := true, laidKinds := [.funcs], laidTests := true, laidLooks := .later }
def OtWeavesCardSaid : Prop := Claim7.holds Tryd.pinned (.plain (OpenSpec.ofChange otWeavesSpec)) otWeavesCard

/-- THE TIED CARD OF 'jotterlaw05.OtSquare'. -/
def otSquareCard : Claim7 := { stood := { row := otSquareRow, standIns := [], harness := (true, "c4212513f26db8c62b53fef12b929e9ad22db1d2ac872dd533d3f702ec45025c"), looks := false }, kinds := [], alts := [], laidByText := true, laidKinds := [.funcs], laidTests := true, laidLooks := .later }
def OtSquareCardSaid : Prop := Claim7.holds Tryd.pinned (.plain (OpenSpec.ofChange otSquareSpec)) otSquareCard

/-- THE TIED CARD OF 'jotterlaw05.OtNops'. -/
def otNopsCard : Claim7 := { stood := { row := otNopsRow, standIns := [], harness := (true, "c4212513f26db8c62b53fef12b929e9ad22db1d2ac872dd533d3f702ec45025c"), looks := false }, kinds := [], alts := [], laidByText := true, laidKinds := [.funcs], laidTests := true, laidLooks := .later }
def OtNopsCardSaid : Prop := Claim7.holds Tryd.pinned (.plain (OpenSpec.ofChange otNopsSpec)) otNopsCard

/-- THE TIED CARD OF 'jotterlaw05.OtPieces'. -/
def otPiecesCard : Claim7 := { stood := { row := otPiecesRow, standIns := [], harness := (true, "c4212513f26db8c62b53fef12b929e9ad22db1d2ac872dd533d3f702ec45025c"), looks := false }, kinds := [], alts := [], laidByText := true, laidKinds := [.funcs], laidTests := true, laidLooks := .later }
def OtPiecesCardSaid : Prop := Claim7.holds Tryd.pinned (.plain (OpenSpec.ofChange otPiecesSpec)) otPiecesCard

/-- THE TIED CARD OF 'jotterlaw05.OtLimit'. -/
def otLimitCard : Claim7 := { stood := { row := otLimitRow, standIns := [], harness := (true, "c4212513f26db8c62b53fef12b929e9ad22db1d2ac872dd533d3f702ec45025c"), looks := false }, kinds := [], alts := [], laidByText := true, laidKinds := [.funcs], laidTests := true, laidLooks := .later }
def OtLimitCardSaid : Prop := Claim7.holds Tryd.pinned (.plain (OpenSpec.ofChange otLimitSpec)) otLimitCard

/-- THE TIED CARD OF 'jotterlaw05.OtOwn'. -/
def otOwnCard : Claim7 := { stood := { row := otOwnRow, standIns := [], harness := (true, "c4212513f26db8c62b53fef12b929e9ad22db1d2ac872dd533d3f702ec45025c"), looks := false }, kinds := [], alts := [], laidByText := true, laidKinds := [.funcs], laidTests := true, laidLooks := .later }
def OtOwnCardSaid : Prop := Claim7.holds Tryd.pinned (.plain (OpenSpec.ofChange otOwnSpec)) otOwnCard

/-- THE TIED CARD OF 'jotterlaw10.SpaceLooks'. -/
def spaceLooksCard : Claim7 := { stood := { row := spaceLooksRow, standIns := [], harness := (true, "c4212513f26db8c62b53fef12b929e9ad22db1d2ac872dd533d3f702ec45025c"), looks := false }, kinds := [], alts := [], laidByText := true, laidKinds := [.funcs], laidTests := true, laidLooks := .later }
def SpaceLooksCardSaid : Prop := Claim7.holds Tryd.pinned (.plain (OpenSpec.ofChange spaceLooksSpec)) spaceLooksCard

/-- THE TIED CARD OF 'jotterlaw10.SpaceRebuilt'. -/
def spaceRebuiltCard : Claim7 := { stood := { row := spaceRebuiltRow, standIns := [], harness := (true, "c4212513f26db8c62b53fef12b929e9ad22db1d2ac872dd533d3f702ec45025c"), looks := false }, kinds := [], alts := [], laidByText := true, laidKinds := [.funcs], laidTests := true, laidLooks := .later }
def SpaceRebuiltCardSaid : Prop := Claim7.holds Tryd.pinned (.plain (OpenSpec.ofChange spaceRebuiltSpec)) spaceRebuiltCard

/-- THE TIED CARD OF 'jotterlaw10.SpaceFresh'. -/
def spaceFreshCard : Claim7 := { stood := { row := spaceFreshRow, standIns := [], harness := (true, "c4212513f26db8c62b53fef12b929e9ad22db1d2ac872dd533d3f702ec45025c"), looks := false }, kinds := [], alts := [], laidByText := true, laidKinds := [.funcs], laidTests := true, laidLooks := .later }
def SpaceFreshCardSaid : Prop := Claim7.holds Tryd.pinned (.plain (OpenSpec.ofChange spaceFreshSpec)) spaceFreshCard

/-- THE TIED CARD OF 'jotterlaw10.SpacePlays'. -/
def spacePlaysCard : Claim7 := { stood := { row := spacePlaysRow, standIns := [], harness := (true, "c4212513f26db8c62b53fef12b929e9ad22db1d2ac872dd533d3f702ec45025c"), looks := false }, kinds := [], alts := [], laidByText := true, laidKinds := [.funcs], laidTests := true, laidLooks := .later }
def SpacePlaysCardSaid : Prop := Claim7.holds Tryd.pinned (.plain (OpenSpec.ofChange spacePlaysSpec)) spacePlaysCard

/-- THE TIED CARD OF 'jotterlaw10.SpaceLines'. -/
def spaceLinesCard : Claim7 := { stood := { row := spaceLinesRow, standIns := [], harness := (true, "c4212513f26db8c62b53fef12b929e9ad22db1d2ac872dd533d3f702ec45025c"), looks := false }, kinds := [], alts := [], laidByText := true, laidKinds := [.funcs], laidTests := true, laidLooks := .later }
def SpaceLinesCardSaid : Prop := Claim7.holds Tryd.pinned (.plain (OpenSpec.ofChange spaceLinesSpec)) spaceLinesCard

/-- THE TIED CARD OF 'jotterlaw10.SpaceMeets'. -/
def spaceMeetsCard : Claim7 := { stood := { row := spaceMeetsRow, standIns := [], harness := (true, "c4212513f26db8c62b53fef12b929e9ad22db1d2ac872dd533d3f702ec45025c"), looks := false }, kinds := [], alts := [], laidByText := true, laidKinds := [.funcs], laidTests := true, laidLooks := .later }
def SpaceMeetsCardSaid : Prop := Claim7.holds Tryd.pinned (.plain (OpenSpec.ofChange spaceMeetsSpec)) spaceMeetsCard

/-- THE TIED CARD OF 'jotterlaw10.SpaceWhole'. -/
def spaceWholeCard : Claim7 := { stood := { row := spaceWholeRow, standIns := [], harness := (true, "c4212513f26db8c62b53fef12b929e9ad22db1d2ac872dd533d3f702ec45025c"), looks := false }, kinds := [], alts := [], laidByText := true, laidKinds := [.funcs], laidTests := true, laidLooks := .later }
def SpaceWholeCardSaid : Prop := Claim7.holds Tryd.pinned (.plain (OpenSpec.ofChange spaceWholeSpec)) spaceWholeCard

/-- THE SECOND FORM's CARD OF 'jotterlaw05.OtTags'. -/
def otTagsUptoCard : Claim7 := { stood := { row := otTagsUptoRow, standIns := [], harness := (true, "c4212513f26db8c62b53fef12b929e9ad22db1d2ac872dd533d3f702ec45025c"), looks := false }, kinds := [], alts := [], laidByText := true, laidKinds := [.funcs], laidTests := true, laidLooks := .later }
def OtTagsUptoCardSaid : Prop := Claim7.holds Tryd.pinned (.plain (OpenSpec.upto otTagsSpec)) otTagsUptoCard

/-- THE SECOND FORM's CARD OF 'jotterlaw05.OtShifts'. -/
def otShiftsUptoCard : Claim7 := { stood := { row := otShiftsUptoRow, standIns := [], harness := (true, "c4212513f26db8c62b53fef12b929e9ad22db1d2ac872dd533d3f702ec45025c"), looks := false }, kinds := [], alts := [], laidByText := true, laidKinds := [.funcs], laidTests := true, laidLooks := .later }
def OtShiftsUptoCardSaid : Prop := Claim7.holds Tryd.pinned (.plain (OpenSpec.upto otShiftsSpec)) otShiftsUptoCard

/-- THE SECOND FORM's CARD OF 'jotterlaw05.OtCrosses'. -/
def otCrossesUptoCard : Claim7 := { stood := { row := otCrossesUptoRow, standIns := [], harness := (true, "c4212513f26db8c62b53fef12b929e9ad22db1d2ac872dd533d3f702ec45025c"), looks := false }, kinds := [], alts := [], laidByText := true, laidKinds := [.funcs], laidTests := true, laidLooks := .later }
def OtCrossesUptoCardSaid : Prop := Claim7.holds Tryd.pinned (.plain (OpenSpec.upto otCrossesSpec)) otCrossesUptoCard

/-- THE SECOND FORM's CARD OF 'jotterlaw05.OtThroughs'. -/
def otThroughsUptoCard : Claim7 := { stood := { row := otThroughsUptoRow, standIns := [], harness := (true, "c4212513f26db8c62b53fef12b929e9ad22db1d2ac872dd533d3f702ec45025c"), looks := false }, kinds := [], alts := [], laidByText := true, laidKinds := [.funcs], laidTests := true, laidLooks := .later }
def OtThroughsUptoCardSaid : Prop := Claim7.holds Tryd.pinned (.plain (OpenSpec.upto otThroughsSpec)) otThroughsUptoCard

/-- THE SECOND FORM's CARD OF 'jotterlaw05.OtMeans'. -/
def otMeansUptoCard : Claim7 := { stood := { row := otMeansUptoRow, standIns := [], harness := (true, "c4212513f26db8c62b53fef12b929e9ad22db1d2ac872dd533d3f702ec45025c"), looks := false }, kinds := [], alts := [], laidByText := true, laidKinds := [.funcs], laidTests := true, laidLooks := .later }
def OtMeansUptoCardSaid : Prop := Claim7.holds Tryd.pinned (.plain (OpenSpec.upto otMeansSpec)) otMeansUptoCard

/-- THE SECOND FORM's CARD OF 'jotterlaw05.OtWeaves'. -/
def otWeavesUptoCard : Claim7 := { stood := { row := otWeavesUptoRow, standIns := [], harness := (true, "c4212513f26db8c62b53fef12b929e9ad22db1d2ac872dd533d3f702ec45025c"), looks := false }, kinds := [], alts := [], laidByText := true, laidKinds := [.funcs], laidTests := true, laidLooks := .later }
def OtWeavesUptoCardSaid : Prop := Claim7.holds Tryd.pinned (.plain (OpenSpec.upto otWeavesSpec)) otWeavesUptoCard

/-- THE SECOND FORM's CARD OF 'jotterlaw05.OtSquare'. -/
def otSquareUptoCard : Claim7 := { stood := { row := otSquareUptoRow, standIns := [], harness := (true, "c4212513f26db8c62b53fef12b929e9ad22db1d2ac872dd533d3f702ec45025c"), looks := false }, kinds := [], alts := [], laidByText := true, laidKinds := [.funcs], laidTests := true, laidLooks := .later }
def OtSquareUptoCardSaid : Prop := Claim7.holds Tryd.pinned (.plain (OpenSpec.upto otSquareSpec)) otSquareUptoCard

/-- THE SECOND FORM's CARD OF 'jotterlaw05.OtNops'. -/
def otNopsUptoCard : Claim7 := { stood := { row := otNopsUptoRow, standIns := [], harness := (true, "c4212513f26db8c62b53fef12b929e9ad22db1d2ac872dd533d3f702ec45025c"), looks := false }, kinds := [], alts := [], laidByText := true, laidKinds := [.funcs], laidTests := true, laidLooks := .later }
def OtNopsUptoCardSaid : Prop := Claim7.holds Tryd.pinned (.plain (OpenSpec.upto otNopsSpec)) otNopsUptoCard

/-- THE SECOND FORM's CARD OF 'jotterlaw05.OtPieces'. -/
def otPiecesUptoCard : Claim7 := { stood := { row := otPiecesUptoRow, standIns := [], harness := (true, "c4212513f26db8c62b53fef12b929e9ad22db1d2ac872dd533d3f702ec45025c"), looks := false }, kinds := [], alts := [], laidByText := true, laidKinds := [.funcs], laidTests := true, laidLooks := .later }
def OtPiecesUptoCardSaid : Prop := Claim7.holds Tryd.pinned (.plain (OpenSpec.upto otPiecesSpec)) otPiecesUptoCard

/-- THE SECOND FORM's CARD OF 'jotterlaw05.OtLimit'. -/
def otLimitUptoCard : Claim7 := { stood := { row := otLimitUptoRow, standIns := [], harness := (true, "c4212513f26db8c62b53fef12b929e9ad22db1d2ac872dd533d3f702ec45025c"), looks := false }, kinds := [], alts := [], laidByText := true, laidKinds := [.funcs], laidTests := true, laidLooks := .later }
def OtLimitUptoCardSaid : Prop := Claim7.holds Tryd.pinned (.plain (OpenSpec.upto otLimitSpec)) otLimitUptoCard

/-- THE SECOND FORM's CARD OF 'jotterlaw05.OtOwn'. -/
def otOwnUptoCard : Claim7 := { stood := { row := otOwnUptoRow, standIns := [], harness := (true, "c4212513f26db8c62b53fef12b929e9ad22db1d2ac872dd533d3f702ec45025c"), looks := false }, kinds := [], alts := [], laidByText := true, laidKinds := [.funcs], laidTests := true, laidLooks := .later }
def OtOwnUptoCardSaid : Prop := Claim7.holds Tryd.pinned (.plain (OpenSpec.upto otOwnSpec)) otOwnUptoCard

/-- THE SECOND FORM's CARD OF 'jotterlaw10.SpaceLooks'. -/
def spaceLooksUptoCard : Claim7 := { stood := { row := spaceLooksUptoRow, standIns := [], harness := (true, "c4212513f26db8c62b53fef12b929e9ad22db1d2ac872dd533d3f702ec45025c"), looks := false }, kinds := [], alts := [], laidByText := true, laidKinds := [.funcs], laidTests := true, laidLooks := .later }
def SpaceLooksUptoCardSaid : Prop := Claim7.holds Tryd.pinned (.plain (OpenSpec.upto spaceLooksSpec)) spaceLooksUptoCard

/-- THE SECOND FORM's CARD OF 'jotterlaw10.SpaceRebuilt'. -/
def spaceRebuiltUptoCard : Claim7 := { stood := { row := spaceRebuiltUptoRow, standIns := [], harness := (true, "c4212513f26db8c62b53fef12b929e9ad22db1d2ac872dd533d3f702ec45025c"), looks := false }, kinds := [], alts := [], laidByText := true, laidKinds := [.funcs], laidTests := true, laidLooks := .later }
def SpaceRebuiltUptoCardSaid : Prop := Claim7.holds Tryd.pinned (.plain (OpenSpec.upto spaceRebuiltSpec)) spaceRebuiltUptoCard

/-- THE SECOND FORM's CARD OF 'jotterlaw10.SpaceFresh'. -/
def spaceFreshUptoCard : Claim7 := { stood := { row := spaceFreshUptoRow, standIns := [], harness := (true, "c4212513f26db8c62b53fef12b929e9ad22db1d2ac872dd533d3f702ec45025c"), looks := false }, kinds := [], alts := [], laidByText := true, laidKinds := [.funcs], laidTests := true, laidLooks := .later }
def SpaceFreshUptoCardSaid : Prop := Claim7.holds Tryd.pinned (.plain (OpenSpec.upto spaceFreshSpec)) spaceFreshUptoCard

/-- THE SECOND FORM's CARD OF 'jotterlaw10.SpacePlays'. -/
def spacePlaysUptoCard : Claim7 := { stood := { row := spacePlaysUptoRow, standIns := [], harness := (true, "c4212513f26db8c62b53fef12b929e9ad22db1d2ac872dd533d3f702ec45025c"), looks := false }, kinds := [], alts := [], laidByText := true, laidKinds := [.funcs], laidTests := true, laidLooks := .later }
def SpacePlaysUptoCardSaid : Prop := Claim7.holds Tryd.pinned (.plain (OpenSpec.upto spacePlaysSpec)) spacePlaysUptoCard

/-- THE SECOND FORM's CARD OF 'jotterlaw10.SpaceLines'. -/
def spaceLinesUptoCard : Claim7 := { stood := { row := spaceLinesUptoRow, standIns := [], harness := (true, "c4212513f26db8c62b53fef12b929e9ad22db1d2ac872dd533d3f702ec45025c"), looks := false }, kinds := [], alts := [], laidByText := true, laidKinds := [.funcs], laidTests := true, laidLooks := .later }
def SpaceLinesUptoCardSaid : Prop := Claim7.holds Tryd.pinned (.plain (OpenSpec.upto spaceLinesSpec)) spaceLinesUptoCard

/-- THE SECOND FORM's CARD OF 'jotterlaw10.SpaceMeets'. -/
def spaceMeetsUptoCard : Claim7 := { stood := { row := spaceMeetsUptoRow, standIns := [], harness := (true, "c4212513f26db8c62b53fef12b929e9ad22db1d2ac872dd533d3f702ec45025c"), looks := false }, kinds := [], alts := [], laidByText := true, laidKinds := [.funcs], laidTests := true, laidLooks := .later }
def SpaceMeetsUptoCardSaid : Prop := Claim7.holds Tryd.pinned (.plain (OpenSpec.upto spaceMeetsSpec)) spaceMeetsUptoCard

/-- THE SECOND FORM's CARD OF 'jotterlaw10.SpaceWhole'. -/
def spaceWholeUptoCard : Claim7 := { stood := { row := spaceWholeUptoRow, standIns := [], harness := (true, "c4212513f26db8c62b53fef12b929e9ad22db1d2ac872dd533d3f702ec45025c"), looks := false }, kinds := [], alts := [], laidByText := true, laidKinds := [.funcs], laidTests := true, laidLooks := .later }
def SpaceWholeUptoCardSaid : Prop := Claim7.holds Tryd.pinned (.plain (OpenSpec.upto spaceWholeSpec)) spaceWholeUptoCard
end Rows
end Go.Proofs.YtkicbnkacjnhoaaDoor
