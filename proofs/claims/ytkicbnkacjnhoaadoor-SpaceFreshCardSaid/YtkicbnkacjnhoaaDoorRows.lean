/-
  NARROWER THAN 'FOR EVERY INPUT', by the rows' own cells (each row's printed sentence says how): OtTags: laid · OtShifts: laid · OtCrosses: laid · OtThroughs: laid · OtMeans: laid · OtWeaves: laid · OtSquare: laid · OtNops: laid · OtPieces: laid · OtLimit: laid · OtOwn: laid · SpaceLooks: laid · SpaceRebuilt: laid · SpaceFresh: laid · SpacePlays: laid · SpaceLines: laid · SpaceMeets: laid · SpaceWhole: laid.
  DERIVED. THE GIVEN ROWS OF THIS SEAT. 18 by the template 'for every input the law returns true; each argument reads behind the call as it read before'; 0 by the template 'total and deterministic' (their statements: YtkicbnkacjnhoaaDoorTotals.lean).
  GIVEN WITH THE SEED: the statements are not yours to turn. If you find one false, say at which input.
  Laid BY PROGRAM, IN A SANDBOX (cutbox-rows.mjs): the forced cells as the released guide's own fill.sh prints them over the translation 4aa8cd23fa74d7a7… (all of the seat's roots in one cut). By AI agents, Wed Nov 11 2026. No macro, syntax, notation, axiom, sorry.
-/
import Derived.Test.YtkicbnkacjnhoaaDoorChecked
import GoSem.Claim
import GoSem.ClaimJoined
import GoSem.ClaimMapViews
import Derived.JoinedTies
import Derived.KernelRfl
namespace Go.Proofs.YtkicbnkacjnhoaaDoor
/- THE CELL 'sum', in the pinned program and in every row, IS THE sha256 OF THE DUMP (.gsa) THAT YtkicbnkacjnhoaaDoorProg.lean LOADS. Nothing in Lean hashes anything: it is a label: what it is worth is what the hold of that sum in a sandbox is worth. -/
noncomputable def Tryd.pinned : Pinned := { name := "ytkicbnkacjnhoaadoor", sum := "4aa8cd23fa74d7a744d50db8c73113dbb58159dd2935f90ea1cfa2c76c4371ea", checked := Tryd.checked }
namespace Rows
def none {H : Type} : Left H := { results := [], args := [] }

/- WHAT THE LISTED PACKAGE-LEVEL VARIABLES READ AS WHEN THE CALL BEGINS. Each datum BY PROGRAM (the guide's laid-datum.mjs) off the statement by which the dump's own 'gosem.cut.vars' lays the variable. In a bare row this is a premise. The card (YtkicbnkacjnhoaaDoorCards.lean) ties it to the program's text. -/
def laid_jotter_ot_rules {H : Type} : DataW H := .iface "func table" (.agg [.agg [.iface "func" (.lit (.string [106, 111, 116, 116, 101, 114, 47, 111, 116, 46, 115, 116, 97, 121, 115])), .iface "func" (.lit (.string [106, 111, 116, 116, 101, 114, 47, 111, 116, 46, 115, 116, 97, 121, 115])), .iface "func" (.lit (.string [106, 111, 116, 116, 101, 114, 47, 111, 116, 46, 115, 116, 97, 121, 115]))], .agg [.iface "func" (.lit (.string [106, 111, 116, 116, 101, 114, 47, 111, 116, 46, 115, 116, 97, 121, 115])), .iface "func" (.lit (.string [106, 111, 116, 116, 101, 114, 47, 111, 116, 46, 105, 110, 115, 101, 114, 116, 80, 97, 115, 116, 73, 110, 115, 101, 114, 116])), .iface "func" (.lit (.string [106, 111, 116, 116, 101, 114, 47, 111, 116, 46, 105, 110, 115, 101, 114, 116, 80, 97, 115, 116, 68, 101, 108, 101, 116, 101]))], .agg [.iface "func" (.lit (.string [106, 111, 116, 116, 101, 114, 47, 111, 116, 46, 115, 116, 97, 121, 115])), .iface "func" (.lit (.string [106, 111, 116, 116, 101, 114, 47, 111, 116, 46, 100, 101, 108, 101, 116, 101, 80, 97, 115, 116, 73, 110, 115, 101, 114, 116])), .iface "func" (.lit (.string [106, 111, 116, 116, 101, 114, 47, 111, 116, 46, 100, 101, 108, 101, 116, 101, 80, 97, 115, 116, 68, 101, 108, 101, 116, 101]))]])

/-- 'jotterlaw05.OtTags': WHATEVER THE INPUT: true; the input reads as it did. -/
def otTagsSpec : ChangeSpec := { name := "otTags", fn := fun _ => fun
  | [d1, d2, d3] => { results := [.lit (.bool true)], args := [d1, d2, d3] }
  | _ => none }
def otTagsRow : OpenClaim := { program := "ytkicbnkacjnhoaadoor", sum := "4aa8cd23fa74d7a744d50db8c73113dbb58159dd2935f90ea1cfa2c76c4371ea", func := "jotter/jotterlaw05.OtTags", spec := "otTags", unfollowed := true, recurses := true, named := ["jotter/ot.rules"], apart := false, laid := [("jotter/ot.rules", laid_jotter_ot_rules)] }
def OtTagsSaid : Prop := otTagsRow.holds Tryd.pinned (OpenSpec.ofChange otTagsSpec)

/-- ITS FALSE NEIGHBOUR: 'it returns false'. Refute it at one input. -/
def otTagsWrong : ChangeSpec := { name := "otTags", fn := fun _ => fun
  | [d1, d2, d3] => { results := [.lit (.bool false)], args := [d1, d2, d3] }
  | _ => none }
def OtTagsWrongFalsely : Prop := otTagsRow.holds Tryd.pinned (OpenSpec.ofChange otTagsWrong)

/-- 'jotterlaw05.OtShifts': WHATEVER THE INPUT: true; the input reads as it did. -/
def otShiftsSpec : ChangeSpec := { name := "otShifts", fn := fun _ => fun
  | [d] => { results := [.lit (.bool true)], args := [d] }
  | _ => none }
def otShiftsRow : OpenClaim := { program := "ytkicbnkacjnhoaadoor", sum := "4aa8cd23fa74d7a744d50db8c73113dbb58159dd2935f90ea1cfa2c76c4371ea", func := "jotter/jotterlaw05.OtShifts", spec := "otShifts", unfollowed := true, recurses := true, named := ["jotter/ot.rules"], apart := false, laid := [("jotter/ot.rules", laid_jotter_ot_rules)] }
def OtShiftsSaid : Prop := otShiftsRow.holds Tryd.pinned (OpenSpec.ofChange otShiftsSpec)

/-- ITS FALSE NEIGHBOUR: 'it returns false'. Refute it at one input. -/
def otShiftsWrong : ChangeSpec := { name := "otShifts", fn := fun _ => fun
  | [d] => { results := [.lit (.bool false)], args := [d] }
  | _ => none }
def OtShiftsWrongFalsely : Prop := otShiftsRow.holds Tryd.pinned (OpenSpec.ofChange otShiftsWrong)

/-- 'jotterlaw05.OtCrosses': WHATEVER THE INPUT: true; the input reads as it did. -/
def otCrossesSpec : ChangeSpec := { name := "otCrosses", fn := fun _ => fun
  | [d] => { results := [.lit (.bool true)], args := [d] }
  | _ => none }
def otCrossesRow : OpenClaim := { program := "ytkicbnkacjnhoaadoor", sum := "4aa8cd23fa74d7a744d50db8c73113dbb58159dd2935f90ea1cfa2c76c4371ea", func := "jotter/jotterlaw05.OtCrosses", spec := "otCrosses", unfollowed := true, recurses := true, named := ["jotter/ot.rules"], apart := false, laid := [("jotter/ot.rules", laid_jotter_ot_rules)] }
def OtCrossesSaid : Prop := otCrossesRow.holds Tryd.pinned (OpenSpec.ofChange otCrossesSpec)

/-- ITS FALSE NEIGHBOUR: 'it returns false'. Refute it at one input. -/
def otCrossesWrong : ChangeSpec := { name := "otCrosses", fn := fun _ => fun
  | [d] => { results := [.lit (.bool false)], args := [d] }
  | _ => none }
def OtCrossesWrongFalsely : Prop := otCrossesRow.holds Tryd.pinned (OpenSpec.ofChange otCrossesWrong)

/-- 'jotterlaw05.OtThroughs': WHATEVER THE INPUT: true; the input reads as it did. -/
def otThroughsSpec : ChangeSpec := { name := "otThroughs", fn := fun _ => fun
  | [d1, d2, d3] => { results := [.lit (.bool true)], args := [d1, d2, d3] }
  | _ => none }
def otThroughsRow : OpenClaim := { program := "ytkicbnkacjnhoaadoor", sum := "4aa8cd23fa74d7a744d50db8c73113dbb58159dd2935f90ea1cfa2c76c4371ea", func := "jotter/jotterlaw05.OtThroughs", spec := "otThroughs", unfollowed := true, recurses := true, named := ["jotter/ot.rules"], apart := false, laid := [("jotter/ot.rules", laid_jotter_ot_rules)] }
def OtThroughsSaid : Prop := otThroughsRow.holds Tryd.pinned (OpenSpec.ofChange otThroughsSpec)

/-- ITS FALSE NEIGHBOUR: 'it returns false'. Refute it at one input. -/
def otThroughsWrong : ChangeSpec := { name := "otThroughs", fn := fun _ => fun
  | [d1, d2, d3] => { results := [.lit (.bool false)], args := [d1, d2, d3] }
  | _ => none }
def OtThroughsWrongFalsely : Prop := otThroughsRow.holds Tryd.pinned (OpenSpec.ofChange otThroughsWrong)

/-- 'jotterlaw05.OtMeans': WHATEVER THE INPUT: true; the input reads as it did. -/
def otMeansSpec : ChangeSpec := { name := "otMeans", fn := fun _ => fun
  | [d1, d2, d3] => { results := [.lit (.bool true)], args := [d1, d2, d3] }
  | _ => none }
def otMeansRow : OpenClaim := { program := "ytkicbnkacjnhoaadoor", sum := "4aa8cd23fa74d7a744d50db8c73113dbb58159dd2935f90ea1cfa2c76c4371ea", func := "jotter/jotterlaw05.OtMeans", spec := "otMeans", unfollowed := true, recurses := true, named := ["jotter/ot.rules"], apart := false, laid := [("jotter/ot.rules", laid_jotter_ot_rules)] }
def OtMeansSaid : Prop := otMeansRow.holds Tryd.pinned (OpenSpec.ofChange otMeansSpec)

/-- ITS FALSE NEIGHBOUR: 'it returns false'. Refute it at one input. -/
def otMeansWrong : ChangeSpec := { name := "otMeans", fn := fun _ => fun
  | [d1, d2, d3] => { results := [.lit (.bool false)], args := [d1, d2, d3] }
  | _ => none }
def OtMeansWrongFalsely : Prop := otMeansRow.holds Tryd.pinned (OpenSpec.ofChange otMeansWrong)

/-- 'jotterlaw05.OtWeaves': WHATEVER THE INPUT: true; the input reads as it did. -/
def otWeavesSpec : ChangeSpec := { name := "otWeaves", fn := fun _ => fun
  | [d1, d2] => { results := [.lit (.bool true)], args := [d1, d2] }
  | _ => none }
def otWeavesRow : OpenClaim := { program := "ytkicbnkacjnhoaadoor", sum := "4aa8cd23fa74d7a744d50db8c73113dbb58159dd2935f90ea1cfa2c76c4371ea", func := "jotter/jotterlaw05.OtWeaves", spec := "otWeaves", unfollowed := true, recurses := true, named := ["jotter/ot.rules"], apart := false, laid := [("jotter/ot.rules", laid_jotter_ot_rules)] }
def OtWeavesSaid : Prop := otWeavesRow.holds Tryd.pinned (OpenSpec.ofChange otWeavesSpec)

/-- ITS FALSE NEIGHBOUR: 'it returns false'. Refute it at one input. -/
def otWeavesWrong : ChangeSpec := { name := "otWeaves", fn := fun _ => fun
  | [d1, d2] => { results := [.lit (.bool false)], args := [d1, d2] }
  | _ => none }
def OtWeavesWrongFalsely : Prop := otWeavesRow.holds Tryd.pinned (OpenSpec.ofChange otWeavesWrong)

/-- 'jotterlaw05.OtSquare': WHATEVER THE INPUT: true; the input reads as it did. -/
def otSquareSpec : ChangeSpec := { name := "otSquare", fn := fun _ => fun
  | [d1, d2, d3] => { results := [.lit (.bool true)], args := [d1, d2, d3] }
  | _ => none }
def otSquareRow : OpenClaim := { program := "ytkicbnkacjnhoaadoor", sum := "4aa8cd23fa74d7a744d50db8c73113dbb58159dd2935f90ea1cfa2c76c4371ea", func := "jotter/jotterlaw05.OtSquare", spec := "otSquare", unfollowed := true, recurses := true, named := ["jotter/ot.rules"], apart := false, laid := [("jotter/ot.rules", laid_jotter_ot_rules)] }
def OtSquareSaid : Prop := otSquareRow.holds Tryd.pinned (OpenSpec.ofChange otSquareSpec)

/-- ITS FALSE NEIGHBOUR: 'it returns false'. Refute it at one input. -/
def otSquareWrong : ChangeSpec := { name := "otSquare", fn := fun _ => fun
  | [d1, d2, d3] => { results := [.lit (.bool false)], args := [d1, d2, d3] }
  | _ => none }
def OtSquareWrongFalsely : Prop := otSquareRow.holds Tryd.pinned (OpenSpec.ofChange otSquareWrong)

/-- 'jotterlaw05.OtNops': WHATEVER THE INPUT: true; the input reads as it did. -/
def otNopsSpec : ChangeSpec := { name := "otNops", fn := fun _ => fun
  | [d1, d2] => { results := [.lit (.bool true)], args := [d1, d2] }
  | _ => none }
def otNopsRow : OpenClaim := { program := "ytkicbnkacjnhoaadoor", sum := "4aa8cd23fa74d7a744d50db8c73113dbb58159dd2935f90ea1cfa2c76c4371ea", func := "jotter/jotterlaw05.OtNops", spec := "otNops", unfollowed := true, recurses := true, named := ["jotter/ot.rules"], apart := false, laid := [("jotter/ot.rules", laid_jotter_ot_rules)] }
def OtNopsSaid : Prop := otNopsRow.holds Tryd.pinned (OpenSpec.ofChange otNopsSpec)

/-- ITS FALSE NEIGHBOUR: 'it returns false'. Refute it at one input. -/
def otNopsWrong : ChangeSpec := { name := "otNops", fn := fun _ => fun
  | [d1, d2] => { results := [.lit (.bool false)], args := [d1, d2] }
  | _ => none }
def OtNopsWrongFalsely : Prop := otNopsRow.holds Tryd.pinned (OpenSpec.ofChange otNopsWrong)

/-- 'jotterlaw05.OtPieces': WHATEVER THE INPUT: true; the input reads as it did. -/
def otPiecesSpec : ChangeSpec := { name := "otPieces", fn := fun _ => fun
  | [d1, d2, d3] => { results := [.lit (.bool true)], args := [d1, d2, d3] }
  | _ => none }
def otPiecesRow : OpenClaim := { program := "ytkicbnkacjnhoaadoor", sum := "4aa8cd23fa74d7a744d50db8c73113dbb58159dd2935f90ea1cfa2c76c4371ea", func := "jotter/jotterlaw05.OtPieces", spec := "otPieces", unfollowed := true, recurses := true, named := ["jotter/ot.rules"], apart := false, laid := [("jotter/ot.rules", laid_jotter_ot_rules)] }
def OtPiecesSaid : Prop := otPiecesRow.holds Tryd.pinned (OpenSpec.ofChange otPiecesSpec)

/-- ITS FALSE NEIGHBOUR: 'it returns false'. Refute it at one input. -/
def otPiecesWrong : ChangeSpec := { name := "otPieces", fn := fun _ => fun
  | [d1, d2, d3] => { results := [.lit (.bool false)], args := [d1, d2, d3] }
  | _ => none }
def OtPiecesWrongFalsely : Prop := otPiecesRow.holds Tryd.pinned (OpenSpec.ofChange otPiecesWrong)

/-- 'jotterlaw05.OtLimit': WHATEVER THE INPUT: true; the input reads as it did. -/
def otLimitSpec : ChangeSpec := { name := "otLimit", fn := fun _ => fun
  | [d1, d2] => { results := [.lit (.bool true)], args := [d1, d2] }
  | _ => none }
def otLimitRow : OpenClaim := { program := "ytkicbnkacjnhoaadoor", sum := "4aa8cd23fa74d7a744d50db8c73113dbb58159dd2935f90ea1cfa2c76c4371ea", func := "jotter/jotterlaw05.OtLimit", spec := "otLimit", unfollowed := true, recurses := true, named := ["jotter/ot.rules"], apart := false, laid := [("jotter/ot.rules", laid_jotter_ot_rules)] }
def OtLimitSaid : Prop := otLimitRow.holds Tryd.pinned (OpenSpec.ofChange otLimitSpec)

/-- ITS FALSE NEIGHBOUR: 'it returns false'. Refute it at one input. -/
def otLimitWrong : ChangeSpec := { name := "otLimit", fn := fun _ => fun
  | [d1, d2] => { results := [.lit (.bool false)], args := [d1, d2] }
  | _ => none }
def OtLimitWrongFalsely : Prop := otLimitRow.holds Tryd.pinned (OpenSpec.ofChange otLimitWrong)

/-- 'jotterlaw05.OtOwn': WHATEVER THE INPUT: true; the input reads as it did. -/
def otOwnSpec : ChangeSpec := { name := "otOwn", fn := fun _ => fun
  | [d1, d2, d3] => { results := [.lit (.bool true)], args := [d1, d2, d3] }
  | _ => none }
def otOwnRow : OpenClaim := { program := "ytkicbnkacjnhoaadoor", sum := "4aa8cd23fa74d7a744d50db8c73113dbb58159dd2935f90ea1cfa2c76c4371ea", func := "jotter/jotterlaw05.OtOwn", spec := "otOwn", unfollowed := true, recurses := true, named := ["jotter/ot.rules"], apart := false, laid := [("jotter/ot.rules", laid_jotter_ot_rules)] }
def OtOwnSaid : Prop := otOwnRow.holds Tryd.pinned (OpenSpec.ofChange otOwnSpec)

/-- ITS FALSE NEIGHBOUR: 'it returns false'. Refute it at one input. -/
def otOwnWrong : ChangeSpec := { name := "otOwn", fn := fun _ => fun
  | [d1, d2, d3] => { results := [.lit (.bool false)], args := [d1, d2, d3] }
  | _ => none }
def OtOwnWrongFalsely : Prop := otOwnRow.holds Tryd.pinned (OpenSpec.ofChange otOwnWrong)

/-- 'jotterlaw10.SpaceLooks': WHATEVER THE INPUT: true; the input reads as it did. -/
def spaceLooksSpec : ChangeSpec := { name := "spaceLooks", fn := fun _ => fun
  | [d1, d2, d3] => { results := [.lit (.bool true)], args := [d1, d2, d3] }
  | _ => none }
def spaceLooksRow : OpenClaim := { program := "ytkicbnkacjnhoaadoor", sum := "4aa8cd23fa74d7a744d50db8c73113dbb58159dd2935f90ea1cfa2c76c4371ea", func := "jotter/jotterlaw10.SpaceLooks", spec := "spaceLooks", unfollowed := true, recurses := true, named := ["jotter/ot.rules"], apart := false, laid := [("jotter/ot.rules", laid_jotter_ot_rules)] }
def SpaceLooksSaid : Prop := spaceLooksRow.holds Tryd.pinned (OpenSpec.ofChange spaceLooksSpec)

/-- ITS FALSE NEIGHBOUR: 'it returns false'. Refute it at one input. -/
def spaceLooksWrong : ChangeSpec := { name := "spaceLooks", fn := fun _ => fun
  | [d1, d2, d3] => { results := [.lit (.bool false)], args := [d1, d2, d3] }
  | _ => none }
def SpaceLooksWrongFalsely : Prop := spaceLooksRow.holds Tryd.pinned (OpenSpec.ofChange spaceLooksWrong)

/-- 'jotterlaw10.SpaceRebuilt': WHATEVER THE INPUT: true; the input reads as it did. -/
def spaceRebuiltSpec : ChangeSpec := { name := "spaceRebuilt", fn := fun _ => fun
  | [d1, d2, d3] => { results := [.lit (.bool true)], args := [d1, d2, d3] }
  | _ => none }
def spaceRebuiltRow : OpenClaim := { program := "ytkicbnkacjnhoaadoor", sum := "4aa8cd23fa74d7a744d50db8c73113dbb58159dd2935f90ea1cfa2c76c4371ea", func := "jotter/jotterlaw10.SpaceRebuilt", spec := "spaceRebuilt", unfollowed := true, recurses := true, named := ["jotter/ot.rules"], apart := false, laid := [("jotter/ot.rules", laid_jotter_ot_rules)] }
def SpaceRebuiltSaid : Prop := spaceRebuiltRow.holds Tryd.pinned (OpenSpec.ofChange spaceRebuiltSpec)

/-- ITS FALSE NEIGHBOUR: 'it returns false'. Refute it at one input. -/
def spaceRebuiltWrong : ChangeSpec := { name := "spaceRebuilt", fn := fun _ => fun
  | [d1, d2, d3] => { results := [.lit (.bool false)], args := [d1, d2, d3] }
  | _ => none }
def SpaceRebuiltWrongFalsely : Prop := spaceRebuiltRow.holds Tryd.pinned (OpenSpec.ofChange spaceRebuiltWrong)

/-- 'jotterlaw10.SpaceFresh': WHATEVER THE INPUT: true; the input reads as it did. -/
def spaceFreshSpec : ChangeSpec := { name := "spaceFresh", fn := fun _ => fun
  | [d1, d2] => { results := [.lit (.bool true)], args := [d1, d2] }
  | _ => none }
def spaceFreshRow : OpenClaim := { program := "ytkicbnkacjnhoaadoor", sum := "4aa8cd23fa74d7a744d50db8c73113dbb58159dd2935f90ea1cfa2c76c4371ea", func := "jotter/jotterlaw10.SpaceFresh", spec := "spaceFresh", unfollowed := true, recurses := true, named := ["jotter/ot.rules"], apart := false, laid := [("jotter/ot.rules", laid_jotter_ot_rules)] }
def SpaceFreshSaid : Prop := spaceFreshRow.holds Tryd.pinned (OpenSpec.ofChange spaceFreshSpec)

/-- ITS FALSE NEIGHBOUR: 'it returns false'. Refute it at one input. -/
def spaceFreshWrong : ChangeSpec := { name := "spaceFresh", fn := fun _ => fun
  | [d1, d2] => { results := [.lit (.bool false)], args := [d1, d2] }
  | _ => none }
def SpaceFreshWrongFalsely : Prop := spaceFreshRow.holds Tryd.pinned (OpenSpec.ofChange spaceFreshWrong)

/-- 'jotterlaw10.SpacePlays': WHATEVER THE INPUT: true; the input reads as it did. -/
def spacePlaysSpec : ChangeSpec := { name := "spacePlays", fn := fun _ => fun
  | [d1, d2, d3] => { results := [.lit (.bool true)], args := [d1, d2, d3] }
  | _ => none }
def spacePlaysRow : OpenClaim := { program := "ytkicbnkacjnhoaadoor", sum := "4aa8cd23fa74d7a744d50db8c73113dbb58159dd2935f90ea1cfa2c76c4371ea", func := "jotter/jotterlaw10.SpacePlays", spec := "spacePlays", unfollowed := true, recurses := true, named := ["jotter/ot.rules"], apart := false, laid := [("jotter/ot.rules", laid_jotter_ot_rules)] }
def SpacePlaysSaid : Prop := spacePlaysRow.holds Tryd.pinned (OpenSpec.ofChange spacePlaysSpec)

/-- ITS FALSE NEIGHBOUR: 'it returns false'. Refute it at one input. -/
def spacePlaysWrong : ChangeSpec := { name := "spacePlays", fn := fun _ => fun
  | [d1, d2, d3] => { results := [.lit (.bool false)], args := [d1, d2, d3] }
  | _ => none }
def SpacePlaysWrongFalsely : Prop := spacePlaysRow.holds Tryd.pinned (OpenSpec.ofChange spacePlaysWrong)

/-- 'jotterlaw10.SpaceLines': WHATEVER THE INPUT: true; the input reads as it did. -/
def spaceLinesSpec : ChangeSpec := { name := "spaceLines", fn := fun _ => fun
  | [d1, d2, d3] => { results := [.lit (.bool true)], args := [d1, d2, d3] }
  | _ => none }
def spaceLinesRow : OpenClaim := { program := "ytkicbnkacjnhoaadoor", sum := "4aa8cd23fa74d7a744d50db8c73113dbb58159dd2935f90ea1cfa2c76c4371ea", func := "jotter/jotterlaw10.SpaceLines", spec := "spaceLines", unfollowed := true, recurses := true, named := ["jotter/ot.rules"], apart := false, laid := [("jotter/ot.rules", laid_jotter_ot_rules)] }
def SpaceLinesSaid : Prop := spaceLinesRow.holds Tryd.pinned (OpenSpec.ofChange spaceLinesSpec)

/-- ITS FALSE NEIGHBOUR: 'it returns false'. Refute it at one input. -/
def spaceLinesWrong : ChangeSpec := { name := "spaceLines", fn := fun _ => fun
  | [d1, d2, d3] => { results := [.lit (.bool false)], args := [d1, d2, d3] }
  | _ => none }
def SpaceLinesWrongFalsely : Prop := spaceLinesRow.holds Tryd.pinned (OpenSpec.ofChange spaceLinesWrong)

/-- 'jotterlaw10.SpaceMeets': WHATEVER THE INPUT: true; the input reads as it did. -/
def spaceMeetsSpec : ChangeSpec := { name := "spaceMeets", fn := fun _ => fun
  | [d1, d2] => { results := [.lit (.bool true)], args := [d1, d2] }
  | _ => none }
def spaceMeetsRow : OpenClaim := { program := "ytkicbnkacjnhoaadoor", sum := "4aa8cd23fa74d7a744d50db8c73113dbb58159dd2935f90ea1cfa2c76c4371ea", func := "jotter/jotterlaw10.SpaceMeets", spec := "spaceMeets", unfollowed := true, recurses := true, named := ["jotter/ot.rules"], apart := false, laid := [("jotter/ot.rules", laid_jotter_ot_rules)] }
def SpaceMeetsSaid : Prop := spaceMeetsRow.holds Tryd.pinned (OpenSpec.ofChange spaceMeetsSpec)

/-- ITS FALSE NEIGHBOUR: 'it returns false'. Refute it at one input. -/
def spaceMeetsWrong : ChangeSpec := { name := "spaceMeets", fn := fun _ => fun
  | [d1, d2] => { results := [.lit (.bool false)], args := [d1, d2] }
  | _ => none }
def SpaceMeetsWrongFalsely : Prop := spaceMeetsRow.holds Tryd.pinned (OpenSpec.ofChange spaceMeetsWrong)

/-- 'jotterlaw10.SpaceWhole': WHATEVER THE INPUT: true; the input reads as it did. -/
def spaceWholeSpec : ChangeSpec := { name := "spaceWhole", fn := fun _ => fun
  | [d1, d2] => { results := [.lit (.bool true)], args := [d1, d2] }
  | _ => none }
def spaceWholeRow : OpenClaim := { program := "ytkicbnkacjnhoaadoor", sum := "4aa8cd23fa74d7a744d50db8c73113dbb58159dd2935f90ea1cfa2c76c4371ea", func := "jotter/jotterlaw10.SpaceWhole", spec := "spaceWhole", unfollowed := true, recurses := true, named := ["jotter/ot.rules"], apart := false, laid := [("jotter/ot.rules", laid_jotter_ot_rules)] }
def SpaceWholeSaid : Prop := spaceWholeRow.holds Tryd.pinned (OpenSpec.ofChange spaceWholeSpec)

/-- ITS FALSE NEIGHBOUR: 'it returns false'. Refute it at one input. -/
def spaceWholeWrong : ChangeSpec := { name := "spaceWhole", fn := fun _ => fun
  | [d1, d2] => { results := [.lit (.bool false)], args := [d1, d2] }
  | _ => none }
def SpaceWholeWrongFalsely : Prop := spaceWholeRow.holds Tryd.pinned (OpenSpec.ofChange spaceWholeWrong)

/- THE SECOND FORM. 'bulk': how many values and letters a reading holds, each counted each time it is reached (what is shared counts as often as it is met; a slice's spare places count too). A statement '..UptoSaid' is the law's where the arguments, and the package variables that the reading takes, are together of bulk at most 1048576: NARROWER than '..Said'. Prove '..Said' where nothing that the law and all that it calls make is longer than what came in: it says more and counts as full. Else prove '..UptoSaid'. A law counts once. -/
mutual
def uptoBulk {H : Type} : DataW H → Nat
  | .lit (.string bytes) => bytes.length + 1
  | .lit _ => 1
  | .nil => 1
  | .ptr d => uptoBulk d + 1
  | .slice elems spare => uptoBulkAll elems + uptoBulkAll spare + 1
  | .agg parts => uptoBulkAll parts + 1
  | .iface _ d => uptoBulk d + 1
  | .map entries => uptoBulkEntries entries + 1
  | .held _ => 1
def uptoBulkAll {H : Type} : List (DataW H) → Nat
  | [] => 0
  | d :: r => uptoBulk d + uptoBulkAll r
def uptoBulkEntries {H : Type} : List (Lit × DataW H) → Nat
  | [] => 0
  | x :: r => uptoBulkEntry x + uptoBulkEntries r
def uptoBulkEntry {H : Type} : Lit × DataW H → Nat
  | (.string bytes, d) => bytes.length + uptoBulk d + 1
  | (_, d) => uptoBulk d + 1
 end
def uptoSmall : (H : Type) → List (DataW H) → Bool := fun _ ds => decide (uptoBulkAll ds ≤ 1048576)
def OpenSpec.upto (s : _root_.Go.ChangeSpec) : _root_.Go.OpenSpec := { _root_.Go.OpenSpec.ofChange s with cond := some uptoSmall }

/-- 'jotterlaw05.OtTags', WHERE WHAT IT READS IS OF BULK AT MOST 1048576: true; the input reads as it did. -/
def otTagsUptoRow : OpenClaim := { program := "ytkicbnkacjnhoaadoor", sum := "4aa8cd23fa74d7a744d50db8c73113dbb58159dd2935f90ea1cfa2c76c4371ea", func := "jotter/jotterlaw05.OtTags", spec := "otTags", unfollowed := true, recurses := true, named := ["jotter/ot.rules"], apart := false, laid := [("jotter/ot.rules", laid_jotter_ot_rules)], narrowed := true }
def OtTagsUptoSaid : Prop := otTagsUptoRow.holds Tryd.pinned (OpenSpec.upto otTagsSpec)

/-- 'jotterlaw05.OtShifts', WHERE WHAT IT READS IS OF BULK AT MOST 1048576: true; the input reads as it did. -/
def otShiftsUptoRow : OpenClaim := { program := "ytkicbnkacjnhoaadoor", sum := "4aa8cd23fa74d7a744d50db8c73113dbb58159dd2935f90ea1cfa2c76c4371ea", func := "jotter/jotterlaw05.OtShifts", spec := "otShifts", unfollowed := true, recurses := true, named := ["jotter/ot.rules"], apart := false, laid := [("jotter/ot.rules", laid_jotter_ot_rules)], narrowed := true }
def OtShiftsUptoSaid : Prop := otShiftsUptoRow.holds Tryd.pinned (OpenSpec.upto otShiftsSpec)

/-- 'jotterlaw05.OtCrosses', WHERE WHAT IT READS IS OF BULK AT MOST 1048576: true; the input reads as it did. -/
def otCrossesUptoRow : OpenClaim := { program := "ytkicbnkacjnhoaadoor", sum := "4aa8cd23fa74d7a744d50db8c73113dbb58159dd2935f90ea1cfa2c76c4371ea", func := "jotter/jotterlaw05.OtCrosses", spec := "otCrosses", unfollowed := true, recurses := true, named := ["jotter/ot.rules"], apart := false, laid := [("jotter/ot.rules", laid_jotter_ot_rules)], narrowed := true }
def OtCrossesUptoSaid : Prop := otCrossesUptoRow.holds Tryd.pinned (OpenSpec.upto otCrossesSpec)

/-- 'jotterlaw05.OtThroughs', WHERE WHAT IT READS IS OF BULK AT MOST 1048576: true; the input reads as it did. -/
def otThroughsUptoRow : OpenClaim := { program := "ytkicbnkacjnhoaadoor", sum := "4aa8cd23fa74d7a744d50db8c73113dbb58159dd2935f90ea1cfa2c76c4371ea", func := "jotter/jotterlaw05.OtThroughs", spec := "otThroughs", unfollowed := true, recurses := true, named := ["jotter/ot.rules"], apart := false, laid := [("jotter/ot.rules", laid_jotter_ot_rules)], narrowed := true }
def OtThroughsUptoSaid : Prop := otThroughsUptoRow.holds Tryd.pinned (OpenSpec.upto otThroughsSpec)

/-- 'jotterlaw05.OtMeans', WHERE WHAT IT READS IS OF BULK AT MOST 1048576: true; the input reads as it did. -/
def otMeansUptoRow : OpenClaim := { program := "ytkicbnkacjnhoaadoor", sum := "4aa8cd23fa74d7a744d50db8c73113dbb58159dd2935f90ea1cfa2c76c4371ea", func := "jotter/jotterlaw05.OtMeans", spec := "otMeans", unfollowed := true, recurses := true, named := ["jotter/ot.rules"], apart := false, laid := [("jotter/ot.rules", laid_jotter_ot_rules)], narrowed := true }
def OtMeansUptoSaid : Prop := otMeansUptoRow.holds Tryd.pinned (OpenSpec.upto otMeansSpec)

/-- 'jotterlaw05.OtWeaves', WHERE WHAT IT READS IS OF BULK AT MOST 1048576: true; the input reads as it did. -/
def otWeavesUptoRow : OpenClaim := { program := "ytkicbnkacjnhoaadoor", sum := "4aa8cd23fa74d7a744d50db8c73113dbb58159dd2935f90ea1cfa2c76c4371ea", func := "jotter/jotterlaw05.OtWeaves", spec := "otWeaves", unfollowed := true, recurses := true, named := ["jotter/ot.rules"], apart := false, laid := [("jotter/ot.rules", laid_jotter_ot_rules)], narrowed := true }
def OtWeavesUptoSaid : Prop := otWeavesUptoRow.holds Tryd.pinned (OpenSpec.upto otWeavesSpec)

/-- 'jotterlaw05.OtSquare', WHERE WHAT IT READS IS OF BULK AT MOST 1048576: true; the input reads as it did. -/
def otSquareUptoRow : OpenClaim := { program := "ytkicbnkacjnhoaadoor", sum := "4aa8cd23fa74d7a744d50db8c73113dbb58159dd2935f90ea1cfa2c76c4371ea", func := "jotter/jotterlaw05.OtSquare", spec := "otSquare", unfollowed := true, recurses := true, named := ["jotter/ot.rules"], apart := false, laid := [("jotter/ot.rules", laid_jotter_ot_rules)], narrowed := true }
def OtSquareUptoSaid : Prop := otSquareUptoRow.holds Tryd.pinned (OpenSpec.upto otSquareSpec)

/-- 'jotterlaw05.OtNops', WHERE WHAT IT READS IS OF BULK AT MOST 1048576: true; the input reads as it did. -/
def otNopsUptoRow : OpenClaim := { program := "ytkicbnkacjnhoaadoor", sum := "4aa8cd23fa74d7a744d50db8c73113dbb58159dd2935f90ea1cfa2c76c4371ea", func := "jotter/jotterlaw05.OtNops", spec := "otNops", unfollowed := true, recurses := true, named := ["jotter/ot.rules"], apart := false, laid := [("jotter/ot.rules", laid_jotter_ot_rules)], narrowed := true }
def OtNopsUptoSaid : Prop := otNopsUptoRow.holds Tryd.pinned (OpenSpec.upto otNopsSpec)

/-- 'jotterlaw05.OtPieces', WHERE WHAT IT READS IS OF BULK AT MOST 1048576: true; the input reads as it did. -/
def otPiecesUptoRow : OpenClaim := { program := "ytkicbnkacjnhoaadoor", sum := "4aa8cd23fa74d7a744d50db8c73113dbb58159dd2935f90ea1cfa2c76c4371ea", func := "jotter/jotterlaw05.OtPieces", spec := "otPieces", unfollowed := true, recurses := true, named := ["jotter/ot.rules"], apart := false, laid := [("jotter/ot.rules", laid_jotter_ot_rules)], narrowed := true }
def OtPiecesUptoSaid : Prop := otPiecesUptoRow.holds Tryd.pinned (OpenSpec.upto otPiecesSpec)

/-- 'jotterlaw05.OtLimit', WHERE WHAT IT READS IS OF BULK AT MOST 1048576: true; the input reads as it did. -/
def otLimitUptoRow : OpenClaim := { program := "ytkicbnkacjnhoaadoor", sum := "4aa8cd23fa74d7a744d50db8c73113dbb58159dd2935f90ea1cfa2c76c4371ea", func := "jotter/jotterlaw05.OtLimit", spec := "otLimit", unfollowed := true, recurses := true, named := ["jotter/ot.rules"], apart := false, laid := [("jotter/ot.rules", laid_jotter_ot_rules)], narrowed := true }
def OtLimitUptoSaid : Prop := otLimitUptoRow.holds Tryd.pinned (OpenSpec.upto otLimitSpec)

/-- 'jotterlaw05.OtOwn', WHERE WHAT IT READS IS OF BULK AT MOST 1048576: true; the input reads as it did. -/
def otOwnUptoRow : OpenClaim := { program := "ytkicbnkacjnhoaadoor", sum := "4aa8cd23fa74d7a744d50db8c73113dbb58159dd2935f90ea1cfa2c76c4371ea", func := "jotter/jotterlaw05.OtOwn", spec := "otOwn", unfollowed := true, recurses := true, named := ["jotter/ot.rules"], apart := false, laid := [("jotter/ot.rules", laid_jotter_ot_rules)], narrowed := true }
def OtOwnUptoSaid : Prop := otOwnUptoRow.holds Tryd.pinned (OpenSpec.upto otOwnSpec)

/-- 'jotterlaw10.SpaceLooks', WHERE WHAT IT READS IS OF BULK AT MOST 1048576: true; the input reads as it did. -/
def spaceLooksUptoRow : OpenClaim := { program := "ytkicbnkacjnhoaadoor", sum := "4aa8cd23fa74d7a744d50db8c73113dbb58159dd2935f90ea1cfa2c76c4371ea", func := "jotter/jotterlaw10.SpaceLooks", spec := "spaceLooks", unfollowed := true, recurses := true, named := ["jotter/ot.rules"], apart := false, laid := [("jotter/ot.rules", laid_jotter_ot_rules)], narrowed := true }
def SpaceLooksUptoSaid : Prop := spaceLooksUptoRow.holds Tryd.pinned (OpenSpec.upto spaceLooksSpec)

/-- 'jotterlaw10.SpaceRebuilt', WHERE WHAT IT READS IS OF BULK AT MOST 1048576: true; the input reads as it did. -/
def spaceRebuiltUptoRow : OpenClaim := { program := "ytkicbnkacjnhoaadoor", sum := "4aa8cd23fa74d7a744d50db8c73113dbb58159dd2935f90ea1cfa2c76c4371ea", func := "jotter/jotterlaw10.SpaceRebuilt", spec := "spaceRebuilt", unfollowed := true, recurses := true, named := ["jotter/ot.rules"], apart := false, laid := [("jotter/ot.rules", laid_jotter_ot_rules)], narrowed := true }
def SpaceRebuiltUptoSaid : Prop := spaceRebuiltUptoRow.holds Tryd.pinned (OpenSpec.upto spaceRebuiltSpec)

/-- 'jotterlaw10.SpaceFresh', WHERE WHAT IT READS IS OF BULK AT MOST 1048576: true; the input reads as it did. -/
def spaceFreshUptoRow : OpenClaim := { program := "ytkicbnkacjnhoaadoor", sum := "4aa8cd23fa74d7a744d50db8c73113dbb58159dd2935f90ea1cfa2c76c4371ea", func := "jotter/jotterlaw10.SpaceFresh", spec := "spaceFresh", unfollowed := true, recurses := true, named := ["jotter/ot.rules"], apart := false, laid := [("jotter/ot.rules", laid_jotter_ot_rules)], narrowed := true }
def SpaceFreshUptoSaid : Prop := spaceFreshUptoRow.holds Tryd.pinned (OpenSpec.upto spaceFreshSpec)

/-- 'jotterlaw10.SpacePlays', WHERE WHAT IT READS IS OF BULK AT MOST 1048576: true; the input reads as it did. -/
def spacePlaysUptoRow : OpenClaim := { program := "ytkicbnkacjnhoaadoor", sum := "4aa8cd23fa74d7a744d50db8c73113dbb58159dd2935f90ea1cfa2c76c4371ea", func := "jotter/jotterlaw10.SpacePlays", spec := "spacePlays", unfollowed := true, recurses := true, named := ["jotter/ot.rules"], apart := false, laid := [("jotter/ot.rules", laid_jotter_ot_rules)], narrowed := true }
def SpacePlaysUptoSaid : Prop := spacePlaysUptoRow.holds Tryd.pinned (OpenSpec.upto spacePlaysSpec)

/-- 'jotterlaw10.SpaceLines', WHERE WHAT IT READS IS OF BULK AT MOST 1048576: true; the input reads as it did. -/
def spaceLinesUptoRow : OpenClaim := { program := "ytkicbnkacjnhoaadoor", sum := "4aa8cd23fa74d7a744d50db8c73113dbb58159dd2935f90ea1cfa2c76c4371ea", func := "jotter/jotterlaw10.SpaceLines", spec := "spaceLines", unfollowed := true, recurses := true, named := ["jotter/ot.rules"], apart := false, laid := [("jotter/ot.rules", laid_jotter_ot_rules)], narrowed := true }
def SpaceLinesUptoSaid : Prop := spaceLinesUptoRow.holds Tryd.pinned (OpenSpec.upto spaceLinesSpec)

/-- 'jotterlaw10.SpaceMeets', WHERE WHAT IT READS IS OF BULK AT MOST 1048576: true; the input reads as it did. -/
def spaceMeetsUptoRow : OpenClaim := { program := "ytkicbnkacjnhoaadoor", sum := "4aa8cd23fa74d7a744d50db8c73113dbb58159dd2935f90ea1cfa2c76c4371ea", func := "jotter/jotterlaw10.SpaceMeets", spec := "spaceMeets", unfollowed := true, recurses := true, named := ["jotter/ot.rules"], apart := false, laid := [("jotter/ot.rules", laid_jotter_ot_rules)], narrowed := true }
def SpaceMeetsUptoSaid : Prop := spaceMeetsUptoRow.holds Tryd.pinned (OpenSpec.upto spaceMeetsSpec)

/-- 'jotterlaw10.SpaceWhole', WHERE WHAT IT READS IS OF BULK AT MOST 1048576: true; the input reads as it did. -/
def spaceWholeUptoRow : OpenClaim := { program := "ytkicbnkacjnhoaadoor", sum := "4aa8cd23fa74d7a744d50db8c73113dbb58159dd2935f90ea1cfa2c76c4371ea", func := "jotter/jotterlaw10.SpaceWhole", spec := "spaceWhole", unfollowed := true, recurses := true, named := ["jotter/ot.rules"], apart := false, laid := [("jotter/ot.rules", laid_jotter_ot_rules)], narrowed := true }
def SpaceWholeUptoSaid : Prop := spaceWholeUptoRow.holds Tryd.pinned (OpenSpec.upto spaceWholeSpec)

end Rows
end Go.Proofs.YtkicbnkacjnhoaaDoor
