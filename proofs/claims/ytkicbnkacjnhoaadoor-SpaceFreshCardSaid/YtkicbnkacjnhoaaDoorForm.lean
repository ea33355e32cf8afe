/- What all rows of this seat share: the condition on the table of rules gives the walks what they ask; a start that meets it; from a walk to the row and to the card. -/
import Derived.Test.YtkicbnkacjnhoaaDoorRows
import Derived.Test.YtkicbnkacjnhoaaDoorCards
import Derived.Test.YtkicbnkacjnhoaaDoorTie
import Derived.Test.YtkicbnkacjnhoaaDoorShiftB
import Derived.ProofKit
import Derived.LaidMore
import Derived.OpenShut
import Derived.Stop.Joined
import Derived.SevenTiedAt
namespace Go.Proofs.YtkicbnkacjnhoaaDoor
open Go.ChangeShapes Go.WideShapes Go.ChangeAt Go.RowKit
set_option linter.unusedVariables false
set_option linter.unusedSimpArgs false

theorem Tryd.own : ownKnob Tryd.prog.godebug = none := by kernel_rfl
theorem Tryd.laidOut : laidOutB Tryd.prog = true := by kernel_rfl
theorem gRules : Tryd.prog.globalNamed "jotter/ot.rules" = some 0 := by kernel_rfl
theorem tRules : (Tryd.prog.globals[0]?).map (·.type) = some 122 := by kernel_rfl
theorem cells121 : Tryd.prog.cellsOf 121 = 3 := by kernel_rfl
theorem cells120 : Tryd.prog.cellsOf 120 = 1 := by kernel_rfl
theorem cells122 : Tryd.prog.cellsOf 122 = 9 := by kernel_rfl
abbrev laid1 : List (String × DataW Unit) := [("jotter/ot.rules", Rows.laid_jotter_ot_rules)]

set_option maxRecDepth 100000 in
theorem row_of {W : World} {fuel : Nat} {c0 c1 c2 : Value} {d0 d1 d2 : DataW (List UInt8)} {p : List MemPlace}
    (h : DataW.trod (funcToken Tryd.prog) Tryd.prog W 0 (fun _ => true) true fuel 121 [c0, c1, c2] = some (.agg [d0, d1, d2], p)) :
    ∃ m q0 q1 q2, DataW.trod (funcToken Tryd.prog) Tryd.prog W 0 (fun _ => true) true m 120 [c0] = some (d0, q0) ∧ DataW.trod (funcToken Tryd.prog) Tryd.prog W 0 (fun _ => true) true m 120 [c1] = some (d1, q1) ∧ DataW.trod (funcToken Tryd.prog) Tryd.prog W 0 (fun _ => true) true m 120 [c2] = some (d2, q2) := by
  obtain ⟨xs, m, _, hx, _, hl, hi⟩ := DataW.trod_array Tryd.underlying121 h
  obtain ⟨y0, y1, y2, rfl⟩ : ∃ y0 y1 y2, xs = [y0, y1, y2] := by
    match xs, hl with
    | [y0, y1, y2], _ => exact ⟨y0, y1, y2, rfl⟩
  simp only [List.map_cons, List.map_nil, Prod.mk.injEq, DataW.agg.injEq, List.cons.injEq, and_true] at hx
  obtain ⟨⟨rfl, rfl, rfl⟩, _⟩ := hx
  have h0 := hi 0 (by omega)
  have h1 := hi 1 (by omega)
  have h2 := hi 2 (by omega)
  rw [cells120] at h0 h1 h2
  exact ⟨m, y0.2, y1.2, y2.2, by simpa using h0, by simpa using h1, by simpa using h2⟩

set_option maxRecDepth 100000 in
/-- WHAT THE CONDITION GIVES THE WALKS: the table's nine cells. -/
theorem rules_of_laid {W : World} (h : laidMetH Tryd.prog laid1 W) : RulesAt W := by
  obtain ⟨g, t, cs, fuel, p, hg, ht, hv, hd⟩ := h.funcs (List.mem_singleton.2 rfl)
  obtain rfl := Option.some.inj (gRules.symm.trans hg)
  obtain rfl := Option.some.inj (tRules.symm.trans ht)
  have hd' : DataW.trod (funcToken Tryd.prog) Tryd.prog W 0 (fun _ => true) true fuel 122 cs.toList = some (.agg [.agg [.held [106, 111, 116, 116, 101, 114, 47, 111, 116, 46, 115, 116, 97, 121, 115], .held [106, 111, 116, 116, 101, 114, 47, 111, 116, 46, 115, 116, 97, 121, 115], .held [106, 111, 116, 116, 101, 114, 47, 111, 116, 46, 115, 116, 97, 121, 115]], .agg [.held [106, 111, 116, 116, 101, 114, 47, 111, 116, 46, 115, 116, 97, 121, 115], .held [106, 111, 116, 116, 101, 114, 47, 111, 116, 46, 105, 110, 115, 101, 114, 116, 80, 97, 115, 116, 73, 110, 115, 101, 114, 116], .held [106, 111, 116, 116, 101, 114, 47, 111, 116, 46, 105, 110, 115, 101, 114, 116, 80, 97, 115, 116, 68, 101, 108, 101, 116, 101]], .agg [.held [106, 111, 116, 116, 101, 114, 47, 111, 116, 46, 115, 116, 97, 121, 115], .held [106, 111, 116, 116, 101, 114, 47, 111, 116, 46, 100, 101, 108, 101, 116, 101, 80, 97, 115, 116, 73, 110, 115, 101, 114, 116], .held [106, 111, 116, 116, 101, 114, 47, 111, 116, 46, 100, 101, 108, 101, 116, 101, 80, 97, 115, 116, 68, 101, 108, 101, 116, 101]]], p) := hd
  obtain ⟨xs, m, _, hx, hlen, hl, hi⟩ := DataW.trod_array Tryd.underlying122 hd'
  rw [cells122] at hlen
  obtain ⟨c0, c1, c2, c3, c4, c5, c6, c7, c8, hcs⟩ : ∃ c0 c1 c2 c3 c4 c5 c6 c7 c8, cs.toList = [c0, c1, c2, c3, c4, c5, c6, c7, c8] := by
    match cs.toList, hlen with
    | [c0, c1, c2, c3, c4, c5, c6, c7, c8], _ => exact ⟨c0, c1, c2, c3, c4, c5, c6, c7, c8, rfl⟩
  obtain ⟨y0, y1, y2, rfl⟩ : ∃ y0 y1 y2, xs = [y0, y1, y2] := by
    match xs, hl with
    | [y0, y1, y2], _ => exact ⟨y0, y1, y2, rfl⟩
  obtain ⟨e0, q0⟩ := y0
  obtain ⟨e1, q1⟩ := y1
  obtain ⟨e2, q2⟩ := y2
  simp only [List.map_cons, List.map_nil, Prod.mk.injEq, DataW.agg.injEq, List.cons.injEq, and_true] at hx
  obtain ⟨⟨rfl, rfl, rfl⟩, _⟩ := hx
  rw [hcs, cells121] at hi
  have i0 := hi 0 (by omega)
  have i1 := hi 1 (by omega)
  have i2 := hi 2 (by omega)
  clear hi hd' hd
  simp at i0 i1 i2
  obtain ⟨m0, a0, a1, a2, r0, r1, r2⟩ := row_of i0
  obtain ⟨m1, a3, a4, a5, r3, r4, r5⟩ := row_of i1
  obtain ⟨m2, a6, a7, a8, r6, r7, r8⟩ := row_of i2
  obtain rfl := func_of_trod (f0 := 106) Tryd.underlying120 (by kernel_rfl) r0
  obtain rfl := func_of_trod (f0 := 106) Tryd.underlying120 (by kernel_rfl) r1
  obtain rfl := func_of_trod (f0 := 106) Tryd.underlying120 (by kernel_rfl) r2
  obtain rfl := func_of_trod (f0 := 106) Tryd.underlying120 (by kernel_rfl) r3
  obtain rfl := func_of_trod (f0 := 107) Tryd.underlying120 (by kernel_rfl) r4
  obtain rfl := func_of_trod (f0 := 108) Tryd.underlying120 (by kernel_rfl) r5
  obtain rfl := func_of_trod (f0 := 106) Tryd.underlying120 (by kernel_rfl) r6
  obtain rfl := func_of_trod (f0 := 109) Tryd.underlying120 (by kernel_rfl) r7
  obtain rfl := func_of_trod (f0 := 110) Tryd.underlying120 (by kernel_rfl) r8
  have hc : ∀ i, W.cell? ⟨0, i, none⟩ = cs[i]? := fun i => World.var?_cell hg hv i
  have hcl : ∀ i, cs[i]? = cs.toList[i]? := fun i => (Array.getElem?_toList).symm
  refine ⟨?_, ?_, ?_, ?_, ?_, ?_, ?_, ?_, ?_⟩ <;> (rw [hc, hcl, hcs]; rfl)

/-- The door's own heap meets the condition. -/
theorem door_met (os : Os) (args : Array Value) : laidMetH Tryd.prog laid1 ((World.doorLaid Tryd.prog 17 os).forCall (fun _ _ => 0) ⟨#[], args, []⟩).memory :=
  laidMetH_of_parts3 (fuel := 8) (laidMet_of_run' 8 (by kernel_rfl) (by kernel_rfl)) (by kernel_rfl) (by kernel_rfl)
end Go.Proofs.YtkicbnkacjnhoaaDoor
