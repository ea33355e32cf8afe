/- Rows.SpaceFreshCardSaid: THE LAW jotterlaw.SpaceFresh RETURNS true FOR EVERY INPUT, ITS ARGUMENTS AS THEY WERE. Conditions: the table ot.rules as the program's text lays it (tied by the card); each argument within the form's own reach. -/
import Derived.Test.YtkicbnkacjnhoaaDoorArgs
import Derived.Test.YtkicbnkacjnhoaaDoorTwo
import Derived.Test.YtkicbnkacjnhoaaDoorFreshWalk
namespace Go.Proofs.YtkicbnkacjnhoaaDoor
open Go.ChangeShapes Go.WideShapes Go.ChangeAt Go.RowKit
set_option linter.unusedVariables false
set_option linter.unusedSimpArgs false

set_option maxRecDepth 100000 in
theorem spaceFresh_lifted (os : Os) (started : os.Started) (H : Type) (enc : TypeId × Value → H) :
    ReturnsInHanded {} Tryd.checked os 16 .any (fun w args => (Rows.spaceFreshSpec.pre enc Tryd.prog Tryd.f16 [] false w args ∧ laidMetH Tryd.prog laid1 w) ∧ sizedMet enc Tryd.prog Tryd.f16 (OpenSpec.ofChange Rows.spaceFreshSpec) false w args)
      (Rows.spaceFreshSpec.post enc Tryd.prog Tryd.f16 false true false false) := by
  refine returnsInHanded_of_change_and (C := Tryd.checked) (X := fun w _ => laidMetH Tryd.prog laid1 w) (fun _ _ _ hh h => h.of_heap hh) Tryd.own started (by kernel_rfl) Tryd.func16
    (ChangeSpec.witness_shaped (enc := enc) (C := Tryd.checked) (os := os) (X := fun w _ => laidMetH Tryd.prog laid1 w) false (World.doorLaid Tryd.prog 17 os) #[.slice none 0 0, .agg #[.int .i64 0, .int .i64 0, .int .u8 0, .int .i64 0, .int .i64 0]] 8 rfl (World.shaped_of_RefB (by kernel_rfl) (by kernel_rfl)) (by kernel_rfl) (by kernel_rfl) (by kernel_rfl) (door_met os _)) ?_
  intro W base args ds gs before hval0 hW _ hsz0 hL _
  have hsz : (DataW.weightsEach Tryd.prog (Tryd.f16.params.toList ++ Rows.spaceFreshSpec.plain.varTypes Tryd.prog) (ds ++ gs)).all (· ≤ reachBytes) = true := hsz0
  have hval : ∀ (j : Nat) t v, Tryd.f16.params[j]? = some t → args[j]? = some v → Value.okWide Tryd.prog W .any base t v := hval0
  have hW' := hW
  obtain ⟨p, q, hA0, hV, rfl, hfz, hnd⟩ := hW
  have hA : DataW.TrodAll enc Tryd.prog W 0 (fun _ => true) true Tryd.f16.params.toList args.toList ds p := hA0
  rw [Tryd.params16] at hA hval hsz
  obtain ⟨v0, vs0, d0, ds0, p0, q0, hargs, rfl, rfl, h0, r0⟩ := trodAll_cons hA
  obtain ⟨v1, vs1, d1, ds1, p1, q1, rfl, rfl, rfl, h1, r1⟩ := trodAll_cons r0
  obtain ⟨rfl, rfl, rfl⟩ := trodAll_nil r1
  obtain rfl : args = #[v0, v1] := by cases args; simp_all
  obtain ⟨rfl, rfl⟩ := trodVars_none hV
  have k0 := h0
  have lt0 : ∀ x ∈ p0, x.block < W.heap.size := by obtain ⟨m, hm⟩ := k0; exact DataW.trod_lt m _ _ _ hm
  obtain ⟨A0, x0, c0, rfl, lc0, mc0, rd0, ok0, sz0⟩ := open_sl (F := opF) (B := 40) reads23 Tryd.underlying35 (by kernel_rfl) (by decide) (by kernel_rfl) (hval 0 35 v0 rfl rfl) h0 hsz (j := 0) rfl rfl
  have ml0 : x0.length ≤ 9223372036854775807 := by have := mc0; simp only [maxLen] at this; omega
  have k1 := h1
  have lt1 : ∀ x ∈ p1, x.block < W.heap.size := by obtain ⟨m, hm⟩ := k1; exact DataW.trod_lt m _ _ _ hm
  obtain ⟨x1, rfl, w1⟩ := open_val reads23 Tryd.underlying23 (hval 1 23 v1 rfl rfl) h1
  have hR := rules_of_laid hL
  clear hA0 hval0 hsz0 hsz hL
  refine (fresh_any A0 c0 x0 x1 W hR rd0 (fun o h => (ok0 o h).2.2.1) w1.2.2.1 ml0).mono fun e W' ⟨he, bel⟩ => ?_
  subst he
  exact ⟨_, rfl, _, _, _, [], _, [], hW', trodAll_mk1 (shut_bool Tryd.underlying4 _), (trodAll_cons_mk (Below.trod Tryd.laidOut (by kernel_rfl) (of_decide_eq_true (by kernel_rfl)) k0 bel lt0) (trodAll_cons_mk (Below.trod Tryd.laidOut (by kernel_rfl) (of_decide_eq_true (by kernel_rfl)) k1 bel lt1) trodAll_mk0)), rfl, bel.frame _, fun h => by cases h⟩

theorem spaceFresh_row : Rows.SpaceFreshSaid :=
  OpenClaim.holds_of_wide 16 Tryd.f16 rfl rfl rfl rfl rfl rfl rfl ⟨rfl, rfl, rfl, rfl, rfl⟩ rfl rfl rfl rfl rfl (by kernel_rfl) Tryd.func16 (by kernel_rfl)
    (of_decide_eq_true (by kernel_rfl)) (by unfold Func.isWrapper; first | (rw [if_pos (by decide +kernel)]; kernel_rfl) | (rw [if_neg (by decide +kernel)]; exact ⟨rfl, rfl⟩))
    (fun os started H enc _ => spaceFresh_lifted os started H enc)
/-- THE CARD. -/
theorem spaceFresh_card : Rows.SpaceFreshCardSaid :=
  Claim7.holds_tied_plain_at .later [] [.funcs] true (true, "c4212513f26db8c62b53fef12b929e9ad22db1d2ac872dd533d3f702ec45025c") false
    spaceFresh_row (fun _ h => by cases h) (by kernel_rfl) (fun _ h => by cases h) spaceFresh_row_tie rfl ⟨rfl, rfl⟩ (by kernel_rfl) rfl
    (fun f fn hf hfn => by
      obtain rfl : f = 16 := Option.some.inj ((show Tryd.prog.funcNamed (Rows.spaceFreshRow).func = some 16 by kernel_rfl).symm.trans hf) |>.symm
      obtain rfl : fn = Tryd.f16 := (Option.some.inj (Tryd.func16.symm.trans hfn)).symm
      exact ⟨by kernel_rfl, fun j t ht => by
        rw [Tryd.params16] at ht
        have hm : t ∈ [35, 23] := by simpa using Array.mem_of_getElem? ht
        have hall : ([35, 23].all fun u => !Tryd.prog.wantsStandIn u) = true := by kernel_rfl
        exact (show Tryd.prog.wantsStandIn t = false by simpa using List.all_eq_true.1 hall t hm)⟩)
    (by kernel_rfl)
#print axioms spaceFresh_card
end Go.Proofs.YtkicbnkacjnhoaaDoor
