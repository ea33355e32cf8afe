/- Rows.OtPiecesUptoCardSaid: THE LAW jotterlaw.OtPieces RETURNS true, ITS ARGUMENTS AS THEY WERE, WHEREVER WHAT IT READS IS OF BULK AT MOST 1048576. Conditions: the table ot.rules as the program's text lays it (tied by the card); each argument within the form's own reach; the bulk. -/
import Derived.Test.YtkicbnkacjnhoaaDoorArgs
import Derived.Test.YtkicbnkacjnhoaaDoorPiecesWalk
import Derived.Deep.DeepHandedRow
namespace Go.Proofs.YtkicbnkacjnhoaaDoor
open Go.ChangeShapes Go.WideShapes Go.ChangeAt Go.RowKit
set_option linter.unusedVariables false
set_option linter.unusedSimpArgs false

theorem bulk_one {H : Type} (d : DataW H) : 1 ≤ Rows.uptoBulk d := by
  cases d with
  | lit l => cases l <;> simp [Rows.uptoBulk]
  | nil => simp [Rows.uptoBulk]
  | ptr d => simp [Rows.uptoBulk]
  | slice elems spare => simp [Rows.uptoBulk]
  | agg parts => simp [Rows.uptoBulk]
  | iface t d => simp [Rows.uptoBulk]
  | map entries => simp [Rows.uptoBulk]
  | held h => simp [Rows.uptoBulk]
theorem bulk_length {H : Type} : ∀ (l : List (DataW H)), l.length ≤ Rows.uptoBulkAll l
  | [] => by simp [Rows.uptoBulkAll]
  | x :: r => by
    have h1 := bulk_one x
    have h2 := bulk_length r
    simp only [Rows.uptoBulkAll, List.length_cons]
    omega
theorem c68 : Tryd.prog.cellsOf 68 = 4 := by kernel_rfl
theorem c35 : Tryd.prog.cellsOf 35 = 1 := by kernel_rfl
theorem list4 {α : Type} {l : List α} (h : l.length = 4) : ∃ a b c d, l = [a, b, c, d] := by
  match l, h with
  | [a, b, c, d], _ => exact ⟨a, b, c, d, rfl⟩
instance : Inhabited POp := ⟨⟨0, 0, 0, 0, 0⟩⟩
section
variable {H : Type} {enc : TypeId × Value → H} {W : World}
/-- A list out of its one cell. -/
theorem open_cell {fuel : Nat} {v : Value} {x : DataW H × List MemPlace} (hf : DataW.trod enc Tryd.prog W 0 (fun _ => true) true fuel 35 [v] = some x) :
    ∃ (A : Option Addr) (xs : List POp) (cap : Nat), v = .slice A xs.length cap ∧ Rd opF W A xs ∧ xs.length + 1 ≤ Rows.uptoBulk x.1 := by
  rcases Go.Deep.open_slice Tryd.underlying35 hf with ⟨hcs, hx⟩ | ⟨a, len, cap, m, n, D, Pl, hcs, _, hl, hm, hmm, hx, hel⟩
  · obtain rfl : v = .slice none 0 0 := by simpa using hcs
    subst hx
    exact ⟨none, [], 0, rfl, Rd.nil opF W none, by simp [Rows.uptoBulk]⟩
  · obtain rfl : v = .slice (some a) len cap := by simpa using hcs
    simp at hmm
    subst hmm
    have hall : ∀ i, i < len → ∃ y : POp, (∀ k u, (opF.cells y)[k]? = some u → W.cell? ((a.add (i * opF.n)).add k) = some u) := by
      intro i hi
      obtain ⟨cs', h1, h2⟩ := hel i (by omega)
      obtain ⟨y, e1, w⟩ := reads23 enc W 0 (fun _ => true) true n cs' _ h2
      obtain ⟨_, hl2, h3⟩ := World.cells?_some h1
      rw [c23] at h3 hl2
      refine ⟨y, fun k u hu => ?_⟩
      have hk : k < 5 := by have := (List.getElem?_eq_some_iff.1 hu).1; rwa [opF.len] at this
      rw [show opF.n = 5 from rfl, h3 k hk, e1]
      exact hu
    obtain ⟨f, hfx⟩ := Go.Deep.choose_lt hall
    have hlen : ((List.range len).map f).length = len := by simp
    refine ⟨some a, (List.range len).map f, m, by rw [hlen], ⟨fun i hi => ?_⟩, ?_⟩
    · have hi' : i < len := by simpa using hi
      have hg : ((List.range len).map f)[i] = f i := by simp
      obtain ⟨b, off, spot⟩ := a
      have hsp : spot = none := by
        have h0 : 0 < len := by omega
        have hl0 : 0 < (opF.cells (f 0)).length := by rw [opF.len]; decide
        have := World.cell?_spot ((hfx 0 h0) 0 _ (List.getElem?_eq_getElem hl0))
        simpa [Addr.add] using this
      subst hsp
      refine ⟨b, off, rfl, fun k u hu => ?_⟩
      rw [hg] at hu
      have := (hfx i hi') k u hu
      rw [Go.Deep.add_add] at this
      have ha : (⟨b, off, none⟩ : Addr).add (i * opF.n + k) = ⟨b, off + i * opF.n + k, none⟩ := by
        unfold Addr.add; split <;> simp_all [Nat.add_assoc]
      rwa [ha] at this
    · subst hx
      have := bulk_length ((List.range len).map D)
      simp only [Rows.uptoBulk, hlen]
      simp at this
      omega
/-- Four lists by value. -/
theorem open_arr {v : Value} {d : DataW H} {p : List MemPlace} (h : DataW.Trod enc Tryd.prog W 0 (fun _ => true) true 68 v d p) :
    ∃ (A1 A2 A3 A4 : Option Addr) (x1 x2 x3 x4 : List POp) (c1 c2 c3 c4 : Nat), v = .agg #[.slice A1 x1.length c1, .slice A2 x2.length c2, .slice A3 x3.length c3, .slice A4 x4.length c4] ∧
      Rd opF W A1 x1 ∧ Rd opF W A2 x2 ∧ Rd opF W A3 x3 ∧ Rd opF W A4 x4 ∧ x1.length + x2.length + x3.length + x4.length ≤ Rows.uptoBulk d := by
  obtain ⟨fuel, hf⟩ := h
  obtain ⟨xs, m, _, hx, hlen, hl, hi⟩ := DataW.trod_array Tryd.underlying68 hf
  rw [c68] at hlen
  obtain ⟨cs, rfl⟩ : ∃ cs, v = .agg cs := by
    cases v <;> first | exact ⟨_, rfl⟩ | (simp [Value.cells] at hlen)
  have hlen2 : cs.toList.length = 4 := by simpa [Value.cells] using hlen
  obtain ⟨v0, v1, v2, v3, hcs⟩ := list4 hlen2
  obtain ⟨y0, y1, y2, y3, rfl⟩ := list4 hl
  have hcs2 : cs = #[v0, v1, v2, v3] := by cases cs; simpa using hcs
  subst hcs2
  rw [c35] at hi
  have i0 : DataW.trod enc Tryd.prog W 0 (fun _ => true) true m 35 [v0] = some y0 := by simpa [Value.cells] using hi 0 (by omega)
  have i1 : DataW.trod enc Tryd.prog W 0 (fun _ => true) true m 35 [v1] = some y1 := by simpa [Value.cells] using hi 1 (by omega)
  have i2 : DataW.trod enc Tryd.prog W 0 (fun _ => true) true m 35 [v2] = some y2 := by simpa [Value.cells] using hi 2 (by omega)
  have i3 : DataW.trod enc Tryd.prog W 0 (fun _ => true) true m 35 [v3] = some y3 := by simpa [Value.cells] using hi 3 (by omega)
  obtain ⟨A1, x1, c1, rfl, r1, b1⟩ := open_cell i0
  obtain ⟨A2, x2, c2, rfl, r2, b2⟩ := open_cell i1
  obtain ⟨A3, x3, c3, rfl, r3, b3⟩ := open_cell i2
  obtain ⟨A4, x4, c4, rfl, r4, b4⟩ := open_cell i3
  refine ⟨A1, A2, A3, A4, x1, x2, x3, x4, c1, c2, c3, c4, rfl, r1, r2, r3, r4, ?_⟩
  have hd : d = .agg [y0.1, y1.1, y2.1, y3.1] := by
    have := congrArg Prod.fst hx
    simpa using this
  rw [hd]
  simp only [Rows.uptoBulk, Rows.uptoBulkAll]
  omega
end

set_option maxRecDepth 100000 in
theorem pieces_reads (os : Os) {H : Type} (enc : TypeId × Value → H) : ∃ places, DataW.whole enc Tryd.prog ((World.doorLaid Tryd.prog 17 os).forCall (fun _ _ => 0) ⟨#[], #[.agg #[.slice none 0 0, .slice none 0 0, .slice none 0 0, .slice none 0 0], .agg #[.int .i64 0, .int .i64 0, .int .u8 0, .int .i64 0, .int .i64 0], .bool false], []⟩).memory Tryd.f11.params.toList Rows.otPiecesSpec.vars false #[Value.agg #[.slice none 0 0, .slice none 0 0, .slice none 0 0, .slice none 0 0], .agg #[.int .i64 0, .int .i64 0, .int .u8 0, .int .i64 0, .int .i64 0], .bool false].toList 8 =
    some ([.agg [.nil, .nil, .nil, .nil], .agg [.lit (.int .i64 0), .lit (.int .i64 0), .lit (.int .u8 0), .lit (.int .i64 0), .lit (.int .i64 0)], .lit (.bool false)], [], places) := by
  have hw : (DataW.whole enc Tryd.prog ((World.doorLaid Tryd.prog 17 os).forCall (fun _ _ => 0) ⟨#[], #[.agg #[.slice none 0 0, .slice none 0 0, .slice none 0 0, .slice none 0 0], .agg #[.int .i64 0, .int .i64 0, .int .u8 0, .int .i64 0, .int .i64 0], .bool false], []⟩).memory Tryd.f11.params.toList Rows.otPiecesSpec.vars false #[Value.agg #[.slice none 0 0, .slice none 0 0, .slice none 0 0, .slice none 0 0], .agg #[.int .i64 0, .int .i64 0, .int .u8 0, .int .i64 0, .int .i64 0], .bool false].toList 8).map (fun x => (x.1, x.2.1)) = some ([.agg [.nil, .nil, .nil, .nil], .agg [.lit (.int .i64 0), .lit (.int .i64 0), .lit (.int .u8 0), .lit (.int .i64 0), .lit (.int .i64 0)], .lit (.bool false)], []) := by kernel_rfl
  obtain ⟨⟨x1, x2, x3⟩, hx, hx1⟩ := Option.map_eq_some_iff.1 hw
  simp only [Prod.mk.injEq] at hx1
  obtain ⟨rfl, rfl⟩ := hx1
  exact ⟨x3, hx⟩
set_option maxRecDepth 100000 in
theorem otPieces_lifted (os : Os) (started : os.Started) (H : Type) (enc : TypeId × Value → H) (F : Stop.Interp) :
    ReturnsInHanded {} Tryd.checked os 11 .any ((Rows.OpenSpec.upto Rows.otPiecesSpec).preRow enc Tryd.prog Tryd.f11 Rows.otPiecesUptoRow.domain false Rows.otPiecesUptoRow.laid) (((Rows.OpenSpec.upto Rows.otPiecesSpec).at F).post enc Tryd.prog Tryd.f11 false true false false) := by
  obtain ⟨places, hx⟩ := pieces_reads os enc
  have hok : Input.okWideB Tryd.checked.prog ((World.doorLaid Tryd.prog 17 os).forCall (fun _ _ => 0) ⟨#[], #[.agg #[.slice none 0 0, .slice none 0 0, .slice none 0 0, .slice none 0 0], .agg #[.int .i64 0, .int .i64 0, .int .u8 0, .int .i64 0, .int .i64 0], .bool false], []⟩) 11 ⟨#[], #[.agg #[.slice none 0 0, .slice none 0 0, .slice none 0 0, .slice none 0 0], .agg #[.int .i64 0, .int .i64 0, .int .u8 0, .int .i64 0, .int .i64 0], .bool false], []⟩ = true := by kernel_rfl
  refine returnsInHanded_of_row (C := Tryd.checked) (s := Rows.OpenSpec.upto Rows.otPiecesSpec) Tryd.own started (by kernel_rfl) Tryd.func11
    ⟨World.doorLaid Tryd.prog 17 os, fun _ _ => 0, ⟨#[], #[.agg #[.slice none 0 0, .slice none 0 0, .slice none 0 0, .slice none 0 0], .agg #[.int .i64 0, .int .i64 0, .int .u8 0, .int .i64 0, .int .i64 0], .bool false], []⟩, rfl, World.shaped_of_RefB (by kernel_rfl) (by kernel_rfl), (Input.okWide_of_okWideB (base := 0) hok).1, (Input.okWide_of_okWideB hok).2,
      OpenSpec.preRow_of_cond 8 hx (by kernel_rfl) (fun k hk => by cases hk; kernel_rfl) (by kernel_rfl) (door_met os _), by
        simp only [Assume.holds]
        exact ⟨by simp, by simp, fun _ => Modest.zero, by simp, by simp⟩⟩ ?_
  intro W base args ds gs before hval0 hW _ hcond _ hL _ _
  have hk : Rows.uptoSmall H (ds ++ gs) = true := hcond _ rfl
  have hval : ∀ (j : Nat) t v, Tryd.f11.params[j]? = some t → args[j]? = some v → Value.okWide Tryd.prog W .any base t v := hval0
  have hW' := hW
  obtain ⟨p, q, hA0, hV, rfl, hfz, hnd⟩ := hW
  have hA : DataW.TrodAll enc Tryd.prog W 0 (fun _ => true) true Tryd.f11.params.toList args.toList ds p := hA0
  rw [Tryd.params11] at hA hval
  obtain ⟨v0, vs0, d0, ds0, p0, q0, hargs, rfl, rfl, h0, r0⟩ := trodAll_cons hA
  obtain ⟨v1, vs1, d1, ds1, p1, q1, rfl, rfl, rfl, h1, r1⟩ := trodAll_cons r0
  obtain ⟨v2, vs2, d2, ds2, p2, q2, rfl, rfl, rfl, h2, r2⟩ := trodAll_cons r1
  obtain ⟨rfl, rfl, rfl⟩ := trodAll_nil r2
  obtain rfl : args = #[v0, v1, v2] := by cases args; simp_all
  obtain ⟨rfl, rfl⟩ := trodVars_none hV
  have k0 := h0
  have lt0 : ∀ x ∈ p0, x.block < W.heap.size := by obtain ⟨m, hm⟩ := k0; exact DataW.trod_lt m _ _ _ hm
  have k1 := h1
  have lt1 : ∀ x ∈ p1, x.block < W.heap.size := by obtain ⟨m, hm⟩ := k1; exact DataW.trod_lt m _ _ _ hm
  have k2 := h2
  have lt2 : ∀ x ∈ p2, x.block < W.heap.size := by obtain ⟨m, hm⟩ := k2; exact DataW.trod_lt m _ _ _ hm
  obtain ⟨A1, A2, A3, A4, x1, x2, x3, x4, c1, c2, c3, c4, rfl, e1, e2, e3, e4, hbulk⟩ := open_arr h0
  obtain ⟨x0, rfl, w0⟩ := open_val reads23 Tryd.underlying23 (hval 1 23 v1 rfl rfl) h1
  obtain ⟨f, rfl, _, _⟩ := open_bool Tryd.underlying4 (hval 2 4 v2 rfl rfl) h2
  have hbk : Rows.uptoBulk d0 ≤ 1048576 := by
    have h := of_decide_eq_true hk
    simp only [List.cons_append, Rows.uptoBulkAll] at h
    omega
  have hR := rules_of_laid hL
  clear hA0 hval0 hL
  refine (pieces_any A1 A2 A3 A4 c1 c2 c3 c4 x1 x2 x3 x4 x0 f W hR e1 e2 e3 e4 (by omega)).mono fun e W' ⟨he, bel⟩ => ?_
  subst he
  exact ⟨_, rfl, _, _, _, [], _, [], hW', trodAll_mk1 (shut_bool Tryd.underlying4 _), (trodAll_cons_mk (Below.trod Tryd.laidOut (by kernel_rfl) (of_decide_eq_true (by kernel_rfl)) k0 bel lt0) (trodAll_cons_mk (Below.trod Tryd.laidOut (by kernel_rfl) (of_decide_eq_true (by kernel_rfl)) k1 bel lt1) (trodAll_cons_mk (Below.trod Tryd.laidOut (by kernel_rfl) (of_decide_eq_true (by kernel_rfl)) k2 bel lt2) trodAll_mk0))), rfl, bel.frame _, fun h => by cases h⟩

theorem otPieces_row : Rows.OtPiecesUptoSaid :=
  OpenClaim.holds_of_cond 11 Tryd.f11 rfl rfl rfl rfl rfl rfl rfl ⟨rfl, rfl, rfl, rfl, rfl⟩ rfl rfl rfl rfl rfl (by kernel_rfl) Tryd.func11 (by kernel_rfl)
    (of_decide_eq_true (by kernel_rfl)) (by unfold Func.isWrapper; first | (rw [if_pos (by decide +kernel)]; kernel_rfl) | (rw [if_neg (by decide +kernel)]; exact ⟨rfl, rfl⟩))
    (fun os started H enc _ F => by rw [OpenClaim.pre_eq_preRow]; exact otPieces_lifted os started H enc F)
/-- THE CARD. -/
theorem otPieces_card : Rows.OtPiecesUptoCardSaid :=
  Claim7.holds_tied_plain_at .later [] [.funcs] true (true, "c4212513f26db8c62b53fef12b929e9ad22db1d2ac872dd533d3f702ec45025c") false
    otPieces_row (fun _ h => by cases h) (by kernel_rfl) (fun _ h => by cases h) otPiecesUpto_row_tie rfl ⟨rfl, rfl⟩ (by kernel_rfl) rfl
    (fun f fn hf hfn => by
      obtain rfl : f = 11 := Option.some.inj ((show Tryd.prog.funcNamed (Rows.otPiecesUptoRow).func = some 11 by kernel_rfl).symm.trans hf) |>.symm
      obtain rfl : fn = Tryd.f11 := (Option.some.inj (Tryd.func11.symm.trans hfn)).symm
      exact ⟨by kernel_rfl, fun j t ht => by
        rw [Tryd.params11] at ht
        have hm : t ∈ [68, 23, 4] := by simpa using Array.mem_of_getElem? ht
        have hall : ([68, 23, 4].all fun u => !Tryd.prog.wantsStandIn u) = true := by kernel_rfl
        exact (show Tryd.prog.wantsStandIn t = false by simpa using List.all_eq_true.1 hall t hm)⟩)
    (by kernel_rfl)
#print axioms otPieces_card
end Go.Proofs.YtkicbnkacjnhoaaDoor
