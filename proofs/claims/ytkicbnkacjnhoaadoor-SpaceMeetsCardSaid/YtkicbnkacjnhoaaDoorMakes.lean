/- The walk of jotterlaw10's makes. -/
import Derived.Test.YtkicbnkacjnhoaaDoorSides
import Derived.Test.YtkicbnkacjnhoaaDoorPlan
import Derived.StillTailTactics
namespace Go.Proofs.YtkicbnkacjnhoaaDoor
open Go.RowKit
set_option linter.unusedVariables false
set_option linter.unusedSimpArgs false

/-- An act. -/
structure PAct where
  k : Int
  nop : Bool
  out : Bool
  n : Int
  ch : Int
/-- The operation that a side makes. -/
def mkOp (b made : Int) (x : List PEl) (a : PAct) : POp :=
  if a.nop = true then ⟨0, 0, 0, b + 1 + made / 64, 1 + made % 64⟩
  else if a.out = true ∧ 0 < x.length then ⟨2, a.n % x.length, 0, b + 1 + made / 64, 1 + made % 64⟩
  else ⟨1, a.n % ((x.length : Int) + 1), 32 + a.ch % 95, b + 1 + made / 64, 1 + made % 64⟩
theorem mk_s9 {V : World} {p b : Nat} {t t' : TypeId} {v0 v1 v2 v3 v4 v5 v6 u0 u1 u2 u3 u4 : Value} (h : Blk V p #[v0, v1, v2, v3, v4, v5, v6] t) (k : Blk V b #[u0, u1, u2, u3, u4] t') :
    V.cell? ⟨p, 0, none⟩ = some v0 ∧ (V.cell? ⟨b, 0, none⟩ = some u0 ∧ V.cell? ⟨b, 1, none⟩ = some u1 ∧ V.cell? ⟨b, 2, none⟩ = some u2 ∧ V.cell? ⟨b, 3, none⟩ = some u3 ∧ V.cell? ⟨b, 4, none⟩ = some u4) :=
  ⟨h.cell 0, k.cells5⟩
theorem wrap_u8 (ch : Int) (h1 : 0 ≤ ch) (h2 : ch ≤ 255) : IntKind.u8.wrap (32 + ch.tmod 95) = 32 + ch % 95 := by
  rw [Int.tmod_eq_emod_of_nonneg h1]
  have h3 : 0 ≤ ch % 95 := Int.emod_nonneg _ (by omega)
  have h4 : ch % 95 < 95 := Int.emod_lt_of_pos _ (by omega)
  exact IntWalk.u8_in _ (by omega)
theorem mk_cl (b m : Int) (h1 : 0 ≤ b) (h2 : b ≤ 60) (h3 : 0 ≤ m) (h4 : m ≤ 250) : IntKind.i64.wrap (IntKind.i64.wrap (b + 1) + IntKind.i64.wrap (m.tdiv 64)) = b + 1 + m / 64 := by
  rw [Int.tdiv_eq_ediv_of_nonneg h3, IntWalk.i64_in (b + 1) (by omega), IntWalk.i64_in (m / 64) (by omega), IntWalk.i64_in _ (by omega)]
theorem mk_sq (m : Int) (h3 : 0 ≤ m) (h4 : m ≤ 250) : IntKind.i64.wrap (1 + m.tmod 64) = 1 + m % 64 := by
  rw [Int.tmod_eq_emod_of_nonneg h3, IntWalk.i64_in _ (by omega)]
theorem validL_mk {o : POp} (h1 : 0 ≤ o.k ∧ o.k ≤ 2) (h2 : 1 ≤ o.l ∧ o.l ≤ 64 ∧ 1 ≤ o.s ∧ o.s ≤ 64) (h3 : (o.k = 1 ∧ 32 ≤ o.c ∧ o.c ≤ 126) ∨ (o.k ≠ 1 ∧ o.c = 0)) (h4 : 0 ≤ o.p ∧ o.p ≤ (if o.k = 0 then 0 else 4095)) : validL o = 0 := by
  unfold validL
  rw [if_pos h1, if_pos h2, if_pos h3, if_pos h4]
theorem mkOp_ok (b made : Int) (x : List PEl) (a : PAct) (hb : 0 ≤ b ∧ b ≤ 60) (hm : 0 ≤ made ∧ made ≤ 250) (hx : x.length ≤ 4000) (hc : 0 ≤ a.ch ∧ a.ch ≤ 255) :
    validL (mkOp b made x a) = 0 ∧ ∃ e, putL x (mkOp b made x a) = some e := by
  have h3 : 0 ≤ a.ch % 95 := Int.emod_nonneg _ (by omega)
  have h4 : a.ch % 95 < 95 := Int.emod_lt_of_pos _ (by omega)
  have h5 : 0 ≤ a.n % ((x.length : Int) + 1) := Int.emod_nonneg _ (by omega)
  have h6 : a.n % ((x.length : Int) + 1) < (x.length : Int) + 1 := Int.emod_lt_of_pos _ (by omega)
  unfold mkOp
  split
  · refine ⟨?_, _, putL_nop rfl rfl rfl⟩
    exact validL_mk (by simp) (by simp only; omega) (.inr (by simp)) (by simp)
  · split
    · rename_i h
      have h7 : 0 ≤ a.n % (x.length : Int) := Int.emod_nonneg _ (by omega)
      have h8 : a.n % (x.length : Int) < (x.length : Int) := Int.emod_lt_of_pos _ (by omega)
      refine ⟨?_, _, putL_del (a.n % (x.length : Int)).toNat rfl (by simp only; omega) (by omega)⟩
      exact validL_mk (by simp) (by simp only; omega) (.inr (by simp)) (by simp only; rw [if_neg (by decide)]; omega)
    · refine ⟨?_, _, putL_ins (a.n % ((x.length : Int) + 1)).toNat rfl (by simp only; omega) (by omega)⟩
      exact validL_mk (by simp) (by simp only; omega) (.inl ⟨rfl, by simp only; omega, by simp only; omega⟩) (by simp only; rw [if_neg (by decide)]; omega)
/-- What a side's makes leaves. -/
structure Made (w w' : World) (L L' : Loc) (s : PSd) (o : POp) (e gone : List PEl) (f : Bool) : Prop where
  at_ : SdAt w' L' ⟨e, s.q ++ [⟨s.made + 1, o⟩], s.made + 1, s.made + 1, s.took, s.way ++ [⟨s.made + 1, s.took, o⟩], s.base, gone⟩ f
  ps : L'.ps = L.ps
  but : But L.foot w w'
  far : ∀ b ∈ L'.foot, b ∈ L.foot ∨ w.heap.size ≤ b
set_option maxHeartbeats 8000000 in
set_option maxRecDepth 100000 in
theorem makes_nop (k n ch : Int) (ou : Bool) (L : Loc) (s : PSd) (f : Bool) (e : List PEl) (w : World) (h : SdAt w L s f) (hl : s.last = s.made) (hm : 0 ≤ s.made ∧ s.made ≤ 250) (hx : s.x.length ≤ 4000) (hb : 0 ≤ s.base ∧ s.base ≤ 60) (hq : s.q.length ≤ 1000) (hw : s.way.length ≤ 1000) (hg : s.gone.length ≤ 1000) (hc : 0 ≤ ch ∧ ch ≤ 255) (hn : -9223372036854775808 ≤ n ∧ n ≤ 9223372036854775807)
    (CL SQ NI CC : Int) (hCL : CL = s.base + 1 + s.made / 64) (hSQ : SQ = 1 + s.made % 64) (hNI : 0 = NI) (hCC : CC = 32 + ch % 95) (hput : putL s.x ⟨0, 0, 0, CL, SQ⟩ = some e) (hvl : validL ⟨0, 0, 0, CL, SQ⟩ = 0) :
    Calls Tryd.prog 83 #[.pointer (some ⟨L.ps, 0, none⟩), .agg #[.int .i64 k, .bool true, .bool ou, .int .i64 n, .int .u8 ch]] w fun r w' => r = .returned (.bool true) ∧ ∃ L', Made w w' L L' s ⟨0, 0, 0, CL, SQ⟩ e s.gone f := by
  obtain ⟨ps, T, cT, p, A, c, V, cV, G, cG⟩ := L
  obtain ⟨x, q, last, made, took, way, base, gone⟩ := s
  dsimp only at *
  have ba := below_alloc (Below.refl w.heap.size w) (.cells #[.int .i64 k, .bool true, .bool ou, .int .i64 n, .int .u8 ch] 111)
  have ka := Blk.new w #[.int .i64 k, .bool true, .bool ou, .int .i64 n, .int .u8 ch] 111
  have hS := h.on ba
  obtain ⟨hc1, hc2⟩ := hc
  obtain ⟨hm1, hm2⟩ := hm
  obtain ⟨hb1, hb2⟩ := hb
  obtain ⟨hn1, hn2⟩ := hn
  have hv1 : IntKind.u8.wrap (32 + ch.tmod 95) = CC := by rw [hCC]; exact wrap_u8 ch hc1 hc2
  have hv2 : IntKind.i64.wrap (IntKind.i64.wrap (base + 1) + IntKind.i64.wrap (made.tdiv 64)) = CL := by rw [hCL]; exact mk_cl base made hb1 hb2 hm1 hm2
  have hv3 : IntKind.i64.wrap (1 + made.tmod 64) = SQ := by rw [hSQ]; exact mk_sq made hm1 hm2
  have hw1 : IntKind.i64.wrap ((x.length : Int) + 1) = (x.length : Int) + 1 := IntWalk.i64_in _ (by omega)
  have HL := Lib.hid hl
  have HNI := Lib.hid hNI
  have HPUT := Lib.hid hput
  have HVL := Lib.hid hvl
  have HCC := Lib.hid hCC
  have HFT := Lib.hid h.lt
  have lka := ka.lt
  have hwn : Hid (w.heap.size ∉ Loc.foot ⟨ps, T, cT, p, A, c, V, cV, G, cG⟩) := Lib.hid (fun hm => by have := h.lt _ hm; omega)
  clear hl hNI hput hvl hCC hCL hSQ
  go_enter Tryd.func83, Tryd.ntmps83
  go_wp2_with fail
  have W0 : Below w.heap.size w (w.alloc (.cells #[.int .i64 k, .bool true, .bool ou, .int .i64 n, .int .u8 ch] 111)) := ba
  generalize w.alloc (.cells #[.int .i64 k, .bool true, .bool ou, .int .i64 n, .int .u8 ch] 111) = w0 at *
  have HC : Hid (∀ w', Below w0.drew.heap.size w0.drew w' → (w'.cell? ⟨ps, 0, none⟩ = some (.slice T x.length cT) ∧ w'.cell? ⟨ps, 2, none⟩ = some (.int .i64 made) ∧ w'.cell? ⟨ps, 5, none⟩ = some (.int .i64 base)) ∧ w'.cell? ⟨w.heap.size, 3, none⟩ = some (.int .i64 n) ∧ w'.cell? ⟨w.heap.size, 4, none⟩ = some (.int .u8 ch)) := Lib.hid fun w' hb =>
    ⟨⟨(hS.blk.drew.on hb).cell 0, (hS.blk.drew.on hb).cell 2, (hS.blk.drew.on hb).cell 5⟩, (ka.drew.on hb).cell 3, (ka.drew.on hb).cell 4⟩
  obtain ⟨N1, hN1⟩ : ∃ N1, N1 = n % ((x.length : Int) + 1) := ⟨_, rfl⟩
  have HN1 := Lib.hid hN1
  clear hN1
  refine wp_region_plan [] [0, 1, 2, 3, 4, 5, 6, 7, 8, 9, 10, 11, 12, 13, 14, 15, 16, 17, 18, 19, 20, 21, 22, 23, 24, 25, 26, 27, 28, 29, 30] [31] [32] (by kernel_rfl) (by kernel_rfl) (fun _ _ _ _ _ h => h) ?_
  iterate 8
    refine take_step _ ?_ rfl rfl (fun w' hb => .inl ⟨by rfl, .inl ?_⟩) ?_
    rotate_left
    · have hq := HC.out w' hb
      obtain ⟨⟨m1, m2, m3⟩, m4, m5⟩ := hq
      go_simp
      try with_reducible rfl
    simp only [Act.put, List.setIfInBounds_toArray, List.set_cons_zero, List.set_cons_succ]
  refine take_step _ (.int .i64 N1) rfl rfl (fun w' hb => .inl ⟨by rfl, .inr ⟨82, #[.int .i64 n, .int .i64 ((x.length : Int) + 1)], ?_, by rw [HN1.out]; exact into_any n _ _ (by omega) (by omega) hn1 hn2⟩⟩) ?_
  · go_simp
  simp only [Act.put, List.setIfInBounds_toArray, List.set_cons_zero, List.set_cons_succ]
  iterate 22
    refine take_step _ ?_ rfl rfl (fun w' hb => .inl ⟨by rfl, .inl ?_⟩) ?_
    rotate_left
    · have hq := HC.out w' hb
      obtain ⟨⟨m1, m2, m3⟩, m4, m5⟩ := hq
      go_simp
      try with_reducible rfl
    simp only [Act.put, List.setIfInBounds_toArray, List.set_cons_zero, List.set_cons_succ]
  refine grow_step _ rfl (fun K hK => ?_)
  go_simp
  refine hK _ _ (below_alloc (Below.refl _ _) _) ?_
  clear hK K hv1 hv2 hv3 HC
  refine tail_of [_] rfl ?_
  simp only [List.getElem_toArray, List.getElem_cons_succ, List.getElem_cons_zero]
  obtain ⟨a0, a1, a2, a3, a4⟩ := ka.cells5
  obtain ⟨e0, e1, e2, e3, e4, e5, e6⟩ := hS.blk.seven
  dsimp only at e0 e1 e2 e3 e4 e5 e6
  have lps : ps < w0.heap.size := hS.blk.lt
  go_wp2_with fail
  obtain ⟨bo, hbo⟩ : ∃ bo, bo = w0.heap.size := ⟨_, rfl⟩
  have ko := (Blk.new w0 #[.int .i64 0, .int .i64 0, .int .u8 0, .int .i64 CL, .int .i64 SQ] 23).drew
  have W1 := (below_alloc (Below.refl w0.heap.size w0) (.cells #[.int .i64 0, .int .i64 0, .int .u8 0, .int .i64 CL, .int .i64 SQ] 23)).drew
  have hS1 := hS.on W1
  have BW : But (Loc.foot ⟨ps, T, cT, p, A, c, V, cV, G, cG⟩) w (w0.alloc (.cells #[.int .i64 0, .int .i64 0, .int .u8 0, .int .i64 CL, .int .i64 SQ] 23)).drew := But.ofBelow (W0.trans (W1.mono W0.size))
  have FF : Hid (∀ b ∈ Loc.foot ⟨ps, T, cT, p, A, c, V, cV, G, cG⟩, b ∈ Loc.foot ⟨ps, T, cT, p, A, c, V, cV, G, cG⟩ ∨ w.heap.size ≤ b) := Lib.hid (fun b hb => .inl hb)
  have OO : Hid (bo ∉ Loc.foot ⟨ps, T, cT, p, A, c, V, cV, G, cG⟩) := Lib.hid (fun hm => by have := hS.lt _ hm; omega)
  have lwo : w.heap.size ≤ bo := by have := W0.size; omega
  rw [← hbo] at ko ⊢
  clear e0 e1 e2 e3 e4 e5 e6 a0 a1 a2 a3 a4 hbo W1 hS lps
  generalize (w0.alloc (.cells #[.int .i64 0, .int .i64 0, .int .u8 0, .int .i64 CL, .int .i64 SQ] 23)).drew = w1 at *
  have kb : Blk w1 ps #[.slice T x.length cT, .pointer (some ⟨p, 0, none⟩), .int .i64 made, .int .i64 took, .slice V way.length cV, .int .i64 base, .slice G (gone).length cG] 108 := hS1.blk
  have hcC : (0 : Int) ≤ 0 ∧ (0 : Int) ≤ 255 := by first | decide | (have := HCC.out; have h3 : 0 ≤ ch % 95 := Int.emod_nonneg _ (by omega); have h4 : ch % 95 < 95 := Int.emod_lt_of_pos _ (by omega); omega)
  have lbo := ko.lt
  have lpo := kb.lt
  go_region_held3 (fun V' => V'.cell? ⟨ps, 0, none⟩ = some (.slice T x.length cT) ∧ (V'.cell? ⟨bo, 0, none⟩ = some (.int .i64 0) ∧ V'.cell? ⟨bo, 1, none⟩ = some (.int .i64 0) ∧ V'.cell? ⟨bo, 2, none⟩ = some (.int .u8 0) ∧ V'.cell? ⟨bo, 3, none⟩ = some (.int .i64 CL) ∧ V'.cell? ⟨bo, 4, none⟩ = some (.int .i64 SQ)))
    (first | ((with_reducible exact mk_s9 kb.drew ko.drew); done) | ((with_reducible exact mk_s9 (kb.on B2) (ko.on B2)); done) | fail)
    (first
      | (go_at_call 84; (with_reducible refine (apply_any T cT x e ⟨0, 0, 0, CL, SQ⟩ _ (Rd.drew hS1.tx) hS1.tl (by omega) HPUT.out hcC HVL.out).mono ?_); rintro r w2 ⟨g, cap, rfl, oc, hg, hb2⟩; (have B2 : Below w1.heap.size w1 w2 := (Below.refl _ _).drew.trans hb2))
      | fail)
  have hS2 := hS1.on B2
  have ko2 := ko.on B2
  have kb2 := kb.on B2
  have rd2 := oc.rd
  have rl2 := oc.le
  have gl2 := oc.lt
  have hg1 : w1.heap.size ≤ g := hg
  have gF : Hid (g ∉ Loc.foot ⟨ps, T, cT, p, A, c, V, cV, G, cG⟩ ∧ g ≠ bo) := Lib.hid ⟨fun hm => by have := hS1.lt _ hm; omega, by omega⟩
  have BW2 := BW.trans (But.ofBelow (bs := []) B2) (by simp)
  obtain ⟨e0, e1, e2, e3, e4, e5, e6⟩ := kb2.seven
  have ez := kb2.frozen
  clear BW kb ko hS1 B2 hb2 oc
  go_wp2_with fail
  have hS3 := hS2.setMade (made + 1)
  have hpo : bo ≠ ps := fun e => OO.out (by rw [e]; exact mem_foot.2 (.inl rfl))
  have hpg : g ≠ ps := fun e => gF.out.1 (by rw [e]; exact mem_foot.2 (.inl rfl))
  have ko3 := ko2.setOther (a := ⟨ps, 2, none⟩) hpo (.int .i64 (made + 1))
  have bs3 := But.setCell w2 ps 2 (.int .i64 (made + 1)) (bs := [ps]) (by simp)
  have rd3 := rd2.but bs3 (fun b off e hm => by injection e with e; injection e with e _; subst e; exact hpg (List.mem_singleton.1 hm))
  have BW3 := BW2.trans bs3 (fun b hb => by rw [List.mem_singleton.1 hb]; exact FF.out ps (mem_foot.2 (.inl rfl)))
  have gl3 : g < (w2.setCell ⟨ps, 2, none⟩ (.int .i64 (made + 1))).heap.size := Nat.lt_of_lt_of_le gl2 bs3.size
  dsimp only at hS3 ko3 bs3 rd3 BW3 gl3
  clear e0 e1 e2 e3 e4 e5 e6 ez kb2 ko2 hS2 rd2 BW2 bs3 gl2
  generalize w2.setCell ⟨ps, 2, none⟩ (.int .i64 (made + 1)) = w3 at *
  have kb3 : Blk w3 ps #[.slice T x.length cT, .pointer (some ⟨p, 0, none⟩), .int .i64 (made + 1), .int .i64 took, .slice V way.length cV, .int .i64 base, .slice G (gone).length cG] 108 := hS3.blk
  obtain ⟨e0, e1, e2, e3, e4, e5, e6⟩ := kb3.seven
  obtain ⟨o0, o1, o2, o3, o4⟩ := ko3.cells5
  have hlm : last < made + 1 := by rw [HL.out]; omega
  go_still_tail 11, (by kernel_rfl)
  change wpList _ _ _ _ _ (World.drew _)
  go_wp2_with fail
  with_reducible refine (keep_ok (made + 1) ⟨0, 0, 0, CL, SQ⟩ _ (SpAt.drew hS3.sp) hcC HVL.out hlm (by omega) (show q.length ≤ 100000 by omega)).mono ?_
  rintro r w4 ⟨rfl, A', c', hs4, b4, f4⟩
  have hS4 := hS3.drew.setSp b4 hs4 f4
  dsimp only at hS4 b4 f4
  have hmp : ∀ b ∈ p :: own A, b ∈ Loc.foot ⟨ps, T, cT, p, A, c, V, cV, G, cG⟩ := fun b hb => mem_foot.2 (by rcases List.mem_cons.1 hb with h1 | h1; exact .inr (.inl h1); exact .inr (.inr (.inr (.inl h1))))
  have ko4 := ko3.drew.but b4 (fun hm => OO.out (hmp _ hm))
  have rd4 := (Rd.drew rd3).but b4 (fun b off e hm => by injection e with e; injection e with e _; subst e; exact gF.out.1 (hmp _ hm))
  have BW4 := (BW3.trans (But.ofBelow (bs := []) (Below.refl w3.heap.size w3).drew) (by simp)).trans b4 (fun b hb => FF.out b (hmp b hb))
  have FF4 : Hid (∀ b ∈ Loc.foot ⟨ps, T, cT, p, A', c', V, cV, G, cG⟩, b ∈ Loc.foot ⟨ps, T, cT, p, A, c, V, cV, G, cG⟩ ∨ w.heap.size ≤ b) := Lib.hid (fun b hb => by
    rcases mem_foot.1 hb with h1 | h1 | h1 | h1 | h1 | h1
    · exact FF.out b (mem_foot.2 (.inl h1))
    · exact FF.out b (mem_foot.2 (.inr (.inl h1)))
    · exact FF.out b (mem_foot.2 (.inr (.inr (.inl h1))))
    · rcases f4 b h1 with h2 | h2
      · exact FF.out b (mem_foot.2 (.inr (.inr (.inr (.inl h2)))))
      · exact .inr (Nat.le_trans BW3.size h2)
    · exact FF.out b (mem_foot.2 (.inr (.inr (.inr (.inr (.inl h1))))))
    · exact FF.out b (mem_foot.2 (.inr (.inr (.inr (.inr (.inr h1)))))))
  have gF4 : Hid (g ∉ Loc.foot ⟨ps, T, cT, p, A', c', V, cV, G, cG⟩) := Lib.hid (fun hb => by
    have nf := gF.out.1
    rcases mem_foot.1 hb with h1 | h1 | h1 | h1 | h1 | h1
    · exact nf (mem_foot.2 (.inl h1))
    · exact nf (mem_foot.2 (.inr (.inl h1)))
    · exact nf (mem_foot.2 (.inr (.inr (.inl h1))))
    · rcases f4 g h1 with h2 | h2
      · exact nf (mem_foot.2 (.inr (.inr (.inr (.inl h2)))))
      · have h3 : w3.heap.size ≤ g := h2; omega
    · exact nf (mem_foot.2 (.inr (.inr (.inr (.inr (.inl h1))))))
    · exact nf (mem_foot.2 (.inr (.inr (.inr (.inr (.inr h1)))))))
  have gl4 : g < w4.heap.size := Nat.lt_of_lt_of_le gl3 b4.size
  have kb4 : Blk w4 ps #[.slice T x.length cT, .pointer (some ⟨p, 0, none⟩), .int .i64 (made + 1), .int .i64 took, .slice V way.length cV, .int .i64 base, .slice G (gone).length cG] 108 := hS4.blk
  have OO4 : Hid (bo ∉ own V) := Lib.hid (fun hm => OO.out (mem_foot.2 (.inr (.inr (.inr (.inr (.inl hm)))))))
  clear e0 e1 e2 e3 e4 e5 e6 o0 o1 o2 o3 o4 kb3 ko3 hS3 rd3 BW3 b4 f4 hs4 hmp gl3 FF
  obtain ⟨e0, e1, e2, e3, e4, e5, e6⟩ := kb4.seven
  have ez := kb4.frozen
  go_wp2_with fail
  have hS5 := hS4.setText (some ⟨g, 0, none⟩) cap e rd4 rl2 (fun b hb => by obtain rfl := List.mem_singleton.1 hb; exact ⟨gl4, gF4.out⟩)
  have ko5 := ko4.setOther (a := ⟨ps, 0, none⟩) hpo (.slice (some ⟨g, 0, none⟩) e.length cap)
  have bs5 := But.setCell w4 ps 0 (.slice (some ⟨g, 0, none⟩) e.length cap) (bs := [ps]) (by simp)
  have BW5 := BW4.trans bs5 (fun b hb => by rw [List.mem_singleton.1 hb]; exact FF4.out ps (mem_foot.2 (.inl rfl)))
  have FF5 : Hid (∀ b ∈ Loc.foot ⟨ps, some ⟨g, 0, none⟩, cap, p, A', c', V, cV, G, cG⟩, b ∈ Loc.foot ⟨ps, T, cT, p, A, c, V, cV, G, cG⟩ ∨ w.heap.size ≤ b) := Lib.hid (fun b hb => by
    rcases mem_foot.1 hb with h1 | h1 | h1 | h1 | h1 | h1
    · exact FF4.out b (mem_foot.2 (.inl h1))
    · exact FF4.out b (mem_foot.2 (.inr (.inl h1)))
    · obtain rfl := List.mem_singleton.1 h1
      exact .inr (by omega)
    · exact FF4.out b (mem_foot.2 (.inr (.inr (.inr (.inl h1)))))
    · exact FF4.out b (mem_foot.2 (.inr (.inr (.inr (.inr (.inl h1))))))
    · exact FF4.out b (mem_foot.2 (.inr (.inr (.inr (.inr (.inr h1)))))))
  dsimp only at hS5 ko5 bs5 BW5
  clear e0 e1 e2 e3 e4 e5 e6 ez kb4 ko4 hS4 rd4 BW4 bs5 FF4 gF4 gl4 rl2
  generalize w4.setCell ⟨ps, 0, none⟩ (.slice (some ⟨g, 0, none⟩) e.length cap) = w5 at *
  have kb5 : Blk w5 ps #[.slice (some ⟨g, 0, none⟩) e.length cap, .pointer (some ⟨p, 0, none⟩), .int .i64 (made + 1), .int .i64 took, .slice V way.length cV, .int .i64 base, .slice G (gone).length cG] 108 := hS5.blk
  have HC : Hid (∀ w', Below w5.drew.heap.size w5.drew w' → (w'.cell? ⟨ps, 2, none⟩ = some (.int .i64 (made + 1)) ∧ w'.cell? ⟨ps, 3, none⟩ = some (.int .i64 took) ∧ w'.cell? ⟨ps, 4, none⟩ = some (.slice V way.length cV)) ∧ (w'.cell? ⟨bo, 0, none⟩ = some (.int .i64 0) ∧ w'.cell? ⟨bo, 1, none⟩ = some (.int .i64 0) ∧ w'.cell? ⟨bo, 2, none⟩ = some (.int .u8 0) ∧ w'.cell? ⟨bo, 3, none⟩ = some (.int .i64 CL) ∧ w'.cell? ⟨bo, 4, none⟩ = some (.int .i64 SQ))) := Lib.hid fun w' hb =>
    ⟨⟨(kb5.drew.on hb).cell 2, (kb5.drew.on hb).cell 3, (kb5.drew.on hb).cell 4⟩, (ko5.drew.on hb).cells5⟩
  have n4 : ps ∉ own V := hS5.psn.2.2.2.1
  refine wp_region_plan [0] [0, 1, 2, 3, 4, 5, 6, 7, 8, 9, 10, 11, 12, 13, 14] [15] [16, 17, 18, 19] (by kernel_rfl) (by kernel_rfl) (fun _ _ _ _ _ h => h) ?_
  refine take_any _ ?_ rfl (fun w' => .inl ⟨by rfl, .inl ?_⟩) ?_
  rotate_left
  · go_simp
    with_reducible rfl
  simp only [Act.put, List.setIfInBounds_toArray, List.set_cons_zero, List.set_cons_succ]
  iterate 14
    refine take_step _ ?_ rfl rfl (fun w' hb => .inl ⟨by rfl, .inl ?_⟩) ?_
    rotate_left
    · have hq := HC.out w' hb
      obtain ⟨⟨m1, m2, m3⟩, m4, m5, m6, m7, m8⟩ := hq
      go_simp
      with_reducible rfl
    simp only [Act.put, List.setIfInBounds_toArray, List.set_cons_zero, List.set_cons_succ]
  refine grow_step _ rfl (fun K hK => ?_)
  go_simp
  refine hK _ _ (below_alloc (Below.refl _ _) _) ?_
  clear hK K HC
  refine tail_of [_, _, _, _] rfl ?_
  simp only [List.getElem_toArray, List.getElem_cons_succ, List.getElem_cons_zero]
  have hS5a : SdAt (w5.alloc (.cells (parF.cells ⟨made + 1, took, ⟨0, 0, 0, CL, SQ⟩⟩).toArray 116)).drew ⟨ps, some ⟨g, 0, none⟩, cap, p, A', c', V, cV, G, cG⟩ ⟨e, q ++ [⟨made + 1, ⟨0, 0, 0, CL, SQ⟩⟩], made + 1, made + 1, took, way, base, gone⟩ f := (hS5.on (below_alloc (Below.refl _ _) _)).drew
  have BW5a := BW5.trans (But.ofBelow (bs := []) ((below_alloc (Below.refl w5.heap.size w5) (.cells (parF.cells ⟨made + 1, took, ⟨0, 0, 0, CL, SQ⟩⟩).toArray 116)).drew)) (by simp)
  go_wp2_with (first
    | (at_builtin; refine ev_appO El.par (by decide) (by decide) _ rfl _ _ 106 rfl Tryd.underlying106 V cV way [⟨made + 1, took, ⟨0, 0, 0, CL, SQ⟩⟩] ⟨w5.heap.size, 0, none⟩ way.length 1 1 rfl rfl rfl rfl hS5a.wy (Rd.drew (Blk.rdPar (Blk.new w5 _ _))) (by simp) (by simp; omega) ?_; intro V' cV' w6 ho6 b6 f6; (have hS6 := hS5a.wayTo b6 ho6 f6 (way.length + 1) (by simp)); (have kb6 := hS5a.blk.but b6 n4); (dsimp only at kb6); have ez := kb6.frozen; obtain ⟨e0, e1, e2, e3, e4, e5, e6⟩ := kb6.seven; (have BW6 := (BW5a.trans b6 (fun b hb => FF5.out b (mem_foot.2 (.inr (.inr (.inr (.inr (.inl hb)))))))).trans (But.setCell w6 ps 4 (.slice V' (way.length + 1) cV') (bs := [ps]) (by simp)) (fun b hb => by rw [List.mem_singleton.1 hb]; exact FF5.out ps (mem_foot.2 (.inl rfl)))); (have FM := Lib.hid f6); clear f6 b6 ho6; dsimp only at hS6 BW6))
  have FF6 : Hid (∀ b ∈ Loc.foot ⟨ps, some ⟨g, 0, none⟩, cap, p, A', c', V', cV', G, cG⟩, b ∈ Loc.foot ⟨ps, T, cT, p, A, c, V, cV, G, cG⟩ ∨ w.heap.size ≤ b) := Lib.hid (fun b hb => by
    rcases mem_foot.1 hb with h1 | h1 | h1 | h1 | h1 | h1
    · exact FF5.out b (mem_foot.2 (.inl h1))
    · exact FF5.out b (mem_foot.2 (.inr (.inl h1)))
    · exact FF5.out b (mem_foot.2 (.inr (.inr (.inl h1))))
    · exact FF5.out b (mem_foot.2 (.inr (.inr (.inr (.inl h1)))))
    · rcases FM.out b h1 with h2 | h2
      · exact FF5.out b (mem_foot.2 (.inr (.inr (.inr (.inr (.inl h2))))))
      · exact .inr (Nat.le_trans BW5a.size h2)
    · exact FF5.out b (mem_foot.2 (.inr (.inr (.inr (.inr (.inr h1)))))))
  clear ez kb6 e0 e1 e2 e3 e4 e5 e6 kb5 hS5 hS5a BW5 BW5a ko5 FF5 FM n4
  generalize w6.setCell ⟨ps, 4, none⟩ (.slice V' (way.length + 1) cV') = w7 at *
  have kb7 : Blk w7 ps #[.slice (some ⟨g, 0, none⟩) e.length cap, .pointer (some ⟨p, 0, none⟩), .int .i64 (made + 1), .int .i64 took, .slice V' (way ++ [(⟨made + 1, took, ⟨0, 0, 0, CL, SQ⟩⟩ : PPar)]).length cV', .int .i64 base, .slice G (gone).length cG] 108 := hS6.blk
  obtain ⟨e0, e1, e2, e3, e4, e5, e6⟩ := kb7.seven
  go_quiet ((go_at_call 53; exact Calls.quiet_of_same (last_any _ (hS6.sp.on (below_drewN (Below.refl _ _) _)))))
  go_wp2
  go_ret
  exact ⟨ret_bool (by simp), _, hS6.on (below_drewN (Below.refl _ _) _), rfl, BW6.trans (But.ofBelow (bs := []) (below_drewN (Below.refl _ _) _)) (by simp), FF6.out⟩
set_option maxHeartbeats 8000000 in
set_option maxRecDepth 100000 in
theorem makes_ins1 (k n ch : Int) (L : Loc) (s : PSd) (f : Bool) (e : List PEl) (w : World) (h : SdAt w L s f) (hl : s.last = s.made) (hm : 0 ≤ s.made ∧ s.made ≤ 250) (hx : s.x.length ≤ 4000) (hb : 0 ≤ s.base ∧ s.base ≤ 60) (hq : s.q.length ≤ 1000) (hw : s.way.length ≤ 1000) (hg : s.gone.length ≤ 1000) (hc : 0 ≤ ch ∧ ch ≤ 255) (hn : -9223372036854775808 ≤ n ∧ n ≤ 9223372036854775807)
    (CL SQ NI CC : Int) (hCL : CL = s.base + 1 + s.made / 64) (hSQ : SQ = 1 + s.made % 64) (hNI : n % ((s.x.length : Int) + 1) = NI) (hCC : CC = 32 + ch % 95) (hput : putL s.x ⟨1, NI, CC, CL, SQ⟩ = some e) (hvl : validL ⟨1, NI, CC, CL, SQ⟩ = 0) :
    Calls Tryd.prog 83 #[.pointer (some ⟨L.ps, 0, none⟩), .agg #[.int .i64 k, .bool false, .bool false, .int .i64 n, .int .u8 ch]] w fun r w' => r = .returned (.bool true) ∧ ∃ L', Made w w' L L' s ⟨1, NI, CC, CL, SQ⟩ e s.gone f := by
  obtain ⟨ps, T, cT, p, A, c, V, cV, G, cG⟩ := L
  obtain ⟨x, q, last, made, took, way, base, gone⟩ := s
  dsimp only at *
  have ba := below_alloc (Below.refl w.heap.size w) (.cells #[.int .i64 k, .bool false, .bool false, .int .i64 n, .int .u8 ch] 111)
  have ka := Blk.new w #[.int .i64 k, .bool false, .bool false, .int .i64 n, .int .u8 ch] 111
  have hS := h.on ba
  obtain ⟨hc1, hc2⟩ := hc
  obtain ⟨hm1, hm2⟩ := hm
  obtain ⟨hb1, hb2⟩ := hb
  obtain ⟨hn1, hn2⟩ := hn
  have hv1 : IntKind.u8.wrap (32 + ch.tmod 95) = CC := by rw [hCC]; exact wrap_u8 ch hc1 hc2
  have hv2 : IntKind.i64.wrap (IntKind.i64.wrap (base + 1) + IntKind.i64.wrap (made.tdiv 64)) = CL := by rw [hCL]; exact mk_cl base made hb1 hb2 hm1 hm2
  have hv3 : IntKind.i64.wrap (1 + made.tmod 64) = SQ := by rw [hSQ]; exact mk_sq made hm1 hm2
  have hw1 : IntKind.i64.wrap ((x.length : Int) + 1) = (x.length : Int) + 1 := IntWalk.i64_in _ (by omega)
  have HL := Lib.hid hl
  have HNI := Lib.hid hNI
  have HPUT := Lib.hid hput
  have HVL := Lib.hid hvl
  have HCC := Lib.hid hCC
  have HFT := Lib.hid h.lt
  have lka := ka.lt
  have hwn : Hid (w.heap.size ∉ Loc.foot ⟨ps, T, cT, p, A, c, V, cV, G, cG⟩) := Lib.hid (fun hm => by have := h.lt _ hm; omega)
  clear hl hNI hput hvl hCC hCL hSQ
  go_enter Tryd.func83, Tryd.ntmps83
  go_wp2_with fail
  have W0 : Below w.heap.size w (w.alloc (.cells #[.int .i64 k, .bool false, .bool false, .int .i64 n, .int .u8 ch] 111)) := ba
  generalize w.alloc (.cells #[.int .i64 k, .bool false, .bool false, .int .i64 n, .int .u8 ch] 111) = w0 at *
  have HC : Hid (∀ w', Below w0.drew.heap.size w0.drew w' → (w'.cell? ⟨ps, 0, none⟩ = some (.slice T x.length cT) ∧ w'.cell? ⟨ps, 2, none⟩ = some (.int .i64 made) ∧ w'.cell? ⟨ps, 5, none⟩ = some (.int .i64 base)) ∧ w'.cell? ⟨w.heap.size, 3, none⟩ = some (.int .i64 n) ∧ w'.cell? ⟨w.heap.size, 4, none⟩ = some (.int .u8 ch)) := Lib.hid fun w' hb =>
    ⟨⟨(hS.blk.drew.on hb).cell 0, (hS.blk.drew.on hb).cell 2, (hS.blk.drew.on hb).cell 5⟩, (ka.drew.on hb).cell 3, (ka.drew.on hb).cell 4⟩
  obtain ⟨N1, hN1⟩ : ∃ N1, N1 = n % ((x.length : Int) + 1) := ⟨_, rfl⟩
  have HN1 := Lib.hid hN1
  clear hN1
  refine wp_region_plan [] [0, 1, 2, 3, 4, 5, 6, 7, 8, 9, 10, 11, 12, 13, 14, 15, 16, 17, 18, 19, 20, 21, 22, 23, 24, 25, 26, 27, 28, 29, 30] [31] [32] (by kernel_rfl) (by kernel_rfl) (fun _ _ _ _ _ h => h) ?_
  iterate 8
    refine take_step _ ?_ rfl rfl (fun w' hb => .inl ⟨by rfl, .inl ?_⟩) ?_
    rotate_left
    · have hq := HC.out w' hb
      obtain ⟨⟨m1, m2, m3⟩, m4, m5⟩ := hq
      go_simp
      try with_reducible rfl
    simp only [Act.put, List.setIfInBounds_toArray, List.set_cons_zero, List.set_cons_succ]
  refine take_step _ (.int .i64 N1) rfl rfl (fun w' hb => .inl ⟨by rfl, .inr ⟨82, #[.int .i64 n, .int .i64 ((x.length : Int) + 1)], ?_, by rw [HN1.out]; exact into_any n _ _ (by omega) (by omega) hn1 hn2⟩⟩) ?_
  · go_simp
  simp only [Act.put, List.setIfInBounds_toArray, List.set_cons_zero, List.set_cons_succ]
  iterate 22
    refine take_step _ ?_ rfl rfl (fun w' hb => .inl ⟨by rfl, .inl ?_⟩) ?_
    rotate_left
    · have hq := HC.out w' hb
      obtain ⟨⟨m1, m2, m3⟩, m4, m5⟩ := hq
      go_simp
      try with_reducible rfl
    simp only [Act.put, List.setIfInBounds_toArray, List.set_cons_zero, List.set_cons_succ]
  refine grow_step _ rfl (fun K hK => ?_)
  go_simp
  refine hK _ _ (below_alloc (Below.refl _ _) _) ?_
  clear hK K hv1 hv2 hv3 HC
  refine tail_of [_] rfl ?_
  simp only [List.getElem_toArray, List.getElem_cons_succ, List.getElem_cons_zero]
  obtain ⟨a0, a1, a2, a3, a4⟩ := ka.cells5
  obtain ⟨e0, e1, e2, e3, e4, e5, e6⟩ := hS.blk.seven
  dsimp only at e0 e1 e2 e3 e4 e5 e6
  have lps : ps < w0.heap.size := hS.blk.lt
  obtain rfl : NI = N1 := (HN1.out.trans HNI.out).symm
  go_wp2_with fail
  obtain ⟨bo, hbo⟩ : ∃ bo, bo = w0.heap.size := ⟨_, rfl⟩
  have ko := (Blk.new w0 #[.int .i64 1, .int .i64 NI, .int .u8 CC, .int .i64 CL, .int .i64 SQ] 23).drew
  have W1 := (below_alloc (Below.refl w0.heap.size w0) (.cells #[.int .i64 1, .int .i64 NI, .int .u8 CC, .int .i64 CL, .int .i64 SQ] 23)).drew
  have hS1 := hS.on W1
  have BW : But (Loc.foot ⟨ps, T, cT, p, A, c, V, cV, G, cG⟩) w (w0.alloc (.cells #[.int .i64 1, .int .i64 NI, .int .u8 CC, .int .i64 CL, .int .i64 SQ] 23)).drew := But.ofBelow (W0.trans (W1.mono W0.size))
  have FF : Hid (∀ b ∈ Loc.foot ⟨ps, T, cT, p, A, c, V, cV, G, cG⟩, b ∈ Loc.foot ⟨ps, T, cT, p, A, c, V, cV, G, cG⟩ ∨ w.heap.size ≤ b) := Lib.hid (fun b hb => .inl hb)
  have OO : Hid (bo ∉ Loc.foot ⟨ps, T, cT, p, A, c, V, cV, G, cG⟩) := Lib.hid (fun hm => by have := hS.lt _ hm; omega)
  have lwo : w.heap.size ≤ bo := by have := W0.size; omega
  rw [← hbo] at ko ⊢
  clear e0 e1 e2 e3 e4 e5 e6 a0 a1 a2 a3 a4 hbo W1 hS lps
  generalize (w0.alloc (.cells #[.int .i64 1, .int .i64 NI, .int .u8 CC, .int .i64 CL, .int .i64 SQ] 23)).drew = w1 at *
  have kb : Blk w1 ps #[.slice T x.length cT, .pointer (some ⟨p, 0, none⟩), .int .i64 made, .int .i64 took, .slice V way.length cV, .int .i64 base, .slice G (gone).length cG] 108 := hS1.blk
  have hcC : (0 : Int) ≤ CC ∧ (CC : Int) ≤ 255 := by first | decide | (have := HCC.out; have h3 : 0 ≤ ch % 95 := Int.emod_nonneg _ (by omega); have h4 : ch % 95 < 95 := Int.emod_lt_of_pos _ (by omega); omega)
  have lbo := ko.lt
  have lpo := kb.lt
  go_region_held3 (fun V' => V'.cell? ⟨ps, 0, none⟩ = some (.slice T x.length cT) ∧ (V'.cell? ⟨bo, 0, none⟩ = some (.int .i64 1) ∧ V'.cell? ⟨bo, 1, none⟩ = some (.int .i64 NI) ∧ V'.cell? ⟨bo, 2, none⟩ = some (.int .u8 CC) ∧ V'.cell? ⟨bo, 3, none⟩ = some (.int .i64 CL) ∧ V'.cell? ⟨bo, 4, none⟩ = some (.int .i64 SQ)))
    (first | ((with_reducible exact mk_s9 kb.drew ko.drew); done) | ((with_reducible exact mk_s9 (kb.on B2) (ko.on B2)); done) | fail)
    (first
      | (go_at_call 84; (with_reducible refine (apply_any T cT x e ⟨1, NI, CC, CL, SQ⟩ _ (Rd.drew hS1.tx) hS1.tl (by omega) HPUT.out hcC HVL.out).mono ?_); rintro r w2 ⟨g, cap, rfl, oc, hg, hb2⟩; (have B2 : Below w1.heap.size w1 w2 := (Below.refl _ _).drew.trans hb2))
      | fail)
  have hS2 := hS1.on B2
  have ko2 := ko.on B2
  have kb2 := kb.on B2
  have rd2 := oc.rd
  have rl2 := oc.le
  have gl2 := oc.lt
  have hg1 : w1.heap.size ≤ g := hg
  have gF : Hid (g ∉ Loc.foot ⟨ps, T, cT, p, A, c, V, cV, G, cG⟩ ∧ g ≠ bo) := Lib.hid ⟨fun hm => by have := hS1.lt _ hm; omega, by omega⟩
  have BW2 := BW.trans (But.ofBelow (bs := []) B2) (by simp)
  obtain ⟨e0, e1, e2, e3, e4, e5, e6⟩ := kb2.seven
  have ez := kb2.frozen
  clear BW kb ko hS1 B2 hb2 oc
  go_wp2_with fail
  have hS3 := hS2.setMade (made + 1)
  have hpo : bo ≠ ps := fun e => OO.out (by rw [e]; exact mem_foot.2 (.inl rfl))
  have hpg : g ≠ ps := fun e => gF.out.1 (by rw [e]; exact mem_foot.2 (.inl rfl))
  have ko3 := ko2.setOther (a := ⟨ps, 2, none⟩) hpo (.int .i64 (made + 1))
  have bs3 := But.setCell w2 ps 2 (.int .i64 (made + 1)) (bs := [ps]) (by simp)
  have rd3 := rd2.but bs3 (fun b off e hm => by injection e with e; injection e with e _; subst e; exact hpg (List.mem_singleton.1 hm))
  have BW3 := BW2.trans bs3 (fun b hb => by rw [List.mem_singleton.1 hb]; exact FF.out ps (mem_foot.2 (.inl rfl)))
  have gl3 : g < (w2.setCell ⟨ps, 2, none⟩ (.int .i64 (made + 1))).heap.size := Nat.lt_of_lt_of_le gl2 bs3.size
  dsimp only at hS3 ko3 bs3 rd3 BW3 gl3
  clear e0 e1 e2 e3 e4 e5 e6 ez kb2 ko2 hS2 rd2 BW2 bs3 gl2
  generalize w2.setCell ⟨ps, 2, none⟩ (.int .i64 (made + 1)) = w3 at *
  have kb3 : Blk w3 ps #[.slice T x.length cT, .pointer (some ⟨p, 0, none⟩), .int .i64 (made + 1), .int .i64 took, .slice V way.length cV, .int .i64 base, .slice G (gone).length cG] 108 := hS3.blk
  obtain ⟨e0, e1, e2, e3, e4, e5, e6⟩ := kb3.seven
  obtain ⟨o0, o1, o2, o3, o4⟩ := ko3.cells5
  have hlm : last < made + 1 := by rw [HL.out]; omega
  go_still_tail 11, (by kernel_rfl)
  change wpList _ _ _ _ _ (World.drew _)
  go_wp2_with fail
  with_reducible refine (keep_ok (made + 1) ⟨1, NI, CC, CL, SQ⟩ _ (SpAt.drew hS3.sp) hcC HVL.out hlm (by omega) (show q.length ≤ 100000 by omega)).mono ?_
  rintro r w4 ⟨rfl, A', c', hs4, b4, f4⟩
  have hS4 := hS3.drew.setSp b4 hs4 f4
  dsimp only at hS4 b4 f4
  have hmp : ∀ b ∈ p :: own A, b ∈ Loc.foot ⟨ps, T, cT, p, A, c, V, cV, G, cG⟩ := fun b hb => mem_foot.2 (by rcases List.mem_cons.1 hb with h1 | h1; exact .inr (.inl h1); exact .inr (.inr (.inr (.inl h1))))
  have ko4 := ko3.drew.but b4 (fun hm => OO.out (hmp _ hm))
  have rd4 := (Rd.drew rd3).but b4 (fun b off e hm => by injection e with e; injection e with e _; subst e; exact gF.out.1 (hmp _ hm))
  have BW4 := (BW3.trans (But.ofBelow (bs := []) (Below.refl w3.heap.size w3).drew) (by simp)).trans b4 (fun b hb => FF.out b (hmp b hb))
  have FF4 : Hid (∀ b ∈ Loc.foot ⟨ps, T, cT, p, A', c', V, cV, G, cG⟩, b ∈ Loc.foot ⟨ps, T, cT, p, A, c, V, cV, G, cG⟩ ∨ w.heap.size ≤ b) := Lib.hid (fun b hb => by
    rcases mem_foot.1 hb with h1 | h1 | h1 | h1 | h1 | h1
    · exact FF.out b (mem_foot.2 (.inl h1))
    · exact FF.out b (mem_foot.2 (.inr (.inl h1)))
    · exact FF.out b (mem_foot.2 (.inr (.inr (.inl h1))))
    · rcases f4 b h1 with h2 | h2
      · exact FF.out b (mem_foot.2 (.inr (.inr (.inr (.inl h2)))))
      · exact .inr (Nat.le_trans BW3.size h2)
    · exact FF.out b (mem_foot.2 (.inr (.inr (.inr (.inr (.inl h1))))))
    · exact FF.out b (mem_foot.2 (.inr (.inr (.inr (.inr (.inr h1)))))))
  have gF4 : Hid (g ∉ Loc.foot ⟨ps, T, cT, p, A', c', V, cV, G, cG⟩) := Lib.hid (fun hb => by
    have nf := gF.out.1
    rcases mem_foot.1 hb with h1 | h1 | h1 | h1 | h1 | h1
    · exact nf (mem_foot.2 (.inl h1))
    · exact nf (mem_foot.2 (.inr (.inl h1)))
    · exact nf (mem_foot.2 (.inr (.inr (.inl h1))))
    · rcases f4 g h1 with h2 | h2
      · exact nf (mem_foot.2 (.inr (.inr (.inr (.inl h2)))))
      · have h3 : w3.heap.size ≤ g := h2; omega
    · exact nf (mem_foot.2 (.inr (.inr (.inr (.inr (.inl h1))))))
    · exact nf (mem_foot.2 (.inr (.inr (.inr (.inr (.inr h1)))))))
  have gl4 : g < w4.heap.size := Nat.lt_of_lt_of_le gl3 b4.size
  have kb4 : Blk w4 ps #[.slice T x.length cT, .pointer (some ⟨p, 0, none⟩), .int .i64 (made + 1), .int .i64 took, .slice V way.length cV, .int .i64 base, .slice G (gone).length cG] 108 := hS4.blk
  have OO4 : Hid (bo ∉ own V) := Lib.hid (fun hm => OO.out (mem_foot.2 (.inr (.inr (.inr (.inr (.inl hm)))))))
  clear e0 e1 e2 e3 e4 e5 e6 o0 o1 o2 o3 o4 kb3 ko3 hS3 rd3 BW3 b4 f4 hs4 hmp gl3 FF
  obtain ⟨e0, e1, e2, e3, e4, e5, e6⟩ := kb4.seven
  have ez := kb4.frozen
  go_wp2_with fail
  have hS5 := hS4.setText (some ⟨g, 0, none⟩) cap e rd4 rl2 (fun b hb => by obtain rfl := List.mem_singleton.1 hb; exact ⟨gl4, gF4.out⟩)
  have ko5 := ko4.setOther (a := ⟨ps, 0, none⟩) hpo (.slice (some ⟨g, 0, none⟩) e.length cap)
  have bs5 := But.setCell w4 ps 0 (.slice (some ⟨g, 0, none⟩) e.length cap) (bs := [ps]) (by simp)
  have BW5 := BW4.trans bs5 (fun b hb => by rw [List.mem_singleton.1 hb]; exact FF4.out ps (mem_foot.2 (.inl rfl)))
  have FF5 : Hid (∀ b ∈ Loc.foot ⟨ps, some ⟨g, 0, none⟩, cap, p, A', c', V, cV, G, cG⟩, b ∈ Loc.foot ⟨ps, T, cT, p, A, c, V, cV, G, cG⟩ ∨ w.heap.size ≤ b) := Lib.hid (fun b hb => by
    rcases mem_foot.1 hb with h1 | h1 | h1 | h1 | h1 | h1
    · exact FF4.out b (mem_foot.2 (.inl h1))
    · exact FF4.out b (mem_foot.2 (.inr (.inl h1)))
    · obtain rfl := List.mem_singleton.1 h1
      exact .inr (by omega)
    · exact FF4.out b (mem_foot.2 (.inr (.inr (.inr (.inl h1)))))
    · exact FF4.out b (mem_foot.2 (.inr (.inr (.inr (.inr (.inl h1))))))
    · exact FF4.out b (mem_foot.2 (.inr (.inr (.inr (.inr (.inr h1)))))))
  dsimp only at hS5 ko5 bs5 BW5
  clear e0 e1 e2 e3 e4 e5 e6 ez kb4 ko4 hS4 rd4 BW4 bs5 FF4 gF4 gl4 rl2
  generalize w4.setCell ⟨ps, 0, none⟩ (.slice (some ⟨g, 0, none⟩) e.length cap) = w5 at *
  have kb5 : Blk w5 ps #[.slice (some ⟨g, 0, none⟩) e.length cap, .pointer (some ⟨p, 0, none⟩), .int .i64 (made + 1), .int .i64 took, .slice V way.length cV, .int .i64 base, .slice G (gone).length cG] 108 := hS5.blk
  have HC : Hid (∀ w', Below w5.drew.heap.size w5.drew w' → (w'.cell? ⟨ps, 2, none⟩ = some (.int .i64 (made + 1)) ∧ w'.cell? ⟨ps, 3, none⟩ = some (.int .i64 took) ∧ w'.cell? ⟨ps, 4, none⟩ = some (.slice V way.length cV)) ∧ (w'.cell? ⟨bo, 0, none⟩ = some (.int .i64 1) ∧ w'.cell? ⟨bo, 1, none⟩ = some (.int .i64 NI) ∧ w'.cell? ⟨bo, 2, none⟩ = some (.int .u8 CC) ∧ w'.cell? ⟨bo, 3, none⟩ = some (.int .i64 CL) ∧ w'.cell? ⟨bo, 4, none⟩ = some (.int .i64 SQ))) := Lib.hid fun w' hb =>
    ⟨⟨(kb5.drew.on hb).cell 2, (kb5.drew.on hb).cell 3, (kb5.drew.on hb).cell 4⟩, (ko5.drew.on hb).cells5⟩
  have n4 : ps ∉ own V := hS5.psn.2.2.2.1
  refine wp_region_plan [0] [0, 1, 2, 3, 4, 5, 6, 7, 8, 9, 10, 11, 12, 13, 14] [15] [16, 17, 18, 19] (by kernel_rfl) (by kernel_rfl) (fun _ _ _ _ _ h => h) ?_
  refine take_any _ ?_ rfl (fun w' => .inl ⟨by rfl, .inl ?_⟩) ?_
  rotate_left
  · go_simp
    with_reducible rfl
  simp only [Act.put, List.setIfInBounds_toArray, List.set_cons_zero, List.set_cons_succ]
  iterate 14
    refine take_step _ ?_ rfl rfl (fun w' hb => .inl ⟨by rfl, .inl ?_⟩) ?_
    rotate_left
    · have hq := HC.out w' hb
      obtain ⟨⟨m1, m2, m3⟩, m4, m5, m6, m7, m8⟩ := hq
      go_simp
      with_reducible rfl
    simp only [Act.put, List.setIfInBounds_toArray, List.set_cons_zero, List.set_cons_succ]
  refine grow_step _ rfl (fun K hK => ?_)
  go_simp
  refine hK _ _ (below_alloc (Below.refl _ _) _) ?_
  clear hK K HC
  refine tail_of [_, _, _, _] rfl ?_
  simp only [List.getElem_toArray, List.getElem_cons_succ, List.getElem_cons_zero]
  have hS5a : SdAt (w5.alloc (.cells (parF.cells ⟨made + 1, took, ⟨1, NI, CC, CL, SQ⟩⟩).toArray 116)).drew ⟨ps, some ⟨g, 0, none⟩, cap, p, A', c', V, cV, G, cG⟩ ⟨e, q ++ [⟨made + 1, ⟨1, NI, CC, CL, SQ⟩⟩], made + 1, made + 1, took, way, base, gone⟩ f := (hS5.on (below_alloc (Below.refl _ _) _)).drew
  have BW5a := BW5.trans (But.ofBelow (bs := []) ((below_alloc (Below.refl w5.heap.size w5) (.cells (parF.cells ⟨made + 1, took, ⟨1, NI, CC, CL, SQ⟩⟩).toArray 116)).drew)) (by simp)
  go_wp2_with (first
    | (at_builtin; refine ev_appO El.par (by decide) (by decide) _ rfl _ _ 106 rfl Tryd.underlying106 V cV way [⟨made + 1, took, ⟨1, NI, CC, CL, SQ⟩⟩] ⟨w5.heap.size, 0, none⟩ way.length 1 1 rfl rfl rfl rfl hS5a.wy (Rd.drew (Blk.rdPar (Blk.new w5 _ _))) (by simp) (by simp; omega) ?_; intro V' cV' w6 ho6 b6 f6; (have hS6 := hS5a.wayTo b6 ho6 f6 (way.length + 1) (by simp)); (have kb6 := hS5a.blk.but b6 n4); (dsimp only at kb6); have ez := kb6.frozen; obtain ⟨e0, e1, e2, e3, e4, e5, e6⟩ := kb6.seven; (have BW6 := (BW5a.trans b6 (fun b hb => FF5.out b (mem_foot.2 (.inr (.inr (.inr (.inr (.inl hb)))))))).trans (But.setCell w6 ps 4 (.slice V' (way.length + 1) cV') (bs := [ps]) (by simp)) (fun b hb => by rw [List.mem_singleton.1 hb]; exact FF5.out ps (mem_foot.2 (.inl rfl)))); (have FM := Lib.hid f6); clear f6 b6 ho6; dsimp only at hS6 BW6))
  have FF6 : Hid (∀ b ∈ Loc.foot ⟨ps, some ⟨g, 0, none⟩, cap, p, A', c', V', cV', G, cG⟩, b ∈ Loc.foot ⟨ps, T, cT, p, A, c, V, cV, G, cG⟩ ∨ w.heap.size ≤ b) := Lib.hid (fun b hb => by
    rcases mem_foot.1 hb with h1 | h1 | h1 | h1 | h1 | h1
    · exact FF5.out b (mem_foot.2 (.inl h1))
    · exact FF5.out b (mem_foot.2 (.inr (.inl h1)))
    · exact FF5.out b (mem_foot.2 (.inr (.inr (.inl h1))))
    · exact FF5.out b (mem_foot.2 (.inr (.inr (.inr (.inl h1)))))
    · rcases FM.out b h1 with h2 | h2
      · exact FF5.out b (mem_foot.2 (.inr (.inr (.inr (.inr (.inl h2))))))
      · exact .inr (Nat.le_trans BW5a.size h2)
    · exact FF5.out b (mem_foot.2 (.inr (.inr (.inr (.inr (.inr h1)))))))
  clear ez kb6 e0 e1 e2 e3 e4 e5 e6 kb5 hS5 hS5a BW5 BW5a ko5 FF5 FM n4
  generalize w6.setCell ⟨ps, 4, none⟩ (.slice V' (way.length + 1) cV') = w7 at *
  have kb7 : Blk w7 ps #[.slice (some ⟨g, 0, none⟩) e.length cap, .pointer (some ⟨p, 0, none⟩), .int .i64 (made + 1), .int .i64 took, .slice V' (way ++ [(⟨made + 1, took, ⟨1, NI, CC, CL, SQ⟩⟩ : PPar)]).length cV', .int .i64 base, .slice G (gone).length cG] 108 := hS6.blk
  obtain ⟨e0, e1, e2, e3, e4, e5, e6⟩ := kb7.seven
  go_quiet ((go_at_call 53; exact Calls.quiet_of_same (last_any _ (hS6.sp.on (below_drewN (Below.refl _ _) _)))))
  go_wp2
  go_ret
  exact ⟨ret_bool (by simp), _, hS6.on (below_drewN (Below.refl _ _) _), rfl, BW6.trans (But.ofBelow (bs := []) (below_drewN (Below.refl _ _) _)) (by simp), FF6.out⟩
end Go.Proofs.YtkicbnkacjnhoaaDoor
