/- The walk of jotterlaw05.OtPieces: it answers true. -/
import Derived.Test.YtkicbnkacjnhoaaDoorSt
import Derived.Test.YtkicbnkacjnhoaaDoorOtPiece
namespace Go.Proofs.YtkicbnkacjnhoaaDoor
open Go.RowKit
set_option linter.unusedVariables false
set_option linter.unusedSimpArgs false

set_option maxHeartbeats 40000000 in
set_option maxRecDepth 100000 in
theorem pieces_any (A1 A2 A3 A4 : Option Addr) (c1 c2 c3 c4 : Nat) (a1 a2 b1 b2 : List POp) (x : POp) (f : Bool) (w : World) (hr : RulesAt w) (h1 : Rd opF w A1 a1) (h2 : Rd opF w A2 a2) (h3 : Rd opF w A3 b1) (h4 : Rd opF w A4 b2)
    (hsz : (a1.length + a2.length + b1.length + b2.length) * 40 ≤ 140737488351232) :
    Calls Tryd.prog 11 #[.agg #[.slice A1 a1.length c1, .slice A2 a2.length c2, .slice A3 b1.length c3, .slice A4 b2.length c4], .agg #[.int .i64 x.k, .int .i64 x.p, .int .u8 x.c, .int .i64 x.l, .int .i64 x.s], .bool f] w fun e w' => e = .returned (.bool true) ∧ Below w.heap.size w w' := by
  obtain ⟨ax, hax⟩ : ∃ ax, ax = a1 ++ a2 := ⟨_, rfl⟩
  obtain ⟨bx, hbx⟩ : ∃ bx, bx = b1 ++ b2 := ⟨_, rfl⟩
  have lax : Hid (ax.length = a1.length + a2.length) := Lib.hid (by rw [hax]; simp)
  have lbx : Hid (bx.length = b1.length + b2.length) := Lib.hid (by rw [hbx]; simp)
  have HAX := Lib.hid hax
  have HBX := Lib.hid hbx
  clear hax hbx
  go_enter Tryd.func11, Tryd.ntmps11
  go_wp2_with fail
  refine wp_abs ?_
  intro W hW
  have hS : St w W [(w.heap.size, #[.slice A1 a1.length c1, .slice A2 a2.length c2, .slice A3 b1.length c3, .slice A4 b2.length c4], 68), (w.heap.size + 1, #[.int .i64 x.k, .int .i64 x.p, .int .u8 x.c, .int .i64 x.l, .int .i64 x.s], 23)] [(A1, a1), (A2, a2), (A3, b1), (A4, b2)] := by
    subst hW
    exact (((((((St.start w hr).add h1).add h2).add h3).add h4).alloc _).addB (Blk.new _ _ _)).alloc _ |>.addB (by simpa using Blk.new1 w _ _ _)
  clear hW h1 h2 h3 h4 hr
  have kA := hS.blk 0 rfl
  have e0 := kA.cell 0
  have e1 := kA.cell 1
  have e2 := kA.cell 2
  have e3 := kA.cell 3
  have lA := kA.lt
  go_quiet (fail)
  replace hS := hS.drewN nq
  clear e0 e1 e2 e3 lA kA
  go_wp2_with fail
  have r1 := hS.rd 0 rfl
  have r2 := hS.rd 1 rfl
  with_reducible refine (copied_any _ _ _ _ r1 (by omega)).mono ?_
  rintro e w11 ⟨g1, hg1, rfl, o1, hb1⟩
  have hsz := hb1.size
  have hst := hS.below.size
  go_wp2_with (at_builtin; refine ev_appS El.op (by decide) (by decide) _ rfl _ _ 35 rfl Tryd.underlying35 w.heap.size (.slice (some ⟨g1, 0, none⟩) a1.length a1.length) a1 a2 A2 a2.length c2 rfl rfl rfl (o1.v (by omega)) (r2.below hb1) (by omega) (by omega) ?_; intro v w12 oV hg hv; rw [← HAX.out] at oV; obtain ⟨Aax, cax, rfl, rV⟩ := oV.rd; replace hS := (hS.step (hb1.grown hg hb1.size (fun k e => Nat.le_trans hg1 (Nat.le_of_eq (Option.some.inj e))))).add rV; clear r1 r2 o1 hb1 oV hg hv rV hsz hst)
  by_cases ha : 4096 < ax.length
  · go_wp2_with fail
    have r1 := hS.rd 2 rfl
    have r2 := hS.rd 3 rfl
    with_reducible refine (copied_any _ _ _ _ r1 (by omega)).mono ?_
    rintro e w13 ⟨g1, hg1, rfl, o1, hb1⟩
    have hsz := hb1.size
    have hst := hS.below.size
    go_wp2_with (at_builtin; refine ev_appS El.op (by decide) (by decide) _ rfl _ _ 35 rfl Tryd.underlying35 w.heap.size (.slice (some ⟨g1, 0, none⟩) b1.length b1.length) b1 b2 A4 b2.length c4 rfl rfl rfl (o1.v (by omega)) (r2.below hb1) (by omega) (by omega) ?_; intro v w14 oV hg hv; rw [← HBX.out] at oV; obtain ⟨Abx, cbx, rfl, rV⟩ := oV.rd; replace hS := (hS.step (hb1.grown hg hb1.size (fun k e => Nat.le_trans hg1 (Nat.le_of_eq (Option.some.inj e))))).add rV; clear r1 r2 o1 hb1 oV hg hv rV hsz hst)
    go_ret
    exact ⟨rfl, hS.below⟩
  by_cases hb : 4096 < bx.length
  · go_wp2_with fail
    have r1 := hS.rd 2 rfl
    have r2 := hS.rd 3 rfl
    with_reducible refine (copied_any _ _ _ _ r1 (by omega)).mono ?_
    rintro e w13 ⟨g1, hg1, rfl, o1, hb1⟩
    have hsz := hb1.size
    have hst := hS.below.size
    go_wp2_with (at_builtin; refine ev_appS El.op (by decide) (by decide) _ rfl _ _ 35 rfl Tryd.underlying35 w.heap.size (.slice (some ⟨g1, 0, none⟩) b1.length b1.length) b1 b2 A4 b2.length c4 rfl rfl rfl (o1.v (by omega)) (r2.below hb1) (by omega) (by omega) ?_; intro v w14 oV hg hv; rw [← HBX.out] at oV; obtain ⟨Abx, cbx, rfl, rV⟩ := oV.rd; replace hS := (hS.step (hb1.grown hg hb1.size (fun k e => Nat.le_trans hg1 (Nat.le_of_eq (Option.some.inj e))))).add rV; clear r1 r2 o1 hb1 oV hg hv rV hsz hst)
    go_ret
    exact ⟨rfl, hS.below⟩
  obtain ⟨n1, n2⟩ : ax.length ≤ 4096 ∧ bx.length ≤ 4096 := by omega
  clear ha hb
  have na1 : a1.length ≤ 4096 := by have := lax.out; omega
  have na2 : a2.length ≤ 4096 := by have := lax.out; omega
  have nb1 : b1.length ≤ 4096 := by have := lbx.out; omega
  have nb2 : b2.length ≤ 4096 := by have := lbx.out; omega
  go_wp2_with fail
  have r1 := hS.rd 2 rfl
  have r2 := hS.rd 3 rfl
  with_reducible refine (copied_any _ _ _ _ r1 (by omega)).mono ?_
  rintro e w13 ⟨g1, hg1, rfl, o1, hb1⟩
  have hsz := hb1.size
  have hst := hS.below.size
  go_wp2_with (at_builtin; refine ev_appS El.op (by decide) (by decide) _ rfl _ _ 35 rfl Tryd.underlying35 w.heap.size (.slice (some ⟨g1, 0, none⟩) b1.length b1.length) b1 b2 A4 b2.length c4 rfl rfl rfl (o1.v (by omega)) (r2.below hb1) (by omega) (by omega) ?_; intro v w14 oV hg hv; rw [← HBX.out] at oV; obtain ⟨Abx, cbx, rfl, rV⟩ := oV.rd; replace hS := (hS.step (hb1.grown hg hb1.size (fun k e => Nat.le_trans hg1 (Nat.le_of_eq (Option.some.inj e))))).add rV; clear r1 r2 o1 hb1 oV hg hv rV hsz hst)
  go_upto_region 6 with fail
  have hA : FiveAt w14 (w.heap.size + 1) 0 x := (hS.blk 1 rfl).cells5
  have lA := (hS.blk 1 rfl).lt
  have rL := hS.rd 4 rfl
  have hrW := hS.rules
  go_cut [13, 14, 15] from 32 to 222 (fun p q e wx => ∃ (g gm cm : Nat) (y : POp) (m : List POp), Hid (pastL x ax f = (y, m)) ∧ Hid (m.length = ax.length) ∧ p = .pointer (some ⟨g, 0, none⟩) ∧ q = .slice (some ⟨gm, 0, none⟩) m.length cm ∧ e = .int .i64 0 ∧ Blk wx g #[.int .i64 y.k, .int .i64 y.p, .int .u8 y.c, .int .i64 y.l, .int .i64 y.s] 23 ∧ Rd opF wx (some ⟨gm, 0, none⟩) m ∧ Below w14.heap.size w14 wx)
  case first =>
    go_region_held3 (fun V => (V.cell? ⟨(w.heap.size + 1), 0, none⟩ = some (.int .i64 x.k) ∧ V.cell? ⟨(w.heap.size + 1), 1, none⟩ = some (.int .i64 x.p) ∧ V.cell? ⟨(w.heap.size + 1), 2, none⟩ = some (.int .u8 x.c) ∧ V.cell? ⟨(w.heap.size + 1), 3, none⟩ = some (.int .i64 x.l) ∧ V.cell? ⟨(w.heap.size + 1), 4, none⟩ = some (.int .i64 x.s)))
      (first | (with_reducible refine five_keep hA ?_ lA; (repeat' (first | with_reducible exact Below.refl _ _ | with_reducible exact hB1 | with_reducible exact hB2 | with_reducible refine Below.drew ?_ | with_reducible refine below_alloc ?_ _ | with_reducible refine Below.setCell ?_ (by first | exact Nat.le_refl _ | exact Below.size hB1 | exact Below.size hB2) _ | fail))) | fail)
      (first
        | (go_at_call 31; (with_reducible refine (copied_any _ _ _ _ (rL.below (by (repeat' (first | with_reducible exact Below.refl _ _ | with_reducible exact hB1 | with_reducible exact hB2 | with_reducible refine Below.drew ?_ | with_reducible refine below_alloc ?_ _ | with_reducible refine Below.setCell ?_ (by first | exact Nat.le_refl _ | exact Below.size hB1 | exact Below.size hB2) _ | fail)))) (by omega)).mono ?_); rintro e w1 ⟨g1, hg1, rfl, ow1, hb⟩; (have hB1 : Below w14.heap.size w14 w1 := by first | exact (Below.refl _ _).drew.trans hb | exact (below_alloc (Below.refl _ _) _).drew.trans (hb.mono (by simp))); try (have kN := (Blk.new w14 #[.int .i64 0, .int .i64 0, .int .u8 0, .int .i64 0, .int .i64 0] 23).drew.on hb))
        | (go_at_call 30; (with_reducible refine (through_rd _ _ _ _ _ _ _ _ _ _ (hrW.on (by (repeat' (first | with_reducible exact Below.refl _ _ | with_reducible exact hB1 | with_reducible exact hB2 | with_reducible refine Below.drew ?_ | with_reducible refine below_alloc ?_ _ | with_reducible refine Below.setCell ?_ (by first | exact Nat.le_refl _ | exact Below.size hB1 | exact Below.size hB2) _ | fail)))) (by first | exact ow1.rd | exact (ow1.alloc _).rd) n1).mono ?_); rintro e w2 ⟨gm, cm, y, m, hy, hml, rfl, rm, hgm, hb2⟩; (have hB2 : Below w14.heap.size w14 w2 := by first | exact hB1.trans (hb2.mono hB1.size) | exact (below_alloc hB1 _).trans (hb2.mono (by have := hB1.size; simp; omega))); (try (have kN2 := kN.on hb2; have zn := kN2.frozen; obtain ⟨n0, n1, n2, n3, n4⟩ := kN2.cells5)); (try (have kM := (Blk.new w1 #[.int .i64 0, .int .i64 0, .int .u8 0, .int .i64 0, .int .i64 0] 23).on hb2; have zm := kM.frozen; obtain ⟨m0, m1, m2, m3, m4⟩ := kM.cells5)))
        | fail)
    · go_wp2_with fail
      go_meet
      exact ⟨w2.heap.size, gm, cm, y, m, hy, hml, rfl, rfl, rfl, Blk.new w2 _ _, rm.below (below_alloc (Below.refl _ _) _), below_alloc hB2 _⟩
    · go_wp2_with fail
      go_meet
      exact ⟨w1.heap.size, gm, cm, y, m, hy, hml, rfl, rfl, rfl, kM.set5 _ _ _ _ _, rm.grown (grown_put5 _ _ _ _ _ _ _) (fun b off e => by injection e with e; injection e with e; subst e; exact ne_some (by simp at hgm; omega)), below_put5 hB2 hB1.size _ _ _ _ _⟩
    · go_wp2_with fail
      go_meet
      exact ⟨w14.heap.size, gm, cm, y, m, hy, hml, rfl, rfl, rfl, kN2.set5 _ _ _ _ _, rm.grown (grown_put5 _ _ _ _ _ _ _) (fun b off e => by injection e with e; injection e with e; subst e; exact ne_some (by have := kN.lt; omega)), below_put5 hB2 (Nat.le_refl _) _ _ _ _ _⟩
  case rest => as_aux_lemma =>
    obtain ⟨g6, gmm6, cmm6, y6, m6, hy6, hl6, rfl, rfl, rfl, kz, rm, hX⟩ := hcut
    replace hS := ((hS.step hX).addB kz).add rm
    clear hA lA rL hrW kz rm hX
    go_upto_region 7 with fail
    have hA : FiveAt wc (w.heap.size + 1) 0 x := (hS.blk 1 rfl).cells5
    have lA := (hS.blk 1 rfl).lt
    have rL := hS.rd 0 rfl
    have hrW := hS.rules
    go_cut [16, 17, 18] from 32 to 222 (fun p q e wx => ∃ (g gm cm : Nat) (y : POp) (m : List POp), Hid (pastL x a1 f = (y, m)) ∧ Hid (m.length = a1.length) ∧ p = .pointer (some ⟨g, 0, none⟩) ∧ q = .slice (some ⟨gm, 0, none⟩) m.length cm ∧ e = .int .i64 0 ∧ Blk wx g #[.int .i64 y.k, .int .i64 y.p, .int .u8 y.c, .int .i64 y.l, .int .i64 y.s] 23 ∧ Rd opF wx (some ⟨gm, 0, none⟩) m ∧ Below wc.heap.size wc wx)
    case first =>
      go_region_held3 (fun V => (V.cell? ⟨(w.heap.size + 1), 0, none⟩ = some (.int .i64 x.k) ∧ V.cell? ⟨(w.heap.size + 1), 1, none⟩ = some (.int .i64 x.p) ∧ V.cell? ⟨(w.heap.size + 1), 2, none⟩ = some (.int .u8 x.c) ∧ V.cell? ⟨(w.heap.size + 1), 3, none⟩ = some (.int .i64 x.l) ∧ V.cell? ⟨(w.heap.size + 1), 4, none⟩ = some (.int .i64 x.s)))
        (first | (with_reducible refine five_keep hA ?_ lA; (repeat' (first | with_reducible exact Below.refl _ _ | with_reducible exact hB1 | with_reducible exact hB2 | with_reducible refine Below.drew ?_ | with_reducible refine below_alloc ?_ _ | with_reducible refine Below.setCell ?_ (by first | exact Nat.le_refl _ | exact Below.size hB1 | exact Below.size hB2) _ | fail))) | fail)
        (first
          | (go_at_call 31; (with_reducible refine (copied_any _ _ _ _ (rL.below (by (repeat' (first | with_reducible exact Below.refl _ _ | with_reducible exact hB1 | with_reducible exact hB2 | with_reducible refine Below.drew ?_ | with_reducible refine below_alloc ?_ _ | with_reducible refine Below.setCell ?_ (by first | exact Nat.le_refl _ | exact Below.size hB1 | exact Below.size hB2) _ | fail)))) (by omega)).mono ?_); rintro e w1 ⟨g1, hg1, rfl, ow1, hb⟩; (have hB1 : Below wc.heap.size wc w1 := by first | exact (Below.refl _ _).drew.trans hb | exact (below_alloc (Below.refl _ _) _).drew.trans (hb.mono (by simp))); try (have kN := (Blk.new wc #[.int .i64 0, .int .i64 0, .int .u8 0, .int .i64 0, .int .i64 0] 23).drew.on hb))
          | (go_at_call 30; (with_reducible refine (through_rd _ _ _ _ _ _ _ _ _ _ (hrW.on (by (repeat' (first | with_reducible exact Below.refl _ _ | with_reducible exact hB1 | with_reducible exact hB2 | with_reducible refine Below.drew ?_ | with_reducible refine below_alloc ?_ _ | with_reducible refine Below.setCell ?_ (by first | exact Nat.le_refl _ | exact Below.size hB1 | exact Below.size hB2) _ | fail)))) (by first | exact ow1.rd | exact (ow1.alloc _).rd) (by omega)).mono ?_); rintro e w2 ⟨gm, cm, y, m, hy, hml, rfl, rm, hgm, hb2⟩; (have hB2 : Below wc.heap.size wc w2 := by first | exact hB1.trans (hb2.mono hB1.size) | exact (below_alloc hB1 _).trans (hb2.mono (by have := hB1.size; simp; omega))); (try (have kN2 := kN.on hb2; have zn := kN2.frozen; obtain ⟨n0, n1, n2, n3, n4⟩ := kN2.cells5)); (try (have kM := (Blk.new w1 #[.int .i64 0, .int .i64 0, .int .u8 0, .int .i64 0, .int .i64 0] 23).on hb2; have zm := kM.frozen; obtain ⟨m0, m1, m2, m3, m4⟩ := kM.cells5)))
          | fail)
      · go_wp2_with fail
        go_meet
        exact ⟨w2.heap.size, gm, cm, y, m, hy, hml, rfl, rfl, rfl, Blk.new w2 _ _, rm.below (below_alloc (Below.refl _ _) _), below_alloc hB2 _⟩
      · go_wp2_with fail
        go_meet
        exact ⟨w1.heap.size, gm, cm, y, m, hy, hml, rfl, rfl, rfl, kM.set5 _ _ _ _ _, rm.grown (grown_put5 _ _ _ _ _ _ _) (fun b off e => by injection e with e; injection e with e; subst e; exact ne_some (by simp at hgm; omega)), below_put5 hB2 hB1.size _ _ _ _ _⟩
      · go_wp2_with fail
        go_meet
        exact ⟨wc.heap.size, gm, cm, y, m, hy, hml, rfl, rfl, rfl, kN2.set5 _ _ _ _ _, rm.grown (grown_put5 _ _ _ _ _ _ _) (fun b off e => by injection e with e; injection e with e; subst e; exact ne_some (by have := kN.lt; omega)), below_put5 hB2 (Nat.le_refl _) _ _ _ _ _⟩
    case rest => as_aux_lemma =>
      obtain ⟨g7, gmm7, cmm7, y7, m7, hy7, hl7, rfl, rfl, rfl, kz, rm, hX⟩ := hcut
      replace hS := ((hS.step hX).addB kz).add rm
      clear hA lA rL hrW kz rm hX
      go_upto_region 8 with fail
      have hA : FiveAt wc g7 0 y7 := (hS.blk 3 rfl).cells5
      have lA := (hS.blk 3 rfl).lt
      have rL := hS.rd 1 rfl
      have hrW := hS.rules
      go_cut [19, 20, 21] from 32 to 222 (fun p q e wx => ∃ (g gm cm : Nat) (y : POp) (m : List POp), Hid (pastL y7 a2 f = (y, m)) ∧ Hid (m.length = a2.length) ∧ p = .pointer (some ⟨g, 0, none⟩) ∧ q = .slice (some ⟨gm, 0, none⟩) m.length cm ∧ e = .int .i64 0 ∧ Blk wx g #[.int .i64 y.k, .int .i64 y.p, .int .u8 y.c, .int .i64 y.l, .int .i64 y.s] 23 ∧ Rd opF wx (some ⟨gm, 0, none⟩) m ∧ Below wc.heap.size wc wx)
      case first =>
        go_region_held3 (fun V => (V.cell? ⟨g7, 0, none⟩ = some (.int .i64 y7.k) ∧ V.cell? ⟨g7, 1, none⟩ = some (.int .i64 y7.p) ∧ V.cell? ⟨g7, 2, none⟩ = some (.int .u8 y7.c) ∧ V.cell? ⟨g7, 3, none⟩ = some (.int .i64 y7.l) ∧ V.cell? ⟨g7, 4, none⟩ = some (.int .i64 y7.s)))
          (first | (with_reducible refine five_keep hA ?_ lA; (repeat' (first | with_reducible exact Below.refl _ _ | with_reducible exact hB1 | with_reducible exact hB2 | with_reducible refine Below.drew ?_ | with_reducible refine below_alloc ?_ _ | with_reducible refine Below.setCell ?_ (by first | exact Nat.le_refl _ | exact Below.size hB1 | exact Below.size hB2) _ | fail))) | fail)
          (first
            | (go_at_call 31; (with_reducible refine (copied_any _ _ _ _ (rL.below (by (repeat' (first | with_reducible exact Below.refl _ _ | with_reducible exact hB1 | with_reducible exact hB2 | with_reducible refine Below.drew ?_ | with_reducible refine below_alloc ?_ _ | with_reducible refine Below.setCell ?_ (by first | exact Nat.le_refl _ | exact Below.size hB1 | exact Below.size hB2) _ | fail)))) (by omega)).mono ?_); rintro e w1 ⟨g1, hg1, rfl, ow1, hb⟩; (have hB1 : Below wc.heap.size wc w1 := by first | exact (Below.refl _ _).drew.trans hb | exact (below_alloc (Below.refl _ _) _).drew.trans (hb.mono (by simp))); try (have kN := (Blk.new wc #[.int .i64 0, .int .i64 0, .int .u8 0, .int .i64 0, .int .i64 0] 23).drew.on hb))
            | (go_at_call 30; (with_reducible refine (through_rd _ _ _ _ _ _ _ _ _ _ (hrW.on (by (repeat' (first | with_reducible exact Below.refl _ _ | with_reducible exact hB1 | with_reducible exact hB2 | with_reducible refine Below.drew ?_ | with_reducible refine below_alloc ?_ _ | with_reducible refine Below.setCell ?_ (by first | exact Nat.le_refl _ | exact Below.size hB1 | exact Below.size hB2) _ | fail)))) (by first | exact ow1.rd | exact (ow1.alloc _).rd) (by omega)).mono ?_); rintro e w2 ⟨gm, cm, y, m, hy, hml, rfl, rm, hgm, hb2⟩; (have hB2 : Below wc.heap.size wc w2 := by first | exact hB1.trans (hb2.mono hB1.size) | exact (below_alloc hB1 _).trans (hb2.mono (by have := hB1.size; simp; omega))); (try (have kN2 := kN.on hb2; have zn := kN2.frozen; obtain ⟨n0, n1, n2, n3, n4⟩ := kN2.cells5)); (try (have kM := (Blk.new w1 #[.int .i64 0, .int .i64 0, .int .u8 0, .int .i64 0, .int .i64 0] 23).on hb2; have zm := kM.frozen; obtain ⟨m0, m1, m2, m3, m4⟩ := kM.cells5)))
            | fail)
        · go_wp2_with fail
          go_meet
          exact ⟨w2.heap.size, gm, cm, y, m, hy, hml, rfl, rfl, rfl, Blk.new w2 _ _, rm.below (below_alloc (Below.refl _ _) _), below_alloc hB2 _⟩
        · go_wp2_with fail
          go_meet
          exact ⟨w1.heap.size, gm, cm, y, m, hy, hml, rfl, rfl, rfl, kM.set5 _ _ _ _ _, rm.grown (grown_put5 _ _ _ _ _ _ _) (fun b off e => by injection e with e; injection e with e; subst e; exact ne_some (by simp at hgm; omega)), below_put5 hB2 hB1.size _ _ _ _ _⟩
        · go_wp2_with fail
          go_meet
          exact ⟨wc.heap.size, gm, cm, y, m, hy, hml, rfl, rfl, rfl, kN2.set5 _ _ _ _ _, rm.grown (grown_put5 _ _ _ _ _ _ _) (fun b off e => by injection e with e; injection e with e; subst e; exact ne_some (by have := kN.lt; omega)), below_put5 hB2 (Nat.le_refl _) _ _ _ _ _⟩
      case rest => as_aux_lemma =>
        obtain ⟨g8, gmm8, cmm8, y8, m8, hy8, hl8, rfl, rfl, rfl, kz, rm, hX⟩ := hcut
        replace hS := ((hS.step hX).addB kz).add rm
        clear hA lA rL hrW kz rm hX
        have hap := pastL_append f a2 a1 x
        rw [← HAX.out] at hap
        have e6 : pastL x ax f = (y6, m6) := hy6.out
        have e7 : pastL x a1 f = (y7, m7) := hy7.out
        have e8 : pastL y7 a2 f = (y8, m8) := hy8.out
        rw [e6, e7] at hap
        simp only [e8] at hap
        obtain ⟨rfl, hm6⟩ : y6 = y8 ∧ m6 = m7 ++ m8 := ⟨congrArg Prod.fst hap, congrArg Prod.snd hap⟩
        have hq := opEq_eta2 y6
        have HM6 := Lib.hid hm6
        have qa : ((m6.length : Int) != ax.length) = false := by have := hl6.out; simp [this]
        have hm7 : m7.length ≤ 4096 := by have := hl7.out; omega
        have hm8 : m8.length ≤ 4096 := by have := hl8.out; omega
        have hm6l : m6.length ≤ 9223372036854775807 := by have := hl6.out; omega
        clear hap e6 e7 e8 hm6
        obtain ⟨e0, e1, e2, e3, e4⟩ := (hS.blk 2 rfl).cells5
        obtain ⟨f0, f1, f2, f3, f4⟩ := (hS.blk 4 rfl).cells5
        go_wp2_with fail
        with_reducible refine (num_any _ _).mono ?_
        rintro e wz ⟨rfl, hwz⟩; subst wz
        go_wp2_with fail
        with_reducible refine (num_any _ _).mono ?_
        rintro e wz ⟨rfl, hwz⟩; subst wz
        go_wp2_with fail
        with_reducible refine (num_any _ _).mono ?_
        rintro e wz ⟨rfl, hwz⟩; subst wz
        go_wp2_with fail
        have r1 := hS.rd 7 rfl
        have r2 := hS.rd 8 rfl
        with_reducible refine (copied_any _ _ _ _ r1 (by omega)).mono ?_
        rintro e w15 ⟨g1, hg1, rfl, o1, hb1⟩
        have hsz := hb1.size
        have hst := hS.below.size
        go_wp2_with (at_builtin; refine ev_unguard rfl ?_; refine ev_appS El.op (by decide) (by decide) _ rfl _ _ 35 rfl Tryd.underlying35 w.heap.size (.slice (some ⟨g1, 0, none⟩) m7.length m7.length) m7 m8 (some ⟨gmm8, 0, none⟩) m8.length cmm8 rfl rfl rfl (o1.v (by omega)) (r2.below hb1) (by omega) (by omega) ?_; intro v w16 oV hg hv; rw [← HM6.out] at oV; obtain ⟨Am6, cm6, rfl, rV⟩ := oV.rd; replace hS := (hS.step (hb1.grown hg hb1.size (fun k e => Nat.le_trans hg1 (Nat.le_of_eq (Option.some.inj e))))).add rV; clear r1 r2 o1 hb1 oV hg hv rV hsz hst)
        clear e0 e1 e2 e3 e4 f0 f1 f2 f3 f4 hq qa
        go_wp2_with fail
        have r1 := hS.rd 6 rfl
        have r2 := hS.rd 9 rfl
        with_reducible refine (sameLine_yes _ _ _ _ _ _ r1 r2 hm6l).mono ?_
        rintro e w17 ⟨rfl, n, rfl⟩
        replace hS := hS.drewN n
        clear r1 r2
        clear hm7 hm8 hm6l HM6 hy6 hy7 hy8 hl6 hl7 hl8
        go_upto_region 11 with fail
        refine wp_abs ?_
        intro Wn hWn
        rw [← hWn] at hS
        clear hWn
        have r1 := hS.rd 4 rfl
        have r2 := hS.rd 5 rfl
        have hrW := hS.rules
        go_cut [22, 23, 15] from 32 to 222 (fun p q e wx => ∃ (A A' : Option Addr) (c c' : Nat) (ls out : List POp), Hid (weaveL ax bx = (ls, out)) ∧ Hid (ls.length = ax.length ∧ out.length = bx.length) ∧ p = .slice A ls.length c ∧ q = .slice A' out.length c' ∧ e = .int .i64 0 ∧ Rd opF wx A ls ∧ Rd opF wx A' out ∧ Below Wn.heap.size Wn wx)
        case first =>
          go_wp2_with fail
          with_reducible refine (copied_any _ _ _ _ r1 (by omega)).mono ?_
          rintro e wa ⟨g1, hg1, rfl, o1, hb1⟩
          go_wp2_with fail
          with_reducible refine (copied_any _ _ _ _ (r2.below hb1) (by omega)).mono ?_
          rintro e wb ⟨g2, hg2, rfl, o2, hb2⟩
          have o12 := o1.on hb2
          have hb12 := hb1.trans (hb2.mono hb1.size)
          go_wp2_with fail
          with_reducible refine (weave_rd _ _ _ _ _ _ _ (hrW.on hb12) o12.rd o2.rd n1 n2).mono ?_
          rintro e wc' ⟨Ax, Ay, cx, cy, ls, out, hq, hl, rfl, rp, rq, hb3⟩
          go_wp2_with fail
          go_meet
          exact ⟨Ax, Ay, cx, cy, ls, out, hq, hl, rfl, rfl, rfl, rp, rq, hb12.trans (hb3.mono hb12.size)⟩
        case rest => as_aux_lemma =>
          obtain ⟨Ap, Aq, cp, cq, p, q, hpq, hlpq, rfl, rfl, rfl, rp, rq, hb3⟩ := hcut
          replace hS := ((hS.step hb3).add rp).add rq
          clear r1 r2 hrW hb3 rp rq
          have qb : ((p.length : Int) != ax.length) = false := by have := hlpq.out.1; simp [this]
          have qc : ((q.length : Int) != bx.length) = false := by have := hlpq.out.2; simp [this]
          go_wp2_with fail
          with_reducible refine (num_any _ _).mono ?_
          rintro e wz ⟨rfl, hwz⟩; subst wz
          go_upto_region 14 with fail
          refine wp_abs ?_
          intro Wn hWn
          rw [← hWn] at hS
          clear hWn
          have r1 := hS.rd 4 rfl
          have r2 := hS.rd 2 rfl
          have hrW := hS.rules
          go_cut [24, 25, 18] from 32 to 222 (fun p q e wx => ∃ (A A' : Option Addr) (c c' : Nat) (ls out : List POp), Hid (weaveL ax b1 = (ls, out)) ∧ Hid (ls.length = ax.length ∧ out.length = b1.length) ∧ p = .slice A ls.length c ∧ q = .slice A' out.length c' ∧ e = .int .i64 0 ∧ Rd opF wx A ls ∧ Rd opF wx A' out ∧ Below Wn.heap.size Wn wx)
          case first =>
            go_wp2_with fail
            with_reducible refine (copied_any _ _ _ _ r1 (by omega)).mono ?_
            rintro e wa ⟨g1, hg1, rfl, o1, hb1⟩
            go_wp2_with fail
            with_reducible refine (copied_any _ _ _ _ (r2.below hb1) (by omega)).mono ?_
            rintro e wb ⟨g2, hg2, rfl, o2, hb2⟩
            have o12 := o1.on hb2
            have hb12 := hb1.trans (hb2.mono hb1.size)
            go_wp2_with fail
            with_reducible refine (weave_rd _ _ _ _ _ _ _ (hrW.on hb12) o12.rd o2.rd n1 (by omega)).mono ?_
            rintro e wc' ⟨Ax, Ay, cx, cy, ls, out, hq, hl, rfl, rp, rq, hb3⟩
            go_wp2_with fail
            go_meet
            exact ⟨Ax, Ay, cx, cy, ls, out, hq, hl, rfl, rfl, rfl, rp, rq, hb12.trans (hb3.mono hb12.size)⟩
          case rest => as_aux_lemma =>
            obtain ⟨Ap1, Aq1, cp1, cq1, p1, q1, hpq1, hlpq1, rfl, rfl, rfl, rp, rq, hb3⟩ := hcut
            replace hS := ((hS.step hb3).add rp).add rq
            clear r1 r2 hrW hb3 rp rq
            have hp1 : p1.length ≤ 4096 := by have := hlpq1.out.1; omega
            go_upto_region 15 with fail
            refine wp_abs ?_
            intro Wn hWn
            rw [← hWn] at hS
            clear hWn
            have r1 := hS.rd 12 rfl
            have r2 := hS.rd 3 rfl
            have hrW := hS.rules
            go_cut [26, 27, 21] from 32 to 222 (fun p q e wx => ∃ (A A' : Option Addr) (c c' : Nat) (ls out : List POp), Hid (weaveL p1 b2 = (ls, out)) ∧ Hid (ls.length = p1.length ∧ out.length = b2.length) ∧ p = .slice A ls.length c ∧ q = .slice A' out.length c' ∧ e = .int .i64 0 ∧ Rd opF wx A ls ∧ Rd opF wx A' out ∧ Below Wn.heap.size Wn wx)
            case first =>
              go_wp2_with fail
              with_reducible refine (copied_any _ _ _ _ r1 (by omega)).mono ?_
              rintro e wa ⟨g1, hg1, rfl, o1, hb1⟩
              go_wp2_with fail
              with_reducible refine (copied_any _ _ _ _ (r2.below hb1) (by omega)).mono ?_
              rintro e wb ⟨g2, hg2, rfl, o2, hb2⟩
              have o12 := o1.on hb2
              have hb12 := hb1.trans (hb2.mono hb1.size)
              go_wp2_with fail
              with_reducible refine (weave_rd _ _ _ _ _ _ _ (hrW.on hb12) o12.rd o2.rd hp1 (by omega)).mono ?_
              rintro e wc' ⟨Ax, Ay, cx, cy, ls, out, hq, hl, rfl, rp, rq, hb3⟩
              go_wp2_with fail
              go_meet
              exact ⟨Ax, Ay, cx, cy, ls, out, hq, hl, rfl, rfl, rfl, rp, rq, hb12.trans (hb3.mono hb12.size)⟩
            case rest => as_aux_lemma =>
              obtain ⟨Ap2, Aq2, cp2, cq2, p2, q2, hpq2, hlpq2, rfl, rfl, rfl, rp, rq, hb3⟩ := hcut
              replace hS := ((hS.step hb3).add rp).add rq
              clear r1 r2 hrW hb3 rp rq
              have hw := weaveL_append b2 b1 ax
              rw [← HBX.out, hpq.out, hpq1.out] at hw
              simp only [hpq2.out] at hw
              obtain ⟨rfl, hqq⟩ : p = p2 ∧ q = q1 ++ q2 := ⟨congrArg Prod.fst hw, congrArg Prod.snd hw⟩
              have HQQ := Lib.hid hqq
              have hpl : p.length ≤ 9223372036854775807 := by have := hlpq.out.1; omega
              have hql : q.length ≤ 9223372036854775807 := by have := hlpq.out.2; omega
              have hq1l : q1.length ≤ 4096 := by have := hlpq1.out.2; omega
              have hq2l : q2.length ≤ 4096 := by have := hlpq2.out.2; omega
              clear hw hqq qb qc
              go_wp2_with fail
              with_reducible refine (num_any _ _).mono ?_
              rintro e wz ⟨rfl, hwz⟩; subst wz
              go_wp2_with fail
              with_reducible refine (num_any _ _).mono ?_
              rintro e wz ⟨rfl, hwz⟩; subst wz
              go_wp2_with fail
              have r1 := hS.rd 10 rfl
              have r2 := hS.rd 14 rfl
              with_reducible refine (sameLine_yes _ _ _ _ _ _ r1 r2 hpl).mono ?_
              rintro e w18 ⟨rfl, n, rfl⟩
              replace hS := hS.drewN n
              clear r1 r2
              go_wp2_with fail
              have r1 := hS.rd 13 rfl
              have r2 := hS.rd 15 rfl
              with_reducible refine (copied_any _ _ _ _ r1 (by omega)).mono ?_
              rintro e w19 ⟨g1, hg1, rfl, o1, hb1⟩
              have hsz := hb1.size
              have hst := hS.below.size
              go_wp2_with (at_builtin; refine ev_unguard rfl ?_; refine ev_appS El.op (by decide) (by decide) _ rfl _ _ 35 rfl Tryd.underlying35 w.heap.size (.slice (some ⟨g1, 0, none⟩) q1.length q1.length) q1 q2 Aq2 q2.length cq2 rfl rfl rfl (o1.v (by omega)) (r2.below hb1) (by omega) (by omega) ?_; intro v w20 oV hg hv; rw [← HQQ.out] at oV; obtain ⟨Aq, cq, rfl, rV⟩ := oV.rd; replace hS := (hS.step (hb1.grown hg hb1.size (fun k e => Nat.le_trans hg1 (Nat.le_of_eq (Option.some.inj e))))).add rV; clear r1 r2 o1 hb1 oV hg hv rV hsz hst)
              go_wp2_with fail
              have r1 := hS.rd 11 rfl
              have r2 := hS.rd 16 rfl
              with_reducible refine (sameLine_yes _ _ _ _ _ _ r1 r2 hql).mono ?_
              rintro e w21 ⟨rfl, n, rfl⟩
              replace hS := hS.drewN n
              clear r1 r2
              clear hpq1 hpq2 hlpq1 hlpq2 hq1l hq2l hp1 HQQ
              go_upto_region 18 with fail
              refine wp_abs ?_
              intro Wn hWn
              rw [← hWn] at hS
              clear hWn
              have r1 := hS.rd 0 rfl
              have r2 := hS.rd 5 rfl
              have hrW := hS.rules
              go_cut [28, 29, 18] from 32 to 222 (fun p q e wx => ∃ (A A' : Option Addr) (c c' : Nat) (ls out : List POp), Hid (weaveL a1 bx = (ls, out)) ∧ Hid (ls.length = a1.length ∧ out.length = bx.length) ∧ p = .slice A ls.length c ∧ q = .slice A' out.length c' ∧ e = .int .i64 0 ∧ Rd opF wx A ls ∧ Rd opF wx A' out ∧ Below Wn.heap.size Wn wx)
              case first =>
                go_wp2_with fail
                with_reducible refine (copied_any _ _ _ _ r1 (by omega)).mono ?_
                rintro e wa ⟨g1, hg1, rfl, o1, hb1⟩
                go_wp2_with fail
                with_reducible refine (copied_any _ _ _ _ (r2.below hb1) (by omega)).mono ?_
                rintro e wb ⟨g2, hg2, rfl, o2, hb2⟩
                have o12 := o1.on hb2
                have hb12 := hb1.trans (hb2.mono hb1.size)
                go_wp2_with fail
                with_reducible refine (weave_rd _ _ _ _ _ _ _ (hrW.on hb12) o12.rd o2.rd (by omega) n2).mono ?_
                rintro e wc' ⟨Ax, Ay, cx, cy, ls, out, hq, hl, rfl, rp, rq, hb3⟩
                go_wp2_with fail
                go_meet
                exact ⟨Ax, Ay, cx, cy, ls, out, hq, hl, rfl, rfl, rfl, rp, rq, hb12.trans (hb3.mono hb12.size)⟩
              case rest => as_aux_lemma =>
                obtain ⟨Ar1_, As1_, cr1_, cs1_, r1_, s1_, hrs1, hlrs1, rfl, rfl, rfl, rp, rq, hb3⟩ := hcut
                replace hS := ((hS.step hb3).add rp).add rq
                clear r1 r2 hrW hb3 rp rq
                have hs1 : s1_.length ≤ 4096 := by have := hlrs1.out.2; omega
                go_upto_region 19 with fail
                refine wp_abs ?_
                intro Wn hWn
                rw [← hWn] at hS
                clear hWn
                have r1 := hS.rd 1 rfl
                have r2 := hS.rd 18 rfl
                have hrW := hS.rules
                go_cut [30, 31, 21] from 32 to 222 (fun p q e wx => ∃ (A A' : Option Addr) (c c' : Nat) (ls out : List POp), Hid (weaveL a2 s1_ = (ls, out)) ∧ Hid (ls.length = a2.length ∧ out.length = s1_.length) ∧ p = .slice A ls.length c ∧ q = .slice A' out.length c' ∧ e = .int .i64 0 ∧ Rd opF wx A ls ∧ Rd opF wx A' out ∧ Below Wn.heap.size Wn wx)
                case first =>
                  go_wp2_with fail
                  with_reducible refine (copied_any _ _ _ _ r1 (by omega)).mono ?_
                  rintro e wa ⟨g1, hg1, rfl, o1, hb1⟩
                  go_wp2_with fail
                  with_reducible refine (copied_any _ _ _ _ (r2.below hb1) (by omega)).mono ?_
                  rintro e wb ⟨g2, hg2, rfl, o2, hb2⟩
                  have o12 := o1.on hb2
                  have hb12 := hb1.trans (hb2.mono hb1.size)
                  go_wp2_with fail
                  with_reducible refine (weave_rd _ _ _ _ _ _ _ (hrW.on hb12) o12.rd o2.rd (by omega) hs1).mono ?_
                  rintro e wc' ⟨Ax, Ay, cx, cy, ls, out, hq, hl, rfl, rp, rq, hb3⟩
                  go_wp2_with fail
                  go_meet
                  exact ⟨Ax, Ay, cx, cy, ls, out, hq, hl, rfl, rfl, rfl, rp, rq, hb12.trans (hb3.mono hb12.size)⟩
                case rest => as_aux_lemma =>
                  obtain ⟨Ar2_, As2_, cr2_, cs2_, r2_, s2_, hrs2, hlrs2, rfl, rfl, rfl, rp, rq, hb3⟩ := hcut
                  replace hS := ((hS.step hb3).add rp).add rq
                  clear r1 r2 hrW hb3 rp rq
                  have hw := weaveL_append_left a1 a2 bx
                  rw [← HAX.out, hpq.out, hrs1.out] at hw
                  simp only [hrs2.out] at hw
                  obtain ⟨hpp, rfl⟩ : p = r1_ ++ r2_ ∧ q = s2_ := ⟨congrArg Prod.fst hw, congrArg Prod.snd hw⟩
                  have HPP := Lib.hid hpp
                  have hr1l : r1_.length ≤ 4096 := by have := hlrs1.out.1; omega
                  have hr2l : r2_.length ≤ 4096 := by have := hlrs2.out.1; omega
                  clear hw hpp
                  go_wp2_with fail
                  with_reducible refine (num_any _ _).mono ?_
                  rintro e wz ⟨rfl, hwz⟩; subst wz
                  go_wp2_with fail
                  with_reducible refine (num_any _ _).mono ?_
                  rintro e wz ⟨rfl, hwz⟩; subst wz
                  go_wp2_with fail
                  have r1 := hS.rd 11 rfl
                  have r2 := hS.rd 20 rfl
                  with_reducible refine (sameLine_yes _ _ _ _ _ _ r1 r2 hql).mono ?_
                  rintro e w22 ⟨rfl, n, rfl⟩
                  replace hS := hS.drewN n
                  clear r1 r2
                  go_wp2_with fail
                  have r1 := hS.rd 17 rfl
                  have r2 := hS.rd 19 rfl
                  with_reducible refine (copied_any _ _ _ _ r1 (by omega)).mono ?_
                  rintro e w23 ⟨g1, hg1, rfl, o1, hb1⟩
                  have hsz := hb1.size
                  have hst := hS.below.size
                  go_wp2_with (at_builtin; refine ev_unguard rfl ?_; refine ev_appS El.op (by decide) (by decide) _ rfl _ _ 35 rfl Tryd.underlying35 w.heap.size (.slice (some ⟨g1, 0, none⟩) r1_.length r1_.length) r1_ r2_ Ar2_ r2_.length cr2_ rfl rfl rfl (o1.v (by omega)) (r2.below hb1) (by omega) (by omega) ?_; intro v w24 oV hg hv; rw [← HPP.out] at oV; obtain ⟨Ap, cp, rfl, rV⟩ := oV.rd; replace hS := (hS.step (hb1.grown hg hb1.size (fun k e => Nat.le_trans hg1 (Nat.le_of_eq (Option.some.inj e))))).add rV; clear r1 r2 o1 hb1 oV hg hv rV hsz hst)
                  go_wp2_with fail
                  have r1 := hS.rd 10 rfl
                  have r2 := hS.rd 21 rfl
                  with_reducible refine (sameLine_yes _ _ _ _ _ _ r1 r2 hpl).mono ?_
                  rintro e w25 ⟨rfl, n, rfl⟩
                  replace hS := hS.drewN n
                  clear r1 r2
                  go_wp2
                  go_ret
                  exact ⟨rfl, hS.below⟩

end Go.Proofs.YtkicbnkacjnhoaaDoor
