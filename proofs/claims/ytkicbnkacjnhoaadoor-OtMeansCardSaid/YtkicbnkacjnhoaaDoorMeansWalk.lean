/- The walk of jotterlaw05.OtMeans: it answers true. -/
import Derived.Test.YtkicbnkacjnhoaaDoorMeant
namespace Go.Proofs.YtkicbnkacjnhoaaDoor
open Go.RowKit
set_option linter.unusedVariables false
set_option linter.unusedSimpArgs false

theorem tagged_mem {i j : Nat} {t : List PEl} (h : Tagged i j t) : ∀ z ∈ t, z.l = 1 ∨ (z.l = 2 ∧ z.s ≤ i) ∨ (z.l = 3 ∧ z.s ≤ j) := h.2
theorem tagged_nd {i j : Nat} {t : List PEl} (h : Tagged i j t) : t.Nodup := h.1
theorem del_gone {t : List PEl} {q : Nat} {z : PEl} (nd : t.Nodup) (hq : t[q]? = some z) : z ∉ del t q := fun h => by
  obtain ⟨j, hj, hjz⟩ := List.getElem_of_mem h
  have hj2 : (del t q)[j]? = some z := by rw [List.getElem?_eq_getElem hj, hjz]
  rcases Nat.lt_or_ge j q with hc | hc
  · rw [del_get_lo t q j hc] at hj2
    have := nodup_idx nd hq hj2
    omega
  · rw [del_get_hi t q j hc] at hj2
    have := nodup_idx nd hq hj2
    omega

set_option maxHeartbeats 4000000 in
set_option maxRecDepth 100000 in
theorem means_any (nn : Int) (m0 : Bool) (m1 m2 : Int) (A2 : Option Addr) (c2 : Nat) (ys : List PMv) (w : World) (hr : RulesAt w) (h2 : Rd moveF w A2 ys) (z2 : ys.length * 24 ≤ 140737488351232) :
    Calls Tryd.prog 7 #[.int .i64 nn, .agg #[.bool m0, .int .i64 m1, .int .u8 m2], .slice A2 ys.length c2] w fun e w' => e = .returned (.bool true) ∧ Below w.heap.size w w' := by
  go_enter Tryd.func7, Tryd.ntmps7
  go_wp2_with fail
  with_reducible refine (bounded_any _ _).mono ?_
  rintro e w0 ⟨n, hn, rfl, hw⟩
  subst w0
  go_wp2_with fail
  with_reducible refine (text_rd n _ hn).mono ?_
  rintro e w1 ⟨Ad, cd, d, hdl, hdc, htag, hone, rfl, hOd, b1⟩
  have hdl' := hdl.out
  clear hdl
  subst hdl'
  have B1 := (below_alloc (Below.refl w.heap.size w) _).trans (b1.mono (by simp))
  have hE := (Els.nil w1).add hOd
  have kM := (Blk.new w #[.bool m0, .int .i64 m1, .int .u8 m2] 53).on b1
  clear hOd b1
  obtain ⟨x0, x1, x2, hx⟩ := kM.three
  go_wp2_with fail
  with_reducible refine (made_any _ _ _ d.length _ _ _ (by omega)).mono ?_
  rintro e w2 ⟨⟨ak, ap, ac, al, as'⟩, hfit, rfl, b2⟩
  obtain ⟨g1, g2, g3⟩ := hfit
  simp only at g1 g2 g3
  subst g1 g2
  have B2 := B1.trans (b2.mono B1.size)
  replace hE := hE.on b2
  clear x0 x1 x2 hx kM b2 B1
  rcases g3 with ⟨rfl, p, rfl, hp⟩ | ⟨rfl, p, rfl, hp⟩
  · go_wp2_with fail
    with_reducible refine (line_any _ _ _ d.length 3 _ (h2.below (below_alloc B2 _)) hn z2).mono ?_
    rintro e w3 ⟨gb, cb, mb, vs, rfl, hlb, hfb, hOb, hgb, b3⟩
    have kA := (Blk.new w2 #[.int .i64 2, .int .i64 (p : Int), .int .u8 ac, .int .i64 2, .int .i64 1] 23).on b3
    have B3 := (below_alloc B2 (.cells #[.int .i64 2, .int .i64 (p : Int), .int .u8 ac, .int .i64 2, .int .i64 1] 23)).trans (b3.mono (by have := B2.size; simp; omega))
    replace hE := hE.on ((below_alloc (Below.refl w2.heap.size w2) (.cells #[.int .i64 2, .int .i64 (p : Int), .int .u8 ac, .int .i64 2, .int .i64 1] 23)).trans (b3.mono (by simp)))
    have rB := hOb.rd
    have lb : vs.length * 24 ≤ 140737488351232 := by have := hlb.out; omega
    have hplain : Hid (∃ e : List PEl, runL d vs = some e ∧ Tagged 0 vs.length e) := by
      obtain ⟨e, he, hel⟩ := LineFits.run hfb.out (d := d) rfl
      have := (run_old3 vs 0 htag.out hfb.out.numbered he).1
      rw [Nat.zero_add] at this
      exact ⟨e, he, this⟩
    obtain ⟨t, ht, htt⟩ := hplain.out
    have Ht := Lib.hid ht
    have Htt := Lib.hid htt
    have lt : t.length ≤ d.length + vs.length := runL_length _ ht
    clear hplain ht htt hOb hgb b3 B2 hlb
    go_wp2_with fail
    with_reducible refine (run_any _ _ _ _ _ t _ _ (hE.rd 0 rfl) rB hdc.out (by omega) Ht.out).mono ?_
    rintro e w4 ⟨At, ct, rfl, rr, hct, b4⟩
    have HCt := Lib.hid hct
    replace hE := (hE.on b4).add rr
    have B4 := B3.trans (b4.mono B3.size)
    replace rB := rB.below b4
    replace kA := kA.on b4
    clear rr b4 B3 hct
    by_cases hlong : 4096 < vs.length
    · go_wp2
      go_ret
      exact ⟨rfl, B4⟩
    have n2 : vs.length ≤ 4096 := by omega
    clear hlong
    go_wp2_with fail
    go_loopw [12] (fun i wr => (i = .int .i64 0 ∨ i = .int .i64 1 ∨ i = .int .i64 2) ∧ Els wr [(Ad, d), (At, t)] ∧ Rd opF wr (some ⟨gb, 0, none⟩) vs ∧ Blk wr w2.heap.size #[.int .i64 2, .int .i64 (p : Int), .int .u8 ac, .int .i64 2, .int .i64 1] 23 ∧ Below w.heap.size w wr) (fun i wr => 2 - (intOf i).toNat)
    case atStart => exact ⟨.inl rfl, hE, rB, kA, B4⟩
    case round =>
      clear hE rB kA B4
      obtain ⟨hi, hE, rB, kA, hB⟩ := hrel
      rcases hi with rfl | rfl | rfl
      · go_upto_region 11 with fail
        have hA : (wr.cell? ⟨w2.heap.size, 0, none⟩ = some (.int .i64 2) ∧ wr.cell? ⟨w2.heap.size, 1, none⟩ = some (.int .i64 (p : Int)) ∧ wr.cell? ⟨w2.heap.size, 2, none⟩ = some (.int .u8 ac) ∧ wr.cell? ⟨w2.heap.size, 3, none⟩ = some (.int .i64 2) ∧ wr.cell? ⟨w2.heap.size, 4, none⟩ = some (.int .i64 1)) := kA.cells5
        have hA : FiveAt wr w2.heap.size 0 ⟨2, (p : Int), ac, 2, 1⟩ := hA
        have lA := kA.lt
        have rL := rB
        have hrW := hr.on hB
        go_cut [13, 14, 15] from 45 to 152 (fun pv qv ev wx => ∃ (g gm cm : Nat) (y : POp) (m : List POp), Hid (pastL ⟨2, (p : Int), ac, 2, 1⟩ vs false = (y, m)) ∧ pv = .pointer (some ⟨g, 0, none⟩) ∧ qv = .slice (some ⟨gm, 0, none⟩) m.length cm ∧ ev = .int .i64 0 ∧ Blk wx g #[.int .i64 y.k, .int .i64 y.p, .int .u8 y.c, .int .i64 y.l, .int .i64 y.s] 23 ∧ Below wr.heap.size wr wx)
        case first =>
          go_region_held3 (fun V => (V.cell? ⟨w2.heap.size, 0, none⟩ = some (.int .i64 2) ∧ V.cell? ⟨w2.heap.size, 1, none⟩ = some (.int .i64 (p : Int)) ∧ V.cell? ⟨w2.heap.size, 2, none⟩ = some (.int .u8 ac) ∧ V.cell? ⟨w2.heap.size, 3, none⟩ = some (.int .i64 2) ∧ V.cell? ⟨w2.heap.size, 4, none⟩ = some (.int .i64 1)))
            (first | (with_reducible refine five_keep hA ?_ lA; (repeat' (first | with_reducible exact Below.refl _ _ | with_reducible exact hB1 | with_reducible exact hB2 | with_reducible refine Below.drew ?_ | with_reducible refine below_alloc ?_ _ | with_reducible refine Below.setCell ?_ (by first | exact Nat.le_refl _ | exact Below.size hB1 | exact Below.size hB2) _ | fail))) | fail)
            (first
              | (go_at_call 31; (with_reducible refine (copied_any _ _ _ _ (rL.below (by (repeat' (first | with_reducible exact Below.refl _ _ | with_reducible exact hB1 | with_reducible exact hB2 | with_reducible refine Below.drew ?_ | with_reducible refine below_alloc ?_ _ | with_reducible refine Below.setCell ?_ (by first | exact Nat.le_refl _ | exact Below.size hB1 | exact Below.size hB2) _ | fail)))) (by omega)).mono ?_); rintro e w1 ⟨g1, hg1, rfl, ow1, hb⟩; (have hB1 : Below wr.heap.size wr w1 := by first | exact (Below.refl _ _).drew.trans hb | exact (below_alloc (Below.refl _ _) _).drew.trans (hb.mono (by simp))); try (have kN := (Blk.new wr #[.int .i64 0, .int .i64 0, .int .u8 0, .int .i64 0, .int .i64 0] 23).drew.on hb))
              | (go_at_call 30; (with_reducible refine (through_rd _ _ _ _ _ _ _ _ _ _ (hrW.on (by (repeat' (first | with_reducible exact Below.refl _ _ | with_reducible exact hB1 | with_reducible exact hB2 | with_reducible refine Below.drew ?_ | with_reducible refine below_alloc ?_ _ | with_reducible refine Below.setCell ?_ (by first | exact Nat.le_refl _ | exact Below.size hB1 | exact Below.size hB2) _ | fail)))) (by first | exact ow1.rd | exact (ow1.alloc _).rd) n2).mono ?_); rintro e w2 ⟨gm, cm, y, m, hy, hml, rfl, rm, hgm, hb2⟩; (have hB2 : Below wr.heap.size wr w2 := by first | exact hB1.trans (hb2.mono hB1.size) | exact (below_alloc hB1 _).trans (hb2.mono (by have := hB1.size; simp; omega))); (try (have kN2 := kN.on hb2; have zn := kN2.frozen; obtain ⟨n0, n1, n2, n3, n4⟩ := kN2.cells5)); (try (have kM := (Blk.new w1 #[.int .i64 0, .int .i64 0, .int .u8 0, .int .i64 0, .int .i64 0] 23).on hb2; have zm := kM.frozen; obtain ⟨m0, m1, m2, m3, m4⟩ := kM.cells5)))
              | fail)
          · go_wp2_with fail
            go_meet
            exact ⟨w2.heap.size, gm, cm, y, m, hy, rfl, rfl, rfl, Blk.new w2 _ _, below_alloc hB2 _⟩
          · go_wp2_with fail
            go_meet
            exact ⟨w1.heap.size, gm, cm, y, m, hy, rfl, rfl, rfl, kM.set5 _ _ _ _ _, below_put5 hB2 hB1.size _ _ _ _ _⟩
          · go_wp2_with fail
            go_meet
            exact ⟨wr.heap.size, gm, cm, y, m, hy, rfl, rfl, rfl, kN2.set5 _ _ _ _ _, below_put5 hB2 (Nat.le_refl _) _ _ _ _ _⟩
        case rest =>
          obtain ⟨g, gm, cm, y, m, hy, rfl, rfl, rfl, kY, hX⟩ := hcut
          replace hE := hE.on hX
          replace rB := rB.below hX
          replace kA := kA.on hX
          replace hB := hB.trans (hX.mono hB.size)
          clear hA lA rL hrW hX
          have hzp : Hid (d[p]? = some d[p]) := Lib.hid (List.getElem?_eq_getElem hp)
          obtain ⟨bz, oz, z, hAd, hz, hbz, _, _, _⟩ := (hE.rd 0 rfl).el p hp
          clear hAd hbz hzp
          have hcs := means_del false vs 0 0 htag.out hfb.out.numbered Ht.out (a := ⟨2, p, ac, 2, 1⟩) rfl rfl hz.out (by omega)
          rw [hy.out] at hcs
          have HCS := Lib.hid hcs
          clear hcs hy
          have hzm : Hid (z ∈ d) := Lib.hid (List.mem_of_getElem? hz.out)
          rcases HCS.out with ⟨hzt, q, hyq, hq⟩ | ⟨hzt, hyq⟩
          · have HZT := Lib.hid hzt
            have hy2 : y = ⟨2, (q : Int), ac, 2, 1⟩ := hyq
            subst hy2
            have hql : Hid (q < t.length) := Lib.hid (List.getElem?_eq_some_iff.1 hq).1
            have hqz := Lib.hid hq
            clear hq
            clear HCS hzt hyq
            obtain ⟨t2, ht2⟩ : ∃ t2, t2 = (del t q) := ⟨_, rfl⟩
            have hput : Hid (putL t ⟨2, (q : Int), ac, 2, 1⟩ = some t2) := Lib.hid (by rw [ht2]; exact (putL_del q rfl rfl hql.out))
            have hnf : Hid (z ∉ t2) := Lib.hid (by rw [ht2]; exact (del_gone (tagged_nd Htt.out) hqz.out))
            have hfl : Hid (t2.length = t.length - 1) := Lib.hid (by rw [ht2]; exact del_length t q hql.out)
            have hde : Hid (decide (z ∉ t) = false) := Lib.hid (by simp [HZT.out])
            clear ht2
            have l2 : t2.length ≤ 100000 := by have := hfl.out; omega
            obtain ⟨y0, y1, y2, y3, y4⟩ := kY.cells5
            obtain ⟨a0, a1, a2, a3, a4⟩ := kA.cells5
            go_wp2_with fail
            with_reducible refine (num_any _ _).mono ?_
            rintro e w5 ⟨rfl, hw⟩
            subst w5
            obtain ⟨bz, oz, z', hAd, hz', hbz, e0, e1, e2⟩ := (hE.rd 0 rfl).el p hp
            have hzz : z' = z := Option.some.inj (hz'.out.symm.trans hz.out)
            subst hzz
            subst hAd
            clear hz'
            go_wp2_with fail
            with_reducible refine (lost_any _ _ _ _ _ t _ _ _ _ _ (hE.rd 0 rfl) rB hdc.out (by omega) Ht.out hzm.out).mono ?_
            rintro e w6 ⟨rfl, b6⟩
            rw [show decide ((⟨z'.c, z'.l, z'.s⟩ : PEl) ∉ t) = false from hde.out]
            replace hE := hE.on b6
            replace rB := rB.below b6
            replace kA := kA.on b6
            replace kY := kY.on b6
            have B6 := hB.trans (b6.mono hB.size)
            have e0' := (b6.cell (p := ⟨bz, _, none⟩) hbz).trans e0
            have e1' := (b6.cell (p := ⟨bz, _, none⟩) hbz).trans e1
            have e2' := (b6.cell (p := ⟨bz, _, none⟩) hbz).trans e2
            have hbz6 := Nat.lt_of_lt_of_le hbz b6.size
            clear y0 y1 y2 y3 y4 a0 a1 a2 a3 a4 e0 e1 e2 hbz b6 hB
            obtain ⟨y0, y1, y2, y3, y4⟩ := kY.cells5
            obtain ⟨a0, a1, a2, a3, a4⟩ := kA.cells5
            go_wp2_with fail
            refine (put_any _ _ _ t2 ⟨2, (q : Int), ac, 2, 1⟩ _ (hE.rd 1 rfl) HCt.out (by omega) hput.out).mono ?_
            rintro e w7 ⟨g2, cp2, rfl, hO7, hg7, b7⟩
            have rf : ∃ Af : Option Addr, Af = some ⟨g2, 0, none⟩ ∧ Rd elF w7 Af t2 := ⟨_, rfl, hO7.rd⟩
            replace hE := hE.on b7
            replace rB := rB.below b7
            replace kA := kA.on b7
            have B7 := B6.trans (b7.mono B6.size)
            have e0 := (b7.cell (p := ⟨bz, _, none⟩) hbz6).trans e0'
            have e1 := (b7.cell (p := ⟨bz, _, none⟩) hbz6).trans e1'
            have e2 := (b7.cell (p := ⟨bz, _, none⟩) hbz6).trans e2'
            clear y0 y1 y2 y3 y4 a0 a1 a2 a3 a4 e0' e1' e2' kY b7 B6 hO7 hg7
            obtain ⟨a0, a1, a2, a3, a4⟩ := kA.cells5
            go_wp2_with fail
            obtain ⟨Af, hAf, rf⟩ := rf
            rw [← hAf]
            clear hAf
            with_reducible refine (place_no _ _ _ _ _ _ _ rf (by omega) hnf.out).mono ?_
            rintro e w8 ⟨rfl, b8⟩
            replace hE := hE.on b8
            replace rB := rB.below b8
            replace kA := kA.on b8
            have B8 := B7.trans (b8.mono B7.size)
            clear a0 a1 a2 a3 a4 e0 e1 e2 b8 B7 rf
            have hq1 : ((t2.length : Int) != (t.length : Int) - 1) = false := by have h1 := hfl.out; have h2 := hql.out; simp only [bne_eq_false_iff_eq]; omega
            go_wp2_with fail
            go_roundw
            case rel => exact ⟨.inr (.inl rfl), hE, rB, kA, B8⟩
            case measure => simp [intOf]
          · have HZT := Lib.hid hzt
            have hy2 : y = ⟨0, 0, 0, 2, 1⟩ := hyq
            subst hy2
            clear HCS hzt hyq
            obtain ⟨t2, ht2⟩ : ∃ t2, t2 = t := ⟨_, rfl⟩
            have hput : Hid (putL t ⟨0, 0, 0, 2, 1⟩ = some t2) := Lib.hid (by rw [ht2]; exact (putL_nop rfl rfl rfl))
            have hnf : Hid (z ∉ t2) := Lib.hid (by rw [ht2]; exact HZT.out)
            have hfl : Hid (t2.length = t.length) := Lib.hid (by rw [ht2])
            have hde : Hid (decide (z ∉ t) = true) := Lib.hid (by simp [HZT.out])
            clear ht2
            have l2 : t2.length ≤ 100000 := by have := hfl.out; omega
            obtain ⟨y0, y1, y2, y3, y4⟩ := kY.cells5
            obtain ⟨a0, a1, a2, a3, a4⟩ := kA.cells5
            go_wp2_with fail
            with_reducible refine (num_any _ _).mono ?_
            rintro e w5 ⟨rfl, hw⟩
            subst w5
            obtain ⟨bz, oz, z', hAd, hz', hbz, e0, e1, e2⟩ := (hE.rd 0 rfl).el p hp
            have hzz : z' = z := Option.some.inj (hz'.out.symm.trans hz.out)
            subst hzz
            subst hAd
            clear hz'
            go_wp2_with fail
            with_reducible refine (lost_any _ _ _ _ _ t _ _ _ _ _ (hE.rd 0 rfl) rB hdc.out (by omega) Ht.out hzm.out).mono ?_
            rintro e w6 ⟨rfl, b6⟩
            rw [show decide ((⟨z'.c, z'.l, z'.s⟩ : PEl) ∉ t) = true from hde.out]
            replace hE := hE.on b6
            replace rB := rB.below b6
            replace kA := kA.on b6
            replace kY := kY.on b6
            have B6 := hB.trans (b6.mono hB.size)
            have e0' := (b6.cell (p := ⟨bz, _, none⟩) hbz).trans e0
            have e1' := (b6.cell (p := ⟨bz, _, none⟩) hbz).trans e1
            have e2' := (b6.cell (p := ⟨bz, _, none⟩) hbz).trans e2
            have hbz6 := Nat.lt_of_lt_of_le hbz b6.size
            clear y0 y1 y2 y3 y4 a0 a1 a2 a3 a4 e0 e1 e2 hbz b6 hB
            obtain ⟨y0, y1, y2, y3, y4⟩ := kY.cells5
            obtain ⟨a0, a1, a2, a3, a4⟩ := kA.cells5
            go_wp2_with fail
            refine (put_any _ _ _ t2 ⟨0, 0, 0, 2, 1⟩ _ (hE.rd 1 rfl) HCt.out (by omega) hput.out).mono ?_
            rintro e w7 ⟨g2, cp2, rfl, hO7, hg7, b7⟩
            have rf : ∃ Af : Option Addr, Af = some ⟨g2, 0, none⟩ ∧ Rd elF w7 Af t2 := ⟨_, rfl, hO7.rd⟩
            replace hE := hE.on b7
            replace rB := rB.below b7
            replace kA := kA.on b7
            have B7 := B6.trans (b7.mono B6.size)
            have e0 := (b7.cell (p := ⟨bz, _, none⟩) hbz6).trans e0'
            have e1 := (b7.cell (p := ⟨bz, _, none⟩) hbz6).trans e1'
            have e2 := (b7.cell (p := ⟨bz, _, none⟩) hbz6).trans e2'
            clear y0 y1 y2 y3 y4 a0 a1 a2 a3 a4 e0' e1' e2' kY b7 B6 hO7 hg7
            obtain ⟨a0, a1, a2, a3, a4⟩ := kA.cells5
            go_wp2_with fail
            obtain ⟨Af, hAf, rf⟩ := rf
            rw [← hAf]
            clear hAf
            with_reducible refine (place_no _ _ _ _ _ _ _ rf (by omega) hnf.out).mono ?_
            rintro e w8 ⟨rfl, b8⟩
            replace hE := hE.on b8
            replace rB := rB.below b8
            replace kA := kA.on b8
            have B8 := B7.trans (b8.mono B7.size)
            clear a0 a1 a2 a3 a4 e0 e1 e2 b8 B7 rf
            have hq1 : ((t2.length : Int) != (t.length : Int)) = false := by have := hfl.out; simp [this]
            go_wp2_with fail
            go_roundw
            case rel => exact ⟨.inr (.inl rfl), hE, rB, kA, B8⟩
            case measure => simp [intOf]
      · go_upto_region 11 with fail
        have hA : (wr.cell? ⟨w2.heap.size, 0, none⟩ = some (.int .i64 2) ∧ wr.cell? ⟨w2.heap.size, 1, none⟩ = some (.int .i64 (p : Int)) ∧ wr.cell? ⟨w2.heap.size, 2, none⟩ = some (.int .u8 ac) ∧ wr.cell? ⟨w2.heap.size, 3, none⟩ = some (.int .i64 2) ∧ wr.cell? ⟨w2.heap.size, 4, none⟩ = some (.int .i64 1)) := kA.cells5
        have hA : FiveAt wr w2.heap.size 0 ⟨2, (p : Int), ac, 2, 1⟩ := hA
        have lA := kA.lt
        have rL := rB
        have hrW := hr.on hB
        go_cut [13, 14, 15] from 45 to 152 (fun pv qv ev wx => ∃ (g gm cm : Nat) (y : POp) (m : List POp), Hid (pastL ⟨2, (p : Int), ac, 2, 1⟩ vs true = (y, m)) ∧ pv = .pointer (some ⟨g, 0, none⟩) ∧ qv = .slice (some ⟨gm, 0, none⟩) m.length cm ∧ ev = .int .i64 0 ∧ Blk wx g #[.int .i64 y.k, .int .i64 y.p, .int .u8 y.c, .int .i64 y.l, .int .i64 y.s] 23 ∧ Below wr.heap.size wr wx)
        case first =>
          go_region_held3 (fun V => (V.cell? ⟨w2.heap.size, 0, none⟩ = some (.int .i64 2) ∧ V.cell? ⟨w2.heap.size, 1, none⟩ = some (.int .i64 (p : Int)) ∧ V.cell? ⟨w2.heap.size, 2, none⟩ = some (.int .u8 ac) ∧ V.cell? ⟨w2.heap.size, 3, none⟩ = some (.int .i64 2) ∧ V.cell? ⟨w2.heap.size, 4, none⟩ = some (.int .i64 1)))
            (first | (with_reducible refine five_keep hA ?_ lA; (repeat' (first | with_reducible exact Below.refl _ _ | with_reducible exact hB1 | with_reducible exact hB2 | with_reducible refine Below.drew ?_ | with_reducible refine below_alloc ?_ _ | with_reducible refine Below.setCell ?_ (by first | exact Nat.le_refl _ | exact Below.size hB1 | exact Below.size hB2) _ | fail))) | fail)
            (first
              | (go_at_call 31; (with_reducible refine (copied_any _ _ _ _ (rL.below (by (repeat' (first | with_reducible exact Below.refl _ _ | with_reducible exact hB1 | with_reducible exact hB2 | with_reducible refine Below.drew ?_ | with_reducible refine below_alloc ?_ _ | with_reducible refine Below.setCell ?_ (by first | exact Nat.le_refl _ | exact Below.size hB1 | exact Below.size hB2) _ | fail)))) (by omega)).mono ?_); rintro e w1 ⟨g1, hg1, rfl, ow1, hb⟩; (have hB1 : Below wr.heap.size wr w1 := by first | exact (Below.refl _ _).drew.trans hb | exact (below_alloc (Below.refl _ _) _).drew.trans (hb.mono (by simp))); try (have kN := (Blk.new wr #[.int .i64 0, .int .i64 0, .int .u8 0, .int .i64 0, .int .i64 0] 23).drew.on hb))
              | (go_at_call 30; (with_reducible refine (through_rd _ _ _ _ _ _ _ _ _ _ (hrW.on (by (repeat' (first | with_reducible exact Below.refl _ _ | with_reducible exact hB1 | with_reducible exact hB2 | with_reducible refine Below.drew ?_ | with_reducible refine below_alloc ?_ _ | with_reducible refine Below.setCell ?_ (by first | exact Nat.le_refl _ | exact Below.size hB1 | exact Below.size hB2) _ | fail)))) (by first | exact ow1.rd | exact (ow1.alloc _).rd) n2).mono ?_); rintro e w2 ⟨gm, cm, y, m, hy, hml, rfl, rm, hgm, hb2⟩; (have hB2 : Below wr.heap.size wr w2 := by first | exact hB1.trans (hb2.mono hB1.size) | exact (below_alloc hB1 _).trans (hb2.mono (by have := hB1.size; simp; omega))); (try (have kN2 := kN.on hb2; have zn := kN2.frozen; obtain ⟨n0, n1, n2, n3, n4⟩ := kN2.cells5)); (try (have kM := (Blk.new w1 #[.int .i64 0, .int .i64 0, .int .u8 0, .int .i64 0, .int .i64 0] 23).on hb2; have zm := kM.frozen; obtain ⟨m0, m1, m2, m3, m4⟩ := kM.cells5)))
              | fail)
          · go_wp2_with fail
            go_meet
            exact ⟨w2.heap.size, gm, cm, y, m, hy, rfl, rfl, rfl, Blk.new w2 _ _, below_alloc hB2 _⟩
          · go_wp2_with fail
            go_meet
            exact ⟨w1.heap.size, gm, cm, y, m, hy, rfl, rfl, rfl, kM.set5 _ _ _ _ _, below_put5 hB2 hB1.size _ _ _ _ _⟩
          · go_wp2_with fail
            go_meet
            exact ⟨wr.heap.size, gm, cm, y, m, hy, rfl, rfl, rfl, kN2.set5 _ _ _ _ _, below_put5 hB2 (Nat.le_refl _) _ _ _ _ _⟩
        case rest =>
          obtain ⟨g, gm, cm, y, m, hy, rfl, rfl, rfl, kY, hX⟩ := hcut
          replace hE := hE.on hX
          replace rB := rB.below hX
          replace kA := kA.on hX
          replace hB := hB.trans (hX.mono hB.size)
          clear hA lA rL hrW hX
          have hzp : Hid (d[p]? = some d[p]) := Lib.hid (List.getElem?_eq_getElem hp)
          obtain ⟨bz, oz, z, hAd, hz, hbz, _, _, _⟩ := (hE.rd 0 rfl).el p hp
          clear hAd hbz hzp
          have hcs := means_del true vs 0 0 htag.out hfb.out.numbered Ht.out (a := ⟨2, p, ac, 2, 1⟩) rfl rfl hz.out (by omega)
          rw [hy.out] at hcs
          have HCS := Lib.hid hcs
          clear hcs hy
          have hzm : Hid (z ∈ d) := Lib.hid (List.mem_of_getElem? hz.out)
          rcases HCS.out with ⟨hzt, q, hyq, hq⟩ | ⟨hzt, hyq⟩
          · have HZT := Lib.hid hzt
            have hy2 : y = ⟨2, (q : Int), ac, 2, 1⟩ := hyq
            subst hy2
            have hql : Hid (q < t.length) := Lib.hid (List.getElem?_eq_some_iff.1 hq).1
            have hqz := Lib.hid hq
            clear hq
            clear HCS hzt hyq
            obtain ⟨t2, ht2⟩ : ∃ t2, t2 = (del t q) := ⟨_, rfl⟩
            have hput : Hid (putL t ⟨2, (q : Int), ac, 2, 1⟩ = some t2) := Lib.hid (by rw [ht2]; exact (putL_del q rfl rfl hql.out))
            have hnf : Hid (z ∉ t2) := Lib.hid (by rw [ht2]; exact (del_gone (tagged_nd Htt.out) hqz.out))
            have hfl : Hid (t2.length = t.length - 1) := Lib.hid (by rw [ht2]; exact del_length t q hql.out)
            have hde : Hid (decide (z ∉ t) = false) := Lib.hid (by simp [HZT.out])
            clear ht2
            have l2 : t2.length ≤ 100000 := by have := hfl.out; omega
            obtain ⟨y0, y1, y2, y3, y4⟩ := kY.cells5
            obtain ⟨a0, a1, a2, a3, a4⟩ := kA.cells5
            go_wp2_with fail
            with_reducible refine (num_any _ _).mono ?_
            rintro e w5 ⟨rfl, hw⟩
            subst w5
            obtain ⟨bz, oz, z', hAd, hz', hbz, e0, e1, e2⟩ := (hE.rd 0 rfl).el p hp
            have hzz : z' = z := Option.some.inj (hz'.out.symm.trans hz.out)
            subst hzz
            subst hAd
            clear hz'
            go_wp2_with fail
            with_reducible refine (lost_any _ _ _ _ _ t _ _ _ _ _ (hE.rd 0 rfl) rB hdc.out (by omega) Ht.out hzm.out).mono ?_
            rintro e w6 ⟨rfl, b6⟩
            rw [show decide ((⟨z'.c, z'.l, z'.s⟩ : PEl) ∉ t) = false from hde.out]
            replace hE := hE.on b6
            replace rB := rB.below b6
            replace kA := kA.on b6
            replace kY := kY.on b6
            have B6 := hB.trans (b6.mono hB.size)
            have e0' := (b6.cell (p := ⟨bz, _, none⟩) hbz).trans e0
            have e1' := (b6.cell (p := ⟨bz, _, none⟩) hbz).trans e1
            have e2' := (b6.cell (p := ⟨bz, _, none⟩) hbz).trans e2
            have hbz6 := Nat.lt_of_lt_of_le hbz b6.size
            clear y0 y1 y2 y3 y4 a0 a1 a2 a3 a4 e0 e1 e2 hbz b6 hB
            obtain ⟨y0, y1, y2, y3, y4⟩ := kY.cells5
            obtain ⟨a0, a1, a2, a3, a4⟩ := kA.cells5
            go_wp2_with fail
            refine (put_any _ _ _ t2 ⟨2, (q : Int), ac, 2, 1⟩ _ (hE.rd 1 rfl) HCt.out (by omega) hput.out).mono ?_
            rintro e w7 ⟨g2, cp2, rfl, hO7, hg7, b7⟩
            have rf : ∃ Af : Option Addr, Af = some ⟨g2, 0, none⟩ ∧ Rd elF w7 Af t2 := ⟨_, rfl, hO7.rd⟩
            replace hE := hE.on b7
            replace rB := rB.below b7
            replace kA := kA.on b7
            have B7 := B6.trans (b7.mono B6.size)
            have e0 := (b7.cell (p := ⟨bz, _, none⟩) hbz6).trans e0'
            have e1 := (b7.cell (p := ⟨bz, _, none⟩) hbz6).trans e1'
            have e2 := (b7.cell (p := ⟨bz, _, none⟩) hbz6).trans e2'
            clear y0 y1 y2 y3 y4 a0 a1 a2 a3 a4 e0' e1' e2' kY b7 B6 hO7 hg7
            obtain ⟨a0, a1, a2, a3, a4⟩ := kA.cells5
            go_wp2_with fail
            obtain ⟨Af, hAf, rf⟩ := rf
            rw [← hAf]
            clear hAf
            with_reducible refine (place_no _ _ _ _ _ _ _ rf (by omega) hnf.out).mono ?_
            rintro e w8 ⟨rfl, b8⟩
            replace hE := hE.on b8
            replace rB := rB.below b8
            replace kA := kA.on b8
            have B8 := B7.trans (b8.mono B7.size)
            clear a0 a1 a2 a3 a4 e0 e1 e2 b8 B7 rf
            have hq1 : ((t2.length : Int) != (t.length : Int) - 1) = false := by have h1 := hfl.out; have h2 := hql.out; simp only [bne_eq_false_iff_eq]; omega
            go_wp2_with fail
            go_roundw
            case rel => exact ⟨.inr (.inr rfl), hE, rB, kA, B8⟩
            case measure => simp [intOf]
          · have HZT := Lib.hid hzt
            have hy2 : y = ⟨0, 0, 0, 2, 1⟩ := hyq
            subst hy2
            clear HCS hzt hyq
            obtain ⟨t2, ht2⟩ : ∃ t2, t2 = t := ⟨_, rfl⟩
            have hput : Hid (putL t ⟨0, 0, 0, 2, 1⟩ = some t2) := Lib.hid (by rw [ht2]; exact (putL_nop rfl rfl rfl))
            have hnf : Hid (z ∉ t2) := Lib.hid (by rw [ht2]; exact HZT.out)
            have hfl : Hid (t2.length = t.length) := Lib.hid (by rw [ht2])
            have hde : Hid (decide (z ∉ t) = true) := Lib.hid (by simp [HZT.out])
            clear ht2
            have l2 : t2.length ≤ 100000 := by have := hfl.out; omega
            obtain ⟨y0, y1, y2, y3, y4⟩ := kY.cells5
            obtain ⟨a0, a1, a2, a3, a4⟩ := kA.cells5
            go_wp2_with fail
            with_reducible refine (num_any _ _).mono ?_
            rintro e w5 ⟨rfl, hw⟩
            subst w5
            obtain ⟨bz, oz, z', hAd, hz', hbz, e0, e1, e2⟩ := (hE.rd 0 rfl).el p hp
            have hzz : z' = z := Option.some.inj (hz'.out.symm.trans hz.out)
            subst hzz
            subst hAd
            clear hz'
            go_wp2_with fail
            with_reducible refine (lost_any _ _ _ _ _ t _ _ _ _ _ (hE.rd 0 rfl) rB hdc.out (by omega) Ht.out hzm.out).mono ?_
            rintro e w6 ⟨rfl, b6⟩
            rw [show decide ((⟨z'.c, z'.l, z'.s⟩ : PEl) ∉ t) = true from hde.out]
            replace hE := hE.on b6
            replace rB := rB.below b6
            replace kA := kA.on b6
            replace kY := kY.on b6
            have B6 := hB.trans (b6.mono hB.size)
            have e0' := (b6.cell (p := ⟨bz, _, none⟩) hbz).trans e0
            have e1' := (b6.cell (p := ⟨bz, _, none⟩) hbz).trans e1
            have e2' := (b6.cell (p := ⟨bz, _, none⟩) hbz).trans e2
            have hbz6 := Nat.lt_of_lt_of_le hbz b6.size
            clear y0 y1 y2 y3 y4 a0 a1 a2 a3 a4 e0 e1 e2 hbz b6 hB
            obtain ⟨y0, y1, y2, y3, y4⟩ := kY.cells5
            obtain ⟨a0, a1, a2, a3, a4⟩ := kA.cells5
            go_wp2_with fail
            refine (put_any _ _ _ t2 ⟨0, 0, 0, 2, 1⟩ _ (hE.rd 1 rfl) HCt.out (by omega) hput.out).mono ?_
            rintro e w7 ⟨g2, cp2, rfl, hO7, hg7, b7⟩
            have rf : ∃ Af : Option Addr, Af = some ⟨g2, 0, none⟩ ∧ Rd elF w7 Af t2 := ⟨_, rfl, hO7.rd⟩
            replace hE := hE.on b7
            replace rB := rB.below b7
            replace kA := kA.on b7
            have B7 := B6.trans (b7.mono B6.size)
            have e0 := (b7.cell (p := ⟨bz, _, none⟩) hbz6).trans e0'
            have e1 := (b7.cell (p := ⟨bz, _, none⟩) hbz6).trans e1'
            have e2 := (b7.cell (p := ⟨bz, _, none⟩) hbz6).trans e2'
            clear y0 y1 y2 y3 y4 a0 a1 a2 a3 a4 e0' e1' e2' kY b7 B6 hO7 hg7
            obtain ⟨a0, a1, a2, a3, a4⟩ := kA.cells5
            go_wp2_with fail
            obtain ⟨Af, hAf, rf⟩ := rf
            rw [← hAf]
            clear hAf
            with_reducible refine (place_no _ _ _ _ _ _ _ rf (by omega) hnf.out).mono ?_
            rintro e w8 ⟨rfl, b8⟩
            replace hE := hE.on b8
            replace rB := rB.below b8
            replace kA := kA.on b8
            have B8 := B7.trans (b8.mono B7.size)
            clear a0 a1 a2 a3 a4 e0 e1 e2 b8 B7 rf
            have hq1 : ((t2.length : Int) != (t.length : Int)) = false := by have := hfl.out; simp [this]
            go_wp2_with fail
            go_roundw
            case rel => exact ⟨.inr (.inr rfl), hE, rB, kA, B8⟩
            case measure => simp [intOf]
      · go_wp2
        go_ret
        exact ⟨rfl, hB⟩
  · go_wp2_with fail
    with_reducible refine (line_any _ _ _ d.length 3 _ (h2.below (below_alloc B2 _)) hn z2).mono ?_
    rintro e w3 ⟨gb, cb, mb, vs, rfl, hlb, hfb, hOb, hgb, b3⟩
    have kA := (Blk.new w2 #[.int .i64 1, .int .i64 (p : Int), .int .u8 ac, .int .i64 2, .int .i64 1] 23).on b3
    have B3 := (below_alloc B2 (.cells #[.int .i64 1, .int .i64 (p : Int), .int .u8 ac, .int .i64 2, .int .i64 1] 23)).trans (b3.mono (by have := B2.size; simp; omega))
    replace hE := hE.on ((below_alloc (Below.refl w2.heap.size w2) (.cells #[.int .i64 1, .int .i64 (p : Int), .int .u8 ac, .int .i64 2, .int .i64 1] 23)).trans (b3.mono (by simp)))
    have rB := hOb.rd
    have lb : vs.length * 24 ≤ 140737488351232 := by have := hlb.out; omega
    have hplain : Hid (∃ e : List PEl, runL d vs = some e ∧ Tagged 0 vs.length e) := by
      obtain ⟨e, he, hel⟩ := LineFits.run hfb.out (d := d) rfl
      have := (run_old3 vs 0 htag.out hfb.out.numbered he).1
      rw [Nat.zero_add] at this
      exact ⟨e, he, this⟩
    obtain ⟨t, ht, htt⟩ := hplain.out
    have Ht := Lib.hid ht
    have Htt := Lib.hid htt
    have lt : t.length ≤ d.length + vs.length := runL_length _ ht
    clear hplain ht htt hOb hgb b3 B2 hlb
    go_wp2_with fail
    with_reducible refine (run_any _ _ _ _ _ t _ _ (hE.rd 0 rfl) rB hdc.out (by omega) Ht.out).mono ?_
    rintro e w4 ⟨At, ct, rfl, rr, hct, b4⟩
    have HCt := Lib.hid hct
    replace hE := (hE.on b4).add rr
    have B4 := B3.trans (b4.mono B3.size)
    replace rB := rB.below b4
    replace kA := kA.on b4
    clear rr b4 B3 hct
    by_cases hlong : 4096 < vs.length
    · go_wp2
      go_ret
      exact ⟨rfl, B4⟩
    have n2 : vs.length ≤ 4096 := by omega
    clear hlong
    go_wp2_with fail
    go_loopw [12] (fun i wr => (i = .int .i64 0 ∨ i = .int .i64 1 ∨ i = .int .i64 2) ∧ Els wr [(Ad, d), (At, t)] ∧ Rd opF wr (some ⟨gb, 0, none⟩) vs ∧ Blk wr w2.heap.size #[.int .i64 1, .int .i64 (p : Int), .int .u8 ac, .int .i64 2, .int .i64 1] 23 ∧ Below w.heap.size w wr) (fun i wr => 2 - (intOf i).toNat)
    case atStart => exact ⟨.inl rfl, hE, rB, kA, B4⟩
    case round =>
      clear hE rB kA B4
      obtain ⟨hi, hE, rB, kA, hB⟩ := hrel
      rcases hi with rfl | rfl | rfl
      · go_upto_region 11 with fail
        have hA : (wr.cell? ⟨w2.heap.size, 0, none⟩ = some (.int .i64 1) ∧ wr.cell? ⟨w2.heap.size, 1, none⟩ = some (.int .i64 (p : Int)) ∧ wr.cell? ⟨w2.heap.size, 2, none⟩ = some (.int .u8 ac) ∧ wr.cell? ⟨w2.heap.size, 3, none⟩ = some (.int .i64 2) ∧ wr.cell? ⟨w2.heap.size, 4, none⟩ = some (.int .i64 1)) := kA.cells5
        have hA : FiveAt wr w2.heap.size 0 ⟨1, (p : Int), ac, 2, 1⟩ := hA
        have lA := kA.lt
        have rL := rB
        have hrW := hr.on hB
        go_cut [13, 14, 15] from 45 to 152 (fun pv qv ev wx => ∃ (g gm cm : Nat) (y : POp) (m : List POp), Hid (pastL ⟨1, (p : Int), ac, 2, 1⟩ vs false = (y, m)) ∧ pv = .pointer (some ⟨g, 0, none⟩) ∧ qv = .slice (some ⟨gm, 0, none⟩) m.length cm ∧ ev = .int .i64 0 ∧ Blk wx g #[.int .i64 y.k, .int .i64 y.p, .int .u8 y.c, .int .i64 y.l, .int .i64 y.s] 23 ∧ Below wr.heap.size wr wx)
        case first =>
          go_region_held3 (fun V => (V.cell? ⟨w2.heap.size, 0, none⟩ = some (.int .i64 1) ∧ V.cell? ⟨w2.heap.size, 1, none⟩ = some (.int .i64 (p : Int)) ∧ V.cell? ⟨w2.heap.size, 2, none⟩ = some (.int .u8 ac) ∧ V.cell? ⟨w2.heap.size, 3, none⟩ = some (.int .i64 2) ∧ V.cell? ⟨w2.heap.size, 4, none⟩ = some (.int .i64 1)))
            (first | (with_reducible refine five_keep hA ?_ lA; (repeat' (first | with_reducible exact Below.refl _ _ | with_reducible exact hB1 | with_reducible exact hB2 | with_reducible refine Below.drew ?_ | with_reducible refine below_alloc ?_ _ | with_reducible refine Below.setCell ?_ (by first | exact Nat.le_refl _ | exact Below.size hB1 | exact Below.size hB2) _ | fail))) | fail)
            (first
              | (go_at_call 31; (with_reducible refine (copied_any _ _ _ _ (rL.below (by (repeat' (first | with_reducible exact Below.refl _ _ | with_reducible exact hB1 | with_reducible exact hB2 | with_reducible refine Below.drew ?_ | with_reducible refine below_alloc ?_ _ | with_reducible refine Below.setCell ?_ (by first | exact Nat.le_refl _ | exact Below.size hB1 | exact Below.size hB2) _ | fail)))) (by omega)).mono ?_); rintro e w1 ⟨g1, hg1, rfl, ow1, hb⟩; (have hB1 : Below wr.heap.size wr w1 := by first | exact (Below.refl _ _).drew.trans hb | exact (below_alloc (Below.refl _ _) _).drew.trans (hb.mono (by simp))); try (have kN := (Blk.new wr #[.int .i64 0, .int .i64 0, .int .u8 0, .int .i64 0, .int .i64 0] 23).drew.on hb))
              | (go_at_call 30; (with_reducible refine (through_rd _ _ _ _ _ _ _ _ _ _ (hrW.on (by (repeat' (first | with_reducible exact Below.refl _ _ | with_reducible exact hB1 | with_reducible exact hB2 | with_reducible refine Below.drew ?_ | with_reducible refine below_alloc ?_ _ | with_reducible refine Below.setCell ?_ (by first | exact Nat.le_refl _ | exact Below.size hB1 | exact Below.size hB2) _ | fail)))) (by first | exact ow1.rd | exact (ow1.alloc _).rd) n2).mono ?_); rintro e w2 ⟨gm, cm, y, m, hy, hml, rfl, rm, hgm, hb2⟩; (have hB2 : Below wr.heap.size wr w2 := by first | exact hB1.trans (hb2.mono hB1.size) | exact (below_alloc hB1 _).trans (hb2.mono (by have := hB1.size; simp; omega))); (try (have kN2 := kN.on hb2; have zn := kN2.frozen; obtain ⟨n0, n1, n2, n3, n4⟩ := kN2.cells5)); (try (have kM := (Blk.new w1 #[.int .i64 0, .int .i64 0, .int .u8 0, .int .i64 0, .int .i64 0] 23).on hb2; have zm := kM.frozen; obtain ⟨m0, m1, m2, m3, m4⟩ := kM.cells5)))
              | fail)
          · go_wp2_with fail
            go_meet
            exact ⟨w2.heap.size, gm, cm, y, m, hy, rfl, rfl, rfl, Blk.new w2 _ _, below_alloc hB2 _⟩
          · go_wp2_with fail
            go_meet
            exact ⟨w1.heap.size, gm, cm, y, m, hy, rfl, rfl, rfl, kM.set5 _ _ _ _ _, below_put5 hB2 hB1.size _ _ _ _ _⟩
          · go_wp2_with fail
            go_meet
            exact ⟨wr.heap.size, gm, cm, y, m, hy, rfl, rfl, rfl, kN2.set5 _ _ _ _ _, below_put5 hB2 (Nat.le_refl _) _ _ _ _ _⟩
        case rest =>
          obtain ⟨g, gm, cm, y, m, hy, rfl, rfl, rfl, kY, hX⟩ := hcut
          replace hE := hE.on hX
          replace rB := rB.below hX
          replace kA := kA.on hX
          replace hB := hB.trans (hX.mono hB.size)
          clear hA lA rL hrW hX
          have hcs := means_ins false vs 0 0 htag.out hfb.out.numbered Ht.out (a := ⟨1, p, ac, 2, 1⟩) rfl rfl hp (by omega)
          rw [hy.out] at hcs
          obtain ⟨q, hyq, hq, hS⟩ := hcs
          have hy2 : y = ⟨1, (q : Int), ac, 2, 1⟩ := hyq
          subst hy2
          have HS := Lib.hid hS
          have hnd : Hid ((⟨ac, 2, 1⟩ : PEl) ∉ d) := Lib.hid (fun h => by have := hone.out _ h; simp at this)
          have hnt : Hid ((⟨ac, 2, 1⟩ : PEl) ∉ t) := Lib.hid (fun h => by have := tagged_mem Htt.out _ h; simp at this)
          clear hyq hS hy
          obtain ⟨y0, y1, y2, y3, y4⟩ := kY.cells5
          obtain ⟨a0, a1, a2, a3, a4⟩ := kA.cells5
          go_wp2_with fail
          with_reducible refine (num_any _ _).mono ?_
          rintro e w5 ⟨rfl, hw⟩
          subst w5
          go_wp2_with fail
          with_reducible refine (meant_any _ _ _ _ _ _ _ p q _ _ _ _ (hE.rd 0 rfl) (hE.rd 1 rfl) HCt.out (by omega) (by omega) hq (tagged_nd Htt.out) hnd.out hnt.out HS.out).mono ?_
          rintro e w6 ⟨rfl, b6⟩
          replace hE := hE.on b6
          replace rB := rB.below b6
          replace kA := kA.on b6
          have B6 := hB.trans (b6.mono hB.size)
          clear y0 y1 y2 y3 y4 a0 a1 a2 a3 a4 b6 hB
          go_wp2_with fail
          go_roundw
          case rel => exact ⟨.inr (.inl rfl), hE, rB, kA, B6⟩
          case measure => simp [intOf]
      · go_upto_region 11 with fail
        have hA : (wr.cell? ⟨w2.heap.size, 0, none⟩ = some (.int .i64 1) ∧ wr.cell? ⟨w2.heap.size, 1, none⟩ = some (.int .i64 (p : Int)) ∧ wr.cell? ⟨w2.heap.size, 2, none⟩ = some (.int .u8 ac) ∧ wr.cell? ⟨w2.heap.size, 3, none⟩ = some (.int .i64 2) ∧ wr.cell? ⟨w2.heap.size, 4, none⟩ = some (.int .i64 1)) := kA.cells5
        have hA : FiveAt wr w2.heap.size 0 ⟨1, (p : Int), ac, 2, 1⟩ := hA
        have lA := kA.lt
        have rL := rB
        have hrW := hr.on hB
        go_cut [13, 14, 15] from 45 to 152 (fun pv qv ev wx => ∃ (g gm cm : Nat) (y : POp) (m : List POp), Hid (pastL ⟨1, (p : Int), ac, 2, 1⟩ vs true = (y, m)) ∧ pv = .pointer (some ⟨g, 0, none⟩) ∧ qv = .slice (some ⟨gm, 0, none⟩) m.length cm ∧ ev = .int .i64 0 ∧ Blk wx g #[.int .i64 y.k, .int .i64 y.p, .int .u8 y.c, .int .i64 y.l, .int .i64 y.s] 23 ∧ Below wr.heap.size wr wx)
        case first =>
          go_region_held3 (fun V => (V.cell? ⟨w2.heap.size, 0, none⟩ = some (.int .i64 1) ∧ V.cell? ⟨w2.heap.size, 1, none⟩ = some (.int .i64 (p : Int)) ∧ V.cell? ⟨w2.heap.size, 2, none⟩ = some (.int .u8 ac) ∧ V.cell? ⟨w2.heap.size, 3, none⟩ = some (.int .i64 2) ∧ V.cell? ⟨w2.heap.size, 4, none⟩ = some (.int .i64 1)))
            (first | (with_reducible refine five_keep hA ?_ lA; (repeat' (first | with_reducible exact Below.refl _ _ | with_reducible exact hB1 | with_reducible exact hB2 | with_reducible refine Below.drew ?_ | with_reducible refine below_alloc ?_ _ | with_reducible refine Below.setCell ?_ (by first | exact Nat.le_refl _ | exact Below.size hB1 | exact Below.size hB2) _ | fail))) | fail)
            (first
              | (go_at_call 31; (with_reducible refine (copied_any _ _ _ _ (rL.below (by (repeat' (first | with_reducible exact Below.refl _ _ | with_reducible exact hB1 | with_reducible exact hB2 | with_reducible refine Below.drew ?_ | with_reducible refine below_alloc ?_ _ | with_reducible refine Below.setCell ?_ (by first | exact Nat.le_refl _ | exact Below.size hB1 | exact Below.size hB2) _ | fail)))) (by omega)).mono ?_); rintro e w1 ⟨g1, hg1, rfl, ow1, hb⟩; (have hB1 : Below wr.heap.size wr w1 := by first | exact (Below.refl _ _).drew.trans hb | exact (below_alloc (Below.refl _ _) _).drew.trans (hb.mono (by simp))); try (have kN := (Blk.new wr #[.int .i64 0, .int .i64 0, .int .u8 0, .int .i64 0, .int .i64 0] 23).drew.on hb))
              | (go_at_call 30; (with_reducible refine (through_rd _ _ _ _ _ _ _ _ _ _ (hrW.on (by (repeat' (first | with_reducible exact Below.refl _ _ | with_reducible exact hB1 | with_reducible exact hB2 | with_reducible refine Below.drew ?_ | with_reducible refine below_alloc ?_ _ | with_reducible refine Below.setCell ?_ (by first | exact Nat.le_refl _ | exact Below.size hB1 | exact Below.size hB2) _ | fail)))) (by first | exact ow1.rd | exact (ow1.alloc _).rd) n2).mono ?_); rintro e w2 ⟨gm, cm, y, m, hy, hml, rfl, rm, hgm, hb2⟩; (have hB2 : Below wr.heap.size wr w2 := by first | exact hB1.trans (hb2.mono hB1.size) | exact (below_alloc hB1 _).trans (hb2.mono (by have := hB1.size; simp; omega))); (try (have kN2 := kN.on hb2; have zn := kN2.frozen; obtain ⟨n0, n1, n2, n3, n4⟩ := kN2.cells5)); (try (have kM := (Blk.new w1 #[.int .i64 0, .int .i64 0, .int .u8 0, .int .i64 0, .int .i64 0] 23).on hb2; have zm := kM.frozen; obtain ⟨m0, m1, m2, m3, m4⟩ := kM.cells5)))
              | fail)
          · go_wp2_with fail
            go_meet
            exact ⟨w2.heap.size, gm, cm, y, m, hy, rfl, rfl, rfl, Blk.new w2 _ _, below_alloc hB2 _⟩
          · go_wp2_with fail
            go_meet
            exact ⟨w1.heap.size, gm, cm, y, m, hy, rfl, rfl, rfl, kM.set5 _ _ _ _ _, below_put5 hB2 hB1.size _ _ _ _ _⟩
          · go_wp2_with fail
            go_meet
            exact ⟨wr.heap.size, gm, cm, y, m, hy, rfl, rfl, rfl, kN2.set5 _ _ _ _ _, below_put5 hB2 (Nat.le_refl _) _ _ _ _ _⟩
        case rest =>
          obtain ⟨g, gm, cm, y, m, hy, rfl, rfl, rfl, kY, hX⟩ := hcut
          replace hE := hE.on hX
          replace rB := rB.below hX
          replace kA := kA.on hX
          replace hB := hB.trans (hX.mono hB.size)
          clear hA lA rL hrW hX
          have hcs := means_ins true vs 0 0 htag.out hfb.out.numbered Ht.out (a := ⟨1, p, ac, 2, 1⟩) rfl rfl hp (by omega)
          rw [hy.out] at hcs
          obtain ⟨q, hyq, hq, hS⟩ := hcs
          have hy2 : y = ⟨1, (q : Int), ac, 2, 1⟩ := hyq
          subst hy2
          have HS := Lib.hid hS
          have hnd : Hid ((⟨ac, 2, 1⟩ : PEl) ∉ d) := Lib.hid (fun h => by have := hone.out _ h; simp at this)
          have hnt : Hid ((⟨ac, 2, 1⟩ : PEl) ∉ t) := Lib.hid (fun h => by have := tagged_mem Htt.out _ h; simp at this)
          clear hyq hS hy
          obtain ⟨y0, y1, y2, y3, y4⟩ := kY.cells5
          obtain ⟨a0, a1, a2, a3, a4⟩ := kA.cells5
          go_wp2_with fail
          with_reducible refine (num_any _ _).mono ?_
          rintro e w5 ⟨rfl, hw⟩
          subst w5
          go_wp2_with fail
          with_reducible refine (meant_any _ _ _ _ _ _ _ p q _ _ _ _ (hE.rd 0 rfl) (hE.rd 1 rfl) HCt.out (by omega) (by omega) hq (tagged_nd Htt.out) hnd.out hnt.out HS.out).mono ?_
          rintro e w6 ⟨rfl, b6⟩
          replace hE := hE.on b6
          replace rB := rB.below b6
          replace kA := kA.on b6
          have B6 := hB.trans (b6.mono hB.size)
          clear y0 y1 y2 y3 y4 a0 a1 a2 a3 a4 b6 hB
          go_wp2_with fail
          go_roundw
          case rel => exact ⟨.inr (.inr rfl), hE, rB, kA, B6⟩
          case measure => simp [intOf]
      · go_wp2
        go_ret
        exact ⟨rfl, hB⟩
end Go.Proofs.YtkicbnkacjnhoaaDoor
