/- The walk of jotterlaw05.OtSquare: it answers true. -/
import Derived.Test.YtkicbnkacjnhoaaDoorSt
import Derived.Test.YtkicbnkacjnhoaaDoorRun
import Derived.Test.YtkicbnkacjnhoaaDoorLine
import Derived.Test.YtkicbnkacjnhoaaDoorText
import Derived.Test.YtkicbnkacjnhoaaDoorPlace
import Derived.Test.YtkicbnkacjnhoaaDoorOtCount
namespace Go.Proofs.YtkicbnkacjnhoaaDoor
open Go.RowKit
set_option linter.unusedVariables false
set_option linter.unusedSimpArgs false

/-- Texts that read as told. -/
structure Els (W : World) (ls : List (Option Addr × List PEl)) : Prop where
  rds : ∀ p ∈ ls, Rd elF W p.1 p.2
theorem Els.on {W W' : World} {ls : List (Option Addr × List PEl)} (h : Els W ls) (hb : Below W.heap.size W W') : Els W' ls := ⟨fun p hp => (h.rds p hp).below hb⟩
theorem Els.rd {W : World} {ls : List (Option Addr × List PEl)} (h : Els W ls) (i : Nat) {A : Option Addr} {xs : List PEl} (hi : ls[i]? = some (A, xs)) : Rd elF W A xs := h.rds (A, xs) (List.mem_of_getElem? hi)
theorem Els.add {W : World} {ls : List (Option Addr × List PEl)} (h : Els W ls) {A : Option Addr} {xs : List PEl} (r : Rd elF W A xs) : Els W (ls ++ [(A, xs)]) :=
  ⟨fun p hp => by
    rcases List.mem_append.1 hp with hp | hp
    · exact h.rds p hp
    · obtain rfl := List.mem_singleton.1 hp
      exact r⟩
theorem Els.nil (W : World) : Els W [] := ⟨by simp⟩

theorem place_yes (A : Option Addr) (c : Nat) (xs : List PEl) (y0 y1 y2 : Int) (w : World) (hl : Rd elF w A xs) (l1 : xs.length ≤ 9223372036854775807) (h : (⟨y0, y1, y2⟩ : PEl) ∈ xs) :
    Calls Tryd.prog 41 #[.slice A xs.length c, .agg #[.int .u8 y0, .int .i64 y1, .int .i64 y2]] w fun e w' => ∃ k : Nat, e = .returned (.int .i64 k) ∧ Below w.heap.size w w' :=
  (place_any A c xs y0 y1 y2 w hl l1).mono fun e w' ⟨r, he, hr, hb⟩ => by
    rcases hr with ⟨_, hn⟩ | ⟨k, rfl, _⟩
    · exact absurd h hn
    · exact ⟨k, he, hb⟩
theorem place_no (A : Option Addr) (c : Nat) (xs : List PEl) (y0 y1 y2 : Int) (w : World) (hl : Rd elF w A xs) (l1 : xs.length ≤ 9223372036854775807) (h : (⟨y0, y1, y2⟩ : PEl) ∉ xs) :
    Calls Tryd.prog 41 #[.slice A xs.length c, .agg #[.int .u8 y0, .int .i64 y1, .int .i64 y2]] w fun e w' => e = .returned (.int .i64 (-1)) ∧ Below w.heap.size w w' :=
  (place_any A c xs y0 y1 y2 w hl l1).mono fun e w' ⟨r, he, hr, hb⟩ => by
    rcases hr with ⟨rfl, _⟩ | ⟨k, rfl, hk⟩
    · exact ⟨he, hb⟩
    · exact absurd (List.mem_of_getElem? hk) h
theorem sameText_yes (A1 A2 : Option Addr) (c1 c2 : Nat) (xs : List PEl) (w : World) (h1 : Rd elF w A1 xs) (h2 : Rd elF w A2 xs) (l1 : xs.length ≤ 9223372036854775807) :
    Calls Tryd.prog 29 #[.slice A1 xs.length c1, .slice A2 xs.length c2] w fun e w' => e = .returned (.bool true) ∧ ∃ n, w' = w.drewN n :=
  (sameText_any A1 A2 c1 c2 xs xs w h1 h2 l1 l1).mono fun e w' h => ⟨h.1.trans (by simp), h.2⟩
theorem text_rd (n : Nat) (w : World) (hn : n ≤ 4096) :
    Calls Tryd.prog 26 #[.int .i64 n] w fun e w' => ∃ (A : Option Addr) (c : Nat) (d : List PEl), Hid (d.length = n) ∧ Hid (d.length ≤ c) ∧ Hid (Tagged 0 0 d) ∧ Hid (∀ z ∈ d, z.l = 1) ∧ e = .returned (.slice A d.length c) ∧ Rd elF w' A d ∧ Below w.heap.size w w' :=
  (text_any n w hn).mono fun e w' ⟨g, d, hg, hdl, hnd, ht, he, hO, hb⟩ =>
    ⟨some ⟨g, 0, none⟩, n, d, hdl, Nat.le_of_eq hdl, ⟨hnd, fun z hz => .inl (ht z hz)⟩, ht, by rw [he, hdl], hO.rd, hb⟩
theorem mem_merge {d a b x : List PEl} (h : Merge d a b x) (z : PEl) : z ∈ x ↔ (z ∈ d ∧ z ∈ a ∧ z ∈ b) ∨ (z ∉ d ∧ (z ∈ a ∨ z ∈ b)) := h z
theorem filter_take_yes {α : Type} {p : α → Bool} {l : List α} {i : Nat} {x : α} (hx : l[i]? = some x) (hp : p x = true) : ((l.take (i + 1)).filter p).length = ((l.take i).filter p).length + 1 := by
  rw [List.take_add_one, hx, Option.toList_some, List.filter_append, List.length_append]
  simp [hp]
theorem filter_take_no {α : Type} {p : α → Bool} {l : List α} {i : Nat} {x : α} (hx : l[i]? = some x) (hp : p x = false) : ((l.take (i + 1)).filter p).length = ((l.take i).filter p).length := by
  rw [List.take_add_one, hx, Option.toList_some, List.filter_append, List.length_append]
  simp [hp]

set_option maxHeartbeats 4000000 in
set_option maxRecDepth 100000 in
theorem square_any (nn : Int) (A1 A2 : Option Addr) (c1 c2 : Nat) (ms ys : List PMv) (w : World) (hr : RulesAt w) (h1 : Rd moveF w A1 ms) (h2 : Rd moveF w A2 ys) (z1 : ms.length * 24 ≤ 140737488351232) (z2 : ys.length * 24 ≤ 140737488351232) :
    Calls Tryd.prog 9 #[.int .i64 nn, .slice A1 ms.length c1, .slice A2 ys.length c2] w fun e w' => e = .returned (.bool true) ∧ Below w.heap.size w w' := by
  go_enter Tryd.func9, Tryd.ntmps9
  go_wp2_with fail
  with_reducible refine (bounded_any _ _).mono ?_
  rintro e w0 ⟨n, hn, rfl, hw⟩
  subst w0
  go_wp2_with fail
  with_reducible refine (text_rd n _ hn).mono ?_
  rintro e w1 ⟨Ad, cd, d, hdl, hdc, htag, hone, rfl, hOd, B1⟩
  have hdl' := hdl.out
  clear hdl
  subst hdl'
  have hE := (Els.nil w1).add hOd
  go_wp2_with fail
  with_reducible refine (line_any _ _ _ d.length 2 _ (h1.below B1) hn z1).mono ?_
  rintro e w2 ⟨ga, ca, ma, us, rfl, hla, hfa, hOa, hga, b2⟩
  have B2 := B1.trans (b2.mono B1.size)
  replace hE := hE.on b2
  go_wp2_with fail
  with_reducible refine (line_any _ _ _ d.length 3 _ (h2.below B2) hn z2).mono ?_
  rintro e w3 ⟨gb, cb, mb, vs, rfl, hlb, hfb, hOb, hgb, b3⟩
  have B3 := B2.trans (b3.mono B2.size)
  replace hE := hE.on b3
  have rA := hOa.rd.below b3
  have rB := hOb.rd
  have la : us.length * 24 ≤ 140737488351232 := by have := hla.out; omega
  have lb : vs.length * 24 ≤ 140737488351232 := by have := hlb.out; omega
  clear hOd hOa hOb hga hgb b2 b3 B1 B2
  go_wp2_with fail
  with_reducible refine (copied_any _ _ _ _ rA (by omega)).mono ?_
  rintro e w4 ⟨g4, hg4, rfl, o4, b4⟩
  replace hE := hE.on b4
  have B4 := B3.trans (b4.mono B3.size)
  replace rA := rA.below b4
  replace rB := rB.below b4
  go_wp2_with fail
  with_reducible refine (copied_any _ _ _ _ rB (by omega)).mono ?_
  rintro e w5 ⟨g5, hg5, rfl, o5, b5⟩
  replace hE := hE.on b5
  have B5 := B4.trans (b5.mono B4.size)
  replace rA := rA.below b5
  replace rB := rB.below b5
  have r4 := o4.rd.below b5
  have r5 := o5.rd
  clear o4 o5 b4 b5 B3 B4 hg4 hg5
  by_cases hlong : 4096 < us.length ∨ 4096 < vs.length
  · have HL := Lib.hid hlong
    rcases hlong with hlong | hlong
    · go_wp2_with fail
      with_reducible refine (weave_long _ _ _ _ _ _ _ HL.out).mono ?_
      rintro e w6 ⟨rfl, hw⟩
      subst w6
      go_wp2_with fail
      with_reducible refine (num_any _ _).mono ?_
      rintro e w6 ⟨rfl, hw⟩
      subst w6
      go_wp2
      go_ret
      exact ⟨rfl, B5⟩
    · by_cases hla2 : 4096 < us.length
      all_goals
        go_wp2_with fail
        with_reducible refine (weave_long _ _ _ _ _ _ _ HL.out).mono ?_
        rintro e w6 ⟨rfl, hw⟩
        subst w6
        go_wp2_with fail
        with_reducible refine (num_any _ _).mono ?_
        rintro e w6 ⟨rfl, hw⟩
        subst w6
        go_wp2
        go_ret
        exact ⟨rfl, B5⟩
  · have n1 : us.length ≤ 4096 := by omega
    have n2 : vs.length ≤ 4096 := by omega
    go_wp2_with fail
    with_reducible refine (weave_rd _ _ _ _ _ _ _ (hr.on B5) r4 r5 n1 n2).mono ?_
    rintro e w6 ⟨Ap, Aq, cp, cq, p, q, hpq, hlpq, rfl, rP, rQ, b6⟩
    replace hE := hE.on b6
    have B6 := B5.trans (b6.mono B5.size)
    replace rA := rA.below b6
    replace rB := rB.below b6
    have hplain : Hid (∃ a b x : List PEl, runL d us = some a ∧ runL d vs = some b ∧ runL a q = some x ∧ runL b p = some x ∧ Merge d a b x ∧ x.Nodup ∧ a.Nodup ∧ b.Nodup ∧ (∀ z ∈ a, z ∈ d ∨ z.l = 2) ∧ (∀ z ∈ b, z ∈ d ∨ z.l = 3) ∧ a.length ≤ 8192 ∧ b.length ≤ 8192 ∧ x.length ≤ 12288) := by
      obtain ⟨a, ha, hal⟩ := LineFits.run hfa.out (d := d) rfl
      obtain ⟨b, hb, hbl⟩ := LineFits.run hfb.out (d := d) rfl
      obtain ⟨x, hx1, hx2, hm, hnx⟩ := weave_merge vs us 0 0 htag.out hfa.out.numbered hfb.out.numbered ha hb (by omega)
      rw [hpq.out] at hx1 hx2
      obtain ⟨ta, oa⟩ := run_old2 us 0 htag.out hfa.out.numbered ha
      obtain ⟨tb, ob⟩ := run_old3 vs 0 htag.out hfb.out.numbered hb
      have k1 := runL_length _ ha
      have k2 := runL_length _ hb
      have k3 : x.length ≤ a.length + q.length := runL_length _ hx1
      have k4 := hlpq.out
      exact ⟨a, b, x, ha, hb, hx1, hx2, hm, hnx, ta.1, tb.1, fun z hz => (oa z hz).imp_right (·.1), fun z hz => (ob z hz).imp_right (·.1), by omega, by omega, by omega⟩
    obtain ⟨a, b, x, ha, hb, hx1, hx2, hm, hnx, hna, hnb, hoa, hob, la8, lb8, lx12⟩ := hplain.out
    have Ha := Lib.hid ha
    have Hb := Lib.hid hb
    have Hx1 := Lib.hid hx1
    have Hx2 := Lib.hid hx2
    have Hm := Lib.hid hm
    have Hn := Lib.hid (And.intro hnx (And.intro hna hnb))
    have Hoa := Lib.hid hoa
    have Hob := Lib.hid hob
    clear hplain ha hb hx1 hx2 hm hnx hna hnb hoa hob b6 B5 r4 r5 hfa hfb hpq
    have qb : ((p.length : Int) != us.length) = false := by have := hlpq.out.1; simp [this]
    have qc : ((q.length : Int) != vs.length) = false := by have := hlpq.out.2; simp [this]
    have lp : p.length ≤ 4096 := by have := hlpq.out.1; omega
    have lq : q.length ≤ 4096 := by have := hlpq.out.2; omega
    go_wp2_with fail
    with_reducible refine (num_any _ _).mono ?_
    rintro e w7 ⟨rfl, hw⟩
    subst w7
    go_wp2_with fail
    with_reducible refine (run_any _ _ _ _ _ a _ _ (hE.rd 0 rfl) rA hdc.out (by omega) Ha.out).mono ?_
    rintro e r1 ⟨Aa0, ca0, rfl, rr, hca0, br1⟩
    have HCa0 := Lib.hid hca0
    clear hca0
    replace hE := (hE.on br1).add rr
    have Br1 := B6.trans (br1.mono B6.size)
    replace rA := rA.below br1
    replace rB := rB.below br1
    replace rP := rP.below br1
    replace rQ := rQ.below br1
    clear rr br1 B6
    go_wp2_with fail
    with_reducible refine (run_any _ _ _ _ _ b _ _ (hE.rd 0 rfl) rB hdc.out (by omega) Hb.out).mono ?_
    rintro e r2 ⟨Ab0, cb0, rfl, rr, hcb0, br2⟩
    have HCb0 := Lib.hid hcb0
    clear hcb0
    replace hE := (hE.on br2).add rr
    have Br2 := Br1.trans (br2.mono Br1.size)
    replace rA := rA.below br2
    replace rB := rB.below br2
    replace rP := rP.below br2
    replace rQ := rQ.below br2
    clear rr br2 Br1
    go_wp2_with fail
    with_reducible refine (run_any _ _ _ _ _ x _ _ (hE.rd 1 rfl) rQ HCa0.out (by omega) Hx1.out).mono ?_
    rintro e r3 ⟨Ax1, cx1, rfl, rr, hcx1, br3⟩
    have HCx1 := Lib.hid hcx1
    clear hcx1
    replace hE := (hE.on br3).add rr
    have Br3 := Br2.trans (br3.mono Br2.size)
    replace rA := rA.below br3
    replace rB := rB.below br3
    replace rP := rP.below br3
    replace rQ := rQ.below br3
    clear rr br3 Br2
    go_wp2_with fail
    with_reducible refine (run_any _ _ _ _ _ x _ _ (hE.rd 2 rfl) rP HCb0.out (by omega) Hx2.out).mono ?_
    rintro e r4 ⟨Ax2, cx2, rfl, rr, hcx2, br4⟩
    have HCx2 := Lib.hid hcx2
    clear hcx2
    replace hE := (hE.on br4).add rr
    have Br4 := Br3.trans (br4.mono Br3.size)
    replace rA := rA.below br4
    replace rB := rB.below br4
    replace rP := rP.below br4
    replace rQ := rQ.below br4
    clear rr br4 Br3
    go_wp2_with fail
    with_reducible refine (sameText_yes _ _ _ _ _ _ (hE.rd 3 rfl) (hE.rd 4 rfl) (by omega)).mono ?_
    rintro e r5 ⟨rfl, nd, hw⟩
    subst r5
    replace hE := hE.on (below_drewN (Below.refl _ _) nd)
    have B7 := below_drewN Br4 nd
    clear rA rB rP rQ Br4 qb qc hlpq Ha Hb Hx1 Hx2
    go_wp2_with fail
    go_loopw [21, 22] (fun s i wr => ∃ (k t : Nat), k ≤ d.length ∧ i = .int .i64 k ∧ s = .int .i64 t ∧ Hid (t = 0 + ((d.take k).filter (fun z => decide (z ∈ a ∧ z ∈ b))).length) ∧ t ≤ 0 + k ∧ Els wr [(Ad, d), (Aa0, a), (Ab0, b), (Ax1, x), (Ax2, x)] ∧ Below w.heap.size w wr) (fun s i wr => d.length - (intOf i).toNat)
    case atStart => exact ⟨0, 0, Nat.zero_le _, rfl, rfl, Lib.hid (by simp), by omega, hE, B7⟩
    case round =>
      clear hE B7
      obtain ⟨k, t, hk, rfl, rfl, ht, htk, hE, hB⟩ := hrel
      by_cases hlt : k < d.length
      · obtain ⟨b1, o1, z, rfl, hz, hbl, e0, e1, e2⟩ := (hE.rd 0 rfl).el k hlt
        have hzm : Hid (z ∈ d) := Lib.hid (List.mem_of_getElem? hz.out)
        by_cases haz : z ∈ a
        · have Haz := Lib.hid haz
          clear haz
          by_cases hbz : z ∈ b
          · have Hbz := Lib.hid hbz
            clear hbz
            go_wp2_with fail
            with_reducible refine (place_yes _ _ _ _ _ _ _ (hE.rd 1 rfl) (by omega) Haz.out).mono ?_
            rintro e v1 ⟨k1, rfl, bb1⟩
            replace hE := hE.on bb1
            have B_1 := hB.trans (bb1.mono hB.size)
            have x1_0 := (bb1.cell (p := ⟨b1, _, none⟩) hbl).trans e0
            have x1_1 := (bb1.cell (p := ⟨b1, _, none⟩) hbl).trans e1
            have x1_2 := (bb1.cell (p := ⟨b1, _, none⟩) hbl).trans e2
            have hbl_1 := Nat.lt_of_lt_of_le hbl bb1.size
            clear e0 e1 e2 hbl hB
            have hbl := hbl_1
            clear hbl_1
            go_wp2_with fail
            with_reducible refine (place_yes _ _ _ _ _ _ _ (hE.rd 2 rfl) (by omega) Hbz.out).mono ?_
            rintro e v2 ⟨k2, rfl, bb2⟩
            replace hE := hE.on bb2
            have B_2 := B_1.trans (bb2.mono B_1.size)
            have x2_0 := (bb2.cell (p := ⟨b1, _, none⟩) hbl).trans x1_0
            have x2_1 := (bb2.cell (p := ⟨b1, _, none⟩) hbl).trans x1_1
            have x2_2 := (bb2.cell (p := ⟨b1, _, none⟩) hbl).trans x1_2
            have hbl_2 := Nat.lt_of_lt_of_le hbl bb2.size
            clear x1_0 x1_1 x1_2 hbl B_1
            have hbl := hbl_2
            clear hbl_2
            go_wp2_with fail
            with_reducible refine (place_yes _ _ _ _ _ _ _ (hE.rd 3 rfl) (by omega) ((mem_merge Hm.out z).2 (.inl ⟨hzm.out, Haz.out, Hbz.out⟩))).mono ?_
            rintro e v3 ⟨k3, rfl, bb3⟩
            replace hE := hE.on bb3
            have B_3 := B_2.trans (bb3.mono B_2.size)
            have x3_0 := (bb3.cell (p := ⟨b1, _, none⟩) hbl).trans x2_0
            have x3_1 := (bb3.cell (p := ⟨b1, _, none⟩) hbl).trans x2_1
            have x3_2 := (bb3.cell (p := ⟨b1, _, none⟩) hbl).trans x2_2
            have hbl_3 := Nat.lt_of_lt_of_le hbl bb3.size
            clear x2_0 x2_1 x2_2 hbl B_2
            have hbl := hbl_3
            clear hbl_3
            go_wp2_with fail
            go_roundw
            case rel => exact ⟨k + 1, t + 1, by omega, by go_num, rfl, Lib.hid (by rw [filter_take_yes hz.out (decide_eq_true (And.intro Haz.out Hbz.out)), ht.out]; rfl), by omega, hE, B_3⟩
            case measure => simp [intOf]; omega
          · have Hbz := Lib.hid hbz
            clear hbz
            go_wp2_with fail
            with_reducible refine (place_yes _ _ _ _ _ _ _ (hE.rd 1 rfl) (by omega) Haz.out).mono ?_
            rintro e v4 ⟨k4, rfl, bb4⟩
            replace hE := hE.on bb4
            have B_4 := hB.trans (bb4.mono hB.size)
            have x4_0 := (bb4.cell (p := ⟨b1, _, none⟩) hbl).trans e0
            have x4_1 := (bb4.cell (p := ⟨b1, _, none⟩) hbl).trans e1
            have x4_2 := (bb4.cell (p := ⟨b1, _, none⟩) hbl).trans e2
            have hbl_4 := Nat.lt_of_lt_of_le hbl bb4.size
            clear e0 e1 e2 hbl hB
            have hbl := hbl_4
            clear hbl_4
            go_wp2_with fail
            with_reducible refine (place_no _ _ _ _ _ _ _ (hE.rd 2 rfl) (by omega) Hbz.out).mono ?_
            rintro e v5 ⟨rfl, bb5⟩
            replace hE := hE.on bb5
            have B_5 := B_4.trans (bb5.mono B_4.size)
            have x5_0 := (bb5.cell (p := ⟨b1, _, none⟩) hbl).trans x4_0
            have x5_1 := (bb5.cell (p := ⟨b1, _, none⟩) hbl).trans x4_1
            have x5_2 := (bb5.cell (p := ⟨b1, _, none⟩) hbl).trans x4_2
            have hbl_5 := Nat.lt_of_lt_of_le hbl bb5.size
            clear x4_0 x4_1 x4_2 hbl B_4
            have hbl := hbl_5
            clear hbl_5
            go_wp2_with fail
            go_roundw
            case rel => exact ⟨k + 1, t, by omega, by go_num, rfl, Lib.hid (by rw [filter_take_no hz.out (decide_eq_false (fun h => Hbz.out h.2)), ht.out]), by omega, hE, B_5⟩
            case measure => simp [intOf]; omega
        · have Haz := Lib.hid haz
          clear haz
          go_wp2_with fail
          with_reducible refine (place_no _ _ _ _ _ _ _ (hE.rd 1 rfl) (by omega) Haz.out).mono ?_
          rintro e v6 ⟨rfl, bb6⟩
          replace hE := hE.on bb6
          have B_6 := hB.trans (bb6.mono hB.size)
          have x6_0 := (bb6.cell (p := ⟨b1, _, none⟩) hbl).trans e0
          have x6_1 := (bb6.cell (p := ⟨b1, _, none⟩) hbl).trans e1
          have x6_2 := (bb6.cell (p := ⟨b1, _, none⟩) hbl).trans e2
          have hbl_6 := Nat.lt_of_lt_of_le hbl bb6.size
          clear e0 e1 e2 hbl hB
          have hbl := hbl_6
          clear hbl_6
          go_wp2_with fail
          go_roundw
          case rel => exact ⟨k + 1, t, by omega, by go_num, rfl, Lib.hid (by rw [filter_take_no hz.out (decide_eq_false (fun h => Haz.out h.1)), ht.out]), by omega, hE, B_6⟩
          case measure => simp [intOf]; omega
      · have hkn : k = d.length := by omega
        have T1 : Hid (t = (d.filter (fun z => decide (z ∈ a ∧ z ∈ b))).length) := Lib.hid (by rw [ht.out, hkn, List.take_length]; omega)
        clear ht hkn
        go_wp2_with fail
        clear hlt
        go_loopw [21, 23] (fun s i wr => ∃ (k s2 : Nat), k ≤ a.length ∧ i = .int .i64 k ∧ s = .int .i64 s2 ∧ Hid (s2 = t + ((a.take k).filter (fun z => decide (z.l = 2))).length) ∧ s2 ≤ 4096 + k ∧ Els wr [(Ad, d), (Aa0, a), (Ab0, b), (Ax1, x), (Ax2, x)] ∧ Below w.heap.size w wr) (fun s i wr => a.length - (intOf i).toNat)
        case atStart => exact ⟨0, t, Nat.zero_le _, rfl, rfl, Lib.hid (by simp), by omega, hE, hB⟩
        case round =>
          clear hE hB
          obtain ⟨k, s2, hk, rfl, rfl, ht, htk, hE, hB⟩ := hrel
          by_cases hlt : k < a.length
          · obtain ⟨b1, o1, z, rfl, hz, hbl, e0, e1, e2⟩ := (hE.rd 1 rfl).el k hlt
            have hzm : Hid (z ∈ a) := Lib.hid (List.mem_of_getElem? hz.out)
            by_cases hzl : z.l = 2
            · have HZ := Lib.hid hzl
              have hq : (z.l == 2) = true := by simpa using hzl
              clear hzl
              go_wp2_with fail
              with_reducible refine (place_yes _ _ _ _ _ _ _ (hE.rd 3 rfl) (by omega) ((mem_merge Hm.out z).2 (.inr ⟨fun h => by have := hone.out z h; have := HZ.out; omega, .inl hzm.out⟩))).mono ?_
              rintro e v7 ⟨k7, rfl, bb7⟩
              replace hE := hE.on bb7
              have B_7 := hB.trans (bb7.mono hB.size)
              have x7_0 := (bb7.cell (p := ⟨b1, _, none⟩) hbl).trans e0
              have x7_1 := (bb7.cell (p := ⟨b1, _, none⟩) hbl).trans e1
              have x7_2 := (bb7.cell (p := ⟨b1, _, none⟩) hbl).trans e2
              have hbl_7 := Nat.lt_of_lt_of_le hbl bb7.size
              clear e0 e1 e2 hbl hB
              have hbl := hbl_7
              clear hbl_7
              go_wp2_with fail
              go_roundw
              case rel => exact ⟨k + 1, s2 + 1, by omega, by go_num, rfl, Lib.hid (by rw [filter_take_yes hz.out (decide_eq_true HZ.out), ht.out]; rfl), by omega, hE, B_7⟩
              case measure => simp [intOf]; omega
            · have HZ := Lib.hid hzl
              have hq : (z.l == 2) = false := by simpa using hzl
              clear hzl
              go_wp2_with fail
              go_roundw
              case rel => exact ⟨k + 1, s2, by omega, by go_num, rfl, Lib.hid (by rw [filter_take_no hz.out (decide_eq_false HZ.out), ht.out]), by omega, hE, hB⟩
              case measure => simp [intOf]; omega
          · have hkn : k = a.length := by omega
            have T2 : Hid (s2 = t + (a.filter (fun z => decide (z.l = 2))).length) := Lib.hid (by rw [ht.out, hkn, List.take_length])
            clear ht hkn
            go_wp2_with fail
            clear hlt
            go_loopw [21, 24] (fun s i wr => ∃ (k s3 : Nat), k ≤ b.length ∧ i = .int .i64 k ∧ s = .int .i64 s3 ∧ Hid (s3 = s2 + ((b.take k).filter (fun z => decide (z.l = 3))).length) ∧ s3 ≤ 16384 + k ∧ Els wr [(Ad, d), (Aa0, a), (Ab0, b), (Ax1, x), (Ax2, x)] ∧ Below w.heap.size w wr) (fun s i wr => b.length - (intOf i).toNat)
            case atStart => exact ⟨0, s2, Nat.zero_le _, rfl, rfl, Lib.hid (by simp), by omega, hE, hB⟩
            case round =>
              clear hE hB
              obtain ⟨k, s3, hk, rfl, rfl, ht, htk, hE, hB⟩ := hrel
              by_cases hlt : k < b.length
              · obtain ⟨b1, o1, z, rfl, hz, hbl, e0, e1, e2⟩ := (hE.rd 2 rfl).el k hlt
                have hzm : Hid (z ∈ b) := Lib.hid (List.mem_of_getElem? hz.out)
                by_cases hzl : z.l = 3
                · have HZ := Lib.hid hzl
                  have hq : (z.l == 3) = true := by simpa using hzl
                  clear hzl
                  go_wp2_with fail
                  with_reducible refine (place_yes _ _ _ _ _ _ _ (hE.rd 3 rfl) (by omega) ((mem_merge Hm.out z).2 (.inr ⟨fun h => by have := hone.out z h; have := HZ.out; omega, .inr hzm.out⟩))).mono ?_
                  rintro e v8 ⟨k8, rfl, bb8⟩
                  replace hE := hE.on bb8
                  have B_8 := hB.trans (bb8.mono hB.size)
                  have x8_0 := (bb8.cell (p := ⟨b1, _, none⟩) hbl).trans e0
                  have x8_1 := (bb8.cell (p := ⟨b1, _, none⟩) hbl).trans e1
                  have x8_2 := (bb8.cell (p := ⟨b1, _, none⟩) hbl).trans e2
                  have hbl_8 := Nat.lt_of_lt_of_le hbl bb8.size
                  clear e0 e1 e2 hbl hB
                  have hbl := hbl_8
                  clear hbl_8
                  go_wp2_with fail
                  go_roundw
                  case rel => exact ⟨k + 1, s3 + 1, by omega, by go_num, rfl, Lib.hid (by rw [filter_take_yes hz.out (decide_eq_true HZ.out), ht.out]; rfl), by omega, hE, B_8⟩
                  case measure => simp [intOf]; omega
                · have HZ := Lib.hid hzl
                  have hq : (z.l == 3) = false := by simpa using hzl
                  clear hzl
                  go_wp2_with fail
                  go_roundw
                  case rel => exact ⟨k + 1, s3, by omega, by go_num, rfl, Lib.hid (by rw [filter_take_no hz.out (decide_eq_false HZ.out), ht.out]), by omega, hE, hB⟩
                  case measure => simp [intOf]; omega
              · have hkn : k = b.length := by omega
                have T3 : s3 = s2 + (b.filter (fun z => decide (z.l = 3))).length := by rw [ht.out, hkn, List.take_length]
                have hfin : ((x.length : Int) == s3) = true := by
                  have := merge_count htag.out.1 Hn.out.2.1 Hn.out.2.2 Hn.out.1 hone.out Hoa.out Hob.out Hm.out
                  have h1 := T1.out
                  have h2 := T2.out
                  simp only [beq_iff_eq]
                  omega
                clear ht hkn T3
                go_wp2
                go_ret
                exact ⟨rfl, hB⟩
end Go.Proofs.YtkicbnkacjnhoaaDoor
