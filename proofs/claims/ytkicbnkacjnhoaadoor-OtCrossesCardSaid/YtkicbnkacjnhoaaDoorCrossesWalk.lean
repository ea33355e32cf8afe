/- The walk of jotterlaw05.OtCrosses: it answers true. -/
import Derived.Test.YtkicbnkacjnhoaaDoorSquareWalk
import Derived.Test.YtkicbnkacjnhoaaDoorAll
import Derived.Test.YtkicbnkacjnhoaaDoorCross
namespace Go.Proofs.YtkicbnkacjnhoaaDoor
open Go.RowKit
set_option linter.unusedVariables false
set_option linter.unusedSimpArgs false

theorem Blk.newAt {W : World} {b : Nat} {cs : Array Value} {t : TypeId} (h : W.heap.size = b) : Blk (W.alloc (.cells cs t)) b cs t := by
  subst h
  exact Blk.new W cs t

/-- What two operations that fit leave, either way round. -/
theorem cross_plain {d : List PEl} {x y : POp} (hx : FitsAll d.length 2 x) (hy : FitsAll d.length 3 y) (hd : d.length ≤ 40) :
    ∃ z : List PEl, runL d [x, shift y x false] = some z ∧ runL d [y, shift x y true] = some z ∧ z.length ≤ 100 ∧
      (x.k = 1 → y.k = 1 → x.p = y.p → ∃ p : Nat, x.p = p ∧ p ≤ 40 ∧ ∃ u v : PEl, z[p]? = some u ∧ u.l = 2 ∧ z[p + 1]? = some v ∧ v.l = 3) := by
  obtain ⟨da, ha⟩ := fitsAll_put hx
  obtain ⟨db, hb⟩ := fitsAll_put hy
  obtain ⟨z, h1, h2⟩ := square ha hb (by omega)
  have e1 : runL d [x, shift y x false] = some z := by simp only [runL, ha, h1]
  have e2 : runL d [y, shift x y true] = some z := by simp only [runL, hb, h2]
  have hl := runL_length _ e1
  simp only [List.length_cons, List.length_nil] at hl
  refine ⟨z, e1, e2, by omega, fun kx ky hp => ?_⟩
  rcases hx.2.2 with ⟨_, p, hxp, hle⟩ | ⟨h, _⟩ | ⟨h, _⟩
  · have hda : da = ins d p ⟨x.c, x.l, x.s⟩ := Option.some.inj (ha.symm.trans (putL_ins p kx hxp hle))
    have hs : shift y x false = { y with p := ((p + 1 : Nat) : Int) } := (sh_ii ky kx).trans (with_p _ (by rw [pastII_f, if_pos (by omega), wrap64_small (by omega) (by omega)]; omega))
    have hle2 : p + 1 ≤ da.length := by rw [hda, ins_length]; omega
    rw [hs, putL_ins (p + 1) (show ({ y with p := ((p + 1 : Nat) : Int) } : POp).k = 1 from ky) rfl hle2] at h1
    have hz := Option.some.inj h1
    refine ⟨p, hxp, by omega, ⟨x.c, x.l, x.s⟩, ⟨y.c, y.l, y.s⟩, ?_, hx.1, ?_, hy.1⟩
    · rw [← hz, ins_get_lo _ da (p + 1) p (by omega) hle2, hda]
      exact ins_get_at _ d p hle
    · rw [← hz]
      exact ins_get_at _ da (p + 1) hle2
  · omega
  · omega
theorem Blk.rdTwo {w : World} {b : Nat} {t : TypeId} {x y : POp} (h : Blk w b #[.int .i64 x.k, .int .i64 x.p, .int .u8 x.c, .int .i64 x.l, .int .i64 x.s, .int .i64 y.k, .int .i64 y.p, .int .u8 y.c, .int .i64 y.l, .int .i64 y.s] t) : Rd opF w (some ⟨b, 0, none⟩) [x, y] :=
  ⟨fun i hi => ⟨b, 0, rfl, fun j u hu => by
    have hj : j < 5 := by have := (List.getElem?_eq_some_iff.1 hu).1; simpa [opF] using this
    have h2 : i = 0 ∨ i = 1 := by simp at hi; omega
    have h5 : j = 0 ∨ j = 1 ∨ j = 2 ∨ j = 3 ∨ j = 4 := by omega
    rw [h.cell]
    rcases h2 with rfl | rfl <;> rcases h5 with rfl | rfl | rfl | rfl | rfl <;> simpa [opF] using hu⟩⟩
theorem run_n (A B : Option Addr) (c0 cb m : Nat) (d e : List PEl) (l : List POp) (w : World) (hm : l.length = m) (hd : Rd elF w A d) (hl : Rd opF w B l) (hc : d.length ≤ c0) (hn : d.length + l.length ≤ 6000000000000) (h : runL d l = some e) :
    Calls Tryd.prog 28 #[.slice A d.length c0, .slice B m cb] w fun r w' => ∃ A' cap, r = .returned (.tuple #[.slice A' e.length cap, .bool true]) ∧ Rd elF w' A' e ∧ e.length ≤ cap ∧ Below w.heap.size w w' := by
  subst hm
  exact run_any A B c0 cb d e l w hd hl hc hn h

set_option maxHeartbeats 4000000 in
set_option maxRecDepth 100000 in
theorem crosses_any (nn : Int) (w : World) (hr : RulesAt w) :
    Calls Tryd.prog 5 #[.int .i64 nn] w fun e w' => e = .returned (.bool true) ∧ Below w.heap.size w w' := by
  go_enter Tryd.func5, Tryd.ntmps5
  go_wp2_with fail
  with_reducible refine (rest_any _ _ _ (by omega) (by omega)).mono ?_
  rintro e w0 ⟨n, hn, rfl, hw⟩
  subst w0
  have hn40 : n ≤ 40 := by omega
  clear hn
  go_wp2_with fail
  with_reducible refine (text_rd n _ (by omega)).mono ?_
  rintro e w1 ⟨Ad, cd, d, hdl, hdc, htag, hone, rfl, hOd, B1⟩
  have hdl' := hdl.out
  clear hdl
  subst hdl'
  have hE := (Els.nil w1).add hOd
  clear hOd
  go_wp2_with fail
  with_reducible refine (all_any d.length _ _ hn40).mono ?_
  rintro e w2 ⟨Aa, ca, us, rfl, hfa, hla, hRa, b2⟩
  replace hE := hE.on b2
  have B2 := B1.trans (b2.mono B1.size)
  go_wp2_with fail
  with_reducible refine (all_any d.length _ _ hn40).mono ?_
  rintro e w3 ⟨Ab, cb, vs, rfl, hfb, hlb, hRb, b3⟩
  replace hE := hE.on b3
  have B3 := B2.trans (b3.mono B2.size)
  have hS : St w w3 [] [(Aa, us), (Ab, vs)] := ⟨hr.on B3, B3, by simp, by
    intro p hp
    simp only [List.mem_cons, List.not_mem_nil, or_false] at hp
    rcases hp with rfl | rfl
    · exact hRa.below b3
    · exact hRb⟩
  clear hRa hRb b2 b3 B1 B2 B3 hr
  go_wp2_with fail
  go_loopw [6] (fun i wr => ∃ k : Nat, k ≤ us.length ∧ i = .int .i64 k ∧ Els wr [(Ad, d)] ∧ St w wr [] [(Aa, us), (Ab, vs)]) (fun i wr => us.length - (intOf i).toNat)
  case atStart => exact ⟨0, Nat.zero_le _, rfl, hE, hS⟩
  case round =>
    clear hE hS
    obtain ⟨i, hi, rfl, hE, hS⟩ := hrel
    by_cases hlt : i < us.length
    · go_wp2_with fail
      obtain ⟨wo, hwo⟩ : ∃ wo : World, wo = wr := ⟨_, rfl⟩
      go_loopw [7] (fun j wr => ∃ k : Nat, k ≤ vs.length ∧ j = .int .i64 k ∧ Els wr [(Ad, d)] ∧ St w wr [] [(Aa, us), (Ab, vs)]) (fun j wr => vs.length - (intOf j).toNat)
      case atStart => exact ⟨0, Nat.zero_le _, rfl, hE, hS⟩
      case round =>
        clear hE hS
        obtain ⟨j, hj, rfl, hE, hS⟩ := hrel
        by_cases hlt2 : j < vs.length
        · obtain ⟨ba, oa, x, rfl, hx, hba, FA⟩ := (hS.rd 0 rfl).five i hlt
          obtain ⟨bb, ob, y, rfl, hy, hbb, FB⟩ := (hS.rd 1 rfl).five j hlt2
          have hrW := hS.rules
          go_upto_region 11 with fail
          go_cut [8, 9] from 27 to 126 (fun pv qv wx => ∃ (g h : Nat) (a2 b2 : POp), Hid (shift x y true = a2) ∧ Hid (shift y x false = b2) ∧ pv = .pointer (some ⟨g, 0, none⟩) ∧ qv = .pointer (some ⟨h, 0, none⟩) ∧ Blk wx g #[.int .i64 a2.k, .int .i64 a2.p, .int .u8 a2.c, .int .i64 a2.l, .int .i64 a2.s] 23 ∧ Blk wx h #[.int .i64 b2.k, .int .i64 b2.p, .int .u8 b2.c, .int .i64 b2.l, .int .i64 b2.s] 23 ∧ Below wr.heap.size wr wx)
          case first =>
            go_region_held3 (fun V => (V.cell? ⟨ba, oa + i * 5, none⟩ = some (.int .i64 x.k) ∧ V.cell? ⟨ba, oa + i * 5 + 1, none⟩ = some (.int .i64 x.p) ∧ V.cell? ⟨ba, oa + i * 5 + 2, none⟩ = some (.int .u8 x.c) ∧ V.cell? ⟨ba, oa + i * 5 + 3, none⟩ = some (.int .i64 x.l) ∧ V.cell? ⟨ba, oa + i * 5 + 4, none⟩ = some (.int .i64 x.s)) ∧ (V.cell? ⟨bb, ob + j * 5, none⟩ = some (.int .i64 y.k) ∧ V.cell? ⟨bb, ob + j * 5 + 1, none⟩ = some (.int .i64 y.p) ∧ V.cell? ⟨bb, ob + j * 5 + 2, none⟩ = some (.int .u8 y.c) ∧ V.cell? ⟨bb, ob + j * 5 + 3, none⟩ = some (.int .i64 y.l) ∧ V.cell? ⟨bb, ob + j * 5 + 4, none⟩ = some (.int .i64 y.s)))
              (first | (with_reducible refine And.intro (five_keep FA ?_ hba) (five_keep FB ?_ hbb) <;> (repeat' (first | with_reducible exact Below.refl _ _ | with_reducible exact hB1 | with_reducible refine Below.drew ?_ | with_reducible refine below_alloc ?_ _ | with_reducible refine Below.setCell ?_ (by first | exact Nat.le_refl _ | simp | exact Below.size hB1 | (have := Below.size hB1; omega)) _ | fail))) | fail)
              (first
                | (go_at_call 23; (with_reducible refine (cross_any _ _ _ _ _ _ _ _ _ _ _ (hrW.on (by (repeat' (first | with_reducible exact Below.refl _ _ | with_reducible exact hB1 | with_reducible refine Below.drew ?_ | with_reducible refine below_alloc ?_ _ | with_reducible refine Below.setCell ?_ (by first | exact Nat.le_refl _ | simp | exact Below.size hB1 | (have := Below.size hB1; omega)) _ | fail))))).mono ?_); rintro e w1 ⟨a2, b2, ha2, hb2, rfl, hb⟩; (have hB1 : Below wr.heap.size wr w1 := by first | exact (Below.refl _ _).drew.trans hb | exact (below_alloc (Below.refl _ _) _).drew.trans (hb.mono (by simp)) | exact (below_alloc (below_alloc (Below.refl _ _) _) _).drew.trans (hb.mono (by simp; omega))); (try (have k0 := (Blk.new wr #[.int .i64 0, .int .i64 0, .int .u8 0, .int .i64 0, .int .i64 0] 23).drew.on hb)); (try (have k0 := ((Blk.new wr #[.int .i64 0, .int .i64 0, .int .u8 0, .int .i64 0, .int .i64 0] 23).alloc (.cells #[.int .i64 0, .int .i64 0, .int .u8 0, .int .i64 0, .int .i64 0] 23)).drew.on hb; have k1 := (Blk.new1 wr (.cells #[.int .i64 0, .int .i64 0, .int .u8 0, .int .i64 0, .int .i64 0] 23) #[.int .i64 0, .int .i64 0, .int .u8 0, .int .i64 0, .int .i64 0] 23).drew.on hb)); (try (have z0 := k0.frozen; obtain ⟨m0, m1, m2, m3, m4⟩ := k0.cells5)); (try (have z1 := k1.frozen; obtain ⟨n0, n1, n2, n3, n4⟩ := k1.cells5)); (try (have l0 := k0.lt)); (try (have l1 := k1.lt)))
                | fail)
            · go_wp2_with fail
              go_meet
              exact ⟨w1.heap.size, w1.heap.size + 1, a2, b2, ha2, hb2, rfl, rfl, (Blk.new w1 _ _).alloc _, Blk.new1 w1 _ _ _, below_alloc (below_alloc hB1 _) _⟩
            · go_wp2_with fail
              go_meet
              exact ⟨w1.heap.size + 1, w1.heap.size, a2, b2, ha2, hb2, rfl, rfl, Blk.new1 w1 _ _ _, (Blk.new w1 _ _).alloc _, below_alloc (below_alloc hB1 _) _⟩
            · go_wp2_with fail
              go_meet
              first
                | exact ⟨wr.heap.size, w1.heap.size, a2, b2, ha2, hb2, rfl, rfl, (k0.set5 _ _ _ _ _).alloc _, Blk.newAt (by simp), below_alloc (below_put5 hB1 (Nat.le_refl _) _ _ _ _ _) _⟩
                | exact ⟨wr.heap.size, w1.heap.size, a2, b2, ha2, hb2, rfl, rfl, (k0.alloc _).set5 _ _ _ _ _, (Blk.new w1 _ _).other5 (by omega) _ _ _ _ _, below_put5 (below_alloc hB1 _) (Nat.le_refl _) _ _ _ _ _⟩
            · go_wp2_with fail
              go_meet
              exact ⟨wr.heap.size, wr.heap.size + 1, a2, b2, ha2, hb2, rfl, rfl, (k0.set5 _ _ _ _ _).other5 (by omega) _ _ _ _ _, (k1.other5 (by omega) _ _ _ _ _).set5 _ _ _ _ _, below_put5 (below_put5 hB1 (Nat.le_refl _) _ _ _ _ _) (by omega) _ _ _ _ _⟩
            · go_wp2_with fail
              go_meet
              first
                | exact ⟨w1.heap.size, wr.heap.size, a2, b2, ha2, hb2, rfl, rfl, Blk.newAt (by simp), (k0.set5 _ _ _ _ _).alloc _, below_alloc (below_put5 hB1 (Nat.le_refl _) _ _ _ _ _) _⟩
                | exact ⟨w1.heap.size, wr.heap.size, a2, b2, ha2, hb2, rfl, rfl, (Blk.new w1 _ _).other5 (by omega) _ _ _ _ _, (k0.alloc _).set5 _ _ _ _ _, below_put5 (below_alloc hB1 _) (Nat.le_refl _) _ _ _ _ _⟩
            · go_wp2_with fail
              go_meet
              exact ⟨wr.heap.size + 1, wr.heap.size, a2, b2, ha2, hb2, rfl, rfl, (k1.set5 _ _ _ _ _).other5 (by omega) _ _ _ _ _, (k0.other5 (by omega) _ _ _ _ _).set5 _ _ _ _ _, below_put5 (below_put5 hB1 (by omega) _ _ _ _ _) (Nat.le_refl _) _ _ _ _ _⟩
          case rest =>
            obtain ⟨g8, g9, a2, b2, ha2, hb2, rfl, rfl, kP, kQ, hX⟩ := hcut
            have hplain := cross_plain (hfa.out x (List.mem_of_getElem? hx.out)) (hfb.out y (List.mem_of_getElem? hy.out)) hn40
            rw [ha2.out, hb2.out] at hplain
            obtain ⟨z, hz1, hz2, hzl, hpos⟩ := hplain
            have HZ1 := Lib.hid hz1
            have HZ2 := Lib.hid hz2
            have HPOS := Lib.hid hpos
            have FA1 := five_keep FA hX hba
            have FB1 := five_keep FB hX hbb
            have hba1 := Nat.lt_of_lt_of_le hba hX.size
            have hbb1 := Nat.lt_of_lt_of_le hbb hX.size
            replace hS := hS.step hX
            replace hE := hE.on hX
            clear hz1 hz2 hpos ha2 hb2 hrW hX hba hbb FA FB
            go_upto_region 12 with fail
            have lq12 := kQ.lt
            have FQ12 : FiveAt wc g9 0 b2 := kQ.cells5
            go_cut [10, 11] from 27 to 126 (fun pv qv wx => ∃ (Az : Option Addr) (cz : Nat), pv = .slice Az z.length cz ∧ qv = .bool true ∧ Hid (z.length ≤ cz) ∧ Rd elF wx Az z ∧ Below wc.heap.size wc wx)
            case first =>
              go_region_held3 (fun V => (V.cell? ⟨ba, oa + i * 5, none⟩ = some (.int .i64 x.k) ∧ V.cell? ⟨ba, oa + i * 5 + 1, none⟩ = some (.int .i64 x.p) ∧ V.cell? ⟨ba, oa + i * 5 + 2, none⟩ = some (.int .u8 x.c) ∧ V.cell? ⟨ba, oa + i * 5 + 3, none⟩ = some (.int .i64 x.l) ∧ V.cell? ⟨ba, oa + i * 5 + 4, none⟩ = some (.int .i64 x.s)) ∧ (V.cell? ⟨g9, 0, none⟩ = some (.int .i64 b2.k) ∧ V.cell? ⟨g9, 1, none⟩ = some (.int .i64 b2.p) ∧ V.cell? ⟨g9, 2, none⟩ = some (.int .u8 b2.c) ∧ V.cell? ⟨g9, 3, none⟩ = some (.int .i64 b2.l) ∧ V.cell? ⟨g9, 4, none⟩ = some (.int .i64 b2.s)))
                (first | (with_reducible refine And.intro (five_keep FA1 ?_ hba1) (five_keep FQ12 ?_ lq12) <;> (repeat' (first | with_reducible exact Below.refl _ _ | with_reducible exact hB1 | with_reducible refine Below.drew ?_ | with_reducible refine below_alloc ?_ _ | with_reducible refine Below.setCell ?_ (by first | exact Nat.le_refl _ | simp | exact Below.size hB1 | (have := Below.size hB1; omega)) _ | fail))) | fail)
                (first
                  | (go_at_call 28; go_must (refine (run_n _ _ _ _ _ d z [x, b2] _ rfl ((hE.rd 0 rfl).below (by (repeat' (first | with_reducible exact Below.refl _ _ | with_reducible exact hB1 | with_reducible refine Below.drew ?_ | with_reducible refine below_alloc ?_ _ | with_reducible refine Below.setCell ?_ (by first | exact Nat.le_refl _ | simp | exact Below.size hB1 | (have := Below.size hB1; omega)) _ | fail)))) (Blk.new wc _ _).drew.rdTwo hdc.out (by simp; omega) HZ1.out).mono ?_); rintro e w1 ⟨Az, cz, rfl, rz, hcz, hb⟩; have hB1 := (below_alloc (Below.refl wc.heap.size wc) _).drew.trans (hb.mono (by simp)); have HCZ := Lib.hid hcz; clear hcz)
                  | fail)
              all_goals
                go_wp2_with fail
                go_meet
                exact ⟨Az, cz, rfl, rfl, HCZ, rz, hB1⟩
            case rest =>
              obtain ⟨Ax, cx, rfl, rfl, hcx, rX, hX⟩ := hcut
              have FA2 := five_keep FA1 hX hba1
              have FB2 := five_keep FB1 hX hbb1
              have hba2 := Nat.lt_of_lt_of_le hba1 hX.size
              have hbb2 := Nat.lt_of_lt_of_le hbb1 hX.size
              have kP1 := kP.on hX
              replace hS := hS.step hX
              replace hE := (hE.on hX).add rX
              clear FA1 FB1 hba1 hbb1 kP kQ rX hX lq12 FQ12
              go_upto_region 15 with fail
              have lq15 := kP1.lt
              have FQ15 : FiveAt wc g8 0 a2 := kP1.cells5
              go_cut [12, 11] from 27 to 126 (fun pv qv wx => ∃ (Az : Option Addr) (cz : Nat), pv = .slice Az z.length cz ∧ qv = .bool true ∧ Hid (z.length ≤ cz) ∧ Rd elF wx Az z ∧ Below wc.heap.size wc wx)
              case first =>
                go_region_held3 (fun V => (V.cell? ⟨bb, ob + j * 5, none⟩ = some (.int .i64 y.k) ∧ V.cell? ⟨bb, ob + j * 5 + 1, none⟩ = some (.int .i64 y.p) ∧ V.cell? ⟨bb, ob + j * 5 + 2, none⟩ = some (.int .u8 y.c) ∧ V.cell? ⟨bb, ob + j * 5 + 3, none⟩ = some (.int .i64 y.l) ∧ V.cell? ⟨bb, ob + j * 5 + 4, none⟩ = some (.int .i64 y.s)) ∧ (V.cell? ⟨g8, 0, none⟩ = some (.int .i64 a2.k) ∧ V.cell? ⟨g8, 1, none⟩ = some (.int .i64 a2.p) ∧ V.cell? ⟨g8, 2, none⟩ = some (.int .u8 a2.c) ∧ V.cell? ⟨g8, 3, none⟩ = some (.int .i64 a2.l) ∧ V.cell? ⟨g8, 4, none⟩ = some (.int .i64 a2.s)))
                  (first | (with_reducible refine And.intro (five_keep FB2 ?_ hbb2) (five_keep FQ15 ?_ lq15) <;> (repeat' (first | with_reducible exact Below.refl _ _ | with_reducible exact hB1 | with_reducible refine Below.drew ?_ | with_reducible refine below_alloc ?_ _ | with_reducible refine Below.setCell ?_ (by first | exact Nat.le_refl _ | simp | exact Below.size hB1 | (have := Below.size hB1; omega)) _ | fail))) | fail)
                  (first
                    | (go_at_call 28; go_must (refine (run_n _ _ _ _ _ d z [y, a2] _ rfl ((hE.rd 0 rfl).below (by (repeat' (first | with_reducible exact Below.refl _ _ | with_reducible exact hB1 | with_reducible refine Below.drew ?_ | with_reducible refine below_alloc ?_ _ | with_reducible refine Below.setCell ?_ (by first | exact Nat.le_refl _ | simp | exact Below.size hB1 | (have := Below.size hB1; omega)) _ | fail)))) (Blk.new wc _ _).drew.rdTwo hdc.out (by simp; omega) HZ2.out).mono ?_); rintro e w1 ⟨Az, cz, rfl, rz, hcz, hb⟩; have hB1 := (below_alloc (Below.refl wc.heap.size wc) _).drew.trans (hb.mono (by simp)); have HCZ := Lib.hid hcz; clear hcz)
                    | fail)
                all_goals
                  go_wp2_with fail
                  go_meet
                  exact ⟨Az, cz, rfl, rfl, HCZ, rz, hB1⟩
              case rest =>
                obtain ⟨Ay, cy, rfl, rfl, hcy, rY, hX⟩ := hcut
                have FA3 := five_keep FA2 hX hba2
                have FB3 := five_keep FB2 hX hbb2
                replace hS := hS.step hX
                replace hE := (hE.on hX).add rY
                clear FA2 FB2 rY hX kP1 hcy hba2 hbb2
                go_wp2_with fail
                with_reducible refine (sameText_yes _ _ _ _ _ _ (hE.rd 1 rfl) (hE.rd 2 rfl) (by omega)).mono ?_
                rintro e w5 ⟨rfl, nd, hw⟩
                subst w5
                have hE0 := hE
                replace hE := hE.on (below_drewN (Below.refl _ _) nd)
                replace hS := hS.drewN nd
                obtain ⟨e0, e1, e2, e3, e4⟩ := FA3
                obtain ⟨f0, f1, f2, f3, f4⟩ := FB3
                by_cases hxk : x.k = 1
                · by_cases hyk : y.k = 1
                  · by_cases hpp : x.p = y.p
                    · obtain ⟨p, hxp, hp40, u, v, hu, hul, hv, hvl⟩ := HPOS.out hxk hyk hpp
                      have HU := Lib.hid hu
                      have HV := Lib.hid hv
                      have hp1 : p < z.length := (List.getElem?_eq_some_iff.1 hu).1
                      have hp2 : p + 1 < z.length := (List.getElem?_eq_some_iff.1 hv).1
                      obtain ⟨bz, oz, u', hAx, hu', hbz, _, d1, _⟩ := (hE0.rd 1 rfl).el p hp1
                      have huu : u' = u := Option.some.inj (hu'.out.symm.trans HU.out)
                      subst huu
                      obtain ⟨bz2, oz2, v', hAz, hv', _, _, d4, _⟩ := (hE0.rd 1 rfl).el (p + 1) hp2
                      have hvv : v' = v := Option.some.inj (hv'.out.symm.trans HV.out)
                      subst hvv
                      rw [hAx] at hAz
                      obtain ⟨hz1, hz2⟩ : bz = bz2 ∧ oz = oz2 := by injection hAz with h; injection h with h1 h2; exact ⟨h1, h2⟩
                      subst hz1 hz2 hAx
                      clear hAz hu' hv' HU HV hu hv
                      rw [hxk] at e0
                      rw [hxp] at e1
                      rw [hyk] at f0
                      rw [← hpp, hxp] at f1
                      rw [hul] at d1
                      rw [hvl] at d4
                      clear hxk hyk hpp hxp hul hvl
                      go_wp2_with fail
                      go_quiet (fail)
                      replace hE := hE.on (below_drewN (Below.refl _ _) nq)
                      replace hS := hS.drewN nq
                      rw [World.drewN_drewN] at hE hS
                      go_wp2_with fail
                      go_roundw
                      case rel => exact ⟨j + 1, by omega, by go_num, ⟨fun p hp => hE.rds p (by simp at hp; simp [hp])⟩, hS⟩
                      case measure => simp [intOf]; omega
                    · have q1 : (x.k == 1) = true := by simpa using hxk
                      have q2 : (y.k == 1) = true := by simpa using hyk
                      have q3 : (x.p == y.p) = false := by simpa using hpp
                      clear hxk hyk hpp
                      go_wp2_with fail
                      go_quiet (fail)
                      replace hE := hE.on (below_drewN (Below.refl _ _) nq)
                      replace hS := hS.drewN nq
                      rw [World.drewN_drewN] at hE hS
                      go_wp2_with fail
                      go_roundw
                      case rel => exact ⟨j + 1, by omega, by go_num, ⟨fun p hp => hE.rds p (by simp at hp; simp [hp])⟩, hS⟩
                      case measure => simp [intOf]; omega
                  · have q1 : (x.k == 1) = true := by simpa using hxk
                    have q2 : (y.k == 1) = false := by simpa using hyk
                    clear hxk hyk
                    go_wp2_with fail
                    go_quiet (fail)
                    replace hE := hE.on (below_drewN (Below.refl _ _) nq)
                    replace hS := hS.drewN nq
                    rw [World.drewN_drewN] at hE hS
                    go_wp2_with fail
                    go_roundw
                    case rel => exact ⟨j + 1, by omega, by go_num, ⟨fun p hp => hE.rds p (by simp at hp; simp [hp])⟩, hS⟩
                    case measure => simp [intOf]; omega
                · have q1 : (x.k == 1) = false := by simpa using hxk
                  clear hxk
                  go_wp2_with fail
                  go_quiet (fail)
                  replace hE := hE.on (below_drewN (Below.refl _ _) nq)
                  replace hS := hS.drewN nq
                  rw [World.drewN_drewN] at hE hS
                  go_wp2_with fail
                  go_roundw
                  case rel => exact ⟨j + 1, by omega, by go_num, ⟨fun p hp => hE.rds p (by simp at hp; simp [hp])⟩, hS⟩
                  case measure => simp [intOf]; omega
        · go_wp2_with fail
          go_roundw
          case rel => exact ⟨i + 1, by omega, by go_num, hE, hS⟩
          case measure => simp [intOf]; omega
    · go_wp2
      go_ret
      exact ⟨rfl, hS.below⟩
end Go.Proofs.YtkicbnkacjnhoaaDoor
