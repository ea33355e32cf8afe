/- The walks of jotterlaw05.lost and jotterlaw05.meant. -/
import Derived.Test.YtkicbnkacjnhoaaDoorSquareWalk
import Derived.Test.YtkicbnkacjnhoaaDoorOtMean
namespace Go.Proofs.YtkicbnkacjnhoaaDoor
open Go.RowKit
set_option linter.unusedVariables false
set_option linter.unusedSimpArgs false

set_option maxHeartbeats 1000000 in
theorem lost_any (A B : Option Addr) (c0 cb : Nat) (d e : List PEl) (l : List POp) (y0 y1 y2 : Int) (w : World) (hd : Rd elF w A d) (hl : Rd opF w B l) (hc : d.length ≤ c0) (hn : d.length + l.length ≤ 6000000000000) (h : runL d l = some e) (hy : (⟨y0, y1, y2⟩ : PEl) ∈ d) :
    Calls Tryd.prog 39 #[.slice A d.length c0, .slice B l.length cb, .agg #[.int .u8 y0, .int .i64 y1, .int .i64 y2]] w fun r w' => r = .returned (.bool (decide ((⟨y0, y1, y2⟩ : PEl) ∉ e))) ∧ Below w.heap.size w w' := by
  have H := Lib.hid h
  have HY := Lib.hid hy
  have hel : e.length ≤ 6000000000000 := by have := runL_length _ h; omega
  clear h hy
  go_enter Tryd.func39, Tryd.ntmps39
  go_wp2_with fail
  with_reducible refine (run_any _ _ _ _ _ e _ _ (hd.below (below_alloc (Below.refl _ _) _)) (hl.below (below_alloc (Below.refl _ _) _)) hc hn H.out).mono ?_
  rintro r w1 ⟨Ae, ce, rfl, re, hce, b1⟩
  have kz := (Blk.new w #[.int .u8 y0, .int .i64 y1, .int .i64 y2] 41).on b1
  have B1 := (below_alloc (Below.refl w.heap.size w) _).trans (b1.mono (by simp))
  clear hce b1
  obtain ⟨x0, x1, x2, hx⟩ := kz.three
  go_wp2_with fail
  with_reducible refine (place_yes _ _ _ _ _ _ _ (hd.below B1) (by omega) HY.out).mono ?_
  rintro r w2 ⟨k, rfl, b2⟩
  have kz2 := kz.on b2
  have B2 := B1.trans (b2.mono B1.size)
  replace re := re.below b2
  clear x0 x1 x2 hx kz b2 B1
  obtain ⟨x0, x1, x2, hx⟩ := kz2.three
  by_cases hm : (⟨y0, y1, y2⟩ : PEl) ∈ e
  · have HM := Lib.hid hm
    clear hm
    go_wp2_with fail
    with_reducible refine (place_yes _ _ _ _ _ _ _ re (by omega) HM.out).mono ?_
    rintro r w3 ⟨k2, rfl, b3⟩
    go_wp2
    go_ret
    exact ⟨ret_bool (by simp [HM.out]), B2.trans (b3.mono B2.size)⟩
  · have HM := Lib.hid hm
    clear hm
    go_wp2_with fail
    with_reducible refine (place_no _ _ _ _ _ _ _ re (by omega) HM.out).mono ?_
    rintro r w3 ⟨rfl, b3⟩
    go_wp2
    go_ret
    exact ⟨ret_bool (by simp [HM.out]), B2.trans (b3.mono B2.size)⟩

theorem place_at (A : Option Addr) (c : Nat) (xs : List PEl) (y0 y1 y2 : Int) (q : Nat) (w : World) (hl : Rd elF w A xs) (l1 : xs.length ≤ 9223372036854775807) (nd : xs.Nodup) (h : xs[q]? = some ⟨y0, y1, y2⟩) :
    Calls Tryd.prog 41 #[.slice A xs.length c, .agg #[.int .u8 y0, .int .i64 y1, .int .i64 y2]] w fun e w' => e = .returned (.int .i64 q) ∧ Below w.heap.size w w' :=
  (place_any A c xs y0 y1 y2 w hl l1).mono fun e w' ⟨r, he, hr, hb⟩ => by
    rcases hr with ⟨_, hn⟩ | ⟨k, rfl, hk⟩
    · exact absurd (List.mem_of_getElem? h) hn
    · obtain rfl := nodup_idx nd hk h
      exact ⟨he, hb⟩
theorem nodup_ins {e : List PEl} {q : Nat} {x : PEl} (nd : e.Nodup) (hx : x ∉ e) : (ins e q x).Nodup := (ins_perm x e q).nodup_iff.2 (List.nodup_cons.2 ⟨hx, nd⟩)

set_option maxHeartbeats 2000000 in
theorem meant_any (A B : Option Addr) (c0 cb : Nat) (d e : List PEl) (ak : Int) (p q : Nat) (c l s : Int) (w : World) (hd : Rd elF w A d) (he : Rd elF w B e) (hcb : e.length ≤ cb) (ln : d.length ≤ 6000000000000) (le : e.length < 6000000000000)
    (hq : q ≤ e.length) (nd : e.Nodup) (hA : (⟨c, l, s⟩ : PEl) ∉ d) (hAe : (⟨c, l, s⟩ : PEl) ∉ e) (hS : Sides d p e q) :
    Calls Tryd.prog 38 #[.slice A d.length c0, .slice B e.length cb, .agg #[.int .i64 ak, .int .i64 p, .int .u8 c, .int .i64 l, .int .i64 s], .agg #[.int .i64 1, .int .i64 q, .int .u8 c, .int .i64 l, .int .i64 s]] w fun r w' => r = .returned (.bool true) ∧ Below w.heap.size w w' := by
  obtain ⟨f, hf⟩ : ∃ f, f = ins e q ⟨c, l, s⟩ := ⟨_, rfl⟩
  have hput : Hid (putL e ⟨1, q, c, l, s⟩ = some f) := Lib.hid (by rw [hf]; exact putL_ins q rfl rfl hq)
  have hnf : Hid f.Nodup := Lib.hid (by rw [hf]; exact nodup_ins nd hAe)
  have hfq : Hid (f[q]? = some ⟨c, l, s⟩) := Lib.hid (by rw [hf]; exact ins_get_at _ e q hq)
  have hSf : Hid (Sides d p f q) := Lib.hid (by rw [hf]; exact hS.ins _ hA hq)
  have hfl : Hid (f.length = e.length + 1) := Lib.hid (by rw [hf, ins_length])
  have lf : f.length ≤ 6000000000000 := by have := hfl.out; omega
  have hneq : ((f.length : Int) != (e.length : Int) + 1) = false := by have := hfl.out; simp [this]
  clear hf hS hA hAe nd
  go_enter Tryd.func38, Tryd.ntmps38
  go_wp2_with fail
  refine (put_any _ _ _ f ⟨1, q, c, l, s⟩ _ (he.below (below_alloc (below_alloc (Below.refl _ _) _) _)) hcb (by omega) hput.out).mono ?_
  rintro r w1 ⟨g, cap, rfl, hO, hg, b1⟩
  have kA := ((Blk.new w #[.int .i64 ak, .int .i64 p, .int .u8 c, .int .i64 l, .int .i64 s] 23).alloc (.cells #[.int .i64 1, .int .i64 q, .int .u8 c, .int .i64 l, .int .i64 s] 23)).on b1
  have B1 := (below_alloc (below_alloc (Below.refl w.heap.size w) _) _).trans (b1.mono (by simp; omega))
  have rf : ∃ Af : Option Addr, Af = some ⟨g, 0, none⟩ ∧ Rd elF w1 Af f := ⟨_, rfl, hO.rd⟩
  clear hO hg b1
  obtain ⟨x0, x1, x2, x3, x4⟩ := kA.cells5
  go_wp2_with fail
  obtain ⟨Af, hAf, rf⟩ := rf
  rw [← hAf]
  clear hAf
  with_reducible refine (place_at _ _ _ _ _ _ q _ rf (by omega) hnf.out hfq.out).mono ?_
  rintro r w2 ⟨rfl, b2⟩
  have kA2 := kA.on b2
  have B2 := B1.trans (b2.mono B1.size)
  have rf2 := rf.below b2
  clear x0 x1 x2 x3 x4 kA rf b2 B1
  go_wp2_with fail
  go_loopw [12] (fun i wr => ∃ (k : Nat), k ≤ d.length ∧ i = .int .i64 k ∧ Rd elF wr Af f ∧ Blk wr w.heap.size #[.int .i64 ak, .int .i64 p, .int .u8 c, .int .i64 l, .int .i64 s] 23 ∧ Below w.heap.size w wr) (fun i wr => d.length - (intOf i).toNat)
  case atStart => exact ⟨0, Nat.zero_le _, rfl, rf2, kA2, B2⟩
  case round =>
    clear rf2 kA2 B2
    obtain ⟨k, hk, rfl, rf, kA, hB⟩ := hrel
    by_cases hlt : k < d.length
    · obtain ⟨b1, o1, z, rfl, hz, hbl, e0, e1, e2⟩ := (hd.below hB).el k hlt
      by_cases hzf : z ∈ f
      · obtain ⟨j, hj, hjz⟩ := List.getElem_of_mem hzf
        have hjf : f[j]? = some z := by rw [List.getElem?_eq_getElem hj, hjz]
        have hs : Hid (k < p ↔ j < q) := Lib.hid (hSf.out k j z hz.out hjf)
        have HJ := Lib.hid hjf
        clear hjf hjz hzf
        go_wp2_with fail
        with_reducible refine (place_at _ _ _ _ _ _ j _ rf (by omega) hnf.out HJ.out).mono ?_
        rintro r w3 ⟨rfl, b3⟩
        have kA3 := kA.on b3
        have B3 := hB.trans (b3.mono hB.size)
        have rf3 := rf.below b3
        clear kA rf b3 hB e0 e1 e2 hbl
        obtain ⟨x0, x1, x2, x3, x4⟩ := kA3.cells5
        by_cases hjq : j < q
        · have hkp : decide (k < p) = true := decide_eq_true (hs.out.2 hjq)
          have hjq2 : decide (j < q) = true := decide_eq_true hjq
          go_wp2_with fail
          go_roundw
          case rel => exact ⟨k + 1, by omega, by go_num, rf3, kA3, B3⟩
          case measure => simp [intOf]; omega
        · have hkp : decide (k < p) = false := decide_eq_false (fun h => hjq (hs.out.1 h))
          have hjq2 : decide (j < q) = false := decide_eq_false hjq
          go_wp2_with fail
          go_roundw
          case rel => exact ⟨k + 1, by omega, by go_num, rf3, kA3, B3⟩
          case measure => simp [intOf]; omega
      · have HN := Lib.hid hzf
        clear hzf
        go_wp2_with fail
        with_reducible refine (place_no _ _ _ _ _ _ _ rf (by omega) HN.out).mono ?_
        rintro r w3 ⟨rfl, b3⟩
        have kA3 := kA.on b3
        have B3 := hB.trans (b3.mono hB.size)
        have rf3 := rf.below b3
        clear kA rf b3 hB e0 e1 e2 hbl
        go_wp2_with fail
        go_roundw
        case rel => exact ⟨k + 1, by omega, by go_num, rf3, kA3, B3⟩
        case measure => simp [intOf]; omega
    · go_wp2
      go_ret
      exact ⟨rfl, hB⟩
end Go.Proofs.YtkicbnkacjnhoaaDoor
