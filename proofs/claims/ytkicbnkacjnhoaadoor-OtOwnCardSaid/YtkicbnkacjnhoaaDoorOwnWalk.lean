/- The walk of jotterlaw05.OtOwn: it answers true. -/
import Derived.Test.YtkicbnkacjnhoaaDoorFill
import Derived.Test.YtkicbnkacjnhoaaDoorRefThrough
namespace Go.Proofs.YtkicbnkacjnhoaaDoor
open Go.RowKit
set_option linter.unusedVariables false
set_option linter.unusedSimpArgs false

local macro "bel_tac" : tactic => `(tactic| (repeat' (first | with_reducible exact Below.refl _ _ | with_reducible assumption | with_reducible refine Below.drew ?_ | with_reducible refine below_alloc ?_ _ | fail)))
set_option maxHeartbeats 40000000 in
set_option maxRecDepth 100000 in
theorem own_any (A1 A2 : Option Addr) (c1 c2 : Nat) (la lb : List POp) (p0 p1 p2 p3 p4 : Int) (w : World) (hr : RulesAt w) (h1 : Rd opF w A1 la) (h2 : Rd opF w A2 lb) (b1 : la.length ≤ 4096) (b2 : lb.length ≤ 4096) :
    Calls Tryd.prog 13 #[.agg #[.int .i64 p0, .int .i64 p1, .int .u8 p2, .int .i64 p3, .int .i64 p4], .slice A1 la.length c1, .slice A2 lb.length c2] w fun e w' => e = .returned (.bool true) ∧ Below w.heap.size w w' := by
  obtain ⟨ls, out, hq⟩ : ∃ ls out, Hid (weaveL la lb = (ls, out)) := ⟨_, _, Lib.hid rfl⟩
  obtain ⟨y, m, hy⟩ : ∃ y m, Hid (pastL ⟨p0, p1, p2, p3, p4⟩ la true = (y, m)) := ⟨_, _, Lib.hid rfl⟩
  obtain ⟨n1, hn1⟩ : ∃ n1, n1 = la.length := ⟨_, rfl⟩
  obtain ⟨n2, hn2⟩ : ∃ n2, n2 = lb.length := ⟨_, rfl⟩
  rw [← hn1] at b1 ⊢
  rw [← hn2] at b2 ⊢
  have HN1 := Lib.hid hn1
  have HN2 := Lib.hid hn2
  clear hn1 hn2
  have BW0 : Below w.heap.size w ((w.alloc (.cells #[.int .i64 p0, .int .i64 p1, .int .u8 p2, .int .i64 p3, .int .i64 p4] 23)).alloc (.cells #[.int .i64 1, .int .i64 9, .int .u8 115, .int .i64 9, .int .i64 9] 23)) := below_alloc (below_alloc (Below.refl _ _) _) _
  have K0 : Blk ((w.alloc (.cells #[.int .i64 p0, .int .i64 p1, .int .u8 p2, .int .i64 p3, .int .i64 p4] 23)).alloc (.cells #[.int .i64 1, .int .i64 9, .int .u8 115, .int .i64 9, .int .i64 9] 23)) w.heap.size #[.int .i64 p0, .int .i64 p1, .int .u8 p2, .int .i64 p3, .int .i64 p4] 23 := (Blk.new w _ _).alloc _
  have K1 : Blk ((w.alloc (.cells #[.int .i64 p0, .int .i64 p1, .int .u8 p2, .int .i64 p3, .int .i64 p4] 23)).alloc (.cells #[.int .i64 1, .int .i64 9, .int .u8 115, .int .i64 9, .int .i64 9] 23)) (w.heap.size + 1) #[.int .i64 1, .int .i64 9, .int .u8 115, .int .i64 9, .int .i64 9] 23 := Blk.new1 w _ _ _
  go_enter Tryd.func13, Tryd.ntmps13
  go_upto_region 4 with fail
  refine wp_abs ?_
  intro W hW
  rw [← hW] at BW0 K0 K1
  clear hW
  have hrW := hr.on BW0
  have rA := h1.below BW0
  have rB := h2.below BW0
  have lA := K1.lt
  have hA : FiveAt W (w.heap.size + 1) 0 ⟨1, 9, 115, 9, 9⟩ := K1.cells5
  clear hr h1 h2
  go_cut [8, 9] from 34 to 285 (fun p q wx => ∃ r1 d1 r2 d2, p = .slice (some ⟨r1, 0, none⟩) (n1 + 1) d1 ∧ q = .slice (some ⟨r2, 0, none⟩) (n2 + 1) d2 ∧ Hold W wx [⟨some ⟨r1, 0, none⟩, n1 + 1, d1, la ++ [⟨1, 9, 115, 9, 9⟩]⟩, ⟨some ⟨r2, 0, none⟩, n2 + 1, d2, lb ++ [⟨1, 9, 115, 9, 9⟩]⟩])
  case first =>
    go_region_held3 (fun V => (V.cell? ⟨w.heap.size + 1, 0, none⟩ = some (.int .i64 1) ∧ V.cell? ⟨w.heap.size + 1, 1, none⟩ = some (.int .i64 9) ∧ V.cell? ⟨w.heap.size + 1, 2, none⟩ = some (.int .u8 115) ∧ V.cell? ⟨w.heap.size + 1, 3, none⟩ = some (.int .i64 9) ∧ V.cell? ⟨w.heap.size + 1, 4, none⟩ = some (.int .i64 9)))
      (first | (with_reducible refine five_keep hA ?_ lA; bel_tac) | fail)
      (first
        | (go_at_call 31; (with_reducible refine (copied_m A1 c1 la n1 _ HN1.out (rA.below (by bel_tac)) (by omega)).mono ?_); rintro e w1 ⟨g1, hg1, rfl, ow1, hb⟩; (have lg1 : W.heap.size ≤ g1 := Nat.le_trans (Below.size (show Below W.heap.size W _ by bel_tac)) hg1); (have hB1 : Below W.heap.size W w1 := Below.next (by bel_tac) hb); (try (have u0 := (Blk.new W #[.int .i64 1, .int .i64 9, .int .u8 115, .int .i64 9, .int .i64 9] 23).drew.on hb)); (try (have u0 := ((Blk.new W #[.int .i64 1, .int .i64 9, .int .u8 115, .int .i64 9, .int .i64 9] 23).alloc (.cells #[.int .i64 1, .int .i64 9, .int .u8 115, .int .i64 9, .int .i64 9] 23)).drew.on hb)); (try (have u1 := (Blk.new1 W (.cells #[.int .i64 1, .int .i64 9, .int .u8 115, .int .i64 9, .int .i64 9] 23) #[.int .i64 1, .int .i64 9, .int .u8 115, .int .i64 9, .int .i64 9] 23).drew.on hb)); clear hb; (try simp at hg1); (have lw1 := ow1.lt))
        | (go_at_call 31; (with_reducible refine (copied_m A2 c2 lb n2 _ HN2.out (rB.below (by bel_tac)) (by omega)).mono ?_); rintro e w3 ⟨g2, hg2', rfl, ow2, hb⟩; (have lg2 : w2.heap.size ≤ g2 := by first | exact hg2' | (simp at hg2'; omega)); (have hB3 : Below W.heap.size W w3 := Below.next (by bel_tac) hb); (have hs3 : w2.heap.size ≤ w3.heap.size := Nat.le_trans (by first | exact Nat.le_refl _ | simp) hb.size); (have lt1 := oc1.lt); (have oc3 := by first | exact oc1.on hb | exact (oc1.alloc _).on hb); (try (have x0 := v0.on hb)); (try (have x0 := (v0.alloc _).on hb)); (try (have x1 := v1.on hb)); (try (have x3 := v2.on hb)); (try (have x4 := v3.on hb)); (try (have x2 := (Blk.new w2 #[.int .i64 1, .int .i64 9, .int .u8 115, .int .i64 9, .int .i64 9] 23).on hb)); clear hb hg2')
        | (refine step_appV El.op (by decide) (by decide) _ rfl _ _ 35 rfl Tryd.underlying35 W.heap.size (.slice (some ⟨g1, 0, none⟩) n1 n1) la [⟨1, 9, 115, 9, 9⟩] ⟨_, 0, none⟩ 1 1 rfl rfl rfl (by have := HN1.out; rw [this]; rw [this] at ow1; first | exact ow1.v lg1 | exact (ow1.alloc _).v lg1 | exact ((ow1.alloc _).alloc _).v lg1) (by first | exact u0.rdOp | exact u1.rdOp | exact (u0.alloc _).rdOp | exact (Blk.new w1 _ _).rdOp | exact ((Blk.new w1 _ _).alloc _).rdOp | exact (Blk.new1 w1 _ _ _).rdOp) (by have := HN1.out; simp; omega) (Below.size (by bel_tac)) ?_; intro v' w2 oV2 hg2 hv2; obtain ⟨r1, d1, rfl, lr1, oc1⟩ := OwnV.c1 HN1.out oV2; (have hB2 : Below W.heap.size W w2 := Below.grown (by bel_tac) hg2 (Below.size (by bel_tac)) (fun k e => by obtain rfl := Option.some.inj e; exact lg1)); clear hv2 oV2; (try (have v0 := u0.grown hg2 (ne_some (show W.heap.size ≠ g1 by omega)))); (try (have v0 := (u0.alloc _).grown hg2 (ne_some (show W.heap.size ≠ g1 by omega)))); (try (have v1 := u1.grown hg2 (ne_some (show W.heap.size + 1 ≠ g1 by omega)))); (try (have v2 := (Blk.new w1 #[.int .i64 1, .int .i64 9, .int .u8 115, .int .i64 9, .int .i64 9] 23).grown hg2 (ne_some (show w1.heap.size ≠ g1 by omega)))); (try (have v2 := ((Blk.new w1 #[.int .i64 1, .int .i64 9, .int .u8 115, .int .i64 9, .int .i64 9] 23).alloc _).grown hg2 (ne_some (show w1.heap.size ≠ g1 by omega)))); (try (have v3 := (Blk.new1 w1 (.cells #[.int .i64 1, .int .i64 9, .int .u8 115, .int .i64 9, .int .i64 9] 23) #[.int .i64 1, .int .i64 9, .int .u8 115, .int .i64 9, .int .i64 9] 23).grown hg2 (ne_some (show w1.heap.size + 1 ≠ g1 by omega)))))
        | (refine step_appV El.op (by decide) (by decide) _ rfl _ _ 35 rfl Tryd.underlying35 w2.heap.size (.slice (some ⟨g2, 0, none⟩) n2 n2) lb [⟨1, 9, 115, 9, 9⟩] ⟨_, 0, none⟩ 1 1 rfl rfl rfl (by have := HN2.out; rw [this]; rw [this] at ow2; first | exact ow2.v lg2 | exact (ow2.alloc _).v lg2) (by first | exact x0.rdOp | exact x1.rdOp | exact x2.rdOp | exact x3.rdOp | exact x4.rdOp | exact (Blk.new w3 _ _).rdOp) (by have := HN2.out; simp; omega) (by first | exact hs3 | (simp; omega)) ?_; intro v' w4 oV4 hg4 hv4; obtain ⟨r2, d2, rfl, lr2, oc2⟩ := OwnV.c1 HN2.out oV4; (have hB4 : Below W.heap.size W w4 := Below.grown (by bel_tac) hg4 (Below.size (by bel_tac)) (fun k e => by obtain rfl := Option.some.inj e; exact Nat.le_trans hB2.size lg2)); clear hv4 oV4; (have oc4 := by first | exact oc3.grown hg4 (ne_some (show r1 ≠ g2 by omega)) | exact (oc3.alloc _).grown hg4 (ne_some (show r1 ≠ g2 by omega))))
        )
    all_goals
      go_wp2_with fail
      go_meet
      exact ⟨r1, d1, r2, d2, rfl, rfl, Hold.two hrW hB4 oc4 oc2 (by have := HN1.out; simp [← this]) (by have := HN2.out; simp [← this]) lr1 (by omega)⟩
  case rest => as_aux_lemma =>
    obtain ⟨r1, d1, r2, d2, rfl, rfl, hH⟩ := hcut
    have d1' := hH.room 0 rfl
    have d2' := hH.room 1 rfl
    have kO := K0.on hH.below
    have kS := K1.on hH.below
    obtain ⟨e0, e1, e2, e3, e4⟩ := kO.cells5
    go_upto_region 5 with fail
    go_quiet (fail)
    go_wp2_with fail
    replace hH : Hold W (wc.drewN nq) [⟨some ⟨r1, 0, none⟩, n1 + 1, d1, la ++ [⟨1, 9, 115, 9, 9⟩]⟩, ⟨some ⟨r2, 0, none⟩, n2 + 1, d2, lb ++ [⟨1, 9, 115, 9, 9⟩]⟩] := hH.drewN nq
    have rd := (hH.rd 0 rfl).fore
    with_reducible refine (hH.through (c := d1) p0 p1 p2 p3 p4 true hy rd HN1.out b1).mono ?_
    rintro e W1 ⟨gx1, cx1, rfl, hN⟩
    clear hH rd
    have hH : Hold W W1 [⟨some ⟨r1, 0, none⟩, n1 + 1, d1, la ++ [⟨1, 9, 115, 9, 9⟩]⟩, ⟨some ⟨r2, 0, none⟩, n2 + 1, d2, lb ++ [⟨1, 9, 115, 9, 9⟩]⟩, ⟨some ⟨gx1, 0, none⟩, n1, cx1, m⟩] := hN
    clear hN
    go_wp2_with fail
    replace hH := hH.alloc (.cells #[.int .i64 y.k, .int .i64 y.p, .int .u8 y.c, .int .i64 y.l, .int .i64 y.s] 23)
    have rda := (hH.rd 0 rfl).fore
    have rdb := (hH.rd 1 rfl).fore
    with_reducible refine (hH.weave hq rda rdb HN1.out HN2.out b1 b2).mono ?_
    rintro e W2 ⟨AX2, BX2, cx2, dx2, rfl, hN⟩
    clear hH rda rdb
    have hH : Hold W W2 [⟨some ⟨r1, 0, none⟩, n1 + 1, d1, la ++ [⟨1, 9, 115, 9, 9⟩]⟩, ⟨some ⟨r2, 0, none⟩, n2 + 1, d2, lb ++ [⟨1, 9, 115, 9, 9⟩]⟩, ⟨some ⟨gx1, 0, none⟩, n1, cx1, m⟩, ⟨AX2, n1, cx2, ls⟩, ⟨BX2, n2, dx2, out⟩] := hN
    clear hN
    go_wp2_with fail
    have rda := (hH.rd 0 rfl).fore
    have rdb := (hH.rd 1 rfl).fore
    with_reducible refine (hH.weave hq rda rdb HN1.out HN2.out b1 b2).mono ?_
    rintro e W3 ⟨AX3, BX3, cx3, dx3, rfl, hN⟩
    clear hH rda rdb
    have hH : Hold W W3 [⟨some ⟨r1, 0, none⟩, n1 + 1, d1, la ++ [⟨1, 9, 115, 9, 9⟩]⟩, ⟨some ⟨r2, 0, none⟩, n2 + 1, d2, lb ++ [⟨1, 9, 115, 9, 9⟩]⟩, ⟨some ⟨gx1, 0, none⟩, n1, cx1, m⟩, ⟨AX2, n1, cx2, ls⟩, ⟨BX2, n2, dx2, out⟩, ⟨AX3, n1, cx3, ls⟩, ⟨BX3, n2, dx3, out⟩] := hN
    clear hN
    go_wp2_with fail
    with_reducible refine (num_any _ _).mono ?_
    rintro e wz ⟨rfl, hwz⟩; subst wz
    go_wp2_with fail
    with_reducible refine (num_any _ _).mono ?_
    rintro e wz ⟨rfl, hwz⟩; subst wz
    go_wp2_with fail
    have rda := (hH.rd 3 rfl)
    have rdb := (hH.rd 5 rfl)
    have ea := (hH.ln 3 rfl)
    have eb := (hH.ln 5 rfl)
    with_reducible refine (same_h rda rdb ea eb (by omega)).mono ?_
    rintro e W4 ⟨rfl, hb⟩
    replace hH : Hold W W4 [⟨some ⟨r1, 0, none⟩, n1 + 1, d1, la ++ [⟨1, 9, 115, 9, 9⟩]⟩, ⟨some ⟨r2, 0, none⟩, n2 + 1, d2, lb ++ [⟨1, 9, 115, 9, 9⟩]⟩, ⟨some ⟨gx1, 0, none⟩, n1, cx1, m⟩, ⟨AX2, n1, cx2, ls⟩, ⟨BX2, n2, dx2, out⟩, ⟨AX3, n1, cx3, ls⟩, ⟨BX3, n2, dx3, out⟩] := hH.on hb
    clear rda rdb ea eb hb
    go_wp2_with fail
    have rda := (hH.rd 4 rfl)
    have rdb := (hH.rd 6 rfl)
    have ea := (hH.ln 4 rfl)
    have eb := (hH.ln 6 rfl)
    with_reducible refine (same_h rda rdb ea eb (by omega)).mono ?_
    rintro e W5 ⟨rfl, hb⟩
    replace hH : Hold W W5 [⟨some ⟨r1, 0, none⟩, n1 + 1, d1, la ++ [⟨1, 9, 115, 9, 9⟩]⟩, ⟨some ⟨r2, 0, none⟩, n2 + 1, d2, lb ++ [⟨1, 9, 115, 9, 9⟩]⟩, ⟨some ⟨gx1, 0, none⟩, n1, cx1, m⟩, ⟨AX2, n1, cx2, ls⟩, ⟨BX2, n2, dx2, out⟩, ⟨AX3, n1, cx3, ls⟩, ⟨BX3, n2, dx3, out⟩] := hH.on hb
    clear rda rdb ea eb hb
    go_wp2_with fail
    obtain ⟨f0, f1, f2, f3, f4⟩ := (K1.on hH.below).cells5
    obtain ⟨s0, s1, s2, s3, s4⟩ := (hH.rd 0 rfl).last5 HN1.out
    obtain ⟨t0, t1, t2, t3, t4⟩ := (hH.rd 1 rfl).last5 HN2.out
    have hopq : opEq ⟨1, 9, 115, 9, 9⟩ ⟨1, 9, 115, 9, 9⟩ = true := opEq_true.2 rfl
    dsimp only at s0 s1 s2 s3 s4 t0 t1 t2 t3 t4
    clear e0 e1 e2 e3 e4
    have i0 : (0 : Int) ≤ (n1 : Int) := by omega
    have i1 : (n1 : Int) < (n1 : Int) + 1 := by omega
    have i2 : (0 : Int) ≤ (n2 : Int) := by omega
    have i3 : (n2 : Int) < (n2 : Int) + 1 := by omega
    go_quiet (fail)
    go_wp2_with fail
    replace hH := hH.drewN nq
    clear f0 f1 f2 f3 f4 s0 s1 s2 s3 s4 t0 t1 t2 t3 t4 hopq i0 i1 i2 i3
    replace hH : Hold W (W5.drewN nq) [⟨some ⟨r1, 0, none⟩, n1, d1, la⟩, ⟨some ⟨r2, 0, none⟩, n2, d2, lb⟩, ⟨some ⟨gx1, 0, none⟩, n1, cx1, m⟩, ⟨AX2, n1, cx2, ls⟩, ⟨BX2, n2, dx2, out⟩, ⟨AX3, n1, cx3, ls⟩, ⟨BX3, n2, dx3, out⟩] := (hH.front 0 rfl HN1.out).front 1 rfl HN2.out
    with_reducible refine (num_any _ _).mono ?_
    rintro e wz ⟨rfl, hwz⟩; subst wz
    go_wp2_with fail
    with_reducible refine (num_any _ _).mono ?_
    rintro e wz ⟨rfl, hwz⟩; subst wz
    go_wp2_with fail
    have rda := (hH.rd 0 rfl)
    have rdb := rA.below hH.below
    have ea := (hH.ln 0 rfl)
    have eb := HN1.out
    with_reducible refine (same_h rda rdb ea eb (by omega)).mono ?_
    rintro e W6 ⟨rfl, hb⟩
    replace hH : Hold W W6 [⟨some ⟨r1, 0, none⟩, n1, d1, la⟩, ⟨some ⟨r2, 0, none⟩, n2, d2, lb⟩, ⟨some ⟨gx1, 0, none⟩, n1, cx1, m⟩, ⟨AX2, n1, cx2, ls⟩, ⟨BX2, n2, dx2, out⟩, ⟨AX3, n1, cx3, ls⟩, ⟨BX3, n2, dx3, out⟩] := hH.on hb
    clear rda rdb ea eb hb
    go_wp2_with fail
    have rda := (hH.rd 1 rfl)
    have rdb := rB.below hH.below
    have ea := (hH.ln 1 rfl)
    have eb := HN2.out
    with_reducible refine (same_h rda rdb ea eb (by omega)).mono ?_
    rintro e W7 ⟨rfl, hb⟩
    replace hH : Hold W W7 [⟨some ⟨r1, 0, none⟩, n1, d1, la⟩, ⟨some ⟨r2, 0, none⟩, n2, d2, lb⟩, ⟨some ⟨gx1, 0, none⟩, n1, cx1, m⟩, ⟨AX2, n1, cx2, ls⟩, ⟨BX2, n2, dx2, out⟩, ⟨AX3, n1, cx3, ls⟩, ⟨BX3, n2, dx3, out⟩] := hH.on hb
    clear rda rdb ea eb hb
    go_wp2_with fail
    have rda := hH.rd 2 rfl
    have ea := hH.ln 2 rfl
    with_reducible refine (hH.copied rda ea (by omega)).mono ?_
    rintro e W8 ⟨gx8, rfl, hN⟩
    clear hH rda ea
    have hH : Hold W W8 [⟨some ⟨r1, 0, none⟩, n1, d1, la⟩, ⟨some ⟨r2, 0, none⟩, n2, d2, lb⟩, ⟨some ⟨gx1, 0, none⟩, n1, cx1, m⟩, ⟨AX2, n1, cx2, ls⟩, ⟨BX2, n2, dx2, out⟩, ⟨AX3, n1, cx3, ls⟩, ⟨BX3, n2, dx3, out⟩, ⟨some ⟨gx8, 0, none⟩, n1, n1, m⟩] := hN
    clear hN
    go_wp2_with fail
    have rda := hH.rd 3 rfl
    have ea := hH.ln 3 rfl
    with_reducible refine (hH.copied rda ea (by omega)).mono ?_
    rintro e W9 ⟨gx9, rfl, hN⟩
    clear hH rda ea
    have hH : Hold W W9 [⟨some ⟨r1, 0, none⟩, n1, d1, la⟩, ⟨some ⟨r2, 0, none⟩, n2, d2, lb⟩, ⟨some ⟨gx1, 0, none⟩, n1, cx1, m⟩, ⟨AX2, n1, cx2, ls⟩, ⟨BX2, n2, dx2, out⟩, ⟨AX3, n1, cx3, ls⟩, ⟨BX3, n2, dx3, out⟩, ⟨some ⟨gx8, 0, none⟩, n1, n1, m⟩, ⟨some ⟨gx9, 0, none⟩, n1, n1, ls⟩] := hN
    clear hN
    go_wp2_with fail
    have rda := hH.rd 4 rfl
    have ea := hH.ln 4 rfl
    with_reducible refine (hH.copied rda ea (by omega)).mono ?_
    rintro e W10 ⟨gx10, rfl, hN⟩
    clear hH rda ea
    have hH : Hold W W10 [⟨some ⟨r1, 0, none⟩, n1, d1, la⟩, ⟨some ⟨r2, 0, none⟩, n2, d2, lb⟩, ⟨some ⟨gx1, 0, none⟩, n1, cx1, m⟩, ⟨AX2, n1, cx2, ls⟩, ⟨BX2, n2, dx2, out⟩, ⟨AX3, n1, cx3, ls⟩, ⟨BX3, n2, dx3, out⟩, ⟨some ⟨gx8, 0, none⟩, n1, n1, m⟩, ⟨some ⟨gx9, 0, none⟩, n1, n1, ls⟩, ⟨some ⟨gx10, 0, none⟩, n2, n2, out⟩] := hN
    clear hN
    go_wp2_with fail
    have hf := hH.fill 0 rfl (by omega) 101
    with_reducible refine hf.mono ?_
    rintro e W11 ⟨F11, cx11, rfl, hN⟩
    clear hH hf
    have hH : Hold W W11 [⟨F11, n1 + 1, cx11, fillL 101 n1⟩, ⟨some ⟨r2, 0, none⟩, n2, d2, lb⟩, ⟨some ⟨gx1, 0, none⟩, n1, cx1, m⟩, ⟨AX2, n1, cx2, ls⟩, ⟨BX2, n2, dx2, out⟩, ⟨AX3, n1, cx3, ls⟩, ⟨BX3, n2, dx3, out⟩, ⟨some ⟨gx8, 0, none⟩, n1, n1, m⟩, ⟨some ⟨gx9, 0, none⟩, n1, n1, ls⟩, ⟨some ⟨gx10, 0, none⟩, n2, n2, out⟩] := hN
    clear hN
    go_wp2_with fail
    have hf := hH.fill 1 rfl (by omega) 102
    with_reducible refine hf.mono ?_
    rintro e W12 ⟨F12, cx12, rfl, hN⟩
    clear hH hf
    have hH : Hold W W12 [⟨F11, n1 + 1, cx11, fillL 101 n1⟩, ⟨F12, n2 + 1, cx12, fillL 102 n2⟩, ⟨some ⟨gx1, 0, none⟩, n1, cx1, m⟩, ⟨AX2, n1, cx2, ls⟩, ⟨BX2, n2, dx2, out⟩, ⟨AX3, n1, cx3, ls⟩, ⟨BX3, n2, dx3, out⟩, ⟨some ⟨gx8, 0, none⟩, n1, n1, m⟩, ⟨some ⟨gx9, 0, none⟩, n1, n1, ls⟩, ⟨some ⟨gx10, 0, none⟩, n2, n2, out⟩] := hN
    clear hN
    go_wp2_with fail
    have rda := (hH.rd 2 rfl)
    have rdb := (hH.rd 7 rfl)
    have ea := (hH.ln 2 rfl)
    have eb := (hH.ln 7 rfl)
    with_reducible refine (same_h rda rdb ea eb (by omega)).mono ?_
    rintro e W13 ⟨rfl, hb⟩
    replace hH : Hold W W13 [⟨F11, n1 + 1, cx11, fillL 101 n1⟩, ⟨F12, n2 + 1, cx12, fillL 102 n2⟩, ⟨some ⟨gx1, 0, none⟩, n1, cx1, m⟩, ⟨AX2, n1, cx2, ls⟩, ⟨BX2, n2, dx2, out⟩, ⟨AX3, n1, cx3, ls⟩, ⟨BX3, n2, dx3, out⟩, ⟨some ⟨gx8, 0, none⟩, n1, n1, m⟩, ⟨some ⟨gx9, 0, none⟩, n1, n1, ls⟩, ⟨some ⟨gx10, 0, none⟩, n2, n2, out⟩] := hH.on hb
    clear rda rdb ea eb hb
    go_wp2_with fail
    have rda := (hH.rd 3 rfl)
    have rdb := (hH.rd 8 rfl)
    have ea := (hH.ln 3 rfl)
    have eb := (hH.ln 8 rfl)
    with_reducible refine (same_h rda rdb ea eb (by omega)).mono ?_
    rintro e W14 ⟨rfl, hb⟩
    replace hH : Hold W W14 [⟨F11, n1 + 1, cx11, fillL 101 n1⟩, ⟨F12, n2 + 1, cx12, fillL 102 n2⟩, ⟨some ⟨gx1, 0, none⟩, n1, cx1, m⟩, ⟨AX2, n1, cx2, ls⟩, ⟨BX2, n2, dx2, out⟩, ⟨AX3, n1, cx3, ls⟩, ⟨BX3, n2, dx3, out⟩, ⟨some ⟨gx8, 0, none⟩, n1, n1, m⟩, ⟨some ⟨gx9, 0, none⟩, n1, n1, ls⟩, ⟨some ⟨gx10, 0, none⟩, n2, n2, out⟩] := hH.on hb
    clear rda rdb ea eb hb
    go_wp2_with fail
    have rda := (hH.rd 4 rfl)
    have rdb := (hH.rd 9 rfl)
    have ea := (hH.ln 4 rfl)
    have eb := (hH.ln 9 rfl)
    with_reducible refine (same_h rda rdb ea eb (by omega)).mono ?_
    rintro e W15 ⟨rfl, hb⟩
    replace hH : Hold W W15 [⟨F11, n1 + 1, cx11, fillL 101 n1⟩, ⟨F12, n2 + 1, cx12, fillL 102 n2⟩, ⟨some ⟨gx1, 0, none⟩, n1, cx1, m⟩, ⟨AX2, n1, cx2, ls⟩, ⟨BX2, n2, dx2, out⟩, ⟨AX3, n1, cx3, ls⟩, ⟨BX3, n2, dx3, out⟩, ⟨some ⟨gx8, 0, none⟩, n1, n1, m⟩, ⟨some ⟨gx9, 0, none⟩, n1, n1, ls⟩, ⟨some ⟨gx10, 0, none⟩, n2, n2, out⟩] := hH.on hb
    clear rda rdb ea eb hb
    go_wp2_with fail
    have hf := hH.fill 2 rfl (by omega) 103
    with_reducible refine hf.mono ?_
    rintro e W16 ⟨F16, cx16, rfl, hN⟩
    clear hH hf
    have hH : Hold W W16 [⟨F11, n1 + 1, cx11, fillL 101 n1⟩, ⟨F12, n2 + 1, cx12, fillL 102 n2⟩, ⟨F16, n1 + 1, cx16, fillL 103 n1⟩, ⟨AX2, n1, cx2, ls⟩, ⟨BX2, n2, dx2, out⟩, ⟨AX3, n1, cx3, ls⟩, ⟨BX3, n2, dx3, out⟩, ⟨some ⟨gx8, 0, none⟩, n1, n1, m⟩, ⟨some ⟨gx9, 0, none⟩, n1, n1, ls⟩, ⟨some ⟨gx10, 0, none⟩, n2, n2, out⟩] := hN
    clear hN
    go_wp2_with fail
    have rda := (hH.rd 3 rfl)
    have rdb := (hH.rd 8 rfl)
    have ea := (hH.ln 3 rfl)
    have eb := (hH.ln 8 rfl)
    with_reducible refine (same_h rda rdb ea eb (by omega)).mono ?_
    rintro e W17 ⟨rfl, hb⟩
    replace hH : Hold W W17 [⟨F11, n1 + 1, cx11, fillL 101 n1⟩, ⟨F12, n2 + 1, cx12, fillL 102 n2⟩, ⟨F16, n1 + 1, cx16, fillL 103 n1⟩, ⟨AX2, n1, cx2, ls⟩, ⟨BX2, n2, dx2, out⟩, ⟨AX3, n1, cx3, ls⟩, ⟨BX3, n2, dx3, out⟩, ⟨some ⟨gx8, 0, none⟩, n1, n1, m⟩, ⟨some ⟨gx9, 0, none⟩, n1, n1, ls⟩, ⟨some ⟨gx10, 0, none⟩, n2, n2, out⟩] := hH.on hb
    clear rda rdb ea eb hb
    go_wp2_with fail
    have rda := (hH.rd 4 rfl)
    have rdb := (hH.rd 9 rfl)
    have ea := (hH.ln 4 rfl)
    have eb := (hH.ln 9 rfl)
    with_reducible refine (same_h rda rdb ea eb (by omega)).mono ?_
    rintro e W18 ⟨rfl, hb⟩
    replace hH : Hold W W18 [⟨F11, n1 + 1, cx11, fillL 101 n1⟩, ⟨F12, n2 + 1, cx12, fillL 102 n2⟩, ⟨F16, n1 + 1, cx16, fillL 103 n1⟩, ⟨AX2, n1, cx2, ls⟩, ⟨BX2, n2, dx2, out⟩, ⟨AX3, n1, cx3, ls⟩, ⟨BX3, n2, dx3, out⟩, ⟨some ⟨gx8, 0, none⟩, n1, n1, m⟩, ⟨some ⟨gx9, 0, none⟩, n1, n1, ls⟩, ⟨some ⟨gx10, 0, none⟩, n2, n2, out⟩] := hH.on hb
    clear rda rdb ea eb hb
    go_wp2_with fail
    have hf := hH.fill 3 rfl (by omega) 104
    with_reducible refine hf.mono ?_
    rintro e W19 ⟨F19, cx19, rfl, hN⟩
    clear hH hf
    have hH : Hold W W19 [⟨F11, n1 + 1, cx11, fillL 101 n1⟩, ⟨F12, n2 + 1, cx12, fillL 102 n2⟩, ⟨F16, n1 + 1, cx16, fillL 103 n1⟩, ⟨F19, n1 + 1, cx19, fillL 104 n1⟩, ⟨BX2, n2, dx2, out⟩, ⟨AX3, n1, cx3, ls⟩, ⟨BX3, n2, dx3, out⟩, ⟨some ⟨gx8, 0, none⟩, n1, n1, m⟩, ⟨some ⟨gx9, 0, none⟩, n1, n1, ls⟩, ⟨some ⟨gx10, 0, none⟩, n2, n2, out⟩] := hN
    clear hN
    go_wp2_with fail
    have rda := (hH.rd 4 rfl)
    have rdb := (hH.rd 9 rfl)
    have ea := (hH.ln 4 rfl)
    have eb := (hH.ln 9 rfl)
    with_reducible refine (same_h rda rdb ea eb (by omega)).mono ?_
    rintro e W20 ⟨rfl, hb⟩
    replace hH : Hold W W20 [⟨F11, n1 + 1, cx11, fillL 101 n1⟩, ⟨F12, n2 + 1, cx12, fillL 102 n2⟩, ⟨F16, n1 + 1, cx16, fillL 103 n1⟩, ⟨F19, n1 + 1, cx19, fillL 104 n1⟩, ⟨BX2, n2, dx2, out⟩, ⟨AX3, n1, cx3, ls⟩, ⟨BX3, n2, dx3, out⟩, ⟨some ⟨gx8, 0, none⟩, n1, n1, m⟩, ⟨some ⟨gx9, 0, none⟩, n1, n1, ls⟩, ⟨some ⟨gx10, 0, none⟩, n2, n2, out⟩] := hH.on hb
    clear rda rdb ea eb hb
    go_wp2_with fail
    have hf := hH.fill 4 rfl (by omega) 105
    with_reducible refine hf.mono ?_
    rintro e W21 ⟨F21, cx21, rfl, hN⟩
    clear hH hf
    have hH : Hold W W21 [⟨F11, n1 + 1, cx11, fillL 101 n1⟩, ⟨F12, n2 + 1, cx12, fillL 102 n2⟩, ⟨F16, n1 + 1, cx16, fillL 103 n1⟩, ⟨F19, n1 + 1, cx19, fillL 104 n1⟩, ⟨F21, n2 + 1, cx21, fillL 105 n2⟩, ⟨AX3, n1, cx3, ls⟩, ⟨BX3, n2, dx3, out⟩, ⟨some ⟨gx8, 0, none⟩, n1, n1, m⟩, ⟨some ⟨gx9, 0, none⟩, n1, n1, ls⟩, ⟨some ⟨gx10, 0, none⟩, n2, n2, out⟩] := hN
    clear hN
    go_wp2_with fail
    have rda := (hH.rd 5 rfl)
    have rdb := (hH.rd 8 rfl)
    have ea := (hH.ln 5 rfl)
    have eb := (hH.ln 8 rfl)
    with_reducible refine (same_h rda rdb ea eb (by omega)).mono ?_
    rintro e W22 ⟨rfl, hb⟩
    replace hH : Hold W W22 [⟨F11, n1 + 1, cx11, fillL 101 n1⟩, ⟨F12, n2 + 1, cx12, fillL 102 n2⟩, ⟨F16, n1 + 1, cx16, fillL 103 n1⟩, ⟨F19, n1 + 1, cx19, fillL 104 n1⟩, ⟨F21, n2 + 1, cx21, fillL 105 n2⟩, ⟨AX3, n1, cx3, ls⟩, ⟨BX3, n2, dx3, out⟩, ⟨some ⟨gx8, 0, none⟩, n1, n1, m⟩, ⟨some ⟨gx9, 0, none⟩, n1, n1, ls⟩, ⟨some ⟨gx10, 0, none⟩, n2, n2, out⟩] := hH.on hb
    clear rda rdb ea eb hb
    go_wp2_with fail
    have rda := (hH.rd 6 rfl)
    have rdb := (hH.rd 9 rfl)
    have ea := (hH.ln 6 rfl)
    have eb := (hH.ln 9 rfl)
    with_reducible refine (same_h rda rdb ea eb (by omega)).mono ?_
    rintro e W23 ⟨rfl, hb⟩
    replace hH : Hold W W23 [⟨F11, n1 + 1, cx11, fillL 101 n1⟩, ⟨F12, n2 + 1, cx12, fillL 102 n2⟩, ⟨F16, n1 + 1, cx16, fillL 103 n1⟩, ⟨F19, n1 + 1, cx19, fillL 104 n1⟩, ⟨F21, n2 + 1, cx21, fillL 105 n2⟩, ⟨AX3, n1, cx3, ls⟩, ⟨BX3, n2, dx3, out⟩, ⟨some ⟨gx8, 0, none⟩, n1, n1, m⟩, ⟨some ⟨gx9, 0, none⟩, n1, n1, ls⟩, ⟨some ⟨gx10, 0, none⟩, n2, n2, out⟩] := hH.on hb
    clear rda rdb ea eb hb
    go_wp2_with fail
    have hf := hH.fill 5 rfl (by omega) 106
    with_reducible refine hf.mono ?_
    rintro e W24 ⟨F24, cx24, rfl, hN⟩
    clear hH hf
    have hH : Hold W W24 [⟨F11, n1 + 1, cx11, fillL 101 n1⟩, ⟨F12, n2 + 1, cx12, fillL 102 n2⟩, ⟨F16, n1 + 1, cx16, fillL 103 n1⟩, ⟨F19, n1 + 1, cx19, fillL 104 n1⟩, ⟨F21, n2 + 1, cx21, fillL 105 n2⟩, ⟨F24, n1 + 1, cx24, fillL 106 n1⟩, ⟨BX3, n2, dx3, out⟩, ⟨some ⟨gx8, 0, none⟩, n1, n1, m⟩, ⟨some ⟨gx9, 0, none⟩, n1, n1, ls⟩, ⟨some ⟨gx10, 0, none⟩, n2, n2, out⟩] := hN
    clear hN
    go_wp2_with fail
    have hf := hH.fill 6 rfl (by omega) 107
    with_reducible refine hf.mono ?_
    rintro e W25 ⟨F25, cx25, rfl, hN⟩
    clear hH hf
    have hH : Hold W W25 [⟨F11, n1 + 1, cx11, fillL 101 n1⟩, ⟨F12, n2 + 1, cx12, fillL 102 n2⟩, ⟨F16, n1 + 1, cx16, fillL 103 n1⟩, ⟨F19, n1 + 1, cx19, fillL 104 n1⟩, ⟨F21, n2 + 1, cx21, fillL 105 n2⟩, ⟨F24, n1 + 1, cx24, fillL 106 n1⟩, ⟨F25, n2 + 1, cx25, fillL 107 n2⟩, ⟨some ⟨gx8, 0, none⟩, n1, n1, m⟩, ⟨some ⟨gx9, 0, none⟩, n1, n1, ls⟩, ⟨some ⟨gx10, 0, none⟩, n2, n2, out⟩] := hN
    clear hN
    go_wp2_with fail
    with_reducible refine (hH.copied (rA.below hH.below) HN1.out (by omega)).mono ?_
    rintro e W26 ⟨gx26, rfl, hN⟩
    clear hH
    have hH : Hold W W26 [⟨F11, n1 + 1, cx11, fillL 101 n1⟩, ⟨F12, n2 + 1, cx12, fillL 102 n2⟩, ⟨F16, n1 + 1, cx16, fillL 103 n1⟩, ⟨F19, n1 + 1, cx19, fillL 104 n1⟩, ⟨F21, n2 + 1, cx21, fillL 105 n2⟩, ⟨F24, n1 + 1, cx24, fillL 106 n1⟩, ⟨F25, n2 + 1, cx25, fillL 107 n2⟩, ⟨some ⟨gx8, 0, none⟩, n1, n1, m⟩, ⟨some ⟨gx9, 0, none⟩, n1, n1, ls⟩, ⟨some ⟨gx10, 0, none⟩, n2, n2, out⟩, ⟨some ⟨gx26, 0, none⟩, n1, n1, la⟩] := hN
    clear hN
    go_wp2_with fail
    with_reducible refine (hH.copied (rB.below hH.below) HN2.out (by omega)).mono ?_
    rintro e W27 ⟨gx27, rfl, hN⟩
    clear hH
    have hH : Hold W W27 [⟨F11, n1 + 1, cx11, fillL 101 n1⟩, ⟨F12, n2 + 1, cx12, fillL 102 n2⟩, ⟨F16, n1 + 1, cx16, fillL 103 n1⟩, ⟨F19, n1 + 1, cx19, fillL 104 n1⟩, ⟨F21, n2 + 1, cx21, fillL 105 n2⟩, ⟨F24, n1 + 1, cx24, fillL 106 n1⟩, ⟨F25, n2 + 1, cx25, fillL 107 n2⟩, ⟨some ⟨gx8, 0, none⟩, n1, n1, m⟩, ⟨some ⟨gx9, 0, none⟩, n1, n1, ls⟩, ⟨some ⟨gx10, 0, none⟩, n2, n2, out⟩, ⟨some ⟨gx26, 0, none⟩, n1, n1, la⟩, ⟨some ⟨gx27, 0, none⟩, n2, n2, lb⟩] := hN
    clear hN
    go_wp2_with fail
    have rda := (hH.rd 10 rfl)
    have rdb := (hH.rd 11 rfl)
    with_reducible refine (hH.weave hq rda rdb HN1.out HN2.out b1 b2).mono ?_
    rintro e W28 ⟨AX28, BX28, cx28, dx28, rfl, hN⟩
    clear hH rda rdb
    have hH : Hold W W28 [⟨F11, n1 + 1, cx11, fillL 101 n1⟩, ⟨F12, n2 + 1, cx12, fillL 102 n2⟩, ⟨F16, n1 + 1, cx16, fillL 103 n1⟩, ⟨F19, n1 + 1, cx19, fillL 104 n1⟩, ⟨F21, n2 + 1, cx21, fillL 105 n2⟩, ⟨F24, n1 + 1, cx24, fillL 106 n1⟩, ⟨F25, n2 + 1, cx25, fillL 107 n2⟩, ⟨some ⟨gx8, 0, none⟩, n1, n1, m⟩, ⟨some ⟨gx9, 0, none⟩, n1, n1, ls⟩, ⟨some ⟨gx10, 0, none⟩, n2, n2, out⟩, ⟨some ⟨gx26, 0, none⟩, n1, n1, la⟩, ⟨some ⟨gx27, 0, none⟩, n2, n2, lb⟩, ⟨AX28, n1, cx28, ls⟩, ⟨BX28, n2, dx28, out⟩] := hN
    clear hN
    go_wp2_with fail
    with_reducible refine (num_any _ _).mono ?_
    rintro e wz ⟨rfl, hwz⟩; subst wz
    go_wp2_with fail
    have rda := (hH.rd 12 rfl)
    have rdb := (hH.rd 8 rfl)
    have ea := (hH.ln 12 rfl)
    have eb := (hH.ln 8 rfl)
    with_reducible refine (same_h rda rdb ea eb (by omega)).mono ?_
    rintro e W29 ⟨rfl, hb⟩
    replace hH : Hold W W29 [⟨F11, n1 + 1, cx11, fillL 101 n1⟩, ⟨F12, n2 + 1, cx12, fillL 102 n2⟩, ⟨F16, n1 + 1, cx16, fillL 103 n1⟩, ⟨F19, n1 + 1, cx19, fillL 104 n1⟩, ⟨F21, n2 + 1, cx21, fillL 105 n2⟩, ⟨F24, n1 + 1, cx24, fillL 106 n1⟩, ⟨F25, n2 + 1, cx25, fillL 107 n2⟩, ⟨some ⟨gx8, 0, none⟩, n1, n1, m⟩, ⟨some ⟨gx9, 0, none⟩, n1, n1, ls⟩, ⟨some ⟨gx10, 0, none⟩, n2, n2, out⟩, ⟨some ⟨gx26, 0, none⟩, n1, n1, la⟩, ⟨some ⟨gx27, 0, none⟩, n2, n2, lb⟩, ⟨AX28, n1, cx28, ls⟩, ⟨BX28, n2, dx28, out⟩] := hH.on hb
    clear rda rdb ea eb hb
    go_wp2_with fail
    have rda := (hH.rd 13 rfl)
    have rdb := (hH.rd 9 rfl)
    have ea := (hH.ln 13 rfl)
    have eb := (hH.ln 9 rfl)
    with_reducible refine (same_h rda rdb ea eb (by omega)).mono ?_
    rintro e W30 ⟨rfl, hb⟩
    replace hH : Hold W W30 [⟨F11, n1 + 1, cx11, fillL 101 n1⟩, ⟨F12, n2 + 1, cx12, fillL 102 n2⟩, ⟨F16, n1 + 1, cx16, fillL 103 n1⟩, ⟨F19, n1 + 1, cx19, fillL 104 n1⟩, ⟨F21, n2 + 1, cx21, fillL 105 n2⟩, ⟨F24, n1 + 1, cx24, fillL 106 n1⟩, ⟨F25, n2 + 1, cx25, fillL 107 n2⟩, ⟨some ⟨gx8, 0, none⟩, n1, n1, m⟩, ⟨some ⟨gx9, 0, none⟩, n1, n1, ls⟩, ⟨some ⟨gx10, 0, none⟩, n2, n2, out⟩, ⟨some ⟨gx26, 0, none⟩, n1, n1, la⟩, ⟨some ⟨gx27, 0, none⟩, n2, n2, lb⟩, ⟨AX28, n1, cx28, ls⟩, ⟨BX28, n2, dx28, out⟩] := hH.on hb
    clear rda rdb ea eb hb
    go_wp2_with fail
    with_reducible refine (hH.copied (rA.below hH.below) HN1.out (by omega)).mono ?_
    rintro e W31 ⟨gx31, rfl, hN⟩
    clear hH
    have hH : Hold W W31 [⟨F11, n1 + 1, cx11, fillL 101 n1⟩, ⟨F12, n2 + 1, cx12, fillL 102 n2⟩, ⟨F16, n1 + 1, cx16, fillL 103 n1⟩, ⟨F19, n1 + 1, cx19, fillL 104 n1⟩, ⟨F21, n2 + 1, cx21, fillL 105 n2⟩, ⟨F24, n1 + 1, cx24, fillL 106 n1⟩, ⟨F25, n2 + 1, cx25, fillL 107 n2⟩, ⟨some ⟨gx8, 0, none⟩, n1, n1, m⟩, ⟨some ⟨gx9, 0, none⟩, n1, n1, ls⟩, ⟨some ⟨gx10, 0, none⟩, n2, n2, out⟩, ⟨some ⟨gx26, 0, none⟩, n1, n1, la⟩, ⟨some ⟨gx27, 0, none⟩, n2, n2, lb⟩, ⟨AX28, n1, cx28, ls⟩, ⟨BX28, n2, dx28, out⟩, ⟨some ⟨gx31, 0, none⟩, n1, n1, la⟩] := hN
    clear hN
    go_wp2_with fail
    have hf := hH.fill 14 rfl (by omega) 106
    with_reducible refine hf.mono ?_
    rintro e W32 ⟨F32, cx32, rfl, hN⟩
    clear hH hf
    have hH : Hold W W32 [⟨F11, n1 + 1, cx11, fillL 101 n1⟩, ⟨F12, n2 + 1, cx12, fillL 102 n2⟩, ⟨F16, n1 + 1, cx16, fillL 103 n1⟩, ⟨F19, n1 + 1, cx19, fillL 104 n1⟩, ⟨F21, n2 + 1, cx21, fillL 105 n2⟩, ⟨F24, n1 + 1, cx24, fillL 106 n1⟩, ⟨F25, n2 + 1, cx25, fillL 107 n2⟩, ⟨some ⟨gx8, 0, none⟩, n1, n1, m⟩, ⟨some ⟨gx9, 0, none⟩, n1, n1, ls⟩, ⟨some ⟨gx10, 0, none⟩, n2, n2, out⟩, ⟨some ⟨gx26, 0, none⟩, n1, n1, la⟩, ⟨some ⟨gx27, 0, none⟩, n2, n2, lb⟩, ⟨AX28, n1, cx28, ls⟩, ⟨BX28, n2, dx28, out⟩, ⟨F32, n1 + 1, cx32, fillL 106 n1⟩] := hN
    clear hN
    go_wp2_with fail
    have rda := (hH.rd 5 rfl)
    have rdb := (hH.rd 14 rfl)
    have ea := (hH.ln 5 rfl)
    have eb := (hH.ln 14 rfl)
    with_reducible refine (same_h rda rdb ea eb (by omega)).mono ?_
    rintro e W33 ⟨rfl, hb⟩
    replace hH : Hold W W33 [⟨F11, n1 + 1, cx11, fillL 101 n1⟩, ⟨F12, n2 + 1, cx12, fillL 102 n2⟩, ⟨F16, n1 + 1, cx16, fillL 103 n1⟩, ⟨F19, n1 + 1, cx19, fillL 104 n1⟩, ⟨F21, n2 + 1, cx21, fillL 105 n2⟩, ⟨F24, n1 + 1, cx24, fillL 106 n1⟩, ⟨F25, n2 + 1, cx25, fillL 107 n2⟩, ⟨some ⟨gx8, 0, none⟩, n1, n1, m⟩, ⟨some ⟨gx9, 0, none⟩, n1, n1, ls⟩, ⟨some ⟨gx10, 0, none⟩, n2, n2, out⟩, ⟨some ⟨gx26, 0, none⟩, n1, n1, la⟩, ⟨some ⟨gx27, 0, none⟩, n2, n2, lb⟩, ⟨AX28, n1, cx28, ls⟩, ⟨BX28, n2, dx28, out⟩, ⟨F32, n1 + 1, cx32, fillL 106 n1⟩] := hH.on hb
    clear rda rdb ea eb hb
    go_wp2_with fail
    with_reducible refine (hH.copied (rB.below hH.below) HN2.out (by omega)).mono ?_
    rintro e W34 ⟨gx34, rfl, hN⟩
    clear hH
    have hH : Hold W W34 [⟨F11, n1 + 1, cx11, fillL 101 n1⟩, ⟨F12, n2 + 1, cx12, fillL 102 n2⟩, ⟨F16, n1 + 1, cx16, fillL 103 n1⟩, ⟨F19, n1 + 1, cx19, fillL 104 n1⟩, ⟨F21, n2 + 1, cx21, fillL 105 n2⟩, ⟨F24, n1 + 1, cx24, fillL 106 n1⟩, ⟨F25, n2 + 1, cx25, fillL 107 n2⟩, ⟨some ⟨gx8, 0, none⟩, n1, n1, m⟩, ⟨some ⟨gx9, 0, none⟩, n1, n1, ls⟩, ⟨some ⟨gx10, 0, none⟩, n2, n2, out⟩, ⟨some ⟨gx26, 0, none⟩, n1, n1, la⟩, ⟨some ⟨gx27, 0, none⟩, n2, n2, lb⟩, ⟨AX28, n1, cx28, ls⟩, ⟨BX28, n2, dx28, out⟩, ⟨F32, n1 + 1, cx32, fillL 106 n1⟩, ⟨some ⟨gx34, 0, none⟩, n2, n2, lb⟩] := hN
    clear hN
    go_wp2_with fail
    have hf := hH.fill 15 rfl (by omega) 107
    with_reducible refine hf.mono ?_
    rintro e W35 ⟨F35, cx35, rfl, hN⟩
    clear hH hf
    have hH : Hold W W35 [⟨F11, n1 + 1, cx11, fillL 101 n1⟩, ⟨F12, n2 + 1, cx12, fillL 102 n2⟩, ⟨F16, n1 + 1, cx16, fillL 103 n1⟩, ⟨F19, n1 + 1, cx19, fillL 104 n1⟩, ⟨F21, n2 + 1, cx21, fillL 105 n2⟩, ⟨F24, n1 + 1, cx24, fillL 106 n1⟩, ⟨F25, n2 + 1, cx25, fillL 107 n2⟩, ⟨some ⟨gx8, 0, none⟩, n1, n1, m⟩, ⟨some ⟨gx9, 0, none⟩, n1, n1, ls⟩, ⟨some ⟨gx10, 0, none⟩, n2, n2, out⟩, ⟨some ⟨gx26, 0, none⟩, n1, n1, la⟩, ⟨some ⟨gx27, 0, none⟩, n2, n2, lb⟩, ⟨AX28, n1, cx28, ls⟩, ⟨BX28, n2, dx28, out⟩, ⟨F32, n1 + 1, cx32, fillL 106 n1⟩, ⟨F35, n2 + 1, cx35, fillL 107 n2⟩] := hN
    clear hN
    go_wp2_with fail
    have rda := (hH.rd 6 rfl)
    have rdb := (hH.rd 15 rfl)
    have ea := (hH.ln 6 rfl)
    have eb := (hH.ln 15 rfl)
    with_reducible refine (same_h rda rdb ea eb (by omega)).mono ?_
    rintro e W36 ⟨rfl, hb⟩
    replace hH : Hold W W36 [⟨F11, n1 + 1, cx11, fillL 101 n1⟩, ⟨F12, n2 + 1, cx12, fillL 102 n2⟩, ⟨F16, n1 + 1, cx16, fillL 103 n1⟩, ⟨F19, n1 + 1, cx19, fillL 104 n1⟩, ⟨F21, n2 + 1, cx21, fillL 105 n2⟩, ⟨F24, n1 + 1, cx24, fillL 106 n1⟩, ⟨F25, n2 + 1, cx25, fillL 107 n2⟩, ⟨some ⟨gx8, 0, none⟩, n1, n1, m⟩, ⟨some ⟨gx9, 0, none⟩, n1, n1, ls⟩, ⟨some ⟨gx10, 0, none⟩, n2, n2, out⟩, ⟨some ⟨gx26, 0, none⟩, n1, n1, la⟩, ⟨some ⟨gx27, 0, none⟩, n2, n2, lb⟩, ⟨AX28, n1, cx28, ls⟩, ⟨BX28, n2, dx28, out⟩, ⟨F32, n1 + 1, cx32, fillL 106 n1⟩, ⟨F35, n2 + 1, cx35, fillL 107 n2⟩] := hH.on hb
    clear rda rdb ea eb hb
    go_wp2_with fail
    with_reducible refine (hH.copied (rA.below hH.below) HN1.out (by omega)).mono ?_
    rintro e W37 ⟨gx37, rfl, hN⟩
    clear hH
    have hH : Hold W W37 [⟨F11, n1 + 1, cx11, fillL 101 n1⟩, ⟨F12, n2 + 1, cx12, fillL 102 n2⟩, ⟨F16, n1 + 1, cx16, fillL 103 n1⟩, ⟨F19, n1 + 1, cx19, fillL 104 n1⟩, ⟨F21, n2 + 1, cx21, fillL 105 n2⟩, ⟨F24, n1 + 1, cx24, fillL 106 n1⟩, ⟨F25, n2 + 1, cx25, fillL 107 n2⟩, ⟨some ⟨gx8, 0, none⟩, n1, n1, m⟩, ⟨some ⟨gx9, 0, none⟩, n1, n1, ls⟩, ⟨some ⟨gx10, 0, none⟩, n2, n2, out⟩, ⟨some ⟨gx26, 0, none⟩, n1, n1, la⟩, ⟨some ⟨gx27, 0, none⟩, n2, n2, lb⟩, ⟨AX28, n1, cx28, ls⟩, ⟨BX28, n2, dx28, out⟩, ⟨F32, n1 + 1, cx32, fillL 106 n1⟩, ⟨F35, n2 + 1, cx35, fillL 107 n2⟩, ⟨some ⟨gx37, 0, none⟩, n1, n1, la⟩] := hN
    clear hN
    go_wp2_with fail
    have hf := hH.fill 16 rfl (by omega) 101
    with_reducible refine hf.mono ?_
    rintro e W38 ⟨F38, cx38, rfl, hN⟩
    clear hH hf
    have hH : Hold W W38 [⟨F11, n1 + 1, cx11, fillL 101 n1⟩, ⟨F12, n2 + 1, cx12, fillL 102 n2⟩, ⟨F16, n1 + 1, cx16, fillL 103 n1⟩, ⟨F19, n1 + 1, cx19, fillL 104 n1⟩, ⟨F21, n2 + 1, cx21, fillL 105 n2⟩, ⟨F24, n1 + 1, cx24, fillL 106 n1⟩, ⟨F25, n2 + 1, cx25, fillL 107 n2⟩, ⟨some ⟨gx8, 0, none⟩, n1, n1, m⟩, ⟨some ⟨gx9, 0, none⟩, n1, n1, ls⟩, ⟨some ⟨gx10, 0, none⟩, n2, n2, out⟩, ⟨some ⟨gx26, 0, none⟩, n1, n1, la⟩, ⟨some ⟨gx27, 0, none⟩, n2, n2, lb⟩, ⟨AX28, n1, cx28, ls⟩, ⟨BX28, n2, dx28, out⟩, ⟨F32, n1 + 1, cx32, fillL 106 n1⟩, ⟨F35, n2 + 1, cx35, fillL 107 n2⟩, ⟨F38, n1 + 1, cx38, fillL 101 n1⟩] := hN
    clear hN
    go_wp2_with fail
    have rda := (hH.rd 0 rfl)
    have rdb := (hH.rd 16 rfl)
    have ea := (hH.ln 0 rfl)
    have eb := (hH.ln 16 rfl)
    with_reducible refine (same_h rda rdb ea eb (by omega)).mono ?_
    rintro e W39 ⟨rfl, hb⟩
    replace hH : Hold W W39 [⟨F11, n1 + 1, cx11, fillL 101 n1⟩, ⟨F12, n2 + 1, cx12, fillL 102 n2⟩, ⟨F16, n1 + 1, cx16, fillL 103 n1⟩, ⟨F19, n1 + 1, cx19, fillL 104 n1⟩, ⟨F21, n2 + 1, cx21, fillL 105 n2⟩, ⟨F24, n1 + 1, cx24, fillL 106 n1⟩, ⟨F25, n2 + 1, cx25, fillL 107 n2⟩, ⟨some ⟨gx8, 0, none⟩, n1, n1, m⟩, ⟨some ⟨gx9, 0, none⟩, n1, n1, ls⟩, ⟨some ⟨gx10, 0, none⟩, n2, n2, out⟩, ⟨some ⟨gx26, 0, none⟩, n1, n1, la⟩, ⟨some ⟨gx27, 0, none⟩, n2, n2, lb⟩, ⟨AX28, n1, cx28, ls⟩, ⟨BX28, n2, dx28, out⟩, ⟨F32, n1 + 1, cx32, fillL 106 n1⟩, ⟨F35, n2 + 1, cx35, fillL 107 n2⟩, ⟨F38, n1 + 1, cx38, fillL 101 n1⟩] := hH.on hb
    clear rda rdb ea eb hb
    go_wp2_with fail
    with_reducible refine (hH.copied (rB.below hH.below) HN2.out (by omega)).mono ?_
    rintro e W40 ⟨gx40, rfl, hN⟩
    clear hH
    have hH : Hold W W40 [⟨F11, n1 + 1, cx11, fillL 101 n1⟩, ⟨F12, n2 + 1, cx12, fillL 102 n2⟩, ⟨F16, n1 + 1, cx16, fillL 103 n1⟩, ⟨F19, n1 + 1, cx19, fillL 104 n1⟩, ⟨F21, n2 + 1, cx21, fillL 105 n2⟩, ⟨F24, n1 + 1, cx24, fillL 106 n1⟩, ⟨F25, n2 + 1, cx25, fillL 107 n2⟩, ⟨some ⟨gx8, 0, none⟩, n1, n1, m⟩, ⟨some ⟨gx9, 0, none⟩, n1, n1, ls⟩, ⟨some ⟨gx10, 0, none⟩, n2, n2, out⟩, ⟨some ⟨gx26, 0, none⟩, n1, n1, la⟩, ⟨some ⟨gx27, 0, none⟩, n2, n2, lb⟩, ⟨AX28, n1, cx28, ls⟩, ⟨BX28, n2, dx28, out⟩, ⟨F32, n1 + 1, cx32, fillL 106 n1⟩, ⟨F35, n2 + 1, cx35, fillL 107 n2⟩, ⟨F38, n1 + 1, cx38, fillL 101 n1⟩, ⟨some ⟨gx40, 0, none⟩, n2, n2, lb⟩] := hN
    clear hN
    go_wp2_with fail
    have hf := hH.fill 17 rfl (by omega) 102
    with_reducible refine hf.mono ?_
    rintro e W41 ⟨F41, cx41, rfl, hN⟩
    clear hH hf
    have hH : Hold W W41 [⟨F11, n1 + 1, cx11, fillL 101 n1⟩, ⟨F12, n2 + 1, cx12, fillL 102 n2⟩, ⟨F16, n1 + 1, cx16, fillL 103 n1⟩, ⟨F19, n1 + 1, cx19, fillL 104 n1⟩, ⟨F21, n2 + 1, cx21, fillL 105 n2⟩, ⟨F24, n1 + 1, cx24, fillL 106 n1⟩, ⟨F25, n2 + 1, cx25, fillL 107 n2⟩, ⟨some ⟨gx8, 0, none⟩, n1, n1, m⟩, ⟨some ⟨gx9, 0, none⟩, n1, n1, ls⟩, ⟨some ⟨gx10, 0, none⟩, n2, n2, out⟩, ⟨some ⟨gx26, 0, none⟩, n1, n1, la⟩, ⟨some ⟨gx27, 0, none⟩, n2, n2, lb⟩, ⟨AX28, n1, cx28, ls⟩, ⟨BX28, n2, dx28, out⟩, ⟨F32, n1 + 1, cx32, fillL 106 n1⟩, ⟨F35, n2 + 1, cx35, fillL 107 n2⟩, ⟨F38, n1 + 1, cx38, fillL 101 n1⟩, ⟨F41, n2 + 1, cx41, fillL 102 n2⟩] := hN
    clear hN
    go_wp2_with fail
    have rda := (hH.rd 1 rfl)
    have rdb := (hH.rd 17 rfl)
    have ea := (hH.ln 1 rfl)
    have eb := (hH.ln 17 rfl)
    with_reducible refine (same_h rda rdb ea eb (by omega)).mono ?_
    rintro e W42 ⟨rfl, hb⟩
    replace hH : Hold W W42 [⟨F11, n1 + 1, cx11, fillL 101 n1⟩, ⟨F12, n2 + 1, cx12, fillL 102 n2⟩, ⟨F16, n1 + 1, cx16, fillL 103 n1⟩, ⟨F19, n1 + 1, cx19, fillL 104 n1⟩, ⟨F21, n2 + 1, cx21, fillL 105 n2⟩, ⟨F24, n1 + 1, cx24, fillL 106 n1⟩, ⟨F25, n2 + 1, cx25, fillL 107 n2⟩, ⟨some ⟨gx8, 0, none⟩, n1, n1, m⟩, ⟨some ⟨gx9, 0, none⟩, n1, n1, ls⟩, ⟨some ⟨gx10, 0, none⟩, n2, n2, out⟩, ⟨some ⟨gx26, 0, none⟩, n1, n1, la⟩, ⟨some ⟨gx27, 0, none⟩, n2, n2, lb⟩, ⟨AX28, n1, cx28, ls⟩, ⟨BX28, n2, dx28, out⟩, ⟨F32, n1 + 1, cx32, fillL 106 n1⟩, ⟨F35, n2 + 1, cx35, fillL 107 n2⟩, ⟨F38, n1 + 1, cx38, fillL 101 n1⟩, ⟨F41, n2 + 1, cx41, fillL 102 n2⟩] := hH.on hb
    clear rda rdb ea eb hb
    go_wp2_with fail
    with_reducible refine (hH.copied (rA.below hH.below) HN1.out (by omega)).mono ?_
    rintro e W43 ⟨gx43, rfl, hN⟩
    clear hH
    have hH : Hold W W43 [⟨F11, n1 + 1, cx11, fillL 101 n1⟩, ⟨F12, n2 + 1, cx12, fillL 102 n2⟩, ⟨F16, n1 + 1, cx16, fillL 103 n1⟩, ⟨F19, n1 + 1, cx19, fillL 104 n1⟩, ⟨F21, n2 + 1, cx21, fillL 105 n2⟩, ⟨F24, n1 + 1, cx24, fillL 106 n1⟩, ⟨F25, n2 + 1, cx25, fillL 107 n2⟩, ⟨some ⟨gx8, 0, none⟩, n1, n1, m⟩, ⟨some ⟨gx9, 0, none⟩, n1, n1, ls⟩, ⟨some ⟨gx10, 0, none⟩, n2, n2, out⟩, ⟨some ⟨gx26, 0, none⟩, n1, n1, la⟩, ⟨some ⟨gx27, 0, none⟩, n2, n2, lb⟩, ⟨AX28, n1, cx28, ls⟩, ⟨BX28, n2, dx28, out⟩, ⟨F32, n1 + 1, cx32, fillL 106 n1⟩, ⟨F35, n2 + 1, cx35, fillL 107 n2⟩, ⟨F38, n1 + 1, cx38, fillL 101 n1⟩, ⟨F41, n2 + 1, cx41, fillL 102 n2⟩, ⟨some ⟨gx43, 0, none⟩, n1, n1, la⟩] := hN
    clear hN
    go_wp2_with fail
    have hf := hH.fill 18 rfl (by omega) 103
    with_reducible refine hf.mono ?_
    rintro e W44 ⟨F44, cx44, rfl, hN⟩
    clear hH hf
    have hH : Hold W W44 [⟨F11, n1 + 1, cx11, fillL 101 n1⟩, ⟨F12, n2 + 1, cx12, fillL 102 n2⟩, ⟨F16, n1 + 1, cx16, fillL 103 n1⟩, ⟨F19, n1 + 1, cx19, fillL 104 n1⟩, ⟨F21, n2 + 1, cx21, fillL 105 n2⟩, ⟨F24, n1 + 1, cx24, fillL 106 n1⟩, ⟨F25, n2 + 1, cx25, fillL 107 n2⟩, ⟨some ⟨gx8, 0, none⟩, n1, n1, m⟩, ⟨some ⟨gx9, 0, none⟩, n1, n1, ls⟩, ⟨some ⟨gx10, 0, none⟩, n2, n2, out⟩, ⟨some ⟨gx26, 0, none⟩, n1, n1, la⟩, ⟨some ⟨gx27, 0, none⟩, n2, n2, lb⟩, ⟨AX28, n1, cx28, ls⟩, ⟨BX28, n2, dx28, out⟩, ⟨F32, n1 + 1, cx32, fillL 106 n1⟩, ⟨F35, n2 + 1, cx35, fillL 107 n2⟩, ⟨F38, n1 + 1, cx38, fillL 101 n1⟩, ⟨F41, n2 + 1, cx41, fillL 102 n2⟩, ⟨F44, n1 + 1, cx44, fillL 103 n1⟩] := hN
    clear hN
    go_wp2_with fail
    have rda := (hH.rd 2 rfl)
    have rdb := (hH.rd 18 rfl)
    have ea := (hH.ln 2 rfl)
    have eb := (hH.ln 18 rfl)
    with_reducible refine (same_h rda rdb ea eb (by omega)).mono ?_
    rintro e W45 ⟨rfl, hb⟩
    replace hH : Hold W W45 [⟨F11, n1 + 1, cx11, fillL 101 n1⟩, ⟨F12, n2 + 1, cx12, fillL 102 n2⟩, ⟨F16, n1 + 1, cx16, fillL 103 n1⟩, ⟨F19, n1 + 1, cx19, fillL 104 n1⟩, ⟨F21, n2 + 1, cx21, fillL 105 n2⟩, ⟨F24, n1 + 1, cx24, fillL 106 n1⟩, ⟨F25, n2 + 1, cx25, fillL 107 n2⟩, ⟨some ⟨gx8, 0, none⟩, n1, n1, m⟩, ⟨some ⟨gx9, 0, none⟩, n1, n1, ls⟩, ⟨some ⟨gx10, 0, none⟩, n2, n2, out⟩, ⟨some ⟨gx26, 0, none⟩, n1, n1, la⟩, ⟨some ⟨gx27, 0, none⟩, n2, n2, lb⟩, ⟨AX28, n1, cx28, ls⟩, ⟨BX28, n2, dx28, out⟩, ⟨F32, n1 + 1, cx32, fillL 106 n1⟩, ⟨F35, n2 + 1, cx35, fillL 107 n2⟩, ⟨F38, n1 + 1, cx38, fillL 101 n1⟩, ⟨F41, n2 + 1, cx41, fillL 102 n2⟩, ⟨F44, n1 + 1, cx44, fillL 103 n1⟩] := hH.on hb
    clear rda rdb ea eb hb
    go_wp2_with fail
    with_reducible refine (hH.copied (rA.below hH.below) HN1.out (by omega)).mono ?_
    rintro e W46 ⟨gx46, rfl, hN⟩
    clear hH
    have hH : Hold W W46 [⟨F11, n1 + 1, cx11, fillL 101 n1⟩, ⟨F12, n2 + 1, cx12, fillL 102 n2⟩, ⟨F16, n1 + 1, cx16, fillL 103 n1⟩, ⟨F19, n1 + 1, cx19, fillL 104 n1⟩, ⟨F21, n2 + 1, cx21, fillL 105 n2⟩, ⟨F24, n1 + 1, cx24, fillL 106 n1⟩, ⟨F25, n2 + 1, cx25, fillL 107 n2⟩, ⟨some ⟨gx8, 0, none⟩, n1, n1, m⟩, ⟨some ⟨gx9, 0, none⟩, n1, n1, ls⟩, ⟨some ⟨gx10, 0, none⟩, n2, n2, out⟩, ⟨some ⟨gx26, 0, none⟩, n1, n1, la⟩, ⟨some ⟨gx27, 0, none⟩, n2, n2, lb⟩, ⟨AX28, n1, cx28, ls⟩, ⟨BX28, n2, dx28, out⟩, ⟨F32, n1 + 1, cx32, fillL 106 n1⟩, ⟨F35, n2 + 1, cx35, fillL 107 n2⟩, ⟨F38, n1 + 1, cx38, fillL 101 n1⟩, ⟨F41, n2 + 1, cx41, fillL 102 n2⟩, ⟨F44, n1 + 1, cx44, fillL 103 n1⟩, ⟨some ⟨gx46, 0, none⟩, n1, n1, la⟩] := hN
    clear hN
    go_wp2_with fail
    have hf := hH.fill 19 rfl (by omega) 104
    with_reducible refine hf.mono ?_
    rintro e W47 ⟨F47, cx47, rfl, hN⟩
    clear hH hf
    have hH : Hold W W47 [⟨F11, n1 + 1, cx11, fillL 101 n1⟩, ⟨F12, n2 + 1, cx12, fillL 102 n2⟩, ⟨F16, n1 + 1, cx16, fillL 103 n1⟩, ⟨F19, n1 + 1, cx19, fillL 104 n1⟩, ⟨F21, n2 + 1, cx21, fillL 105 n2⟩, ⟨F24, n1 + 1, cx24, fillL 106 n1⟩, ⟨F25, n2 + 1, cx25, fillL 107 n2⟩, ⟨some ⟨gx8, 0, none⟩, n1, n1, m⟩, ⟨some ⟨gx9, 0, none⟩, n1, n1, ls⟩, ⟨some ⟨gx10, 0, none⟩, n2, n2, out⟩, ⟨some ⟨gx26, 0, none⟩, n1, n1, la⟩, ⟨some ⟨gx27, 0, none⟩, n2, n2, lb⟩, ⟨AX28, n1, cx28, ls⟩, ⟨BX28, n2, dx28, out⟩, ⟨F32, n1 + 1, cx32, fillL 106 n1⟩, ⟨F35, n2 + 1, cx35, fillL 107 n2⟩, ⟨F38, n1 + 1, cx38, fillL 101 n1⟩, ⟨F41, n2 + 1, cx41, fillL 102 n2⟩, ⟨F44, n1 + 1, cx44, fillL 103 n1⟩, ⟨F47, n1 + 1, cx47, fillL 104 n1⟩] := hN
    clear hN
    go_wp2_with fail
    have rda := (hH.rd 3 rfl)
    have rdb := (hH.rd 19 rfl)
    have ea := (hH.ln 3 rfl)
    have eb := (hH.ln 19 rfl)
    with_reducible refine (same_h rda rdb ea eb (by omega)).mono ?_
    rintro e W48 ⟨rfl, hb⟩
    replace hH : Hold W W48 [⟨F11, n1 + 1, cx11, fillL 101 n1⟩, ⟨F12, n2 + 1, cx12, fillL 102 n2⟩, ⟨F16, n1 + 1, cx16, fillL 103 n1⟩, ⟨F19, n1 + 1, cx19, fillL 104 n1⟩, ⟨F21, n2 + 1, cx21, fillL 105 n2⟩, ⟨F24, n1 + 1, cx24, fillL 106 n1⟩, ⟨F25, n2 + 1, cx25, fillL 107 n2⟩, ⟨some ⟨gx8, 0, none⟩, n1, n1, m⟩, ⟨some ⟨gx9, 0, none⟩, n1, n1, ls⟩, ⟨some ⟨gx10, 0, none⟩, n2, n2, out⟩, ⟨some ⟨gx26, 0, none⟩, n1, n1, la⟩, ⟨some ⟨gx27, 0, none⟩, n2, n2, lb⟩, ⟨AX28, n1, cx28, ls⟩, ⟨BX28, n2, dx28, out⟩, ⟨F32, n1 + 1, cx32, fillL 106 n1⟩, ⟨F35, n2 + 1, cx35, fillL 107 n2⟩, ⟨F38, n1 + 1, cx38, fillL 101 n1⟩, ⟨F41, n2 + 1, cx41, fillL 102 n2⟩, ⟨F44, n1 + 1, cx44, fillL 103 n1⟩, ⟨F47, n1 + 1, cx47, fillL 104 n1⟩] := hH.on hb
    clear rda rdb ea eb hb
    go_wp2_with fail
    with_reducible refine (hH.copied (rB.below hH.below) HN2.out (by omega)).mono ?_
    rintro e W49 ⟨gx49, rfl, hN⟩
    clear hH
    have hH : Hold W W49 [⟨F11, n1 + 1, cx11, fillL 101 n1⟩, ⟨F12, n2 + 1, cx12, fillL 102 n2⟩, ⟨F16, n1 + 1, cx16, fillL 103 n1⟩, ⟨F19, n1 + 1, cx19, fillL 104 n1⟩, ⟨F21, n2 + 1, cx21, fillL 105 n2⟩, ⟨F24, n1 + 1, cx24, fillL 106 n1⟩, ⟨F25, n2 + 1, cx25, fillL 107 n2⟩, ⟨some ⟨gx8, 0, none⟩, n1, n1, m⟩, ⟨some ⟨gx9, 0, none⟩, n1, n1, ls⟩, ⟨some ⟨gx10, 0, none⟩, n2, n2, out⟩, ⟨some ⟨gx26, 0, none⟩, n1, n1, la⟩, ⟨some ⟨gx27, 0, none⟩, n2, n2, lb⟩, ⟨AX28, n1, cx28, ls⟩, ⟨BX28, n2, dx28, out⟩, ⟨F32, n1 + 1, cx32, fillL 106 n1⟩, ⟨F35, n2 + 1, cx35, fillL 107 n2⟩, ⟨F38, n1 + 1, cx38, fillL 101 n1⟩, ⟨F41, n2 + 1, cx41, fillL 102 n2⟩, ⟨F44, n1 + 1, cx44, fillL 103 n1⟩, ⟨F47, n1 + 1, cx47, fillL 104 n1⟩, ⟨some ⟨gx49, 0, none⟩, n2, n2, lb⟩] := hN
    clear hN
    go_wp2_with fail
    have hf := hH.fill 20 rfl (by omega) 105
    with_reducible refine hf.mono ?_
    rintro e W50 ⟨F50, cx50, rfl, hN⟩
    clear hH hf
    have hH : Hold W W50 [⟨F11, n1 + 1, cx11, fillL 101 n1⟩, ⟨F12, n2 + 1, cx12, fillL 102 n2⟩, ⟨F16, n1 + 1, cx16, fillL 103 n1⟩, ⟨F19, n1 + 1, cx19, fillL 104 n1⟩, ⟨F21, n2 + 1, cx21, fillL 105 n2⟩, ⟨F24, n1 + 1, cx24, fillL 106 n1⟩, ⟨F25, n2 + 1, cx25, fillL 107 n2⟩, ⟨some ⟨gx8, 0, none⟩, n1, n1, m⟩, ⟨some ⟨gx9, 0, none⟩, n1, n1, ls⟩, ⟨some ⟨gx10, 0, none⟩, n2, n2, out⟩, ⟨some ⟨gx26, 0, none⟩, n1, n1, la⟩, ⟨some ⟨gx27, 0, none⟩, n2, n2, lb⟩, ⟨AX28, n1, cx28, ls⟩, ⟨BX28, n2, dx28, out⟩, ⟨F32, n1 + 1, cx32, fillL 106 n1⟩, ⟨F35, n2 + 1, cx35, fillL 107 n2⟩, ⟨F38, n1 + 1, cx38, fillL 101 n1⟩, ⟨F41, n2 + 1, cx41, fillL 102 n2⟩, ⟨F44, n1 + 1, cx44, fillL 103 n1⟩, ⟨F47, n1 + 1, cx47, fillL 104 n1⟩, ⟨F50, n2 + 1, cx50, fillL 105 n2⟩] := hN
    clear hN
    go_wp2_with fail
    have rda := (hH.rd 4 rfl)
    have rdb := (hH.rd 20 rfl)
    have ea := (hH.ln 4 rfl)
    have eb := (hH.ln 20 rfl)
    with_reducible refine (same_h rda rdb ea eb (by omega)).mono ?_
    rintro e W51 ⟨rfl, hb⟩
    replace hH : Hold W W51 [⟨F11, n1 + 1, cx11, fillL 101 n1⟩, ⟨F12, n2 + 1, cx12, fillL 102 n2⟩, ⟨F16, n1 + 1, cx16, fillL 103 n1⟩, ⟨F19, n1 + 1, cx19, fillL 104 n1⟩, ⟨F21, n2 + 1, cx21, fillL 105 n2⟩, ⟨F24, n1 + 1, cx24, fillL 106 n1⟩, ⟨F25, n2 + 1, cx25, fillL 107 n2⟩, ⟨some ⟨gx8, 0, none⟩, n1, n1, m⟩, ⟨some ⟨gx9, 0, none⟩, n1, n1, ls⟩, ⟨some ⟨gx10, 0, none⟩, n2, n2, out⟩, ⟨some ⟨gx26, 0, none⟩, n1, n1, la⟩, ⟨some ⟨gx27, 0, none⟩, n2, n2, lb⟩, ⟨AX28, n1, cx28, ls⟩, ⟨BX28, n2, dx28, out⟩, ⟨F32, n1 + 1, cx32, fillL 106 n1⟩, ⟨F35, n2 + 1, cx35, fillL 107 n2⟩, ⟨F38, n1 + 1, cx38, fillL 101 n1⟩, ⟨F41, n2 + 1, cx41, fillL 102 n2⟩, ⟨F44, n1 + 1, cx44, fillL 103 n1⟩, ⟨F47, n1 + 1, cx47, fillL 104 n1⟩, ⟨F50, n2 + 1, cx50, fillL 105 n2⟩] := hH.on hb
    clear rda rdb ea eb hb
    go_wp2_with fail
    go_ret
    exact ⟨rfl, BW0.trans (hH.below.mono BW0.size)⟩

set_option maxHeartbeats 4000000 in
set_option maxRecDepth 100000 in
theorem own_long (A1 A2 : Option Addr) (c1 c2 n1 n2 : Nat) (p0 p1 p2 p3 p4 : Int) (w : World) (hn : 4096 < n1 ∨ 4096 < n2) :
    Calls Tryd.prog 13 #[.agg #[.int .i64 p0, .int .i64 p1, .int .u8 p2, .int .i64 p3, .int .i64 p4], .slice A1 n1 c1, .slice A2 n2 c2] w fun e w' => e = .returned (.bool true) ∧ Below w.heap.size w w' := by
  by_cases ha : 4096 < n1
  · go_enter Tryd.func13, Tryd.ntmps13
    go_wp2_with fail
    go_ret
    exact ⟨rfl, below_alloc (Below.refl _ _) _⟩
  · have hb : 4096 < n2 := by omega
    go_enter Tryd.func13, Tryd.ntmps13
    go_wp2_with fail
    go_ret
    exact ⟨rfl, below_alloc (Below.refl _ _) _⟩
theorem own_all (p0 p1 p2 p3 p4 : Int) (A1 A2 : Option Addr) (c1 c2 : Nat) (la lb : List POp) (w : World) (hr : RulesAt w) (h1 : Rd opF w A1 la) (h2 : Rd opF w A2 lb) :
    Calls Tryd.prog 13 #[.agg #[.int .i64 p0, .int .i64 p1, .int .u8 p2, .int .i64 p3, .int .i64 p4], .slice A1 la.length c1, .slice A2 lb.length c2] w fun e w' => e = .returned (.bool true) ∧ Below w.heap.size w w' := by
  by_cases hn : 4096 < la.length ∨ 4096 < lb.length
  · exact own_long A1 A2 c1 c2 _ _ p0 p1 p2 p3 p4 w hn
  · exact own_any A1 A2 c1 c2 la lb p0 p1 p2 p3 p4 w hr h1 h2 (by omega) (by omega)
end Go.Proofs.YtkicbnkacjnhoaaDoor
