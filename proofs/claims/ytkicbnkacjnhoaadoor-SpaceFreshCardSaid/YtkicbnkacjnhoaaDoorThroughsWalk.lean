/- The walk of jotterlaw05.OtThroughs: it answers true. -/
import Derived.Test.YtkicbnkacjnhoaaDoorRefThrough
import Derived.Test.YtkicbnkacjnhoaaDoorSame
namespace Go.Proofs.YtkicbnkacjnhoaaDoor
open Go.RowKit
set_option linter.unusedVariables false
set_option linter.unusedSimpArgs false

theorem opEq_eta2 (y : POp) : opEq ⟨y.k, y.p, y.c, y.l, y.s⟩ ⟨y.k, y.p, y.c, y.l, y.s⟩ = true := opEq_true.2 rfl
theorem num_any (n : Int) (w : World) : Calls Tryd.prog 34 #[.int .i64 n] w fun e w' => e = .returned (.int .i64 n) ∧ w' = w := by
  go_enter Tryd.func34, Tryd.ntmps34
  go_wp2
  go_ret
  exact ⟨rfl, rfl⟩

theorem sameNil (w : World) : Calls Tryd.prog 33 #[.slice none 0 0, .slice none 0 0] w fun e w' => e = .returned (.bool true) ∧ ∃ n, w' = w.drewN n :=
  (sameLine_any none none 0 0 [] [] w (Rd.nil _ _ _) (Rd.nil _ _ _) (by decide) (by decide)).mono fun e w' h => ⟨h.1.trans (by simp), h.2⟩
theorem sameLine_yes (A1 A2 : Option Addr) (c1 c2 : Nat) (xs : List POp) (w : World) (h1 : Rd opF w A1 xs) (h2 : Rd opF w A2 xs) (l1 : xs.length ≤ 9223372036854775807) :
    Calls Tryd.prog 33 #[.slice A1 xs.length c1, .slice A2 xs.length c2] w fun e w' => e = .returned (.bool true) ∧ ∃ n, w' = w.drewN n :=
  (sameLine_any A1 A2 c1 c2 xs xs w h1 h2 l1 l1).mono fun e w' h => ⟨h.1.trans (by simp), h.2⟩

set_option maxHeartbeats 1000000 in
set_option maxRecDepth 100000 in
theorem throughs_long (p0 p1 p2 p3 p4 : Int) (A : Option Addr) (c : Nat) (line : List POp) (f : Bool) (w : World) (hr : RulesAt w) (hl : Rd opF w A line) (hn : 4096 < line.length) (hz : line.length * 40 ≤ 281474976710656) :
    Calls Tryd.prog 6 #[.agg #[.int .i64 p0, .int .i64 p1, .int .u8 p2, .int .i64 p3, .int .i64 p4], .slice A line.length c, .bool f] w fun e w' => e = .returned (.bool true) ∧ Below w.heap.size w w' := by
  have hq : opEq ⟨0, 0, 0, 0, 0⟩ ⟨0, 0, 0, 0, 0⟩ = true := opEq_eta2 ⟨0, 0, 0, 0, 0⟩
  go_enter Tryd.func6, Tryd.ntmps6
  go_wp2_with fail
  refine wp_abs ?_
  intro W hW
  have kA : Blk W w.heap.size #[.int .i64 p0, .int .i64 p1, .int .u8 p2, .int .i64 p3, .int .i64 p4] 23 := hW ▸ Blk.new w _ _
  have hB : Below w.heap.size w W := hW ▸ below_alloc (Below.refl _ _) _
  clear hW
  have hlW := hl.below hB
  have hrW := hr.on hB
  clear hl hr
  have hA : FiveAt W w.heap.size 0 ⟨p0, p1, p2, p3, p4⟩ := kA.cells5
  have lA := kA.lt
  go_cut [7, 8, 9] from 13 to 43 (fun p q e wx => ∃ g : Nat, p = .pointer (some ⟨g, 0, none⟩) ∧ q = .slice none 0 0 ∧ e = .int .i64 50 ∧ Blk wx g #[.int .i64 0, .int .i64 0, .int .u8 0, .int .i64 0, .int .i64 0] 23 ∧ Below W.heap.size W wx)
  case first =>
    go_region_held3 (fun V => (V.cell? ⟨w.heap.size, 0, none⟩ = some (.int .i64 p0) ∧ V.cell? ⟨w.heap.size, 1, none⟩ = some (.int .i64 p1) ∧ V.cell? ⟨w.heap.size, 2, none⟩ = some (.int .u8 p2) ∧ V.cell? ⟨w.heap.size, 3, none⟩ = some (.int .i64 p3) ∧ V.cell? ⟨w.heap.size, 4, none⟩ = some (.int .i64 p4)))
      (first | (with_reducible refine five_keep hA ?_ lA; (repeat' (first | with_reducible exact Below.refl _ _ | with_reducible exact hB1 | with_reducible exact hB2 | with_reducible refine Below.drew ?_ | with_reducible refine below_alloc ?_ _ | with_reducible refine Below.setCell ?_ (by first | exact Nat.le_refl _ | exact Below.size hB1 | exact Below.size hB2) _ | fail))) | fail)
      (first
        | (go_at_call 31; (with_reducible refine (copied_any _ _ _ _ (hlW.below (by (repeat' (first | with_reducible exact Below.refl _ _ | with_reducible refine Below.drew ?_ | with_reducible refine below_alloc ?_ _ | with_reducible refine Below.setCell ?_ (by first | exact Nat.le_refl _ | exact Below.size hB1 | exact Below.size hB2) _ | fail)))) hz).mono ?_); rintro e w1 ⟨g1, hg1, rfl, ow1, hb⟩; (have hB1 : Below W.heap.size W w1 := by first | exact (Below.refl _ _).drew.trans hb | exact (below_alloc (Below.refl _ _) _).drew.trans (hb.mono (by simp))); try (have kN := (Blk.new W #[.int .i64 0, .int .i64 0, .int .u8 0, .int .i64 0, .int .i64 0] 23).drew.on hb))
        | (go_at_call 30; (with_reducible refine (through_long _ _ _ _ _ _ _ _ _ _ hn).mono ?_); rintro e w2 ⟨rfl, hb2⟩; (have hB2 : Below W.heap.size W w2 := by first | exact hB1.trans (hb2.mono hB1.size) | exact (below_alloc hB1 _).trans (hb2.mono (by have := hB1.size; simp; omega))); (try (have kN2 := kN.on hb2; have zn := kN2.frozen; obtain ⟨n0, n1, n2, n3, n4⟩ := kN2.cells5)); (try (have kM := (Blk.new w1 #[.int .i64 0, .int .i64 0, .int .u8 0, .int .i64 0, .int .i64 0] 23).on hb2; have zm := kM.frozen; obtain ⟨m0, m1, m2, m3, m4⟩ := kM.cells5))))
    · go_wp2_with fail
      go_meet
      exact ⟨w2.heap.size, rfl, rfl, rfl, Blk.new w2 _ _, below_alloc hB2 _⟩
    · go_wp2_with fail
      go_meet
      exact ⟨w1.heap.size, rfl, rfl, rfl, kM.set5 _ _ _ _ _, below_put5 hB2 hB1.size _ _ _ _ _⟩
    · go_wp2_with fail
      go_meet
      exact ⟨W.heap.size, rfl, rfl, rfl, kN2.set5 _ _ _ _ _, below_put5 hB2 (Nat.le_refl _) _ _ _ _ _⟩
  case rest =>
    obtain ⟨g, rfl, rfl, rfl, kz, hX⟩ := hcut
    have kA2 := kA.on hX
    have lA2 := kA2.lt
    have lz := kz.lt
    obtain ⟨e0, e1, e2, e3, e4⟩ := kA2.cells5
    go_wp2_with fail
    with_reducible refine (rthrough_long _ _ _ _ _ _ _ _ _ _ hn).mono ?_
    rintro e w3 ⟨rfl, hb3⟩
    have kz3 := kz.on hb3
    have lz3 := kz3.lt
    obtain ⟨f0, f1, f2, f3, f4⟩ := kz3.cells5
    have hX3 : Below W.heap.size W w3 := hX.trans (hb3.mono hX.size)
    clear e0 e1 e2 e3 e4 hb3 kz kA kA2 hA
    go_wp2_with fail
    with_reducible refine (sameNil _).mono ?_
    rintro e w4 ⟨rfl, n, rfl⟩
    go_wp2_with fail
    with_reducible refine (num_any _ _).mono ?_
    rintro e w5 ⟨rfl, rfl⟩
    go_wp2
    go_ret
    exact ⟨rfl, below_drewN (below_alloc (hB.trans (hX3.mono hB.size)) _) _⟩

set_option maxHeartbeats 1000000 in
set_option maxRecDepth 100000 in
theorem throughs_ok (p0 p1 p2 p3 p4 : Int) (A : Option Addr) (c : Nat) (line : List POp) (f : Bool) (w : World) (hr : RulesAt w) (hl : Rd opF w A line) (hn : line.length ≤ 4096) :
    Calls Tryd.prog 6 #[.agg #[.int .i64 p0, .int .i64 p1, .int .u8 p2, .int .i64 p3, .int .i64 p4], .slice A line.length c, .bool f] w fun e w' => e = .returned (.bool true) ∧ Below w.heap.size w w' := by
  have hz : line.length * 40 ≤ 281474976710656 := by omega
  go_enter Tryd.func6, Tryd.ntmps6
  go_wp2_with fail
  refine wp_abs ?_
  intro W hW
  have kA : Blk W w.heap.size #[.int .i64 p0, .int .i64 p1, .int .u8 p2, .int .i64 p3, .int .i64 p4] 23 := hW ▸ Blk.new w _ _
  have hB : Below w.heap.size w W := hW ▸ below_alloc (Below.refl _ _) _
  clear hW
  have hlW := hl.below hB
  have hrW := hr.on hB
  clear hl hr
  have hA : FiveAt W w.heap.size 0 ⟨p0, p1, p2, p3, p4⟩ := kA.cells5
  have lA := kA.lt
  go_cut [7, 8, 9] from 13 to 43 (fun p q e wx => ∃ (g gm cm : Nat) (y : POp) (m : List POp), Hid (pastL ⟨p0, p1, p2, p3, p4⟩ line f = (y, m)) ∧ p = .pointer (some ⟨g, 0, none⟩) ∧ q = .slice (some ⟨gm, 0, none⟩) m.length cm ∧ e = .int .i64 0 ∧ Blk wx g #[.int .i64 y.k, .int .i64 y.p, .int .u8 y.c, .int .i64 y.l, .int .i64 y.s] 23 ∧ OwnC opF 23 wx gm cm m ∧ Below W.heap.size W wx)
  case first =>
    go_region_held3 (fun V => (V.cell? ⟨w.heap.size, 0, none⟩ = some (.int .i64 p0) ∧ V.cell? ⟨w.heap.size, 1, none⟩ = some (.int .i64 p1) ∧ V.cell? ⟨w.heap.size, 2, none⟩ = some (.int .u8 p2) ∧ V.cell? ⟨w.heap.size, 3, none⟩ = some (.int .i64 p3) ∧ V.cell? ⟨w.heap.size, 4, none⟩ = some (.int .i64 p4)))
      (first | (with_reducible refine five_keep hA ?_ lA; (repeat' (first | with_reducible exact Below.refl _ _ | with_reducible exact hB1 | with_reducible exact hB2 | with_reducible refine Below.drew ?_ | with_reducible refine below_alloc ?_ _ | with_reducible refine Below.setCell ?_ (by first | exact Nat.le_refl _ | exact Below.size hB1 | exact Below.size hB2) _ | fail))) | fail)
      (first
        | (go_at_call 31; (with_reducible refine (copied_any _ _ _ _ (hlW.below (by (repeat' (first | with_reducible exact Below.refl _ _ | with_reducible refine Below.drew ?_ | with_reducible refine below_alloc ?_ _ | with_reducible refine Below.setCell ?_ (by first | exact Nat.le_refl _ | exact Below.size hB1 | exact Below.size hB2) _ | fail)))) hz).mono ?_); rintro e w1 ⟨g1, hg1, rfl, ow1, hb⟩; (have hB1 : Below W.heap.size W w1 := by first | exact (Below.refl _ _).drew.trans hb | exact (below_alloc (Below.refl _ _) _).drew.trans (hb.mono (by simp))); try (have kN := (Blk.new W #[.int .i64 0, .int .i64 0, .int .u8 0, .int .i64 0, .int .i64 0] 23).drew.on hb))
        | (go_at_call 30; (with_reducible refine (through_any _ _ _ _ _ _ _ _ _ _ (hrW.on (by (repeat' (first | with_reducible exact Below.refl _ _ | with_reducible exact hB1 | with_reducible refine Below.drew ?_ | with_reducible refine below_alloc ?_ _ | with_reducible refine Below.setCell ?_ (by first | exact Nat.le_refl _ | exact Below.size hB1 | exact Below.size hB2) _ | fail)))) (by first | exact ow1.rd | exact (ow1.alloc _).rd) hn).mono ?_); rintro e w2 ⟨gm, cm, y, m, hy, rfl, ow2, hgm, hb2⟩; (have hB2 : Below W.heap.size W w2 := by first | exact hB1.trans (hb2.mono hB1.size) | exact (below_alloc hB1 _).trans (hb2.mono (by have := hB1.size; simp; omega))); (try (have kN2 := kN.on hb2; have zn := kN2.frozen; obtain ⟨n0, n1, n2, n3, n4⟩ := kN2.cells5)); (try (have kM := (Blk.new w1 #[.int .i64 0, .int .i64 0, .int .u8 0, .int .i64 0, .int .i64 0] 23).on hb2; have zm := kM.frozen; obtain ⟨m0, m1, m2, m3, m4⟩ := kM.cells5))))
    · go_wp2_with fail
      go_meet
      exact ⟨w2.heap.size, gm, cm, y, m, hy, rfl, rfl, rfl, Blk.new w2 _ _, ow2.alloc _, below_alloc hB2 _⟩
    · go_wp2_with fail
      go_meet
      exact ⟨w1.heap.size, gm, cm, y, m, hy, rfl, rfl, rfl, kM.set5 _ _ _ _ _, ow2.grown (grown_put5 _ _ _ _ _ _ _) (ne_some (by simp at hgm; omega)), below_put5 hB2 hB1.size _ _ _ _ _⟩
    · go_wp2_with fail
      go_meet
      exact ⟨W.heap.size, gm, cm, y, m, hy, rfl, rfl, rfl, kN2.set5 _ _ _ _ _, ow2.grown (grown_put5 _ _ _ _ _ _ _) (ne_some (by have := kN.lt; omega)), below_put5 hB2 (Nat.le_refl _) _ _ _ _ _⟩
  case rest =>
    obtain ⟨g, gm, cm, y, m, hy, rfl, rfl, rfl, kz, ow, hX⟩ := hcut
    have kA2 := kA.on hX
    have lA2 := kA2.lt
    have lz := kz.lt
    obtain ⟨e0, e1, e2, e3, e4⟩ := kA2.cells5
    have hlX := hlW.below hX
    have hq := opEq_eta2 y
    have hml : m.length ≤ 9223372036854775807 := by
      have := pastL_length f line ⟨p0, p1, p2, p3, p4⟩
      rw [hy.out] at this
      simp at this
      omega
    go_wp2_with fail
    with_reducible refine (rthrough_any _ _ _ _ _ _ _ _ _ _ hlX hn).mono ?_
    rintro e w3 ⟨gr, cr, y2, m2, hy2, rfl, ow3, hgr, hb3⟩
    obtain ⟨rfl, rfl⟩ : y = y2 ∧ m = m2 := by
      have h := hy.out.symm.trans hy2.out
      exact ⟨congrArg Prod.fst h, congrArg Prod.snd h⟩
    have kz3 := kz.on hb3
    have owX := ow.on hb3
    have lz3 := kz3.lt
    obtain ⟨f0, f1, f2, f3, f4⟩ := kz3.cells5
    have hX3 : Below W.heap.size W w3 := hX.trans (hb3.mono hX.size)
    clear e0 e1 e2 e3 e4 hb3 kz kA kA2 hA ow
    go_wp2_with fail
    with_reducible refine (sameLine_yes _ _ _ _ _ _ (owX.alloc _).rd (ow3.alloc _).rd hml).mono ?_
    rintro e w4 ⟨rfl, n, rfl⟩
    go_wp2_with fail
    with_reducible refine (num_any _ _).mono ?_
    rintro e w5 ⟨rfl, rfl⟩
    go_wp2
    go_ret
    exact ⟨rfl, below_drewN (below_alloc (hB.trans (hX3.mono hB.size)) _) _⟩

theorem throughs_any (x : POp) (A : Option Addr) (c : Nat) (line : List POp) (f : Bool) (w : World) (hr : RulesAt w) (hl : Rd opF w A line) (hz : line.length * 40 ≤ 140737488351232) :
    Calls Tryd.prog 6 #[.agg #[.int .i64 x.k, .int .i64 x.p, .int .u8 x.c, .int .i64 x.l, .int .i64 x.s], .slice A line.length c, .bool f] w fun e w' => e = .returned (.bool true) ∧ Below w.heap.size w w' := by
  by_cases hn : line.length ≤ 4096
  · exact throughs_ok _ _ _ _ _ A c line f w hr hl hn
  · exact throughs_long _ _ _ _ _ A c line f w hr hl (by omega) (by omega)
end Go.Proofs.YtkicbnkacjnhoaaDoor
