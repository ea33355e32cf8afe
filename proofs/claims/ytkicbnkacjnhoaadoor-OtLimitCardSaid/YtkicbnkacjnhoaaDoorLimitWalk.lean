/- The walk of jotterlaw05.OtLimit: it answers true. -/
import Derived.Test.YtkicbnkacjnhoaaDoorWeavesWalk
namespace Go.Proofs.YtkicbnkacjnhoaaDoor
open Go.RowKit
set_option linter.unusedVariables false
set_option linter.unusedSimpArgs false

theorem Blk.rd1 {w : World} {b : Nat} {t : TypeId} {x0 x1 x2 x3 x4 : Int} (h : Blk w b #[.int .i64 x0, .int .i64 x1, .int .u8 x2, .int .i64 x3, .int .i64 x4] t) : Rd opF w (some ⟨b, 0, none⟩) [⟨x0, x1, x2, x3, x4⟩] :=
  ⟨fun i hi => ⟨b, 0, rfl, fun j u hu => by
    obtain rfl : i = 0 := by simpa using hi
    rw [h.cell]
    simpa [opF] using hu⟩⟩
theorem len1 (x : POp) : 1 = [x].length := rfl
theorem copied_n (A : Option Addr) (c : Nat) (xs : List POp) (n : Nat) (w : World) (e : n = xs.length) (hl : Rd opF w A xs) (hb : n * 40 ≤ 281474976710656) :
    Calls Tryd.prog 31 #[.slice A n c] w fun e w' => ∃ g, w.heap.size ≤ g ∧ e = .returned (.slice (some ⟨g, 0, none⟩) n n) ∧ OwnC opF 23 w' g n xs ∧ Below w.heap.size w w' := by
  subst e
  exact copied_any A c xs w hl hb
theorem through_n (p0 p1 p2 p3 p4 : Int) (A : Option Addr) (c : Nat) (line : List POp) (n : Nat) (f : Bool) (w : World) (e : n = line.length) (hr : RulesAt w) (hl : Rd opF w A line) (hn : n ≤ 4096) :
    Calls Tryd.prog 30 #[.agg #[.int .i64 p0, .int .i64 p1, .int .u8 p2, .int .i64 p3, .int .i64 p4], .slice A n c, .bool f] w fun e w' =>
      ∃ (g cap : Nat) (y : POp), e = .returned (.tuple #[.agg #[.int .i64 y.k, .int .i64 y.p, .int .u8 y.c, .int .i64 y.l, .int .i64 y.s], .slice (some ⟨g, 0, none⟩) n cap, .int .i64 0]) ∧ Below w.heap.size w w' := by
  subst e
  refine (through_any p0 p1 p2 p3 p4 A c line f w hr hl hn).mono ?_
  rintro e w' ⟨g, cap, y, m, hy, rfl, _, _, hb⟩
  have := pastL_length f line ⟨p0, p1, p2, p3, p4⟩
  rw [hy.out] at this
  exact ⟨g, cap, y, by rw [show line.length = m.length from this.symm], hb⟩
theorem through_long_n (p0 p1 p2 p3 p4 : Int) (A : Option Addr) (c : Nat) (n : Nat) (f : Bool) (w : World) (hn : 4096 < n) :
    Calls Tryd.prog 30 #[.agg #[.int .i64 p0, .int .i64 p1, .int .u8 p2, .int .i64 p3, .int .i64 p4], .slice A n c, .bool f] w fun e w' =>
      e = .returned (.tuple #[.agg #[.int .i64 0, .int .i64 0, .int .u8 0, .int .i64 0, .int .i64 0], .slice none 0 0, .int .i64 50]) ∧ Below w.heap.size w w' := by
  obtain ⟨l, rfl⟩ : ∃ l : List POp, n = l.length := ⟨List.replicate n ⟨0, 0, 0, 0, 0⟩, by simp⟩
  exact through_long p0 p1 p2 p3 p4 A c l f w hn
theorem weave_n (A1 A2 : Option Addr) (c1 c2 : Nat) (xs ys : List POp) (n1 n2 : Nat) (e1 : n1 = xs.length) (e2 : n2 = ys.length) (w : World) (hr : RulesAt w) (h1 : Rd opF w A1 xs) (h2 : Rd opF w A2 ys) (l1 : n1 ≤ 4096) (l2 : n2 ≤ 4096) :
    Calls Tryd.prog 42 #[.slice A1 n1 c1, .slice A2 n2 c2] w fun e w' => ∃ (A A' : Option Addr) (c c' : Nat), e = .returned (.tuple #[.slice A n1 c, .slice A' n2 c', .int .i64 0]) ∧ Below w.heap.size w w' := by
  subst e1
  subst e2
  refine (weave_any A1 A2 c1 c2 xs ys w hr h1 h2 l1 l2).mono ?_
  rintro e w' ⟨A, c, g, cap, ls, out, hq, rfl, _, _, _, _, hb⟩
  have h := weaveL_length ys xs
  rw [hq.out] at h
  exact ⟨A, some ⟨g, 0, none⟩, c, cap, by rw [show xs.length = ls.length from h.1.symm, show ys.length = out.length from h.2.symm], hb⟩
theorem weave_long_n (A1 A2 : Option Addr) (c1 c2 : Nat) (n1 n2 : Nat) (w : World) (hn : 4096 < n1 ∨ 4096 < n2) :
    Calls Tryd.prog 42 #[.slice A1 n1 c1, .slice A2 n2 c2] w fun e w' => e = .returned (.tuple #[.slice none 0 0, .slice none 0 0, .int .i64 50]) ∧ Below w.heap.size w w' := by
  obtain ⟨l, rfl⟩ : ∃ l : List POp, n1 = l.length := ⟨List.replicate n1 ⟨0, 0, 0, 0, 0⟩, by simp⟩
  obtain ⟨m, rfl⟩ : ∃ l : List POp, n2 = l.length := ⟨List.replicate n2 ⟨0, 0, 0, 0, 0⟩, by simp⟩
  refine (weave_long A1 A2 c1 c2 l m w hn).mono ?_
  rintro e w' ⟨rfl, rfl⟩
  exact ⟨rfl, Below.refl _ _⟩

theorem holdL {P : Program} {ops : Array Oper} {l : List Oper} {a : Act} {Q : Exit → Act → World → Prop} {W : World} (h : Hid (wpList P ops Q l a W)) : wpList P ops Q l a W := h.out

set_option maxHeartbeats 2000000 in
set_option maxRecDepth 100000 in
theorem limit_any (p0 p1 p2 p3 p4 q0 q1 q2 q3 q4 : Int) (w : World) (hr : RulesAt w) :
    Calls Tryd.prog 12 #[.agg #[.int .i64 p0, .int .i64 p1, .int .u8 p2, .int .i64 p3, .int .i64 p4], .agg #[.int .i64 q0, .int .i64 q1, .int .u8 q2, .int .i64 q3, .int .i64 q4]] w fun e w' => e = .returned (.bool true) ∧ Below w.heap.size w w' := by
  have hzq : opEq ⟨0, 0, 0, 0, 0⟩ ⟨0, 0, 0, 0, 0⟩ = true := opEq_eta2 ⟨0, 0, 0, 0, 0⟩
  go_enter Tryd.func12, Tryd.ntmps12
  go_wp2_with (at_make; refine ev_make0 El.op _ rfl _ _ 35 rfl Tryd.underlying35 _ _ _ 4097 rfl rfl rfl (by omega) (by omega) ?_; intro w1 hO0 hb; (have hO : OwnC opF 23 w1 (w.heap.size + 1 + 1) 4097 [] := by simpa using hO0); have kP1 := ((Blk.new w _ _).alloc _).on hb; have kQ1 := (Blk.new1 w _ _ _).on hb; (have B1 : Below w.heap.size w w1 := (below_alloc (below_alloc (Below.refl _ _) _) _).trans (hb.mono (by simp; omega))); clear hO0 hb)
  go_loopw [5, 6] (fun v i wr => ∃ (k : Nat) (l : List POp), k ≤ 4096 ∧ i = .int .i64 k ∧ v = .slice (some ⟨w.heap.size + 1 + 1, 0, none⟩) k 4097 ∧ Hid (k = l.length) ∧ OwnC opF 23 wr (w.heap.size + 1 + 1) 4097 l ∧ Blk wr w.heap.size #[.int .i64 p0, .int .i64 p1, .int .u8 p2, .int .i64 p3, .int .i64 p4] 23 ∧ Blk wr (w.heap.size + 1) #[.int .i64 q0, .int .i64 q1, .int .u8 q2, .int .i64 q3, .int .i64 q4] 23 ∧ Below w.heap.size w wr) (fun v i wr => 4096 - (intOf i).toNat)
  case atStart => exact ⟨0, [], Nat.zero_le _, rfl, rfl, rfl, hO, kP1, kQ1, B1⟩
  case round =>
    clear hO kP1 kQ1 B1
    obtain ⟨k, L, hk, rfl, rfl, hkl, oL, kP, kQ, hT⟩ := hrel
    by_cases hlt : k < 4096
    · have hroom : L.length < 4097 := by have := hkl.out; omega
      have HR := Lib.hid hroom
      obtain ⟨e0, e1, e2, e3, e4⟩ := kP.cells5
      have lP := kP.lt
      clear hroom
      go_wp2_with (at_builtin; refine ev_app1 El.op _ rfl _ _ 35 rfl Tryd.underlying35 (w.heap.size + 1 + 1) 4097 L ⟨p0, p1, p2, p3, p4⟩ k hkl.out rfl rfl oL HR.out ?_; intro w2 oL2 hg2; have kP2 := kP.grown hg2 (ne_some (by omega)); have kQ2 := kQ.grown hg2 (ne_some (by omega)); (have hT2 : Below w.heap.size w w2 := hT.grown hg2 hT.size (fun k e => by have := Option.some.inj e; omega)); clear hg2)
      go_roundw
      case rel => exact ⟨k + 1, L ++ [⟨p0, p1, p2, p3, p4⟩], by omega, by go_num, rfl, Lib.hid (by have := hkl.out; simp; omega), oL2, kP2, kQ2, hT2⟩
      case measure => simp [intOf]; omega
    · have hk4 : k = 4096 := by omega
      subst hk4
      have e4096 : Hid (4096 = L.length) := hkl
      have rL := oL.rd
      have hrW := hr.on hT
      clear hkl hk hlt
      go_upto_region 6 with fail
      have hA : FiveAt wr (w.heap.size + 1) 0 ⟨q0, q1, q2, q3, q4⟩ := kQ.cells5
      have lA := kQ.lt
      go_cut [7, 8, 9] from 13 to 150 (fun p q e wx => ∃ (A : Option Addr) (c g : Nat), p = .pointer (some ⟨g, 0, none⟩) ∧ q = .slice A 4096 c ∧ e = .int .i64 0 ∧ Below wr.heap.size wr wx)
      case first =>
        go_region_held3 (fun V => (V.cell? ⟨w.heap.size + 1, 0, none⟩ = some (.int .i64 q0) ∧ V.cell? ⟨w.heap.size + 1, 1, none⟩ = some (.int .i64 q1) ∧ V.cell? ⟨w.heap.size + 1, 2, none⟩ = some (.int .u8 q2) ∧ V.cell? ⟨w.heap.size + 1, 3, none⟩ = some (.int .i64 q3) ∧ V.cell? ⟨w.heap.size + 1, 4, none⟩ = some (.int .i64 q4)))
          (first | (with_reducible refine five_keep hA ?_ lA; (repeat' (first | with_reducible exact Below.refl _ _ | with_reducible exact hB1 | with_reducible exact hB2 | with_reducible refine Below.drew ?_ | with_reducible refine below_alloc ?_ _ | with_reducible refine Below.setCell ?_ (by first | exact Nat.le_refl _ | exact Below.size hB1 | exact Below.size hB2) _ | fail))) | fail)
          (first
            | (go_at_call 31; (with_reducible refine (copied_n _ _ L _ _ e4096.out (rL.below (by (repeat' (first | with_reducible exact Below.refl _ _ | with_reducible exact hB1 | with_reducible exact hB2 | with_reducible refine Below.drew ?_ | with_reducible refine below_alloc ?_ _ | with_reducible refine Below.setCell ?_ (by first | exact Nat.le_refl _ | exact Below.size hB1 | exact Below.size hB2) _ | fail)))) (by omega)).mono ?_); rintro e w1 ⟨g1, hg1, rfl, ow1, hb⟩; (have hB1 : Below wr.heap.size wr w1 := by first | exact (Below.refl _ _).drew.trans hb | exact (below_alloc (Below.refl _ _) _).drew.trans (hb.mono (by simp))); try (have kN := (Blk.new wr #[.int .i64 0, .int .i64 0, .int .u8 0, .int .i64 0, .int .i64 0] 23).drew.on hb))
            | (go_at_call 30; (with_reducible refine (through_n _ _ _ _ _ _ _ L _ _ _ e4096.out (hrW.on (by (repeat' (first | with_reducible exact Below.refl _ _ | with_reducible exact hB1 | with_reducible exact hB2 | with_reducible refine Below.drew ?_ | with_reducible refine below_alloc ?_ _ | with_reducible refine Below.setCell ?_ (by first | exact Nat.le_refl _ | exact Below.size hB1 | exact Below.size hB2) _ | fail)))) (by first | exact ow1.rd | exact (ow1.alloc _).rd) (by omega)).mono ?_); rintro e w2 ⟨gm, cm, y, rfl, hb2⟩; (have hB2 : Below wr.heap.size wr w2 := by first | exact hB1.trans (hb2.mono hB1.size) | exact (below_alloc hB1 _).trans (hb2.mono (by have := hB1.size; simp; omega))); (try (have kN2 := kN.on hb2; have zn := kN2.frozen; obtain ⟨n0, n1, n2, n3, n4⟩ := kN2.cells5)); (try (have kM := (Blk.new w1 #[.int .i64 0, .int .i64 0, .int .u8 0, .int .i64 0, .int .i64 0] 23).on hb2; have zm := kM.frozen; obtain ⟨m0, m1, m2, m3, m4⟩ := kM.cells5)))
            | fail)
        · go_wp2_with fail
          go_meet
          exact ⟨some ⟨gm, 0, none⟩, cm, w2.heap.size, rfl, rfl, rfl, below_alloc hB2 _⟩
        · go_wp2_with fail
          go_meet
          exact ⟨some ⟨gm, 0, none⟩, cm, w1.heap.size, rfl, rfl, rfl, below_put5 hB2 hB1.size _ _ _ _ _⟩
        · go_wp2_with fail
          go_meet
          exact ⟨some ⟨gm, 0, none⟩, cm, wr.heap.size, rfl, rfl, rfl, below_put5 hB2 (Nat.le_refl _) _ _ _ _ _⟩
      case rest =>
        obtain ⟨A, c, g2, rfl, rfl, rfl, hX⟩ := hcut
        have kQ' := kQ.on hX
        have kP' := kP.on hX
        have oL' := oL.on hX
        have rL' := rL.below hX
        have hrW' := hrW.on hX
        have hT' := hT.trans (hX.mono hT.size)
        clear kQ kP oL rL hrW hT hA lA hX
        have kQ := kQ'
        have kP := kP'
        have oL := oL'
        have rL := rL'
        have hrW := hrW'
        have hT := hT'
        clear kQ' kP' oL' rL' hrW' hT'
        go_wp2_with fail
        with_reducible refine (num_any _ _).mono ?_
        rintro e wz ⟨rfl, hwz⟩; subst wz
        go_upto_region 9 with fail
        have hA : FiveAt wc (w.heap.size + 1) 0 ⟨q0, q1, q2, q3, q4⟩ := kQ.cells5
        have lA := kQ.lt
        go_cut [10, 11, 9] from 13 to 150 (fun p q e wx => ∃ (A A' : Option Addr) (c c' : Nat), p = .slice A 4096 c ∧ q = .slice A' 1 c' ∧ e = .int .i64 0 ∧ Below wc.heap.size wc wx)
        case first =>
          go_region_held3 (fun V => (V.cell? ⟨w.heap.size + 1, 0, none⟩ = some (.int .i64 q0) ∧ V.cell? ⟨w.heap.size + 1, 1, none⟩ = some (.int .i64 q1) ∧ V.cell? ⟨w.heap.size + 1, 2, none⟩ = some (.int .u8 q2) ∧ V.cell? ⟨w.heap.size + 1, 3, none⟩ = some (.int .i64 q3) ∧ V.cell? ⟨w.heap.size + 1, 4, none⟩ = some (.int .i64 q4)))
            (first | (with_reducible refine five_keep hA ?_ lA; (repeat' (first | with_reducible exact Below.refl _ _ | with_reducible exact hB1 | with_reducible exact hB2 | with_reducible refine Below.drew ?_ | with_reducible refine below_alloc ?_ _ | with_reducible refine Below.setCell ?_ (by first | exact Nat.le_refl _ | exact Below.size hB1 | exact Below.size hB2) _ | fail))) | fail)
            (first
              | (go_at_call 31; (with_reducible refine (copied_n _ _ L _ _ e4096.out (rL.below (by (repeat' (first | with_reducible exact Below.refl _ _ | with_reducible exact hB1 | with_reducible exact hB2 | with_reducible refine Below.drew ?_ | with_reducible refine below_alloc ?_ _ | with_reducible refine Below.setCell ?_ (by first | exact Nat.le_refl _ | exact Below.size hB1 | exact Below.size hB2) _ | fail)))) (by omega)).mono ?_); rintro e w1 ⟨g1, hg1, rfl, ow1, hb⟩; (have hB1 : Below wc.heap.size wc w1 := by first | exact (Below.refl _ _).drew.trans hb | exact (below_alloc (Below.refl _ _) _).drew.trans (hb.mono (by simp))); try (have kN := (Blk.new wc #[.int .i64 q0, .int .i64 q1, .int .u8 q2, .int .i64 q3, .int .i64 q4] 23).drew.on hb))
              | (go_at_call 42; (with_reducible refine (weave_n _ _ _ _ L [⟨q0, q1, q2, q3, q4⟩] _ _ e4096.out (len1 _) _ (hrW.on (by (repeat' (first | with_reducible exact Below.refl _ _ | with_reducible exact hB1 | with_reducible exact hB2 | with_reducible refine Below.drew ?_ | with_reducible refine below_alloc ?_ _ | with_reducible refine Below.setCell ?_ (by first | exact Nat.le_refl _ | exact Below.size hB1 | exact Below.size hB2) _ | fail)))) (by first | exact ow1.rd | exact (ow1.alloc _).rd) (by first | exact kN.rd1 | exact (Blk.new w1 _ _).rd1) (by omega) (by omega)).mono ?_); rintro e w2 ⟨A, A', c, c', rfl, hb2⟩; (have hB2 : Below wc.heap.size wc w2 := by first | exact hB1.trans (hb2.mono hB1.size) | exact (below_alloc hB1 _).trans (hb2.mono (by have := hB1.size; simp; omega))))
              | fail)
          · go_wp2_with fail
            go_meet
            exact ⟨A, A', c, c', rfl, rfl, rfl, hB2⟩
          · go_wp2_with fail
            go_meet
            exact ⟨A, A', c, c', rfl, rfl, rfl, hB2⟩
        case rest =>
          obtain ⟨A, A', c, c', rfl, rfl, rfl, hX⟩ := hcut
          have kQ' := kQ.on hX
          have kP' := kP.on hX
          have oL' := oL.on hX
          have rL' := rL.below hX
          have hrW' := hrW.on hX
          have hT' := hT.trans (hX.mono hT.size)
          clear kQ kP oL rL hrW hT hA lA hX
          have kQ := kQ'
          have kP := kP'
          have oL := oL'
          have rL := rL'
          have hrW := hrW'
          have hT := hT'
          clear kQ' kP' oL' rL' hrW' hT'
          go_wp2_with fail
          with_reducible refine (num_any _ _).mono ?_
          rintro e wz ⟨rfl, hwz⟩; subst wz
          go_upto_region 12 with fail
          have hA : FiveAt wc (w.heap.size + 1) 0 ⟨q0, q1, q2, q3, q4⟩ := kQ.cells5
          have lA := kQ.lt
          go_cut [10, 11, 9] from 13 to 150 (fun p q e wx => ∃ (A A' : Option Addr) (c c' : Nat), p = .slice A 1 c ∧ q = .slice A' 4096 c' ∧ e = .int .i64 0 ∧ Below wc.heap.size wc wx)
          case first =>
            go_region_held3 (fun V => (V.cell? ⟨w.heap.size + 1, 0, none⟩ = some (.int .i64 q0) ∧ V.cell? ⟨w.heap.size + 1, 1, none⟩ = some (.int .i64 q1) ∧ V.cell? ⟨w.heap.size + 1, 2, none⟩ = some (.int .u8 q2) ∧ V.cell? ⟨w.heap.size + 1, 3, none⟩ = some (.int .i64 q3) ∧ V.cell? ⟨w.heap.size + 1, 4, none⟩ = some (.int .i64 q4)))
              (first | (with_reducible refine five_keep hA ?_ lA; (repeat' (first | with_reducible exact Below.refl _ _ | with_reducible exact hB1 | with_reducible exact hB2 | with_reducible refine Below.drew ?_ | with_reducible refine below_alloc ?_ _ | with_reducible refine Below.setCell ?_ (by first | exact Nat.le_refl _ | exact Below.size hB1 | exact Below.size hB2) _ | fail))) | fail)
              (first
                | (go_at_call 31; (with_reducible refine (copied_n _ _ L _ _ e4096.out (rL.below (by (repeat' (first | with_reducible exact Below.refl _ _ | with_reducible exact hB1 | with_reducible exact hB2 | with_reducible refine Below.drew ?_ | with_reducible refine below_alloc ?_ _ | with_reducible refine Below.setCell ?_ (by first | exact Nat.le_refl _ | exact Below.size hB1 | exact Below.size hB2) _ | fail)))) (by omega)).mono ?_); rintro e w1 ⟨g1, hg1, rfl, ow1, hb⟩; (have hB1 : Below wc.heap.size wc w1 := by first | exact (Below.refl _ _).drew.trans hb | exact (below_alloc (Below.refl _ _) _).drew.trans (hb.mono (by simp))); try (have kN := (Blk.new wc #[.int .i64 q0, .int .i64 q1, .int .u8 q2, .int .i64 q3, .int .i64 q4] 23).drew.on hb))
                | (go_at_call 42; (with_reducible refine (weave_n _ _ _ _ [⟨q0, q1, q2, q3, q4⟩] L _ _ (len1 _) e4096.out _ (hrW.on (by (repeat' (first | with_reducible exact Below.refl _ _ | with_reducible exact hB1 | with_reducible exact hB2 | with_reducible refine Below.drew ?_ | with_reducible refine below_alloc ?_ _ | with_reducible refine Below.setCell ?_ (by first | exact Nat.le_refl _ | exact Below.size hB1 | exact Below.size hB2) _ | fail)))) (by first | exact kN.rd1 | exact (Blk.new w1 _ _).rd1) (by first | exact ow1.rd | exact (ow1.alloc _).rd) (by omega) (by omega)).mono ?_); rintro e w2 ⟨A, A', c, c', rfl, hb2⟩; (have hB2 : Below wc.heap.size wc w2 := by first | exact hB1.trans (hb2.mono hB1.size) | exact (below_alloc hB1 _).trans (hb2.mono (by have := hB1.size; simp; omega))))
                | fail)
            · go_wp2_with fail
              go_meet
              exact ⟨A, A', c, c', rfl, rfl, rfl, hB2⟩
            · go_wp2_with fail
              go_meet
              exact ⟨A, A', c, c', rfl, rfl, rfl, hB2⟩
          case rest =>
            obtain ⟨A, A', c, c', rfl, rfl, rfl, hX⟩ := hcut
            have kQ' := kQ.on hX
            have kP' := kP.on hX
            have oL' := oL.on hX
            have rL' := rL.below hX
            have hrW' := hrW.on hX
            have hT' := hT.trans (hX.mono hT.size)
            clear kQ kP oL rL hrW hT hA lA hX
            have kQ := kQ'
            have kP := kP'
            have oL := oL'
            have rL := rL'
            have hrW := hrW'
            have hT := hT'
            clear kQ' kP' oL' rL' hrW' hT'
            go_wp2_with fail
            with_reducible refine (num_any _ _).mono ?_
            rintro e wz ⟨rfl, hwz⟩; subst wz
            have hroom : L.length < 4097 := by have := e4096.out; omega
            have HR := Lib.hid hroom
            clear hroom
            obtain ⟨e0, e1, e2, e3, e4⟩ := kP.cells5
            have lP := kP.lt
            have lQ := kQ.lt
            go_wp2_with (at_builtin; refine ev_app1 El.op _ rfl _ _ 35 rfl Tryd.underlying35 (w.heap.size + 1 + 1) 4097 L ⟨p0, p1, p2, p3, p4⟩ 4096 e4096.out rfl rfl oL HR.out ?_; intro w7 oL7 hg7; have kQ7 := kQ.grown hg7 (ne_some (by omega)); (have hT7 : Below w.heap.size w w7 := hT.grown hg7 hT.size (fun k e => by have := Option.some.inj e; omega)); (refine holdL ?_))
            clear e0 e1 e2 e3 e4 kP oL rL hrW hT kQ hg7
            obtain ⟨L2, hL2⟩ : ∃ L2, L2 = L ++ [(⟨p0, p1, p2, p3, p4⟩ : POp)] := ⟨_, rfl⟩
            rw [← hL2] at oL7
            have e4097 : Hid (4097 = L2.length) := Lib.hid (by rw [hL2]; have := e4096.out; simp; omega)
            clear hL2 e4096
            have kQ := kQ7
            have hT := hT7
            have rL := oL7.rd
            have hrW := hr.on hT
            clear kQ7 hT7 oL7
            refine Lib.hid ?_
            go_upto_region 16 with fail
            have hA : FiveAt w7 (w.heap.size + 1) 0 ⟨q0, q1, q2, q3, q4⟩ := kQ.cells5
            have lA := kQ.lt
            go_cut [12, 8, 9] from 13 to 150 (fun p q e wx => ∃ (g : Nat), p = .pointer (some ⟨g, 0, none⟩) ∧ q = .slice none 0 0 ∧ e = .int .i64 50 ∧ Blk wx g #[.int .i64 0, .int .i64 0, .int .u8 0, .int .i64 0, .int .i64 0] 23 ∧ Below w7.heap.size w7 wx)
            case first =>
              go_region_held3 (fun V => (V.cell? ⟨w.heap.size + 1, 0, none⟩ = some (.int .i64 q0) ∧ V.cell? ⟨w.heap.size + 1, 1, none⟩ = some (.int .i64 q1) ∧ V.cell? ⟨w.heap.size + 1, 2, none⟩ = some (.int .u8 q2) ∧ V.cell? ⟨w.heap.size + 1, 3, none⟩ = some (.int .i64 q3) ∧ V.cell? ⟨w.heap.size + 1, 4, none⟩ = some (.int .i64 q4)))
                (first | (with_reducible refine five_keep hA ?_ lA; (repeat' (first | with_reducible exact Below.refl _ _ | with_reducible exact hB1 | with_reducible exact hB2 | with_reducible refine Below.drew ?_ | with_reducible refine below_alloc ?_ _ | with_reducible refine Below.setCell ?_ (by first | exact Nat.le_refl _ | exact Below.size hB1 | exact Below.size hB2) _ | fail))) | fail)
                (first
                  | (go_at_call 31; (with_reducible refine (copied_n _ _ L2 _ _ e4097.out (rL.below (by (repeat' (first | with_reducible exact Below.refl _ _ | with_reducible exact hB1 | with_reducible exact hB2 | with_reducible refine Below.drew ?_ | with_reducible refine below_alloc ?_ _ | with_reducible refine Below.setCell ?_ (by first | exact Nat.le_refl _ | exact Below.size hB1 | exact Below.size hB2) _ | fail)))) (by omega)).mono ?_); rintro e w1 ⟨g1, hg1, rfl, ow1, hb⟩; (have hB1 : Below w7.heap.size w7 w1 := by first | exact (Below.refl _ _).drew.trans hb | exact (below_alloc (Below.refl _ _) _).drew.trans (hb.mono (by simp))); try (have kN := (Blk.new w7 #[.int .i64 0, .int .i64 0, .int .u8 0, .int .i64 0, .int .i64 0] 23).drew.on hb))
                  | (go_at_call 30; (with_reducible refine (through_long_n _ _ _ _ _ _ _ _ _ _ (by omega)).mono ?_); rintro e w2 ⟨rfl, hb2⟩; (have hB2 : Below w7.heap.size w7 w2 := by first | exact hB1.trans (hb2.mono hB1.size) | exact (below_alloc hB1 _).trans (hb2.mono (by have := hB1.size; simp; omega))); (try (have kN2 := kN.on hb2; have zn := kN2.frozen; obtain ⟨n0, n1, n2, n3, n4⟩ := kN2.cells5)); (try (have kM := (Blk.new w1 #[.int .i64 0, .int .i64 0, .int .u8 0, .int .i64 0, .int .i64 0] 23).on hb2; have zm := kM.frozen; obtain ⟨m0, m1, m2, m3, m4⟩ := kM.cells5)))
                  | fail)
              · go_wp2_with fail
                go_meet
                exact ⟨w2.heap.size, rfl, rfl, rfl, Blk.new w2 _ _, below_alloc hB2 _⟩
              · go_wp2_with fail
                go_meet
                exact ⟨w1.heap.size, rfl, rfl, rfl, kM.set5 _ _ _ _ _, below_put5 hB2 hB1.size _ _ _ _ _⟩
              · go_wp2_with fail
                go_meet
                exact ⟨w7.heap.size, rfl, rfl, rfl, kN2.set5 _ _ _ _ _, below_put5 hB2 (Nat.le_refl _) _ _ _ _ _⟩
            case rest =>
              obtain ⟨g2, rfl, rfl, rfl, kZ, hX⟩ := hcut
              obtain ⟨z0, z1, z2, z3, z4⟩ := kZ.cells5
              have lz := kZ.lt
              have kQ' := kQ.on hX
              have rL' := rL.below hX
              have hrW' := hrW.on hX
              have hT' := hT.trans (hX.mono hT.size)
              clear kQ rL hrW hT hA lA hX
              have kQ := kQ'
              have rL := rL'
              have hrW := hrW'
              have hT := hT'
              clear kQ' rL' hrW' hT'
              go_wp2_with fail
              with_reducible refine (num_any _ _).mono ?_
              rintro e wz ⟨rfl, hwz⟩; subst wz
              go_upto_region 19 with fail
              have hA : FiveAt wc (w.heap.size + 1) 0 ⟨q0, q1, q2, q3, q4⟩ := kQ.cells5
              have lA := kQ.lt
              go_cut [10, 11, 9] from 13 to 150 (fun p q e wx => p = .slice none 0 0 ∧ q = .slice none 0 0 ∧ e = .int .i64 50 ∧ Below wc.heap.size wc wx)
              case first =>
                go_region_held3 (fun V => (V.cell? ⟨w.heap.size + 1, 0, none⟩ = some (.int .i64 q0) ∧ V.cell? ⟨w.heap.size + 1, 1, none⟩ = some (.int .i64 q1) ∧ V.cell? ⟨w.heap.size + 1, 2, none⟩ = some (.int .u8 q2) ∧ V.cell? ⟨w.heap.size + 1, 3, none⟩ = some (.int .i64 q3) ∧ V.cell? ⟨w.heap.size + 1, 4, none⟩ = some (.int .i64 q4)))
                  (first | (with_reducible refine five_keep hA ?_ lA; (repeat' (first | with_reducible exact Below.refl _ _ | with_reducible exact hB1 | with_reducible exact hB2 | with_reducible refine Below.drew ?_ | with_reducible refine below_alloc ?_ _ | with_reducible refine Below.setCell ?_ (by first | exact Nat.le_refl _ | exact Below.size hB1 | exact Below.size hB2) _ | fail))) | fail)
                  (first
                    | (go_at_call 31; (with_reducible refine (copied_n _ _ L2 _ _ e4097.out (rL.below (by (repeat' (first | with_reducible exact Below.refl _ _ | with_reducible exact hB1 | with_reducible exact hB2 | with_reducible refine Below.drew ?_ | with_reducible refine below_alloc ?_ _ | with_reducible refine Below.setCell ?_ (by first | exact Nat.le_refl _ | exact Below.size hB1 | exact Below.size hB2) _ | fail)))) (by omega)).mono ?_); rintro e w1 ⟨g1, hg1, rfl, ow1, hb⟩; (have hB1 : Below wc.heap.size wc w1 := by first | exact (Below.refl _ _).drew.trans hb | exact (below_alloc (Below.refl _ _) _).drew.trans (hb.mono (by simp))); try (have kN := (Blk.new wc #[.int .i64 q0, .int .i64 q1, .int .u8 q2, .int .i64 q3, .int .i64 q4] 23).drew.on hb))
                    | (go_at_call 42; (with_reducible refine (weave_long_n _ _ _ _ _ _ _ (by omega)).mono ?_); rintro e w2 ⟨rfl, hb2⟩; (have hB2 : Below wc.heap.size wc w2 := by first | exact hB1.trans (hb2.mono hB1.size) | exact (below_alloc hB1 _).trans (hb2.mono (by have := hB1.size; simp; omega))))
                    | fail)
                · go_wp2_with fail
                  go_meet
                  exact ⟨rfl, rfl, rfl, hB2⟩
                · go_wp2_with fail
                  go_meet
                  exact ⟨rfl, rfl, rfl, hB2⟩
              case rest =>
                obtain ⟨rfl, rfl, rfl, hX⟩ := hcut
                have kQ' := kQ.on hX
                have rL' := rL.below hX
                have hrW' := hrW.on hX
                have hT' := hT.trans (hX.mono hT.size)
                clear kQ rL hrW hT hA lA hX
                have kQ := kQ'
                have rL := rL'
                have hrW := hrW'
                have hT := hT'
                clear kQ' rL' hrW' hT'
                go_wp2_with fail
                with_reducible refine (num_any _ _).mono ?_
                rintro e wz ⟨rfl, hwz⟩; subst wz
                go_upto_region 22 with fail
                have hA : FiveAt wc (w.heap.size + 1) 0 ⟨q0, q1, q2, q3, q4⟩ := kQ.cells5
                have lA := kQ.lt
                go_cut [10, 11, 9] from 13 to 150 (fun p q e wx => p = .slice none 0 0 ∧ q = .slice none 0 0 ∧ e = .int .i64 50 ∧ Below wc.heap.size wc wx)
                case first =>
                  go_region_held3 (fun V => (V.cell? ⟨w.heap.size + 1, 0, none⟩ = some (.int .i64 q0) ∧ V.cell? ⟨w.heap.size + 1, 1, none⟩ = some (.int .i64 q1) ∧ V.cell? ⟨w.heap.size + 1, 2, none⟩ = some (.int .u8 q2) ∧ V.cell? ⟨w.heap.size + 1, 3, none⟩ = some (.int .i64 q3) ∧ V.cell? ⟨w.heap.size + 1, 4, none⟩ = some (.int .i64 q4)))
                    (first | (with_reducible refine five_keep hA ?_ lA; (repeat' (first | with_reducible exact Below.refl _ _ | with_reducible exact hB1 | with_reducible exact hB2 | with_reducible refine Below.drew ?_ | with_reducible refine below_alloc ?_ _ | with_reducible refine Below.setCell ?_ (by first | exact Nat.le_refl _ | exact Below.size hB1 | exact Below.size hB2) _ | fail))) | fail)
                    (first
                      | (go_at_call 31; (with_reducible refine (copied_n _ _ L2 _ _ e4097.out (rL.below (by (repeat' (first | with_reducible exact Below.refl _ _ | with_reducible exact hB1 | with_reducible exact hB2 | with_reducible refine Below.drew ?_ | with_reducible refine below_alloc ?_ _ | with_reducible refine Below.setCell ?_ (by first | exact Nat.le_refl _ | exact Below.size hB1 | exact Below.size hB2) _ | fail)))) (by omega)).mono ?_); rintro e w1 ⟨g1, hg1, rfl, ow1, hb⟩; (have hB1 : Below wc.heap.size wc w1 := by first | exact (Below.refl _ _).drew.trans hb | exact (below_alloc (Below.refl _ _) _).drew.trans (hb.mono (by simp))); try (have kN := (Blk.new wc #[.int .i64 q0, .int .i64 q1, .int .u8 q2, .int .i64 q3, .int .i64 q4] 23).drew.on hb))
                      | (go_at_call 42; (with_reducible refine (weave_long_n _ _ _ _ _ _ _ (by omega)).mono ?_); rintro e w2 ⟨rfl, hb2⟩; (have hB2 : Below wc.heap.size wc w2 := by first | exact hB1.trans (hb2.mono hB1.size) | exact (below_alloc hB1 _).trans (hb2.mono (by have := hB1.size; simp; omega))))
                      | fail)
                  · go_wp2_with fail
                    go_meet
                    exact ⟨rfl, rfl, rfl, hB2⟩
                  · go_wp2_with fail
                    go_meet
                    exact ⟨rfl, rfl, rfl, hB2⟩
                case rest =>
                  obtain ⟨rfl, rfl, rfl, hX⟩ := hcut
                  have kQ' := kQ.on hX
                  have rL' := rL.below hX
                  have hrW' := hrW.on hX
                  have hT' := hT.trans (hX.mono hT.size)
                  clear kQ rL hrW hT hA lA hX
                  have kQ := kQ'
                  have rL := rL'
                  have hrW := hrW'
                  have hT := hT'
                  clear kQ' rL' hrW' hT'
                  go_wp2_with fail
                  with_reducible refine (num_any _ _).mono ?_
                  rintro e wz ⟨rfl, hwz⟩; subst wz
                  go_wp2
                  go_ret
                  exact ⟨rfl, hT⟩

end Go.Proofs.YtkicbnkacjnhoaaDoor
