/- The walk of jotterref05.Weave, and of jotterlaw05.OtWeaves: it answers true. -/
import Derived.Test.YtkicbnkacjnhoaaDoorWeave
import Derived.Test.YtkicbnkacjnhoaaDoorThroughsWalk
namespace Go.Proofs.YtkicbnkacjnhoaaDoor
open Go.RowKit
set_option linter.unusedVariables false
set_option linter.unusedSimpArgs false

theorem rweaveL_length (xs ys : List POp) : (rweaveL xs ys).1.length = xs.length ∧ (rweaveL xs ys).2.length = ys.length := by
  rw [rweaveL_is]
  exact weaveL_length ys xs
theorem OwnV.rd2 {α : Type} {F : Flat α} {e : TypeId} {w : World} {base : Nat} {A : Option Addr} {n c : Nat} {xs : List α} (h : OwnV F e base w (.slice A n c) xs) : Rd F w A xs := by
  obtain ⟨A', c', he, h2⟩ := h.rd
  injection he with he1 _ _
  rw [he1]
  exact h2

set_option maxHeartbeats 1000000 in
theorem rweave_long (A1 A2 : Option Addr) (c1 c2 : Nat) (xs ys : List POp) (w : World) (hn : 4096 < xs.length ∨ 4096 < ys.length) :
    Calls Tryd.prog 43 #[.slice A1 xs.length c1, .slice A2 ys.length c2] w fun e w' => e = .returned (.tuple #[.slice none 0 0, .slice none 0 0, .int .i64 50]) ∧ w' = w := by
  by_cases ha : 4096 < xs.length
  · go_enter Tryd.func43, Tryd.ntmps43
    go_wp2
    refine bodyPost_ret (v := .tuple #[.slice none 0 0, .slice none 0 0, .int .i64 50]) (by simp [results, Tryd.results43, go_sem]) rfl ?_
    exact ⟨rfl, rfl⟩
  · have hb : 4096 < ys.length := by omega
    go_enter Tryd.func43, Tryd.ntmps43
    go_wp2
    refine bodyPost_ret (v := .tuple #[.slice none 0 0, .slice none 0 0, .int .i64 50]) (by simp [results, Tryd.results43, go_sem]) rfl ?_
    exact ⟨rfl, rfl⟩

set_option maxHeartbeats 1000000 in
theorem rweave_any (A1 A2 : Option Addr) (c1 c2 : Nat) (xs ys : List POp) (w : World) (h1 : Rd opF w A1 xs) (h2 : Rd opF w A2 ys) (n1 : xs.length ≤ 4096) (n2 : ys.length ≤ 4096) :
    Calls Tryd.prog 43 #[.slice A1 xs.length c1, .slice A2 ys.length c2] w fun e w' =>
      ∃ (A : Option Addr) (c g cap : Nat) (out rs : List POp), Hid (weaveL xs ys = (out, rs)) ∧ e = .returned (.tuple #[.slice (some ⟨g, 0, none⟩) out.length cap, .slice A rs.length c, .int .i64 0]) ∧
        Rd opF w' (some ⟨g, 0, none⟩) out ∧ Rd opF w' A rs ∧ Below w.heap.size w w' := by
  go_enter Tryd.func43, Tryd.ntmps43
  go_wp2_with (at_make; refine ev_make0 El.op _ rfl _ _ 35 rfl Tryd.underlying35 _ _ _ ys.length rfl rfl rfl (by omega) (by omega) ?_; intro w1 hO hB)
  go_loopw [7, 8] (fun v i wr => ∃ k : Nat, k ≤ ys.length ∧ i = .int .i64 k ∧ v = .slice (some ⟨w.heap.size, 0, none⟩) k ys.length ∧ OwnC opF 23 wr w.heap.size ys.length (ys.take k) ∧ Below w.heap.size w wr) (fun v i wr => ys.length - (intOf i).toNat)
  case atStart => exact ⟨0, Nat.zero_le _, rfl, rfl, hO, hB⟩
  case round =>
    clear hO hB
    obtain ⟨k, hk, rfl, rfl, hO, hB⟩ := hrel
    by_cases hlt : k < ys.length
    · have hgl := hO.lt
      obtain ⟨b, off, x, rfl, hx, e0, e1, e2, e3, e4⟩ := (h2.below hB).op k hlt
      have hlk : (ys.take k).length = k := by simp; omega
      have hroom : (ys.take k).length < ys.length := by omega
      have HR := Lib.hid hroom
      have HK := Lib.hid hlk
      clear hroom hlk
      go_wp2_with (at_builtin; refine ev_app1 El.op _ rfl _ _ 35 rfl Tryd.underlying35 w.heap.size ys.length (ys.take k) x k HK.out.symm rfl rfl hO HR.out ?_; intro w2 hO2 hg2; (have B2 : Below w.heap.size w w2 := hB.grown hg2 hB.size (fun k e => Nat.le_of_eq (Option.some.inj e))))
      go_roundw
      case rel =>
        refine ⟨k + 1, by omega, by go_num, rfl, ?_, B2⟩
        rw [List.take_add_one, hx.out]
        exact hO2
      case measure => simp [intOf]; omega
    · have hkn : k = ys.length := by omega
      subst hkn
      rw [List.take_length] at hO
      go_wp2_with (at_make; refine ev_make0 El.op _ rfl _ _ 35 rfl Tryd.underlying35 _ _ _ xs.length rfl rfl rfl (by omega) (by omega) ?_; intro w2 hO2 hb2; (have oL2 := (hO.on hb2).v (base := w.heap.size) (Nat.le_refl _)); (have B2 : Below w.heap.size w w2 := hB.trans (hb2.mono hB.size)))
      have hgw : w.heap.size < wr.heap.size := hO.lt
      clear hO hB hb2
      generalize wr.heap.size = g at hO2 hgw ⊢
      go_loopw [7, 9, 10] (fun R v i wr => ∃ (k : Nat) (A : Option Addr) (c : Nat) (out rs : List POp), k ≤ xs.length ∧ i = .int .i64 k ∧ R = .slice A rs.length c ∧ v = .slice (some ⟨g, 0, none⟩) out.length xs.length ∧ Hid (rweaveL (xs.take k) ys = (out, rs)) ∧ OwnV opF 23 w.heap.size wr (.slice A rs.length c) rs ∧ OwnC opF 23 wr g xs.length out ∧ (Value.slice A rs.length c).ownBlock ≠ some g ∧ Below w.heap.size w wr) (fun R v i wr => xs.length - (intOf i).toNat)
      case atStart => exact ⟨0, _, _, [], ys, Nat.zero_le _, rfl, rfl, rfl, rfl, oL2, hO2, fun h => absurd (show (w.heap.size : Nat) = g from Option.some.inj h) (by omega), B2⟩
      case round =>
        clear oL2 hO2 B2
        obtain ⟨k, A, c, out, rs, hk, rfl, rfl, rfl, hq, oL, oC, hne, B⟩ := hrel
        have hlen := rweaveL_length (xs.take k) ys
        rw [hq.out] at hlen
        simp only [List.length_take, Nat.min_eq_left hk] at hlen
        obtain ⟨hl1, hl2⟩ := hlen
        by_cases hlt : k < xs.length
        · have hgl := oC.lt
          obtain ⟨b, off, x, rfl, hx, e0, e1, e2, e3, e4⟩ := (h1.below B).op k hlt
          have hrd : Rd opF wr A rs := oL.rd2
          have hroom : out.length < xs.length := by omega
          have HR := Lib.hid hroom
          have hll : rs.length ≤ 4096 := by omega
          clear hroom hl1 hl2
          go_wp2_with fail
          with_reducible refine (rthrough_any _ _ _ _ _ _ _ _ _ _ hrd hll).mono ?_
          rintro e w3 ⟨gm, cm, y, m, hy, rfl, om, hgm, hb3⟩
          have oC3 := oC.on hb3
          have B3 : Below w.heap.size w w3 := B.trans (hb3.mono B.size)
          have hWs := B.size
          clear e0 e1 e2 e3 e4 hb3 oL oC hrd hne
          go_wp2_with (at_builtin; refine ev_app1 El.op _ rfl _ _ 35 rfl Tryd.underlying35 g xs.length out y _ rfl rfl (by show Value.slice (some ⟨w3.heap.size + 1, 0, none⟩) 1 1 = _; simp) (oC3.alloc _) HR.out ?_; intro w5 oC5 hg5; have om5 := (om.alloc _).grown hg5 (ne_some (by omega)); (have B5 : Below w.heap.size w w5 := (below_alloc B3 _).grown hg5 (by have := B3.size; simp; omega) (fun k e => by have := Option.some.inj e; omega)); clear oC3 om B3 hg5)
          go_roundw
          case rel =>
            refine ⟨k + 1, some ⟨gm, 0, none⟩, cm, out ++ [y], m, by omega, by go_num, rfl, by simp, ?_, om5.v (by omega), oC5, fun h => absurd (show (gm : Nat) = g from Option.some.inj h) (by omega), B5⟩
            show rweaveL (xs.take (k + 1)) ys = _
            rw [List.take_add_one, hx.out, Option.toList_some, rweaveL_snoc, hq.out]
            have h : pastL x rs false = (y, m) := hy.out
            show (out ++ [(pastL x rs false).1], (pastL x rs false).2) = (out ++ [y], m)
            rw [h]
          case measure => simp [intOf]; omega
        · have hkn : k = xs.length := by omega
          subst hkn
          have hq2 : Hid (weaveL xs ys = (out, rs)) := by have := hq.out; rwa [List.take_length, rweaveL_is] at this
          clear hl1 hl2 hq
          go_wp2
          refine bodyPost_ret (v := .tuple #[.slice (some ⟨g, 0, none⟩) out.length xs.length, .slice A rs.length c, .int .i64 0]) (by simp [results, Tryd.results43, go_sem]) rfl ?_
          exact ⟨A, c, g, _, out, rs, hq2, rfl, oC.rd, oL.rd2, B⟩

set_option maxHeartbeats 1000000 in
theorem weaves_any (A1 A2 : Option Addr) (c1 c2 : Nat) (xs ys : List POp) (w : World) (hr : RulesAt w) (h1 : Rd opF w A1 xs) (h2 : Rd opF w A2 ys) (z1 : xs.length * 40 ≤ 140737488351232) (z2 : ys.length * 40 ≤ 140737488351232) :
    Calls Tryd.prog 8 #[.slice A1 xs.length c1, .slice A2 ys.length c2] w fun e w' => e = .returned (.bool true) ∧ Below w.heap.size w w' := by
  have y1 : xs.length * 40 ≤ 281474976710656 := by omega
  have y2 : ys.length * 40 ≤ 281474976710656 := by omega
  have Y1 := Lib.hid y1
  have Y2 := Lib.hid y2
  clear y1 y2
  go_enter Tryd.func8, Tryd.ntmps8
  go_wp2_with fail
  with_reducible refine (copied_any _ _ _ _ h1 Y1.out).mono ?_
  rintro e w1 ⟨g1, hg1, rfl, o1, B1⟩
  go_wp2_with fail
  with_reducible refine (copied_any _ _ _ _ (h2.below B1) Y2.out).mono ?_
  rintro e w2 ⟨g2, hg2, rfl, o2, hb2⟩
  have o12 := o1.on hb2
  have B2 : Below w.heap.size w w2 := B1.trans (hb2.mono B1.size)
  have hlong : (4096 < xs.length ∨ 4096 < ys.length) ∨ (xs.length ≤ 4096 ∧ ys.length ≤ 4096) := by omega
  clear hb2 B1 o1 z1 z2
  rcases hlong with hlong | ⟨n1, n2⟩
  · have HL := Lib.hid hlong
    clear hlong
    go_wp2_with fail
    with_reducible refine (weave_long _ _ _ _ _ _ _ HL.out).mono ?_
    rintro e w3 ⟨rfl, rfl⟩
    go_wp2_with fail
    with_reducible refine (rweave_long _ _ _ _ _ _ _ HL.out).mono ?_
    rintro e w3 ⟨rfl, rfl⟩
    go_wp2_with fail
    with_reducible refine (sameNil _).mono ?_
    rintro e w4 ⟨rfl, n, rfl⟩
    go_wp2_with fail
    with_reducible refine (sameNil _).mono ?_
    rintro e w4 ⟨rfl, m, rfl⟩
    go_wp2_with fail
    with_reducible refine (num_any _ _).mono ?_
    rintro e w5 ⟨rfl, rfl⟩
    go_wp2
    go_ret
    exact ⟨rfl, below_drewN B2 _⟩
  · go_wp2_with fail
    with_reducible refine (weave_any _ _ _ _ _ _ _ (hr.on B2) o12.rd o2.rd n1 n2).mono ?_
    rintro e w3 ⟨A, c, g, cap, ls, out, hq, rfl, oL, oC, hne, hg, hb3⟩
    have B3 : Below w.heap.size w w3 := B2.trans (hb3.mono B2.size)
    have hlen := weaveL_length ys xs
    rw [hq.out] at hlen
    have l1 : ls.length ≤ 9223372036854775807 := by have := hlen.1; simp only at this; omega
    have l2 : out.length ≤ 9223372036854775807 := by have := hlen.2; simp only at this; omega
    have L1 := Lib.hid l1
    have L2 := Lib.hid l2
    clear l1 l2 hlen hb3 o12 o2
    have rL := oL.rd2
    have rO := oC.rd
    clear oL oC hne
    go_wp2_with fail
    with_reducible refine (rweave_any _ _ _ _ _ _ _ (h1.below B3) (h2.below B3) n1 n2).mono ?_
    rintro e w4 ⟨A', c', g', cap', ls', out', hq', rfl, rL', rO', hb4⟩
    obtain ⟨rfl, rfl⟩ : ls = ls' ∧ out = out' := by
      have h := hq.out.symm.trans hq'.out
      exact ⟨congrArg Prod.fst h, congrArg Prod.snd h⟩
    have B4 : Below w.heap.size w w4 := B3.trans (hb4.mono B3.size)
    have rL4 := rL.below hb4
    have rO4 := rO.below hb4
    clear hb4 rL rO
    go_wp2_with fail
    with_reducible refine (sameLine_yes _ _ _ _ _ _ rL4 rL' L1.out).mono ?_
    rintro e w5 ⟨rfl, n, rfl⟩
    go_wp2_with fail
    with_reducible refine (sameLine_yes _ _ _ _ _ _ (rO4.drewN _) (rO'.drewN _) L2.out).mono ?_
    rintro e w6 ⟨rfl, m, rfl⟩
    go_wp2_with fail
    with_reducible refine (num_any _ _).mono ?_
    rintro e w5 ⟨rfl, rfl⟩
    go_wp2
    go_ret
    exact ⟨rfl, below_drewN B4 _⟩
end Go.Proofs.YtkicbnkacjnhoaaDoor
