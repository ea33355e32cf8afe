/- The walks of jotterlaw05.acting and jotterlaw05.OtNops: it answers true. -/
import Derived.Test.YtkicbnkacjnhoaaDoorWeavesWalk
import Derived.Test.YtkicbnkacjnhoaaDoorOtNop
namespace Go.Proofs.YtkicbnkacjnhoaaDoor
open Go.RowKit
set_option linter.unusedVariables false
set_option linter.unusedSimpArgs false

theorem actingL_le (xs : List POp) : (actingL xs).length ≤ xs.length := List.length_filter_le _ _
theorem acting_snoc (xs : List POp) (k : Nat) (x : POp) (hx : xs[k]? = some x) : actingL (xs.take (k + 1)) = actingL (xs.take k) ++ (if x.k = 0 then [] else [x]) := by
  rw [List.take_add_one, hx]
  by_cases h : x.k = 0 <;> simp [actingL, List.filter_append, h]

set_option maxHeartbeats 1000000 in
set_option maxRecDepth 100000 in
theorem acting_any (A : Option Addr) (c : Nat) (xs : List POp) (w : World) (hl : Rd opF w A xs) (hn : xs.length ≤ 4096) :
    Calls Tryd.prog 44 #[.slice A xs.length c] w fun e w' => ∃ A' c', e = .returned (.slice A' (actingL xs).length c') ∧ OwnV opF 23 w.heap.size w' (.slice A' (actingL xs).length c') (actingL xs) ∧ Below w.heap.size w w' := by
  go_enter Tryd.func44, Tryd.ntmps44
  go_wp2_with fail
  go_loopw [3, 4] (fun v i wr => ∃ (k : Nat) (A' : Option Addr) (c' : Nat) (out : List POp), k ≤ xs.length ∧ i = .int .i64 k ∧ v = .slice A' out.length c' ∧ Hid (actingL (xs.take k) = out) ∧ OwnV opF 23 w.heap.size wr (.slice A' out.length c') out ∧ Below w.heap.size w wr) (fun v i wr => xs.length - (intOf i).toNat)
  case atStart => exact ⟨0, none, 0, [], Nat.zero_le _, rfl, rfl, rfl, OwnV.nil _ _, Below.refl _ _⟩
  case round =>
    obtain ⟨k, A', c', out, hk, rfl, rfl, hq, oV, B⟩ := hrel
    by_cases hlt : k < xs.length
    · obtain ⟨b, off, x, rfl, hx, e0, e1, e2, e3, e4⟩ := (hl.below B).op k hlt
      have hlen : out.length ≤ 4096 := by
        have h1 := actingL_le (xs.take k)
        rw [hq.out] at h1
        simp at h1
        omega
      have HB : Hid ((out.length + 1) * 40 ≤ 140737488355328) := Lib.hid (by omega)
      clear hlen
      have hsn := acting_snoc xs k x hx.out
      by_cases h0 : x.k = 0
      · have m1 : (x.k != 0) = false := by simp [h0]
        rw [if_pos h0, List.append_nil, hq.out] at hsn
        have HS := Lib.hid hsn
        clear hsn
        go_wp2
        go_roundw
        case rel => exact ⟨k + 1, A', c', out, by omega, by go_num, rfl, HS, oV, B⟩
        case measure => simp [intOf]; omega
      · have m1 : (x.k != 0) = true := by simpa using h0
        rw [if_neg h0, hq.out] at hsn
        have HS := Lib.hid hsn
        clear hsn
        have hWs := B.size
        go_wp2_with (at_builtin; go_loud (refine ev_app1V El.op (by decide) (by decide) _ rfl _ _ 35 rfl Tryd.underlying35 w.heap.size (.slice A' out.length c') out x rfl rfl oV HB.out hWs ?_; intro v' w2 oV2 hg2 hb2; obtain ⟨A2, c2, rfl, hrd2⟩ := oV2.rd; (have B2 : Below w.heap.size w w2 := B.grown hg2 B.size (fun k e => (oV.lt k e).1))))
        go_roundw
        case rel => exact ⟨k + 1, A2, c2, out ++ [x], by omega, by go_num, by simp, HS, oV2, B2⟩
        case measure => simp [intOf]; omega
    · have hkn : k = xs.length := by omega
      subst hkn
      rw [List.take_length] at hq
      obtain rfl := hq.out
      go_wp2
      go_ret
      exact ⟨A', c', rfl, oV, B⟩
theorem pick_le : ∀ (m : List Bool) (xs : List POp), (pick m xs).length ≤ xs.length
  | [], _ => by simp [pick]
  | true :: m, [] => by simp [pick]
  | false :: m, [] => by simp [pick]
  | true :: m, x :: r => by simp only [pick, List.length_cons]; have := pick_le m r; omega
  | false :: m, x :: r => by simp only [pick, List.length_cons]; have := pick_le m r; omega

set_option maxHeartbeats 2000000 in
set_option maxRecDepth 100000 in
theorem nops_any (A1 A2 : Option Addr) (c1 c2 : Nat) (xs ys : List POp) (w : World) (hr : RulesAt w) (h1 : Rd opF w A1 xs) (h2 : Rd opF w A2 ys) :
    Calls Tryd.prog 10 #[.slice A1 xs.length c1, .slice A2 ys.length c2] w fun e w' => e = .returned (.bool true) ∧ Below w.heap.size w w' := by
  by_cases hlong : 4096 < xs.length ∨ 4096 < ys.length
  · by_cases ha : 4096 < xs.length
    · go_enter Tryd.func10, Tryd.ntmps10
      go_wp2
      go_ret
      exact ⟨rfl, Below.refl _ _⟩
    · have hb : 4096 < ys.length := by omega
      go_enter Tryd.func10, Tryd.ntmps10
      go_wp2
      go_ret
      exact ⟨rfl, Below.refl _ _⟩
  · obtain ⟨n1, n2⟩ : xs.length ≤ 4096 ∧ ys.length ≤ 4096 := by omega
    clear hlong
    have HN1 := Lib.hid n1
    have HN2 := Lib.hid n2
    go_enter Tryd.func10, Tryd.ntmps10
    go_wp2_with fail
    with_reducible refine (copied_any _ _ _ _ h1 (by omega)).mono ?_
    rintro e w1 ⟨g1, hg1, rfl, o1, B1⟩
    go_wp2_with fail
    with_reducible refine (copied_any _ _ _ _ (h2.below B1) (by omega)).mono ?_
    rintro e w2 ⟨g2, hg2, rfl, o2, hb2⟩
    have o12 := o1.on hb2
    have B2 : Below w.heap.size w w2 := B1.trans (hb2.mono B1.size)
    clear hb2 B1 o1
    go_wp2_with fail
    with_reducible refine (weave_any _ _ _ _ _ _ _ (hr.on B2) o12.rd o2.rd n1 n2).mono ?_
    rintro e w3 ⟨A, c, g, cap, ls, out, hq, rfl, oL, oC, hne, hg, hb3⟩
    have B3 : Below w.heap.size w w3 := B2.trans (hb3.mono B2.size)
    have rL := oL.rd2
    have rO := oC.rd
    clear hb3 o12 o2 oL oC hne B2
    go_wp2_with fail
    with_reducible refine (acting_any _ _ _ _ (h1.below B3) n1).mono ?_
    rintro e w4 ⟨A4, c4, rfl, o4, hb4⟩
    have B4 : Below w.heap.size w w4 := B3.trans (hb4.mono B3.size)
    replace rL := rL.below hb4
    replace rO := rO.below hb4
    clear hb4 B3
    go_wp2_with fail
    with_reducible refine (acting_any _ _ _ _ (h2.below B4) n2).mono ?_
    rintro e w5 ⟨A5, c5, rfl, o5, hb5⟩
    have B5 : Below w.heap.size w w5 := B4.trans (hb5.mono B4.size)
    have o45 := o4.on hb5
    replace rL := rL.below hb5
    replace rO := rO.below hb5
    clear hb5 B4 o4
    go_wp2_with fail
    with_reducible refine (weave_any _ _ _ _ _ _ _ (hr.on B5) o45.rd2 o5.rd2 (Nat.le_trans (actingL_le _) n1) (Nat.le_trans (actingL_le _) n2)).mono ?_
    rintro e w0 ⟨A6, c6, g6, cap6, ls6, out6, hq6, rfl, oL6, oC6, hne6, hg6, hb6⟩
    have B0 : Below w.heap.size w w0 := B5.trans (hb6.mono B5.size)
    have RL1 := rL.below hb6
    have RL2 := rO.below hb6
    have RV := oL6.rd2
    have RW := oC6.rd
    have R1 := h1.below B0
    have R2 := h2.below B0
    have hlen := weaveL_length ys xs
    have hact := weave_acting xs ys
    rw [hq6.out, hq.out] at hact
    rw [hq.out] at hlen
    obtain ⟨hact, hM1, hM2⟩ := hact
    have HL1 : Hid (ls.length = xs.length) := hlen.1
    have HL2 : Hid (out.length = ys.length) := hlen.2
    have HM1 := Lib.hid hM1
    have HM2 := Lib.hid hM2
    obtain rfl : ls6 = pick (maskOf xs) ls := congrArg Prod.fst hact
    obtain rfl : out6 = pick (maskOf ys) out := congrArg Prod.snd hact
    have HP1 : Hid ((pick (maskOf xs) ls).length ≤ 9223372036854775807) := Lib.hid (by have := pick_le (maskOf xs) ls; have := HL1.out; omega)
    have HP2 : Hid ((pick (maskOf ys) out).length ≤ 9223372036854775807) := Lib.hid (by have := pick_le (maskOf ys) out; have := HL2.out; omega)
    have q1 : ((ls.length : Int) != xs.length) = false := by have := HL1.out; simp [this]
    have q2 : ((out.length : Int) != ys.length) = false := by have := HL2.out; simp [this]
    clear hact hM1 hM2 hlen hb6 o45 o5 oL6 oC6 hne6 B5 rL rO hq6 hq h1 h2 hr n1 n2
    go_wp2_with fail
    with_reducible refine (num_any _ _).mono ?_
    rintro e wz ⟨rfl, hwz⟩; subst wz
    go_wp2_with fail
    with_reducible refine (num_any _ _).mono ?_
    rintro e wz ⟨rfl, hwz⟩; subst wz
    go_wp2_with fail
    generalize (some ⟨g, 0, none⟩ : Option Addr) = Ax at RL2 ⊢
    go_loopw [11, 13] (fun v i wr => ∃ (k : Nat) (A' : Option Addr) (c' : Nat) (p : List POp), k ≤ xs.length ∧ i = .int .i64 k ∧ v = .slice A' p.length c' ∧ Hid (pick (maskOf (xs.take k)) (ls.take k) = p) ∧ OwnV opF 23 w0.heap.size wr (.slice A' p.length c') p ∧ Below w0.heap.size w0 wr) (fun v i wr => xs.length - (intOf i).toNat)
    case atStart => exact ⟨0, none, 0, [], Nat.zero_le _, rfl, rfl, Lib.hid (by simp [maskOf, pick]), OwnV.nil _ _, Below.refl _ _⟩
    case round =>
      obtain ⟨k, A', c', p, hk, rfl, rfl, hq, oV, B⟩ := hrel
      by_cases hlt : k < xs.length
      · obtain ⟨b, off, x, rfl, hx, e0, e1, e2, e3, e4⟩ := (R1.below B).op k hlt
        have hlt2 : k < ls.length := by have := HL1.out; omega
        obtain ⟨b2, off2, y, rfl, hy, f0, f1, f2, f3, f4⟩ := (RL1.below B).op k hlt2
        have hlen : p.length ≤ k := by
          rw [← hq.out]
          exact Nat.le_trans (pick_le _ _) (by simp; omega)
        have HB : Hid ((p.length + 1) * 40 ≤ 140737488355328) := Lib.hid (by have := HN1.out; omega)
        clear hlen
        have hsn := pick_snoc xs ls k x y hx.out hy.out
        by_cases h0 : x.k = 0
        · have m1 : (x.k != 0) = false := by simp [h0]
          obtain rfl : y = x := Masked.at HM1.out k x y hx.out hy.out h0
          have hqq := opEq_eta2 y
          rw [if_pos h0, List.append_nil, hq.out] at hsn
          have HS := Lib.hid hsn
          clear hsn h0
          go_wp2
          go_quiet (fail)
          go_wp2
          go_roundw
          case rel => exact ⟨k + 1, A', c', p, by omega, by go_num, rfl, HS, oV.drewN _, below_drewN B _⟩
          case measure => simp [intOf]; omega
        · have m1 : (x.k != 0) = true := by simpa using h0
          rw [if_neg h0, hq.out] at hsn
          have HS := Lib.hid hsn
          have hWs := B.size
          clear hsn h0
          go_wp2_with (at_builtin; refine ev_app1V El.op (by decide) (by decide) _ rfl _ _ 35 rfl Tryd.underlying35 w0.heap.size (.slice A' p.length c') p y rfl rfl oV HB.out hWs ?_; intro v' w2 oV2 hg2 hb2; obtain ⟨A2, c2, rfl, hrd2⟩ := oV2.rd; (have B2 : Below w0.heap.size w0 w2 := B.grown hg2 B.size (fun k e => (oV.lt k e).1)))
          go_roundw
          case rel => exact ⟨k + 1, A2, c2, p ++ [y], by omega, by go_num, by simp, HS, oV2, B2⟩
          case measure => simp [intOf]; omega
      · have hkn : k = xs.length := by omega
        subst hkn
        have hq2 : Hid (pick (maskOf xs) ls = p) := by
          have := hq.out
          rwa [List.take_length, List.take_of_length_le (by have := HL1.out; omega)] at this
        clear hq
        have B1 : Below w.heap.size w wr := B0.trans (B.mono B0.size)
        replace R2 := R2.below B
        replace RL2 := RL2.below B
        replace RV := RV.below B
        replace RW := RW.below B
        have oV1 := oV
        have hq1 := hq2
        clear B0 B oV hq2 hlt hk
        go_wp2_with fail
        generalize hgen : wr = w1 at *
        clear hgen
        go_loopw [12, 14] (fun v i wr => ∃ (k : Nat) (A' : Option Addr) (c' : Nat) (p : List POp), k ≤ ys.length ∧ i = .int .i64 k ∧ v = .slice A' p.length c' ∧ Hid (pick (maskOf (ys.take k)) (out.take k) = p) ∧ OwnV opF 23 w1.heap.size wr (.slice A' p.length c') p ∧ Below w1.heap.size w1 wr) (fun v i wr => ys.length - (intOf i).toNat)
        case atStart => exact ⟨0, none, 0, [], Nat.zero_le _, rfl, rfl, Lib.hid (by simp [maskOf, pick]), OwnV.nil _ _, Below.refl _ _⟩
        case round =>
          obtain ⟨k, A', c', p, hk, rfl, rfl, hq, oV, B⟩ := hrel
          by_cases hlt : k < ys.length
          · obtain ⟨b, off, x, rfl, hx, e0, e1, e2, e3, e4⟩ := (R2.below B).op k hlt
            have hlt2 : k < out.length := by have := HL2.out; omega
            obtain ⟨b2, off2, y, rfl, hy, f0, f1, f2, f3, f4⟩ := (RL2.below B).op k hlt2
            have hlen : p.length ≤ k := by
              rw [← hq.out]
              exact Nat.le_trans (pick_le _ _) (by simp; omega)
            have HB : Hid ((p.length + 1) * 40 ≤ 140737488355328) := Lib.hid (by have := HN2.out; omega)
            clear hlen
            have hsn := pick_snoc ys out k x y hx.out hy.out
            by_cases h0 : x.k = 0
            · have m1 : (x.k != 0) = false := by simp [h0]
              obtain rfl : y = x := Masked.at HM2.out k x y hx.out hy.out h0
              have hqq := opEq_eta2 y
              rw [if_pos h0, List.append_nil, hq.out] at hsn
              have HS := Lib.hid hsn
              clear hsn h0
              go_wp2
              go_quiet (fail)
              go_wp2
              go_roundw
              case rel => exact ⟨k + 1, A', c', p, by omega, by go_num, rfl, HS, oV.drewN _, below_drewN B _⟩
              case measure => simp [intOf]; omega
            · have m1 : (x.k != 0) = true := by simpa using h0
              rw [if_neg h0, hq.out] at hsn
              have HS := Lib.hid hsn
              have hWs := B.size
              clear hsn h0
              go_wp2_with (at_builtin; refine ev_app1V El.op (by decide) (by decide) _ rfl _ _ 35 rfl Tryd.underlying35 w1.heap.size (.slice A' p.length c') p y rfl rfl oV HB.out hWs ?_; intro v' w2 oV2 hg2 hb2; obtain ⟨A2, c2, rfl, hrd2⟩ := oV2.rd; (have B2 : Below w1.heap.size w1 w2 := B.grown hg2 B.size (fun k e => (oV.lt k e).1)))
              go_roundw
              case rel => exact ⟨k + 1, A2, c2, p ++ [y], by omega, by go_num, by simp, HS, oV2, B2⟩
              case measure => simp [intOf]; omega
          · have hkn : k = ys.length := by omega
            subst hkn
            have hq2 : Hid (pick (maskOf ys) out = p) := by
              have := hq.out
              rwa [List.take_length, List.take_of_length_le (by have := HL2.out; omega)] at this
            clear hq
            obtain rfl := hq1.out
            obtain rfl := hq2.out
            have oP := oV1.on B
            have rv := RV.below B
            have rw1 := RW.below B
            have rq := oV.rd2
            go_wp2_with fail
            with_reducible refine (sameLine_yes _ _ _ _ _ _ oP.rd2 rv HP1.out).mono ?_
            rintro e w7 ⟨rfl, n7, rfl⟩
            go_wp2_with fail
            with_reducible refine (sameLine_yes _ _ _ _ _ _ (rq.drewN _) (rw1.drewN _) HP2.out).mono ?_
            rintro e w8 ⟨rfl, n8, rfl⟩
            go_wp2
            go_ret
            exact ⟨rfl, below_drewN (B1.trans (B.mono B1.size)) _⟩
end Go.Proofs.YtkicbnkacjnhoaaDoor
