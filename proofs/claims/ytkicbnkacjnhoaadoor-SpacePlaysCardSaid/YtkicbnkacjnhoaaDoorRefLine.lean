/- The walk of jotterref10's line. -/
import Derived.Test.YtkicbnkacjnhoaaDoorRefDrop
import Derived.Test.YtkicbnkacjnhoaaDoorRefThrough
import Derived.Test.YtkicbnkacjnhoaaDoorSpCross
import Derived.Test.YtkicbnkacjnhoaaDoorSpTh
import Derived.StillTailTactics
import Derived.Outline
namespace Go.Proofs.YtkicbnkacjnhoaaDoor
open Go.RowKit
set_option linter.unusedVariables false
set_option linter.unusedSimpArgs false

theorem flatMap_setOp (f : POp) : ∀ (xs : List POp) (i : Nat), i < xs.length →
    ((((((xs.flatMap opF.cells).set (i * 5) (.int .i64 f.k)).set (i * 5 + 1) (.int .i64 f.p)).set (i * 5 + 2) (.int .u8 f.c)).set (i * 5 + 3) (.int .i64 f.l)).set (i * 5 + 4) (.int .i64 f.s)) = (xs.set i f).flatMap opF.cells
  | [], i, h => by simp at h
  | y :: r, 0, h => by simp [opF]
  | y :: r, i + 1, h => by
    have ih := flatMap_setOp f r i (by simpa using h)
    rw [List.flatMap_cons, List.set_cons_succ, List.flatMap_cons, ← ih]
    have e : ∀ j, (i + 1) * 5 + j = (opF.cells y).length + (i * 5 + j) := fun j => by rw [opF.len]; simp [opF]; omega
    have e0 : (i + 1) * 5 = (opF.cells y).length + i * 5 := by simpa using e 0
    rw [e0]
    simp only [Nat.add_assoc]
    simp only [List.set_append_right _ _ (Nat.le_add_right _ _), Nat.add_sub_cancel_left]
theorem OwnC.setOp {w : World} {g cap : Nat} {xs : List POp} (h : OwnC opF 23 w g cap xs) {i : Nat} (hi : i < xs.length) (f : POp) :
    OwnC opF 23 (put5at w g (i * 5) (.int .i64 f.k) (.int .i64 f.p) (.int .u8 f.c) (.int .i64 f.l) (.int .i64 f.s)) g cap (xs.set i f) := by
  unfold OwnC
  rw [List.length_set, ← flatMap_setOp f xs i hi]
  exact rowSet (rowSet (rowSet (rowSet (rowSet h _ _) _ _) _ _) _ _) _ _
theorem seven_keep {w W : World} {b off : Nat} {x : PFar} (h : SevenAt w b off x) (hb : Below w.heap.size w W) (hlt : b < w.heap.size) : SevenAt W b off x := by
  obtain ⟨h0, h1, h2, h3, h4, h5, h6⟩ := h
  have k : ∀ i, W.cell? ⟨b, i, none⟩ = w.cell? ⟨b, i, none⟩ := fun i => hb.cell hlt
  exact ⟨(k _).trans h0, (k _).trans h1, (k _).trans h2, (k _).trans h3, (k _).trans h4, (k _).trans h5, (k _).trans h6⟩
theorem cell_other (w : World) (a : Addr) (v : Value) (b off : Nat) (hne : b ≠ a.block) : (w.setCell a v).cell? ⟨b, off, none⟩ = w.cell? ⟨b, off, none⟩ := by simp [World.cell?, heap_setCell_other w a b v hne]
theorem cell_p5 {w : World} {b off b' i : Nat} {u : Value} (h : w.cell? ⟨b, off, none⟩ = some u) (hne : b ≠ b') {v0 v1 v2 v3 v4 : Value} : (put5at w b' i v0 v1 v2 v3 v4).cell? ⟨b, off, none⟩ = some u := by
  unfold put5at
  rw [cell_other _ _ _ _ _ hne, cell_other _ _ _ _ _ hne, cell_other _ _ _ _ _ hne, cell_other _ _ _ _ _ hne, cell_other _ _ _ _ _ hne]
  exact h
theorem five_p5 {w : World} {b off b' i : Nat} {x : POp} (h : FiveAt w b off x) (hne : b ≠ b') {v0 v1 v2 v3 v4 : Value} : FiveAt (put5at w b' i v0 v1 v2 v3 v4) b off x := by
  obtain ⟨h0, h1, h2, h3, h4⟩ := h
  exact ⟨cell_p5 h0 hne, cell_p5 h1 hne, cell_p5 h2 hne, cell_p5 h3 hne, cell_p5 h4 hne⟩
theorem Blk.p5 {w : World} {b : Nat} {cs : Array Value} {t : TypeId} (h : Blk w b cs t) {b' i : Nat} (hne : b ≠ b') {v0 v1 v2 v3 v4 : Value} : Blk (put5at w b' i v0 v1 v2 v3 v4) b cs t :=
  ((((h.setOther hne v0).setOther hne v1).setOther hne v2).setOther hne v3).setOther hne v4
theorem below_p5 {B : Nat} {a w : World} (h : Below B a w) {b i : Nat} (hb : B ≤ b) {v0 v1 v2 v3 v4 : Value} : Below B a (put5at w b i v0 v1 v2 v3 v4) :=
  ((((h.setCell (p := ⟨b, i, none⟩) hb v0).setCell (p := ⟨b, i + 1, none⟩) hb v1).setCell (p := ⟨b, i + 2, none⟩) hb v2).setCell (p := ⟨b, i + 3, none⟩) hb v3).setCell (p := ⟨b, i + 4, none⟩) hb v4
section
variable {p : Nat} {A : Option Addr} {c : Nat} {B : Option Addr} {e : Nat} {y : PRef} {f : Bool}
set_option maxHeartbeats 8000000 in
set_option maxRecDepth 100000 in
theorem rline_any (o : POp) (w : World) (h : RefAt w p A c B e y f) (hl : y.own.length ≤ 100000) (hl2 : y.far.length ≤ 100000) (hF : y.Fine) :
    Calls Tryd.prog 81 #[.pointer (some ⟨p, 0, none⟩), .agg #[.int .i64 o.k, .int .i64 o.p, .int .u8 o.c, .int .i64 o.l, .int .i64 o.s]] w fun ex w' =>
      ∃ (g : Nat) (z : POp), Hid ((pastL o ((y.forms f).drop y.d) f).1 = z) ∧ ex = .returned (.tuple #[.slice (some ⟨g, 0, none⟩) y.own.length y.own.length, .agg #[.int .i64 z.k, .int .i64 z.p, .int .u8 z.c, .int .i64 z.l, .int .i64 z.s]]) ∧ Rd opF w' (some ⟨g, 0, none⟩) (y.forms f) ∧ w.heap.size ≤ g ∧ Below w.heap.size w w' := by
  obtain ⟨n, hn⟩ : ∃ n, n = y.own.length := ⟨_, rfl⟩
  obtain ⟨e0, e1, e2, e3, lt⟩ := h.blk.four
  have HF := Lib.hid hF
  have HN := Lib.hid hn
  have hoq : Hid ((opsQ y.own).length = n) := Lib.hid (by rw [opsQ_length]; exact hn.symm)
  rw [← hn] at e1 hl ⊢
  clear hF hn
  go_enter Tryd.func81, Tryd.ntmps81
  go_wp2_with (at_make; refine ev_makeN El.op (by decide) _ rfl _ _ 35 rfl Tryd.underlying35 _ _ _ _ n rfl rfl rfl rfl (by omega) (by omega) ?_; intro w2 hO2 hB2; have R0 : RThRel w w2 o (w.heap.size + 1 + 1) n (List.replicate n ⟨0, 0, 0, 0, 0⟩) := ⟨((Blk.new w _ _).alloc _).on hB2, (Blk.new1 w _ _ _).on hB2, by simpa using hO2, Nat.le_refl _, (below_alloc (below_alloc (Below.refl _ _) _) _).trans (hB2.mono (by simp; omega))⟩)
  go_loopw [7] (fun i wr => ∃ k : Nat, k ≤ n ∧ i = .int .i64 k ∧ RThRel w wr o (w.heap.size + 1 + 1) n ((opsQ y.own).take k ++ List.replicate ((opsQ y.own).length - k) ⟨0, 0, 0, 0, 0⟩)) (fun i wr => n - (intOf i).toNat)
  case atStart => exact ⟨0, Nat.zero_le _, rfl, by simpa [hoq.out] using R0⟩
  case round =>
    clear R0 hO2 hB2 e0 e1 e2 e3
    obtain ⟨k, hk, rfl, R⟩ := hrel
    have hS := h.but (bs := []) (But.ofBelow R.below) (by simp)
    obtain ⟨e0, e1, e2, e3, lt2⟩ := hS.blk.four
    rw [← HN.out] at e1
    by_cases hlt : k < n
    · obtain ⟨b, off, x, hA, hx, hbl, s0, s1, s2, s3, s4, s5⟩ := hS.rdO.six k (by have := HN.out; omega)
      subst hA
      have hxo : Hid ((opsQ y.own)[k]? = some x.o) := Lib.hid (by simp [opsQ, hx.out])
      have hlen : k < ((opsQ y.own).take k ++ List.replicate ((opsQ y.own).length - k) (⟨0, 0, 0, 0, 0⟩ : POp)).length := by have := hoq.out; simp; omega
      have HL := Lib.hid hlen
      have own1 := R.own
      clear hlen
      go_wp2_with (refine at_st 38 rfl ?_; go_must (refine ev_setF El.op _ rfl _ _ rfl (w.heap.size + 1 + 1) n _ k _ x.o ?hoff HL.out rfl rfl own1 ?_); (case hoff => simp [opF]); intro w3 hO3 hg3)
      go_roundw
      case rel =>
        refine ⟨k + 1, by omega, by go_num, ⟨R.b0.grown hg3 (ne_some (by omega)), R.b1.grown hg3 (ne_some (by omega)), ?_, Nat.le_refl _, R.below.grown hg3 R.below.size (fun k e => by injection e; omega)⟩⟩
        rw [← set_take_rep _ _ _ _ hxo.out]
        exact hO3
      case measure => simp [intOf]; omega
    · have hkN : k = n := by omega
      have ee : (opsQ y.own).take k ++ List.replicate ((opsQ y.own).length - k) (⟨0, 0, 0, 0, 0⟩ : POp) = opsQ y.own := by
        rw [hkN, List.take_of_length_le (by rw [hoq.out]; exact Nat.le_refl _), hoq.out]
        simp
      rw [ee] at R
      clear ee hkN hS
      go_wp2_with fail
      go_loopw [8] (fun i wr => ∃ j : Nat, j ≤ y.far.length ∧ i = .int .i64 j ∧ RThRel w wr o (w.heap.size + 1 + 1) n (rowsL f (opsQ y.own) (y.far.take j))) (fun i wr => y.far.length - (intOf i).toNat)
      case atStart => exact ⟨0, Nat.zero_le _, rfl, by simpa [rowsL] using R⟩
      case round =>
        clear R e0 e1 e2 e3 lt2
        obtain ⟨j, hj, rfl, R⟩ := hrel
        have hS := h.but (bs := []) (But.ofBelow R.below) (by simp)
        obtain ⟨e0, e1, e2, e3, lt2⟩ := hS.blk.four
        rw [← HN.out] at e1
        by_cases hlt : j < y.far.length
        · obtain ⟨b, off, x, hA, hx, hbl, FA⟩ := h.rdF.seven j hlt
          subst hA
          obtain ⟨s0, s1, s2, s3, s4, s5, s6⟩ := seven_keep FA R.below hbl
          obtain ⟨F0, hF0⟩ : ∃ F0, F0 = rowsL f (opsQ y.own) (y.far.take j) := ⟨_, rfl⟩
          have hxb : x.a ≤ x.b ∧ x.b ≤ n := by have := HF.out.2 x (List.mem_of_getElem? hx.out); rw [HN.out]; exact this
          have hF0l : Hid (F0.length = n) := Lib.hid (by rw [hF0, rowsL_length f _ _ (fun u hu => by have := HF.out.2 u (List.mem_of_mem_take hu); rw [opsQ_length]; exact this), hoq.out])
          obtain ⟨hab, hbn⟩ := hxb
          have hF1 : rowsL f (opsQ y.own) (y.far.take (j + 1)) = rowL f F0 x := by rw [List.take_add_one, hx.out, Option.toList_some, rowsL_snoc, ← hF0]
          have HF1 := Lib.hid hF1
          rw [← hF0] at R
          have hbr : b < wr.heap.size := Nat.lt_of_lt_of_le hbl R.below.size
          have k9 := Blk.new wr #[.int .i64 x.o.k, .int .i64 x.o.p, .int .u8 x.o.c, .int .i64 x.o.l, .int .i64 x.o.s] 23
          have R1 := R.on (below_alloc (Below.refl _ _) (.cells #[.int .i64 x.o.k, .int .i64 x.o.p, .int .u8 x.o.c, .int .i64 x.o.l, .int .i64 x.o.s] 23))
          have hg9r : w.heap.size + 1 + 1 < wr.heap.size := R.own.lt
          clear hF0 hF1 hS
          go_wp2_with fail
          generalize wr.heap.size = g9 at k9 hg9r ⊢
          clear hbr lt2 s0 s1 s2 s3 s4 s5 s6 e0 e1 e2 e3 R
          go_loopw [10] (fun i wz => ∃ (i' : Nat) (u : POp), x.a ≤ i' ∧ i' ≤ x.b ∧ i = .int .i64 i' ∧ Hid ((pastL x.o (midL F0 x.a i') f).1 = u) ∧ Blk wz g9 #[.int .i64 u.k, .int .i64 u.p, .int .u8 u.c, .int .i64 u.l, .int .i64 u.s] 23 ∧ RThRel w wz o (w.heap.size + 1 + 1) n (rowL f F0 ⟨x.a, i', x.o⟩)) (fun i wz => x.b - (intOf i).toNat)
          case atStart => exact ⟨x.a, x.o, Nat.le_refl _, hab, rfl, Lib.hid (by rw [midL_self]; rfl), k9, by rw [rowL_start]; exact R1⟩
          case round =>
            clear R1 k9
            obtain ⟨i', u, hai, hib, rfl, hu, k9, R⟩ := hrel
            have hS := h.but (bs := []) (But.ofBelow R.below) (by simp)
            obtain ⟨e0, e1, e2, e3, lt2⟩ := hS.blk.four
            rw [← HN.out] at e1
            obtain ⟨s0, s1, s2, s3, s4, s5, s6⟩ := seven_keep FA R.below hbl
            have hbr : b < wr.heap.size := Nat.lt_of_lt_of_le hbl R.below.size
            by_cases hlt2 : i' < x.b
            · have hrl : Hid ((rowL f F0 ⟨x.a, i', x.o⟩).length = n) := Lib.hid (by rw [rowL_length hai (by rw [hF0l.out]; show i' ≤ n; omega), hF0l.out])
              obtain ⟨v, hv, FV⟩ := R.own.five i' (by rw [hrl.out]; omega)
              have hv0 : Hid (F0[i']? = some v) := Lib.hid (by
                have h1 : i' < F0.length := by rw [hF0l.out]; omega
                have h2 := rowL_at (f := f) (o := x.o) hai (List.getElem?_eq_getElem h1)
                rw [hv.out] at h2
                rw [Option.some.inj h2]
                exact List.getElem?_eq_getElem h1)
              obtain ⟨v0, v1, v2, v3, v4⟩ := FV
              obtain ⟨u0, u1, u2, u3, u4⟩ := k9.cells5
              have hgr := R.own.lt
              have hg9 := k9.lt
              clear hv
              have kv := Blk.new wr #[.int .i64 v.k, .int .i64 v.p, .int .u8 v.c, .int .i64 v.l, .int .i64 v.s] 23
              have kB := below_alloc (Below.refl wr.heap.size wr) (.cells #[.int .i64 v.k, .int .i64 v.p, .int .u8 v.c, .int .i64 v.l, .int .i64 v.s] 23)
              go_upto_region 14 with fail
              obtain ⟨wa, hwa⟩ : ∃ wa, wa = wr.alloc (.cells #[.int .i64 v.k, .int .i64 v.p, .int .u8 v.c, .int .i64 v.l, .int .i64 v.s] 23) := ⟨_, rfl⟩
              have e00 : wa.cell? ⟨p, 0, none⟩ = some (.bool f) := by rw [hwa]; exact (kB.cell (p := ⟨p, 0, none⟩) lt2).trans e0
              have R2 := R.on kB
              have k92 := k9.on kB
              have hgv : wr.heap.size < wa.heap.size := by rw [hwa]; exact kv.lt
              rw [← hwa] at kv R2 k92 ⊢
              clear hwa e0 e1 e2 e3 v0 v1 v2 v3 v4 u0 u1 u2 u3 u4 s0 s1 s2 s3 s4 s5 s6 hS R k9 kB
              obtain ⟨v0, v1, v2, v3, v4⟩ := kv.cells5
              obtain ⟨u0, u1, u2, u3, u4⟩ := k92.cells5
              have lv := kv.lt
              have l9 := k92.lt
              have lp : p < wa.heap.size := Nat.lt_trans lt2 hgv
              go_cut [] from 80 to 89 (fun wx => ∃ z : POp, Hid (shift v u f = z) ∧ wx.cell? ⟨p, 0, none⟩ = some (.bool f) ∧ Blk wx wr.heap.size #[.int .i64 v.k, .int .i64 v.p, .int .u8 v.c, .int .i64 v.l, .int .i64 v.s] 23 ∧ Blk wx g9 #[.int .i64 u.k, .int .i64 u.p, .int .u8 u.c, .int .i64 u.l, .int .i64 u.s] 23 ∧ RThRel w wx o (w.heap.size + 1 + 1) n ((rowL f F0 ⟨x.a, i', x.o⟩).set i' z))
              case first =>
                have hin : i' < n := by omega
                have ne1 : wr.heap.size ≠ w.heap.size + 1 + 1 := by omega
                have ne2 : g9 ≠ w.heap.size + 1 + 1 := by omega
                have ne3 : p ≠ w.heap.size + 1 + 1 := by omega
                go_region_held3 (fun V => (V.cell? ⟨wr.heap.size, 0, none⟩ = some (.int .i64 v.k) ∧ V.cell? ⟨wr.heap.size, 1, none⟩ = some (.int .i64 v.p) ∧ V.cell? ⟨wr.heap.size, 2, none⟩ = some (.int .u8 v.c) ∧ V.cell? ⟨wr.heap.size, 3, none⟩ = some (.int .i64 v.l) ∧ V.cell? ⟨wr.heap.size, 4, none⟩ = some (.int .i64 v.s)) ∧ (V.cell? ⟨g9, 0, none⟩ = some (.int .i64 u.k) ∧ V.cell? ⟨g9, 1, none⟩ = some (.int .i64 u.p) ∧ V.cell? ⟨g9, 2, none⟩ = some (.int .u8 u.c) ∧ V.cell? ⟨g9, 3, none⟩ = some (.int .i64 u.l) ∧ V.cell? ⟨g9, 4, none⟩ = some (.int .i64 u.s)) ∧ V.cell? ⟨p, 0, none⟩ = some (.bool f))
                  (first | (with_reducible exact ⟨five_p5 (five_keep (b := wr.heap.size) (off := 0) (x := v) ⟨v0, v1, v2, v3, v4⟩ hB1 lv) ne1, five_p5 (five_keep (b := g9) (off := 0) (x := u) ⟨u0, u1, u2, u3, u4⟩ hB1 l9) ne2, cell_p5 (cell_keep e00 hB1 lp) ne3⟩) | (with_reducible refine ⟨five_keep (b := wr.heap.size) (off := 0) (x := v) ⟨v0, v1, v2, v3, v4⟩ ?_ lv, five_keep (b := g9) (off := 0) (x := u) ⟨u0, u1, u2, u3, u4⟩ ?_ l9, cell_keep e00 ?_ lp⟩; all_goals (repeat' (first | with_reducible exact Below.refl _ _ | with_reducible exact hB1 | with_reducible refine Below.drew ?_ | fail))) | fail)
                  (first
                    | (go_at_call 22; (with_reducible refine (rshift_ex _ _ _ _ _ _ _ _ _ _ _ _).mono ?_); rintro ex w1 ⟨z, hz, rfl, hb⟩; (have hB1 : Below wa.heap.size wa w1 := (Below.refl _ _).drew.trans hb); have hO1 := R2.own.on hB1; have zr := hO1.frozen; have kr := hO1.five i' (by rw [hrl.out]; omega); obtain ⟨xr, _, r0, r1, r2, r3, r4⟩ := kr))
                have hin2 : i' < (rowL f F0 ⟨x.a, i', x.o⟩).length := by rw [hrl.out]; omega
                go_wp2_with fail
                go_meet
                exact ⟨z, hz, cell_p5 (cell_keep e00 hB1 lp) ne3, (kv.on hB1).p5 ne1, (k92.on hB1).p5 ne2, ⟨(R2.b0.on hB1).p5 (by omega), (R2.b1.on hB1).p5 (by omega), hO1.setOp hin2 z, Nat.le_refl _, below_p5 (R2.on hB1).below (by omega)⟩⟩
              case rest =>
                obtain ⟨z, hz, f00, kv1, k91, R3⟩ := hcut
                clear v0 v1 v2 v3 v4 u0 u1 u2 u3 u4 kv k92 R2 e00 lv l9 lp
                obtain ⟨v0, v1, v2, v3, v4⟩ := kv1.cells5
                obtain ⟨u0, u1, u2, u3, u4⟩ := k91.cells5
                have lv := kv1.lt
                have l9 := k91.lt
                have lp := Nat.lt_of_lt_of_le lt R3.below.size
                have zu := k91.frozen
                have ne4 : wr.heap.size ≠ g9 := by omega
                have ne5 : p ≠ g9 := by omega
                go_upto_region 15 with fail
                go_still_tail 7, (by kernel_rfl)
                change wpList _ _ _ _ _ (World.drew _)
                go_wp2_with fail
                with_reducible refine (rshift_ex _ _ _ _ _ _ _ _ _ _ _ _).mono ?_
                rintro ex w1 ⟨u', hu', rfl, hb⟩
                have hB1 := (Below.refl _ _).drew.trans hb
                have kz := k91.on hB1
                have R4 := R3.on hB1
                obtain ⟨q0, q1, q2, q3, q4⟩ := kz.cells5
                have zz := kz.frozen
                have hvi : Hid ((rowL f F0 ⟨x.a, i', x.o⟩).set i' z = rowL f F0 ⟨x.a, i' + 1, x.o⟩) := Lib.hid (rowL_step hai hv0.out hu.out hz.out)
                have hup : Hid ((pastL x.o (midL F0 x.a (i' + 1)) f).1 = u') := Lib.hid (past_step hai hv0.out hu.out hu'.out)
                clear hb v0 v1 v2 v3 v4 u0 u1 u2 u3 u4 f00
                go_wp2_with fail
                go_roundw
                case rel =>
                  rw [hvi.out] at R4
                  exact ⟨i' + 1, u', by omega, by omega, by go_num, hup, kz.set5 _ _ _ _ _, ⟨R4.b0.other5 (by omega) _ _ _ _ _, R4.b1.other5 (by omega) _ _ _ _ _, R4.own.grown (grown_put5 _ _ _ _ _ _ _) (ne_some (by omega)), R4.le, below_put5 R4.below (by omega) _ _ _ _ _⟩⟩
                case measure => simp [intOf]; omega
            · have hib2 : i' = x.b := by omega
              clear hbr
              subst hib2
              go_wp2_with fail
              go_roundw
              case rel =>
                exact ⟨j + 1, by omega, by go_num, by rw [HF1.out]; exact R⟩
              case measure => simp [intOf]; omega
        · have hjl : j = y.far.length := by omega
          have ee : rowsL f (opsQ y.own) (y.far.take j) = y.forms f := by rw [hjl, List.take_length]; rfl
          rw [ee] at R
          clear ee hS hjl
          have hdn : y.d ≤ n := by have := HF.out.1; have := HN.out; omega
          have hfl : Hid ((y.forms f).length = n) := Lib.hid (by rw [PRef.forms_length HF.out]; exact HN.out.symm)
          go_wp2_with fail
          go_loopw [12] (fun i wz => ∃ (i' : Nat) (u : POp), y.d ≤ i' ∧ i' ≤ n ∧ i = .int .i64 i' ∧ Hid ((pastL o (midL (y.forms f) y.d i') f).1 = u) ∧ RThRel w wz u (w.heap.size + 1 + 1) n (y.forms f)) (fun i wz => n - (intOf i).toNat)
          case atStart => exact ⟨y.d, o, Nat.le_refl _, hdn, rfl, Lib.hid (by rw [midL_self]; rfl), R⟩
          case round =>
            clear R e0 e1 e2 e3 lt2
            obtain ⟨i', u, hai, hib, rfl, hu, R⟩ := hrel
            have hS := h.but (bs := []) (But.ofBelow R.below) (by simp)
            obtain ⟨e0, e1, e2, e3, lt2⟩ := hS.blk.four
            rw [← HN.out] at e1
            obtain ⟨u0, u1, u2, u3, u4⟩ := R.b0.cells5
            by_cases hlt2 : i' < n
            · obtain ⟨v, hv, FV⟩ := R.own.five i' (by rw [hfl.out]; omega)
              obtain ⟨v0, v1, v2, v3, v4⟩ := FV
              clear hS
              go_upto_region 19 with fail
              go_still_tail 10, (by kernel_rfl)
              change wpList _ _ _ _ _ (World.drew _)
              go_wp2_with fail
              with_reducible refine (rshift_ex _ _ _ _ _ _ _ _ _ _ _ _).mono ?_
              rintro ex w1 ⟨u', hu', rfl, hb⟩
              have hB1 := (Below.refl _ _).drew.trans hb
              have R4 := R.on hB1
              obtain ⟨q0, q1, q2, q3, q4⟩ := R4.b0.cells5
              have zz := R4.b0.frozen
              have hup : Hid ((pastL o (midL (y.forms f) y.d (i' + 1)) f).1 = u') := Lib.hid (past_step hai hv.out hu.out hu'.out)
              clear hb v0 v1 v2 v3 v4 u0 u1 u2 u3 u4
              go_wp2_with fail
              go_roundw
              case rel =>
                exact ⟨i' + 1, u', by omega, by omega, by go_num, hup, ⟨R4.b0.set5 _ _ _ _ _, R4.b1.other5 (by omega) _ _ _ _ _, R4.own.grown (grown_put5 _ _ _ _ _ _ _) (ne_some (by omega)), R4.le, below_put5 R4.below (by omega) _ _ _ _ _⟩⟩
              case measure => simp [intOf]; omega
            · have hin : Hid (i' = n) := Lib.hid (by omega)
              obtain ⟨z0, z1, z2, z3, z4⟩ := R.b1.cells5
              have zz := R.b1.frozen
              clear hS
              go_wp2_with fail
              go_region
              go_wp2
              have k5 := R.b1.set5 (.int .i64 u.k) (.int .i64 u.p) (.int .u8 u.c) (.int .i64 u.l) (.int .i64 u.s)
              obtain ⟨q0, q1, q2, q3, q4⟩ := k5.cells5
              refine bodyPost_ret (v := .tuple #[.slice (some ⟨w.heap.size + 1 + 1, 0, none⟩) n n, .agg #[.int .i64 u.k, .int .i64 u.p, .int .u8 u.c, .int .i64 u.l, .int .i64 u.s]]) (by simp [results, Tryd.results81, go_sem, q0, q1, q2, q3, q4]) rfl ?_
              refine ⟨_, u, Lib.hid ?_, rfl, ?_, by omega, ?_⟩
              · have h1 := hu.out
                rw [hin.out, ← hfl.out, midL_all] at h1
                exact h1
              · exact Rd.drew (R.own.grown (grown_put5 _ (w.heap.size + 1) (.int .i64 u.k) (.int .i64 u.p) (.int .u8 u.c) (.int .i64 u.l) (.int .i64 u.s)) (ne_some (show w.heap.size + 1 + 1 ≠ w.heap.size + 1 by omega))).rd
              · exact (below_put5 R.below (b := w.heap.size + 1) (by omega) (.int .i64 u.k) (.int .i64 u.p) (.int .u8 u.c) (.int .i64 u.l) (.int .i64 u.s)).drew

end
end Go.Proofs.YtkicbnkacjnhoaaDoor
