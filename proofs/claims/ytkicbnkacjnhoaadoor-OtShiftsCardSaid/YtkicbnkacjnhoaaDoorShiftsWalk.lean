/- The walk of jotterlaw05.OtShifts: it answers true. -/
import Derived.Test.YtkicbnkacjnhoaaDoorTwo
import Derived.Test.YtkicbnkacjnhoaaDoorCross
import Derived.Test.YtkicbnkacjnhoaaDoorRefCross
import Derived.Deep.CutRange
namespace Go.Proofs.YtkicbnkacjnhoaaDoor
open Go.RowKit
set_option linter.unusedVariables false
set_option linter.unusedSimpArgs false

theorem opEq_eta (y : POp) : opEq ⟨y.k, y.p, y.c, y.l, y.s⟩ ⟨y.k, y.p, y.c, y.l, y.s⟩ = true := opEq_true.2 rfl

set_option maxHeartbeats 1000000 in
set_option maxRecDepth 100000 in
theorem shifts_any (A : Option Addr) (c : Nat) (ts : List PTwo) (w : World) (hr : RulesAt w) (hl : Rd twoF w A ts) (hn : ts.length ≤ 9223372036854775807) :
    Calls Tryd.prog 4 #[.slice A ts.length c] w fun e w' => e = .returned (.bool true) ∧ Below w.heap.size w w' := by
  go_enter Tryd.func4, Tryd.ntmps4
  go_wp2_with fail
  go_loopw [3] (fun i wr => ∃ k : Nat, k ≤ ts.length ∧ i = .int .i64 k ∧ Below w.heap.size w wr) (fun i wr => ts.length - (intOf i).toNat)
  case atStart => exact ⟨0, Nat.zero_le _, rfl, Below.refl _ _⟩
  case round =>
    obtain ⟨k, hk, rfl, hB⟩ := hrel
    by_cases hlt : k < ts.length
    · obtain ⟨b, off, x, rfl, hx, hbl, hT⟩ := (hl.below hB).two k hlt
      clear hx
      go_upto_region 4 with fail
      go_cut [4, 5, 6] from 11 to 60 (fun p q fl wx => ∃ g h : Nat, p = .pointer (some ⟨g, 0, none⟩) ∧ q = .pointer (some ⟨h, 0, none⟩) ∧ fl = .bool x.f ∧ Blk wx g #[.int .i64 x.a.k, .int .i64 x.a.p, .int .u8 x.a.c, .int .i64 x.a.l, .int .i64 x.a.s] 23 ∧ Blk wx h #[.int .i64 x.b.k, .int .i64 x.b.p, .int .u8 x.b.c, .int .i64 x.b.l, .int .i64 x.b.s] 23 ∧ Below w.heap.size w wx)
      case first =>
        have lw := hB.size
        go_region_held3 (fun V => V.cell? ⟨b, off + k * 11, none⟩ = some (.int .i64 x.a.k) ∧ V.cell? ⟨b, off + k * 11 + 1, none⟩ = some (.int .i64 x.a.p) ∧ V.cell? ⟨b, off + k * 11 + 2, none⟩ = some (.int .u8 x.a.c) ∧ V.cell? ⟨b, off + k * 11 + 3, none⟩ = some (.int .i64 x.a.l) ∧ V.cell? ⟨b, off + k * 11 + 4, none⟩ = some (.int .i64 x.a.s) ∧ V.cell? ⟨b, off + k * 11 + 5, none⟩ = some (.int .i64 x.b.k) ∧ V.cell? ⟨b, off + k * 11 + 5 + 1, none⟩ = some (.int .i64 x.b.p) ∧ V.cell? ⟨b, off + k * 11 + 5 + 2, none⟩ = some (.int .u8 x.b.c) ∧ V.cell? ⟨b, off + k * 11 + 5 + 3, none⟩ = some (.int .i64 x.b.l) ∧ V.cell? ⟨b, off + k * 11 + 5 + 4, none⟩ = some (.int .i64 x.b.s) ∧ V.cell? ⟨b, off + k * 11 + 10, none⟩ = some (.bool x.f))
          (first | (with_reducible refine two_keep hT ?_ hbl; (repeat' (first | with_reducible exact Below.refl _ _ | with_reducible refine Below.drew ?_ | with_reducible refine below_alloc ?_ _ | with_reducible refine Below.setCell ?_ (by simp) _ | fail))) | fail)
          (first | fail)
        · go_wp2_with fail
          go_meet
          refine ⟨wr.heap.size, wr.heap.size + 1, rfl, rfl, rfl, (((Blk.new wr _ _).alloc _).drew), (Blk.new1 wr _ _ _).drew, (below_alloc (below_alloc hB _) _).drew⟩
        · go_wp2_with fail
          go_meet
          refine ⟨wr.heap.size + 1, wr.heap.size, rfl, rfl, rfl, (Blk.new1 wr _ _ _).drew, (((Blk.new wr _ _).alloc _).drew), (below_alloc (below_alloc hB _) _).drew⟩
      case rest =>
        obtain ⟨g, h, rfl, rfl, rfl, kA, kB, hX⟩ := hcut
        clear hT hB hl
        have hrX : RulesAt wc.drew := hr.on hX.drew
        have hr2 := hr
        clear hr
        obtain ⟨e0, e1, e2, e3, e4⟩ := kA.cells5
        obtain ⟨f0, f1, f2, f3, f4⟩ := kB.cells5
        have lA := kA.lt
        have lB := kB.lt
        go_wp2_with fail
        go_region_held3 (fun V => (V.cell? ⟨g, 0, none⟩ = some (.int .i64 x.a.k) ∧ V.cell? ⟨g, 1, none⟩ = some (.int .i64 x.a.p) ∧ V.cell? ⟨g, 2, none⟩ = some (.int .u8 x.a.c) ∧ V.cell? ⟨g, 3, none⟩ = some (.int .i64 x.a.l) ∧ V.cell? ⟨g, 4, none⟩ = some (.int .i64 x.a.s)) ∧
            (V.cell? ⟨h, 0, none⟩ = some (.int .i64 x.b.k) ∧ V.cell? ⟨h, 1, none⟩ = some (.int .i64 x.b.p) ∧ V.cell? ⟨h, 2, none⟩ = some (.int .u8 x.b.c) ∧ V.cell? ⟨h, 3, none⟩ = some (.int .i64 x.b.l) ∧ V.cell? ⟨h, 4, none⟩ = some (.int .i64 x.b.s)))
          (first | (with_reducible exact ⟨kA.drew.cells5, kB.drew.cells5⟩) | (with_reducible exact ⟨kA1.cells5, kB1.cells5⟩) | (with_reducible exact ⟨kA2.cells5, kB2.cells5⟩) | fail)
          (first
            | (go_at_call 21; (with_reducible refine (shift_ex _ _ _ _ _ _ _ _ _ _ _ _ hrX).mono ?_); rintro e w1 ⟨y, hy, rfl, hb⟩; have kA1 := kA.drew.on hb; have kB1 := kB.drew.on hb; have hB1 : Below w.heap.size w w1 := hX.drew.trans (hb.mono hX.size); have hq := opEq_eta y)
            | (go_at_call 22; (with_reducible refine (rshift_ex _ _ _ _ _ _ _ _ _ _ _ _).mono ?_); (rintro e w2 ⟨y2, hy2, rfl, hb2⟩); (obtain rfl := hy2.out.symm.trans hy.out); have kA2 := kA1.on hb2; have kB2 := kB1.on hb2; have hB2 : Below w.heap.size w w2 := hB1.trans (hb2.mono hB1.size)))
        clear hrX
        obtain ⟨e0, e1, e2, e3, e4⟩ := kA2.cells5
        obtain ⟨f0, f1, f2, f3, f4⟩ := kB2.cells5
        have lA := kA2.lt
        have lB := kB2.lt
        go_wp2_with fail
        with_reducible refine (cross_any _ _ _ _ _ _ _ _ _ _ _ (hr2.on hB2)).mono ?_
        rintro e w3 ⟨p1, q1, hp1, hq1, rfl, hb3⟩
        have kA3 := kA2.on hb3
        have kB3 := kB2.on hb3
        have hB3 : Below w.heap.size w w3 := hB2.trans (hb3.mono hB2.size)
        clear hb3 e0 e1 e2 e3 e4 f0 f1 f2 f3 f4 lA lB
        obtain ⟨e0, e1, e2, e3, e4⟩ := kA3.cells5
        obtain ⟨f0, f1, f2, f3, f4⟩ := kB3.cells5
        have lA := kA3.lt
        have lB := kB3.lt
        go_wp2_with fail
        with_reducible refine (rcross_any _ _ _ _ _ _ _ _ _ _ _).mono ?_
        rintro e w4 ⟨p2, q2, hp2, hq2, rfl, hb4⟩
        obtain rfl := hp2.out.symm.trans hp1.out
        obtain rfl := hq2.out.symm.trans hq1.out
        have kX4 := ((Blk.new w3 _ _).alloc _).on hb4
        have kY4 := (Blk.new1 w3 _ _ _).on hb4
        have hB4 : Below w.heap.size w w4 := (below_alloc (below_alloc hB3 _) _).trans (hb4.mono (by have := hB3.size; simp; omega))
        clear hb4 e0 e1 e2 e3 e4 f0 f1 f2 f3 f4 lA lB
        obtain ⟨e0, e1, e2, e3, e4⟩ := kX4.cells5
        obtain ⟨f0, f1, f2, f3, f4⟩ := kY4.cells5
        have lX := kX4.lt
        have lY := kY4.lt
        have hqp := opEq_eta p2
        have hqq := opEq_eta q2
        go_wp2
        go_roundw
        case rel => exact ⟨k + 1, by omega, by go_num, below_alloc (below_alloc hB4 _) _⟩
        case measure => simp [intOf]; omega
    · go_wp2
      go_ret
      exact ⟨rfl, hB⟩
end Go.Proofs.YtkicbnkacjnhoaaDoor
