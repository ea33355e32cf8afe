/- The walk of ot.past. -/
import Derived.Test.YtkicbnkacjnhoaaDoorShiftB
import Derived.Test.YtkicbnkacjnhoaaDoorMem
namespace Go.Proofs.YtkicbnkacjnhoaaDoor
open Go.RowKit
set_option linter.unusedVariables false
set_option linter.unusedSimpArgs false

theorem shift_ex (a0 a1 a2 a3 a4 b0 b1 b2 b3 b4 : Int) (f : Bool) (w : World) (hr : RulesAt w) :
    Calls Tryd.prog 21 #[.agg #[.int .i64 a0, .int .i64 a1, .int .u8 a2, .int .i64 a3, .int .i64 a4], .agg #[.int .i64 b0, .int .i64 b1, .int .u8 b2, .int .i64 b3, .int .i64 b4], .bool f] w fun e w' =>
      ∃ y : POp, Hid (shift ⟨a0, a1, a2, a3, a4⟩ ⟨b0, b1, b2, b3, b4⟩ f = y) ∧ e = .returned (.agg #[.int .i64 y.k, .int .i64 y.p, .int .u8 y.c, .int .i64 y.l, .int .i64 y.s]) ∧ Below w.heap.size w w' :=
  (shift_any a0 a1 a2 a3 a4 b0 b1 b2 b3 b4 f w hr).mono fun e w' ⟨he, hb⟩ => ⟨_, rfl, he, hb⟩

abbrev opcs (y : POp) : Array Value := #[.int .i64 y.k, .int .i64 y.p, .int .u8 y.c, .int .i64 y.l, .int .i64 y.s]

/-- What past's loop carries. -/
structure PastRel (w wr : World) (cap : Nat) (o : POp) (m : List POp) : Prop where
  b0 : Blk wr w.heap.size #[.int .i64 o.k, .int .i64 o.p, .int .u8 o.c, .int .i64 o.l, .int .i64 o.s] 23
  b1 : Blk wr (w.heap.size + 1) #[.int .i64 0, .int .i64 0, .int .u8 0, .int .i64 0, .int .i64 0] 23
  own : OwnC opF 23 wr (w.heap.size + 1 + 1) cap m
  below : Below w.heap.size w wr

set_option maxHeartbeats 1000000 in
theorem past_any (p0 p1 p2 p3 p4 : Int) (A : Option Addr) (c : Nat) (line : List POp) (f : Bool) (w : World) (hr : RulesAt w) (hl : Rd opF w A line) (hn : line.length ≤ 4096) :
    Calls Tryd.prog 72 #[.agg #[.int .i64 p0, .int .i64 p1, .int .u8 p2, .int .i64 p3, .int .i64 p4], .slice A line.length c, .bool f] w fun e w' =>
      ∃ (g cap : Nat) (y : POp) (m : List POp), Hid (pastL ⟨p0, p1, p2, p3, p4⟩ line f = (y, m)) ∧ e = .returned (.tuple #[.agg #[.int .i64 y.k, .int .i64 y.p, .int .u8 y.c, .int .i64 y.l, .int .i64 y.s], .slice (some ⟨g, 0, none⟩) m.length cap]) ∧ OwnC opF 23 w' g cap m ∧ w.heap.size ≤ g ∧ Below w.heap.size w w' := by
  go_enter Tryd.func72, Tryd.ntmps72
  go_wp2_with (at_make; refine ev_make0 El.op _ rfl _ _ 35 rfl Tryd.underlying35 _ _ _ line.length rfl rfl rfl (by omega) (by omega) ?_; intro w1 hO hb)
  have R0 : PastRel w w1 line.length ⟨p0, p1, p2, p3, p4⟩ [] := ⟨((Blk.new w _ _).alloc _).on hb, (Blk.new1 w _ _ _).on hb, by simpa using hO, (below_alloc (below_alloc (Below.refl _ _) _) _).trans (hb.mono (by simp; omega))⟩
  clear hO hb
  go_loopw [8, 16] (fun v i wr => ∃ (k : Nat) (o : POp) (m : List POp), k ≤ line.length ∧ i = .int .i64 k ∧ v = .slice (some ⟨w.heap.size + 1 + 1, 0, none⟩) m.length line.length ∧ Hid (pastL ⟨p0, p1, p2, p3, p4⟩ (line.take k) f = (o, m)) ∧ PastRel w wr line.length o m) (fun v i wr => line.length - (intOf i).toNat)
  case atStart => exact ⟨0, _, [], Nat.zero_le _, rfl, rfl, rfl, R0⟩
  case round =>
    obtain ⟨k, o, m, hk, rfl, rfl, hq, R⟩ := hrel
    by_cases hlt : k < line.length
    · have hsz := R.own.lt
      obtain ⟨b, off, x, rfl, hx, e0, e1, e2, e3, e4⟩ := (hl.below R.below).op k hlt
      obtain ⟨f0, f1, f2, f3, f4, fz⟩ := R.b0.five
      go_wp2_with fail
      refine (shift_ex _ _ _ _ _ _ _ _ _ _ _ _ (hr.on (below_alloc R.below _))).mono ?_
      rintro e w2 ⟨y, hy, rfl, hb2⟩
      have B2 : Below w.heap.size w w2 := (below_alloc R.below _).trans (hb2.mono (by simp; omega))
      have k0 := (R.b0.alloc _).on hb2
      have k1 := (R.b1.alloc _).on hb2
      have kx := (Blk.new wr _ _).on hb2
      have ow := (R.own.alloc _).on hb2
      have hmk : m.length = k := by have := pastL_length f (line.take k) ⟨p0, p1, p2, p3, p4⟩; rw [hq.out] at this; simpa [Nat.min_eq_left hk] using this
      have HM := Lib.hid hmk
      have hroom : m.length < line.length := by omega
      clear hmk e0 e1 e2 e3 e4 f0 f1 f2 f3 f4 fz hb2 R R0
      have hkx := kx.lt
      go_wp2_with (at_builtin; refine ev_app1 El.op _ rfl _ _ 35 rfl Tryd.underlying35 (w.heap.size + 1 + 1) line.length m y _ rfl rfl rfl ow hroom ?_; intro w3 ow3 hg3; have k03 := k0.grown hg3 (ne_some (by omega)); have k13 := k1.grown hg3 (ne_some (by omega)); have kx3 := kx.grown hg3 (ne_some (by omega)); have B3 : Below w.heap.size w w3 := B2.grown hg3 B2.size (fun k e => by injection e; omega); obtain ⟨f0, f1, f2, f3, f4, fz⟩ := k03.five; obtain ⟨g0, g1, g2, g3, g4, gz⟩ := kx3.five; clear k0 k1 kx B2 ow hg3)
      refine (shift_ex _ _ _ _ _ _ _ _ _ _ _ _ (hr.on B3)).mono ?_
      rintro e w4 ⟨o2, ho2, rfl, hb4⟩
      have B4 : Below w.heap.size w w4 := B3.trans (hb4.mono B3.size)
      have k04 := k03.on hb4
      have k14 := k13.on hb4
      have ow4 := ow3.on hb4
      clear f0 f1 f2 f3 f4 fz g0 g1 g2 g3 g4 gz k03 k13 kx3 B3 ow3 hb4
      go_wp2_with (refine at_st 3 rfl ?_; go_must (refine ev_storeF El.op _ rfl _ _ rfl w.heap.size o2 _ 23 rfl rfl k04 rfl ?_); intro w5 k05 hg5; have k15 := k14.grown hg5 (ne_some (by omega)); have ow5 := ow4.grown hg5 (ne_some (by omega)); have B5 : Below w.heap.size w w5 := B4.grown hg5 B4.size (fun k e => by injection e; omega); clear k04 k14 ow4 B4 hg5)
      go_roundw
      case rel =>
        refine ⟨k + 1, o2, m ++ [y], by omega, by go_num, by simp, ?_, ⟨k05, k15, ow5, B5⟩⟩
        show pastL _ _ f = _
        have h1 := hy.out
        have h2 := ho2.out
        rw [List.take_add_one, hx.out, Option.toList_some, pastL_snoc, hq.out]
        exact Prod.ext h2 (congrArg (fun z => m ++ [z]) h1)
      case measure => simp [intOf]; omega
    · have hkl : k = line.length := by omega
      have hq2 : Hid (pastL ⟨p0, p1, p2, p3, p4⟩ line f = (o, m)) := by
        have := hq.out
        rw [List.take_of_length_le (by omega)] at this
        exact this
      clear hkl R0 hq
      obtain ⟨f0, f1, f2, f3, f4, fz⟩ := R.b0.five
      go_wp2_with (refine at_st 6 rfl ?_; go_must (refine ev_storeF El.op _ rfl _ _ rfl (w.heap.size + 1) o _ 23 rfl rfl R.b1 rfl ?_); intro w5 k15 hg5; have ow5 := R.own.grown hg5 (ne_some (by omega)); have B5 : Below w.heap.size w w5 := R.below.grown hg5 R.below.size (fun k e => by injection e; omega); clear f0 f1 f2 f3 f4 fz R hg5)
      obtain ⟨h0, h1, h2, h3, h4, hz⟩ := Blk.five (v0 := .int .i64 o.k) (v1 := .int .i64 o.p) (v2 := .int .u8 o.c) (v3 := .int .i64 o.l) (v4 := .int .i64 o.s) k15
      refine bodyPost_ret (v := .tuple #[.agg #[.int .i64 o.k, .int .i64 o.p, .int .u8 o.c, .int .i64 o.l, .int .i64 o.s], .slice (some ⟨w.heap.size + 1 + 1, 0, none⟩) m.length line.length]) (by simp [results, Tryd.results72, go_sem, h0, h1, h2, h3, h4]) rfl ?_
      exact ⟨_, _, o, m, hq2, rfl, ow5, by omega, B5⟩
end Go.Proofs.YtkicbnkacjnhoaaDoor
