/- The walks of jotterlaw05.copied and ot.Through. -/
import Derived.Test.YtkicbnkacjnhoaaDoorPast
namespace Go.Proofs.YtkicbnkacjnhoaaDoor
open Go.RowKit
set_option linter.unusedVariables false
set_option linter.unusedSimpArgs false

theorem set_take_rep {α : Type} (z : α) (xs : List α) (k : Nat) (x : α) (hx : xs[k]? = some x) : (xs.take k ++ List.replicate (xs.length - k) z).set k x = xs.take (k + 1) ++ List.replicate (xs.length - (k + 1)) z := by
  obtain ⟨hk, rfl⟩ := List.getElem?_eq_some_iff.1 hx
  have e : xs.length - k = (xs.length - (k + 1)) + 1 := by omega
  rw [e, List.replicate_succ]
  have hl : (xs.take k).length = k := by simp; omega
  rw [List.set_append_right _ _ (by omega), hl, Nat.sub_self, List.set_cons_zero, List.take_add_one, List.getElem?_eq_getElem hk, Option.toList_some, List.append_assoc]
  rfl

set_option maxHeartbeats 1000000 in
theorem copied_any (A : Option Addr) (c : Nat) (xs : List POp) (w : World) (hl : Rd opF w A xs) (hb : xs.length * 40 ≤ 281474976710656) :
    Calls Tryd.prog 31 #[.slice A xs.length c] w fun e w' => ∃ g, w.heap.size ≤ g ∧ e = .returned (.slice (some ⟨g, 0, none⟩) xs.length xs.length) ∧ OwnC opF 23 w' g xs.length xs ∧ Below w.heap.size w w' := by
  go_enter Tryd.func31, Tryd.ntmps31
  go_wp2_with (at_make; refine ev_makeN El.op (by decide) _ rfl _ _ 35 rfl Tryd.underlying35 _ _ _ _ xs.length rfl rfl rfl rfl (by omega) (by omega) ?_; intro w1 hO hB)
  go_loopw [4] (fun i wr => ∃ k : Nat, k ≤ xs.length ∧ i = .int .i64 k ∧ OwnC opF 23 wr w.heap.size xs.length (xs.take k ++ List.replicate (xs.length - k) ⟨0, 0, 0, 0, 0⟩) ∧ Below w.heap.size w wr) (fun i wr => xs.length - (intOf i).toNat)
  case atStart => exact ⟨0, Nat.zero_le _, rfl, by simpa using hO, hB⟩
  case round =>
    clear hO hB
    obtain ⟨k, hk, rfl, hO, hB⟩ := hrel
    by_cases hlt : k < xs.length
    · obtain ⟨b, off, x, rfl, hx, e0, e1, e2, e3, e4⟩ := (hl.below hB).op k hlt
      have hlen : k < (xs.take k ++ List.replicate (xs.length - k) (⟨0, 0, 0, 0, 0⟩ : POp)).length := by simp; omega
      have HL := Lib.hid hlen
      clear hlen
      go_wp2_with (refine at_st 20 rfl ?_; go_must (refine ev_setF El.op _ rfl _ _ rfl w.heap.size xs.length _ k _ x ?hoff HL.out rfl rfl hO ?_); (case hoff => simp [opF]); intro w2 hO2 hg2)
      go_roundw
      case rel =>
        refine ⟨k + 1, by omega, by go_num, ?_, hB.grown hg2 hB.size (fun k e => by injection e; omega)⟩
        rw [← set_take_rep _ _ _ _ hx.out]
        exact hO2
      case measure => simp [intOf]; omega
    · have hk2 : k = xs.length := by omega
      have hO2 : OwnC opF 23 wr w.heap.size xs.length xs := by
        rw [hk2] at hO
        simpa using hO
      clear hO hk2
      go_wp2
      go_ret
      exact ⟨_, Nat.le_refl _, rfl, hO2, hB⟩

set_option maxHeartbeats 1000000 in
theorem through_long (p0 p1 p2 p3 p4 : Int) (A : Option Addr) (c : Nat) (line : List POp) (f : Bool) (w : World) (hn : 4096 < line.length) :
    Calls Tryd.prog 30 #[.agg #[.int .i64 p0, .int .i64 p1, .int .u8 p2, .int .i64 p3, .int .i64 p4], .slice A line.length c, .bool f] w fun e w' =>
      e = .returned (.tuple #[.agg #[.int .i64 0, .int .i64 0, .int .u8 0, .int .i64 0, .int .i64 0], .slice none 0 0, .int .i64 50]) ∧ Below w.heap.size w w' := by
  go_enter Tryd.func30, Tryd.ntmps30
  go_wp2_with fail
  have k1 := Blk.new1 w (.cells #[.int .i64 p0, .int .i64 p1, .int .u8 p2, .int .i64 p3, .int .i64 p4] 23) #[.int .i64 0, .int .i64 0, .int .u8 0, .int .i64 0, .int .i64 0] 23
  obtain ⟨h0, h1, h2, h3, h4⟩ := k1.cells5
  refine bodyPost_ret (v := .tuple #[.agg #[.int .i64 0, .int .i64 0, .int .u8 0, .int .i64 0, .int .i64 0], .slice none 0 0, .int .i64 50]) (by simp [results, Tryd.results30, go_sem, h0, h1, h2, h3, h4]) rfl ?_
  exact ⟨rfl, below_alloc (below_alloc (Below.refl _ _) _) _⟩

set_option maxHeartbeats 1000000 in
theorem through_any (p0 p1 p2 p3 p4 : Int) (A : Option Addr) (c : Nat) (line : List POp) (f : Bool) (w : World) (hr : RulesAt w) (hl : Rd opF w A line) (hn : line.length ≤ 4096) :
    Calls Tryd.prog 30 #[.agg #[.int .i64 p0, .int .i64 p1, .int .u8 p2, .int .i64 p3, .int .i64 p4], .slice A line.length c, .bool f] w fun e w' =>
      ∃ (g cap : Nat) (y : POp) (m : List POp), Hid (pastL ⟨p0, p1, p2, p3, p4⟩ line f = (y, m)) ∧ e = .returned (.tuple #[.agg #[.int .i64 y.k, .int .i64 y.p, .int .u8 y.c, .int .i64 y.l, .int .i64 y.s], .slice (some ⟨g, 0, none⟩) m.length cap, .int .i64 0]) ∧ OwnC opF 23 w' g cap m ∧ w.heap.size ≤ g ∧ Below w.heap.size w w' := by
  go_enter Tryd.func30, Tryd.ntmps30
  go_wp2_with fail
  have B0 : Below w.heap.size w ((w.alloc (.cells #[.int .i64 p0, .int .i64 p1, .int .u8 p2, .int .i64 p3, .int .i64 p4] 23)).alloc (.cells #[.int .i64 0, .int .i64 0, .int .u8 0, .int .i64 0, .int .i64 0] 23)) := below_alloc (below_alloc (Below.refl _ _) _) _
  with_reducible refine (past_any _ _ _ _ _ _ _ _ _ _ (hr.on B0) (hl.below B0) hn).mono ?_
  rintro e w1 ⟨g, cap, y, m, hy, rfl, ow, hg, hb⟩
  have k0 := ((Blk.new w _ _).alloc _).on hb
  have k1 := (Blk.new1 w _ _ _).on hb
  have B1 : Below w.heap.size w w1 := B0.trans (hb.mono (by simp; omega))
  simp at hg
  clear hb B0
  go_wp2_with (first
    | (refine at_st 3 rfl ?_; go_must (refine ev_storeF El.op _ rfl _ _ rfl w.heap.size y _ 23 rfl rfl k0 rfl ?_); intro w2 k02 hg2; have k12 := k1.grown hg2 (ne_some (by omega)); have ow2 := ow.grown hg2 (ne_some (by omega)); have B2 : Below w.heap.size w w2 := B1.grown hg2 B1.size (fun k e => by injection e; omega); clear k0 k1 ow B1 hg2; have l0 := k02.lt; obtain ⟨h0, h1, h2, h3, h4⟩ := Blk.cells5 (v0 := .int .i64 y.k) (v1 := .int .i64 y.p) (v2 := .int .u8 y.c) (v3 := .int .i64 y.l) (v4 := .int .i64 y.s) k02)
    | (refine at_st 6 rfl ?_; go_must (refine ev_storeF El.op _ rfl _ _ rfl (w.heap.size + 1) y _ 23 rfl rfl k12 rfl ?_); intro w3 k13 hg3; have ow3 := ow2.grown hg3 (ne_some (by omega)); have B3 : Below w.heap.size w w3 := B2.grown hg3 B2.size (fun k e => by injection e; omega); clear k02 k12 ow2 B2 hg3 l0 h0 h1 h2 h3 h4))
  obtain ⟨h0, h1, h2, h3, h4⟩ := Blk.cells5 (v0 := .int .i64 y.k) (v1 := .int .i64 y.p) (v2 := .int .u8 y.c) (v3 := .int .i64 y.l) (v4 := .int .i64 y.s) k13
  refine bodyPost_ret (v := .tuple #[.agg #[.int .i64 y.k, .int .i64 y.p, .int .u8 y.c, .int .i64 y.l, .int .i64 y.s], .slice (some ⟨g, 0, none⟩) m.length cap, .int .i64 0]) (by simp [results, Tryd.results30, go_sem, h0, h1, h2, h3, h4]) rfl ?_
  exact ⟨g, cap, y, m, hy, rfl, ow3, by omega, B3⟩
end Go.Proofs.YtkicbnkacjnhoaaDoor
