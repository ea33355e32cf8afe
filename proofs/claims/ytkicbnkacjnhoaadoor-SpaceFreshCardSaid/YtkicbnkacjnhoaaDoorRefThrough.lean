/- The walk of jotterref05.Through. -/
import Derived.Test.YtkicbnkacjnhoaaDoorThrough
import Derived.Test.YtkicbnkacjnhoaaDoorRefCross
import Derived.Deep.CutRange
namespace Go.Proofs.YtkicbnkacjnhoaaDoor
open Go.RowKit
set_option linter.unusedVariables false
set_option linter.unusedSimpArgs false

/-- The five cells of an operation at block b from off on. -/
@[reducible] def FiveAt (w : World) (b off : Nat) (x : POp) : Prop :=
  w.cell? ⟨b, off, none⟩ = some (.int .i64 x.k) ∧ w.cell? ⟨b, off + 1, none⟩ = some (.int .i64 x.p) ∧ w.cell? ⟨b, off + 2, none⟩ = some (.int .u8 x.c) ∧ w.cell? ⟨b, off + 3, none⟩ = some (.int .i64 x.l) ∧ w.cell? ⟨b, off + 4, none⟩ = some (.int .i64 x.s)
theorem five_keep {w W : World} {b off : Nat} {x : POp} (h : FiveAt w b off x) (hb : Below w.heap.size w W) (hlt : b < w.heap.size) : FiveAt W b off x := by
  obtain ⟨h0, h1, h2, h3, h4⟩ := h
  have k : ∀ i, W.cell? ⟨b, i, none⟩ = w.cell? ⟨b, i, none⟩ := fun i => hb.cell hlt
  exact ⟨(k _).trans h0, (k _).trans h1, (k _).trans h2, (k _).trans h3, (k _).trans h4⟩
theorem Rd.five {w : World} {A : Option Addr} {xs : List POp} (h : Rd opF w A xs) (i : Nat) (hi : i < xs.length) : ∃ b off x, A = some ⟨b, off, none⟩ ∧ Hid (xs[i]? = some x) ∧ b < w.heap.size ∧ FiveAt w b (off + i * 5) x := by
  obtain ⟨b, off, x, e, hx, h0, r⟩ := h.op i hi
  exact ⟨b, off, x, e, hx, World.block_lt_of_cell? w _ h0, h0, r⟩
theorem OwnC.five {e : TypeId} {w : World} {g cap : Nat} {xs : List POp} (h : OwnC opF e w g cap xs) (i : Nat) (hi : i < xs.length) : ∃ x, Hid (xs[i]? = some x) ∧ FiveAt w g (i * 5) x := by
  obtain ⟨b, off, x, e, hx, _, hc⟩ := h.rd.five i hi
  obtain ⟨rfl, rfl⟩ : g = b ∧ 0 = off := by simpa using e
  refine ⟨x, hx, ?_⟩
  rwa [Nat.zero_add] at hc

/-- All forms of op past the line's first k. -/
def FormsTo (op : POp) (line : List POp) (f : Bool) (k : Nat) (fs : List POp) : Prop := fs.length = k + 1 ∧ ∀ j, j ≤ k → fs[j]? = some (pastL op (line.take j) f).1
theorem FormsTo.start (op : POp) (line : List POp) (f : Bool) : FormsTo op line f 0 [op] := ⟨rfl, fun j hj => by (obtain rfl : j = 0 := by omega); rfl⟩
theorem FormsTo.snoc {op : POp} {line : List POp} {f : Bool} {k : Nat} {fs : List POp} (h : FormsTo op line f k fs) {x y z : POp} (hx : line[k]? = some x) (hy : fs[k]? = some y) (hz : shift y x (!f) = z) : FormsTo op line f (k + 1) (fs ++ [z]) := by
  refine ⟨by simp [h.1], fun j hj => ?_⟩
  rcases Nat.lt_or_ge j (k + 1) with hlt | hge
  · rw [List.getElem?_append_left (by rw [h.1]; omega)]
    exact h.2 j (by omega)
  · obtain rfl : j = k + 1 := by omega
    rw [List.getElem?_append_right (by rw [h.1]; omega), h.1, Nat.sub_self, List.take_add_one, hx, Option.toList_some, pastL_snoc]
    have := h.2 k (Nat.le_refl _)
    rw [hy] at this
    rw [← hz, Option.some.inj this]
    rfl
theorem past_snoc2 {op : POp} {line : List POp} {f : Bool} {k K : Nat} {fs m : List POp} (h : FormsTo op line f K fs) (hk : k ≤ K) {x y z : POp} (hm : (pastL op (line.take k) f).2 = m) (hx : line[k]? = some x) (hy : fs[k]? = some y) (hz : shift x y f = z) : (pastL op (line.take (k + 1)) f).2 = m ++ [z] := by
  have := h.2 k hk
  rw [hy] at this
  rw [List.take_add_one, hx, Option.toList_some, pastL_snoc, hm, ← hz, Option.some.inj this]

/-- What both loops carry. -/
structure RThRel (w wr : World) (op : POp) (gf cap : Nat) (fs : List POp) : Prop where
  b0 : Blk wr w.heap.size #[.int .i64 op.k, .int .i64 op.p, .int .u8 op.c, .int .i64 op.l, .int .i64 op.s] 23
  b1 : Blk wr (w.heap.size + 1) #[.int .i64 0, .int .i64 0, .int .u8 0, .int .i64 0, .int .i64 0] 23
  own : OwnC opF 23 wr gf cap fs
  le : w.heap.size + 1 + 1 ≤ gf
  below : Below w.heap.size w wr
theorem RThRel.grown {w wr w2 : World} {op : POp} {gf cap : Nat} {fs : List POp} (h : RThRel w wr op gf cap fs) {row : Option Nat} (hg : wr.grownBy w2 row) (hr : ∀ k, row = some k → wr.heap.size ≤ k) : RThRel w w2 op gf cap fs :=
  ⟨h.b0.grown hg (fun e => by have := hr _ e.symm; have := h.b0.lt; omega), h.b1.grown hg (fun e => by have := hr _ e.symm; have := h.b1.lt; omega), h.own.grown hg (fun e => by have := hr _ e.symm; have := h.own.lt; omega), h.le, h.below.grown hg h.below.size (fun k e => by have := hr _ e; have := h.below.size; omega)⟩
theorem RThRel.on {w wr w2 : World} {op : POp} {gf cap : Nat} {fs : List POp} (h : RThRel w wr op gf cap fs) (hb : Below wr.heap.size wr w2) : RThRel w w2 op gf cap fs := h.grown (grown_on hb none) (fun _ e => by cases e)

set_option maxHeartbeats 1000000 in
theorem rthrough_long (p0 p1 p2 p3 p4 : Int) (A : Option Addr) (c : Nat) (line : List POp) (f : Bool) (w : World) (hn : 4096 < line.length) :
    Calls Tryd.prog 32 #[.agg #[.int .i64 p0, .int .i64 p1, .int .u8 p2, .int .i64 p3, .int .i64 p4], .slice A line.length c, .bool f] w fun e w' =>
      e = .returned (.tuple #[.agg #[.int .i64 0, .int .i64 0, .int .u8 0, .int .i64 0, .int .i64 0], .slice none 0 0, .int .i64 50]) ∧ Below w.heap.size w w' := by
  go_enter Tryd.func32, Tryd.ntmps32
  go_wp2_with fail
  have k1 := Blk.new1 w (.cells #[.int .i64 p0, .int .i64 p1, .int .u8 p2, .int .i64 p3, .int .i64 p4] 23) #[.int .i64 0, .int .i64 0, .int .u8 0, .int .i64 0, .int .i64 0] 23
  obtain ⟨h0, h1, h2, h3, h4⟩ := k1.cells5
  refine bodyPost_ret (v := .tuple #[.agg #[.int .i64 0, .int .i64 0, .int .u8 0, .int .i64 0, .int .i64 0], .slice none 0 0, .int .i64 50]) (by simp [results, Tryd.results32, go_sem, h0, h1, h2, h3, h4]) rfl ?_
  exact ⟨rfl, below_alloc (below_alloc (Below.refl _ _) _) _⟩

set_option maxHeartbeats 1000000 in
set_option maxRecDepth 100000 in
theorem rthrough_any (p0 p1 p2 p3 p4 : Int) (A : Option Addr) (c : Nat) (line : List POp) (f : Bool) (w : World) (hl : Rd opF w A line) (hn : line.length ≤ 4096) :
    Calls Tryd.prog 32 #[.agg #[.int .i64 p0, .int .i64 p1, .int .u8 p2, .int .i64 p3, .int .i64 p4], .slice A line.length c, .bool f] w fun e w' =>
      ∃ (g cap : Nat) (y : POp) (m : List POp), Hid (pastL ⟨p0, p1, p2, p3, p4⟩ line f = (y, m)) ∧ e = .returned (.tuple #[.agg #[.int .i64 y.k, .int .i64 y.p, .int .u8 y.c, .int .i64 y.l, .int .i64 y.s], .slice (some ⟨g, 0, none⟩) m.length cap, .int .i64 0]) ∧ OwnC opF 23 w' g cap m ∧ w.heap.size ≤ g ∧ Below w.heap.size w w' := by
  go_enter Tryd.func32, Tryd.ntmps32
  go_wp2_with (first
    | (at_make; refine ev_make0 El.op _ rfl _ _ 35 rfl Tryd.underlying35 _ _ _ (line.length + 1) rfl rfl (by omega) (by omega) (by omega) ?_; intro w1 hO0 hb; (have hO : OwnC opF 23 w1 (w.heap.size + 1 + 1) (line.length + 1) [] := by simpa using hO0); clear hO0; have k0 := ((Blk.new w _ _).alloc _).on hb; have k1 := (Blk.new1 w _ _ _).on hb; have B1 : Below w.heap.size w w1 := (below_alloc (below_alloc (Below.refl _ _) _) _).trans (hb.mono (by simp; omega)); obtain ⟨e0, e1, e2, e3, e4⟩ := k0.cells5; have l0 := k0.lt)
    | (at_builtin; refine ev_app1 El.op _ rfl _ _ 35 rfl Tryd.underlying35 (w.heap.size + 1 + 1) (line.length + 1) [] ⟨p0, p1, p2, p3, p4⟩ _ rfl rfl rfl hO (by simp) ?_; intro w2 hO2 hg2; have R0 : RThRel w w2 ⟨p0, p1, p2, p3, p4⟩ (w.heap.size + 1 + 1) (line.length + 1) [⟨p0, p1, p2, p3, p4⟩] := ⟨k0.grown hg2 (ne_some (by omega)), k1.grown hg2 (ne_some (by omega)), hO2, Nat.le_refl _, B1.grown hg2 B1.size (fun k e => by injection e; omega)⟩; clear hO hb k0 k1 B1 e0 e1 e2 e3 e4 l0 hO2 hg2))
  go_loopw [9, 10] (fun v i wr => ∃ (k : Nat) (fs : List POp), k ≤ line.length ∧ i = .int .i64 k ∧ v = .slice (some ⟨w.heap.size + 1 + 1, 0, none⟩) fs.length (line.length + 1) ∧ Hid (FormsTo ⟨p0, p1, p2, p3, p4⟩ line f k fs) ∧ RThRel w wr ⟨p0, p1, p2, p3, p4⟩ (w.heap.size + 1 + 1) (line.length + 1) fs) (fun v i wr => line.length - (intOf i).toNat)
  case atStart => exact ⟨0, _, Nat.zero_le _, rfl, rfl, FormsTo.start _ _ _, R0⟩
  case round =>
    clear R0
    obtain ⟨k, fs, hk, rfl, rfl, hF, R⟩ := hrel
    have hfl : fs.length = k + 1 := hF.out.1
    by_cases hlt : k < line.length
    · obtain ⟨b, off, x, rfl, hx, hbl, hX⟩ := (hl.below R.below).five k hlt
      obtain ⟨y, hy, hY⟩ := R.own.five k (by omega)
      have hgl := R.own.lt
      have hklt : k < fs.length := by omega
      have HFL := Lib.hid hfl
      clear hfl
      go_upto_region 8 with fail
      go_cut [11] from 27 to 47 (fun p wx => ∃ (g : Nat) (z : POp), p = .pointer (some ⟨g, 0, none⟩) ∧ Hid (shift y x (!f) = z) ∧ Blk wx g #[.int .i64 z.k, .int .i64 z.p, .int .u8 z.c, .int .i64 z.l, .int .i64 z.s] 23 ∧ RThRel w wx ⟨p0, p1, p2, p3, p4⟩ (w.heap.size + 1 + 1) (line.length + 1) fs)
      case first =>
        go_region_held3 (fun V => (V.cell? ⟨w.heap.size + 1 + 1, k * 5, none⟩ = some (.int .i64 y.k) ∧ V.cell? ⟨w.heap.size + 1 + 1, k * 5 + 1, none⟩ = some (.int .i64 y.p) ∧ V.cell? ⟨w.heap.size + 1 + 1, k * 5 + 2, none⟩ = some (.int .u8 y.c) ∧ V.cell? ⟨w.heap.size + 1 + 1, k * 5 + 3, none⟩ = some (.int .i64 y.l) ∧ V.cell? ⟨w.heap.size + 1 + 1, k * 5 + 4, none⟩ = some (.int .i64 y.s)) ∧ (V.cell? ⟨b, off + k * 5, none⟩ = some (.int .i64 x.k) ∧ V.cell? ⟨b, off + k * 5 + 1, none⟩ = some (.int .i64 x.p) ∧ V.cell? ⟨b, off + k * 5 + 2, none⟩ = some (.int .u8 x.c) ∧ V.cell? ⟨b, off + k * 5 + 3, none⟩ = some (.int .i64 x.l) ∧ V.cell? ⟨b, off + k * 5 + 4, none⟩ = some (.int .i64 x.s)))
          (first | (with_reducible refine ⟨five_keep hY ?_ hgl, five_keep hX ?_ hbl⟩; all_goals (repeat' (first | with_reducible exact Below.refl _ _ | with_reducible exact hB1 | with_reducible refine Below.drew ?_ | with_reducible refine below_alloc ?_ _ | with_reducible refine Below.setCell ?_ (by simp) _ | fail))) | fail)
          (first
            | (go_at_call 22; (with_reducible refine (rshift_ex _ _ _ _ _ _ _ _ _ _ _ _).mono ?_); rintro e w1 ⟨z, hz, rfl, hb⟩; (have hB1 : Below wr.heap.size wr w1 := by first | exact (Below.refl _ _).drew.trans hb | exact (below_alloc (Below.refl _ _) _).drew.trans (hb.mono (by simp))); try (have kN := (Blk.new wr #[.int .i64 0, .int .i64 0, .int .u8 0, .int .i64 0, .int .i64 0] 23).drew.on hb; have zn := kN.frozen; obtain ⟨n0, n1, n2, n3, n4⟩ := kN.cells5)))
        · go_wp2_with fail
          go_meet
          exact ⟨w1.heap.size, z, rfl, hz, Blk.new w1 _ _, (R.on (below_alloc hB1 _))⟩
        · go_wp2_with fail
          go_meet
          exact ⟨wr.heap.size, z, rfl, hz, kN.set5 _ _ _ _ _, (R.on (below_put5 hB1 (Nat.le_refl _) _ _ _ _ _))⟩
      case rest =>
        obtain ⟨g, z, rfl, hz, kz, R1⟩ := hcut
        obtain ⟨e0, e1, e2, e3, e4⟩ := kz.cells5
        have lz := kz.lt
        have hF1 : FormsTo ⟨p0, p1, p2, p3, p4⟩ line f (k + 1) (fs ++ [z]) := hF.out.snoc hx.out hy.out hz.out
        have HF1 := Lib.hid hF1
        have hroom : fs.length < line.length + 1 := by have := HFL.out; omega
        have HR := Lib.hid hroom
        clear hF1 hroom hX hY hF R
        have own1 := R1.own
        go_wp2_with (at_builtin; refine ev_app1 El.op _ rfl _ _ 35 rfl Tryd.underlying35 (w.heap.size + 1 + 1) (line.length + 1) fs z _ rfl rfl rfl own1 HR.out ?_; intro w2 hO2 hg2; have R2 : RThRel w w2 ⟨p0, p1, p2, p3, p4⟩ (w.heap.size + 1 + 1) (line.length + 1) (fs ++ [z]) := ⟨R1.b0.grown hg2 (ne_some (by omega)), R1.b1.grown hg2 (ne_some (by omega)), hO2, Nat.le_refl _, R1.below.grown hg2 R1.below.size (fun k e => by injection e; omega)⟩; clear hg2 hO2)
        go_roundw
        case rel => exact ⟨k + 1, fs ++ [z], by omega, by go_num, by simp, HF1, R2⟩
        case measure => simp [intOf]; omega
    · have hkn : k = line.length := by omega
      subst hkn
      clear hfl
      have HFL := Lib.hid hF.out.1
      go_wp2_with (at_make; refine ev_make0 El.op _ rfl _ _ 35 rfl Tryd.underlying35 _ _ _ line.length rfl rfl (by omega) (by omega) (by omega) ?_; intro wm hO hb; have Rm := R.on hb; clear hb)
      have hgm : w.heap.size + 1 + 1 < wr.heap.size := R.own.lt
      clear R
      generalize wr.heap.size = gm at hO hgm ⊢
      go_loopw [12, 13] (fun v i wr => ∃ (k : Nat) (m : List POp), k ≤ line.length ∧ i = .int .i64 k ∧ v = .slice (some ⟨gm, 0, none⟩) m.length line.length ∧ Hid (m.length = k ∧ (pastL ⟨p0, p1, p2, p3, p4⟩ (line.take k) f).2 = m) ∧ RThRel w wr ⟨p0, p1, p2, p3, p4⟩ (w.heap.size + 1 + 1) (line.length + 1) fs ∧ OwnC opF 23 wr gm line.length m) (fun v i wr => line.length - (intOf i).toNat)
      case atStart => exact ⟨0, [], Nat.zero_le _, rfl, rfl, ⟨rfl, rfl⟩, Rm, hO⟩
      case round =>
        clear Rm hO
        obtain ⟨k, m, hk, rfl, rfl, hm, R, hO⟩ := hrel
        by_cases hlt : k < line.length
        · obtain ⟨b, off, x, rfl, hx, hbl, hX⟩ := (hl.below R.below).five k hlt
          obtain ⟨y, hy, hY⟩ := R.own.five k (by have := HFL.out; omega)
          have hgl := R.own.lt
          have hklt : k < fs.length := by have := HFL.out; omega
          go_upto_region 14 with fail
          go_cut [14] from 51 to 70 (fun p wx => ∃ (g : Nat) (z : POp), p = .pointer (some ⟨g, 0, none⟩) ∧ Hid (shift x y f = z) ∧ Blk wx g #[.int .i64 z.k, .int .i64 z.p, .int .u8 z.c, .int .i64 z.l, .int .i64 z.s] 23 ∧ RThRel w wx ⟨p0, p1, p2, p3, p4⟩ (w.heap.size + 1 + 1) (line.length + 1) fs ∧ OwnC opF 23 wx gm line.length m)
          case first =>
            go_region_held3 (fun V => (V.cell? ⟨b, off + k * 5, none⟩ = some (.int .i64 x.k) ∧ V.cell? ⟨b, off + k * 5 + 1, none⟩ = some (.int .i64 x.p) ∧ V.cell? ⟨b, off + k * 5 + 2, none⟩ = some (.int .u8 x.c) ∧ V.cell? ⟨b, off + k * 5 + 3, none⟩ = some (.int .i64 x.l) ∧ V.cell? ⟨b, off + k * 5 + 4, none⟩ = some (.int .i64 x.s)) ∧ (V.cell? ⟨w.heap.size + 1 + 1, k * 5, none⟩ = some (.int .i64 y.k) ∧ V.cell? ⟨w.heap.size + 1 + 1, k * 5 + 1, none⟩ = some (.int .i64 y.p) ∧ V.cell? ⟨w.heap.size + 1 + 1, k * 5 + 2, none⟩ = some (.int .u8 y.c) ∧ V.cell? ⟨w.heap.size + 1 + 1, k * 5 + 3, none⟩ = some (.int .i64 y.l) ∧ V.cell? ⟨w.heap.size + 1 + 1, k * 5 + 4, none⟩ = some (.int .i64 y.s)))
              (first | (with_reducible refine ⟨five_keep hX ?_ hbl, five_keep hY ?_ hgl⟩; all_goals (repeat' (first | with_reducible exact Below.refl _ _ | with_reducible exact hB1 | with_reducible refine Below.drew ?_ | with_reducible refine below_alloc ?_ _ | with_reducible refine Below.setCell ?_ (by simp) _ | fail))) | fail)
              (first
                | (go_at_call 22; (with_reducible refine (rshift_ex _ _ _ _ _ _ _ _ _ _ _ _).mono ?_); rintro e w1 ⟨z, hz, rfl, hb⟩; (have hB1 : Below wr.heap.size wr w1 := by first | exact (Below.refl _ _).drew.trans hb | exact (below_alloc (Below.refl _ _) _).drew.trans (hb.mono (by simp))); try (have kN := (Blk.new wr #[.int .i64 0, .int .i64 0, .int .u8 0, .int .i64 0, .int .i64 0] 23).drew.on hb; have zn := kN.frozen; obtain ⟨n0, n1, n2, n3, n4⟩ := kN.cells5)))
            · go_wp2_with fail
              go_meet
              exact ⟨w1.heap.size, z, rfl, hz, Blk.new w1 _ _, (R.on (below_alloc hB1 _)), (hO.on (below_alloc hB1 _))⟩
            · go_wp2_with fail
              go_meet
              exact ⟨wr.heap.size, z, rfl, hz, kN.set5 _ _ _ _ _, (R.on (below_put5 hB1 (Nat.le_refl _) _ _ _ _ _)), (hO.on (below_put5 hB1 (Nat.le_refl _) _ _ _ _ _))⟩
          case rest =>
            obtain ⟨g, z, rfl, hz, kz, R1, hO1⟩ := hcut
            obtain ⟨e0, e1, e2, e3, e4⟩ := kz.cells5
            have lz := kz.lt
            have hm1 : (m ++ [z]).length = k + 1 ∧ (pastL ⟨p0, p1, p2, p3, p4⟩ (line.take (k + 1)) f).2 = m ++ [z] := ⟨by simp [hm.out.1], past_snoc2 hF.out (by omega) hm.out.2 hx.out hy.out hz.out⟩
            have HM1 := Lib.hid hm1
            have hroom : m.length < line.length := by have := hm.out.1; omega
            have HR := Lib.hid hroom
            clear hm1 hroom hX hY R hO
            go_wp2_with (at_builtin; refine ev_app1 El.op _ rfl _ _ 35 rfl Tryd.underlying35 gm line.length m z _ rfl rfl rfl hO1 HR.out ?_; intro w2 hO2 hg2; have R2 : RThRel w w2 ⟨p0, p1, p2, p3, p4⟩ (w.heap.size + 1 + 1) (line.length + 1) fs := ⟨R1.b0.grown hg2 (ne_some (by omega)), R1.b1.grown hg2 (ne_some (by omega)), R1.own.grown hg2 (ne_some (by omega)), Nat.le_refl _, R1.below.grown hg2 R1.below.size (fun k e => by injection e; omega)⟩; clear hg2)
            go_roundw
            case rel => exact ⟨k + 1, m ++ [z], by omega, by go_num, by simp, HM1, R2, hO2⟩
            case measure => simp [intOf]; omega
        · have hkn : k = line.length := by omega
          have hm2 : (pastL ⟨p0, p1, p2, p3, p4⟩ line f).2 = m := by
            have := hm.out.2
            rwa [hkn, List.take_length] at this
          have HM := Lib.hid hm2
          clear hm2 hkn
          obtain ⟨y, hy, hY⟩ := R.own.five line.length (by have := HFL.out; omega)
          obtain ⟨e0, e1, e2, e3, e4⟩ := hY
          have hgl := R.own.lt
          have hlf : line.length < fs.length := by have := HFL.out; omega
          have hq : pastL ⟨p0, p1, p2, p3, p4⟩ line f = (y, m) := by
            have h1 := hF.out.2 line.length (Nat.le_refl _)
            rw [hy.out, List.take_length] at h1
            exact Prod.ext (Option.some.inj h1).symm HM.out
          have HQ := Lib.hid hq
          clear hq
          have k1 := R.b1
          go_wp2_with (refine at_st 6 rfl ?_; go_must (refine ev_storeF El.op _ rfl _ _ rfl (w.heap.size + 1) y _ 23 rfl rfl k1 rfl ?_); intro w3 k13 hg3; have hO3 := hO.grown hg3 (ne_some (by omega)); have B3 : Below w.heap.size w w3 := R.below.grown hg3 R.below.size (fun k e => by injection e; omega); clear hg3 e0 e1 e2 e3 e4)
          obtain ⟨h0, h1, h2, h3, h4⟩ := Blk.cells5 (v0 := .int .i64 y.k) (v1 := .int .i64 y.p) (v2 := .int .u8 y.c) (v3 := .int .i64 y.l) (v4 := .int .i64 y.s) k13
          refine bodyPost_ret (v := .tuple #[.agg #[.int .i64 y.k, .int .i64 y.p, .int .u8 y.c, .int .i64 y.l, .int .i64 y.s], .slice (some ⟨gm, 0, none⟩) m.length line.length, .int .i64 0]) (by simp [results, Tryd.results32, go_sem, h0, h1, h2, h3, h4]) rfl ?_
          exact ⟨gm, _, y, m, HQ, rfl, hO3, by omega, B3⟩
end Go.Proofs.YtkicbnkacjnhoaaDoor
