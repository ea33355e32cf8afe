/- The walks of package space's through, Look. -/
import Derived.Test.YtkicbnkacjnhoaaDoorQLine
namespace Go.Proofs.YtkicbnkacjnhoaaDoor
open Go.RowKit
set_option linter.unusedVariables false
set_option linter.unusedSimpArgs false

theorem cell_keep {w W : World} {b i : Nat} {v : Value} (h : w.cell? ⟨b, i, none⟩ = some v) (hb : Below w.heap.size w W) (hlt : b < w.heap.size) : W.cell? ⟨b, i, none⟩ = some v := (hb.cell (p := ⟨b, i, none⟩) hlt).trans h
theorem s_put5 {w : World} {b p b' : Nat} {o : POp} {u : Value} (h : FiveAt w b 0 o ∧ w.cell? ⟨p, 2, none⟩ = some u) (h1 : b ≠ b') (h2 : p ≠ b') (v0 v1 v2 v3 v4 : Value) : FiveAt (put5 w b' v0 v1 v2 v3 v4) b 0 o ∧ (put5 w b' v0 v1 v2 v3 v4).cell? ⟨p, 2, none⟩ = some u := by
  obtain ⟨⟨g0, g1, g2, g3, g4⟩, g5⟩ := h
  have k : ∀ i, (put5 w b' v0 v1 v2 v3 v4).cell? ⟨b, i, none⟩ = w.cell? ⟨b, i, none⟩ := fun i => cell_set5 w b' b i v0 v1 v2 v3 v4 h1
  exact ⟨⟨(k _).trans g0, (k _).trans g1, (k _).trans g2, (k _).trans g3, (k _).trans g4⟩, (cell_set5 w b' p 2 v0 v1 v2 v3 v4 h2).trans g5⟩
theorem through_m (o : POp) (A : Option Addr) (c n : Nat) (line : List POp) (f : Bool) (w : World) (hn0 : line.length = n) (hr : RulesAt w) (hl : Rd opF w A line) (hn : line.length ≤ 4096) :
    Calls Tryd.prog 30 #[.agg #[.int .i64 o.k, .int .i64 o.p, .int .u8 o.c, .int .i64 o.l, .int .i64 o.s], .slice A n c, .bool f] w fun e w' =>
      ∃ (g cap : Nat) (y : POp) (m : List POp), Hid (pastL o line f = (y, m)) ∧ Hid (m.length = line.length) ∧ e = .returned (.tuple #[.agg #[.int .i64 y.k, .int .i64 y.p, .int .u8 y.c, .int .i64 y.l, .int .i64 y.s], .slice (some ⟨g, 0, none⟩) m.length cap, .int .i64 0]) ∧ Rd opF w' (some ⟨g, 0, none⟩) m ∧ w.heap.size ≤ g ∧ Below w.heap.size w w' := by
  subst hn0
  exact through_rd o.k o.p o.c o.l o.s A c line f w hr hl hn

section
variable {p : Nat} {A : Option Addr} {c : Nat} {q : List PMk} {last : Int} {first : Bool}
set_option maxHeartbeats 2000000 in
theorem sth_bad (o : POp) (w : World) (hc : 0 ≤ o.c ∧ o.c ≤ 255) (hv : validL o ≠ 0) :
    Calls Tryd.prog 74 #[.pointer (some ⟨p, 0, none⟩), .agg #[.int .i64 o.k, .int .i64 o.p, .int .u8 o.c, .int .i64 o.l, .int .i64 o.s]] w fun e w' => e = .returned (.tuple #[.agg #[.int .i64 0, .int .i64 0, .int .u8 0, .int .i64 0, .int .i64 0], .slice none 0 0, .int .i64 (validL o)]) ∧ Below w.heap.size w w' := by
  have hq : (validL o != 0) = true := by simpa using hv
  clear hv
  go_enter Tryd.func74, Tryd.ntmps74
  go_wp2_with fail
  with_reducible refine (valid_any _ _ hc).mono ?_
  rintro e w1 ⟨rfl, hb⟩
  have B1 : Below w.heap.size w w1 := (below_alloc (below_alloc (Below.refl _ _) _) _).trans (hb.mono (by simp; omega))
  have k4 := (Blk.new1 w (.cells #[.int .i64 o.k, .int .i64 o.p, .int .u8 o.c, .int .i64 o.l, .int .i64 o.s] 23) #[.int .i64 0, .int .i64 0, .int .u8 0, .int .i64 0, .int .i64 0] 23).on hb
  obtain ⟨z0, z1, z2, z3, z4⟩ := k4.cells5
  have z5 := k4.frozen
  have l4 := k4.lt
  go_wp2
  have j4 := k4.set5 (.int .i64 0) (.int .i64 0) (.int .u8 0) (.int .i64 0) (.int .i64 0)
  obtain ⟨q0, q1, q2, q3, q4⟩ := j4.cells5
  refine bodyPost_ret (v := .tuple #[.agg #[.int .i64 0, .int .i64 0, .int .u8 0, .int .i64 0, .int .i64 0], .slice none 0 0, .int .i64 (validL o)]) (by simp [results, Tryd.results74, go_sem, q0, q1, q2, q3, q4]) rfl ?_
  exact ⟨rfl, below_put5 B1 (by omega) _ _ _ _ _⟩
set_option maxHeartbeats 2000000 in
theorem sth_ok (o : POp) (w : World) (hr : RulesAt w) (h : SpAt w p A c q last first) (hc : 0 ≤ o.c ∧ o.c ≤ 255) (hv : validL o = 0) (hl : q.length ≤ 4096) :
    Calls Tryd.prog 74 #[.pointer (some ⟨p, 0, none⟩), .agg #[.int .i64 o.k, .int .i64 o.p, .int .u8 o.c, .int .i64 o.l, .int .i64 o.s]] w fun e w' =>
      ∃ (g cm : Nat) (y : POp) (m : List POp), Hid (pastL o (opsQ q) first = (y, m)) ∧ Hid (m.length = q.length) ∧ e = .returned (.tuple #[.agg #[.int .i64 y.k, .int .i64 y.p, .int .u8 y.c, .int .i64 y.l, .int .i64 y.s], .slice (some ⟨g, 0, none⟩) m.length cm, .int .i64 0]) ∧ Rd opF w' (some ⟨g, 0, none⟩) m ∧ w.heap.size ≤ g ∧ Below w.heap.size w w' := by
  have HV := Lib.hid hv
  clear hv
  go_enter Tryd.func74, Tryd.ntmps74
  go_wp2_with fail
  with_reducible refine (valid_any _ _ hc).mono ?_
  rintro e w1 ⟨rfl, hb⟩
  rw [HV.out]
  have B1 : Below w.heap.size w w1 := (below_alloc (below_alloc (Below.refl _ _) _) _).trans (hb.mono (by simp; omega))
  have kx := ((Blk.new w #[.int .i64 o.k, .int .i64 o.p, .int .u8 o.c, .int .i64 o.l, .int .i64 o.s] 23).alloc (.cells #[.int .i64 0, .int .i64 0, .int .u8 0, .int .i64 0, .int .i64 0] 23)).on hb
  have k4 := (Blk.new1 w (.cells #[.int .i64 o.k, .int .i64 o.p, .int .u8 o.c, .int .i64 o.l, .int .i64 o.s] 23) #[.int .i64 0, .int .i64 0, .int .u8 0, .int .i64 0, .int .i64 0] 23).on hb
  have FX : FiveAt w1 w.heap.size 0 o := kx.cells5
  have lx := kx.lt
  have l4 := k4.lt
  have hplt := h.blk.lt
  have hS := h.on B1
  obtain ⟨e0, e1, e2, lt⟩ := hS.blk.three
  have hrW := hr.on B1
  have hoq : (opsQ q).length = q.length := opsQ_length q
  have HOQ := Lib.hid hoq
  clear hb hoq
  go_wp2_with fail
  go_region_held3 (fun V => (V.cell? ⟨w.heap.size, 0, none⟩ = some (.int .i64 o.k) ∧ V.cell? ⟨w.heap.size, 1, none⟩ = some (.int .i64 o.p) ∧ V.cell? ⟨w.heap.size, 2, none⟩ = some (.int .u8 o.c) ∧ V.cell? ⟨w.heap.size, 3, none⟩ = some (.int .i64 o.l) ∧ V.cell? ⟨w.heap.size, 4, none⟩ = some (.int .i64 o.s)) ∧ V.cell? ⟨p, 2, none⟩ = some (.bool first))
    (first | ((with_reducible refine And.intro (five_keep FX ?_ lx) (cell_keep e2 ?_ lt) <;> (repeat' (first | with_reducible exact Below.refl _ _ | with_reducible exact hB2 | with_reducible exact hB3 | with_reducible refine Below.drew ?_ | fail))); done) | ((have g5 := cell_keep e2 hB3 lt); (have G := five_keep FX hB3 lx); obtain ⟨g0, g1, g2, g3, g4⟩ := G; (try dsimp only); (repeat' apply And.intro) <;> (first | with_reducible exact (cell_set5 w3 (w.heap.size + 1) p 2 _ _ _ _ _ (Nat.ne_of_lt (Nat.lt_succ_of_lt hplt))).trans g5 | with_reducible exact (cell_set5 w3 (w.heap.size + 1) w.heap.size 0 _ _ _ _ _ (Nat.ne_of_lt (Nat.lt_succ_self _))).trans g0 | with_reducible exact (cell_set5 w3 (w.heap.size + 1) w.heap.size 1 _ _ _ _ _ (Nat.ne_of_lt (Nat.lt_succ_self _))).trans g1 | with_reducible exact (cell_set5 w3 (w.heap.size + 1) w.heap.size 2 _ _ _ _ _ (Nat.ne_of_lt (Nat.lt_succ_self _))).trans g2 | with_reducible exact (cell_set5 w3 (w.heap.size + 1) w.heap.size 3 _ _ _ _ _ (Nat.ne_of_lt (Nat.lt_succ_self _))).trans g3 | with_reducible exact (cell_set5 w3 (w.heap.size + 1) w.heap.size 4 _ _ _ _ _ (Nat.ne_of_lt (Nat.lt_succ_self _))).trans g4)) | fail)
    (first
      | (go_at_call 86; (with_reducible refine (qline_any _ (hS.on (by (repeat' (first | with_reducible exact Below.refl _ _ | with_reducible exact hB2 | with_reducible exact hB3 | with_reducible refine Below.drew ?_ | fail)))) (by omega)).mono ?_); rintro e w2 ⟨g1, hg1, rfl, ow1, hb2⟩; (have hB2 : Below w1.heap.size w1 w2 := (Below.refl _ _).drew.trans hb2))
      | (go_at_call 30; (with_reducible refine (through_m _ _ _ _ (opsQ q) _ _ HOQ.out (hrW.on (by (repeat' (first | with_reducible exact Below.refl _ _ | with_reducible exact hB2 | with_reducible exact hB3 | with_reducible refine Below.drew ?_ | fail)))) ow1.rd (by have := HOQ.out; omega)).mono ?_); rintro e w3 ⟨gm, cm, y, m, hy, hml, rfl, rm, hgm, hb3⟩; (have hB3 : Below w1.heap.size w1 w3 := hB2.trans (hb3.mono hB2.size)); (have k43 := k4.on hB3); obtain ⟨n0, n1, n2, n3, n4⟩ := k43.cells5; have zn := k43.frozen)
      | fail)
  all_goals
    go_wp2
    have j4 := k43.set5 (.int .i64 y.k) (.int .i64 y.p) (.int .u8 y.c) (.int .i64 y.l) (.int .i64 y.s)
    obtain ⟨q0, q1, q2, q3, q4⟩ := j4.cells5
    have hgw := hB2.size
    refine bodyPost_ret (v := .tuple #[.agg #[.int .i64 y.k, .int .i64 y.p, .int .u8 y.c, .int .i64 y.l, .int .i64 y.s], .slice (some ⟨gm, 0, none⟩) m.length cm, .int .i64 0]) (by simp [results, Tryd.results74, go_sem, q0, q1, q2, q3, q4]) rfl ?_
    have r1 := rm.grown (grown_put5 w3 (w.heap.size + 1) (.int .i64 y.k) (.int .i64 y.p) (.int .u8 y.c) (.int .i64 y.l) (.int .i64 y.s)) (fun b off e => by injection e with e; injection e with e; subst e; exact ne_some (by omega))
    have r2 := below_put5 (B1.trans (hB3.mono B1.size)) (b := w.heap.size + 1) (by omega) (.int .i64 y.k) (.int .i64 y.p) (.int .u8 y.c) (.int .i64 y.l) (.int .i64 y.s)
    have r3 : w.heap.size ≤ gm := by have := B1.size; omega
    refine ⟨gm, cm, y, m, hy, Lib.hid (hml.out.trans HOQ.out), rfl, ?_, r3, ?_⟩
    · exact r1
    · exact r2

end
end Go.Proofs.YtkicbnkacjnhoaaDoor
