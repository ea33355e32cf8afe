/- The walk of jotterlaw05.put, where the operation fits. -/
import Derived.Test.YtkicbnkacjnhoaaDoorElem
import Derived.Test.YtkicbnkacjnhoaaDoorCuts
import Derived.Test.YtkicbnkacjnhoaaDoorStepApp
namespace Go.Proofs.YtkicbnkacjnhoaaDoor
open Go.RowKit
set_option linter.unusedVariables false
set_option linter.unusedSimpArgs false

set_option maxHeartbeats 1000000 in
theorem put_ins (A : Option Addr) (c0 : Nat) (d : List PEl) (n : Nat) (c l s : Int) (w : World) (hd : Rd elF w A d) (hc : d.length ≤ c0) (hl : d.length ≤ 6000000000000) (hn : n ≤ d.length) :
    Calls Tryd.prog 40 #[.slice A d.length c0, .agg #[.int .i64 1, .int .i64 n, .int .u8 c, .int .i64 l, .int .i64 s]] w fun e w' =>
      ∃ g cap, e = .returned (.tuple #[.slice (some ⟨g, 0, none⟩) (ins d n ⟨c, l, s⟩).length cap, .bool true]) ∧ OwnC elF 41 w' g cap (ins d n ⟨c, l, s⟩) ∧ w.heap.size ≤ g ∧ Below w.heap.size w w' := by
  have hn0 : decide ((n : Int) < 0) = false := by simp
  have hn1 : decide (d.length < n) = false := by simp; omega
  have hE := Lib.hid (ins_take (⟨c, l, s⟩ : PEl) d n hn)
  have hL := Lib.hid (ins_length (⟨c, l, s⟩ : PEl) d n)
  have ht : Hid ((d.take n).length = n) := Lib.hid (by simp; omega)
  have hdl : Hid ((d.drop n).length = d.length - n) := Lib.hid (by simp)
  go_enter Tryd.func40, Tryd.ntmps40
  go_wp2_with (first
    | (at_make; refine ev_make0 El.el _ rfl _ _ 33 rfl Tryd.underlying33 _ _ _ (d.length + 1) rfl rfl (by simp) (by omega) (by omega) ?_; intro w1 hO0 hB; (have hO : OwnC elF 41 w1 (w.heap.size + 1) (d.length + 1) [] := by simpa using hO0); clear hO0; (have kx := (Blk.new w #[.int .i64 1, .int .i64 n, .int .u8 c, .int .i64 l, .int .i64 s] 23).on hB); obtain ⟨x0, x1, x2, x3, x4⟩ := kx.cells5; (have B1 : Below w.heap.size w w1 := (below_alloc (Below.refl _ _) _).trans (hB.mono (by simp))); (have hgl := hO.lt))
    | (refine at_dst 43 rfl ?_; refine ev_slH El.el _ rfl 33 _ _ rfl Tryd.underlying33 A d.length c0 .i64 _ n rfl rfl rfl (by omega) ?_)
    | (refine at_dst 44 rfl ?_; refine ev_appSC El.el _ rfl _ _ 33 rfl Tryd.underlying33 (w.heap.size + 1) (d.length + 1) 0 [] (d.take n) A n c0 rfl rfl rfl ht.out.symm hO ((hd.below B1).take n) (by rw [ht.out, List.length_nil]; omega) ?_; simp only [Nat.zero_add, List.nil_append]; intro w2 hO2 hg2; (have B2 := B1.grown hg2 B1.size (fun k e => by injection e; omega)); (have kx2 := kx.grown hg2 (ne_some (by omega))); clear x0 x1 x2 x3 x4 kx hO hB B1 hg2 hgl; obtain ⟨x0, x1, x2, x3, x4⟩ := kx2.cells5; (have hgl := hO2.lt))
    | (refine at_dst 54 rfl ?_; refine ev_app1 El.el _ rfl _ _ 33 rfl Tryd.underlying33 (w.heap.size + 1) (d.length + 1) (d.take n) ⟨c, l, s⟩ n ht.out.symm rfl rfl hO2 (by rw [ht.out]; omega) ?_; intro w3 hO3 hg3; (have B3 := B2.grown hg3 B2.size (fun k e => by injection e; omega)); (have kx3 := kx2.grown hg3 (ne_some (by omega))); clear x0 x1 x2 x3 x4 kx2 hO2 B2 hg3 hgl; obtain ⟨x0, x1, x2, x3, x4⟩ := kx3.cells5; (have hgl := hO3.lt))
    | (refine at_dst 59 rfl ?_; refine ev_slL El.el _ rfl 33 _ _ rfl Tryd.underlying33 A d d.length c0 .i64 _ n rfl rfl hc rfl rfl hn ?_; intro A' hA')
    | (refine at_dst 60 rfl ?_; refine ev_appSC El.el _ rfl _ _ 33 rfl Tryd.underlying33 (w.heap.size + 1) (d.length + 1) (n + 1) (d.take n ++ [⟨c, l, s⟩]) (d.drop n) A' (d.length - n) (c0 - n) (by simp [ht.out]) rfl rfl hdl.out.symm hO3 (hA' _ (hd.below B3)) (by simp [hdl.out]; omega) ?_; intro w4 hO4 hg4; (have B4 := B3.grown hg4 B3.size (fun k e => by injection e; omega))))
  refine bodyPost_ret (v := .tuple #[.slice (some ⟨w.heap.size + 1, 0, none⟩) (n + 1 + (d.length - n)) (d.length + 1), .bool true]) (by simp [results, Tryd.results40, go_sem]) rfl ?_
  have hE2 : d.take n ++ [⟨c, l, s⟩] ++ d.drop n = ins d n ⟨c, l, s⟩ := by rw [hE.out]; simp
  rw [hE2] at hO4
  refine ⟨_, _, ?_, hO4, by omega, B4⟩
  rw [hL.out, show n + 1 + (d.length - n) = d.length + 1 by omega]

set_option maxHeartbeats 1000000 in
theorem put_del (A : Option Addr) (c0 : Nat) (d : List PEl) (n : Nat) (c l s : Int) (w : World) (hd : Rd elF w A d) (hc : d.length ≤ c0) (hl : d.length ≤ 6000000000000) (hn : n < d.length) :
    Calls Tryd.prog 40 #[.slice A d.length c0, .agg #[.int .i64 2, .int .i64 n, .int .u8 c, .int .i64 l, .int .i64 s]] w fun e w' =>
      ∃ g cap, e = .returned (.tuple #[.slice (some ⟨g, 0, none⟩) (del d n).length cap, .bool true]) ∧ OwnC elF 41 w' g cap (del d n) ∧ w.heap.size ≤ g ∧ Below w.heap.size w w' := by
  have hn0 : decide ((n : Int) < 0) = false := by simp
  have hn1 : decide (d.length ≤ n) = false := by simp; omega
  have hE := Lib.hid (del_take d n hn)
  have hL := Lib.hid (del_length d n hn)
  have ht : Hid ((d.take n).length = n) := Lib.hid (by simp; omega)
  have hdl : Hid ((d.drop (n + 1)).length = d.length - (n + 1)) := Lib.hid (by simp)
  go_enter Tryd.func40, Tryd.ntmps40
  go_wp2_with (first
    | (at_make; refine ev_make0 El.el _ rfl _ _ 33 rfl Tryd.underlying33 _ _ _ (d.length + 1) rfl rfl (by simp) (by omega) (by omega) ?_; intro w1 hO0 hB; (have hO : OwnC elF 41 w1 (w.heap.size + 1) (d.length + 1) [] := by simpa using hO0); clear hO0; (have kx := (Blk.new w #[.int .i64 2, .int .i64 n, .int .u8 c, .int .i64 l, .int .i64 s] 23).on hB); obtain ⟨x0, x1, x2, x3, x4⟩ := kx.cells5; (have B1 : Below w.heap.size w w1 := (below_alloc (Below.refl _ _) _).trans (hB.mono (by simp))); (have hgl := hO.lt))
    | (refine at_dst 78 rfl ?_; refine ev_slH El.el _ rfl 33 _ _ rfl Tryd.underlying33 A d.length c0 .i64 _ n rfl rfl rfl (by omega) ?_)
    | (refine at_dst 79 rfl ?_; refine ev_appSC El.el _ rfl _ _ 33 rfl Tryd.underlying33 (w.heap.size + 1) (d.length + 1) 0 [] (d.take n) A n c0 rfl rfl rfl ht.out.symm hO ((hd.below B1).take n) (by rw [ht.out, List.length_nil]; omega) ?_; simp only [Nat.zero_add, List.nil_append]; intro w2 hO2 hg2; (have B2 := B1.grown hg2 B1.size (fun k e => by injection e; omega)); (have kx2 := kx.grown hg2 (ne_some (by omega))); clear x0 x1 x2 x3 x4 kx hO hB B1 hg2 hgl; obtain ⟨x0, x1, x2, x3, x4⟩ := kx2.cells5; (have hgl := hO2.lt))
    | (refine at_dst 85 rfl ?_; refine ev_slL El.el _ rfl 33 _ _ rfl Tryd.underlying33 A d d.length c0 .i64 _ (n + 1) rfl rfl hc rfl (by omega) hn ?_; intro A' hA')
    | (refine at_dst 86 rfl ?_; refine ev_appSC El.el _ rfl _ _ 33 rfl Tryd.underlying33 (w.heap.size + 1) (d.length + 1) n (d.take n) (d.drop (n + 1)) A' (d.length - (n + 1)) (c0 - (n + 1)) (by simp [ht.out]) rfl rfl hdl.out.symm hO2 (hA' _ (hd.below B2)) (by rw [ht.out, hdl.out]; omega) ?_; intro w4 hO4 hg4; (have B4 := B2.grown hg4 B2.size (fun k e => by injection e; omega))))
  refine bodyPost_ret (v := .tuple #[.slice (some ⟨w.heap.size + 1, 0, none⟩) (n + (d.length - (n + 1))) (d.length + 1), .bool true]) (by simp [results, Tryd.results40, go_sem]) rfl ?_
  rw [← hE.out] at hO4
  refine ⟨_, _, ?_, hO4, by omega, B4⟩
  rw [hL.out, show n + (d.length - (n + 1)) = d.length - 1 by omega]

set_option maxHeartbeats 1000000 in
theorem put_nop (A : Option Addr) (c0 : Nat) (d : List PEl) (l s : Int) (w : World) (hd : Rd elF w A d) (hl : d.length ≤ 6000000000000) :
    Calls Tryd.prog 40 #[.slice A d.length c0, .agg #[.int .i64 0, .int .i64 0, .int .u8 0, .int .i64 l, .int .i64 s]] w fun e w' =>
      ∃ g cap, e = .returned (.tuple #[.slice (some ⟨g, 0, none⟩) d.length cap, .bool true]) ∧ OwnC elF 41 w' g cap d ∧ w.heap.size ≤ g ∧ Below w.heap.size w w' := by
  go_enter Tryd.func40, Tryd.ntmps40
  go_wp2_with (first
    | (at_make; refine ev_make0 El.el _ rfl _ _ 33 rfl Tryd.underlying33 _ _ _ (d.length + 1) rfl rfl (by simp) (by omega) (by omega) ?_; intro w1 hO0 hB; (have hO : OwnC elF 41 w1 (w.heap.size + 1) (d.length + 1) [] := by simpa using hO0); clear hO0; (have kx := (Blk.new w #[.int .i64 0, .int .i64 0, .int .u8 0, .int .i64 l, .int .i64 s] 23).on hB); obtain ⟨x0, x1, x2, x3, x4⟩ := kx.cells5; (have B1 : Below w.heap.size w w1 := (below_alloc (Below.refl _ _) _).trans (hB.mono (by simp))); (have hgl := hO.lt)))
  go_region_law (first
    | (refine step_appSC El.el _ rfl _ _ 33 rfl Tryd.underlying33 (w.heap.size + 1) (d.length + 1) 0 [] d A d.length c0 rfl rfl rfl rfl hO.drew (hd.below B1).drew (by simp) ?_; simp only [Nat.zero_add, List.nil_append]; intro w2 hO2 hg2; (have B2 := B1.drew.grown hg2 B1.size (fun k e => by injection e; omega)); (have kx2 := kx.drew.grown hg2 (ne_some (by omega))); obtain ⟨y0, y1, y2, y3, y4⟩ := kx2.cells5)
    | fail)
  all_goals
    go_wp2
    refine bodyPost_ret (v := .tuple #[.slice (some ⟨w.heap.size + 1, 0, none⟩) d.length (d.length + 1), .bool true]) (by simp [results, Tryd.results40, go_sem]) rfl ?_
    exact ⟨_, _, rfl, hO2, by omega, B2⟩
/-- Where the operation fits. -/
theorem put_any (A : Option Addr) (c0 : Nat) (d e : List PEl) (o : POp) (w : World) (hd : Rd elF w A d) (hc : d.length ≤ c0) (hl : d.length ≤ 6000000000000) (h : putL d o = some e) :
    Calls Tryd.prog 40 #[.slice A d.length c0, .agg #[.int .i64 o.k, .int .i64 o.p, .int .u8 o.c, .int .i64 o.l, .int .i64 o.s]] w fun r w' =>
      ∃ g cap, r = .returned (.tuple #[.slice (some ⟨g, 0, none⟩) e.length cap, .bool true]) ∧ OwnC elF 41 w' g cap e ∧ w.heap.size ≤ g ∧ Below w.heap.size w w' := by
  obtain ⟨k, p, c, l, s⟩ := o
  rcases putL_cases h with ⟨h1, h2, h3, rfl⟩ | ⟨h1, n, h2, hn, rfl⟩ | ⟨h1, n, h2, hn, rfl⟩
  · simp only at h1 h2 h3
    subst h1 h2 h3
    exact put_nop A c0 e l s w hd hl
  · simp only at h1 h2
    subst h1 h2
    exact put_ins A c0 d n c l s w hd hc hl hn
  · simp only at h1 h2
    subst h1 h2
    exact put_del A c0 d n c l s w hd hc hl hn
end Go.Proofs.YtkicbnkacjnhoaaDoor
