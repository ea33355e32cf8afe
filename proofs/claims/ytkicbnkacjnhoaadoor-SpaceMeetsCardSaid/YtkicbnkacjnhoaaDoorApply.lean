/- The walks of doc.Fits and doc.Apply, where the operation is Valid and fits. -/
import Derived.Test.YtkicbnkacjnhoaaDoorElem
import Derived.Test.YtkicbnkacjnhoaaDoorCuts
import Derived.Test.YtkicbnkacjnhoaaDoorStepApp
import Derived.Test.YtkicbnkacjnhoaaDoorValid
namespace Go.Proofs.YtkicbnkacjnhoaaDoor
open Go.RowKit
set_option linter.unusedVariables false
set_option linter.unusedSimpArgs false

set_option maxHeartbeats 1000000 in
theorem fits_0 (n : Nat) (c l s : Int) (w : World) (hc : 0 ≤ c ∧ c ≤ 255) (hv : validL ⟨0, 0, c, l, s⟩ = 0) (hn : n ≤ 4095) :
    Calls Tryd.prog 88 #[.int .i64 n, .agg #[.int .i64 0, .int .i64 0, .int .u8 c, .int .i64 l, .int .i64 s]] w fun e w' => e = .returned (.int .i64 0) ∧ Below w.heap.size w w' := by
  have HV := Lib.hid hv
  clear hv
  have d0 : ((n : Int) == 4096) = false := by simp; omega
  go_enter Tryd.func88, Tryd.ntmps88
  go_wp2_with fail
  with_reducible refine (valid_any ⟨0, 0, c, l, s⟩ _ hc).mono ?_
  rintro e w1 ⟨rfl, hb⟩
  rw [HV.out]
  have kx := (Blk.new w #[.int .i64 0, .int .i64 0, .int .u8 c, .int .i64 l, .int .i64 s] 23).on hb
  obtain ⟨x0, x1, x2, x3, x4⟩ := kx.cells5
  go_wp2_with fail
  with_reducible refine (within_yes _ _ _ _ ⟨by omega, by omega⟩).mono ?_
  rintro e w2 ⟨rfl, h2⟩
  subst w2
  go_wp2
  go_ret
  exact ⟨rfl, (below_alloc (Below.refl _ _) _).trans (hb.mono (by simp))⟩
set_option maxHeartbeats 1000000 in
theorem fits_1 (n : Nat) (p : Nat) (hp : p ≤ n) (c l s : Int) (w : World) (hc : 0 ≤ c ∧ c ≤ 255) (hv : validL ⟨1, p, c, l, s⟩ = 0) (hn : n ≤ 4095) :
    Calls Tryd.prog 88 #[.int .i64 n, .agg #[.int .i64 1, .int .i64 p, .int .u8 c, .int .i64 l, .int .i64 s]] w fun e w' => e = .returned (.int .i64 0) ∧ Below w.heap.size w w' := by
  have HV := Lib.hid hv
  clear hv
  have d0 : ((n : Int) == 4096) = false := by simp; omega
  have d1 : decide (n < p) = false := by simp; omega
  go_enter Tryd.func88, Tryd.ntmps88
  go_wp2_with fail
  with_reducible refine (valid_any ⟨1, p, c, l, s⟩ _ hc).mono ?_
  rintro e w1 ⟨rfl, hb⟩
  rw [HV.out]
  have kx := (Blk.new w #[.int .i64 1, .int .i64 p, .int .u8 c, .int .i64 l, .int .i64 s] 23).on hb
  obtain ⟨x0, x1, x2, x3, x4⟩ := kx.cells5
  go_wp2_with fail
  with_reducible refine (within_yes _ _ _ _ ⟨by omega, by omega⟩).mono ?_
  rintro e w2 ⟨rfl, h2⟩
  subst w2
  go_wp2
  go_ret
  exact ⟨rfl, (below_alloc (Below.refl _ _) _).trans (hb.mono (by simp))⟩
set_option maxHeartbeats 1000000 in
theorem fits_2 (n : Nat) (p : Nat) (hp : p < n) (c l s : Int) (w : World) (hc : 0 ≤ c ∧ c ≤ 255) (hv : validL ⟨2, p, c, l, s⟩ = 0) (hn : n ≤ 4095) :
    Calls Tryd.prog 88 #[.int .i64 n, .agg #[.int .i64 2, .int .i64 p, .int .u8 c, .int .i64 l, .int .i64 s]] w fun e w' => e = .returned (.int .i64 0) ∧ Below w.heap.size w w' := by
  have HV := Lib.hid hv
  clear hv
  have d0 : ((n : Int) == 4096) = false := by simp; omega
  have d1 : decide (n ≤ p) = false := by simp; omega
  go_enter Tryd.func88, Tryd.ntmps88
  go_wp2_with fail
  with_reducible refine (valid_any ⟨2, p, c, l, s⟩ _ hc).mono ?_
  rintro e w1 ⟨rfl, hb⟩
  rw [HV.out]
  have kx := (Blk.new w #[.int .i64 2, .int .i64 p, .int .u8 c, .int .i64 l, .int .i64 s] 23).on hb
  obtain ⟨x0, x1, x2, x3, x4⟩ := kx.cells5
  go_wp2_with fail
  with_reducible refine (within_yes _ _ _ _ ⟨by omega, by omega⟩).mono ?_
  rintro e w2 ⟨rfl, h2⟩
  subst w2
  go_wp2
  go_ret
  exact ⟨rfl, (below_alloc (Below.refl _ _) _).trans (hb.mono (by simp))⟩
set_option maxHeartbeats 2000000 in
theorem apply_ins (A : Option Addr) (c0 : Nat) (d : List PEl) (n : Nat) (hn : n ≤ d.length) (c l s : Int) (w : World) (hd : Rd elF w A d) (hc : d.length ≤ c0) (hl : d.length ≤ 4095) (hcc : 0 ≤ c ∧ c ≤ 255) (hv : validL ⟨1, n, c, l, s⟩ = 0) :
    Calls Tryd.prog 84 #[.slice A d.length c0, .agg #[.int .i64 1, .int .i64 n, .int .u8 c, .int .i64 l, .int .i64 s]] w fun e w' =>
      ∃ g cap, e = .returned (.tuple #[.slice (some ⟨g, 0, none⟩) (ins d n ⟨c, l, s⟩).length cap, .int .i64 0]) ∧ OwnC elF 41 w' g cap (ins d n ⟨c, l, s⟩) ∧ w.heap.size ≤ g ∧ Below w.heap.size w w' := by
  have HV := Lib.hid hv
  clear hv
  have hE := Lib.hid (ins_take (⟨c, l, s⟩ : PEl) d n hn)
  have hL := Lib.hid (ins_length (⟨c, l, s⟩ : PEl) d n)
  have ht : Hid ((d.take n).length = n) := Lib.hid (by simp; omega)
  have hdl : Hid ((d.drop n).length = d.length - n) := Lib.hid (by simp)
  go_enter Tryd.func84, Tryd.ntmps84
  go_wp2_with fail
  with_reducible refine (fits_1 d.length n hn c l s _ hcc HV.out hl).mono ?_
  rintro e w0 ⟨rfl, hb0⟩
  have B0 : Below w.heap.size w w0 := (below_alloc (Below.refl _ _) _).trans (hb0.mono (by simp))
  have kx0 := (Blk.new w #[.int .i64 1, .int .i64 n, .int .u8 c, .int .i64 l, .int .i64 s] 23).on hb0
  have hs0 : w.heap.size < w0.heap.size := kx0.lt
  clear hb0
  obtain ⟨g, hg⟩ : ∃ g, g = w0.heap.size := ⟨_, rfl⟩
  obtain ⟨x0, x1, x2, x3, x4⟩ := kx0.cells5
  have hg2 : w.heap.size < g := by omega
  have HG := Lib.hid hg
  clear hg
  go_wp2_with (first
    | (at_make; refine ev_make0 El.el _ rfl _ _ 33 rfl Tryd.underlying33 _ _ _ (d.length + 1) rfl rfl (by simp) (by omega) (by omega) ?_; intro w1 hO0 hB; rw [← HG.out] at hO0 ⊢; (have hO : OwnC elF 41 w1 g (d.length + 1) [] := hO0); clear hO0; (have kx := kx0.on hB); clear x0 x1 x2 x3 x4; obtain ⟨x0, x1, x2, x3, x4⟩ := kx.cells5; (have B1 : Below w.heap.size w w1 := B0.trans (hB.mono B0.size)); (have hgl := hO.lt))
    | (refine at_dst 30 rfl ?_; refine ev_slH El.el _ rfl 33 _ _ rfl Tryd.underlying33 A d.length c0 .i64 _ n rfl rfl rfl (by omega) ?_)
    | (refine at_dst 31 rfl ?_; refine ev_appSC El.el _ rfl _ _ 33 rfl Tryd.underlying33 g (d.length + 1) 0 [] (d.take n) A n c0 rfl rfl rfl ht.out.symm hO ((hd.below B1).take n) (by rw [ht.out, List.length_nil]; omega) ?_; simp only [Nat.zero_add, List.nil_append]; intro w2 hO2 hg2; (have B2 := B1.grown hg2 B1.size (fun k e => by injection e; omega)); (have kx2 := kx.grown hg2 (ne_some (by omega))); clear x0 x1 x2 x3 x4 kx hO hB B1 hg2 hgl; obtain ⟨x0, x1, x2, x3, x4⟩ := kx2.cells5; (have hgl := hO2.lt))
    | (refine at_dst 41 rfl ?_; refine ev_app1 El.el _ rfl _ _ 33 rfl Tryd.underlying33 g (d.length + 1) (d.take n) ⟨c, l, s⟩ n ht.out.symm rfl rfl hO2 (by rw [ht.out]; omega) ?_; intro w3 hO3 hg3; (have B3 := B2.grown hg3 B2.size (fun k e => by injection e; omega)); (have kx3 := kx2.grown hg3 (ne_some (by omega))); clear x0 x1 x2 x3 x4 kx2 hO2 B2 hg3 hgl; obtain ⟨x0, x1, x2, x3, x4⟩ := kx3.cells5; (have hgl := hO3.lt))
    | (refine at_dst 46 rfl ?_; refine ev_slL El.el _ rfl 33 _ _ rfl Tryd.underlying33 A d d.length c0 .i64 _ n rfl rfl hc rfl rfl hn ?_; intro A' hA')
    | (refine at_dst 47 rfl ?_; refine ev_appSC El.el _ rfl _ _ 33 rfl Tryd.underlying33 g (d.length + 1) (n + 1) (d.take n ++ [⟨c, l, s⟩]) (d.drop n) A' (d.length - n) (c0 - n) (by simp [ht.out]) rfl rfl hdl.out.symm hO3 (hA' _ (hd.below B3)) (by simp [hdl.out]; omega) ?_; intro w4 hO4 hg4; (have B4 := B3.grown hg4 B3.size (fun k e => by injection e; omega))))
  refine bodyPost_ret (v := .tuple #[.slice (some ⟨g, 0, none⟩) (n + 1 + (d.length - n)) (d.length + 1), .int .i64 0]) (by simp [results, Tryd.results84, go_sem]) rfl ?_
  have hE2 : d.take n ++ [⟨c, l, s⟩] ++ d.drop n = ins d n ⟨c, l, s⟩ := by rw [hE.out]; simp
  rw [hE2] at hO4
  refine ⟨_, _, ?_, hO4, by omega, B4⟩
  rw [hL.out, show n + 1 + (d.length - n) = d.length + 1 by omega]
set_option maxHeartbeats 2000000 in
theorem apply_del (A : Option Addr) (c0 : Nat) (d : List PEl) (n : Nat) (hn : n < d.length) (c l s : Int) (w : World) (hd : Rd elF w A d) (hc : d.length ≤ c0) (hl : d.length ≤ 4095) (hcc : 0 ≤ c ∧ c ≤ 255) (hv : validL ⟨2, n, c, l, s⟩ = 0) :
    Calls Tryd.prog 84 #[.slice A d.length c0, .agg #[.int .i64 2, .int .i64 n, .int .u8 c, .int .i64 l, .int .i64 s]] w fun e w' =>
      ∃ g cap, e = .returned (.tuple #[.slice (some ⟨g, 0, none⟩) (del d n).length cap, .int .i64 0]) ∧ OwnC elF 41 w' g cap (del d n) ∧ w.heap.size ≤ g ∧ Below w.heap.size w w' := by
  have HV := Lib.hid hv
  clear hv
  have hE := Lib.hid (del_take d n hn)
  have hL := Lib.hid (del_length d n hn)
  have ht : Hid ((d.take n).length = n) := Lib.hid (by simp; omega)
  have hdl : Hid ((d.drop (n + 1)).length = d.length - (n + 1)) := Lib.hid (by simp)
  go_enter Tryd.func84, Tryd.ntmps84
  go_wp2_with fail
  with_reducible refine (fits_2 d.length n hn c l s _ hcc HV.out hl).mono ?_
  rintro e w0 ⟨rfl, hb0⟩
  have B0 : Below w.heap.size w w0 := (below_alloc (Below.refl _ _) _).trans (hb0.mono (by simp))
  have kx0 := (Blk.new w #[.int .i64 2, .int .i64 n, .int .u8 c, .int .i64 l, .int .i64 s] 23).on hb0
  have hs0 : w.heap.size < w0.heap.size := kx0.lt
  clear hb0
  obtain ⟨g, hg⟩ : ∃ g, g = w0.heap.size := ⟨_, rfl⟩
  obtain ⟨x0, x1, x2, x3, x4⟩ := kx0.cells5
  have hg2 : w.heap.size < g := by omega
  have HG := Lib.hid hg
  clear hg
  go_wp2_with (first
    | (at_make; refine ev_make0 El.el _ rfl _ _ 33 rfl Tryd.underlying33 _ _ _ (d.length + 1) rfl rfl (by simp) (by omega) (by omega) ?_; intro w1 hO0 hB; rw [← HG.out] at hO0 ⊢; (have hO : OwnC elF 41 w1 g (d.length + 1) [] := hO0); clear hO0; (have kx := kx0.on hB); clear x0 x1 x2 x3 x4; obtain ⟨x0, x1, x2, x3, x4⟩ := kx.cells5; (have B1 : Below w.heap.size w w1 := B0.trans (hB.mono B0.size)); (have hgl := hO.lt))
    | (refine at_dst 54 rfl ?_; refine ev_slH El.el _ rfl 33 _ _ rfl Tryd.underlying33 A d.length c0 .i64 _ n rfl rfl rfl (by omega) ?_)
    | (refine at_dst 55 rfl ?_; refine ev_appSC El.el _ rfl _ _ 33 rfl Tryd.underlying33 g (d.length + 1) 0 [] (d.take n) A n c0 rfl rfl rfl ht.out.symm hO ((hd.below B1).take n) (by rw [ht.out, List.length_nil]; omega) ?_; simp only [Nat.zero_add, List.nil_append]; intro w2 hO2 hg2; (have B2 := B1.grown hg2 B1.size (fun k e => by injection e; omega)); (have kx2 := kx.grown hg2 (ne_some (by omega))); clear x0 x1 x2 x3 x4 kx hO hB B1 hg2 hgl; obtain ⟨x0, x1, x2, x3, x4⟩ := kx2.cells5; (have hgl := hO2.lt))
    | (refine at_dst 61 rfl ?_; refine ev_slL El.el _ rfl 33 _ _ rfl Tryd.underlying33 A d d.length c0 .i64 _ (n + 1) rfl rfl hc rfl (by omega) hn ?_; intro A' hA')
    | (refine at_dst 62 rfl ?_; refine ev_appSC El.el _ rfl _ _ 33 rfl Tryd.underlying33 g (d.length + 1) n (d.take n) (d.drop (n + 1)) A' (d.length - (n + 1)) (c0 - (n + 1)) (by simp [ht.out]) rfl rfl hdl.out.symm hO2 (hA' _ (hd.below B2)) (by rw [ht.out, hdl.out]; omega) ?_; intro w4 hO4 hg4; (have B4 := B2.grown hg4 B2.size (fun k e => by injection e; omega))))
  refine bodyPost_ret (v := .tuple #[.slice (some ⟨g, 0, none⟩) (n + (d.length - (n + 1))) (d.length + 1), .int .i64 0]) (by simp [results, Tryd.results84, go_sem]) rfl ?_
  rw [← hE.out] at hO4
  refine ⟨_, _, ?_, hO4, by omega, B4⟩
  rw [hL.out, show n + (d.length - (n + 1)) = d.length - 1 by omega]
set_option maxHeartbeats 2000000 in
theorem apply_nop (A : Option Addr) (c0 : Nat) (d : List PEl) (c l s : Int) (w : World) (hd : Rd elF w A d) (hc : d.length ≤ c0) (hl : d.length ≤ 4095) (hcc : 0 ≤ c ∧ c ≤ 255) (hv : validL ⟨0, 0, c, l, s⟩ = 0) :
    Calls Tryd.prog 84 #[.slice A d.length c0, .agg #[.int .i64 0, .int .i64 0, .int .u8 c, .int .i64 l, .int .i64 s]] w fun e w' =>
      ∃ g cap, e = .returned (.tuple #[.slice (some ⟨g, 0, none⟩) d.length cap, .int .i64 0]) ∧ OwnC elF 41 w' g cap d ∧ w.heap.size ≤ g ∧ Below w.heap.size w w' := by
  have HV := Lib.hid hv
  clear hv
  go_enter Tryd.func84, Tryd.ntmps84
  go_wp2_with fail
  with_reducible refine (fits_0 d.length c l s _ hcc HV.out hl).mono ?_
  rintro e w0 ⟨rfl, hb0⟩
  have B0 : Below w.heap.size w w0 := (below_alloc (Below.refl _ _) _).trans (hb0.mono (by simp))
  have kx0 := (Blk.new w #[.int .i64 0, .int .i64 0, .int .u8 c, .int .i64 l, .int .i64 s] 23).on hb0
  have hs0 : w.heap.size < w0.heap.size := kx0.lt
  clear hb0
  obtain ⟨g, hg⟩ : ∃ g, g = w0.heap.size := ⟨_, rfl⟩
  obtain ⟨x0, x1, x2, x3, x4⟩ := kx0.cells5
  have hg2 : w.heap.size < g := by omega
  have HG := Lib.hid hg
  clear hg
  go_wp2_with (first
    | (at_make; refine ev_make0 El.el _ rfl _ _ 33 rfl Tryd.underlying33 _ _ _ (d.length + 1) rfl rfl (by simp) (by omega) (by omega) ?_; intro w1 hO0 hB; rw [← HG.out] at hO0 ⊢; (have hO : OwnC elF 41 w1 g (d.length + 1) [] := hO0); clear hO0; (have kx := kx0.on hB); clear x0 x1 x2 x3 x4; obtain ⟨x0, x1, x2, x3, x4⟩ := kx.cells5; (have B1 : Below w.heap.size w w1 := B0.trans (hB.mono B0.size)); (have hgl := hO.lt))
    | (refine at_dst 23 rfl ?_; refine ev_appSC El.el _ rfl _ _ 33 rfl Tryd.underlying33 g (d.length + 1) 0 [] d A d.length c0 rfl rfl rfl rfl hO (hd.below B1) (by simp) ?_; simp only [Nat.zero_add, List.nil_append]; intro w2 hO2 hg2; (have B2 := B1.grown hg2 B1.size (fun k e => by injection e; omega))))
  refine bodyPost_ret (v := .tuple #[.slice (some ⟨g, 0, none⟩) d.length (d.length + 1), .int .i64 0]) (by simp [results, Tryd.results84, go_sem]) rfl ?_
  exact ⟨_, _, rfl, hO2, by omega, B2⟩
/-- Where the operation is Valid and fits. -/
theorem apply_any (A : Option Addr) (c0 : Nat) (d e : List PEl) (o : POp) (w : World) (hd : Rd elF w A d) (hc : d.length ≤ c0) (hl : d.length ≤ 4095) (h : putL d o = some e) (hcc : 0 ≤ o.c ∧ o.c ≤ 255) (hv : validL o = 0) :
    Calls Tryd.prog 84 #[.slice A d.length c0, .agg #[.int .i64 o.k, .int .i64 o.p, .int .u8 o.c, .int .i64 o.l, .int .i64 o.s]] w fun r w' =>
      ∃ g cap, r = .returned (.tuple #[.slice (some ⟨g, 0, none⟩) e.length cap, .int .i64 0]) ∧ OwnC elF 41 w' g cap e ∧ w.heap.size ≤ g ∧ Below w.heap.size w w' := by
  obtain ⟨k, p, c, l, s⟩ := o
  rcases putL_cases h with ⟨h1, h2, h3, rfl⟩ | ⟨h1, n, h2, hn, rfl⟩ | ⟨h1, n, h2, hn, rfl⟩
  · simp only at h1 h2
    subst h1 h2
    exact apply_nop A c0 e c l s w hd hc hl hcc hv
  · simp only at h1 h2
    subst h1 h2
    exact apply_ins A c0 d n hn c l s w hd hc hl hcc hv
  · simp only at h1 h2
    subst h1 h2
    exact apply_del A c0 d n hn c l s w hd hc hl hcc hv
end Go.Proofs.YtkicbnkacjnhoaaDoor
