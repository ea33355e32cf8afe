/- The walks of jotterref10's Look, Cross, Queue. -/
import Derived.Test.YtkicbnkacjnhoaaDoorRefLine
import Derived.Test.YtkicbnkacjnhoaaDoorPlan
namespace Go.Proofs.YtkicbnkacjnhoaaDoor
open Go.RowKit
set_option linter.unusedVariables false
set_option linter.unusedSimpArgs false

section
variable {p : Nat} {A : Option Addr} {c : Nat} {B : Option Addr} {e : Nat} {y : PRef} {f : Bool}
set_option maxHeartbeats 2000000 in
theorem rlook_bad (o : POp) (w : World) (hc : 0 ≤ o.c ∧ o.c ≤ 255) (hv : validL o ≠ 0) :
    Calls Tryd.prog 80 #[.pointer (some ⟨p, 0, none⟩), .agg #[.int .i64 o.k, .int .i64 o.p, .int .u8 o.c, .int .i64 o.l, .int .i64 o.s]] w fun ex w' =>
      ex = .returned (.tuple #[.agg #[.int .i64 0, .int .i64 0, .int .u8 0, .int .i64 0, .int .i64 0], .int .i64 (validL o)]) ∧ Below w.heap.size w w' := by
  have hq : (validL o != 0) = true := by simpa using hv
  clear hv
  go_enter Tryd.func80, Tryd.ntmps80
  go_wp2_with fail
  with_reducible refine (rvalid_any _ _ hc).mono ?_
  rintro e w1 ⟨rfl, hb⟩
  have B1 : Below w.heap.size w w1 := (below_alloc (below_alloc (Below.refl _ _) _) _).trans (hb.mono (by simp; omega))
  have k4 := (Blk.new1 w (.cells #[.int .i64 o.k, .int .i64 o.p, .int .u8 o.c, .int .i64 o.l, .int .i64 o.s] 23) #[.int .i64 0, .int .i64 0, .int .u8 0, .int .i64 0, .int .i64 0] 23).on hb
  obtain ⟨z0, z1, z2, z3, z4⟩ := k4.cells5
  have z5 := k4.frozen
  have l4 := k4.lt
  go_wp2
  have j4 := k4.set5 (.int .i64 0) (.int .i64 0) (.int .u8 0) (.int .i64 0) (.int .i64 0)
  obtain ⟨q0, q1, q2, q3, q4⟩ := j4.cells5
  refine bodyPost_ret (v := .tuple #[.agg #[.int .i64 0, .int .i64 0, .int .u8 0, .int .i64 0, .int .i64 0], .int .i64 (validL o)]) (by simp [results, Tryd.results80, go_sem, q0, q1, q2, q3, q4]) rfl ?_
  exact ⟨rfl, below_put5 B1 (by omega) _ _ _ _ _⟩
set_option maxHeartbeats 2000000 in
theorem rlook_ok (o : POp) (w : World) (h : RefAt w p A c B e y f) (hc : 0 ≤ o.c ∧ o.c ≤ 255) (hv : validL o = 0) (hl : y.own.length ≤ 100000) (hl2 : y.far.length ≤ 100000) (hF : y.Fine) :
    Calls Tryd.prog 80 #[.pointer (some ⟨p, 0, none⟩), .agg #[.int .i64 o.k, .int .i64 o.p, .int .u8 o.c, .int .i64 o.l, .int .i64 o.s]] w fun ex w' =>
      ∃ z : POp, Hid ((pastL o ((y.forms f).drop y.d) f).1 = z) ∧ ex = .returned (.tuple #[.agg #[.int .i64 z.k, .int .i64 z.p, .int .u8 z.c, .int .i64 z.l, .int .i64 z.s], .int .i64 0]) ∧ Below w.heap.size w w' := by
  have HV := Lib.hid hv
  clear hv
  go_enter Tryd.func80, Tryd.ntmps80
  go_wp2_with fail
  with_reducible refine (rvalid_any _ _ hc).mono ?_
  rintro e w1 ⟨rfl, hb⟩
  rw [HV.out]
  have B1 : Below w.heap.size w w1 := (below_alloc (below_alloc (Below.refl _ _) _) _).trans (hb.mono (by simp; omega))
  have k3 := ((Blk.new w #[.int .i64 o.k, .int .i64 o.p, .int .u8 o.c, .int .i64 o.l, .int .i64 o.s] 23).alloc (.cells #[.int .i64 0, .int .i64 0, .int .u8 0, .int .i64 0, .int .i64 0] 23)).on hb
  have k4 := (Blk.new1 w (.cells #[.int .i64 o.k, .int .i64 o.p, .int .u8 o.c, .int .i64 o.l, .int .i64 o.s] 23) #[.int .i64 0, .int .i64 0, .int .u8 0, .int .i64 0, .int .i64 0] 23).on hb
  obtain ⟨x0, x1, x2, x3, x4⟩ := k3.cells5
  go_wp2_with fail
  with_reducible refine (rline_any _ _ (h.on B1) hl hl2 hF).mono ?_
  rintro e w2 ⟨g, z, hz, rfl, rg, hg, hb2⟩
  have B2 : Below w.heap.size w w2 := B1.trans (hb2.mono B1.size)
  replace k4 := k4.on hb2
  obtain ⟨z0, z1, z2, z3, z4⟩ := k4.cells5
  have z5 := k4.frozen
  have l4 := k4.lt
  clear x0 x1 x2 x3 x4
  go_wp2
  have j4 := (k4.set5 (.int .i64 z.k) (.int .i64 z.p) (.int .u8 z.c) (.int .i64 z.l) (.int .i64 z.s)).alloc (.cells #[.int .i64 z.k, .int .i64 z.p, .int .u8 z.c, .int .i64 z.l, .int .i64 z.s] 23)
  obtain ⟨q0, q1, q2, q3, q4⟩ := j4.cells5
  refine bodyPost_ret (v := .tuple #[.agg #[.int .i64 z.k, .int .i64 z.p, .int .u8 z.c, .int .i64 z.l, .int .i64 z.s], .int .i64 0]) (by simp [results, Tryd.results80, go_sem, q0, q1, q2, q3, q4]) rfl ?_
  exact ⟨z, hz, rfl, below_alloc (below_put5 B2 (by omega) _ _ _ _ _) _⟩
set_option maxHeartbeats 2000000 in
theorem rcross_bad (o : POp) (w : World) (hc : 0 ≤ o.c ∧ o.c ≤ 255) (hv : validL o ≠ 0) :
    Calls Tryd.prog 79 #[.pointer (some ⟨p, 0, none⟩), .agg #[.int .i64 o.k, .int .i64 o.p, .int .u8 o.c, .int .i64 o.l, .int .i64 o.s]] w fun ex w' =>
      ex = .returned (.tuple #[.agg #[.int .i64 0, .int .i64 0, .int .u8 0, .int .i64 0, .int .i64 0], .int .i64 (validL o)]) ∧ Below w.heap.size w w' := by
  have hq : (validL o == 0) = false := by simpa using hv
  have HV := Lib.hid hv
  clear hv
  go_enter Tryd.func79, Tryd.ntmps79
  go_wp2_with fail
  with_reducible refine (rlook_bad _ _ hc HV.out).mono ?_
  rintro e w1 ⟨rfl, hb⟩
  have B1 : Below w.heap.size w w1 := (below_alloc (below_alloc (Below.refl _ _) _) _).trans (hb.mono (by simp; omega))
  have k4 := (Blk.new1 w (.cells #[.int .i64 o.k, .int .i64 o.p, .int .u8 o.c, .int .i64 o.l, .int .i64 o.s] 23) #[.int .i64 0, .int .i64 0, .int .u8 0, .int .i64 0, .int .i64 0] 23).on hb
  obtain ⟨z0, z1, z2, z3, z4⟩ := k4.cells5
  have z5 := k4.frozen
  have l4 := k4.lt
  go_wp2
  have j4 := (k4.set5 (.int .i64 0) (.int .i64 0) (.int .u8 0) (.int .i64 0) (.int .i64 0)).alloc (.cells #[.int .i64 0, .int .i64 0, .int .u8 0, .int .i64 0, .int .i64 0] 23)
  obtain ⟨q0, q1, q2, q3, q4⟩ := j4.cells5
  refine bodyPost_ret (v := .tuple #[.agg #[.int .i64 0, .int .i64 0, .int .u8 0, .int .i64 0, .int .i64 0], .int .i64 (validL o)]) (by simp [results, Tryd.results79, go_sem, q0, q1, q2, q3, q4]) rfl ?_
  exact ⟨rfl, below_alloc (below_put5 B1 (by omega) _ _ _ _ _) _⟩
set_option maxHeartbeats 400000 in
theorem rcross_ok (o : POp) (w : World) (h : RefAt w p A c B e y f) (hc : 0 ≤ o.c ∧ o.c ≤ 255) (hv : validL o = 0) (hl : y.own.length ≤ 100000) (hl2 : y.far.length ≤ 100000) (hF : y.Fine) :
    Calls Tryd.prog 79 #[.pointer (some ⟨p, 0, none⟩), .agg #[.int .i64 o.k, .int .i64 o.p, .int .u8 o.c, .int .i64 o.l, .int .i64 o.s]] w fun ex w' =>
      ∃ z : POp, Hid ((pastL o ((y.forms f).drop y.d) f).1 = z) ∧ ex = .returned (.tuple #[.agg #[.int .i64 z.k, .int .i64 z.p, .int .u8 z.c, .int .i64 z.l, .int .i64 z.s], .int .i64 0]) ∧
        ∃ B' e', RefAt w' p A c B' e' ⟨y.own, y.far ++ [⟨y.d, y.own.length, o⟩], y.d⟩ f ∧ But (refB p A B) w w' ∧ ∀ b ∈ own B', b ∈ own B ∨ w.heap.size ≤ b := by
  have HV := Lib.hid hv
  have HF := Lib.hid hF
  clear hv hF
  have B0 : Below w.heap.size w ((w.alloc (.cells #[.int .i64 o.k, .int .i64 o.p, .int .u8 o.c, .int .i64 o.l, .int .i64 o.s] 23)).alloc (.cells #[.int .i64 0, .int .i64 0, .int .u8 0, .int .i64 0, .int .i64 0] 23)) := below_alloc (below_alloc (Below.refl _ _) _) _
  go_enter Tryd.func79, Tryd.ntmps79
  go_wp2_with fail
  with_reducible refine (rlook_ok _ _ (h.on B0) hc HV.out hl hl2 HF.out).mono ?_
  rintro ex w1 ⟨z, hz, rfl, hb⟩
  have B1 : Below w.heap.size w w1 := B0.trans (hb.mono (by simp; omega))
  have k3 := (((Blk.new w #[.int .i64 o.k, .int .i64 o.p, .int .u8 o.c, .int .i64 o.l, .int .i64 o.s] 23).alloc (.cells #[.int .i64 0, .int .i64 0, .int .u8 0, .int .i64 0, .int .i64 0] 23)).on hb).alloc (.cells #[.int .i64 z.k, .int .i64 z.p, .int .u8 z.c, .int .i64 z.l, .int .i64 z.s] 23)
  have k4 := ((Blk.new1 w (.cells #[.int .i64 o.k, .int .i64 o.p, .int .u8 o.c, .int .i64 o.l, .int .i64 o.s] 23) #[.int .i64 0, .int .i64 0, .int .u8 0, .int .i64 0, .int .i64 0] 23).on hb).alloc (.cells #[.int .i64 z.k, .int .i64 z.p, .int .u8 z.c, .int .i64 z.l, .int .i64 z.s] 23)
  have k6 := Blk.new w1 #[.int .i64 z.k, .int .i64 z.p, .int .u8 z.c, .int .i64 z.l, .int .i64 z.s] 23
  have B2 := below_alloc B1 (.cells #[.int .i64 z.k, .int .i64 z.p, .int .u8 z.c, .int .i64 z.l, .int .i64 z.s] 23)
  have hS := h.on B2
  have l6 := B1.size
  clear hb B0
  go_wp2_with fail
  generalize w1.alloc (.cells #[.int .i64 z.k, .int .i64 z.p, .int .u8 z.c, .int .i64 z.l, .int .i64 z.s] 23) = w2 at k3 k4 k6 B2 hS ⊢
  obtain ⟨e0, e1, e2, e3, lt⟩ := hS.blk.four
  obtain ⟨x0, x1, x2, x3, x4⟩ := k3.cells5
  have kp := hS.blk
  have zp := hS.blk.frozen
  have hpx : p < w.heap.size := h.blk.lt
  have hne : ∀ (n c : Nat), some p ≠ (Value.slice B n c).ownBlock := fun n c e => h.nf (by rw [own_block e.symm]; simp)
  have hne3 : ∀ (n c : Nat), some w.heap.size ≠ (Value.slice B n c).ownBlock := fun n c e => by have := h.lt w.heap.size (by rw [refB, own_block e.symm]; simp); omega
  have hne4 : ∀ (n c : Nat), some (w.heap.size + 1) ≠ (Value.slice B n c).ownBlock := fun n c e => by have := h.lt (w.heap.size + 1) (by rw [refB, own_block e.symm]; simp); omega
  have hne6 : ∀ (n c : Nat), some w1.heap.size ≠ (Value.slice B n c).ownBlock := fun n c e => by have := h.lt w1.heap.size (by rw [refB, own_block e.symm]; simp); omega
  have hwp : w.heap.size ≠ p := by omega
  have W1 := ((below_alloc (Below.refl w2.heap.size w2) (.cells (farF.cells ⟨y.d, y.own.length, o⟩).toArray 149)).drew)
  have hcc : ∀ w', Below w2.drew.heap.size w2.drew w' → w'.cell? ⟨p, 1, none⟩ = some (.slice A y.own.length c) ∧ w'.cell? ⟨p, 2, none⟩ = some (.slice B y.far.length e) ∧ w'.cell? ⟨p, 3, none⟩ = some (.int .i64 y.d) ∧ (w'.cell? ⟨w.heap.size, 0, none⟩ = some (.int .i64 o.k) ∧ w'.cell? ⟨w.heap.size, 1, none⟩ = some (.int .i64 o.p) ∧ w'.cell? ⟨w.heap.size, 2, none⟩ = some (.int .u8 o.c) ∧ w'.cell? ⟨w.heap.size, 3, none⟩ = some (.int .i64 o.l) ∧ w'.cell? ⟨w.heap.size, 4, none⟩ = some (.int .i64 o.s)) := fun w' hb =>
    ⟨(kp.drew.on hb).cell 1, (kp.drew.on hb).cell 2, (kp.drew.on hb).cell 3, (k3.drew.on hb).cells5⟩
  have HC := Lib.hid hcc
  clear hcc
  refine wp_region_plan [0] [0, 1, 2, 3, 4, 5, 6, 7, 8, 9, 10, 11, 12, 13, 14, 15] [16] [17, 18, 19, 20] (by kernel_rfl) (by kernel_rfl) (fun _ _ _ _ _ h => h) ?_
  refine take_any _ ?_ rfl (fun w' => .inl ⟨by rfl, .inl ?_⟩) ?_
  rotate_left
  · go_simp
    with_reducible rfl
  simp only [Act.put, List.setIfInBounds_toArray, List.set_cons_zero, List.set_cons_succ]
  iterate 15
    refine take_step _ ?_ rfl rfl (fun w' hb => .inl ⟨by rfl, .inl ?_⟩) ?_
    rotate_left
    · have hq := HC.out w' hb
      obtain ⟨m1, m2, m3, m4, m5, m6, m7, m8⟩ := hq
      go_simp
      with_reducible rfl
    simp only [Act.put, List.setIfInBounds_toArray, List.set_cons_zero, List.set_cons_succ]
  refine grow_step _ rfl (fun K hK => ?_)
  go_simp
  refine hK _ _ (below_alloc (Below.refl _ _) _) ?_
  clear hK K
  refine tail_of [_, _, _, _] rfl ?_
  simp only [List.getElem_toArray, List.getElem_cons_succ, List.getElem_cons_zero]
  have hq4 : w.heap.size + 1 ≠ p := by omega
  have hq6 : w1.heap.size ≠ p := by omega
  clear e0 e1 e2 e3 x0 x1 x2 x3 x4
  go_wp2_with (first
    | (at_builtin; refine ev_appS El.far (by decide) (by decide) _ rfl _ _ 133 rfl Tryd.underlying133 0 (.slice B y.far.length e) y.far [⟨y.d, y.own.length, o⟩] (some ⟨w2.heap.size, 0, none⟩) 1 1 rfl rfl rfl (OwnV.drew (hS.fa.alloc _)) (Rd.drew (Blk.rdFar (Blk.new w2 _ _))) (by simp; omega) (Nat.zero_le _) ?_; intro v' w3 hO3 hg3 hv3; obtain ⟨B', e', hv', hR⟩ := hO3.rd; subst hv'; (have kp2 := ((kp.alloc (.cells (farF.cells ⟨y.d, y.own.length, o⟩).toArray 149)).drew).grown hg3 (hne _ _)); (have k42 := ((k4.alloc (.cells (farF.cells ⟨y.d, y.own.length, o⟩).toArray 149)).drew).grown hg3 (hne4 _ _)); (have k62 := ((k6.alloc (.cells (farF.cells ⟨y.d, y.own.length, o⟩).toArray 149)).drew).grown hg3 (hne6 _ _)); obtain ⟨y0, y1, y2, y3, lty⟩ := kp2.four; have zp2 := kp2.frozen; obtain ⟨q0, q1, q2, q3, q4⟩ := k62.cells5; obtain ⟨r0, r1, r2, r3, r4⟩ := k42.cells5; have r5 := k42.frozen))
  have hlen : (y.far ++ [(⟨y.d, y.own.length, o⟩ : PFar)]).length = y.far.length + 1 := by simp
  rw [hlen] at hO3 hv3
  have l4 := k4.lt
  have l62 : w1.heap.size < w2.heap.size := k6.lt
  have hown : ∀ b ∈ own B', b ∈ own B ∨ w2.heap.size ≤ b := fun b hb => by
    have h1 := own_mem (n := y.far.length + 1) (c := e') hb
    rcases hv3 with h2 | h2
    · exact .inl (by rw [h1] at h2; rw [own_block h2.symm]; simp)
    · refine .inr ?_
      rw [h1] at h2
      have h3 := Option.some.inj h2
      have h5 := W1.size
      rw [h3]
      exact h5
  have b2 : But (refB p A B) w w3 := ((But.ofBelow (B2.trans (W1.mono B2.size))).trans (But.ofGrown (bs := own B) hg3 (fun k e => .inl (by rw [own_block e]; simp))) (fun b hb => .inl (by simp [refB, hb])))
  have hpn : p ∉ own B' := fun hm => by
    rcases hown p hm with h1 | h1
    · exact h.nf h1
    · omega
  have hnA : ∀ b ∈ own A, b ∉ own B' := fun b hb hB => by
    rcases hown b hB with h1 | h1
    · exact h.na b hb h1
    · have := (h.ow.lt b (own_mem hb)).2; omega
  have hqn : w.heap.size + 1 ∉ own B' := fun hm => by
    rcases hown _ hm with h1 | h1
    · have := (h.fa.lt _ (own_mem h1)).2; omega
    · omega
  have hqA : w.heap.size + 1 ∉ own A := fun hm => by have := (h.ow.lt _ (own_mem hm)).2; omega
  have how3 : OwnV mkF 139 0 w3 (.slice A y.own.length c) y.own := ((OwnV.drew (hS.ow.alloc (.cells (farF.cells ⟨y.d, y.own.length, o⟩).toArray 149)))).but (But.ofGrown (bs := own B) hg3 (fun k e => .inl (by rw [own_block e]; simp))) (fun g hg hB => h.na g (by rw [own_block hg]; simp) hB)
  have j4 := k42.setOther (a := ⟨p, 2, none⟩) hq4 (.slice B' (y.far.length + 1) e')
  have j6 := k62.setOther (a := ⟨p, 2, none⟩) hq6 (.slice B' (y.far.length + 1) e')
  have jp : Blk (w3.setCell ⟨p, 2, none⟩ (.slice B' (y.far.length + 1) e')) p #[.bool f, .slice A y.own.length c, .slice B' (y.far.length + 1) e', .int .i64 y.d] 135 := by simpa using kp2.set 2 (.slice B' (y.far.length + 1) e')
  have jo : OwnV mkF 139 0 (w3.setCell ⟨p, 2, none⟩ (.slice B' (y.far.length + 1) e')) (.slice A y.own.length c) y.own := how3.but (But.setCell _ p 2 _ (bs := [p]) (by simp)) (fun g hg => by have := h.ne; rw [own_block hg] at this; simp at this; simp; omega)
  have jf : OwnV farF 149 0 (w3.setCell ⟨p, 2, none⟩ (.slice B' (y.far.length + 1) e')) (.slice B' (y.far.length + 1) e') (y.far ++ [⟨y.d, y.own.length, o⟩]) := hO3.but (But.setCell _ p 2 _ (bs := [p]) (by simp)) (fun g hg => by have := hpn; rw [own_block hg] at this; simp at this; simp; omega)
  have jb : But (refB p A B) w (w3.setCell ⟨p, 2, none⟩ (.slice B' (y.far.length + 1) e')) := b2.trans (But.setCell _ p 2 _ (bs := [p]) (by simp)) (by simp [refB])
  generalize w3.setCell ⟨p, 2, none⟩ (.slice B' (y.far.length + 1) e') = w4 at *
  have i4 := j4.set5 (.int .i64 z.k) (.int .i64 z.p) (.int .u8 z.c) (.int .i64 z.l) (.int .i64 z.s)
  obtain ⟨t0, t1, t2, t3, t4⟩ := i4.cells5
  refine bodyPost_ret (v := .tuple #[.agg #[.int .i64 z.k, .int .i64 z.p, .int .u8 z.c, .int .i64 z.l, .int .i64 z.s], .int .i64 0]) (by simp [results, Tryd.results79, go_sem, t0, t1, t2, t3, t4]) rfl ?_
  have hB5 : But [w.heap.size + 1] w4 (put5 w4 (w.heap.size + 1) (.int .i64 z.k) (.int .i64 z.p) (.int .u8 z.c) (.int .i64 z.l) (.int .i64 z.s)) := But.ofGrown (grown_put5 w4 (w.heap.size + 1) _ _ _ _ _) (fun k e => .inl (by simp at e; simp; omega))
  refine ⟨z, hz, rfl, B', e', ⟨?_, jo.but hB5 (fun g hg hm => hqA (by rw [← List.mem_singleton.1 hm, own_block hg]; simp)), ?_, h.ne, hpn, hnA⟩, jb.trans hB5 (fun b hb => .inr (by simp at hb; omega)), fun b hb => ?_⟩
  · rw [hlen]
    exact jp.other5 (by omega) _ _ _ _ _
  · rw [hlen]
    exact jf.but hB5 (fun g hg hm => hqn (by rw [← List.mem_singleton.1 hm, own_block hg]; simp))
  · rcases hown b hb with h1 | h1
    · exact .inl h1
    · exact .inr (by have := B2.size; omega)
end
end Go.Proofs.YtkicbnkacjnhoaaDoor
