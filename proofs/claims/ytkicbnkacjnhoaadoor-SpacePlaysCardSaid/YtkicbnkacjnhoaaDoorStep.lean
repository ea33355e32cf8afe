/- The walk of jotterlaw10.step: it answers true, and both spaces go on as one. -/
import Derived.Test.YtkicbnkacjnhoaaDoorRefAll
import Derived.StillTailTactics
namespace Go.Proofs.YtkicbnkacjnhoaaDoor
open Go.RowKit
set_option linter.unusedVariables false
set_option linter.unusedSimpArgs false

theorem Blk.eight8 {w : World} {b : Nat} {t : TypeId} {v0 v1 v2 v3 v4 v5 v6 v7 : Value} (h : Blk w b #[v0, v1, v2, v3, v4, v5, v6, v7] t) :
    w.cell? ⟨b, 0, none⟩ = some v0 ∧ w.cell? ⟨b, 1, none⟩ = some v1 ∧ w.cell? ⟨b, 2, none⟩ = some v2 ∧ w.cell? ⟨b, 3, none⟩ = some v3 ∧ w.cell? ⟨b, 4, none⟩ = some v4 ∧ w.cell? ⟨b, 5, none⟩ = some v5 ∧ w.cell? ⟨b, 6, none⟩ = some v6 ∧ w.cell? ⟨b, 7, none⟩ = some v7 :=
  ⟨h.cell 0, h.cell 1, h.cell 2, h.cell 3, h.cell 4, h.cell 5, h.cell 6, h.cell 7⟩
theorem But.in_ {bs bs' : List Nat} {w w' : World} (h : But bs w w') (hb : ∀ b ∈ bs, b ∈ bs') : But bs' w w' := h.mono hb
/-- The end of a step in which both change. -/
theorem stp_mk {w w0 w1 w2 w3 : World} {p p2 : Nat} {y y' : PRef} {f : Bool} {bs : List Nat} {A A1 A2 B2 : Option Addr} {c1 : Nat}
    (b0 : Below w.heap.size w w0) (b1 : But (p :: own A) w0 w1) (h1 : SpAt w1 p A1 c1 (y'.queue f) (lastM y'.own) f) (f1 : ∀ b ∈ own A1, b ∈ own A ∨ w0.heap.size ≤ b)
    (b12 : Below w1.heap.size w1 w2) (h2 : RefTo w2 w3 p2 A2 B2 y' f) (hF : y'.Fine) (dj : ∀ b ∈ p :: own A, b ∉ refB p2 A2 B2) (i1 : ∀ b ∈ p :: own A, b ∈ bs) (i2 : ∀ b ∈ refB p2 A2 B2, b ∈ bs)
    (l0 : ∀ b ∈ refB p2 A2 B2, b < w.heap.size) (lp : ∀ b ∈ p :: own A, b < w.heap.size) (hl1 : y'.own.length ≤ y.own.length + 1) (hl2 : y'.far.length ≤ y.far.length + 1) : ∃ bs', Stp w w3 p p2 y y' f bs bs' := by
  obtain ⟨A', c', B', e', hR, hr⟩ := h2.out
  have s0 := b0.size
  have s1 := b1.size
  have s2 := b12.size
  have s3 := h2.but.size
  have hw : But bs w w3 := (((But.ofBelow b0).trans (b1.in_ i1) (fun b hb => .inl hb)).trans (But.ofBelow (bs := []) b12) (by simp)).trans (h2.but.in_ i2) (fun b hb => .inl hb)
  have q1 : SpAt w3 p A1 c1 (y'.queue f) (lastM y'.own) f := (h1.on b12).but h2.but (fun b hb => by
    have hx : b ∈ p :: own A ∨ w0.heap.size ≤ b := by
      rcases List.mem_cons.1 hb with rfl | hb
      · exact .inl (by simp)
      · rcases f1 b hb with h | h
        · exact .inl (by simp [h])
        · exact .inr h
    rcases hx with hx | hx
    · exact dj b hx
    · intro hm
      have := l0 b hm
      omega)
  refine ⟨(p :: own A1) ++ refB p2 A' B', ⟨⟨A1, c1, A', c', B', e', q1, hR, hF, fun b hb hm => ?_, fun b hb => List.mem_append_left _ hb, fun b hb => List.mem_append_right _ hb, fun b hb => ?_⟩, hw, fun b hb => ?_, hl1, hl2⟩⟩
  · have hbl := h1.lt b hb
    rcases hr b hm with h | h
    · rcases List.mem_cons.1 hb with rfl | hb
      · exact dj _ (by simp) h
      · rcases f1 b hb with h3 | h3
        · exact dj b (by simp [h3]) h
        · have := l0 b h; omega
    · omega
  · rcases List.mem_append.1 hb with hb | hb
    · exact q1.lt b hb
    · exact hR.lt b hb
  · rcases List.mem_append.1 hb with hb | hb
    · rcases List.mem_cons.1 hb with rfl | hb
      · exact .inl (i1 _ (by simp))
      · rcases f1 b hb with h | h
        · exact .inl (i1 b (by simp [h]))
        · exact .inr (by omega)
    · rcases hr b hb with h | h
      · exact .inl (i2 b h)
      · exact .inr (by omega)
theorem stp_same {w w' : World} {p p2 : Nat} {y : PRef} {f : Bool} {bs : List Nat} (h : Pr w p p2 y f bs) (hb : Below w.heap.size w w') : ∃ bs', Stp w w' p p2 y y f bs bs' :=
  ⟨bs, h.on hb, But.ofBelow hb, fun b hb => .inl hb, by omega, by omega⟩

section
variable {p p2 : Nat} {y : PRef} {f : Bool} {bs : List Nat}
set_option maxHeartbeats 4000000 in
set_option maxRecDepth 100000 in
theorem step_1 (b : Bool) (m : Int) (o : POp) (w : World) (hr : RulesAt w) (h : Pr w p p2 y f bs) (hc : 0 ≤ o.c ∧ o.c ≤ 255) (hl : y.own.length ≤ 1000) (hl2 : y.far.length ≤ 1000) :
    Calls Tryd.prog 59 #[.pointer (some ⟨p, 0, none⟩), .pointer (some ⟨p2, 0, none⟩), .agg #[.int .i64 1, .bool b, .int .i64 m, .int .i64 o.k, .int .i64 o.p, .int .u8 o.c, .int .i64 o.l, .int .i64 o.s]] w fun e w' => e = .returned (.bool true) ∧ ∃ y' bs', Stp w w' p p2 y y' f bs bs' := by
  have h0 := h
  obtain ⟨A, c, A2, c2, B2, e2, hS, hR, hF, dj, i1, i2, ib⟩ := h
  have HF := Lib.hid hF
  have hql : Hid ((y.queue f).length ≤ y.own.length) := Lib.hid (by simp [PRef.queue, withOps_len _ _ (PRef.forms_length hF)])
  have ba := below_alloc (Below.refl w.heap.size w) (.cells #[.int .i64 1, .bool b, .int .i64 m, .int .i64 o.k, .int .i64 o.p, .int .u8 o.c, .int .i64 o.l, .int .i64 o.s] 94)
  have kS := Blk.new w #[.int .i64 1, .bool b, .int .i64 m, .int .i64 o.k, .int .i64 o.p, .int .u8 o.c, .int .i64 o.l, .int .i64 o.s] 94
  have hSa := hS.on ba
  have hRa := hR.on ba
  have l0 := hR.lt
  have lp := hS.lt
  have DJ := Lib.hid dj
  have I1 := Lib.hid i1
  have I2 := Lib.hid i2
  have L0 := Lib.hid l0
  have LP := Lib.hid lp
  have lw : w.heap.size < (w.alloc (.cells #[.int .i64 1, .bool b, .int .i64 m, .int .i64 o.k, .int .i64 o.p, .int .u8 o.c, .int .i64 o.l, .int .i64 o.s] 94)).heap.size := by simp
  obtain ⟨s0, s1, s2, s3, s4, s5, s6, s7⟩ := kS.eight8
  clear hF dj i1 i2 l0 lp ib
  go_enter Tryd.func59, Tryd.ntmps59
  go_wp2_with fail
  generalize w.alloc (.cells #[.int .i64 1, .bool b, .int .i64 m, .int .i64 o.k, .int .i64 o.p, .int .u8 o.c, .int .i64 o.l, .int .i64 o.s] 94) = w0 at *
  go_still_tail 7, (by kernel_rfl)
  change wpList _ _ _ _ _ (World.drew _)
  go_wp2_with fail
  with_reducible refine (keep_all _ o _ (SpAt.drew hSa) hc (by have := hql.out; omega)).mono ?_
  rintro e w1 ⟨A1, c1, q1, last1, rfl, h1, b1, f1, hE⟩
  have hRd : RefAt _ p2 A2 c2 B2 e2 y f := (hRa.on (Below.refl _ _).drew)
  have hR1 := hRd.but b1 (fun b hb hm => DJ.out b hm hb)
  have k1 := kS.drew.but b1 (fun hm => by have := LP.out _ hm; omega)
  obtain ⟨t0, t1, t2, t3, t4, t5, t6, t7⟩ := k1.eight8
  have FM := Lib.hid f1.out
  clear s0 s1 s2 s3 s4 s5 s6 s7
  go_wp2_with fail
  with_reducible refine (rkeep_all _ o _ hR1 hc (by omega)).mono ?_
  rintro e w3 ⟨y', rfl, hR3, hE2⟩
  have hy : Hid (y'.Fine ∧ q1 = y'.queue f ∧ last1 = lastM y'.own ∧ y'.own.length ≤ y.own.length + 1 ∧ y'.far.length ≤ y.far.length + 1) := Lib.hid (by
    rcases hE.out with ⟨g0, g1, g2⟩ | ⟨g0, _, _, g1, g2⟩ <;> rcases hE2.out with ⟨j0, j1⟩ | ⟨j0, j1⟩
    · rw [j1]; exact ⟨HF.out, g1, g2, by omega, by omega⟩
    · exact absurd j0 g0
    · exact absurd g0 j0
    · have := PRef.keep (f := f) HF.out ⟨m, o⟩
      rw [j1]
      exact ⟨this.1, by rw [g1, this.2], by rw [g2, lastM_snoc], by simp, by simp⟩)
  clear hE hE2
  go_wp2
  go_ret
  obtain ⟨y1, y2, y3, y4, y5⟩ := hy.out
  subst y2 y3
  refine ⟨ret_bool (by simp), y', stp_mk (ba.drew) b1 h1 FM.out (Below.refl _ _) hR3 y1 DJ.out I1.out I2.out L0.out LP.out y4 y5⟩
set_option maxHeartbeats 4000000 in
set_option maxRecDepth 100000 in
theorem step_2 (b : Bool) (m : Int) (o : POp) (w : World) (hr : RulesAt w) (h : Pr w p p2 y f bs) (hc : 0 ≤ o.c ∧ o.c ≤ 255) (hl : y.own.length ≤ 1000) (hl2 : y.far.length ≤ 1000) :
    Calls Tryd.prog 59 #[.pointer (some ⟨p, 0, none⟩), .pointer (some ⟨p2, 0, none⟩), .agg #[.int .i64 2, .bool b, .int .i64 m, .int .i64 o.k, .int .i64 o.p, .int .u8 o.c, .int .i64 o.l, .int .i64 o.s]] w fun e w' => e = .returned (.bool true) ∧ ∃ y' bs', Stp w w' p p2 y y' f bs bs' := by
  have h0 := h
  obtain ⟨A, c, A2, c2, B2, e2, hS, hR, hF, dj, i1, i2, ib⟩ := h
  have HF := Lib.hid hF
  have hql : Hid ((y.queue f).length ≤ y.own.length) := Lib.hid (by simp [PRef.queue, withOps_len _ _ (PRef.forms_length hF)])
  have ba := below_alloc (Below.refl w.heap.size w) (.cells #[.int .i64 2, .bool b, .int .i64 m, .int .i64 o.k, .int .i64 o.p, .int .u8 o.c, .int .i64 o.l, .int .i64 o.s] 94)
  have kS := Blk.new w #[.int .i64 2, .bool b, .int .i64 m, .int .i64 o.k, .int .i64 o.p, .int .u8 o.c, .int .i64 o.l, .int .i64 o.s] 94
  have hSa := hS.on ba
  have hRa := hR.on ba
  have l0 := hR.lt
  have lp := hS.lt
  have DJ := Lib.hid dj
  have I1 := Lib.hid i1
  have I2 := Lib.hid i2
  have L0 := Lib.hid l0
  have LP := Lib.hid lp
  have lw : w.heap.size < (w.alloc (.cells #[.int .i64 2, .bool b, .int .i64 m, .int .i64 o.k, .int .i64 o.p, .int .u8 o.c, .int .i64 o.l, .int .i64 o.s] 94)).heap.size := by simp
  obtain ⟨s0, s1, s2, s3, s4, s5, s6, s7⟩ := kS.eight8
  clear hF dj i1 i2 l0 lp ib
  go_enter Tryd.func59, Tryd.ntmps59
  go_wp2_with fail
  generalize w.alloc (.cells #[.int .i64 2, .bool b, .int .i64 m, .int .i64 o.k, .int .i64 o.p, .int .u8 o.c, .int .i64 o.l, .int .i64 o.s] 94) = w0 at *
  go_still_tail 5, (by kernel_rfl)
  change wpList _ _ _ _ _ (World.drew _)
  go_wp2_with fail
  with_reducible refine (drop_any _ _ (SpAt.drew hSa) (by have := hql.out; omega)).mono ?_
  rintro e w1 ⟨n1, A1, c1, rfl, hn1, h1, b1, f1⟩
  have hRd : RefAt _ p2 A2 c2 B2 e2 y f := (hRa.on (Below.refl _ _).drew)
  have hR1 := hRd.but b1 (fun b hb hm => DJ.out b (by rw [List.mem_singleton.1 hm]; simp) hb)
  have k1 := kS.drew.but b1 (fun hm => by have := LP.out _ (List.mem_cons.2 (.inl (List.mem_singleton.1 hm))); omega)
  obtain ⟨t0, t1, t2, t3, t4, t5, t6, t7⟩ := k1.eight8
  have FM := Lib.hid f1
  clear s0 s1 s2 s3 s4 s5 s6 s7 f1
  go_wp2_with fail
  have hdl : y.d ≤ y.own.length := HF.out.1
  with_reducible refine (rdrop_any _ _ hR1 (by omega) hdl).mono ?_
  rintro e w3 ⟨n2, rfl, hn2, hR3, b3⟩
  have hnn : n1 = n2 := by
    have e1 := hn1.out
    have e2 := hn2.out
    rw [← PRef.marks HF.out] at e2
    have e3 := dropQ_N m (y.queue f)
    rw [e1.2, ← e2] at e3
    have e4 := congrArg List.length e3
    simp only [List.length_drop] at e4
    have e5 := dropN_le m (y.queue f)
    rw [← e2] at e5
    omega
  subst hnn
  have hd := PRef.drop (f := f) HF.out n1 hn1.out.1
  have HD := Lib.hid hd
  clear hn1 hn2 hd
  go_wp2
  go_ret
  have h1' : SpAt w1 p A1 c1 (PRef.queue f ⟨y.own, y.far, y.d + n1⟩) (lastM y.own) f := by rw [HD.out.2]; exact h1
  refine ⟨ret_bool (by simp), ⟨y.own, y.far, y.d + n1⟩, stp_mk (ba.drew) (b1.in_ (by simp)) h1' (fun b hb => .inr (FM.out b hb)) (Below.refl _ _) ⟨⟨A2, c2, B2, e2, hR3, fun b hb => .inl hb⟩, b3.in_ (by simp)⟩ HD.out.1 DJ.out I1.out I2.out L0.out LP.out (by simp) (by simp)⟩
set_option maxHeartbeats 4000000 in
set_option maxRecDepth 100000 in
theorem step_3 (b : Bool) (m : Int) (o : POp) (w : World) (hr : RulesAt w) (h : Pr w p p2 y f bs) (hc : 0 ≤ o.c ∧ o.c ≤ 255) (hl : y.own.length ≤ 1000) (hl2 : y.far.length ≤ 1000) :
    Calls Tryd.prog 59 #[.pointer (some ⟨p, 0, none⟩), .pointer (some ⟨p2, 0, none⟩), .agg #[.int .i64 3, .bool b, .int .i64 m, .int .i64 o.k, .int .i64 o.p, .int .u8 o.c, .int .i64 o.l, .int .i64 o.s]] w fun e w' => e = .returned (.bool true) ∧ ∃ y' bs', Stp w w' p p2 y y' f bs bs' := by
  have h0 := h
  obtain ⟨A, c, A2, c2, B2, e2, hS, hR, hF, dj, i1, i2, ib⟩ := h
  have HF := Lib.hid hF
  have hql : Hid ((y.queue f).length ≤ y.own.length) := Lib.hid (by simp [PRef.queue, withOps_len _ _ (PRef.forms_length hF)])
  have ba := below_alloc (Below.refl w.heap.size w) (.cells #[.int .i64 3, .bool b, .int .i64 m, .int .i64 o.k, .int .i64 o.p, .int .u8 o.c, .int .i64 o.l, .int .i64 o.s] 94)
  have kS := Blk.new w #[.int .i64 3, .bool b, .int .i64 m, .int .i64 o.k, .int .i64 o.p, .int .u8 o.c, .int .i64 o.l, .int .i64 o.s] 94
  have hSa := hS.on ba
  have hRa := hR.on ba
  have l0 := hR.lt
  have lp := hS.lt
  have DJ := Lib.hid dj
  have I1 := Lib.hid i1
  have I2 := Lib.hid i2
  have L0 := Lib.hid l0
  have LP := Lib.hid lp
  have lw : w.heap.size < (w.alloc (.cells #[.int .i64 3, .bool b, .int .i64 m, .int .i64 o.k, .int .i64 o.p, .int .u8 o.c, .int .i64 o.l, .int .i64 o.s] 94)).heap.size := by simp
  obtain ⟨s0, s1, s2, s3, s4, s5, s6, s7⟩ := kS.eight8
  clear hF dj i1 i2 l0 lp ib
  go_enter Tryd.func59, Tryd.ntmps59
  go_wp2_with fail
  with_reducible refine (cross_all o _ (hr.on ba) hSa hc (by have := hql.out; omega)).mono ?_
  rintro e w1 ⟨z, q1, rfl, h1, b1, hE⟩
  have hR1 := hRa.but b1 (fun b hb hm => DJ.out b (List.mem_cons_of_mem _ hm) hb)
  have k1 := kS.but b1 (fun hm => by have := LP.out _ (List.mem_cons_of_mem _ hm); omega)
  have k9 := Blk.new w1 #[.int .i64 z.k, .int .i64 z.p, .int .u8 z.c, .int .i64 z.l, .int .i64 z.s] 23
  have b12 := below_alloc (Below.refl w1.heap.size w1) (.cells #[.int .i64 z.k, .int .i64 z.p, .int .u8 z.c, .int .i64 z.l, .int .i64 z.s] 23)
  have hR2 := hR1.on b12
  have k2 := k1.on b12
  obtain ⟨t0, t1, t2, t3, t4, t5, t6, t7⟩ := k2.eight8
  clear s0 s1 s2 s3 s4 s5 s6 s7
  go_wp2_with fail
  with_reducible refine (rcross_all o _ hR2 hc (by omega) (by omega) HF.out).mono ?_
  rintro e w3 ⟨z', y', rfl, hR3, hE2⟩
  have hzz : z = z' := by
    rw [hE.out.1, hE2.out.1, PRef.ops HF.out]
  subst hzz
  have hy : Hid (y'.Fine ∧ q1 = y'.queue f ∧ lastM y.own = lastM y'.own ∧ y'.own.length ≤ y.own.length + 1 ∧ y'.far.length ≤ y.far.length + 1) := Lib.hid (by
    rw [hE.out.2, hE2.out.2]
    split
    · have := PRef.cross (f := f) HF.out o
      exact ⟨this.1, this.2.symm, rfl, by simp, by simp⟩
    · exact ⟨HF.out, rfl, rfl, by omega, by omega⟩)
  have k93 := k9.but hR3.but (fun hm => by have := L0.out _ hm; have := b1.size; have := ba.size; omega)
  clear hE hE2 t0 t1 t2 t3 t4 t5 t6 t7
  have k11 := Blk.new w3 #[.int .i64 z.k, .int .i64 z.p, .int .u8 z.c, .int .i64 z.l, .int .i64 z.s] 23
  have b34 := below_alloc (Below.refl w3.heap.size w3) (.cells #[.int .i64 z.k, .int .i64 z.p, .int .u8 z.c, .int .i64 z.l, .int .i64 z.s] 23)
  obtain ⟨r0, r1, r2, r3, r4⟩ := (k93.on b34).cells5
  go_wp2_with fail
  with_reducible refine (one_yes _ _).mono ?_
  rintro e w5 ⟨rfl, b5⟩
  go_wp2
  go_ret
  obtain ⟨y1, y2, y3, y4, y5⟩ := hy.out
  rw [y2, y3] at h1
  obtain ⟨bs', hs⟩ := stp_mk (y := y) ba (b1.in_ (bs' := p :: own A) (fun b hb => List.mem_cons_of_mem _ hb)) h1 (fun b hb => .inl hb) b12 hR3 y1 DJ.out I1.out I2.out L0.out LP.out y4 y5
  have hb5 := b34.trans (b5.mono b34.size)
  exact ⟨rfl, y', bs', hs.pr.on hb5, hs.but.trans (But.ofBelow (bs := []) hb5) (by simp), hs.far, hs.l1, hs.l2⟩
set_option maxHeartbeats 4000000 in
set_option maxRecDepth 100000 in
theorem step_4 (b : Bool) (m : Int) (o : POp) (w : World) (hr : RulesAt w) (h : Pr w p p2 y f bs) (hc : 0 ≤ o.c ∧ o.c ≤ 255) (hl : y.own.length ≤ 1000) (hl2 : y.far.length ≤ 1000) :
    Calls Tryd.prog 59 #[.pointer (some ⟨p, 0, none⟩), .pointer (some ⟨p2, 0, none⟩), .agg #[.int .i64 4, .bool b, .int .i64 m, .int .i64 o.k, .int .i64 o.p, .int .u8 o.c, .int .i64 o.l, .int .i64 o.s]] w fun e w' => e = .returned (.bool true) ∧ ∃ y' bs', Stp w w' p p2 y y' f bs bs' := by
  have h0 := h
  obtain ⟨A, c, A2, c2, B2, e2, hS, hR, hF, dj, i1, i2, ib⟩ := h
  have HF := Lib.hid hF
  have hql : Hid ((y.queue f).length ≤ y.own.length) := Lib.hid (by simp [PRef.queue, withOps_len _ _ (PRef.forms_length hF)])
  have ba := below_alloc (Below.refl w.heap.size w) (.cells #[.int .i64 4, .bool b, .int .i64 m, .int .i64 o.k, .int .i64 o.p, .int .u8 o.c, .int .i64 o.l, .int .i64 o.s] 94)
  have kS := Blk.new w #[.int .i64 4, .bool b, .int .i64 m, .int .i64 o.k, .int .i64 o.p, .int .u8 o.c, .int .i64 o.l, .int .i64 o.s] 94
  have hSa := hS.on ba
  have hRa := hR.on ba
  have l0 := hR.lt
  have lp := hS.lt
  have DJ := Lib.hid dj
  have I1 := Lib.hid i1
  have I2 := Lib.hid i2
  have L0 := Lib.hid l0
  have LP := Lib.hid lp
  have lw : w.heap.size < (w.alloc (.cells #[.int .i64 4, .bool b, .int .i64 m, .int .i64 o.k, .int .i64 o.p, .int .u8 o.c, .int .i64 o.l, .int .i64 o.s] 94)).heap.size := by simp
  obtain ⟨s0, s1, s2, s3, s4, s5, s6, s7⟩ := kS.eight8
  clear hF dj i1 i2 l0 lp ib
  go_enter Tryd.func59, Tryd.ntmps59
  go_wp2_with fail
  with_reducible refine (look_all o _ (hr.on ba) hSa hc (by have := hql.out; omega)).mono ?_
  rintro e w1 ⟨z, rfl, b1, hE⟩
  have k9 := Blk.new w1 #[.int .i64 z.k, .int .i64 z.p, .int .u8 z.c, .int .i64 z.l, .int .i64 z.s] 23
  have b12 := below_alloc (Below.refl w1.heap.size w1) (.cells #[.int .i64 z.k, .int .i64 z.p, .int .u8 z.c, .int .i64 z.l, .int .i64 z.s] 23)
  have b02 := b1.trans (b12.mono b1.size)
  have hR2 := hRa.on b02
  have k2 := kS.on b02
  obtain ⟨t0, t1, t2, t3, t4, t5, t6, t7⟩ := k2.eight8
  clear s0 s1 s2 s3 s4 s5 s6 s7
  go_wp2_with fail
  with_reducible refine (rlook_all o _ hR2 hc (by omega) (by omega) HF.out).mono ?_
  rintro e w3 ⟨z', rfl, b3, hE2⟩
  have hzz : z = z' := by
    rw [hE.out, hE2.out, PRef.ops HF.out]
  subst hzz
  have k93 := k9.on b3
  clear hE hE2 t0 t1 t2 t3 t4 t5 t6 t7
  have b34 := below_alloc (Below.refl w3.heap.size w3) (.cells #[.int .i64 z.k, .int .i64 z.p, .int .u8 z.c, .int .i64 z.l, .int .i64 z.s] 23)
  have k11 := Blk.new w3 #[.int .i64 z.k, .int .i64 z.p, .int .u8 z.c, .int .i64 z.l, .int .i64 z.s] 23
  obtain ⟨r0, r1, r2, r3, r4⟩ := (k93.on b34).cells5
  go_wp2_with fail
  with_reducible refine (one_yes _ _).mono ?_
  rintro e w5 ⟨rfl, b5⟩
  go_wp2
  go_ret
  exact ⟨rfl, y, stp_same h0 (((ba.trans (b02.mono ba.size)).trans (b3.mono (by have := ba.size; have := b02.size; omega))).trans ((b34.trans (b5.mono b34.size)).mono (by have := ba.size; have := b02.size; have := b3.size; omega)))⟩
set_option maxHeartbeats 4000000 in
set_option maxRecDepth 100000 in
theorem step_5 (b : Bool) (m : Int) (o : POp) (w : World) (hr : RulesAt w) (h : Pr w p p2 y f bs) (hc : 0 ≤ o.c ∧ o.c ≤ 255) (hl : y.own.length ≤ 1000) (hl2 : y.far.length ≤ 1000) :
    Calls Tryd.prog 59 #[.pointer (some ⟨p, 0, none⟩), .pointer (some ⟨p2, 0, none⟩), .agg #[.int .i64 5, .bool b, .int .i64 m, .int .i64 o.k, .int .i64 o.p, .int .u8 o.c, .int .i64 o.l, .int .i64 o.s]] w fun e w' => e = .returned (.bool true) ∧ ∃ y' bs', Stp w w' p p2 y y' f bs bs' := by
  have h0 := h
  obtain ⟨A, c, A2, c2, B2, e2, hS, hR, hF, dj, i1, i2, ib⟩ := h
  have HF := Lib.hid hF
  have hql : Hid ((y.queue f).length ≤ y.own.length) := Lib.hid (by simp [PRef.queue, withOps_len _ _ (PRef.forms_length hF)])
  have ba := below_alloc (Below.refl w.heap.size w) (.cells #[.int .i64 5, .bool b, .int .i64 m, .int .i64 o.k, .int .i64 o.p, .int .u8 o.c, .int .i64 o.l, .int .i64 o.s] 94)
  have kS := Blk.new w #[.int .i64 5, .bool b, .int .i64 m, .int .i64 o.k, .int .i64 o.p, .int .u8 o.c, .int .i64 o.l, .int .i64 o.s] 94
  have hSa := hS.on ba
  have hRa := hR.on ba
  have l0 := hR.lt
  have lp := hS.lt
  have DJ := Lib.hid dj
  have I1 := Lib.hid i1
  have I2 := Lib.hid i2
  have L0 := Lib.hid l0
  have LP := Lib.hid lp
  have lw : w.heap.size < (w.alloc (.cells #[.int .i64 5, .bool b, .int .i64 m, .int .i64 o.k, .int .i64 o.p, .int .u8 o.c, .int .i64 o.l, .int .i64 o.s] 94)).heap.size := by simp
  obtain ⟨s0, s1, s2, s3, s4, s5, s6, s7⟩ := kS.eight8
  clear hF dj i1 i2 l0 lp ib
  go_enter Tryd.func59, Tryd.ntmps59
  go_wp2_with fail
  with_reducible refine (queue_any _ hSa (by have := hql.out; omega)).mono ?_
  rintro e w1 ⟨A1, c1, rfl, ow1, b1⟩
  have hR1 := hRa.on b1
  have k1 := kS.on b1
  obtain ⟨t0, t1, t2, t3, t4, t5, t6, t7⟩ := k1.eight8
  clear s0 s1 s2 s3 s4 s5 s6 s7
  go_wp2_with fail
  with_reducible refine (rqueue_any _ hR1 (by omega) (by omega) HF.out).mono ?_
  rintro e w3 ⟨A3, c3, rfl, ow3, b3⟩
  go_wp2_with fail
  with_reducible refine (queues_yes _ _ _ _ (y.queue f) _ (ow1.rd2.below b3) ow3.rd2 (by have := hql.out; omega)).mono ?_
  rintro e w5 ⟨rfl, b5⟩
  go_wp2
  go_ret
  exact ⟨rfl, y, stp_same h0 (((ba.trans (b1.mono ba.size)).trans (b3.mono (by have := ba.size; have := b1.size; omega))).trans (b5.mono (by have := ba.size; have := b1.size; have := b3.size; omega)))⟩
set_option maxHeartbeats 4000000 in
set_option maxRecDepth 100000 in
theorem step_6 (b : Bool) (m : Int) (o : POp) (w : World) (hr : RulesAt w) (h : Pr w p p2 y f bs) (hc : 0 ≤ o.c ∧ o.c ≤ 255) (hl : y.own.length ≤ 1000) (hl2 : y.far.length ≤ 1000) :
    Calls Tryd.prog 59 #[.pointer (some ⟨p, 0, none⟩), .pointer (some ⟨p2, 0, none⟩), .agg #[.int .i64 6, .bool b, .int .i64 m, .int .i64 o.k, .int .i64 o.p, .int .u8 o.c, .int .i64 o.l, .int .i64 o.s]] w fun e w' => e = .returned (.bool true) ∧ ∃ y' bs', Stp w w' p p2 y y' f bs bs' := by
  have h0 := h
  obtain ⟨A, c, A2, c2, B2, e2, hS, hR, hF, dj, i1, i2, ib⟩ := h
  have HF := Lib.hid hF
  have hql : Hid ((y.queue f).length ≤ y.own.length) := Lib.hid (by simp [PRef.queue, withOps_len _ _ (PRef.forms_length hF)])
  have ba := below_alloc (Below.refl w.heap.size w) (.cells #[.int .i64 6, .bool b, .int .i64 m, .int .i64 o.k, .int .i64 o.p, .int .u8 o.c, .int .i64 o.l, .int .i64 o.s] 94)
  have kS := Blk.new w #[.int .i64 6, .bool b, .int .i64 m, .int .i64 o.k, .int .i64 o.p, .int .u8 o.c, .int .i64 o.l, .int .i64 o.s] 94
  have hSa := hS.on ba
  have hRa := hR.on ba
  have l0 := hR.lt
  have lp := hS.lt
  have DJ := Lib.hid dj
  have I1 := Lib.hid i1
  have I2 := Lib.hid i2
  have L0 := Lib.hid l0
  have LP := Lib.hid lp
  have lw : w.heap.size < (w.alloc (.cells #[.int .i64 6, .bool b, .int .i64 m, .int .i64 o.k, .int .i64 o.p, .int .u8 o.c, .int .i64 o.l, .int .i64 o.s] 94)).heap.size := by simp
  obtain ⟨s0, s1, s2, s3, s4, s5, s6, s7⟩ := kS.eight8
  clear hF dj i1 i2 l0 lp ib
  go_enter Tryd.func59, Tryd.ntmps59
  go_wp2_with fail
  with_reducible refine (last_any _ hSa).mono ?_
  rintro e w1 ⟨rfl, rfl⟩
  go_wp2_with fail
  with_reducible refine (rlast_any _ hRa (by omega)).mono ?_
  rintro e w3 ⟨rfl, b3⟩
  go_wp2
  go_ret
  exact ⟨ret_bool (by simp), y, stp_same h0 (ba.trans (b3.mono ba.size))⟩
set_option maxHeartbeats 4000000 in
set_option maxRecDepth 100000 in
theorem step_0 (b : Bool) (m : Int) (o : POp) (w : World) (hr : RulesAt w) (h : Pr w p p2 y f bs) (hc : 0 ≤ o.c ∧ o.c ≤ 255) (hl : y.own.length ≤ 1000) (hl2 : y.far.length ≤ 1000) (k : Int) (d1 : (k == 1) = false) (d2 : (k == 2) = false) (d3 : (k == 3) = false) (d4 : (k == 4) = false) (d5 : (k == 5) = false) (d6 : (k == 6) = false) :
    Calls Tryd.prog 59 #[.pointer (some ⟨p, 0, none⟩), .pointer (some ⟨p2, 0, none⟩), .agg #[.int .i64 k, .bool b, .int .i64 m, .int .i64 o.k, .int .i64 o.p, .int .u8 o.c, .int .i64 o.l, .int .i64 o.s]] w fun e w' => e = .returned (.bool true) ∧ ∃ y' bs', Stp w w' p p2 y y' f bs bs' := by
  have h0 := h
  obtain ⟨A, c, A2, c2, B2, e2, hS, hR, hF, dj, i1, i2, ib⟩ := h
  have HF := Lib.hid hF
  have hql : Hid ((y.queue f).length ≤ y.own.length) := Lib.hid (by simp [PRef.queue, withOps_len _ _ (PRef.forms_length hF)])
  have ba := below_alloc (Below.refl w.heap.size w) (.cells #[.int .i64 k, .bool b, .int .i64 m, .int .i64 o.k, .int .i64 o.p, .int .u8 o.c, .int .i64 o.l, .int .i64 o.s] 94)
  have kS := Blk.new w #[.int .i64 k, .bool b, .int .i64 m, .int .i64 o.k, .int .i64 o.p, .int .u8 o.c, .int .i64 o.l, .int .i64 o.s] 94
  have hSa := hS.on ba
  have hRa := hR.on ba
  have l0 := hR.lt
  have lp := hS.lt
  have DJ := Lib.hid dj
  have I1 := Lib.hid i1
  have I2 := Lib.hid i2
  have L0 := Lib.hid l0
  have LP := Lib.hid lp
  have lw : w.heap.size < (w.alloc (.cells #[.int .i64 k, .bool b, .int .i64 m, .int .i64 o.k, .int .i64 o.p, .int .u8 o.c, .int .i64 o.l, .int .i64 o.s] 94)).heap.size := by simp
  obtain ⟨s0, s1, s2, s3, s4, s5, s6, s7⟩ := kS.eight8
  clear hF dj i1 i2 l0 lp ib
  go_enter Tryd.func59, Tryd.ntmps59
  go_wp2_with fail
  go_ret
  exact ⟨rfl, y, stp_same h0 ba⟩
theorem step_any (x : PSOp) (w : World) (hr : RulesAt w) (h : Pr w p p2 y f bs) (hc : 0 ≤ x.o.c ∧ x.o.c ≤ 255) (hl : y.own.length ≤ 1000) (hl2 : y.far.length ≤ 1000) :
    Calls Tryd.prog 59 #[.pointer (some ⟨p, 0, none⟩), .pointer (some ⟨p2, 0, none⟩), .agg #[.int .i64 x.k, .bool x.w, .int .i64 x.m, .int .i64 x.o.k, .int .i64 x.o.p, .int .u8 x.o.c, .int .i64 x.o.l, .int .i64 x.o.s]] w fun e w' => e = .returned (.bool true) ∧ ∃ y' bs', Stp w w' p p2 y y' f bs bs' := by
  obtain ⟨k, b, m, o⟩ := x
  by_cases h1 : k = 1
  · subst h1; exact step_1 b m o w hr h hc hl hl2
  by_cases h2 : k = 2
  · subst h2; exact step_2 b m o w hr h hc hl hl2
  by_cases h3 : k = 3
  · subst h3; exact step_3 b m o w hr h hc hl hl2
  by_cases h4 : k = 4
  · subst h4; exact step_4 b m o w hr h hc hl hl2
  by_cases h5 : k = 5
  · subst h5; exact step_5 b m o w hr h hc hl hl2
  by_cases h6 : k = 6
  · subst h6; exact step_6 b m o w hr h hc hl hl2
  exact step_0 b m o w hr h hc hl hl2 k (by simpa using h1) (by simpa using h2) (by simpa using h3) (by simpa using h4) (by simpa using h5) (by simpa using h6)
end
end Go.Proofs.YtkicbnkacjnhoaaDoor
