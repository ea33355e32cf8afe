/- The walks of package space's Look and Cross. -/
import Derived.Test.YtkicbnkacjnhoaaDoorSpTh
namespace Go.Proofs.YtkicbnkacjnhoaaDoor
open Go.RowKit
set_option linter.unusedVariables false
set_option linter.unusedSimpArgs false

theorem rowSet {w : World} {base g n cap size : Nat} {e : TypeId} {xs : List Value} (h : w.ownsRow base e size (.slice (some ⟨g, 0, none⟩) n cap) n xs) (j : Nat) (u : Value) :
    (w.setCell ⟨g, j, none⟩ u).ownsRow base e size (.slice (some ⟨g, 0, none⟩) n cap) n (xs.set j u) := by
  refine ⟨by rw [List.length_set]; exact h.1, ?_⟩
  rcases h.2 with ⟨h', _⟩ | ⟨g', cap', cur, hv, hb, hh, h1, h2, h3, h4⟩
  · cases h'
  · injection hv with e1 _ e2
    injection e1 with e1
    injection e1 with e1
    subst e1 e2
    refine .inr ⟨g, cap, cur.setIfInBounds j u, rfl, hb, heap_setCell_same w g j cur e u hh, h1, h2, by simpa using h3, ?_⟩
    rw [← h4, Array.toList_setIfInBounds, List.take_set]
theorem flatMap_setMk (f : POp) : ∀ (xs : List PMk) (i : Nat) (x : PMk), xs[i]? = some x →
    ((((((xs.flatMap mkF.cells).set (i * 6 + 1) (.int .i64 f.k)).set (i * 6 + 1 + 1) (.int .i64 f.p)).set (i * 6 + 1 + 2) (.int .u8 f.c)).set (i * 6 + 1 + 3) (.int .i64 f.l)).set (i * 6 + 1 + 4) (.int .i64 f.s)) = (xs.set i ⟨x.m, f⟩).flatMap mkF.cells
  | [], i, x, h => by simp at h
  | y :: r, 0, x, h => by
    obtain rfl : y = x := by simpa using h
    simp [mkF]
  | y :: r, i + 1, x, h => by
    have ih := flatMap_setMk f r i x (by simpa using h)
    have e : ∀ a, (i + 1) * 6 + a = (i * 6 + a) + 1 + 1 + 1 + 1 + 1 + 1 := fun a => by omega
    simp only [List.flatMap_cons, List.set_cons_succ]
    rw [← ih]
    simp only [Nat.add_assoc, e]
    simp only [mkF, List.cons_append, List.nil_append, ← Nat.add_assoc]
    rfl
@[reducible] def put5at (w : World) (b i : Nat) (v0 v1 v2 v3 v4 : Value) : World := ((((w.setCell ⟨b, i, none⟩ v0).setCell ⟨b, i + 1, none⟩ v1).setCell ⟨b, i + 2, none⟩ v2).setCell ⟨b, i + 3, none⟩ v3).setCell ⟨b, i + 4, none⟩ v4
theorem OwnC.setMk {w : World} {g cap : Nat} {xs : List PMk} (h : OwnC mkF 87 w g cap xs) {i : Nat} {x : PMk} (hx : xs[i]? = some x) (f : POp) :
    OwnC mkF 87 (put5at w g (i * 6 + 1) (.int .i64 f.k) (.int .i64 f.p) (.int .u8 f.c) (.int .i64 f.l) (.int .i64 f.s)) g cap (xs.set i ⟨x.m, f⟩) := by
  unfold OwnC
  rw [List.length_set, ← flatMap_setMk f xs i x hx]
  exact rowSet (rowSet (rowSet (rowSet (rowSet h _ _) _ _) _ _) _ _) _ _

theorem OwnC.frozen {α : Type} {F : Flat α} {e : TypeId} {w : World} {g cap : Nat} {xs : List α} (h : OwnC F e w g cap xs) (i : Nat) : w.frozen? ⟨g, i, none⟩ = false := by
  rcases h.2 with ⟨h', _⟩ | ⟨g', cap', cur, hv, _, hh, _⟩
  · cases h'
  · injection hv with e1 _ _
    injection e1 with e1
    injection e1 with e1
    subst e1
    simp [World.frozen?, hh]

section
variable {p : Nat} {A : Option Addr} {c : Nat} {q : List PMk} {last : Int} {first : Bool}
set_option maxHeartbeats 2000000 in
theorem look_bad (o : POp) (w : World) (hc : 0 ≤ o.c ∧ o.c ≤ 255) (hv : validL o ≠ 0) :
    Calls Tryd.prog 48 #[.pointer (some ⟨p, 0, none⟩), .agg #[.int .i64 o.k, .int .i64 o.p, .int .u8 o.c, .int .i64 o.l, .int .i64 o.s]] w fun e w' => e = .returned (.tuple #[.agg #[.int .i64 0, .int .i64 0, .int .u8 0, .int .i64 0, .int .i64 0], .int .i64 (validL o)]) ∧ Below w.heap.size w w' := by
  go_enter Tryd.func48, Tryd.ntmps48
  go_wp2_with fail
  with_reducible refine (sth_bad _ _ hc hv).mono ?_
  rintro e w1 ⟨rfl, hb⟩
  have B1 : Below w.heap.size w w1 := (below_alloc (below_alloc (Below.refl _ _) _) _).trans (hb.mono (by simp; omega))
  have k4 := (Blk.new1 w (.cells #[.int .i64 o.k, .int .i64 o.p, .int .u8 o.c, .int .i64 o.l, .int .i64 o.s] 23) #[.int .i64 0, .int .i64 0, .int .u8 0, .int .i64 0, .int .i64 0] 23).on hb
  obtain ⟨z0, z1, z2, z3, z4⟩ := k4.cells5
  have z5 := k4.frozen
  have l4 := k4.lt
  have hsz := B1.size
  go_wp2
  have j4 := (k4.set5 (.int .i64 0) (.int .i64 0) (.int .u8 0) (.int .i64 0) (.int .i64 0)).alloc (.cells #[.int .i64 0, .int .i64 0, .int .u8 0, .int .i64 0, .int .i64 0] 23)
  obtain ⟨q0, q1, q2, q3, q4⟩ := j4.cells5
  refine bodyPost_ret (v := .tuple #[.agg #[.int .i64 0, .int .i64 0, .int .u8 0, .int .i64 0, .int .i64 0], .int .i64 (validL o)]) (by simp [results, Tryd.results48, go_sem, q0, q1, q2, q3, q4]) rfl ?_
  exact ⟨rfl, below_alloc (below_put5 B1 (by omega) _ _ _ _ _) _⟩
set_option maxHeartbeats 2000000 in
theorem look_ok (o : POp) (w : World) (hr : RulesAt w) (h : SpAt w p A c q last first) (hc : 0 ≤ o.c ∧ o.c ≤ 255) (hv : validL o = 0) (hl : q.length ≤ 4096) :
    Calls Tryd.prog 48 #[.pointer (some ⟨p, 0, none⟩), .agg #[.int .i64 o.k, .int .i64 o.p, .int .u8 o.c, .int .i64 o.l, .int .i64 o.s]] w fun e w' => ∃ y : POp, Hid ((pastL o (opsQ q) first).1 = y) ∧ e = .returned (.tuple #[.agg #[.int .i64 y.k, .int .i64 y.p, .int .u8 y.c, .int .i64 y.l, .int .i64 y.s], .int .i64 0]) ∧ Below w.heap.size w w' := by
  have HV := Lib.hid hv
  clear hv
  have B0 : Below w.heap.size w ((w.alloc (.cells #[.int .i64 o.k, .int .i64 o.p, .int .u8 o.c, .int .i64 o.l, .int .i64 o.s] 23)).alloc (.cells #[.int .i64 0, .int .i64 0, .int .u8 0, .int .i64 0, .int .i64 0] 23)) := below_alloc (below_alloc (Below.refl _ _) _) _
  go_enter Tryd.func48, Tryd.ntmps48
  go_wp2_with fail
  with_reducible refine (sth_ok _ _ (hr.on B0) (h.on B0) hc HV.out hl).mono ?_
  rintro e w1 ⟨g, cm, y, m, hy, hml, rfl, rm, hg, hb⟩
  have B1 : Below w.heap.size w w1 := B0.trans (hb.mono (by simp; omega))
  have k4 := (Blk.new1 w (.cells #[.int .i64 o.k, .int .i64 o.p, .int .u8 o.c, .int .i64 o.l, .int .i64 o.s] 23) #[.int .i64 0, .int .i64 0, .int .u8 0, .int .i64 0, .int .i64 0] 23).on hb
  obtain ⟨z0, z1, z2, z3, z4⟩ := k4.cells5
  have z5 := k4.frozen
  have l4 := k4.lt
  have hsz := B1.size
  have HY : Hid ((pastL o (opsQ q) first).1 = y) := Lib.hid (by rw [hy.out])
  clear B0 hy
  go_wp2
  have j4 := (k4.set5 (.int .i64 y.k) (.int .i64 y.p) (.int .u8 y.c) (.int .i64 y.l) (.int .i64 y.s)).alloc (.cells #[.int .i64 y.k, .int .i64 y.p, .int .u8 y.c, .int .i64 y.l, .int .i64 y.s] 23)
  obtain ⟨q0, q1, q2, q3, q4⟩ := j4.cells5
  refine bodyPost_ret (v := .tuple #[.agg #[.int .i64 y.k, .int .i64 y.p, .int .u8 y.c, .int .i64 y.l, .int .i64 y.s], .int .i64 0]) (by simp [results, Tryd.results48, go_sem, q0, q1, q2, q3, q4]) rfl ?_
  exact ⟨y, HY, rfl, below_alloc (below_put5 B1 (by omega) _ _ _ _ _) _⟩
set_option maxHeartbeats 2000000 in
theorem cross_bad (o : POp) (w : World) (hc : 0 ≤ o.c ∧ o.c ≤ 255) (hv : validL o ≠ 0) :
    Calls Tryd.prog 50 #[.pointer (some ⟨p, 0, none⟩), .agg #[.int .i64 o.k, .int .i64 o.p, .int .u8 o.c, .int .i64 o.l, .int .i64 o.s]] w fun e w' => e = .returned (.tuple #[.agg #[.int .i64 0, .int .i64 0, .int .u8 0, .int .i64 0, .int .i64 0], .int .i64 (validL o)]) ∧ Below w.heap.size w w' := by
  have hq : (validL o != 0) = true := by simpa using hv
  have HV := Lib.hid hv
  clear hv
  go_enter Tryd.func50, Tryd.ntmps50
  go_wp2_with fail
  with_reducible refine (sth_bad _ _ hc HV.out).mono ?_
  rintro e w1 ⟨rfl, hb⟩
  have B1 : Below w.heap.size w w1 := (below_alloc (below_alloc (Below.refl _ _) _) _).trans (hb.mono (by simp; omega))
  have k4 := (Blk.new1 w (.cells #[.int .i64 o.k, .int .i64 o.p, .int .u8 o.c, .int .i64 o.l, .int .i64 o.s] 23) #[.int .i64 0, .int .i64 0, .int .u8 0, .int .i64 0, .int .i64 0] 23).on hb
  obtain ⟨z0, z1, z2, z3, z4⟩ := k4.cells5
  have z5 := k4.frozen
  have l4 := k4.lt
  have hsz := B1.size
  go_wp2
  have j4 := (k4.set5 (.int .i64 0) (.int .i64 0) (.int .u8 0) (.int .i64 0) (.int .i64 0)).alloc (.cells #[.int .i64 0, .int .i64 0, .int .u8 0, .int .i64 0, .int .i64 0] 23)
  obtain ⟨q0, q1, q2, q3, q4⟩ := j4.cells5
  refine bodyPost_ret (v := .tuple #[.agg #[.int .i64 0, .int .i64 0, .int .u8 0, .int .i64 0, .int .i64 0], .int .i64 (validL o)]) (by simp [results, Tryd.results50, go_sem, q0, q1, q2, q3, q4]) rfl ?_
  exact ⟨rfl, below_alloc (below_put5 B1 (by omega) _ _ _ _ _) _⟩
/-- Half way: the first k have been turned. -/
def mixQ (q : List PMk) (l : List POp) (k : Nat) : List PMk := (withOps q l).take k ++ q.drop k
theorem mixQ_zero (q : List PMk) (l : List POp) : mixQ q l 0 = q := by simp [mixQ]
theorem mixQ_length {q : List PMk} {l : List POp} (h : l.length = q.length) {k : Nat} (hk : k ≤ q.length) : (mixQ q l k).length = q.length := by
  have := withOps_length q l h
  simp [mixQ, this]
  omega
theorem mixQ_end {q : List PMk} {l : List POp} (h : l.length = q.length) : mixQ q l q.length = withOps q l := by
  have := withOps_length q l h
  simp [mixQ, ← this]
theorem withOps_at : ∀ (q : List PMk) (l : List POp) (k : Nat) (x : PMk) (f : POp), q[k]? = some x → l[k]? = some f → (withOps q l)[k]? = some ⟨x.m, f⟩
  | [], _, _, _, _, h, _ => by simp at h
  | _ :: _, [], _, _, _, _, h => by simp at h
  | x :: q, o :: l, 0, y, f, h1, h2 => by
    obtain rfl : x = y := by simpa using h1
    obtain rfl : o = f := by simpa using h2
    rfl
  | x :: q, o :: l, k + 1, y, f, h1, h2 => by
    simp only [withOps, List.getElem?_cons_succ]
    exact withOps_at q l k y f (by simpa using h1) (by simpa using h2)
theorem mixQ_at {q : List PMk} {l : List POp} (h : l.length = q.length) {k : Nat} {x : PMk} (hx : q[k]? = some x) : (mixQ q l k)[k]? = some x := by
  have hk := (List.getElem?_eq_some_iff.1 hx).1
  have hw := withOps_length q l h
  have ht : ((withOps q l).take k).length = k := by simp; omega
  unfold mixQ
  rw [List.getElem?_append_right (by omega), ht, Nat.sub_self, List.getElem?_drop, Nat.add_zero]
  exact hx
theorem mixQ_step {q : List PMk} {l : List POp} (h : l.length = q.length) {k : Nat} {x : PMk} {f : POp} (hx : q[k]? = some x) (hf : l[k]? = some f) : (mixQ q l k).set k ⟨x.m, f⟩ = mixQ q l (k + 1) := by
  have hk := (List.getElem?_eq_some_iff.1 hx).1
  have hw := withOps_length q l h
  have ht : ((withOps q l).take k).length = k := by simp; omega
  have hwa := withOps_at q l k x f hx hf
  unfold mixQ
  rw [List.set_append_right _ _ (by omega), ht, Nat.sub_self, List.drop_eq_getElem_cons hk, List.set_cons_zero, List.take_add_one, hwa, Option.toList_some, List.append_assoc]
  rfl
set_option maxHeartbeats 4000000 in
theorem cross_ok (o : POp) (w : World) (hr : RulesAt w) (h : SpAt w p A c q last first) (hc : 0 ≤ o.c ∧ o.c ≤ 255) (hv : validL o = 0) (hl : q.length ≤ 4096) :
    Calls Tryd.prog 50 #[.pointer (some ⟨p, 0, none⟩), .agg #[.int .i64 o.k, .int .i64 o.p, .int .u8 o.c, .int .i64 o.l, .int .i64 o.s]] w fun e w' => ∃ y : POp, Hid ((pastL o (opsQ q) first).1 = y) ∧ e = .returned (.tuple #[.agg #[.int .i64 y.k, .int .i64 y.p, .int .u8 y.c, .int .i64 y.l, .int .i64 y.s], .int .i64 0]) ∧ SpAt w' p A c (crossQ first q o) last first ∧ But (own A) w w' := by
  have HV := Lib.hid hv
  clear hv
  have B0 : Below w.heap.size w ((w.alloc (.cells #[.int .i64 o.k, .int .i64 o.p, .int .u8 o.c, .int .i64 o.l, .int .i64 o.s] 23)).alloc (.cells #[.int .i64 0, .int .i64 0, .int .u8 0, .int .i64 0, .int .i64 0] 23)) := below_alloc (below_alloc (Below.refl _ _) _) _
  go_enter Tryd.func50, Tryd.ntmps50
  go_wp2_with fail
  with_reducible refine (sth_ok _ _ (hr.on B0) (h.on B0) hc HV.out hl).mono ?_
  rintro e w1 ⟨g, cm, y, m, hy, hml, rfl, rm0, hg, hb⟩
  have B1 : Below w.heap.size w w1 := B0.trans (hb.mono (by simp; omega))
  have k4 := (Blk.new1 w (.cells #[.int .i64 o.k, .int .i64 o.p, .int .u8 o.c, .int .i64 o.l, .int .i64 o.s] 23) #[.int .i64 0, .int .i64 0, .int .u8 0, .int .i64 0, .int .i64 0] 23).on hb
  have l4 := k4.lt
  have hsz := B1.size
  have HY : Hid ((pastL o (opsQ q) first).1 = y) := Lib.hid (by rw [hy.out])
  have HM : Hid (crossQ first q o = withOps q m) := Lib.hid (by unfold crossQ; rw [hy.out])
  have hS := h.on B1
  have hpl := h.blk.lt
  have hol : ∀ b ∈ own A, b < w.heap.size := fun b hb => h.lt b (List.mem_cons_of_mem _ hb)
  have hgw : w.heap.size ≤ g := by simp at hg; omega
  have hmq : m.length ≤ 4096 := by have := hml.out; omega
  clear B0 hy hb
  obtain ⟨Am, hAm, rm⟩ : ∃ Am : Option Addr, Am = some ⟨g, 0, none⟩ ∧ Rd opF w1 Am m := ⟨_, rfl, rm0⟩
  have hAo : own Am = [g] := by rw [hAm]; rfl
  have HAo := Lib.hid hAo
  rw [← hAm]
  clear hAm hAo hg rm0
  go_wp2_with fail
  go_loopw [24] (fun i wr => ∃ k : Nat, k ≤ m.length ∧ i = .int .i64 k ∧ SpAt wr p A c (mixQ q m k) last first ∧ Rd opF wr Am m ∧ Blk wr (w.heap.size + 1) #[.int .i64 0, .int .i64 0, .int .u8 0, .int .i64 0, .int .i64 0] 23 ∧ Blk wr w1.heap.size #[.int .i64 y.k, .int .i64 y.p, .int .u8 y.c, .int .i64 y.l, .int .i64 y.s] 23 ∧ But (own A) w wr) (fun i wr => m.length - (intOf i).toNat)
  case atStart => exact ⟨0, Nat.zero_le _, rfl, by rw [mixQ_zero]; exact hS.on (below_alloc (Below.refl _ _) _), rm.below (below_alloc (Below.refl _ _) _), k4.alloc _, Blk.new w1 _ _, But.ofBelow (below_alloc B1 _)⟩
  case round =>
    clear hS rm k4
    obtain ⟨k, hk, rfl, hS, rm, k4, k6, hB⟩ := hrel
    by_cases hlt : k < m.length
    · have hkq : k < q.length := by have := hml.out; omega
      have hx0 := List.getElem?_eq_getElem hkq
      obtain ⟨x, hx⟩ : ∃ x, q[k]? = some x := ⟨_, hx0⟩
      have hml2 := hml.out
      have HX := Lib.hid hx
      have hmx := mixQ_at hml2 hx
      have HL := Lib.hid (mixQ_length hml2 (k := k) (by omega))
      clear hx0
      obtain ⟨bf, off, f, hAm, hf, c0, c1, c2, c3, c4⟩ := rm.op k hlt
      have HST := Lib.hid (mixQ_step hml2 hx hf.out)
      have hbf := HAo.out
      rw [hAm] at hbf
      have hbg : bf = g := by simpa [own] using hbf
      subst hAm hbg
      have hlm : k < (mixQ q m k).length := by rw [HL.out]; exact hkq
      obtain ⟨g', cap', hA', hC⟩ : ∃ g' cap', A = some ⟨g', 0, none⟩ ∧ c = cap' ∧ OwnC mkF 87 wr g' cap' (mixQ q m k) := by
        rcases hS.ow.c with ⟨_, h2⟩ | ⟨g', cap', h1, _, h2⟩
        · rw [h2] at hlm; simp at hlm
        · injection h1 with e1 _ e3
          exact ⟨g', cap', e1, e3, h2⟩
      subst hA'
      obtain ⟨hcc, hC⟩ := hC
      subst hcc
      obtain ⟨b2, o2, x2, hA2, hx2, _, s0, s1, s2, s3, s4, s5⟩ := hC.rd.six k hlm
      injection hA2 with hA2
      injection hA2 with hb2 ho2
      subst hb2 ho2
      clear hx2 s0
      have zg := hC.frozen
      have hg'lt : g' < w.heap.size := hol g' (by simp [own])
      have hpg : p ≠ g' := fun e => hS.ne (by rw [e]; simp [own])
      obtain ⟨e0, e1, e2, lt⟩ := hS.blk.three
      simp only [Nat.zero_add] at s1 s2 s3 s4 s5
      clear hml2 hx hmx hbf
      go_wp2_with fail
      go_region
      have b5 : But [g'] wr (put5at wr g' (k * 6 + 1) (.int .i64 f.k) (.int .i64 f.p) (.int .u8 f.c) (.int .i64 f.l) (.int .i64 f.s)) :=
        ((((But.setCell wr g' _ _ (by simp)).trans (But.setCell _ g' _ _ (bs := [g']) (by simp)) (by simp)).trans (But.setCell _ g' _ _ (bs := [g']) (by simp)) (by simp)).trans (But.setCell _ g' _ _ (bs := [g']) (by simp)) (by simp)).trans (But.setCell _ g' _ _ (bs := [g']) (by simp)) (by simp)
      have hC5 := hC.setMk (mixQ_at hml.out HX.out) f
      rw [HST.out] at hC5
      have HL2 := mixQ_length hml.out (k := k + 1) (by have := hml.out; omega)
      have hS5 : SpAt (put5at wr g' (k * 6 + 1) (.int .i64 f.k) (.int .i64 f.p) (.int .u8 f.c) (.int .i64 f.l) (.int .i64 f.s)) p (some ⟨g', 0, none⟩) c (mixQ q m (k + 1)) last first :=
        ⟨by have := hS.blk.but b5 (by simpa using hpg); rw [HL.out] at this; rw [HL2]; exact this, hC5.v (Nat.zero_le _), hS.ne⟩
      have rm5 := rm.but b5 (fun b off e => by injection e with e; injection e with e _; subst e; intro h; have := List.mem_singleton.1 h; omega)
      have k45 := k4.but b5 (fun h => by have := List.mem_singleton.1 h; omega)
      have k65 := k6.but b5 (fun h => by have := List.mem_singleton.1 h; omega)
      have hB5 := hB.trans b5 (by simp [own])
      have ba : ∀ (W : World), Below W.heap.size W ((W.alloc (.cells #[.int .i64 f.k, .int .i64 f.p, .int .u8 f.c, .int .i64 f.l, .int .i64 f.s] 23)).drew) := fun W => (below_alloc (Below.refl _ _) _).drew
      clear hS rm k4 k6 hB hC s1 s2 s3 s4 s5 c0 c1 c2 c3 c4 e0 e1 e2
      go_wp2_with fail
      go_roundw
      case rel =>
        exact ⟨k + 1, by omega, by go_num, hS5.on (ba _), rm5.below (ba _), k45.on (ba _), k65.on (ba _), hB5.trans (But.ofBelow (bs := []) (ba _)) (by simp)⟩
      case measure => simp [intOf]; omega
    · have hkm : k = m.length := by omega
      have hkq : k = q.length := by have := hml.out; omega
      have hS2 : SpAt wr p A c (crossQ first q o) last first := by
        have := hS
        rw [hkq, mixQ_end hml.out, ← HM.out] at this
        exact this
      clear hS hkm hkq
      obtain ⟨z0, z1, z2, z3, z4⟩ := k4.cells5
      have z5 := k4.frozen
      have l4' := k4.lt
      obtain ⟨y0, y1, y2, y3, y4⟩ := k6.cells5
      have l6 := k6.lt
      go_wp2
      have j4 := k4.set5 (.int .i64 y.k) (.int .i64 y.p) (.int .u8 y.c) (.int .i64 y.l) (.int .i64 y.s)
      obtain ⟨q0, q1, q2, q3, q4⟩ := j4.cells5
      have b5 : But [w.heap.size + 1] wr (put5 wr (w.heap.size + 1) (.int .i64 y.k) (.int .i64 y.p) (.int .u8 y.c) (.int .i64 y.l) (.int .i64 y.s)) := But.ofGrown (grown_put5 _ _ _ _ _ _ _) (fun k e => .inl (by obtain rfl := Option.some.inj e; simp))
      refine bodyPost_ret (v := .tuple #[.agg #[.int .i64 y.k, .int .i64 y.p, .int .u8 y.c, .int .i64 y.l, .int .i64 y.s], .int .i64 0]) (by simp [results, Tryd.results50, go_sem, q0, q1, q2, q3, q4]) rfl ?_
      refine ⟨y, HY, rfl, hS2.but b5 (fun b hb => ?_), hB.trans b5 (fun b hb => .inr ?_)⟩
      · rcases List.mem_cons.1 hb with rfl | hb
        · simp; omega
        · have := hol b hb
          simp; omega
      · simp at hb; omega
end
end Go.Proofs.YtkicbnkacjnhoaaDoor
