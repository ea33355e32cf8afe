/- The walk of jotterlaw10.SpacePlays: it answers true. -/
import Derived.Test.YtkicbnkacjnhoaaDoorStep
namespace Go.Proofs.YtkicbnkacjnhoaaDoor
open Go.RowKit
set_option linter.unusedVariables false
set_option linter.unusedSimpArgs false

theorem Pr.new {W : World} {p p2 : Nat} {f : Bool} (h1 : SpAt W p none 0 [] 0 f) (h2 : RefAt W p2 none 0 none 0 ⟨[], [], 0⟩ f) (hne : p ≠ p2) : Pr W p p2 ⟨[], [], 0⟩ f [p, p2] :=
  ⟨none, 0, none, 0, none, 0, h1, h2, ⟨Nat.le_refl _, by simp⟩, by simp [own, refB, hne], by simp [own], by simp [refB, own], fun b hb => by
    simp at hb
    rcases hb with rfl | rfl
    · exact h1.blk.lt
    · exact h2.blk.lt⟩
theorem Pr.open_ {W : World} {p p2 : Nat} {y : PRef} {f : Bool} {bs : List Nat} (h : Pr W p p2 y f bs) : ∃ A c A2 c2 B2 e2, SpAt W p A c (y.queue f) (lastM y.own) f ∧ RefAt W p2 A2 c2 B2 e2 y f ∧ Hid y.Fine ∧ Hid ((y.queue f).length ≤ y.own.length) := by
  obtain ⟨A, c, A2, c2, B2, e2, h1, h2, h3, _⟩ := h
  exact ⟨A, c, A2, c2, B2, e2, h1, h2, Lib.hid h3, Lib.hid (by simp [PRef.queue, withOps_len _ _ (PRef.forms_length h3)])⟩
/-- What the loop carries. -/
structure PlRel (w wr : World) (p p2 p3 p4 : Nat) (a b : Bool) (y1 y2 : PRef) (bs1 bs2 : List Nat) (k : Nat) : Prop where
  x : Pr wr p p2 y1 a bs1
  v : Pr wr p3 p4 y2 b bs2
  l : y1.own.length ≤ k ∧ y1.far.length ≤ k ∧ y2.own.length ≤ k ∧ y2.far.length ≤ k
  dj : ∀ t ∈ bs1, t ∉ bs2
  ge : (∀ t ∈ bs1, w.heap.size ≤ t) ∧ ∀ t ∈ bs2, w.heap.size ≤ t
  below : Below w.heap.size w wr
section
variable {w wr w1 w2 : World} {p p2 p3 p4 : Nat} {a b : Bool} {y1 y2 y' : PRef} {bs1 bs2 bs' : List Nat} {k : Nat}
theorem PlRel.on (h : PlRel w wr p p2 p3 p4 a b y1 y2 bs1 bs2 k) (hb : Below wr.heap.size wr w1) : PlRel w w1 p p2 p3 p4 a b y1 y2 bs1 bs2 k :=
  ⟨h.x.on hb, h.v.on hb, h.l, h.dj, h.ge, h.below.trans (hb.mono h.below.size)⟩
theorem PlRel.up (h : PlRel w wr p p2 p3 p4 a b y1 y2 bs1 bs2 k) : PlRel w wr p p2 p3 p4 a b y1 y2 bs1 bs2 (k + 1) := ⟨h.x, h.v, by have := h.l; omega, h.dj, h.ge, h.below⟩
theorem PlRel.one (h : PlRel w wr p p2 p3 p4 a b y1 y2 bs1 bs2 k) (hs : Stp wr w1 p p2 y1 y' a bs1 bs') : PlRel w w1 p p2 p3 p4 a b y' y2 bs' bs2 (k + 1) :=
  ⟨hs.pr, h.v.but hs.but (fun t ht hm => h.dj t hm ht), by have := h.l; have := hs.l1; have := hs.l2; omega, fun t ht hm => by
    rcases hs.far t ht with h1 | h1
    · exact h.dj t h1 hm
    · have := h.v.lt t hm; omega, ⟨fun t ht => by
    rcases hs.far t ht with h1 | h1
    · exact h.ge.1 t h1
    · have := h.below.size; omega, h.ge.2⟩, hs.but.below h.below h.below.size h.ge.1⟩
theorem PlRel.two (h : PlRel w wr p p2 p3 p4 a b y1 y2 bs1 bs2 k) (hs : Stp wr w1 p3 p4 y2 y' b bs2 bs') : PlRel w w1 p p2 p3 p4 a b y1 y' bs1 bs' (k + 1) :=
  ⟨h.x.but hs.but (fun t ht hm => h.dj t ht hm), hs.pr, by have := h.l; have := hs.l1; have := hs.l2; omega, fun t ht hm => by
    rcases hs.far t hm with h1 | h1
    · exact h.dj t ht h1
    · have := h.x.lt t ht; omega, ⟨h.ge.1, fun t ht => by
    rcases hs.far t ht with h1 | h1
    · exact h.ge.2 t h1
    · have := h.below.size; omega⟩, hs.but.below h.below h.below.size h.ge.2⟩
end
set_option maxHeartbeats 8000000 in
set_option maxRecDepth 100000 in
theorem plays_any (a b : Bool) (A1 : Option Addr) (c1 : Nat) (sc : List PSOp) (w : World) (hr : RulesAt w) (hl : Rd sopF w A1 sc) (hok1 : ∀ x ∈ sc, 0 ≤ x.o.c ∧ x.o.c ≤ 255) (z1 : sc.length ≤ 9223372036854775807) :
    Calls Tryd.prog 17 #[.bool a, .bool b, .slice A1 sc.length c1] w fun e w' => e = .returned (.bool true) ∧ Below w.heap.size w w' := by
  have HOK1 := Lib.hid hok1
  clear hok1
  go_enter Tryd.func17, Tryd.ntmps17
  go_wp2_with fail
  with_reducible refine (new_any _ _).mono ?_
  rintro e w1 ⟨rfl, hX, b1⟩
  obtain ⟨p, hp⟩ : ∃ p, p = w.heap.size := ⟨_, rfl⟩
  rw [← hp] at hX ⊢
  have hp1 : p < w1.heap.size := hX.blk.lt
  have hpw : w.heap.size ≤ p := by omega
  clear hp
  go_wp2_with fail
  with_reducible refine (rnew_any _ _).mono ?_
  rintro e w2 ⟨rfl, hY, b2⟩
  obtain ⟨p2, hp2⟩ : ∃ p2, p2 = w1.heap.size := ⟨_, rfl⟩
  rw [← hp2] at hY ⊢
  have P1 := Pr.new (hX.on b2) hY (by omega)
  have B2 := b1.trans (b2.mono b1.size)
  have hpl : p2 < w2.heap.size := hY.blk.lt
  have hpp : p < p2 := by omega
  clear hX hY b1 b2 hp2
  go_wp2_with fail
  with_reducible refine (new_any _ _).mono ?_
  rintro e w3 ⟨rfl, hX, b3⟩
  obtain ⟨p3, hp3⟩ : ∃ p3, p3 = w2.heap.size := ⟨_, rfl⟩
  rw [← hp3] at hX ⊢
  have hpl3 : p3 < w3.heap.size := hX.blk.lt
  have hpp3 : p2 < p3 := by omega
  have B3 := B2.trans (b3.mono B2.size)
  have P3 := P1.on b3
  clear hp3 b3 P1 B2 hpl
  go_wp2_with fail
  with_reducible refine (rnew_any _ _).mono ?_
  rintro e w4 ⟨rfl, hY, b4⟩
  obtain ⟨p4, hp4⟩ : ∃ p4, p4 = w3.heap.size := ⟨_, rfl⟩
  rw [← hp4] at hY ⊢
  have P2 := Pr.new (hX.on b4) hY (by omega)
  have hpp4 : p3 < p4 := by omega
  have R0 : PlRel w w4 p p2 p3 p4 a b ⟨[], [], 0⟩ ⟨[], [], 0⟩ [p, p2] [p3, p4] 0 :=
    ⟨P3.on b4, P2, by simp, by simp; omega, by simp; omega, B3.trans (b4.mono B3.size)⟩
  clear hX hY P3 P2 B3 b4 hp4 hp1 hpl3
  go_wp2_with fail
  go_loopw [11] (fun i wr => ∃ (k : Nat) (y1 y2 : PRef) (bs1 bs2 : List Nat), k ≤ sc.length ∧ k ≤ 240 ∧ i = .int .i64 k ∧ PlRel w wr p p2 p3 p4 a b y1 y2 bs1 bs2 k) (fun i wr => 240 - (intOf i).toNat)
  case atStart => exact ⟨0, _, _, _, _, Nat.zero_le _, by omega, rfl, R0⟩
  case round =>
    clear R0
    obtain ⟨k, y1, y2, bs1, bs2, hk, hk2, rfl, R⟩ := hrel
    by_cases hlt : k < sc.length
    · by_cases hlt2 : k < 240
      · obtain ⟨b', off, x, hA1, hx, hbl, s0, s1, s2, s3, s4, s5, s6, s7⟩ := (hl.below R.below).sop k hlt
        subst hA1
        have hcx : 0 ≤ x.o.c ∧ x.o.c ≤ 255 := HOK1.out x (List.mem_of_getElem? hx.out)
        obtain ⟨K, X, m, o⟩ := x
        dsimp only at hcx s0 s1 s2 s3 s4 s5 s6 s7
        clear hx
        have ba := below_alloc (Below.refl wr.heap.size wr) (.cells #[.int .i64 K, .bool X, .int .i64 m, .int .i64 o.k, .int .i64 o.p, .int .u8 o.c, .int .i64 o.l, .int .i64 o.s] 94)
        have kS := Blk.new wr #[.int .i64 K, .bool X, .int .i64 m, .int .i64 o.k, .int .i64 o.p, .int .u8 o.c, .int .i64 o.l, .int .i64 o.s] 94
        have Ra := R.on ba
        have hrW := hr.on Ra.below
        have hn1 : Hid (wr.heap.size ∉ bs1) := Lib.hid (fun hm => by have := R.x.lt _ hm; omega)
        have hn2 : Hid (wr.heap.size ∉ bs2) := Lib.hid (fun hm => by have := R.v.lt _ hm; omega)
        have hl1 := R.l
        obtain ⟨g1, g2, g3, g4⟩ := hl1
        rcases X with _ | _
        · go_wp2_with fail
          generalize wr.alloc (.cells #[.int .i64 K, .bool false, .int .i64 m, .int .i64 o.k, .int .i64 o.p, .int .u8 o.c, .int .i64 o.l, .int .i64 o.s] 94) = w5 at *
          with_reducible refine (step_any ⟨K, false, m, o⟩ _ hrW Ra.x hcx (by omega) (by omega)).mono ?_
          rintro e w6 ⟨rfl, y', bs', hs⟩
          have R6 := Ra.one hs
          have k6 := kS.but hs.but hn1.out
          obtain ⟨t0, t1, t2, t3, t4, t5, t6, t7⟩ := k6.eight8
          clear s0 s1 s2 s3 s4 s5 s6 s7 hs R Ra
          go_wp2_with fail
          go_roundw
          case rel => exact ⟨k + 1, y', y2, bs', bs2, by omega, by omega, by go_num, R6⟩
          case measure => simp [intOf]; omega
        · go_wp2_with fail
          generalize wr.alloc (.cells #[.int .i64 K, .bool true, .int .i64 m, .int .i64 o.k, .int .i64 o.p, .int .u8 o.c, .int .i64 o.l, .int .i64 o.s] 94) = w5 at *
          with_reducible refine (step_any ⟨K, true, m, o⟩ _ hrW Ra.v hcx (by omega) (by omega)).mono ?_
          rintro e w6 ⟨rfl, y', bs', hs⟩
          have R6 := Ra.two hs
          clear s0 s1 s2 s3 s4 s5 s6 s7 hs R Ra
          go_wp2_with fail
          go_roundw
          case rel => exact ⟨k + 1, y1, y', bs1, bs', by omega, by omega, by go_num, R6⟩
          case measure => simp [intOf]; omega
      · obtain ⟨A, c, A2, c2, B2, e2, hS, hR, hF, hQ⟩ := R.x.open_
        obtain ⟨A', c', A2', c2', B2', e2', hS', hR', hF', hQ'⟩ := R.v.open_
        obtain ⟨g1, g2, g3, g4⟩ := R.l
        have Bw := R.below
        clear R
        go_wp2_with fail
        with_reducible refine (last_any _ hS).mono ?_
        rintro e w5 ⟨rfl, h5⟩
        subst w5
        go_wp2_with fail
        with_reducible refine (rlast_any _ hR (by omega)).mono ?_
        rintro e w6 ⟨rfl, b6⟩
        replace hS := hS.on b6
        replace hR := hR.on b6
        replace hS' := hS'.on b6
        replace hR' := hR'.on b6
        replace Bw := Bw.trans (b6.mono Bw.size)
        clear b6
        go_wp2_with fail
        with_reducible refine (last_any _ hS').mono ?_
        rintro e w5 ⟨rfl, h5⟩
        subst w5
        go_wp2_with fail
        with_reducible refine (rlast_any _ hR' (by omega)).mono ?_
        rintro e w7 ⟨rfl, b6⟩
        replace hS := hS.on b6
        replace hR := hR.on b6
        replace hS' := hS'.on b6
        replace hR' := hR'.on b6
        replace Bw := Bw.trans (b6.mono Bw.size)
        clear b6
        go_wp2_with fail
        with_reducible refine (queue_any _ hS (by have := hQ.out; omega)).mono ?_
        rintro e w8 ⟨A5, c5, rfl, ow5, b6⟩
        replace hR := hR.on b6
        replace hS' := hS'.on b6
        replace hR' := hR'.on b6
        replace Bw := Bw.trans (b6.mono Bw.size)
        clear b6
        go_wp2_with fail
        with_reducible refine (rqueue_any _ hR (by omega) (by omega) hF.out).mono ?_
        rintro e w9 ⟨A6, c6, rfl, ow6, b6⟩
        have r5 := ow5.rd2.below b6
        replace hS' := hS'.on b6
        replace hR' := hR'.on b6
        replace Bw := Bw.trans (b6.mono Bw.size)
        clear b6 ow5
        go_wp2_with fail
        with_reducible refine (queues_yes _ _ _ _ (y1.queue a) _ r5 ow6.rd2 (by have := hQ.out; omega)).mono ?_
        rintro e w10 ⟨rfl, b6⟩
        replace hS' := hS'.on b6
        replace hR' := hR'.on b6
        replace Bw := Bw.trans (b6.mono Bw.size)
        clear b6 ow6 r5
        go_wp2_with fail
        with_reducible refine (queue_any _ hS' (by have := hQ'.out; omega)).mono ?_
        rintro e w11 ⟨A7, c7, rfl, ow5, b6⟩
        replace hR' := hR'.on b6
        replace Bw := Bw.trans (b6.mono Bw.size)
        clear b6
        go_wp2_with fail
        with_reducible refine (rqueue_any _ hR' (by omega) (by omega) hF'.out).mono ?_
        rintro e w12 ⟨A8, c8, rfl, ow6, b6⟩
        have r5 := ow5.rd2.below b6
        replace Bw := Bw.trans (b6.mono Bw.size)
        clear b6 ow5
        go_wp2_with fail
        with_reducible refine (queues_yes _ _ _ _ (y2.queue b) _ r5 ow6.rd2 (by have := hQ'.out; omega)).mono ?_
        rintro e w13 ⟨rfl, b6⟩
        replace Bw := Bw.trans (b6.mono Bw.size)
        go_wp2
        go_ret
        exact ⟨rfl, Bw⟩
    · obtain ⟨A, c, A2, c2, B2, e2, hS, hR, hF, hQ⟩ := R.x.open_
      obtain ⟨A', c', A2', c2', B2', e2', hS', hR', hF', hQ'⟩ := R.v.open_
      obtain ⟨g1, g2, g3, g4⟩ := R.l
      have Bw := R.below
      clear R
      go_wp2_with fail
      with_reducible refine (last_any _ hS).mono ?_
      rintro e w5 ⟨rfl, h5⟩
      subst w5
      go_wp2_with fail
      with_reducible refine (rlast_any _ hR (by omega)).mono ?_
      rintro e w6 ⟨rfl, b6⟩
      replace hS := hS.on b6
      replace hR := hR.on b6
      replace hS' := hS'.on b6
      replace hR' := hR'.on b6
      replace Bw := Bw.trans (b6.mono Bw.size)
      clear b6
      go_wp2_with fail
      with_reducible refine (last_any _ hS').mono ?_
      rintro e w5 ⟨rfl, h5⟩
      subst w5
      go_wp2_with fail
      with_reducible refine (rlast_any _ hR' (by omega)).mono ?_
      rintro e w7 ⟨rfl, b6⟩
      replace hS := hS.on b6
      replace hR := hR.on b6
      replace hS' := hS'.on b6
      replace hR' := hR'.on b6
      replace Bw := Bw.trans (b6.mono Bw.size)
      clear b6
      go_wp2_with fail
      with_reducible refine (queue_any _ hS (by have := hQ.out; omega)).mono ?_
      rintro e w8 ⟨A5, c5, rfl, ow5, b6⟩
      replace hR := hR.on b6
      replace hS' := hS'.on b6
      replace hR' := hR'.on b6
      replace Bw := Bw.trans (b6.mono Bw.size)
      clear b6
      go_wp2_with fail
      with_reducible refine (rqueue_any _ hR (by omega) (by omega) hF.out).mono ?_
      rintro e w9 ⟨A6, c6, rfl, ow6, b6⟩
      have r5 := ow5.rd2.below b6
      replace hS' := hS'.on b6
      replace hR' := hR'.on b6
      replace Bw := Bw.trans (b6.mono Bw.size)
      clear b6 ow5
      go_wp2_with fail
      with_reducible refine (queues_yes _ _ _ _ (y1.queue a) _ r5 ow6.rd2 (by have := hQ.out; omega)).mono ?_
      rintro e w10 ⟨rfl, b6⟩
      replace hS' := hS'.on b6
      replace hR' := hR'.on b6
      replace Bw := Bw.trans (b6.mono Bw.size)
      clear b6 ow6 r5
      go_wp2_with fail
      with_reducible refine (queue_any _ hS' (by have := hQ'.out; omega)).mono ?_
      rintro e w11 ⟨A7, c7, rfl, ow5, b6⟩
      replace hR' := hR'.on b6
      replace Bw := Bw.trans (b6.mono Bw.size)
      clear b6
      go_wp2_with fail
      with_reducible refine (rqueue_any _ hR' (by omega) (by omega) hF'.out).mono ?_
      rintro e w12 ⟨A8, c8, rfl, ow6, b6⟩
      have r5 := ow5.rd2.below b6
      replace Bw := Bw.trans (b6.mono Bw.size)
      clear b6 ow5
      go_wp2_with fail
      with_reducible refine (queues_yes _ _ _ _ (y2.queue b) _ r5 ow6.rd2 (by have := hQ'.out; omega)).mono ?_
      rintro e w13 ⟨rfl, b6⟩
      replace Bw := Bw.trans (b6.mono Bw.size)
      go_wp2
      go_ret
      exact ⟨rfl, Bw⟩
end Go.Proofs.YtkicbnkacjnhoaaDoor
