/- The walk of jotterlaw10.SpaceMeets: it answers true. -/
import Derived.Test.YtkicbnkacjnhoaaDoorAct
import Derived.Deep.LoopGhost
namespace Go.Proofs.YtkicbnkacjnhoaaDoor
open Go.RowKit
set_option linter.unusedVariables false
set_option linter.unusedSimpArgs false

def actF : Flat PAct := ⟨5, fun a => [.int .i64 a.k, .bool a.nop, .bool a.out, .int .i64 a.n, .int .u8 a.ch], fun _ => rfl⟩
def PAct.Fine (a : PAct) : Prop := (0 ≤ a.ch ∧ a.ch ≤ 255) ∧ (-9223372036854775808 ≤ a.n ∧ a.n ≤ 9223372036854775807) ∧ (-9223372036854775808 ≤ a.k ∧ a.k ≤ 9223372036854775807)
theorem Rd.act {w : World} {A : Option Addr} {xs : List PAct} (h : Rd actF w A xs) (i : Nat) (hi : i < xs.length) :
    ∃ b off x, A = some ⟨b, off, none⟩ ∧ Hid (xs[i]? = some x) ∧ b < w.heap.size ∧ w.cell? ⟨b, off + i * 5, none⟩ = some (.int .i64 x.k) ∧ w.cell? ⟨b, off + i * 5 + 1, none⟩ = some (.bool x.nop) ∧ w.cell? ⟨b, off + i * 5 + 2, none⟩ = some (.bool x.out) ∧ w.cell? ⟨b, off + i * 5 + 3, none⟩ = some (.int .i64 x.n) ∧ w.cell? ⟨b, off + i * 5 + 4, none⟩ = some (.int .u8 x.ch) := by
  obtain ⟨b, off, e, hc⟩ := h.at_ i hi
  have h0 := hc 0 _ rfl
  exact ⟨b, off, xs[i], e, List.getElem?_eq_getElem hi, World.block_lt_of_cell? w _ h0, h0, hc 1 _ rfl, hc 2 _ rfl, hc 3 _ rfl, hc 4 _ rfl⟩
set_option maxHeartbeats 2000000 in
theorem same_quiet (A1 A2 : Option Addr) (c1 c2 : Nat) (xs : List PEl) (w : World) (h1 : Rd elF w A1 xs) (h2 : Rd elF w A2 xs) (l1 : xs.length ≤ 1000000) :
    Calls Tryd.prog 64 #[.slice A1 xs.length c1, .slice A2 xs.length c2] w fun e w' => e = .returned (.bool true) ∧ ∃ n, w' = w.drewN n := by
  go_enter Tryd.func64, Tryd.ntmps64
  go_wp2
  go_loopw [5] (fun i wr => ∃ k : Nat, k ≤ xs.length ∧ i = .int .i64 k ∧ ∃ n, wr = w.drewN n) (fun i wr => xs.length - (intOf i).toNat)
  case atStart => exact ⟨0, Nat.zero_le _, rfl, 0, rfl⟩
  case round =>
    obtain ⟨k, hk, rfl, n, rfl⟩ := hrel
    by_cases hlt : k < xs.length
    · obtain ⟨b1, o1, x, rfl, hx, hb1, e0, e1, e2⟩ := h1.el k hlt
      obtain ⟨b2, o2, x', rfl, hx', hb2, f0, f1, f2⟩ := h2.el k hlt
      have hxx : x = x' := Option.some.inj (hx.out.symm.trans hx'.out)
      subst hxx
      clear hx hx'
      go_wp2_with fail
      go_quiet (fail)
      go_wp2
      go_roundw
      case rel => exact ⟨k + 1, by omega, by go_num, _, rfl⟩
      case measure => simp [intOf]; omega
    · go_wp2
      go_ret
      exact ⟨rfl, _, rfl⟩
/-- What the loops carry. -/
structure MtRel (w wr : World) (L M : Loc) (s t : PSd) (k : Nat) : Prop where
  a1 : SdAt wr L s true
  a2 : SdAt wr M t false
  dj : ∀ b ∈ L.foot, b ∉ M.foot
  ge1 : ∀ b ∈ L.foot, w.heap.size ≤ b
  ge2 : ∀ b ∈ M.foot, w.heap.size ≤ b
  below : Below w.heap.size w wr
  mv : MV true s t k
section
variable {w wr w' : World} {L M L' M' : Loc} {s t s' t' : PSd} {k k' : Nat}
theorem MtRel.step (h : MtRel w wr L M s t k) (h2 : Two2 wr w' L L' M M' s' t' true false) (hm : MV true s' t' k') : MtRel w w' L' M' s' t' k' :=
  ⟨h2.a1, h2.a2, h2.dj, fun b hb => by
    rcases h2.far1 b hb with h1 | h1
    · exact h.ge1 b h1
    · exact Nat.le_trans h.below.size h1, fun b hb => by
    rcases h2.far2 b hb with h1 | h1
    · exact h.ge2 b h1
    · exact Nat.le_trans h.below.size h1, h2.but.below h.below h.below.size (fun b hb => by
    rcases List.mem_append.1 hb with h1 | h1
    · exact h.ge1 b h1
    · exact h.ge2 b h1), hm⟩
theorem MtRel.on (h : MtRel w wr L M s t k) (hb : Below wr.heap.size wr w') : MtRel w w' L M s t k :=
  ⟨h.a1.on hb, h.a2.on hb, h.dj, h.ge1, h.ge2, h.below.trans (hb.mono h.below.size), h.mv⟩
theorem MtRel.zero (h : MtRel w wr L M s t k) (hw : 0 < w.heap.size) : 0 ∉ L.foot ++ M.foot := fun hm => by
  rcases List.mem_append.1 hm with h1 | h1
  · have := h.ge1 0 h1; omega
  · have := h.ge2 0 h1; omega
end
theorem takeS_way1 (f : Bool) (s t : PSd) : (takeS f s t).1.way = s.way := by
  unfold takeS
  split <;> rfl
theorem takeS_way2 (f : Bool) (s t : PSd) : (takeS f s t).2.way = t.way.tail := by
  unfold takeS
  split
  · rename_i h; rw [h]; rfl
  · rename_i h; rw [h]; rfl
set_option maxHeartbeats 8000000 in
set_option maxRecDepth 100000 in
theorem meets_any (n : Int) (A1 : Option Addr) (c1 : Nat) (acts : List PAct) (w : World) (hR : RulesAt w) (hl : Rd actF w A1 acts) (hok : ∀ a ∈ acts, a.Fine) (z1 : acts.length ≤ 9223372036854775807) (hn1 : -9223372036854775808 ≤ n) (hn2 : n ≤ 9223372036854775807) :
    Calls Tryd.prog 19 #[.int .i64 n, .slice A1 acts.length c1] w fun e w' => e = .returned (.bool true) ∧ Below w.heap.size w w' := by
  have HOK := Lib.hid hok
  have hwp := hR.pos
  clear hok
  go_enter Tryd.func19, Tryd.ntmps19
  go_wp2_with fail
  with_reducible refine (sides_any n _ hn1 hn2).mono ?_
  rintro e w1 ⟨L, M, rfl, h1, h2, hD, hb⟩
  have hx39 : Hid ((begL (n % 40).toNat).length ≤ 39) := Lib.hid (by
    rw [begL_length]
    have := Int.emod_nonneg n (show (40 : Int) ≠ 0 by omega)
    have := Int.emod_lt_of_pos n (show (0 : Int) < 40 by omega)
    omega)
  have R0 : MtRel w w1 L M (sd0 (begL (n % 40).toNat) 0) (sd0 (begL (n % 40).toNat) 32) 0 := ⟨h1, h2, hD.out.1, hD.out.2.1, hD.out.2.2, hb, MV.start _ hx39.out⟩
  obtain ⟨p1, hp1⟩ : ∃ p1, p1 = L.ps := ⟨_, rfl⟩
  obtain ⟨p2, hp2⟩ : ∃ p2, p2 = M.ps := ⟨_, rfl⟩
  obtain ⟨e0, e1, e2, e3, e4, e5, e6⟩ := h1.blk.seven
  obtain ⟨f0, f1, f2, f3, f4, f5, f6⟩ := h2.blk.seven
  rw [← hp1] at e0 e1 e2 e3 e4 e5 e6 ⊢
  rw [← hp2] at f0 f1 f2 f3 f4 f5 f6 ⊢
  have HP1 := Lib.hid hp1.symm
  have HP2 := Lib.hid hp2.symm
  clear hp1 hp2 h1 h2 hD hb hx39
  go_wp2_with fail
  clear e0 e1 e2 e3 e4 e5 e6 f0 f1 f2 f3 f4 f5 f6
  go_loopw [7] (fun i wr => ∃ (k : Nat) (s t : PSd) (L M : Loc), k ≤ acts.length ∧ k ≤ 240 ∧ i = .int .i64 k ∧ Hid (L.ps = p1) ∧ Hid (M.ps = p2) ∧ Hid (MtRel w wr L M s t k)) (fun i wr => 240 - (intOf i).toNat)
  case atStart => exact ⟨0, _, _, L, M, Nat.zero_le _, by omega, rfl, HP1, HP2, Lib.hid R0⟩
  case round =>
    clear R0 HP1 HP2
    obtain ⟨k, s, t, L, M, hk, hk2, rfl, hL, hM, HR⟩ := hrel
    by_cases hlt : k < acts.length
    · by_cases hlt2 : k < 240
      · obtain ⟨b, off, a, hA, ha, hbl, s0, s1, s2, s3, s4⟩ := (hl.below HR.out.below).act k hlt
        subst hA
        have hf := HOK.out a (List.mem_of_getElem? ha.out)
        obtain ⟨hf1, hf2, hf3⟩ := hf
        have hz := HR.out.zero hwp
        have HZ := Lib.hid hz
        have hRr := hR.on HR.out.below
        have h1 := HR.out.a1
        have h2 := HR.out.a2
        have DJ := Lib.hid HR.out.dj
        have HMV := Lib.hid HR.out.mv
        obtain ⟨ps, T, cT, p, A, c, V, cV, G, cG⟩ := L
        obtain ⟨qs, T2, cT2, p2', A2, c2, V2, cV2, G2, cG2⟩ := M
        obtain rfl : p1 = ps := hL.out.symm
        obtain rfl : p2 = qs := hM.out.symm
        clear hz hL hM ha
        go_wp2_with fail
        with_reducible refine (act_any a ⟨p1, T, cT, p, A, c, V, cV, G, cG⟩ ⟨p2, T2, cT2, p2', A2, c2, V2, cV2, G2, cG2⟩ s t k _ hRr h1 h2 DJ.out HZ.out HMV.out hk2 hf1 hf2 hf3).mono ?_
        rintro r w2 ⟨rfl, L', M', h3⟩
        have R1 := HR.out.step h3 (HMV.out.actS a hf1 hk2)
        have hL' : Hid (L'.ps = p1) := Lib.hid h3.ps
        have hM' : Hid (M'.ps = p2) := Lib.hid h3.qs
        generalize (actS a s t).1 = s' at *
        generalize (actS a s t).2 = t' at *
        have HR1 := Lib.hid R1
        obtain ⟨e0, e1, e2, e3, e4, e5, e6⟩ := R1.a1.blk.seven
        obtain ⟨f0, f1, f2, f3, f4, f5, f6⟩ := R1.a2.blk.seven
        rw [hL'.out] at e0 e1 e2 e3 e4 e5 e6
        rw [hM'.out] at f0 f1 f2 f3 f4 f5 f6
        clear s0 s1 s2 s3 s4 h1 h2 h3 R1 HR HMV DJ HZ hRr
        have hxl : Hid (s'.x.length ≤ 1000000) := Lib.hid (by have := HR1.out.mv.x1; omega)
        by_cases hw1 : s'.way = []
        · by_cases hw2 : t'.way = []
          · have hst : s'.x = t'.x := HR1.out.mv.meet.same hw1 hw2
            have HST := Lib.hid hst
            have rt1 := HR1.out.a1.tx
            have rt2 := HR1.out.a2.tx
            rw [← HST.out] at rt2 f0
            rw [hw1] at e4
            rw [hw2] at f4
            clear hst hw1 hw2
            go_wp2_with fail
            go_quiet ((go_at_call 64; exact Calls.quiet_of (same_quiet _ _ _ _ s'.x _ (rt1.drewN _) (rt2.drewN _) hxl.out)))
            go_wp2
            go_roundw
            case rel => exact ⟨k + 1, s', t', L', M', by omega, by omega, by go_num, hL', hM', Lib.hid (HR1.out.on (below_drewN (Below.refl _ _) _))⟩
            case measure => simp [intOf]; omega
          · have q1 : ((t'.way.length : Int) == 0) = false := by simp; exact hw2
            rw [hw1] at e4
            clear hw1 hw2
            go_wp2_with fail
            go_quiet (fail)
            go_wp2
            go_roundw
            case rel => exact ⟨k + 1, s', t', L', M', by omega, by omega, by go_num, hL', hM', Lib.hid (HR1.out.on (below_drewN (Below.refl _ _) _))⟩
            case measure => simp [intOf]; omega
        · have q1 : ((s'.way.length : Int) == 0) = false := by simp; exact hw1
          clear hw1
          go_wp2_with fail
          go_quiet (fail)
          go_wp2
          go_roundw
          case rel => exact ⟨k + 1, s', t', L', M', by omega, by omega, by go_num, hL', hM', Lib.hid (HR1.out.on (below_drewN (Below.refl _ _) _))⟩
          case measure => simp [intOf]; omega
      · go_wp2_with fail
        go_loopg [] (s.way.length + t.way.length) (fun gk wr => ∃ (s t : PSd) (L M : Loc), Hid (L.ps = p1) ∧ Hid (M.ps = p2) ∧ Hid (MtRel w wr L M s t k) ∧ s.way.length + t.way.length ≤ gk)
        case atStart => exact ⟨s, t, L, M, hL, hM, HR, Nat.le_refl _⟩
        case round =>
          clear HR hL hM
          obtain ⟨s, t, L, M, hL, hM, HR, hlen⟩ := hrel
          obtain ⟨e0, e1, e2, e3, e4, e5, e6⟩ := HR.out.a1.blk.seven
          obtain ⟨f0, f1, f2, f3, f4, f5, f6⟩ := HR.out.a2.blk.seven
          rw [hL.out] at e0 e1 e2 e3 e4 e5 e6
          rw [hM.out] at f0 f1 f2 f3 f4 f5 f6
          have hz := HR.out.zero hwp
          have HZ := Lib.hid hz
          have hRr := hR.on HR.out.below
          have h1 := HR.out.a1
          have h2 := HR.out.a2
          have DJ := Lib.hid HR.out.dj
          have HMV := Lib.hid HR.out.mv
          have hxl : Hid (s.x.length ≤ 1000000) := Lib.hid (by have := HR.out.mv.x1; omega)
          clear hz
          by_cases hw1 : s.way = []
          · by_cases hw2 : t.way = []
            · have hst : s.x = t.x := HR.out.mv.meet.same hw1 hw2
              have HST := Lib.hid hst
              have rt1 := h1.tx
              have rt2 := h2.tx
              rw [← HST.out] at rt2 f0
              rw [hw1] at e4
              rw [hw2] at f4
              clear hst hw1 hw2 hlen
              go_wp2_with fail
              go_quiet ((go_at_call 64; exact Calls.quiet_of (same_quiet _ _ _ _ s.x _ (rt1.drewN _) (rt2.drewN _) hxl.out)))
              go_wp2
              go_ret
              exact ⟨rfl, below_drewN HR.out.below _⟩
            · have q1 : decide (0 < t.way.length) = true := decide_eq_true (List.length_pos_iff.2 hw2)
              have q2 : decide ((0 : Int) < (t.way.length : Int)) = true := decide_eq_true (by have := List.length_pos_iff.2 hw2; omega)
              have hpos := List.length_pos_iff.2 hw2
              have hw1' := Lib.hid hw1
              rw [hw1] at e4
              clear hw1 hw2
              obtain ⟨ps, T, cT, p, A, c, V, cV, G, cG⟩ := L
              obtain ⟨qs, T2, cT2, p2', A2, c2, V2, cV2, G2, cG2⟩ := M
              obtain rfl : p1 = ps := hL.out.symm
              obtain rfl : p2 = qs := hM.out.symm
              clear hL hM
              go_wp2_with fail
              with_reducible refine (takes_two ⟨p1, T, cT, p, A, c, V, cV, G, cG⟩ ⟨p2, T2, cT2, p2', A2, c2, V2, cV2, G2, cG2⟩ s t true false k _ hRr h1 h2 DJ.out HZ.out HMV.out hk2).mono ?_
              rintro r w2 ⟨rfl, L', M', h3⟩
              have R1 := HR.out.step h3 (HMV.out.takeS (by omega))
              have hL' : Hid (L'.ps = p1) := Lib.hid h3.ps
              have hM' : Hid (M'.ps = p2) := Lib.hid h3.qs
              have y1 := takeS_way1 true s t
              have y2 := takeS_way2 true s t
              have Y1 := Lib.hid y1
              have Y2 := Lib.hid y2
              clear y1 y2 h3 HR h1 h2 DJ HZ HMV hRr e0 e1 e2 e3 e4 e5 e6 f0 f1 f2 f3 f4 f5 f6
              generalize (takeS true s t).1 = s' at *
              generalize (takeS true s t).2 = t' at *
              have HR1 := Lib.hid R1
              have hz := HR1.out.zero hwp
              have HZ : Hid (0 ∉ M'.foot ++ L'.foot) := Lib.hid (fun hm => hz (by rcases List.mem_append.1 hm with h | h; exact List.mem_append_right _ h; exact List.mem_append_left _ h))
              have hRr := hR.on HR1.out.below
              have h1 := R1.a1
              have h2 := R1.a2
              have DJ : Hid (∀ b ∈ M'.foot, b ∉ L'.foot) := Lib.hid (fun b hb hm => HR1.out.dj b hm hb)
              have HMV : Hid (MV false t' s' k) := Lib.hid HR1.out.mv.symm
              clear R1 hz
              obtain ⟨ps, T, cT, p, A, c, V, cV, G, cG⟩ := L'
              obtain ⟨qs, T2, cT2, p2', A2, c2, V2, cV2, G2, cG2⟩ := M'
              obtain rfl : p1 = ps := hL'.out.symm
              obtain rfl : p2 = qs := hM'.out.symm
              clear hL' hM'
              go_wp2_with fail
              with_reducible refine (takes_two ⟨p2, T2, cT2, p2', A2, c2, V2, cV2, G2, cG2⟩ ⟨p1, T, cT, p, A, c, V, cV, G, cG⟩ t' s' false true k _ hRr h2 h1 DJ.out HZ.out HMV.out hk2).mono ?_
              rintro r w3 ⟨rfl, M', L', h3⟩
              have R2 := HR1.out.step h3.swap (HMV.out.takeS (by omega)).symm
              have hL' : Hid (L'.ps = p1) := Lib.hid h3.qs
              have hM' : Hid (M'.ps = p2) := Lib.hid h3.ps
              have Z1 := Lib.hid (takeS_way1 false t' s')
              have Z2 := Lib.hid (takeS_way2 false t' s')
              have HR2 := Lib.hid R2
              clear R2 h3 HR1 h1 h2 DJ HZ HMV hRr
              go_wp2_with fail
              go_roundg (s.way.tail.length + t.way.tail.length)
              case measure =>
                have := hlen
                simp only [List.length_tail]; omega
              case rel =>
                refine ⟨_, _, L', M', hL', hM', HR2, ?_⟩
                rw [Z1.out, Z2.out, Y1.out, Y2.out]
                omega
          · have q1 : decide (0 < s.way.length) = true := decide_eq_true (List.length_pos_iff.2 hw1)
            have q2 : decide ((0 : Int) < (s.way.length : Int)) = true := decide_eq_true (by have := List.length_pos_iff.2 hw1; omega)
            have hpos := List.length_pos_iff.2 hw1
            clear hw1
            obtain ⟨ps, T, cT, p, A, c, V, cV, G, cG⟩ := L
            obtain ⟨qs, T2, cT2, p2', A2, c2, V2, cV2, G2, cG2⟩ := M
            obtain rfl : p1 = ps := hL.out.symm
            obtain rfl : p2 = qs := hM.out.symm
            clear hL hM
            go_wp2_with fail
            with_reducible refine (takes_two ⟨p1, T, cT, p, A, c, V, cV, G, cG⟩ ⟨p2, T2, cT2, p2', A2, c2, V2, cV2, G2, cG2⟩ s t true false k _ hRr h1 h2 DJ.out HZ.out HMV.out hk2).mono ?_
            rintro r w2 ⟨rfl, L', M', h3⟩
            have R1 := HR.out.step h3 (HMV.out.takeS (by omega))
            have hL' : Hid (L'.ps = p1) := Lib.hid h3.ps
            have hM' : Hid (M'.ps = p2) := Lib.hid h3.qs
            have y1 := takeS_way1 true s t
            have y2 := takeS_way2 true s t
            have Y1 := Lib.hid y1
            have Y2 := Lib.hid y2
            clear y1 y2 h3 HR h1 h2 DJ HZ HMV hRr e0 e1 e2 e3 e4 e5 e6 f0 f1 f2 f3 f4 f5 f6
            generalize (takeS true s t).1 = s' at *
            generalize (takeS true s t).2 = t' at *
            have HR1 := Lib.hid R1
            have hz := HR1.out.zero hwp
            have HZ : Hid (0 ∉ M'.foot ++ L'.foot) := Lib.hid (fun hm => hz (by rcases List.mem_append.1 hm with h | h; exact List.mem_append_right _ h; exact List.mem_append_left _ h))
            have hRr := hR.on HR1.out.below
            have h1 := R1.a1
            have h2 := R1.a2
            have DJ : Hid (∀ b ∈ M'.foot, b ∉ L'.foot) := Lib.hid (fun b hb hm => HR1.out.dj b hm hb)
            have HMV : Hid (MV false t' s' k) := Lib.hid HR1.out.mv.symm
            clear R1 hz
            obtain ⟨ps, T, cT, p, A, c, V, cV, G, cG⟩ := L'
            obtain ⟨qs, T2, cT2, p2', A2, c2, V2, cV2, G2, cG2⟩ := M'
            obtain rfl : p1 = ps := hL'.out.symm
            obtain rfl : p2 = qs := hM'.out.symm
            clear hL' hM'
            go_wp2_with fail
            with_reducible refine (takes_two ⟨p2, T2, cT2, p2', A2, c2, V2, cV2, G2, cG2⟩ ⟨p1, T, cT, p, A, c, V, cV, G, cG⟩ t' s' false true k _ hRr h2 h1 DJ.out HZ.out HMV.out hk2).mono ?_
            rintro r w3 ⟨rfl, M', L', h3⟩
            have R2 := HR1.out.step h3.swap (HMV.out.takeS (by omega)).symm
            have hL' : Hid (L'.ps = p1) := Lib.hid h3.qs
            have hM' : Hid (M'.ps = p2) := Lib.hid h3.ps
            have Z1 := Lib.hid (takeS_way1 false t' s')
            have Z2 := Lib.hid (takeS_way2 false t' s')
            have HR2 := Lib.hid R2
            clear R2 h3 HR1 h1 h2 DJ HZ HMV hRr
            go_wp2_with fail
            go_roundg (s.way.tail.length + t.way.tail.length)
            case measure =>
              have := hlen
              simp only [List.length_tail]; omega
            case rel =>
              refine ⟨_, _, L', M', hL', hM', HR2, ?_⟩
              rw [Z1.out, Z2.out, Y1.out, Y2.out]
              omega
    · go_wp2_with fail
      go_loopg [] (s.way.length + t.way.length) (fun gk wr => ∃ (s t : PSd) (L M : Loc), Hid (L.ps = p1) ∧ Hid (M.ps = p2) ∧ Hid (MtRel w wr L M s t k) ∧ s.way.length + t.way.length ≤ gk)
      case atStart => exact ⟨s, t, L, M, hL, hM, HR, Nat.le_refl _⟩
      case round =>
        clear HR hL hM
        obtain ⟨s, t, L, M, hL, hM, HR, hlen⟩ := hrel
        obtain ⟨e0, e1, e2, e3, e4, e5, e6⟩ := HR.out.a1.blk.seven
        obtain ⟨f0, f1, f2, f3, f4, f5, f6⟩ := HR.out.a2.blk.seven
        rw [hL.out] at e0 e1 e2 e3 e4 e5 e6
        rw [hM.out] at f0 f1 f2 f3 f4 f5 f6
        have hz := HR.out.zero hwp
        have HZ := Lib.hid hz
        have hRr := hR.on HR.out.below
        have h1 := HR.out.a1
        have h2 := HR.out.a2
        have DJ := Lib.hid HR.out.dj
        have HMV := Lib.hid HR.out.mv
        have hxl : Hid (s.x.length ≤ 1000000) := Lib.hid (by have := HR.out.mv.x1; omega)
        clear hz
        by_cases hw1 : s.way = []
        · by_cases hw2 : t.way = []
          · have hst : s.x = t.x := HR.out.mv.meet.same hw1 hw2
            have HST := Lib.hid hst
            have rt1 := h1.tx
            have rt2 := h2.tx
            rw [← HST.out] at rt2 f0
            rw [hw1] at e4
            rw [hw2] at f4
            clear hst hw1 hw2 hlen
            go_wp2_with fail
            go_quiet ((go_at_call 64; exact Calls.quiet_of (same_quiet _ _ _ _ s.x _ (rt1.drewN _) (rt2.drewN _) hxl.out)))
            go_wp2
            go_ret
            exact ⟨rfl, below_drewN HR.out.below _⟩
          · have q1 : decide (0 < t.way.length) = true := decide_eq_true (List.length_pos_iff.2 hw2)
            have q2 : decide ((0 : Int) < (t.way.length : Int)) = true := decide_eq_true (by have := List.length_pos_iff.2 hw2; omega)
            have hpos := List.length_pos_iff.2 hw2
            have hw1' := Lib.hid hw1
            rw [hw1] at e4
            clear hw1 hw2
            obtain ⟨ps, T, cT, p, A, c, V, cV, G, cG⟩ := L
            obtain ⟨qs, T2, cT2, p2', A2, c2, V2, cV2, G2, cG2⟩ := M
            obtain rfl : p1 = ps := hL.out.symm
            obtain rfl : p2 = qs := hM.out.symm
            clear hL hM
            go_wp2_with fail
            with_reducible refine (takes_two ⟨p1, T, cT, p, A, c, V, cV, G, cG⟩ ⟨p2, T2, cT2, p2', A2, c2, V2, cV2, G2, cG2⟩ s t true false k _ hRr h1 h2 DJ.out HZ.out HMV.out hk2).mono ?_
            rintro r w2 ⟨rfl, L', M', h3⟩
            have R1 := HR.out.step h3 (HMV.out.takeS (by omega))
            have hL' : Hid (L'.ps = p1) := Lib.hid h3.ps
            have hM' : Hid (M'.ps = p2) := Lib.hid h3.qs
            have y1 := takeS_way1 true s t
            have y2 := takeS_way2 true s t
            have Y1 := Lib.hid y1
            have Y2 := Lib.hid y2
            clear y1 y2 h3 HR h1 h2 DJ HZ HMV hRr e0 e1 e2 e3 e4 e5 e6 f0 f1 f2 f3 f4 f5 f6
            generalize (takeS true s t).1 = s' at *
            generalize (takeS true s t).2 = t' at *
            have HR1 := Lib.hid R1
            have hz := HR1.out.zero hwp
            have HZ : Hid (0 ∉ M'.foot ++ L'.foot) := Lib.hid (fun hm => hz (by rcases List.mem_append.1 hm with h | h; exact List.mem_append_right _ h; exact List.mem_append_left _ h))
            have hRr := hR.on HR1.out.below
            have h1 := R1.a1
            have h2 := R1.a2
            have DJ : Hid (∀ b ∈ M'.foot, b ∉ L'.foot) := Lib.hid (fun b hb hm => HR1.out.dj b hm hb)
            have HMV : Hid (MV false t' s' k) := Lib.hid HR1.out.mv.symm
            clear R1 hz
            obtain ⟨ps, T, cT, p, A, c, V, cV, G, cG⟩ := L'
            obtain ⟨qs, T2, cT2, p2', A2, c2, V2, cV2, G2, cG2⟩ := M'
            obtain rfl : p1 = ps := hL'.out.symm
            obtain rfl : p2 = qs := hM'.out.symm
            clear hL' hM'
            go_wp2_with fail
            with_reducible refine (takes_two ⟨p2, T2, cT2, p2', A2, c2, V2, cV2, G2, cG2⟩ ⟨p1, T, cT, p, A, c, V, cV, G, cG⟩ t' s' false true k _ hRr h2 h1 DJ.out HZ.out HMV.out hk2).mono ?_
            rintro r w3 ⟨rfl, M', L', h3⟩
            have R2 := HR1.out.step h3.swap (HMV.out.takeS (by omega)).symm
            have hL' : Hid (L'.ps = p1) := Lib.hid h3.qs
            have hM' : Hid (M'.ps = p2) := Lib.hid h3.ps
            have Z1 := Lib.hid (takeS_way1 false t' s')
            have Z2 := Lib.hid (takeS_way2 false t' s')
            have HR2 := Lib.hid R2
            clear R2 h3 HR1 h1 h2 DJ HZ HMV hRr
            go_wp2_with fail
            go_roundg (s.way.tail.length + t.way.tail.length)
            case measure =>
              have := hlen
              simp only [List.length_tail]; omega
            case rel =>
              refine ⟨_, _, L', M', hL', hM', HR2, ?_⟩
              rw [Z1.out, Z2.out, Y1.out, Y2.out]
              omega
        · have q1 : decide (0 < s.way.length) = true := decide_eq_true (List.length_pos_iff.2 hw1)
          have q2 : decide ((0 : Int) < (s.way.length : Int)) = true := decide_eq_true (by have := List.length_pos_iff.2 hw1; omega)
          have hpos := List.length_pos_iff.2 hw1
          clear hw1
          obtain ⟨ps, T, cT, p, A, c, V, cV, G, cG⟩ := L
          obtain ⟨qs, T2, cT2, p2', A2, c2, V2, cV2, G2, cG2⟩ := M
          obtain rfl : p1 = ps := hL.out.symm
          obtain rfl : p2 = qs := hM.out.symm
          clear hL hM
          go_wp2_with fail
          with_reducible refine (takes_two ⟨p1, T, cT, p, A, c, V, cV, G, cG⟩ ⟨p2, T2, cT2, p2', A2, c2, V2, cV2, G2, cG2⟩ s t true false k _ hRr h1 h2 DJ.out HZ.out HMV.out hk2).mono ?_
          rintro r w2 ⟨rfl, L', M', h3⟩
          have R1 := HR.out.step h3 (HMV.out.takeS (by omega))
          have hL' : Hid (L'.ps = p1) := Lib.hid h3.ps
          have hM' : Hid (M'.ps = p2) := Lib.hid h3.qs
          have y1 := takeS_way1 true s t
          have y2 := takeS_way2 true s t
          have Y1 := Lib.hid y1
          have Y2 := Lib.hid y2
          clear y1 y2 h3 HR h1 h2 DJ HZ HMV hRr e0 e1 e2 e3 e4 e5 e6 f0 f1 f2 f3 f4 f5 f6
          generalize (takeS true s t).1 = s' at *
          generalize (takeS true s t).2 = t' at *
          have HR1 := Lib.hid R1
          have hz := HR1.out.zero hwp
          have HZ : Hid (0 ∉ M'.foot ++ L'.foot) := Lib.hid (fun hm => hz (by rcases List.mem_append.1 hm with h | h; exact List.mem_append_right _ h; exact List.mem_append_left _ h))
          have hRr := hR.on HR1.out.below
          have h1 := R1.a1
          have h2 := R1.a2
          have DJ : Hid (∀ b ∈ M'.foot, b ∉ L'.foot) := Lib.hid (fun b hb hm => HR1.out.dj b hm hb)
          have HMV : Hid (MV false t' s' k) := Lib.hid HR1.out.mv.symm
          clear R1 hz
          obtain ⟨ps, T, cT, p, A, c, V, cV, G, cG⟩ := L'
          obtain ⟨qs, T2, cT2, p2', A2, c2, V2, cV2, G2, cG2⟩ := M'
          obtain rfl : p1 = ps := hL'.out.symm
          obtain rfl : p2 = qs := hM'.out.symm
          clear hL' hM'
          go_wp2_with fail
          with_reducible refine (takes_two ⟨p2, T2, cT2, p2', A2, c2, V2, cV2, G2, cG2⟩ ⟨p1, T, cT, p, A, c, V, cV, G, cG⟩ t' s' false true k _ hRr h2 h1 DJ.out HZ.out HMV.out hk2).mono ?_
          rintro r w3 ⟨rfl, M', L', h3⟩
          have R2 := HR1.out.step h3.swap (HMV.out.takeS (by omega)).symm
          have hL' : Hid (L'.ps = p1) := Lib.hid h3.qs
          have hM' : Hid (M'.ps = p2) := Lib.hid h3.ps
          have Z1 := Lib.hid (takeS_way1 false t' s')
          have Z2 := Lib.hid (takeS_way2 false t' s')
          have HR2 := Lib.hid R2
          clear R2 h3 HR1 h1 h2 DJ HZ HMV hRr
          go_wp2_with fail
          go_roundg (s.way.tail.length + t.way.tail.length)
          case measure =>
            have := hlen
            simp only [List.length_tail]; omega
          case rel =>
            refine ⟨_, _, L', M', hL', hM', HR2, ?_⟩
            rw [Z1.out, Z2.out, Y1.out, Y2.out]
            omega
end Go.Proofs.YtkicbnkacjnhoaaDoor
