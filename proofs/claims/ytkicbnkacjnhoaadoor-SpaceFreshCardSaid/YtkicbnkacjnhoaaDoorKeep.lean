/- The walks of package space's New, Last, Queue, Keep, DropTo. -/
import Derived.Test.YtkicbnkacjnhoaaDoorSp
import Derived.Test.YtkicbnkacjnhoaaDoorCuts
namespace Go.Proofs.YtkicbnkacjnhoaaDoor
open Go.RowKit
set_option linter.unusedVariables false
set_option linter.unusedSimpArgs false

theorem new_any (f : Bool) (w : World) : Calls Tryd.prog 54 #[.bool f] w fun e w' => e = .returned (.pointer (some ⟨w.heap.size, 0, none⟩)) ∧ SpAt w' w.heap.size none 0 [] 0 f ∧ Below w.heap.size w w' := by
  go_enter Tryd.func54, Tryd.ntmps54
  go_wp2
  go_ret
  exact ⟨rfl, ⟨Blk.new _ _ _, OwnV.nil _ _, by simp [own]⟩, below_alloc (Below.refl _ _) _⟩

theorem OwnV.drew {α : Type} {F : Flat α} {e : TypeId} {w : World} {base : Nat} {v : Value} {xs : List α} (h : OwnV F e base w v xs) : OwnV F e base w.drew v xs := h
theorem Blk.rdMk {w : World} {b : Nat} {t : TypeId} {x : PMk} (h : Blk w b (mkF.cells x).toArray t) : Rd mkF w (some ⟨b, 0, none⟩) [x] :=
  ⟨fun i hi => ⟨b, 0, rfl, fun j u hu => by
    obtain rfl : i = 0 := by simp at hi; omega
    rw [h.cell]
    simpa using hu⟩⟩

section
variable {p : Nat} {A : Option Addr} {c : Nat} {q : List PMk} {last : Int} {first : Bool}
theorem last_any (w : World) (h : SpAt w p A c q last first) : Calls Tryd.prog 53 #[.pointer (some ⟨p, 0, none⟩)] w fun e w' => e = .returned (.int .i64 last) ∧ w' = w := by
  obtain ⟨e0, e1, e2, lt⟩ := h.blk.three
  go_enter Tryd.func53, Tryd.ntmps53
  go_wp2
  go_ret
  exact ⟨rfl, rfl⟩
theorem queue_any (w : World) (h : SpAt w p A c q last first) (hz : q.length ≤ 100000) :
    Calls Tryd.prog 47 #[.pointer (some ⟨p, 0, none⟩)] w fun e w' => ∃ (A' : Option Addr) (c' : Nat), e = .returned (.slice A' q.length c') ∧ OwnV mkF 87 w.heap.size w' (.slice A' q.length c') q ∧ Below w.heap.size w w' := by
  obtain ⟨e0, e1, e2, lt⟩ := h.blk.three
  go_enter Tryd.func47, Tryd.ntmps47
  go_wp2_with fail
  with_reducible refine (clone_any _ _ _ _ h.rd (by omega)).mono ?_
  rintro e w1 ⟨A', c', rfl, hO, hB⟩
  go_wp2
  go_ret
  exact ⟨A', c', rfl, hO, hB⟩
set_option maxHeartbeats 1000000 in
theorem keep_bad (mark : Int) (o : POp) (w : World) (h : SpAt w p A c q last first) (hc : 0 ≤ o.c ∧ o.c ≤ 255) (hv : validL o ≠ 0) :
    Calls Tryd.prog 55 #[.pointer (some ⟨p, 0, none⟩), .int .i64 mark, .agg #[.int .i64 o.k, .int .i64 o.p, .int .u8 o.c, .int .i64 o.l, .int .i64 o.s]] w fun e w' => e = .returned (.int .i64 (validL o)) ∧ Below w.heap.size w w' := by
  have hq : (validL o != 0) = true := by simpa using hv
  clear hv
  go_enter Tryd.func55, Tryd.ntmps55
  go_wp2_with fail
  with_reducible refine (valid_any _ _ hc).mono ?_
  rintro e w1 ⟨rfl, hb⟩
  go_wp2
  go_ret
  exact ⟨rfl, (below_alloc (Below.refl _ _) _).trans (hb.mono (by simp))⟩
set_option maxHeartbeats 1000000 in
theorem keep_mark (mark : Int) (o : POp) (w : World) (h : SpAt w p A c q last first) (hc : 0 ≤ o.c ∧ o.c ≤ 255) (hv : validL o = 0) (hm : mark ≤ last ∨ 4096 < mark) :
    Calls Tryd.prog 55 #[.pointer (some ⟨p, 0, none⟩), .int .i64 mark, .agg #[.int .i64 o.k, .int .i64 o.p, .int .u8 o.c, .int .i64 o.l, .int .i64 o.s]] w fun e w' => e = .returned (.int .i64 100) ∧ Below w.heap.size w w' := by
  have HV := Lib.hid hv
  clear hv
  by_cases h1 : mark ≤ last
  all_goals
    (try have h2 : 4096 < mark := by omega)
    clear hm
    go_enter Tryd.func55, Tryd.ntmps55
    go_wp2_with fail
    with_reducible refine (valid_any _ _ hc).mono ?_
    rintro e w1 ⟨rfl, hb⟩
    rw [HV.out]
    have kp := (h.blk.alloc _).on hb
    obtain ⟨e0, e1, e2, lt⟩ := kp.three
    go_wp2
    go_ret
    exact ⟨rfl, (below_alloc (Below.refl _ _) _).trans (hb.mono (by simp))⟩
set_option maxHeartbeats 2000000 in
theorem keep_ok (mark : Int) (o : POp) (w : World) (h : SpAt w p A c q last first) (hc : 0 ≤ o.c ∧ o.c ≤ 255) (hv : validL o = 0) (hm : last < mark) (hm2 : mark ≤ 4096) (hl : q.length ≤ 100000) :
    Calls Tryd.prog 55 #[.pointer (some ⟨p, 0, none⟩), .int .i64 mark, .agg #[.int .i64 o.k, .int .i64 o.p, .int .u8 o.c, .int .i64 o.l, .int .i64 o.s]] w fun e w' =>
      e = .returned (.int .i64 0) ∧ ∃ A' c', SpAt w' p A' c' (q ++ [⟨mark, o⟩]) mark first ∧ But (p :: own A) w w' ∧ ∀ b ∈ own A', b ∈ own A ∨ w.heap.size ≤ b := by
  have HV := Lib.hid hv
  clear hv
  have hd1 : decide (mark ≤ last) = false := by simp; omega
  have hd2 : decide (4096 < mark) = false := by simp; omega
  go_enter Tryd.func55, Tryd.ntmps55
  go_wp2_with fail
  with_reducible refine (valid_any _ _ hc).mono ?_
  rintro e w1 ⟨rfl, hb⟩
  rw [HV.out]
  have B1 : Below w.heap.size w w1 := (below_alloc (Below.refl _ _) _).trans (hb.mono (by simp))
  have hS := h.on B1
  have kx := (Blk.new w #[.int .i64 o.k, .int .i64 o.p, .int .u8 o.c, .int .i64 o.l, .int .i64 o.s] 23).on hb
  obtain ⟨e0, e1, e2, lt⟩ := hS.blk.three
  obtain ⟨x0, x1, x2, x3, x4⟩ := kx.cells5
  have zp := hS.blk.frozen
  have hpx : p < w.heap.size := h.blk.lt
  go_wp2_with fail
  have kp := hS.blk
  have hne : ∀ (n c : Nat), some p ≠ (Value.slice A n c).ownBlock := fun n c e => h.ne (by rw [own_block e.symm]; simp)
  go_region_law (first
    | (refine step_appV El.mark (by decide) (by decide) _ rfl _ _ 76 rfl Tryd.underlying76 0 (.slice A q.length c) q [⟨mark, o⟩] ⟨w1.heap.size, 0, none⟩ 1 1 rfl rfl rfl (OwnV.drew (hS.ow.alloc _)) (Rd.drew (Blk.rdMk (Blk.new w1 _ _))) (by simp; omega) (Nat.zero_le _) ?_; intro v' w2 hO2 hg2 hv2; obtain ⟨A', c', hv', hR⟩ := hO2.rd; subst hv'; (have kp2 := ((kp.alloc (.cells (mkF.cells ⟨mark, o⟩).toArray 87)).drew).grown hg2 (hne _ _)); obtain ⟨y0, y1, y2, lty⟩ := kp2.three; have zp2 := kp2.frozen)
    | fail)
  all_goals
    have hlen : (q ++ [(⟨mark, o⟩ : PMk)]).length = q.length + 1 := by simp
    rw [hlen] at hO2 hv2
    have W1 := ((below_alloc (Below.refl w1.heap.size w1) (.cells (mkF.cells ⟨mark, o⟩).toArray 87)).drew)
    have hown : ∀ b ∈ own A', b ∈ own A ∨ w.heap.size ≤ b := fun b hb => by
      have h1 := own_mem (n := q.length + 1) (c := c') hb
      rcases hv2 with h2 | h2
      · exact .inl (by rw [h1] at h2; rw [own_block h2.symm]; simp)
      · refine .inr ?_
        rw [h1] at h2
        have h3 := Option.some.inj h2
        have h4 := B1.size
        have h5 := W1.size
        rw [h3]
        exact Nat.le_trans h4 h5
    have b2 : But (p :: own A) w w2 := (But.ofBelow (B1.trans (W1.mono B1.size))).trans (But.ofGrown (bs := own A) hg2 (fun k e => .inl (by rw [own_block e]; simp))) (fun b hb => .inl (List.mem_cons_of_mem _ hb))
    have hpn : p ∉ own A' := fun hm => by
      rcases hown p hm with h1 | h1
      · exact h.ne h1
      · omega
    go_wp2
    go_ret
    refine ⟨rfl, A', c', ⟨?_, ?_, hpn⟩, ?_, hown⟩
    · rw [hlen]
      simpa using (kp2.set 0 (.slice A' (q.length + 1) c')).set 1 (.int .i64 mark)
    · rw [hlen]
      exact (hO2.but (But.setCell _ p 0 _ (bs := [p]) (by simp)) (fun g hg => by rw [own_block hg] at hpn; simp at hpn; simp; omega)).but (But.setCell _ p 1 _ (bs := [p]) (by simp)) (fun g hg => by rw [own_block hg] at hpn; simp at hpn; simp; omega)
    · exact (b2.trans (But.setCell _ p 0 _ (bs := [p]) (by simp)) (by simp)).trans (But.setCell _ p 1 _ (bs := [p]) (by simp)) (by simp)
end
end Go.Proofs.YtkicbnkacjnhoaaDoor
