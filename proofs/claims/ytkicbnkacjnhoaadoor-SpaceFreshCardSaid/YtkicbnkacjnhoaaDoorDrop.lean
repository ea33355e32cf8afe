/- The walk of package space's DropTo. -/
import Derived.Test.YtkicbnkacjnhoaaDoorKeep
namespace Go.Proofs.YtkicbnkacjnhoaaDoor
open Go.RowKit
set_option linter.unusedVariables false
set_option linter.unusedSimpArgs false

theorem OwnV.le {α : Type} {F : Flat α} {e : TypeId} {w : World} {base : Nat} {A : Option Addr} {c : Nat} {xs : List α} (h : OwnV F e base w (.slice A xs.length c) xs) : xs.length ≤ c := by
  rcases h.c with ⟨h1, h2⟩ | ⟨g, cap, h1, _, h2⟩
  · rw [h2]; exact Nat.zero_le _
  · injection h1 with _ _ h3
    rw [h3]
    exact h2.le
theorem clone_n (A : Option Addr) (c n : Nat) (xs : List PMk) (w : World) (hn : xs.length = n) (h : Rd mkF w A xs) (hz : xs.length * 48 ≤ 140737488355328) :
    Calls Tryd.prog 73 #[.slice A n c] w fun e w' => ∃ (A' : Option Addr) (c' : Nat), e = .returned (.slice A' n c') ∧ OwnV mkF 87 w.heap.size w' (.slice A' n c') xs ∧ Below w.heap.size w w' := by
  subst hn
  exact clone_any A c xs w h hz
theorem dropQ_drop (m : Int) (q : List PMk) (k : Nat) (x : PMk) (hx : q[k]? = some x) : dropQ m (q.drop k) = if x.m ≤ m then dropQ m (q.drop (k + 1)) else q.drop k := by
  obtain ⟨hk, he⟩ := List.getElem?_eq_some_iff.1 hx
  rw [List.drop_eq_getElem_cons hk, he]
  simp only [dropQ]

section
variable {p : Nat} {A : Option Addr} {c : Nat} {q : List PMk} {last : Int} {first : Bool}
set_option maxHeartbeats 2000000 in
theorem drop_any (mark : Int) (w : World) (h : SpAt w p A c q last first) (hl : q.length ≤ 100000) :
    Calls Tryd.prog 56 #[.pointer (some ⟨p, 0, none⟩), .int .i64 mark] w fun e w' =>
      ∃ (n : Nat) (A' : Option Addr) (c' : Nat), e = .returned (.int .i64 n) ∧ Hid (n ≤ q.length ∧ dropQ mark q = q.drop n) ∧ SpAt w' p A' c' (q.drop n) last first ∧ But [p] w w' ∧ ∀ b ∈ own A', w.heap.size ≤ b := by
  obtain ⟨e0, e1, e2, lt⟩ := h.blk.three
  have hqc : Hid (q.length ≤ c) := Lib.hid h.ow.le
  go_enter Tryd.func56, Tryd.ntmps56
  go_wp2
  go_loop [5] (fun i => ∃ k : Nat, k ≤ q.length ∧ i = .int .i64 k ∧ Hid (dropQ mark q = dropQ mark (q.drop k))) (fun i => q.length - (intOf i).toNat)
  case atStart => exact ⟨0, Nat.zero_le _, rfl, Lib.hid (by simp)⟩
  case round =>
    obtain ⟨k, hk, rfl, hd⟩ := hrel
    have hdl : Hid ((q.drop k).length = q.length - k) := Lib.hid (by simp)
    by_cases hlt : k < q.length
    · obtain ⟨b, off, x, hA, hx, hbl, s0, _, _, _, _, _⟩ := h.rd.six k hlt
      subst hA
      have hdk := dropQ_drop mark q k x hx.out
      by_cases hm : x.m ≤ mark
      · rw [if_pos hm] at hdk
        have HD : Hid (dropQ mark q = dropQ mark (q.drop (k + 1))) := Lib.hid (hd.out.trans hdk)
        clear hdk
        go_wp2
        go_round
        case rel => exact ⟨k + 1, by omega, by go_num, HD⟩
        case measure => simp [intOf]; omega
      · rw [if_neg hm] at hdk
        have hfin : Hid (k ≤ q.length ∧ dropQ mark q = q.drop k) := Lib.hid ⟨hk, hd.out.trans hdk⟩
        have hmd : decide (x.m ≤ mark) = false := by simpa using hm
        clear hdk hm
        go_wp2_with (refine at_dst 33 rfl ?_; refine ev_slL El.mark _ rfl 76 _ _ rfl Tryd.underlying76 (some ⟨b, off, none⟩) q q.length c .i64 _ k rfl rfl hqc.out rfl rfl hk ?_; intro A2 hA2)
        with_reducible refine (clone_n _ _ _ (q.drop k) _ hdl.out (hA2 _ h.rd) (by simp; omega)).mono ?_
        rintro e w1 ⟨A', c', rfl, hO, hB⟩
        have kp := h.blk.on hB
        obtain ⟨f0, f1, f2, flt⟩ := kp.three
        have zp := kp.frozen
        have hpn : p ∉ own A' := fun hm => by have := (hO.lt p (own_mem hm)).1; have := h.blk.lt; omega
        have hfr : ∀ b ∈ own A', w.heap.size ≤ b := fun b hb => (hO.lt b (own_mem hb)).1
        clear e0 e1 e2 lt
        go_wp2
        go_ret
        refine ⟨k, A', c', rfl, hfin, ⟨?_, ?_, hpn⟩, (But.ofBelow hB).trans (But.setCell _ p 0 _ (bs := [p]) (by simp)) (by simp), hfr⟩
        · rw [hdl.out]
          simpa using kp.set 0 (.slice A' (q.length - k) c')
        · rw [hdl.out]
          exact (hO.weak (Nat.zero_le _)).but (But.setCell _ p 0 _ (bs := [p]) (by simp)) (fun g hg => by rw [own_block hg] at hpn; simp at hpn; simp; omega)
    · have hfin : Hid (k ≤ q.length ∧ dropQ mark q = q.drop k) := Lib.hid ⟨hk, by rw [hd.out, show q.drop k = [] by rw [List.drop_eq_nil_iff]; omega]; rfl⟩
      go_wp2_with (refine at_dst 33 rfl ?_; refine ev_slL El.mark _ rfl 76 _ _ rfl Tryd.underlying76 A q q.length c .i64 _ k rfl rfl hqc.out rfl rfl hk ?_; intro A2 hA2)
      with_reducible refine (clone_n _ _ _ (q.drop k) _ hdl.out (hA2 _ h.rd) (by simp; omega)).mono ?_
      rintro e w1 ⟨A', c', rfl, hO, hB⟩
      have kp := h.blk.on hB
      obtain ⟨f0, f1, f2, flt⟩ := kp.three
      have zp := kp.frozen
      have hpn : p ∉ own A' := fun hm => by have := (hO.lt p (own_mem hm)).1; have := h.blk.lt; omega
      have hfr : ∀ b ∈ own A', w.heap.size ≤ b := fun b hb => (hO.lt b (own_mem hb)).1
      clear e0 e1 e2 lt
      go_wp2
      go_ret
      refine ⟨k, A', c', rfl, hfin, ⟨?_, ?_, hpn⟩, (But.ofBelow hB).trans (But.setCell _ p 0 _ (bs := [p]) (by simp)) (by simp), hfr⟩
      · rw [hdl.out]
        simpa using kp.set 0 (.slice A' (q.length - k) c')
      · rw [hdl.out]
        exact (hO.weak (Nat.zero_le _)).but (But.setCell _ p 0 _ (bs := [p]) (by simp)) (fun g hg => by rw [own_block hg] at hpn; simp at hpn; simp; omega)
end
end Go.Proofs.YtkicbnkacjnhoaaDoor
