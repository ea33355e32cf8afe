/- The walk of jotterref10's DropTo. -/
import Derived.Test.YtkicbnkacjnhoaaDoorRefSp
namespace Go.Proofs.YtkicbnkacjnhoaaDoor
open Go.RowKit
set_option linter.unusedVariables false
set_option linter.unusedSimpArgs false

theorem dropN_at (m : Int) (q : List PMk) (j : Nat) (x : PMk) (hx : q[j]? = some x) : dropN m ((q.drop j).map (·.m)) = if x.m ≤ m then dropN m ((q.drop (j + 1)).map (·.m)) + 1 else 0 := by
  obtain ⟨hk, he⟩ := List.getElem?_eq_some_iff.1 hx
  rw [List.drop_eq_getElem_cons hk, he]
  rfl
section
variable {p : Nat} {A : Option Addr} {c : Nat} {B : Option Addr} {e : Nat} {y : PRef} {f : Bool}
theorem RefAt.setD {w : World} (h : RefAt w p A c B e y f) (d : Nat) : RefAt (w.setCell ⟨p, 3, none⟩ (.int .i64 d)) p A c B e ⟨y.own, y.far, d⟩ f :=
  ⟨by simpa using h.blk.set 3 (.int .i64 d), h.ow.but (But.setCell _ p 3 _ (bs := [p]) (by simp)) (fun g hg => by have := h.ne; rw [own_block hg] at this; simp at this; simp; omega), h.fa.but (But.setCell _ p 3 _ (bs := [p]) (by simp)) (fun g hg => by have := h.nf; rw [own_block hg] at this; simp at this; simp; omega), h.ne, h.nf, h.na⟩
set_option maxHeartbeats 2000000 in
theorem rdrop_any (mark : Int) (w : World) (h : RefAt w p A c B e y f) (hl : y.own.length ≤ 100000) (hd : y.d ≤ y.own.length) :
    Calls Tryd.prog 78 #[.pointer (some ⟨p, 0, none⟩), .int .i64 mark] w fun ex w' =>
      ∃ n : Nat, ex = .returned (.int .i64 n) ∧ Hid (n = dropN mark ((y.own.drop y.d).map (·.m))) ∧ RefAt w' p A c B e ⟨y.own, y.far, y.d + n⟩ f ∧ But [p] w w' := by
  go_enter Tryd.func78, Tryd.ntmps78
  go_wp2
  go_loopw [5] (fun i wr => ∃ (k j : Nat), Hid (j = y.d + k) ∧ j ≤ y.own.length ∧ i = .int .i64 k ∧ RefAt wr p A c B e ⟨y.own, y.far, j⟩ f ∧ But [p] w wr ∧ Hid (dropN mark ((y.own.drop y.d).map (·.m)) = k + dropN mark ((y.own.drop j).map (·.m)))) (fun i wr => y.own.length - (intOf i).toNat)
  case atStart => exact ⟨0, y.d, Lib.hid rfl, hd, rfl, h, But.refl _ _, Lib.hid (by simp)⟩
  case round =>
    obtain ⟨k, j, hj, hjl, rfl, hR, hB, hN⟩ := hrel
    obtain ⟨e0, e1, e2, e3, lt⟩ := hR.blk.four
    have hkl : k ≤ y.own.length := by have := hj.out; omega
    have zp := hR.blk.frozen
    by_cases hlt : j < y.own.length
    · obtain ⟨b, off, x, hA, hx, hbl, s0, _, _, _, _, _⟩ := hR.rdO.six j hlt
      subst hA
      have hdk := dropN_at mark y.own j x hx.out
      by_cases hm : x.m ≤ mark
      · rw [if_pos hm] at hdk
        have HN : Hid (dropN mark ((y.own.drop y.d).map (·.m)) = k + 1 + dropN mark ((y.own.drop (j + 1)).map (·.m))) := Lib.hid (by have := hN.out; omega)
        have hkl2 : k < y.own.length := by have := hj.out; omega
        have HJ : Hid (j + 1 = y.d + (k + 1)) := Lib.hid (by have := hj.out; omega)
        have hd1 : decide ((j : Int) < (y.own.length : Int)) = true := by simp; omega
        have hd2 : decide (x.m ≤ mark) = true := by simp; omega
        clear hdk hN hj hx h
        go_wp2
        go_quiet (fail)
        go_wp2
        go_roundw
        case rel => exact ⟨k + 1, j + 1, HJ, by omega, by go_num, by simpa using (hR.setD (j + 1)).on (below_drewN (Below.refl _ _) _), (hB.trans (But.setCell _ p 3 _ (bs := [p]) (by simp)) (by simp)).trans (But.ofBelow (bs := [p]) (below_drewN (Below.refl _ _) _)) (by simp), HN⟩
        case measure => simp [intOf]; omega
      · rw [if_neg hm] at hdk
        have HN : Hid (k = dropN mark ((y.own.drop y.d).map (·.m))) := Lib.hid (by have := hN.out; omega)
        have hd1 : decide ((j : Int) < (y.own.length : Int)) = true := by simp; omega
        have hd2 : decide (x.m ≤ mark) = false := by simp; omega
        clear hdk hN hx h
        go_wp2
        go_quiet (fail)
        go_wp2
        go_ret
        exact ⟨k, rfl, HN, by have hj2 := hj.out; subst hj2; exact hR.on (below_drewN (Below.refl _ _) _), hB.trans (But.ofBelow (bs := [p]) (below_drewN (Below.refl _ _) _)) (by simp)⟩
    · have hjn : j = y.own.length := by omega
      have HN : Hid (k = dropN mark ((y.own.drop y.d).map (·.m))) := Lib.hid (by have := hN.out; rw [this, hjn]; simp [dropN])
      have hd1 : decide ((j : Int) < (y.own.length : Int)) = false := by simp; omega
      clear hN h
      go_wp2
      go_quiet (fail)
      go_wp2
      go_ret
      exact ⟨k, rfl, HN, by have hj2 := hj.out; subst hj2; exact hR.on (below_drewN (Below.refl _ _) _), hB.trans (But.ofBelow (bs := [p]) (below_drewN (Below.refl _ _) _)) (by simp)⟩
end
end Go.Proofs.YtkicbnkacjnhoaaDoor
