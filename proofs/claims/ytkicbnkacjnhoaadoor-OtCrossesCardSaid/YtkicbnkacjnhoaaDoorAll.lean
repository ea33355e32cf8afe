/- The walk of jotterlaw05.all: operations that fit. -/
import Derived.Test.YtkicbnkacjnhoaaDoorWeave
import Derived.Test.YtkicbnkacjnhoaaDoorOtText
namespace Go.Proofs.YtkicbnkacjnhoaaDoor
open Go.RowKit
set_option linter.unusedVariables false
set_option linter.unusedSimpArgs false

/-- An operation, the Nop too, that fits a text of n elements. -/
def FitsAll (n : Nat) (l : Int) (o : POp) : Prop := o.l = l ∧ o.s = 1 ∧ ((o.k = 1 ∧ ∃ p : Nat, o.p = p ∧ p ≤ n) ∨ (o.k = 2 ∧ ∃ p : Nat, o.p = p ∧ p < n) ∨ (o.k = 0 ∧ o.p = 0 ∧ o.c = 0))
theorem fitsAll_put {d : List PEl} {l : Int} {o : POp} (h : FitsAll d.length l o) : ∃ e, putL d o = some e := by
  rcases h.2.2 with ⟨hk, p, hp, hle⟩ | ⟨hk, p, hp, hlt⟩ | ⟨hk, hp, hc⟩
  · exact ⟨_, putL_ins p hk hp hle⟩
  · exact ⟨_, putL_del p hk hp hlt⟩
  · exact ⟨_, putL_nop hk hp hc⟩

set_option maxHeartbeats 1000000 in
theorem all_any (n : Nat) (l : Int) (w : World) (hn : n ≤ 40) :
    Calls Tryd.prog 27 #[.int .i64 n, .int .i64 l] w fun e w' =>
      ∃ (A : Option Addr) (c : Nat) (r : List POp), e = .returned (.slice A r.length c) ∧ Hid (∀ o ∈ r, FitsAll n l o) ∧ r.length ≤ 100 ∧ Rd opF w' A r ∧ Below w.heap.size w w' := by
  go_enter Tryd.func27, Tryd.ntmps27
  go_wp2
  go_loopw [5, 6] (fun v i wr => ∃ (k : Nat) (A : Option Addr) (c : Nat) (r : List POp), k ≤ n + 1 ∧ i = .int .i64 k ∧ v = .slice A r.length c ∧ Hid (∀ o ∈ r, FitsAll n l o) ∧ r.length ≤ k ∧ OwnV opF 23 w.heap.size wr (.slice A r.length c) r ∧ Below w.heap.size w wr) (fun v i wr => n + 1 - (intOf i).toNat)
  case atStart => exact ⟨0, none, 0, [], Nat.zero_le _, rfl, rfl, Lib.hid (by simp), Nat.le_refl _, OwnV.nil _ _, Below.refl _ _⟩
  case round =>
    obtain ⟨k, A, c, r, hk, rfl, rfl, hr, hrk, hO, hB⟩ := hrel
    by_cases hlt : k ≤ n
    · go_wp2_with (at_builtin; refine ev_app1V El.op (by decide) (by decide) wr rfl _ _ 35 rfl Tryd.underlying35 w.heap.size (.slice A r.length c) r ⟨1, k, 35, l, 1⟩ rfl rfl hO (by omega) hB.size ?_; intro v' w1 hO1 hg1 hv; (have B1 : Below w.heap.size w w1 := hB.grown hg1 hB.size (fun g e => (hO.lt g e).1)); obtain ⟨A', c', hv', hR⟩ := hO1.rd; subst hv'; clear hg1 hv hR)
      go_roundw
      case rel =>
        refine ⟨k + 1, A', c', r ++ [⟨1, k, 35, l, 1⟩], by omega, by go_num, by simp, Lib.hid ?_, by simp; omega, hO1, B1⟩
        intro o ho
        rcases List.mem_append.1 ho with ho | ho
        · exact hr.out o ho
        · obtain rfl := List.mem_singleton.1 ho
          exact ⟨rfl, rfl, .inl ⟨rfl, k, rfl, hlt⟩⟩
      case measure => simp [intOf]; omega
    · go_wp2
      go_loopw [5, 7] (fun v i wr => ∃ (k : Nat) (A : Option Addr) (c : Nat) (r : List POp), k ≤ n ∧ i = .int .i64 k ∧ v = .slice A r.length c ∧ Hid (∀ o ∈ r, FitsAll n l o) ∧ r.length ≤ 41 + k ∧ OwnV opF 23 w.heap.size wr (.slice A r.length c) r ∧ Below w.heap.size w wr) (fun v i wr => n - (intOf i).toNat)
      case atStart => exact ⟨0, A, c, r, Nat.zero_le _, rfl, rfl, hr, by omega, hO, hB⟩
      case round =>
        clear hr hrk hO hB
        obtain ⟨k, A, c, r, hk, rfl, rfl, hr, hrk, hO, hB⟩ := hrel
        by_cases hlt : k < n
        · go_wp2_with (at_builtin; refine ev_app1V El.op (by decide) (by decide) _ rfl _ _ 35 rfl Tryd.underlying35 w.heap.size (.slice A r.length c) r ⟨2, k, 0, l, 1⟩ rfl rfl hO (by omega) hB.size ?_; intro v' w1 hO1 hg1 hv; (have B1 : Below w.heap.size w w1 := hB.grown hg1 hB.size (fun g e => (hO.lt g e).1)); obtain ⟨A', c', hv', hR⟩ := hO1.rd; subst hv'; clear hg1 hv hR)
          go_roundw
          case rel =>
            refine ⟨k + 1, A', c', r ++ [⟨2, k, 0, l, 1⟩], by omega, by go_num, by simp, Lib.hid ?_, by simp; omega, hO1, B1⟩
            intro o ho
            rcases List.mem_append.1 ho with ho | ho
            · exact hr.out o ho
            · obtain rfl := List.mem_singleton.1 ho
              exact ⟨rfl, rfl, .inr (.inl ⟨rfl, k, rfl, hlt⟩)⟩
          case measure => simp [intOf]; omega
        · go_wp2_with (at_builtin; refine ev_app1V El.op (by decide) (by decide) _ rfl _ _ 35 rfl Tryd.underlying35 w.heap.size (.slice A r.length c) r ⟨0, 0, 0, l, 1⟩ rfl rfl hO (by omega) hB.size ?_; intro v' w1 hO1 hg1 hv; (have B1 : Below w.heap.size w w1 := hB.grown hg1 hB.size (fun g e => (hO.lt g e).1)); obtain ⟨A', c', hv', hR⟩ := hO1.rd; subst hv'; clear hg1 hv)
          go_ret
          refine ⟨A', c', r ++ [⟨0, 0, 0, l, 1⟩], ret_val (Eq.trans (b := .slice A' (r.length + 1) c') rfl (by simp)), Lib.hid ?_, by simp; omega, hR, B1⟩
          intro o ho
          rcases List.mem_append.1 ho with ho | ho
          · exact hr.out o ho
          · obtain rfl := List.mem_singleton.1 ho
            exact ⟨rfl, rfl, .inr (.inr ⟨rfl, rfl, rfl⟩)⟩
end Go.Proofs.YtkicbnkacjnhoaaDoor
