/- The walk of jotterlaw05.text. -/
import Derived.Test.YtkicbnkacjnhoaaDoorElem
namespace Go.Proofs.YtkicbnkacjnhoaaDoor
open Go.RowKit
set_option linter.unusedVariables false
set_option linter.unusedSimpArgs false

set_option maxHeartbeats 1000000 in
theorem text_any (n : Nat) (w : World) (hn : n ≤ 4096) :
    Calls Tryd.prog 26 #[.int .i64 n] w fun e w' => ∃ (g : Nat) (d : List PEl), w.heap.size ≤ g ∧ d.length = n ∧ d.Nodup ∧ (∀ z ∈ d, z.l = 1) ∧ e = .returned (.slice (some ⟨g, 0, none⟩) n n) ∧ OwnC elF 41 w' g n d ∧ Below w.heap.size w w' := by
  go_enter Tryd.func26, Tryd.ntmps26
  go_wp2_with (at_make; refine ev_make0 El.el _ rfl _ _ 33 rfl Tryd.underlying33 _ _ _ n rfl rfl rfl (by omega) (by omega) ?_; intro w1 hO hB)
  go_loopw [3, 4] (fun v i wr => ∃ (k : Nat) (d : List PEl), k ≤ n ∧ i = .int .i64 k ∧ v = .slice (some ⟨w.heap.size, 0, none⟩) k n ∧ Hid (k = d.length) ∧ Hid (d.Nodup ∧ ∀ z ∈ d, z.l = 1 ∧ z.s ≤ k) ∧ OwnC elF 41 wr w.heap.size n d ∧ Below w.heap.size w wr) (fun v i wr => n - (intOf i).toNat)
  case atStart => exact ⟨0, [], Nat.zero_le _, rfl, rfl, rfl, Lib.hid (by simp), hO, hB⟩
  case round =>
    clear hO hB
    obtain ⟨k, d, hk, rfl, rfl, hkd, hd, hO, hB⟩ := hrel
    by_cases hlt : k < n
    · have HR : Hid (d.length < n) := Lib.hid (by have := hkd.out; omega)
      go_wp2_with (at_builtin; refine ev_app1 El.el _ rfl _ _ 33 rfl Tryd.underlying33 w.heap.size n d ⟨97 + (k : Int) % 26, 1, (k : Int) + 1⟩ k hkd.out rfl rfl hO HR.out ?_; intro w2 hO2 hg2; (have B2 : Below w.heap.size w w2 := hB.grown hg2 hB.size (fun k e => Nat.le_of_eq (Option.some.inj e))))
      go_roundw
      case rel =>
        refine ⟨k + 1, d ++ [⟨97 + (k : Int) % 26, 1, (k : Int) + 1⟩], by omega, by go_num, rfl, Lib.hid (by have := hkd.out; simp; omega), Lib.hid ⟨?_, ?_⟩, hO2, B2⟩
        · rw [List.nodup_append]
          refine ⟨hd.out.1, by simp, fun a ha b hb e => ?_⟩
          have h1 := (hd.out.2 a ha).2
          rw [e, List.mem_singleton.1 hb] at h1
          simp only at h1
          omega
        · intro z hz
          rcases List.mem_append.1 hz with hz | hz
          · have := hd.out.2 z hz
            exact ⟨this.1, by omega⟩
          · rw [List.mem_singleton.1 hz]
            exact ⟨rfl, by simp⟩
      case measure => simp [intOf]; omega
    · have hkn : k = n := by omega
      subst hkn
      go_wp2
      go_ret
      exact ⟨_, d, Nat.le_refl _, hkd.out.symm, hd.out.1, fun z hz => (hd.out.2 z hz).1, rfl, hO, hB⟩
end Go.Proofs.YtkicbnkacjnhoaaDoor
