/- The walk of package space's line. -/
import Derived.Test.YtkicbnkacjnhoaaDoorDrop
namespace Go.Proofs.YtkicbnkacjnhoaaDoor
open Go.RowKit
set_option linter.unusedVariables false
set_option linter.unusedSimpArgs false

section
variable {p : Nat} {A : Option Addr} {c : Nat} {q : List PMk} {last : Int} {first : Bool}
set_option maxHeartbeats 2000000 in
theorem qline_any (w : World) (h : SpAt w p A c q last first) (hl : q.length ≤ 100000) :
    Calls Tryd.prog 86 #[.pointer (some ⟨p, 0, none⟩)] w fun e w' => ∃ g, w.heap.size ≤ g ∧ e = .returned (.slice (some ⟨g, 0, none⟩) q.length q.length) ∧ OwnC opF 23 w' g q.length (opsQ q) ∧ Below w.heap.size w w' := by
  obtain ⟨e0, e1, e2, lt⟩ := h.blk.three
  go_enter Tryd.func86, Tryd.ntmps86
  go_wp2_with (at_make; refine ev_makeN El.op (by decide) _ rfl _ _ 35 rfl Tryd.underlying35 _ _ _ _ q.length rfl rfl rfl rfl (by omega) (by omega) ?_; intro w1 hO hB; (have kp := h.blk.on hB); clear e0 e1 e2 lt; obtain ⟨e0, e1, e2, lt⟩ := kp.three)
  go_loopw [17] (fun i wr => ∃ k : Nat, k ≤ q.length ∧ i = .int .i64 k ∧ OwnC opF 23 wr w.heap.size q.length ((opsQ q).take k ++ List.replicate ((opsQ q).length - k) ⟨0, 0, 0, 0, 0⟩) ∧ Below w.heap.size w wr) (fun i wr => q.length - (intOf i).toNat)
  case atStart => exact ⟨0, Nat.zero_le _, rfl, by simpa [opsQ] using hO, hB⟩
  case round =>
    clear hO hB kp e0 e1 e2 lt
    obtain ⟨k, hk, rfl, hO, hB⟩ := hrel
    by_cases hlt : k < q.length
    · obtain ⟨b, off, x, rfl, hx, hbl, s0, s1, s2, s3, s4, s5⟩ := (h.on hB).rd.six k hlt
      have hxo : Hid ((opsQ q)[k]? = some x.o) := Lib.hid (by simp [opsQ, hx.out])
      have hlen : k < ((opsQ q).take k ++ List.replicate ((opsQ q).length - k) (⟨0, 0, 0, 0, 0⟩ : POp)).length := by simp [opsQ]; omega
      have HL := Lib.hid hlen
      have hgl := hO.lt
      clear hlen
      go_wp2_with (refine at_st 26 rfl ?_; go_must (refine ev_setF El.op _ rfl _ _ rfl w.heap.size q.length _ k _ x.o ?hoff HL.out rfl rfl (hO.alloc _) ?_); (case hoff => simp [opF]); intro w2 hO2 hg2)
      go_roundw
      case rel =>
        refine ⟨k + 1, by omega, by go_num, ?_, (below_alloc hB _).grown hg2 (below_alloc hB _).size (fun k e => by injection e; omega)⟩
        rw [← set_take_rep _ _ _ _ hxo.out]
        exact hO2
      case measure => simp [intOf]; omega
    · have hk2 : k = (opsQ q).length := by simp [opsQ]; omega
      have hO2 : OwnC opF 23 wr w.heap.size q.length (opsQ q) := by
        rw [hk2] at hO
        simpa using hO
      clear hO hk2
      go_wp2
      go_ret
      exact ⟨_, Nat.le_refl _, rfl, hO2, hB⟩
end
end Go.Proofs.YtkicbnkacjnhoaaDoor
