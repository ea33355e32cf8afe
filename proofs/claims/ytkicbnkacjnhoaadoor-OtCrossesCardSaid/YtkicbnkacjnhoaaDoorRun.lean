/- The walk of jotterlaw05.run, where all of the line fits. -/
import Derived.Test.YtkicbnkacjnhoaaDoorPut
namespace Go.Proofs.YtkicbnkacjnhoaaDoor
open Go.RowKit
set_option linter.unusedVariables false
set_option linter.unusedSimpArgs false

theorem runL_split : ∀ (l : List POp) (k : Nat) {d e : List PEl} {o : POp}, runL d l = some e → l[k]? = some o → ∃ f g, runL d (l.take k) = some f ∧ putL f o = some g ∧ runL d (l.take (k + 1)) = some g
  | [], k, d, e, o, _, ho => by simp at ho
  | x :: r, 0, d, e, o, h, ho => by
    obtain rfl : x = o := by simpa using ho
    simp only [runL] at h
    split at h
    · rename_i g hg
      exact ⟨d, g, rfl, hg, by simp [runL, hg]⟩
    · cases h
  | x :: r, k + 1, d, e, o, h, ho => by
    simp only [runL] at h
    split at h
    · rename_i g hg
      obtain ⟨f, g', h1, h2, h3⟩ := runL_split r k h (by simpa using ho)
      exact ⟨f, g', by simp [runL, hg, h1], h2, by simp [runL, hg, h3]⟩
    · cases h

set_option maxHeartbeats 1000000 in
theorem run_any (A B : Option Addr) (c0 cb : Nat) (d e : List PEl) (l : List POp) (w : World) (hd : Rd elF w A d) (hl : Rd opF w B l) (hc : d.length ≤ c0) (hn : d.length + l.length ≤ 6000000000000) (h : runL d l = some e) :
    Calls Tryd.prog 28 #[.slice A d.length c0, .slice B l.length cb] w fun r w' =>
      ∃ A' cap, r = .returned (.tuple #[.slice A' e.length cap, .bool true]) ∧ Rd elF w' A' e ∧ e.length ≤ cap ∧ Below w.heap.size w w' := by
  have H := Lib.hid h
  clear h
  go_enter Tryd.func28, Tryd.ntmps28
  go_wp2
  go_loopw [0, 6] (fun v i wr => ∃ (k : Nat) (A' : Option Addr) (c' : Nat) (f : List PEl), k ≤ l.length ∧ i = .int .i64 k ∧ v = .slice A' f.length c' ∧ Hid (runL d (l.take k) = some f) ∧ Hid (f.length ≤ c') ∧ Rd elF wr A' f ∧ Below w.heap.size w wr) (fun v i wr => l.length - (intOf i).toNat)
  case atStart => exact ⟨0, A, c0, d, Nat.zero_le _, rfl, rfl, rfl, hc, hd, Below.refl _ _⟩
  case round =>
    obtain ⟨k, A', c', f, hk, rfl, rfl, hf, hfc, hR, hB⟩ := hrel
    by_cases hlt : k < l.length
    · obtain ⟨b1, o1, x, rfl, hx, e0, e1, e2, e3, e4⟩ := (hl.below hB).op k hlt
      have hs : Hid (∃ g, putL f x = some g ∧ runL d (l.take (k + 1)) = some g) := by
        obtain ⟨f', g, h1, h2, h3⟩ := runL_split l k H.out hx.out
        rw [hf.out] at h1
        obtain rfl := Option.some.inj h1
        exact ⟨g, h2, h3⟩
      obtain ⟨g, hg1, hg2⟩ := hs.out
      have HG1 := Lib.hid hg1
      have HG2 := Lib.hid hg2
      have hfl : Hid (f.length ≤ 6000000000000) := by
        have := runL_length _ hf.out
        have h2 : (l.take k).length ≤ k := List.length_take_le _ _
        exact Lib.hid (by omega)
      clear hg1 hg2 hs
      go_wp2_with fail
      with_reducible refine (put_any _ _ _ g _ _ hR hfc.out hfl.out HG1.out).mono ?_
      rintro r w1 ⟨ga, cap, rfl, hO, hga, hb⟩
      have hgc := Lib.hid hO.le
      go_wp2
      go_roundw
      case rel => exact ⟨k + 1, _, cap, g, by omega, by go_num, rfl, HG2, hgc, hO.rd, hB.trans (hb.mono hB.size)⟩
      case measure => simp [intOf]; omega
    · have hk2 : k = l.length := by omega
      have he : f = e := by
        have := hf.out
        rw [hk2, List.take_length, H.out] at this
        exact (Option.some.inj this).symm
      subst he
      clear hk2
      go_wp2
      refine bodyPost_ret (v := .tuple #[.slice A' f.length c', .bool true]) (by simp [results, Tryd.results28, go_sem]) rfl ?_
      exact ⟨A', c', rfl, hR, hfc.out, hB⟩
end Go.Proofs.YtkicbnkacjnhoaaDoor
