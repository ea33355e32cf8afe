/- Plain Lean: what was meant stays: an insertion carried past a line stands between the elements between which it was made; a deletion takes the very element, or is the Nop. No program in sight. -/
import Derived.Test.YtkicbnkacjnhoaaDoorOtGrid
namespace Go.Proofs.YtkicbnkacjnhoaaDoor
open Go.RowKit
theorem nodup_idx {α : Type} {l : List α} (nd : l.Nodup) {i j : Nat} {z : α} (hi : l[i]? = some z) (hj : l[j]? = some z) : i = j :=
  (List.getElem?_inj (List.getElem?_eq_some_iff.1 hi).1 nd).1 (hi.trans hj.symm)
/-- What two texts both hold stands on the same side of the place p in the one, q in the other. -/
def Sides (d : List PEl) (p : Nat) (e : List PEl) (q : Nat) : Prop := ∀ (i j : Nat) (z : PEl), d[i]? = some z → e[j]? = some z → (i < p ↔ j < q)
theorem Sides.trans {d e f : List PEl} {p q r : Nat} (h : Sides d p e q) (k : Sides e q f r) (hm : ∀ z ∈ d, z ∈ f → z ∈ e) : Sides d p f r := fun i j z hi hj => by
  obtain ⟨m, hlt, he⟩ := List.getElem_of_mem (hm z (List.mem_of_getElem? hi) (List.mem_of_getElem? hj))
  have hm' : e[m]? = some z := by rw [List.getElem?_eq_getElem hlt, he]
  exact (h i m z hi hm').trans (k m j z hm' hj)
theorem Sides.refl {d : List PEl} (nd : d.Nodup) (p : Nat) : Sides d p d p := fun i j z hi hj => by rw [nodup_idx nd hi hj]
theorem Sides.ins {d e : List PEl} {p q : Nat} (h : Sides d p e q) (A : PEl) (hA : A ∉ d) (hq : q ≤ e.length) : Sides d p (ins e q A) q := fun i j z hi hj => by
  rcases Nat.lt_trichotomy j q with hc | hc | hc
  · exact (h i j z hi (by rwa [ins_get_lo A e q j hc hq] at hj))
  · subst hc
    rw [ins_get_at A e j hq] at hj
    obtain rfl := Option.some.inj hj
    exact absurd (List.mem_of_getElem? hi) hA
  · obtain ⟨j', rfl⟩ : ∃ j', j = j' + 1 := ⟨j - 1, by omega⟩
    rw [ins_get_hi A e q j' (by omega) hq] at hj
    have := h i j' z hi hj
    omega
theorem sides_step (f : Bool) {d d1 : List PEl} {a l : POp} {p : Nat} (nd : d.Nodup) (nd1 : d1.Nodup) (ka : a.k = 1) (pa : a.p = p) (hp : p ≤ d.length) (hl : putL d l = some d1) (hd : d.length < 4611686018427387904) :
    ∃ q : Nat, shift a l f = { a with p := (q : Int) } ∧ q ≤ d1.length ∧ Sides d p d1 q := by
  rcases putL_cases hl with ⟨kl, _, _, rfl⟩ | ⟨kl, m, pm, hm, rfl⟩ | ⟨kl, m, pm, hm, rfl⟩
  · exact ⟨p, (sh_nb kl).trans (same_p a pa.symm).symm, hp, Sides.refl nd p⟩
  · have hS : ∀ i j z, d[i]? = some z → (ins d m ⟨l.c, l.l, l.s⟩)[j]? = some z → (i < m ∧ j = i) ∨ (m ≤ i ∧ j = i + 1) := fun i j z hi hj => by
      rcases Nat.lt_or_ge i m with hc | hc
      · exact .inl ⟨hc, nodup_idx nd1 hj ((ins_get_lo _ d m i hc hm).trans hi)⟩
      · exact .inr ⟨hc, nodup_idx nd1 hj ((ins_get_hi _ d m i hc hm).trans hi)⟩
    rw [sh_ii ka kl, ins_length]
    unfold pastII
    by_cases hc : l.p < a.p ∨ l.p = a.p ∧ f = false
    · rw [if_pos hc, wrap64_small (by omega) (by omega)]
      refine ⟨p + 1, with_p _ (by omega), by omega, fun i j z hi hj => ?_⟩
      have := hS i j z hi hj
      omega
    · rw [if_neg hc]
      refine ⟨p, with_p _ pa, by omega, fun i j z hi hj => ?_⟩
      have := hS i j z hi hj
      have : ¬ l.p < a.p := fun h => hc (.inl h)
      omega
  · have hS : ∀ i j z, d[i]? = some z → (del d m)[j]? = some z → (i < m ∧ j = i) ∨ (m < i ∧ i = j + 1) := fun i j z hi hj => by
      rcases Nat.lt_or_ge j m with hc | hc
      · rw [del_get_lo d m j hc] at hj
        have := nodup_idx nd hi hj
        exact .inl ⟨by omega, by omega⟩
      · rw [del_get_hi d m j hc] at hj
        have := nodup_idx nd hi hj
        exact .inr ⟨by omega, by omega⟩
    rw [sh_id ka kl, del_length _ _ hm]
    unfold pastID
    by_cases hc : l.p < a.p
    · rw [if_pos hc, wrap64_small (by omega) (by omega)]
      refine ⟨p - 1, with_p _ (by omega), by omega, fun i j z hi hj => ?_⟩
      have := hS i j z hi hj
      omega
    · rw [if_neg hc]
      refine ⟨p, with_p _ pa, by omega, fun i j z hi hj => ?_⟩
      have := hS i j z hi hj
      omega
theorem run_between3 {i j : Nat} {d d1 e : List PEl} {l : POp} {r : List POp} (ht : Tagged i j d) (hn : Numbered 3 j (l :: r)) (hl : putL d l = some d1) (hr : runL d1 r = some e) : ∀ z ∈ d, z ∈ e → z ∈ d1 := fun z hz he => by
  rcases (run_old3 r (j + 1) (tagged3 ht hn.1 hn.2.1 hl) hn.2.2 hr).2 z he with h | h
  · exact h
  · have := ht.2 z hz
    omega
/-- An insertion past a whole line. -/
theorem means_ins (f : Bool) : ∀ (r : List POp) (i j : Nat) {d e : List PEl} {a : POp} {p : Nat}, Tagged i j d → Numbered 3 j r → runL d r = some e → a.k = 1 → a.p = p → p ≤ d.length → d.length + r.length + 2 < 4611686018427387904 →
    ∃ q : Nat, (pastL a r f).1 = { a with p := (q : Int) } ∧ q ≤ e.length ∧ Sides d p e q
  | [], i, j, d, e, a, p, ht, _, hr, ka, pa, hp, _ => by
    obtain rfl := Option.some.inj hr
    exact ⟨p, (same_p a pa.symm).symm, hp, Sides.refl ht.1 p⟩
  | l :: r, i, j, d, e, a, p, ht, hn, hr, ka, pa, hp, hd => by
    simp only [runL] at hr
    split at hr
    · rename_i d1 hl
      have hdl := putL_length hl
      simp only [List.length_cons] at hd
      have t1 := tagged3 ht hn.1 hn.2.1 hl
      obtain ⟨q1, e1, h1, s1⟩ := sides_step (!f) ht.1 t1.1 ka pa hp hl (by omega)
      obtain ⟨q, e2, h2, s2⟩ := means_ins f r i (j + 1) (a := { a with p := (q1 : Int) }) t1 hn.2.2 hr ka rfl h1 (by omega)
      refine ⟨q, ?_, h2, s1.trans s2 (run_between3 ht hn hl hr)⟩
      simp only [pastL]
      rw [e1]
      exact e2
    · cases hr
theorem del_step (f : Bool) {d d1 : List PEl} {a l : POp} {p : Nat} {z : PEl} (nd : d.Nodup) (ka : a.k = 2) (pa : a.p = p) (hz : d[p]? = some z) (hl : putL d l = some d1) (hd : d.length < 4611686018427387904) :
    (z ∈ d1 ∧ ∃ q : Nat, shift a l f = { a with p := (q : Int) } ∧ d1[q]? = some z) ∨ (z ∉ d1 ∧ shift a l f = ⟨0, 0, 0, a.l, a.s⟩) := by
  have hp : p < d.length := (List.getElem?_eq_some_iff.1 hz).1
  have fin : ∀ q : Nat, shift a l f = { a with p := (q : Int) } → d1[q]? = some z → (z ∈ d1 ∧ ∃ q : Nat, shift a l f = { a with p := (q : Int) } ∧ d1[q]? = some z) ∨ (z ∉ d1 ∧ shift a l f = ⟨0, 0, 0, a.l, a.s⟩) := fun q h1 h2 => .inl ⟨List.mem_of_getElem? h2, q, h1, h2⟩
  rcases putL_cases hl with ⟨kl, _, _, rfl⟩ | ⟨kl, m, pm, hm, rfl⟩ | ⟨kl, m, pm, hm, rfl⟩
  · exact fin p ((sh_nb kl).trans (same_p a pa.symm).symm) hz
  · by_cases hc : m ≤ p
    · refine fin (p + 1) ?_ ((ins_get_hi _ d m p hc hm).trans hz)
      rw [sh_di ka kl]
      unfold pastDI
      rw [if_pos (by omega), wrap64_small (by omega) (by omega)]
      exact with_p _ (by omega)
    · refine fin p ?_ ((ins_get_lo _ d m p (by omega) hm).trans hz)
      rw [sh_di ka kl]
      unfold pastDI
      rw [if_neg (by omega)]
      exact with_p _ pa
  · by_cases he : m = p
    · subst he
      refine .inr ⟨fun hmem => ?_, sh_de ka kl (by omega)⟩
      obtain ⟨j, hj, hjz⟩ := List.getElem_of_mem hmem
      have hj2 : (del d m)[j]? = some z := by rw [List.getElem?_eq_getElem hj, hjz]
      rcases Nat.lt_or_ge j m with hc | hc
      · rw [del_get_lo d m j hc] at hj2
        have := nodup_idx nd hz hj2
        omega
      · rw [del_get_hi d m j hc] at hj2
        have := nodup_idx nd hz hj2
        omega
    · by_cases hc : m < p
      · refine fin (p - 1) ?_ ?_
        · rw [sh_dd ka kl (by omega)]
          unfold pastDD
          rw [if_pos (by omega), wrap64_small (by omega) (by omega)]
          exact with_p _ (by omega)
        · rw [del_get_hi d m (p - 1) (by omega), show p - 1 + 1 = p by omega]
          exact hz
      · refine fin p ?_ ((del_get_lo d m p (by omega)).trans hz)
        rw [sh_dd ka kl (by omega)]
        unfold pastDD
        rw [if_neg (by omega)]
        exact with_p _ pa
theorem past_nop (f : Bool) : ∀ (r : List POp) {a : POp}, a.k = 0 → (pastL a r f).1 = a
  | [], _, _ => rfl
  | l :: r, a, h => by
    simp only [pastL]
    rw [sh_na h]
    exact past_nop f r h
/-- A deletion past a whole line. -/
theorem means_del (f : Bool) : ∀ (r : List POp) (i j : Nat) {d e : List PEl} {a : POp} {p : Nat} {z : PEl}, Tagged i j d → Numbered 3 j r → runL d r = some e → a.k = 2 → a.p = p → d[p]? = some z → d.length + r.length + 2 < 4611686018427387904 →
    (z ∈ e ∧ ∃ q : Nat, (pastL a r f).1 = { a with p := (q : Int) } ∧ e[q]? = some z) ∨ (z ∉ e ∧ (pastL a r f).1 = ⟨0, 0, 0, a.l, a.s⟩)
  | [], i, j, d, e, a, p, z, ht, _, hr, ka, pa, hz, _ => by
    obtain rfl := Option.some.inj hr
    exact .inl ⟨List.mem_of_getElem? hz, p, (same_p a pa.symm).symm, hz⟩
  | l :: r, i, j, d, e, a, p, z, ht, hn, hr, ka, pa, hz, hd => by
    simp only [runL] at hr
    split at hr
    · rename_i d1 hl
      have hdl := putL_length hl
      simp only [List.length_cons] at hd
      have t1 := tagged3 ht hn.1 hn.2.1 hl
      simp only [pastL]
      rcases del_step (!f) ht.1 ka pa hz hl (by omega) with ⟨_, q1, e1, z1⟩ | ⟨hz1, e1⟩
      · rw [e1]
        exact means_del f r i (j + 1) (a := { a with p := (q1 : Int) }) t1 hn.2.2 hr ka rfl z1 (by omega)
      · rw [e1]
        refine .inr ⟨fun he => hz1 (run_between3 ht hn hl hr z (List.mem_of_getElem? hz) he), past_nop f r rfl⟩
    · cases hr
end Go.Proofs.YtkicbnkacjnhoaaDoor
