/- The walks of package doc's within and Valid. -/
import Derived.Test.YtkicbnkacjnhoaaDoorMem
namespace Go.Proofs.YtkicbnkacjnhoaaDoor
open Go.RowKit
set_option linter.unusedVariables false
set_option linter.unusedSimpArgs false

/-- What Valid answers. -/
def validL (o : POp) : Int :=
  if 0 ≤ o.k ∧ o.k ≤ 2 then
    if 1 ≤ o.l ∧ o.l ≤ 64 ∧ 1 ≤ o.s ∧ o.s ≤ 64 then
      if (o.k = 1 ∧ 32 ≤ o.c ∧ o.c ≤ 126) ∨ (o.k ≠ 1 ∧ o.c = 0) then
        if 0 ≤ o.p ∧ o.p ≤ (if o.k = 0 then 0 else 4095) then 0 else 43
      else 42
    else 41
  else 40
theorem within_yes (n lo hi : Int) (w : World) (h : lo ≤ n ∧ n ≤ hi) : Calls Tryd.prog 75 #[.int .i64 n, .int .i64 lo, .int .i64 hi] w fun e w' => e = .returned (.bool true) ∧ w' = w := by
  obtain ⟨h1, h2⟩ := h
  go_enter Tryd.func75, Tryd.ntmps75
  go_wp2
  go_ret
  exact ⟨rfl, rfl⟩
theorem within_no (n lo hi : Int) (w : World) (h : ¬ (lo ≤ n ∧ n ≤ hi)) : Calls Tryd.prog 75 #[.int .i64 n, .int .i64 lo, .int .i64 hi] w fun e w' => e = .returned (.bool false) ∧ w' = w := by
  by_cases h1 : lo ≤ n
  · have h2 : ¬ n ≤ hi := fun h' => h ⟨h1, h'⟩
    clear h
    go_enter Tryd.func75, Tryd.ntmps75
    go_wp2
    go_ret
    exact ⟨rfl, rfl⟩
  · clear h
    go_enter Tryd.func75, Tryd.ntmps75
    go_wp2
    go_ret
    exact ⟨rfl, rfl⟩

section
variable (k p c l s : Int) (w : World)
set_option maxHeartbeats 1000000 in
theorem valid_40 (h : ¬ (0 ≤ k ∧ k ≤ 2)) : Calls Tryd.prog 51 #[.agg #[.int .i64 k, .int .i64 p, .int .u8 c, .int .i64 l, .int .i64 s]] w fun e w' => e = .returned (.int .i64 40) ∧ Below w.heap.size w w' := by
  have H := Lib.hid h
  clear h
  go_enter Tryd.func51, Tryd.ntmps51
  go_wp2_with (go_at_call 75; with_reducible refine (within_no _ _ _ _ H.out).mono ?_; (rintro e w' ⟨rfl, hw⟩); subst w')
  go_ret
  exact ⟨rfl, below_alloc (Below.refl _ _) _⟩
set_option maxHeartbeats 1000000 in
theorem valid_41 (h : 0 ≤ k ∧ k ≤ 2) (h2 : ¬ (1 ≤ l ∧ l ≤ 64 ∧ 1 ≤ s ∧ s ≤ 64)) : Calls Tryd.prog 51 #[.agg #[.int .i64 k, .int .i64 p, .int .u8 c, .int .i64 l, .int .i64 s]] w fun e w' => e = .returned (.int .i64 41) ∧ Below w.heap.size w w' := by
  have H := Lib.hid h
  clear h
  by_cases h3 : 1 ≤ l ∧ l ≤ 64
  · have H2 : Hid (¬ (1 ≤ s ∧ s ≤ 64)) := Lib.hid (fun h' => h2 ⟨h3.1, h3.2, h'.1, h'.2⟩)
    have H3 := Lib.hid h3
    clear h2 h3
    go_enter Tryd.func51, Tryd.ntmps51
    go_wp2_with (go_at_call 75; (first | with_reducible refine (within_yes _ _ _ _ H.out).mono ?_ | with_reducible refine (within_yes _ _ _ _ H3.out).mono ?_ | with_reducible refine (within_no _ _ _ _ H2.out).mono ?_); (rintro e w' ⟨rfl, hw⟩); subst w')
    go_ret
    exact ⟨rfl, below_alloc (Below.refl _ _) _⟩
  · have H3 := Lib.hid h3
    clear h2 h3
    go_enter Tryd.func51, Tryd.ntmps51
    go_wp2_with (go_at_call 75; (first | with_reducible refine (within_yes _ _ _ _ H.out).mono ?_ | with_reducible refine (within_no _ _ _ _ H3.out).mono ?_); (rintro e w' ⟨rfl, hw⟩); subst w')
    go_ret
    exact ⟨rfl, below_alloc (Below.refl _ _) _⟩
set_option maxHeartbeats 1000000 in
theorem valid_1c (h2 : 1 ≤ l ∧ l ≤ 64) (h3 : 1 ≤ s ∧ s ≤ 64) (hc : 0 ≤ c ∧ c ≤ 255) (h4 : ¬ (32 ≤ c ∧ c ≤ 126)) : Calls Tryd.prog 51 #[.agg #[.int .i64 1, .int .i64 p, .int .u8 c, .int .i64 l, .int .i64 s]] w fun e w' => e = .returned (.int .i64 42) ∧ Below w.heap.size w w' := by
  have H2 := Lib.hid h2
  have H3 := Lib.hid h3
  clear h2 h3
  have H4 := Lib.hid h4
  clear h4
  obtain ⟨hc0, hc1⟩ := hc
  have H : Hid (0 ≤ (1 : Int) ∧ (1 : Int) ≤ 2) := Lib.hid (by omega)
  go_enter Tryd.func51, Tryd.ntmps51
  go_wp2_with (go_at_call 75; (first | with_reducible refine (within_yes _ _ _ _ H.out).mono ?_ | with_reducible refine (within_yes _ _ _ _ H2.out).mono ?_ | with_reducible refine (within_yes _ _ _ _ H3.out).mono ?_ | with_reducible refine (within_no _ _ _ _ H4.out).mono ?_); (rintro e w' ⟨rfl, hw⟩); subst w')
  go_ret
  exact ⟨rfl, below_alloc (Below.refl _ _) _⟩
set_option maxHeartbeats 1000000 in
theorem valid_1p (h2 : 1 ≤ l ∧ l ≤ 64) (h3 : 1 ≤ s ∧ s ≤ 64) (h4 : 32 ≤ c ∧ c ≤ 126) (h5 : ¬ (0 ≤ p ∧ p ≤ 4095)) : Calls Tryd.prog 51 #[.agg #[.int .i64 1, .int .i64 p, .int .u8 c, .int .i64 l, .int .i64 s]] w fun e w' => e = .returned (.int .i64 43) ∧ Below w.heap.size w w' := by
  have H2 := Lib.hid h2
  have H3 := Lib.hid h3
  clear h2 h3
  have H4 := Lib.hid h4
  have H5 := Lib.hid h5
  obtain ⟨hc0, hc1⟩ := h4
  clear h5
  have H : Hid (0 ≤ (1 : Int) ∧ (1 : Int) ≤ 2) := Lib.hid (by omega)
  go_enter Tryd.func51, Tryd.ntmps51
  go_wp2_with (go_at_call 75; (first | with_reducible refine (within_yes _ _ _ _ H.out).mono ?_ | with_reducible refine (within_yes _ _ _ _ H2.out).mono ?_ | with_reducible refine (within_yes _ _ _ _ H3.out).mono ?_ | with_reducible refine (within_yes _ _ _ _ H4.out).mono ?_ | with_reducible refine (within_no _ _ _ _ H5.out).mono ?_); (rintro e w' ⟨rfl, hw⟩); subst w')
  go_ret
  exact ⟨rfl, below_alloc (Below.refl _ _) _⟩
set_option maxHeartbeats 1000000 in
theorem valid_1 (h2 : 1 ≤ l ∧ l ≤ 64) (h3 : 1 ≤ s ∧ s ≤ 64) (h4 : 32 ≤ c ∧ c ≤ 126) (h5 : 0 ≤ p ∧ p ≤ 4095) : Calls Tryd.prog 51 #[.agg #[.int .i64 1, .int .i64 p, .int .u8 c, .int .i64 l, .int .i64 s]] w fun e w' => e = .returned (.int .i64 0) ∧ Below w.heap.size w w' := by
  have H2 := Lib.hid h2
  have H3 := Lib.hid h3
  clear h2 h3
  have H4 := Lib.hid h4
  have H5 := Lib.hid h5
  obtain ⟨hc0, hc1⟩ := h4
  clear h5
  have H : Hid (0 ≤ (1 : Int) ∧ (1 : Int) ≤ 2) := Lib.hid (by omega)
  go_enter Tryd.func51, Tryd.ntmps51
  go_wp2_with (go_at_call 75; (first | with_reducible refine (within_yes _ _ _ _ H.out).mono ?_ | with_reducible refine (within_yes _ _ _ _ H2.out).mono ?_ | with_reducible refine (within_yes _ _ _ _ H3.out).mono ?_ | with_reducible refine (within_yes _ _ _ _ H4.out).mono ?_ | with_reducible refine (within_yes _ _ _ _ H5.out).mono ?_); (rintro e w' ⟨rfl, hw⟩); subst w')
  go_ret
  exact ⟨rfl, below_alloc (Below.refl _ _) _⟩
set_option maxHeartbeats 1000000 in
theorem valid_2c (h2 : 1 ≤ l ∧ l ≤ 64) (h3 : 1 ≤ s ∧ s ≤ 64) (h4 : ¬ c = 0) : Calls Tryd.prog 51 #[.agg #[.int .i64 2, .int .i64 p, .int .u8 c, .int .i64 l, .int .i64 s]] w fun e w' => e = .returned (.int .i64 42) ∧ Below w.heap.size w w' := by
  have H2 := Lib.hid h2
  have H3 := Lib.hid h3
  clear h2 h3
  have H4 : (c != 0) = true := by simpa using h4
  clear h4
  have H : Hid (0 ≤ (2 : Int) ∧ (2 : Int) ≤ 2) := Lib.hid (by omega)
  go_enter Tryd.func51, Tryd.ntmps51
  go_wp2_with (go_at_call 75; (first | with_reducible refine (within_yes _ _ _ _ H.out).mono ?_ | with_reducible refine (within_yes _ _ _ _ H2.out).mono ?_ | with_reducible refine (within_yes _ _ _ _ H3.out).mono ?_); (rintro e w' ⟨rfl, hw⟩); subst w')
  go_ret
  exact ⟨rfl, below_alloc (Below.refl _ _) _⟩
set_option maxHeartbeats 1000000 in
theorem valid_0c (h2 : 1 ≤ l ∧ l ≤ 64) (h3 : 1 ≤ s ∧ s ≤ 64) (h4 : ¬ c = 0) : Calls Tryd.prog 51 #[.agg #[.int .i64 0, .int .i64 p, .int .u8 c, .int .i64 l, .int .i64 s]] w fun e w' => e = .returned (.int .i64 42) ∧ Below w.heap.size w w' := by
  have H2 := Lib.hid h2
  have H3 := Lib.hid h3
  clear h2 h3
  have H4 : (c != 0) = true := by simpa using h4
  clear h4
  have H : Hid (0 ≤ (0 : Int) ∧ (0 : Int) ≤ 2) := Lib.hid (by omega)
  go_enter Tryd.func51, Tryd.ntmps51
  go_wp2_with (go_at_call 75; (first | with_reducible refine (within_yes _ _ _ _ H.out).mono ?_ | with_reducible refine (within_yes _ _ _ _ H2.out).mono ?_ | with_reducible refine (within_yes _ _ _ _ H3.out).mono ?_); (rintro e w' ⟨rfl, hw⟩); subst w')
  go_ret
  exact ⟨rfl, below_alloc (Below.refl _ _) _⟩
set_option maxHeartbeats 1000000 in
theorem valid_2p (h2 : 1 ≤ l ∧ l ≤ 64) (h3 : 1 ≤ s ∧ s ≤ 64) (h5 : ¬ (0 ≤ p ∧ p ≤ 4095)) : Calls Tryd.prog 51 #[.agg #[.int .i64 2, .int .i64 p, .int .u8 0, .int .i64 l, .int .i64 s]] w fun e w' => e = .returned (.int .i64 43) ∧ Below w.heap.size w w' := by
  have H2 := Lib.hid h2
  have H3 := Lib.hid h3
  clear h2 h3
  have H5 := Lib.hid h5
  clear h5
  have H : Hid (0 ≤ (2 : Int) ∧ (2 : Int) ≤ 2) := Lib.hid (by omega)
  go_enter Tryd.func51, Tryd.ntmps51
  go_wp2_with (go_at_call 75; (first | with_reducible refine (within_yes _ _ _ _ H.out).mono ?_ | with_reducible refine (within_yes _ _ _ _ H2.out).mono ?_ | with_reducible refine (within_yes _ _ _ _ H3.out).mono ?_ | with_reducible refine (within_no _ _ _ _ H5.out).mono ?_); (rintro e w' ⟨rfl, hw⟩); subst w')
  go_ret
  exact ⟨rfl, below_alloc (Below.refl _ _) _⟩
set_option maxHeartbeats 1000000 in
theorem valid_2 (h2 : 1 ≤ l ∧ l ≤ 64) (h3 : 1 ≤ s ∧ s ≤ 64) (h5 : 0 ≤ p ∧ p ≤ 4095) : Calls Tryd.prog 51 #[.agg #[.int .i64 2, .int .i64 p, .int .u8 0, .int .i64 l, .int .i64 s]] w fun e w' => e = .returned (.int .i64 0) ∧ Below w.heap.size w w' := by
  have H2 := Lib.hid h2
  have H3 := Lib.hid h3
  clear h2 h3
  have H5 := Lib.hid h5
  clear h5
  have H : Hid (0 ≤ (2 : Int) ∧ (2 : Int) ≤ 2) := Lib.hid (by omega)
  go_enter Tryd.func51, Tryd.ntmps51
  go_wp2_with (go_at_call 75; (first | with_reducible refine (within_yes _ _ _ _ H.out).mono ?_ | with_reducible refine (within_yes _ _ _ _ H2.out).mono ?_ | with_reducible refine (within_yes _ _ _ _ H3.out).mono ?_ | with_reducible refine (within_yes _ _ _ _ H5.out).mono ?_); (rintro e w' ⟨rfl, hw⟩); subst w')
  go_ret
  exact ⟨rfl, below_alloc (Below.refl _ _) _⟩
set_option maxHeartbeats 1000000 in
theorem valid_0p (h2 : 1 ≤ l ∧ l ≤ 64) (h3 : 1 ≤ s ∧ s ≤ 64) (h5 : ¬ (0 ≤ p ∧ p ≤ 0)) : Calls Tryd.prog 51 #[.agg #[.int .i64 0, .int .i64 p, .int .u8 0, .int .i64 l, .int .i64 s]] w fun e w' => e = .returned (.int .i64 43) ∧ Below w.heap.size w w' := by
  have H2 := Lib.hid h2
  have H3 := Lib.hid h3
  clear h2 h3
  have H5 := Lib.hid h5
  clear h5
  have H : Hid (0 ≤ (0 : Int) ∧ (0 : Int) ≤ 2) := Lib.hid (by omega)
  go_enter Tryd.func51, Tryd.ntmps51
  go_wp2_with (go_at_call 75; (first | with_reducible refine (within_yes _ _ _ _ H.out).mono ?_ | with_reducible refine (within_yes _ _ _ _ H2.out).mono ?_ | with_reducible refine (within_yes _ _ _ _ H3.out).mono ?_ | with_reducible refine (within_no _ _ _ _ H5.out).mono ?_); (rintro e w' ⟨rfl, hw⟩); subst w')
  go_ret
  exact ⟨rfl, below_alloc (Below.refl _ _) _⟩
set_option maxHeartbeats 1000000 in
theorem valid_0 (h2 : 1 ≤ l ∧ l ≤ 64) (h3 : 1 ≤ s ∧ s ≤ 64) (h5 : 0 ≤ p ∧ p ≤ 0) : Calls Tryd.prog 51 #[.agg #[.int .i64 0, .int .i64 p, .int .u8 0, .int .i64 l, .int .i64 s]] w fun e w' => e = .returned (.int .i64 0) ∧ Below w.heap.size w w' := by
  have H2 := Lib.hid h2
  have H3 := Lib.hid h3
  clear h2 h3
  have H5 := Lib.hid h5
  clear h5
  have H : Hid (0 ≤ (0 : Int) ∧ (0 : Int) ≤ 2) := Lib.hid (by omega)
  go_enter Tryd.func51, Tryd.ntmps51
  go_wp2_with (go_at_call 75; (first | with_reducible refine (within_yes _ _ _ _ H.out).mono ?_ | with_reducible refine (within_yes _ _ _ _ H2.out).mono ?_ | with_reducible refine (within_yes _ _ _ _ H3.out).mono ?_ | with_reducible refine (within_yes _ _ _ _ H5.out).mono ?_); (rintro e w' ⟨rfl, hw⟩); subst w')
  go_ret
  exact ⟨rfl, below_alloc (Below.refl _ _) _⟩
end
theorem valid_any (o : POp) (w : World) (hc : 0 ≤ o.c ∧ o.c ≤ 255) : Calls Tryd.prog 51 #[.agg #[.int .i64 o.k, .int .i64 o.p, .int .u8 o.c, .int .i64 o.l, .int .i64 o.s]] w fun e w' => e = .returned (.int .i64 (validL o)) ∧ Below w.heap.size w w' := by
  obtain ⟨k, p, c, l, s⟩ := o
  simp only at hc ⊢
  by_cases hk : 0 ≤ k ∧ k ≤ 2
  · by_cases hw : 1 ≤ l ∧ l ≤ 64 ∧ 1 ≤ s ∧ s ≤ 64
    · have h2 : 1 ≤ l ∧ l ≤ 64 := ⟨hw.1, hw.2.1⟩
      have h3 : 1 ≤ s ∧ s ≤ 64 := hw.2.2
      have hcase : k = 0 ∨ k = 1 ∨ k = 2 := by omega
      unfold validL
      simp only
      rw [if_pos hk, if_pos hw]
      rcases hcase with rfl | rfl | rfl
      · by_cases h4 : c = 0
        · subst h4
          rw [if_pos (.inr ⟨by omega, rfl⟩)]
          by_cases h5 : 0 ≤ p ∧ p ≤ 0
          · rw [if_pos (by simpa using h5)]
            exact valid_0 p l s w h2 h3 h5
          · rw [if_neg (by simpa using h5)]
            exact valid_0p p l s w h2 h3 h5
        · rw [if_neg (by omega)]
          exact valid_0c p c l s w h2 h3 h4
      · by_cases h4 : 32 ≤ c ∧ c ≤ 126
        · rw [if_pos (.inl ⟨rfl, h4.1, h4.2⟩)]
          by_cases h5 : 0 ≤ p ∧ p ≤ 4095
          · rw [if_pos (by simpa using h5)]
            exact valid_1 p c l s w h2 h3 h4 h5
          · rw [if_neg (by simpa using h5)]
            exact valid_1p p c l s w h2 h3 h4 h5
        · rw [if_neg (by omega)]
          exact valid_1c p c l s w h2 h3 hc h4
      · by_cases h4 : c = 0
        · subst h4
          rw [if_pos (.inr ⟨by omega, rfl⟩)]
          by_cases h5 : 0 ≤ p ∧ p ≤ 4095
          · rw [if_pos (by simpa using h5)]
            exact valid_2 p l s w h2 h3 h5
          · rw [if_neg (by simpa using h5)]
            exact valid_2p p l s w h2 h3 h5
        · rw [if_neg (by omega)]
          exact valid_2c p c l s w h2 h3 h4
    · have e : validL ⟨k, p, c, l, s⟩ = 41 := by unfold validL; simp only; rw [if_pos hk, if_neg hw]
      rw [e]
      exact valid_41 k p c l s w hk hw
  · have e : validL ⟨k, p, c, l, s⟩ = 40 := by unfold validL; simp only; rw [if_neg hk]
    rw [e]
    exact valid_40 k p c l s w hk
end Go.Proofs.YtkicbnkacjnhoaaDoor
