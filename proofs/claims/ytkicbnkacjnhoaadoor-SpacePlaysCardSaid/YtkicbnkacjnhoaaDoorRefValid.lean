/- The walk of jotterref04.Valid. -/
import Derived.Test.YtkicbnkacjnhoaaDoorValid
namespace Go.Proofs.YtkicbnkacjnhoaaDoor
open Go.RowKit
set_option linter.unusedVariables false
set_option linter.unusedSimpArgs false

section
variable (k p c l s : Int) (w : World)
set_option maxHeartbeats 1000000 in
theorem rv_40a (a1 : k < 0) : Calls Tryd.prog 87 #[.agg #[.int .i64 k, .int .i64 p, .int .u8 c, .int .i64 l, .int .i64 s]] w fun e w' => e = .returned (.int .i64 40) ∧ Below w.heap.size w w' := by
  go_enter Tryd.func87, Tryd.ntmps87
  go_wp2
  go_ret
  exact ⟨rfl, below_alloc (Below.refl _ _) _⟩
set_option maxHeartbeats 1000000 in
theorem rv_40b (a1 : ¬ k < 0) (a2 : 2 < k) : Calls Tryd.prog 87 #[.agg #[.int .i64 k, .int .i64 p, .int .u8 c, .int .i64 l, .int .i64 s]] w fun e w' => e = .returned (.int .i64 40) ∧ Below w.heap.size w w' := by
  go_enter Tryd.func87, Tryd.ntmps87
  go_wp2
  go_ret
  exact ⟨rfl, below_alloc (Below.refl _ _) _⟩
set_option maxHeartbeats 1000000 in
theorem rv_41a (a1 : ¬ k < 0) (a2 : ¬ 2 < k) (b1 : l < 1) : Calls Tryd.prog 87 #[.agg #[.int .i64 k, .int .i64 p, .int .u8 c, .int .i64 l, .int .i64 s]] w fun e w' => e = .returned (.int .i64 41) ∧ Below w.heap.size w w' := by
  go_enter Tryd.func87, Tryd.ntmps87
  go_wp2
  go_ret
  exact ⟨rfl, below_alloc (Below.refl _ _) _⟩
set_option maxHeartbeats 1000000 in
theorem rv_41b (a1 : ¬ k < 0) (a2 : ¬ 2 < k) (b1 : ¬ l < 1) (b2 : 64 < l) : Calls Tryd.prog 87 #[.agg #[.int .i64 k, .int .i64 p, .int .u8 c, .int .i64 l, .int .i64 s]] w fun e w' => e = .returned (.int .i64 41) ∧ Below w.heap.size w w' := by
  go_enter Tryd.func87, Tryd.ntmps87
  go_wp2
  go_ret
  exact ⟨rfl, below_alloc (Below.refl _ _) _⟩
set_option maxHeartbeats 1000000 in
theorem rv_41c (a1 : ¬ k < 0) (a2 : ¬ 2 < k) (b1 : ¬ l < 1) (b2 : ¬ 64 < l) (b3 : s < 1) : Calls Tryd.prog 87 #[.agg #[.int .i64 k, .int .i64 p, .int .u8 c, .int .i64 l, .int .i64 s]] w fun e w' => e = .returned (.int .i64 41) ∧ Below w.heap.size w w' := by
  go_enter Tryd.func87, Tryd.ntmps87
  go_wp2
  go_ret
  exact ⟨rfl, below_alloc (Below.refl _ _) _⟩
set_option maxHeartbeats 1000000 in
theorem rv_41d (a1 : ¬ k < 0) (a2 : ¬ 2 < k) (b1 : ¬ l < 1) (b2 : ¬ 64 < l) (b3 : ¬ s < 1) (b4 : 64 < s) : Calls Tryd.prog 87 #[.agg #[.int .i64 k, .int .i64 p, .int .u8 c, .int .i64 l, .int .i64 s]] w fun e w' => e = .returned (.int .i64 41) ∧ Below w.heap.size w w' := by
  go_enter Tryd.func87, Tryd.ntmps87
  go_wp2
  go_ret
  exact ⟨rfl, below_alloc (Below.refl _ _) _⟩
set_option maxHeartbeats 1000000 in
theorem rv_1ca (b1 : ¬ l < 1) (b2 : ¬ 64 < l) (b3 : ¬ s < 1) (b4 : ¬ 64 < s) (c1 : c < 32) : Calls Tryd.prog 87 #[.agg #[.int .i64 1, .int .i64 p, .int .u8 c, .int .i64 l, .int .i64 s]] w fun e w' => e = .returned (.int .i64 42) ∧ Below w.heap.size w w' := by
  go_enter Tryd.func87, Tryd.ntmps87
  go_wp2
  go_ret
  exact ⟨rfl, below_alloc (Below.refl _ _) _⟩
set_option maxHeartbeats 1000000 in
theorem rv_1cb (b1 : ¬ l < 1) (b2 : ¬ 64 < l) (b3 : ¬ s < 1) (b4 : ¬ 64 < s) (c1 : ¬ c < 32) (c2 : 126 < c) : Calls Tryd.prog 87 #[.agg #[.int .i64 1, .int .i64 p, .int .u8 c, .int .i64 l, .int .i64 s]] w fun e w' => e = .returned (.int .i64 42) ∧ Below w.heap.size w w' := by
  go_enter Tryd.func87, Tryd.ntmps87
  go_wp2
  go_ret
  exact ⟨rfl, below_alloc (Below.refl _ _) _⟩
set_option maxHeartbeats 1000000 in
theorem rv_1pa (b1 : ¬ l < 1) (b2 : ¬ 64 < l) (b3 : ¬ s < 1) (b4 : ¬ 64 < s) (c1 : ¬ c < 32) (c2 : ¬ 126 < c) (d1 : p < 0) : Calls Tryd.prog 87 #[.agg #[.int .i64 1, .int .i64 p, .int .u8 c, .int .i64 l, .int .i64 s]] w fun e w' => e = .returned (.int .i64 43) ∧ Below w.heap.size w w' := by
  go_enter Tryd.func87, Tryd.ntmps87
  go_wp2
  go_ret
  exact ⟨rfl, below_alloc (Below.refl _ _) _⟩
set_option maxHeartbeats 1000000 in
theorem rv_1pb (b1 : ¬ l < 1) (b2 : ¬ 64 < l) (b3 : ¬ s < 1) (b4 : ¬ 64 < s) (c1 : ¬ c < 32) (c2 : ¬ 126 < c) (d1 : ¬ p < 0) (d2 : 4096 ≤ p) : Calls Tryd.prog 87 #[.agg #[.int .i64 1, .int .i64 p, .int .u8 c, .int .i64 l, .int .i64 s]] w fun e w' => e = .returned (.int .i64 43) ∧ Below w.heap.size w w' := by
  go_enter Tryd.func87, Tryd.ntmps87
  go_wp2
  go_ret
  exact ⟨rfl, below_alloc (Below.refl _ _) _⟩
set_option maxHeartbeats 1000000 in
theorem rv_1 (b1 : ¬ l < 1) (b2 : ¬ 64 < l) (b3 : ¬ s < 1) (b4 : ¬ 64 < s) (c1 : ¬ c < 32) (c2 : ¬ 126 < c) (d1 : ¬ p < 0) (d2 : ¬ 4096 ≤ p) : Calls Tryd.prog 87 #[.agg #[.int .i64 1, .int .i64 p, .int .u8 c, .int .i64 l, .int .i64 s]] w fun e w' => e = .returned (.int .i64 0) ∧ Below w.heap.size w w' := by
  go_enter Tryd.func87, Tryd.ntmps87
  go_wp2
  go_ret
  exact ⟨rfl, below_alloc (Below.refl _ _) _⟩
set_option maxHeartbeats 1000000 in
theorem rv_0c (b1 : ¬ l < 1) (b2 : ¬ 64 < l) (b3 : ¬ s < 1) (b4 : ¬ 64 < s) (c1 : ¬ c = 0) : Calls Tryd.prog 87 #[.agg #[.int .i64 0, .int .i64 p, .int .u8 c, .int .i64 l, .int .i64 s]] w fun e w' => e = .returned (.int .i64 42) ∧ Below w.heap.size w w' := by
  go_enter Tryd.func87, Tryd.ntmps87
  go_wp2
  go_ret
  exact ⟨rfl, below_alloc (Below.refl _ _) _⟩
set_option maxHeartbeats 1000000 in
theorem rv_2c (b1 : ¬ l < 1) (b2 : ¬ 64 < l) (b3 : ¬ s < 1) (b4 : ¬ 64 < s) (c1 : ¬ c = 0) : Calls Tryd.prog 87 #[.agg #[.int .i64 2, .int .i64 p, .int .u8 c, .int .i64 l, .int .i64 s]] w fun e w' => e = .returned (.int .i64 42) ∧ Below w.heap.size w w' := by
  go_enter Tryd.func87, Tryd.ntmps87
  go_wp2
  go_ret
  exact ⟨rfl, below_alloc (Below.refl _ _) _⟩
set_option maxHeartbeats 1000000 in
theorem rv_2pa (b1 : ¬ l < 1) (b2 : ¬ 64 < l) (b3 : ¬ s < 1) (b4 : ¬ 64 < s) (d1 : p < 0) : Calls Tryd.prog 87 #[.agg #[.int .i64 2, .int .i64 p, .int .u8 0, .int .i64 l, .int .i64 s]] w fun e w' => e = .returned (.int .i64 43) ∧ Below w.heap.size w w' := by
  go_enter Tryd.func87, Tryd.ntmps87
  go_wp2
  go_ret
  exact ⟨rfl, below_alloc (Below.refl _ _) _⟩
set_option maxHeartbeats 1000000 in
theorem rv_2pb (b1 : ¬ l < 1) (b2 : ¬ 64 < l) (b3 : ¬ s < 1) (b4 : ¬ 64 < s) (d1 : ¬ p < 0) (d2 : 4096 ≤ p) : Calls Tryd.prog 87 #[.agg #[.int .i64 2, .int .i64 p, .int .u8 0, .int .i64 l, .int .i64 s]] w fun e w' => e = .returned (.int .i64 43) ∧ Below w.heap.size w w' := by
  go_enter Tryd.func87, Tryd.ntmps87
  go_wp2
  go_ret
  exact ⟨rfl, below_alloc (Below.refl _ _) _⟩
set_option maxHeartbeats 1000000 in
theorem rv_2 (b1 : ¬ l < 1) (b2 : ¬ 64 < l) (b3 : ¬ s < 1) (b4 : ¬ 64 < s) (d1 : ¬ p < 0) (d2 : ¬ 4096 ≤ p) : Calls Tryd.prog 87 #[.agg #[.int .i64 2, .int .i64 p, .int .u8 0, .int .i64 l, .int .i64 s]] w fun e w' => e = .returned (.int .i64 0) ∧ Below w.heap.size w w' := by
  go_enter Tryd.func87, Tryd.ntmps87
  go_wp2
  go_ret
  exact ⟨rfl, below_alloc (Below.refl _ _) _⟩
set_option maxHeartbeats 1000000 in
theorem rv_0p (b1 : ¬ l < 1) (b2 : ¬ 64 < l) (b3 : ¬ s < 1) (b4 : ¬ 64 < s) (d1 : ¬ p = 0) : Calls Tryd.prog 87 #[.agg #[.int .i64 0, .int .i64 p, .int .u8 0, .int .i64 l, .int .i64 s]] w fun e w' => e = .returned (.int .i64 43) ∧ Below w.heap.size w w' := by
  go_enter Tryd.func87, Tryd.ntmps87
  go_wp2
  go_ret
  exact ⟨rfl, below_alloc (Below.refl _ _) _⟩
set_option maxHeartbeats 1000000 in
theorem rv_0 (b1 : ¬ l < 1) (b2 : ¬ 64 < l) (b3 : ¬ s < 1) (b4 : ¬ 64 < s) : Calls Tryd.prog 87 #[.agg #[.int .i64 0, .int .i64 0, .int .u8 0, .int .i64 l, .int .i64 s]] w fun e w' => e = .returned (.int .i64 0) ∧ Below w.heap.size w w' := by
  go_enter Tryd.func87, Tryd.ntmps87
  go_wp2
  go_ret
  exact ⟨rfl, below_alloc (Below.refl _ _) _⟩
end
theorem rvalid_any (o : POp) (w : World) (hc : 0 ≤ o.c ∧ o.c ≤ 255) : Calls Tryd.prog 87 #[.agg #[.int .i64 o.k, .int .i64 o.p, .int .u8 o.c, .int .i64 o.l, .int .i64 o.s]] w fun e w' => e = .returned (.int .i64 (validL o)) ∧ Below w.heap.size w w' := by
  obtain ⟨k, p, c, l, s⟩ := o
  by_cases a1 : k < 0
  · rw [show validL ⟨k, p, c, l, s⟩ = 40 by simp only [validL]; rw [if_neg (by omega)]]; exact rv_40a k p c l s w a1
  by_cases a2 : 2 < k
  · rw [show validL ⟨k, p, c, l, s⟩ = 40 by simp only [validL]; rw [if_neg (by omega)]]; exact rv_40b k p c l s w a1 a2
  by_cases b1 : l < 1
  · rw [show validL ⟨k, p, c, l, s⟩ = 41 by simp only [validL]; rw [if_pos (by omega), if_neg (by omega)]]; exact rv_41a k p c l s w a1 a2 b1
  by_cases b2 : 64 < l
  · rw [show validL ⟨k, p, c, l, s⟩ = 41 by simp only [validL]; rw [if_pos (by omega), if_neg (by omega)]]; exact rv_41b k p c l s w a1 a2 b1 b2
  by_cases b3 : s < 1
  · rw [show validL ⟨k, p, c, l, s⟩ = 41 by simp only [validL]; rw [if_pos (by omega), if_neg (by omega)]]; exact rv_41c k p c l s w a1 a2 b1 b2 b3
  by_cases b4 : 64 < s
  · rw [show validL ⟨k, p, c, l, s⟩ = 41 by simp only [validL]; rw [if_pos (by omega), if_neg (by omega)]]; exact rv_41d k p c l s w a1 a2 b1 b2 b3 b4
  have hk : k = 0 ∨ k = 1 ∨ k = 2 := by omega
  rcases hk with rfl | rfl | rfl
  · by_cases c1 : c = 0
    · subst c1
      by_cases d1 : p = 0
      · subst d1
        rw [show validL ⟨0, 0, 0, l, s⟩ = 0 by simp only [validL]; simp; (try omega); (try ((repeat' split) <;> omega))]
        exact rv_0 l s w b1 b2 b3 b4
      · rw [show validL ⟨0, p, 0, l, s⟩ = 43 by simp only [validL]; simp; (try omega); (try ((repeat' split) <;> omega))]
        exact rv_0p p l s w b1 b2 b3 b4 d1
    · rw [show validL ⟨0, p, c, l, s⟩ = 42 by simp only [validL]; rw [if_pos (by omega), if_pos (by omega), if_neg (by omega)]]
      exact rv_0c p c l s w b1 b2 b3 b4 c1
  · by_cases c1 : c < 32
    · rw [show validL ⟨1, p, c, l, s⟩ = 42 by simp only [validL]; rw [if_pos (by omega), if_pos (by omega), if_neg (by omega)]]
      exact rv_1ca p c l s w b1 b2 b3 b4 c1
    by_cases c2 : 126 < c
    · rw [show validL ⟨1, p, c, l, s⟩ = 42 by simp only [validL]; rw [if_pos (by omega), if_pos (by omega), if_neg (by omega)]]
      exact rv_1cb p c l s w b1 b2 b3 b4 c1 c2
    by_cases d1 : p < 0
    · rw [show validL ⟨1, p, c, l, s⟩ = 43 by simp only [validL]; simp; (try omega); (try ((repeat' split) <;> omega))]
      exact rv_1pa p c l s w b1 b2 b3 b4 c1 c2 d1
    by_cases d2 : 4096 ≤ p
    · rw [show validL ⟨1, p, c, l, s⟩ = 43 by simp only [validL]; simp; (try omega); (try ((repeat' split) <;> omega))]
      exact rv_1pb p c l s w b1 b2 b3 b4 c1 c2 d1 d2
    · rw [show validL ⟨1, p, c, l, s⟩ = 0 by simp only [validL]; simp; (try omega); (try ((repeat' split) <;> omega))]
      exact rv_1 p c l s w b1 b2 b3 b4 c1 c2 d1 d2
  · by_cases c1 : c = 0
    · subst c1
      by_cases d1 : p < 0
      · rw [show validL ⟨2, p, 0, l, s⟩ = 43 by simp only [validL]; simp; (try omega); (try ((repeat' split) <;> omega))]
        exact rv_2pa p l s w b1 b2 b3 b4 d1
      by_cases d2 : 4096 ≤ p
      · rw [show validL ⟨2, p, 0, l, s⟩ = 43 by simp only [validL]; simp; (try omega); (try ((repeat' split) <;> omega))]
        exact rv_2pb p l s w b1 b2 b3 b4 d1 d2
      · rw [show validL ⟨2, p, 0, l, s⟩ = 0 by simp only [validL]; simp; (try omega); (try ((repeat' split) <;> omega))]
        exact rv_2 p l s w b1 b2 b3 b4 d1 d2
    · rw [show validL ⟨2, p, c, l, s⟩ = 42 by simp only [validL]; rw [if_pos (by omega), if_pos (by omega), if_neg (by omega)]]
      exact rv_2c p c l s w b1 b2 b3 b4 c1
end Go.Proofs.YtkicbnkacjnhoaaDoor
