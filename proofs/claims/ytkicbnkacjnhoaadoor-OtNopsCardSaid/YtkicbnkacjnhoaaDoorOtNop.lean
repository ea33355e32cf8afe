/- Plain Lean: what Nops do to a weave: nothing. No program in sight. -/
import Derived.Test.YtkicbnkacjnhoaaDoorOtWeave
namespace Go.Proofs.YtkicbnkacjnhoaaDoor
theorem shift_nop_left {a : POp} (b : POp) (f : Bool) (h : a.k = 0) : shift a b f = a := by simp [shift, h]
theorem shift_nop_right (a : POp) {b : POp} (f : Bool) (h : b.k = 0) : shift a b f = a := by
  unfold shift
  split
  · simp [h]
  · split
    · simp [h]
    · rfl
theorem pastL_nop {op : POp} (h : op.k = 0) (f : Bool) : ∀ line, pastL op line f = (op, line)
  | [] => rfl
  | l :: r => by simp only [pastL, shift_nop_left l _ h, shift_nop_right l _ h, pastL_nop h f r]
/-- What stands where the mask says true. -/
def pick : List Bool → List POp → List POp
  | true :: m, x :: r => x :: pick m r
  | false :: m, _ :: r => pick m r
  | _, _ => []
/-- Where the mask says false a Nop stands, and it is the same in both. -/
inductive Masked : List Bool → List POp → List POp → Prop
  | nil : Masked [] [] []
  | yes (x y : POp) {m xs ys} (h : Masked m xs ys) : Masked (true :: m) (x :: xs) (y :: ys)
  | no {x : POp} (hx : x.k = 0) {m xs ys} (h : Masked m xs ys) : Masked (false :: m) (x :: xs) (x :: ys)
theorem Masked.trans {m : List Bool} {xs ys zs : List POp} (h : Masked m xs ys) (k : Masked m ys zs) : Masked m xs zs := by
  induction h generalizing zs with
  | nil => cases k; exact .nil
  | yes x y _ ih => cases k with | yes _ z k => exact .yes _ _ (ih k)
  | no hx _ ih => cases k with | no _ k => exact .no hx (ih k)
theorem Masked.refl_of {m : List Bool} {xs ys : List POp} (h : Masked m xs ys) : Masked m ys ys := by
  induction h with
  | nil => exact .nil
  | yes x y _ ih => exact .yes _ _ ih
  | no hx _ ih => exact .no hx ih
theorem past_pick {m : List Bool} {xs ys : List POp} (h : Masked m xs ys) (op : POp) (f : Bool) :
    pastL op (pick m ys) f = ((pastL op ys f).1, pick m (pastL op ys f).2) ∧ Masked m ys (pastL op ys f).2 := by
  induction h generalizing op with
  | nil => exact ⟨rfl, .nil⟩
  | yes x y _ ih =>
    have := ih (shift op y (!f))
    simp only [pick, pastL]
    exact ⟨by rw [this.1], .yes _ _ this.2⟩
  | @no x hx m xs ys _ ih =>
    have := ih op
    simp only [pick, pastL, shift_nop_right op _ hx, shift_nop_left op _ hx]
    exact ⟨this.1, .no hx this.2⟩
/-- The mask of a line: true where no Nop stands. -/
def maskOf (xs : List POp) : List Bool := xs.map fun x => decide (x.k ≠ 0)
def actingL (xs : List POp) : List POp := xs.filter fun x => decide (x.k ≠ 0)
theorem masked_self : ∀ xs, Masked (maskOf xs) xs xs
  | [] => .nil
  | x :: r => by
    by_cases h : x.k = 0
    · simpa [maskOf, h] using Masked.no h (masked_self r)
    · simpa [maskOf, h] using Masked.yes x x (masked_self r)
theorem pick_self : ∀ xs, pick (maskOf xs) xs = actingL xs
  | [] => rfl
  | x :: r => by
    have ih := pick_self r
    simp only [maskOf, actingL] at ih
    by_cases h : x.k = 0
    · simp only [maskOf, actingL, List.map_cons, List.filter_cons, h, ne_eq, not_true_eq_false, decide_false, pick]
      simpa using ih
    · simp only [maskOf, actingL, List.map_cons, List.filter_cons, h, ne_eq, not_false_eq_true, decide_true, pick]
      simpa using ih
theorem weave_pick {m : List Bool} : ∀ (bs : List POp) {xs ys : List POp}, Masked m xs ys →
    weaveL (pick m ys) (actingL bs) = (pick m (weaveL ys bs).1, pick (maskOf bs) (weaveL ys bs).2) ∧ Masked m ys (weaveL ys bs).1 ∧ Masked (maskOf bs) bs (weaveL ys bs).2
  | [], xs, ys, h => ⟨rfl, h.refl_of, .nil⟩
  | b :: r, xs, ys, h => by
    by_cases hb : b.k = 0
    · have ih := weave_pick r h
      have hp := pastL_nop hb true ys
      simp only [weaveL, hp]
      refine ⟨?_, ih.2.1, ?_⟩
      · simpa [actingL, maskOf, hb, pick] using ih.1
      · simpa [maskOf, hb] using Masked.no hb ih.2.2
    · have hp := past_pick h b true
      have ih := weave_pick r hp.2
      simp only [weaveL]
      refine ⟨?_, hp.2.trans ih.2.1, ?_⟩
      · have e : actingL (b :: r) = b :: actingL r := by simp [actingL, hb]
        rw [e, weaveL, hp.1]
        simp only
        rw [ih.1]
        simp [maskOf, hb, pick]
      · simpa [maskOf, hb] using Masked.yes b _ ih.2.2
/-- The whole: leaving out the places at which a Nop stood. -/
theorem weave_acting (xs ys : List POp) :
    weaveL (actingL xs) (actingL ys) = (pick (maskOf xs) (weaveL xs ys).1, pick (maskOf ys) (weaveL xs ys).2) ∧ Masked (maskOf xs) xs (weaveL xs ys).1 ∧ Masked (maskOf ys) ys (weaveL xs ys).2 := by
  have h := weave_pick ys (masked_self xs)
  rwa [pick_self] at h
theorem Masked.length {m : List Bool} {xs ys : List POp} (h : Masked m xs ys) : m.length = xs.length ∧ ys.length = xs.length := by
  induction h with
  | nil => exact ⟨rfl, rfl⟩
  | yes x y _ ih => simp [ih.1, ih.2]
  | no hx _ ih => simp [ih.1, ih.2]
theorem Masked.at {xs ys : List POp} (h : Masked (maskOf xs) xs ys) (i : Nat) (x y : POp) (hx : xs[i]? = some x) (hy : ys[i]? = some y) (hk : x.k = 0) : y = x := by
  have key : ∀ (m : List Bool) (xs ys : List POp), Masked m xs ys → ∀ (i : Nat) (x y : POp), xs[i]? = some x → ys[i]? = some y → m[i]? = some false → y = x := by
    intro m xs ys h
    induction h with
    | nil => intro i x y hx; simp at hx
    | yes a b _ ih =>
      intro i x y hx hy hm
      cases i with
      | zero => simp at hm
      | succ i => exact ih i x y (by simpa using hx) (by simpa using hy) (by simpa using hm)
    | no ha _ ih =>
      intro i x y hx hy hm
      cases i with
      | zero => simp at hx hy; rw [← hx, ← hy]
      | succ i => exact ih i x y (by simpa using hx) (by simpa using hy) (by simpa using hm)
  refine key _ _ _ h i x y hx hy ?_
  simp [maskOf, hx, hk]
/-- One more place of the line. -/
theorem pick_snoc (xs ys : List POp) (i : Nat) (x y : POp) (hx : xs[i]? = some x) (hy : ys[i]? = some y) :
    pick (maskOf (xs.take (i + 1))) (ys.take (i + 1)) = pick (maskOf (xs.take i)) (ys.take i) ++ (if x.k = 0 then [] else [y]) := by
  induction i generalizing xs ys with
  | zero =>
    cases xs with
    | nil => simp at hx
    | cons a r =>
      cases ys with
      | nil => simp at hy
      | cons b s =>
        simp at hx hy
        subst hx
        subst hy
        by_cases h : a.k = 0 <;> simp [maskOf, pick, h]
  | succ i ih =>
    cases xs with
    | nil => simp at hx
    | cons a r =>
      cases ys with
      | nil => simp at hy
      | cons b s =>
        have := ih r s (by simpa using hx) (by simpa using hy)
        simp only [List.take_succ_cons, maskOf, List.map_cons] at this ⊢
        by_cases h : a.k = 0
        · simp only [h, ne_eq, not_true_eq_false, decide_false, pick]; exact this
        · simp only [h, ne_eq, not_false_eq_true, decide_true, pick, List.cons_append]; rw [this]
end Go.Proofs.YtkicbnkacjnhoaaDoor
