/- Plain Lean: two lines woven, column by column and row by row: the same. No program in sight. -/
import Derived.Test.YtkicbnkacjnhoaaDoorOt
namespace Go.Proofs.YtkicbnkacjnhoaaDoor
/-- The lines past one another, each of bs in turn past the other line. -/
def weaveL : List POp → List POp → List POp × List POp
  | as, [] => (as, [])
  | as, b :: bs => ((weaveL (pastL b as true).2 bs).1, (pastL b as true).1 :: (weaveL (pastL b as true).2 bs).2)
theorem weaveL_snoc (b : POp) : ∀ (bs as : List POp), weaveL as (bs ++ [b]) = ((pastL b (weaveL as bs).1 true).2, (weaveL as bs).2 ++ [(pastL b (weaveL as bs).1 true).1])
  | [], as => rfl
  | x :: r, as => by simp only [List.cons_append, weaveL, weaveL_snoc b r]
theorem weaveL_length : ∀ (bs as : List POp), (weaveL as bs).1.length = as.length ∧ (weaveL as bs).2.length = bs.length
  | [], as => ⟨rfl, rfl⟩
  | b :: r, as => by
    have h := weaveL_length r (pastL b as true).2
    simp only [weaveL, List.length_cons]
    exact ⟨h.1.trans (pastL_length ..), by rw [h.2]⟩
/-- The other way about. -/
theorem weaveL_cons (a : POp) : ∀ (bs as : List POp), weaveL (a :: as) bs = ((pastL a bs false).1 :: (weaveL as (pastL a bs false).2).1, (weaveL as (pastL a bs false).2).2)
  | [], as => rfl
  | b :: r, as => by
    simp only [weaveL, pastL, Bool.not_true, Bool.not_false]
    rw [weaveL_cons]
theorem weaveL_nil : ∀ bs : List POp, weaveL [] bs = ([], bs)
  | [] => rfl
  | b :: r => by simp only [weaveL, pastL, weaveL_nil r]
/-- The first k of as past bs, one by one: what comes of them, and of bs. -/
def rweaveL : List POp → List POp → List POp × List POp
  | [], bs => ([], bs)
  | a :: as, bs => ((pastL a bs false).1 :: (rweaveL as (pastL a bs false).2).1, (rweaveL as (pastL a bs false).2).2)
theorem rweaveL_is : ∀ as bs : List POp, rweaveL as bs = weaveL as bs
  | [], bs => (weaveL_nil bs).symm
  | a :: as, bs => by rw [weaveL_cons, rweaveL, rweaveL_is as]
theorem rweaveL_snoc (a : POp) : ∀ (as bs : List POp), rweaveL (as ++ [a]) bs = ((rweaveL as bs).1 ++ [(pastL a (rweaveL as bs).2 false).1], (pastL a (rweaveL as bs).2 false).2)
  | [], bs => rfl
  | x :: r, bs => by simp only [List.cons_append, rweaveL, rweaveL_snoc a r]
end Go.Proofs.YtkicbnkacjnhoaaDoor
