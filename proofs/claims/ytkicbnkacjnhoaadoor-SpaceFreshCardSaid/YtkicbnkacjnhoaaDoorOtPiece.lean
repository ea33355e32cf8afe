/- Plain Lean: in pieces or as a whole. No program in sight. -/
import Derived.Test.YtkicbnkacjnhoaaDoorOtWeave
namespace Go.Proofs.YtkicbnkacjnhoaaDoor
theorem pastL_append (f : Bool) (l2 : List POp) : ∀ (l1 : List POp) (op : POp), pastL op (l1 ++ l2) f = ((pastL (pastL op l1 f).1 l2 f).1, (pastL op l1 f).2 ++ (pastL (pastL op l1 f).1 l2 f).2)
  | [], op => rfl
  | x :: r, op => by simp only [List.cons_append, pastL, pastL_append f l2 r]
theorem weaveL_append (b2 : List POp) : ∀ (b1 xs : List POp), weaveL xs (b1 ++ b2) = ((weaveL (weaveL xs b1).1 b2).1, (weaveL xs b1).2 ++ (weaveL (weaveL xs b1).1 b2).2)
  | [], xs => rfl
  | b :: r, xs => by simp only [List.cons_append, weaveL, weaveL_append b2 r]
theorem rweaveL_append (a2 : List POp) : ∀ (a1 ys : List POp), rweaveL (a1 ++ a2) ys = ((rweaveL a1 ys).1 ++ (rweaveL a2 (rweaveL a1 ys).2).1, (rweaveL a2 (rweaveL a1 ys).2).2)
  | [], ys => rfl
  | a :: r, ys => by simp only [List.cons_append, rweaveL, rweaveL_append a2 r]
theorem weaveL_append_left (a1 a2 ys : List POp) : weaveL (a1 ++ a2) ys = ((weaveL a1 ys).1 ++ (weaveL a2 (weaveL a1 ys).2).1, (weaveL a2 (weaveL a1 ys).2).2) := by
  have h := rweaveL_append a2 a1 ys
  simpa only [rweaveL_is] using h
end Go.Proofs.YtkicbnkacjnhoaaDoor
