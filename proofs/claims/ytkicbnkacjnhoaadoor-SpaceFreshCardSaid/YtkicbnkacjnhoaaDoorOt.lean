/- Plain Lean: operations, and what Shift makes of two of them. No program in sight. -/
import Derived.Below
import Derived.Laws.Wrap64
namespace Go.Proofs.YtkicbnkacjnhoaaDoor
open Go Go.RowKit
/-- An operation: kind, place, character, client, number. -/
structure POp where
  k : Int
  p : Int
  c : Int
  l : Int
  s : Int
  deriving DecidableEq
def opv (o : POp) : Value := .agg #[.int .i64 o.k, .int .i64 o.p, .int .u8 o.c, .int .i64 o.l, .int .i64 o.s]
def rowOf (k : Int) : Int := if k = 1 then 1 else if k = 2 then 2 else 0
def pastII (a b : Int) (f : Bool) : Int := if b < a ∨ (b = a ∧ f = false) then wrap64 (a + 1) else a
def pastID (a b : Int) : Int := if b < a then wrap64 (a - 1) else a
def pastDI (a b : Int) : Int := if b ≤ a then wrap64 (a + 1) else a
def pastDD (a b : Int) : Int := if b < a then wrap64 (a - 1) else a
/-- a behind b; f: a comes first. -/
def shift (a b : POp) (f : Bool) : POp :=
  if a.k = 1 then
    if b.k = 1 then { a with p := pastII a.p b.p f } else if b.k = 2 then { a with p := pastID a.p b.p } else a
  else if a.k = 2 then
    if b.k = 1 then { a with p := pastDI a.p b.p } else if b.k = 2 then (if b.p = a.p then ⟨0, 0, 0, a.l, a.s⟩ else { a with p := pastDD a.p b.p }) else a
  else a

/-- op past a line, and the line past it; f: the line comes first. -/
def pastL (op : POp) : List POp → Bool → POp × List POp
  | [], _ => (op, [])
  | l :: r, f => ((pastL (shift op l (!f)) r f).1, shift l op f :: (pastL (shift op l (!f)) r f).2)
theorem pastL_snoc (x : POp) (f : Bool) : ∀ (xs : List POp) (op : POp), pastL op (xs ++ [x]) f = (shift (pastL op xs f).1 x (!f), (pastL op xs f).2 ++ [shift x (pastL op xs f).1 f])
  | [], op => rfl
  | l :: r, op => by simp only [List.cons_append, pastL, pastL_snoc x f r]
theorem pastL_length (f : Bool) : ∀ (xs : List POp) (op : POp), (pastL op xs f).2.length = xs.length
  | [], _ => rfl
  | l :: r, op => by simp only [pastL, List.length_cons, pastL_length f r]
end Go.Proofs.YtkicbnkacjnhoaaDoor
