/- Elements of OtShifts' argument: two operations and a Boolean; how a slice of them reads. -/
import Derived.Test.YtkicbnkacjnhoaaDoorMem
namespace Go.Proofs.YtkicbnkacjnhoaaDoor
open Go.RowKit
set_option linter.unusedVariables false

structure PTwo where
  a : POp
  b : POp
  f : Bool
instance : Inhabited POp := ⟨⟨0, 0, 0, 0, 0⟩⟩
instance : Inhabited PTwo := ⟨⟨default, default, false⟩⟩
def twoF : Flat PTwo := ⟨11, fun t => [.int .i64 t.a.k, .int .i64 t.a.p, .int .u8 t.a.c, .int .i64 t.a.l, .int .i64 t.a.s, .int .i64 t.b.k, .int .i64 t.b.p, .int .u8 t.b.c, .int .i64 t.b.l, .int .i64 t.b.s, .bool t.f], fun _ => rfl⟩

/-- The cells of one element at block b from off on. -/
@[reducible] def TwoAt (w : World) (b off : Nat) (x : PTwo) : Prop :=
  w.cell? ⟨b, off, none⟩ = some (.int .i64 x.a.k) ∧ w.cell? ⟨b, off + 1, none⟩ = some (.int .i64 x.a.p) ∧ w.cell? ⟨b, off + 2, none⟩ = some (.int .u8 x.a.c) ∧ w.cell? ⟨b, off + 3, none⟩ = some (.int .i64 x.a.l) ∧ w.cell? ⟨b, off + 4, none⟩ = some (.int .i64 x.a.s) ∧
  w.cell? ⟨b, off + 5, none⟩ = some (.int .i64 x.b.k) ∧ w.cell? ⟨b, off + 5 + 1, none⟩ = some (.int .i64 x.b.p) ∧ w.cell? ⟨b, off + 5 + 2, none⟩ = some (.int .u8 x.b.c) ∧ w.cell? ⟨b, off + 5 + 3, none⟩ = some (.int .i64 x.b.l) ∧ w.cell? ⟨b, off + 5 + 4, none⟩ = some (.int .i64 x.b.s) ∧
  w.cell? ⟨b, off + 10, none⟩ = some (.bool x.f)

theorem Rd.two {w : World} {A : Option Addr} {xs : List PTwo} (h : Rd twoF w A xs) (i : Nat) (hi : i < xs.length) :
    ∃ b off x, A = some ⟨b, off, none⟩ ∧ xs[i]? = some x ∧ b < w.heap.size ∧ TwoAt w b (off + i * 11) x := by
  obtain ⟨b, off, e, hc⟩ := h.at_ i hi
  have h0 := hc 0 _ rfl
  exact ⟨b, off, xs[i], e, List.getElem?_eq_getElem hi, World.block_lt_of_cell? w _ h0, h0, hc 1 _ rfl, hc 2 _ rfl, hc 3 _ rfl, hc 4 _ rfl, hc 5 _ rfl, hc 6 _ rfl, hc 7 _ rfl, hc 8 _ rfl, hc 9 _ rfl, hc 10 _ rfl⟩
theorem two_keep {w W : World} {b off : Nat} {x : PTwo} (h : TwoAt w b off x) (hb : Below w.heap.size w W) (hlt : b < w.heap.size) : TwoAt W b off x := by
  obtain ⟨h0, h1, h2, h3, h4, h5, h6, h7, h8, h9, h10⟩ := h
  have k : ∀ i, W.cell? ⟨b, i, none⟩ = w.cell? ⟨b, i, none⟩ := fun i => hb.cell hlt
  exact ⟨(k _).trans h0, (k _).trans h1, (k _).trans h2, (k _).trans h3, (k _).trans h4, (k _).trans h5, (k _).trans h6, (k _).trans h7, (k _).trans h8, (k _).trans h9, (k _).trans h10⟩
end Go.Proofs.YtkicbnkacjnhoaaDoor
