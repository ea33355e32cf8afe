/- Marked operations: how they lie in memory; the walk of slices.Clone of them. -/
import Derived.Test.YtkicbnkacjnhoaaDoorWeave
import Derived.Test.YtkicbnkacjnhoaaDoorOtMeet
namespace Go.Proofs.YtkicbnkacjnhoaaDoor
open Go.RowKit
set_option linter.unusedVariables false
set_option linter.unusedSimpArgs false

def mkF : Flat PMk := ⟨6, fun x => [.int .i64 x.m, .int .i64 x.o.k, .int .i64 x.o.p, .int .u8 x.o.c, .int .i64 x.o.l, .int .i64 x.o.s], fun _ => rfl⟩
theorem El.mark : El Tryd.prog mkF 87 48 ⟨0, ⟨0, 0, 0, 0, 0⟩⟩ := ⟨by kernel_rfl, fun x u hu => by
  simp only [mkF, List.mem_cons, List.not_mem_nil, or_false] at hu
  rcases hu with rfl | rfl | rfl | rfl | rfl | rfl <;> rfl⟩
/-- A marked operation's cells. -/
@[reducible] def SixAt (w : World) (b off : Nat) (x : PMk) : Prop :=
  w.cell? ⟨b, off, none⟩ = some (.int .i64 x.m) ∧ w.cell? ⟨b, off + 1, none⟩ = some (.int .i64 x.o.k) ∧ w.cell? ⟨b, off + 2, none⟩ = some (.int .i64 x.o.p) ∧ w.cell? ⟨b, off + 3, none⟩ = some (.int .u8 x.o.c) ∧ w.cell? ⟨b, off + 4, none⟩ = some (.int .i64 x.o.l) ∧ w.cell? ⟨b, off + 5, none⟩ = some (.int .i64 x.o.s)
theorem six_keep {w W : World} {b off : Nat} {x : PMk} (h : SixAt w b off x) (hb : Below w.heap.size w W) (hlt : b < w.heap.size) : SixAt W b off x := by
  obtain ⟨h0, h1, h2, h3, h4, h5⟩ := h
  have k : ∀ i, W.cell? ⟨b, i, none⟩ = w.cell? ⟨b, i, none⟩ := fun i => hb.cell hlt
  exact ⟨(k _).trans h0, (k _).trans h1, (k _).trans h2, (k _).trans h3, (k _).trans h4, (k _).trans h5⟩
theorem Rd.six {w : World} {A : Option Addr} {xs : List PMk} (h : Rd mkF w A xs) (i : Nat) (hi : i < xs.length) : ∃ b off x, A = some ⟨b, off, none⟩ ∧ Hid (xs[i]? = some x) ∧ b < w.heap.size ∧ SixAt w b (off + i * 6) x := by
  obtain ⟨b, off, e, hc⟩ := h.at_ i hi
  have h0 := hc 0 _ rfl
  exact ⟨b, off, xs[i], e, List.getElem?_eq_getElem hi, World.block_lt_of_cell? w _ h0, h0, hc 1 _ rfl, hc 2 _ rfl, hc 3 _ rfl, hc 4 _ rfl, hc 5 _ rfl⟩
theorem Rd.none_nil {α : Type} {F : Flat α} {w : World} {xs : List α} (h : Rd F w none xs) : xs = [] := by
  rcases xs with _ | ⟨y0, r⟩
  · rfl
  · obtain ⟨b, off, e1, _⟩ := h.at_ 0 (by simp)
    cases e1

set_option maxHeartbeats 1000000 in
theorem clone_any (A : Option Addr) (c : Nat) (xs : List PMk) (w : World) (h : Rd mkF w A xs) (hz : xs.length * 48 ≤ 140737488355328) :
    Calls Tryd.prog 73 #[.slice A xs.length c] w fun e w' => ∃ (A' : Option Addr) (c' : Nat), e = .returned (.slice A' xs.length c') ∧ OwnV mkF 87 w.heap.size w' (.slice A' xs.length c') xs ∧ Below w.heap.size w w' := by
  rcases A with _ | ad
  · obtain rfl := h.none_nil
    clear hz
    have kq : ∀ w, (binOp .eql 76 (.slice none 0 c) (.slice none 0 0)).run Tryd.prog w = .ok (.bool true) w := fun w => Lib.run_eql_slice_nil w 76 87 none 0 c 0 0 Tryd.underlying76
    show Calls Tryd.prog 73 #[.slice none 0 c] w _
    go_enter Tryd.func73, Tryd.ntmps73
    go_wp2
    go_ret
    exact ⟨none, 0, rfl, OwnV.nil _ _, Below.refl _ _⟩
  · have kq : ∀ w, (binOp .eql 76 (.slice (some ad) xs.length c) (.slice none 0 0)).run Tryd.prog w = .ok (.bool false) w := fun w => Lib.run_eql_slice_nil w 76 87 (some ad) xs.length c 0 0 Tryd.underlying76
    go_enter Tryd.func73, Tryd.ntmps73
    go_wp2_with (first
      | (refine at_dst 5 rfl ?_; refine ev_build0 El.mark _ rfl 76 rfl Tryd.underlying76 ?_)
      | (at_builtin; refine ev_appS El.mark (by decide) (by decide) _ rfl _ _ 76 rfl Tryd.underlying76 w.heap.size _ [] xs (some ad) xs.length c rfl rfl rfl (OwnV.empty 87 w (Nat.le_refl _)) (h.below (below_alloc (Below.refl _ _) _)) (by simp; omega) (by simp) ?_; intro v w1 hO hg hv; (have B1 : Below w.heap.size w w1 := (below_alloc (Below.refl _ _) _).grown hg (by simp) (fun k e => Nat.le_of_eq (Option.some.inj e))); obtain ⟨A', c', hv', hR⟩ := hO.rd; subst hv'))
    go_ret
    simp only [List.nil_append] at hO hR ⊢
    exact ⟨A', c', rfl, hO, B1⟩
end Go.Proofs.YtkicbnkacjnhoaaDoor
