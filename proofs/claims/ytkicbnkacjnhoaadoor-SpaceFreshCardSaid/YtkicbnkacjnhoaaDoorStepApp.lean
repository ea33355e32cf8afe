/- append within the capacity, as one step of a region that draws. -/
import Derived.Test.YtkicbnkacjnhoaaDoorMem
import Derived.Deep.RegionLaw
namespace Go.Proofs.YtkicbnkacjnhoaaDoor
open Go.RowKit
set_option linter.unusedVariables false
theorem step_appSC {P : Program} {ops : Array Oper} {o : Oper} {a : Act} {K : Act → World → Prop} {Q : Exit → Act → World → Prop} {Z : Prop} {α : Type} {F : Flat α} {e : TypeId} {bytes : Nat} {z : α} (E : El P F e bytes z) (W : World) (hgd : o.guard = none) (s y : Operand) (t : TypeId) (ho : o.op = Op.call { callee := Callee.builtin Builtin.append, args := #[s, y], argTypes := #[t, t] }) (ht : P.underlying t = some (.slice e))
    (g cap n : Nat) (xs ys : List α) (A : Option Addr) (m c : Nat) (hn : n = xs.length) (hs : a.eval s = .slice (some ⟨g, 0, none⟩) n cap) (hy : a.eval y = .slice A m c) (hm : m = ys.length) (HO : OwnC F e W g cap xs) (HR : Rd F W A ys) (hroom : xs.length + ys.length ≤ cap)
    (hK : ∀ w', OwnC F e w' g cap (xs ++ ys) → W.grownBy w' (some g) → K (a.put o.dst (.slice (some ⟨g, 0, none⟩) (n + m) cap)) w') : if Region.wanted o (yielded ops a.tmps) = true then Oper.wp P o a W K Q else Z := by
  have hw : Region.wanted o (yielded ops a.tmps) = true := by simp [Region.wanted, hgd]
  rw [if_pos hw]
  subst hm
  subst hn
  obtain ⟨i, hi, h3, h4, h5⟩ := info_parts E.info
  rcases A with _ | ad
  · have h0 : ys = [] := by
      rcases ys with _ | ⟨y0, r⟩
      · rfl
      · obtain ⟨b, off, e1, _⟩ := HR.at_ 0 (by simp)
        cases e1
    subst h0
    have hle := HO.le
    have hr : (Builtin.append_ #[t, t] o.type #[.slice (some ⟨g, 0, none⟩) xs.length cap, .slice none 0 c]).run P W = .ok (.slice (some ⟨g, 0, none⟩) xs.length cap) W := by
      simp [Builtin.append_, run_underlying ht, sizeOf, typeInfo, hi, Builtin.lenOf, Builtin.firstCells, hle, storeCells]
    unfold Oper.wp execOp
    simp only [ho, resolve, invoke, builtin, Sem.run_bind, Sem.run_pure, Result.andThen_ok, List.map_toArray, List.map_cons, List.map_nil, hs, hy, List.length_nil, hr]
    exact hK W (by simpa using HO) (World.grownBy.refl W _)
  · obtain ⟨w', hrun, r1, r2⟩ := run_append_fits (P := P) W 0 t o.type e i F.n ht hi h4 g xs.length cap (xs.flatMap F.cells) HO ad ys.length c (ys.flatMap F.cells) (flatMap_cells_length F ys) HR.news (flat_one E ys) hroom
    unfold Oper.wp
    simp [execOp, ho, resolve, invoke, builtin, hs, hy, hrun, Result.andThen]
    exact hK w' (by unfold OwnC; rw [List.length_append, List.flatMap_append]; exact r1) r2
end Go.Proofs.YtkicbnkacjnhoaaDoor
