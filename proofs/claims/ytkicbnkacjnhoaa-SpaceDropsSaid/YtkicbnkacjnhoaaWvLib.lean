/- Small laws on lists in memory. -/
import Derived.Deep.RegionHeld3
import Derived.Test.YtkicbnkacjnhoaaMem
import Derived.Test.YtkicbnkacjnhoaaOtWeave
namespace Go.Proofs.Ytkicbnkacjnhoaa
open Go.RowKit
set_option linter.unusedVariables false
set_option linter.unusedSimpArgs false

theorem OwnV.rd {α : Type} {F : Flat α} {e : TypeId} {w : World} {base : Nat} {v : Value} {xs : List α} (h : OwnV F e base w v xs) : ∃ A c, v = .slice A xs.length c ∧ Rd F w A xs := by
  rcases h.c with ⟨rfl, rfl⟩ | ⟨g, cap, rfl, _, hc⟩
  · exact ⟨none, 0, rfl, Rd.nil _ _ _⟩
  · exact ⟨_, cap, rfl, hc.rd⟩
theorem OwnV.lt {α : Type} {F : Flat α} {e : TypeId} {w : World} {base : Nat} {v : Value} {xs : List α} (h : OwnV F e base w v xs) : ∀ g, v.ownBlock = some g → base ≤ g ∧ g < w.heap.size := by
  rcases h.c with ⟨rfl, rfl⟩ | ⟨g, cap, rfl, hb, hc⟩
  · intro g hg; cases hg
  · intro g' hg
    obtain rfl : g = g' := by simpa [Value.ownBlock] using hg
    exact ⟨hb, hc.lt⟩
theorem OwnV.drewN {α : Type} {F : Flat α} {e : TypeId} {w : World} {base : Nat} {v : Value} {xs : List α} (h : OwnV F e base w v xs) (n : Nat) : OwnV F e base (w.drewN n) v xs := h
theorem OwnV.weak {α : Type} {F : Flat α} {e : TypeId} {w : World} {base base' : Nat} {v : Value} {xs : List α} (h : OwnV F e base w v xs) (hb : base' ≤ base) : OwnV F e base' w v xs := by
  rcases h.c with ⟨rfl, rfl⟩ | ⟨g, cap, rfl, hbg, hc⟩
  · exact OwnV.nil _ _
  · exact hc.v (by omega)

theorem OwnV.empty {α : Type} {F : Flat α} (e : TypeId) (w : World) {base : Nat} (hb : base ≤ w.heap.size) : OwnV F e base (w.alloc (.cells #[] e)) (.slice (some ⟨w.heap.size, 0, none⟩) 0 0) [] :=
  ⟨by simp, .inr ⟨w.heap.size, 0, #[], rfl, hb, heap_alloc_new w _, Nat.le_refl _, Nat.zero_le _, by simp, by simp⟩⟩

theorem run_build0 {P : Program} (w : World) (t e : TypeId) (ie : TypeInfo) (hu : P.underlying t = some (.slice e)) (hie : P.info? e = some ie) :
    (Instr.buildSlice t 0 #[]).run P w = .ok (.slice (some ⟨w.heap.size, 0, none⟩) 0 0) (w.alloc (.cells #[] e)) := by
  simp [Instr.buildSlice, run_underlying hu, sizeOf, typeInfo, hie, newRow, Instr.fill]
  rw [show Array.map (fun _ => (default : Value)) (Array.range 0) = #[] by simp [← Array.size_eq_zero_iff]]
/-- []T{} -/
theorem ev_build0 {P : Program} {ops : Array Oper} {rest : List Oper} {o : Oper} {a : Act} {Q : Exit → Act → World → Prop} {α : Type} {F : Flat α} {e : TypeId} {bytes : Nat} {z : α} (E : El P F e bytes z) (w : World) (hg : o.guard = none) (t : TypeId) (ho : o.op = .buildSlice t 0 #[]) (hu : P.underlying t = some (.slice e))
    (h : wpList P ops Q rest (a.put o.dst (.slice (some ⟨w.heap.size, 0, none⟩) 0 0)) (w.alloc (.cells #[] e))) : wpList P ops Q (o :: rest) a w := by
  obtain ⟨i, hi, h3, h4, h5⟩ := info_parts E.info
  refine wpList_plain hg fun K hK => ?_
  unfold Oper.wp execOp
  simp only [ho, Sem.run_bind, List.map_toArray, List.map_nil, run_build0 w t e i hu hi, Result.andThen_ok]
  exact hK _ _ h

theorem ev_move {P : Program} {ops : Array Oper} {rest : List Oper} {o : Oper} {a : Act} {Q : Exit → Act → World → Prop} (w : World) (hg : o.guard = none) (x : Operand) (v : Value) (ho : o.op = .move x) (hx : a.eval x = v) (h : wpList P ops Q rest (a.put o.dst v) w) : wpList P ops Q (o :: rest) a w := by
  refine wpList_plain hg fun K hK => ?_
  unfold Oper.wp execOp
  simp only [ho, hx, Sem.run_pure, Result.andThen_ok]
  exact hK _ _ h

theorem OwnV.rd2 {α : Type} {F : Flat α} {e : TypeId} {w : World} {base : Nat} {A : Option Addr} {n c : Nat} {xs : List α} (h : OwnV F e base w (.slice A n c) xs) : Rd F w A xs := by
  obtain ⟨A', c', he, h2⟩ := h.rd
  injection he with he1 _ _
  rw [he1]
  exact h2

@[reducible] def FiveAt (w : World) (b off : Nat) (x : POp) : Prop :=
  w.cell? ⟨b, off, none⟩ = some (.int .i64 x.k) ∧ w.cell? ⟨b, off + 1, none⟩ = some (.int .i64 x.p) ∧ w.cell? ⟨b, off + 2, none⟩ = some (.int .u8 x.c) ∧ w.cell? ⟨b, off + 3, none⟩ = some (.int .i64 x.l) ∧ w.cell? ⟨b, off + 4, none⟩ = some (.int .i64 x.s)
theorem five_keep {w W : World} {b off : Nat} {x : POp} (h : FiveAt w b off x) (hb : Below w.heap.size w W) (hlt : b < w.heap.size) : FiveAt W b off x := by
  obtain ⟨h0, h1, h2, h3, h4⟩ := h
  have k : ∀ i, W.cell? ⟨b, i, none⟩ = w.cell? ⟨b, i, none⟩ := fun i => hb.cell hlt
  exact ⟨(k _).trans h0, (k _).trans h1, (k _).trans h2, (k _).trans h3, (k _).trans h4⟩
theorem Rd.five {w : World} {A : Option Addr} {xs : List POp} (h : Rd opF w A xs) (i : Nat) (hi : i < xs.length) : ∃ b off x, A = some ⟨b, off, none⟩ ∧ Hid (xs[i]? = some x) ∧ b < w.heap.size ∧ FiveAt w b (off + i * 5) x := by
  obtain ⟨b, off, x, e, hx, h0, r⟩ := h.op i hi
  exact ⟨b, off, x, e, hx, World.block_lt_of_cell? w _ h0, h0, r⟩

end Go.Proofs.Ytkicbnkacjnhoaa
