/- Slices that are written by one holder alone, wherever in their block they begin: what append leaves. -/
import Derived.Test.YtkicbnkacjnhoaaDoorSp
import Derived.Deep.RegionLawGrows
import Derived.Deep.MidRow
namespace Go.Proofs.YtkicbnkacjnhoaaDoor
open Go.RowKit
set_option linter.unusedVariables false
set_option linter.unusedSimpArgs false

/-- A slice at A, of capacity cap, reads as xs; its array up to the capacity may be written. -/
def OwnO {α : Type} (F : Flat α) (w : World) (A : Option Addr) (cap : Nat) (xs : List α) : Prop :=
  (A = none ∧ cap = 0 ∧ xs = []) ∨ ∃ g off, A = some ⟨g, off, none⟩ ∧ g < w.heap.size ∧ xs.length ≤ cap ∧ w.rangeAt g off (xs.flatMap F.cells) ∧ w.there g off (cap * F.n)
section
variable {α : Type} {F : Flat α} {w w1 : World} {A : Option Addr} {cap : Nat} {xs : List α}
theorem OwnO.nil (F : Flat α) (w : World) : OwnO F w none 0 [] := .inl ⟨rfl, rfl, rfl⟩
theorem OwnO.le (h : OwnO F w A cap xs) : xs.length ≤ cap := by
  rcases h with ⟨_, rfl, rfl⟩ | ⟨g, off, _, _, h, _⟩
  · simp
  · exact h
theorem OwnO.lt (h : OwnO F w A cap xs) : ∀ b ∈ own A, b < w.heap.size := fun b hb => by
  rcases h with ⟨rfl, _, _⟩ | ⟨g, off, rfl, hg, _⟩
  · simp [own] at hb
  · obtain rfl := List.mem_singleton.1 hb
    exact hg
theorem OwnO.rd (h : OwnO F w A cap xs) : Rd F w A xs := ⟨fun i hi => by
  rcases h with ⟨rfl, _, rfl⟩ | ⟨g, off, rfl, _, _, hr, _⟩
  · simp at hi
  · refine ⟨g, off, rfl, fun j u hu => ?_⟩
    have h1 := flatMap_cells_at F xs i hi j u hu
    have h2 := hr _ u h1
    rwa [← Nat.add_assoc] at h2⟩
theorem OwnO.but {bs : List Nat} (h : OwnO F w A cap xs) (hb : But bs w w1) (hn : ∀ b ∈ own A, b ∉ bs) : OwnO F w1 A cap xs := by
  rcases h with h | ⟨g, off, rfl, hg, hl, hr, ht⟩
  · exact .inl h
  · have hk := hb.block g hg (hn g (by simp [own]))
    refine .inr ⟨g, off, rfl, Nat.lt_of_lt_of_le hg hb.size, hl, fun j u hu => ?_, fun j hj => ?_⟩
    · exact (World.cell?_of_block (a := ⟨g, off + j, none⟩) hk).trans (hr j u hu)
    · rw [World.cell?_of_block (a := ⟨g, off + j, none⟩) hk, World.frozen?_of_block (a := ⟨g, off + j, none⟩) hk]
      exact ht j hj
theorem OwnO.on (h : OwnO F w A cap xs) (hb : Below w.heap.size w w1) : OwnO F w1 A cap xs := h.but (bs := []) (But.ofBelow hb) (by simp)
theorem OwnO.drew (h : OwnO F w A cap xs) : OwnO F w.drew A cap xs := h.on (Below.refl _ _).drew
theorem OwnO.alloc (h : OwnO F w A cap xs) (o : Obj) : OwnO F (w.alloc o) A cap xs := h.on (below_alloc (Below.refl _ _) o)
/-- xs[1:] -/
theorem OwnO.tail {x : α} {b off : Nat} (h : OwnO F w (some ⟨b, off, none⟩) cap (x :: xs)) : OwnO F w (some ⟨b, off + F.n, none⟩) (cap - 1) xs := by
  rcases h with ⟨h, _⟩ | ⟨g, o, e, hg, hl, hr, ht⟩
  · cases h
  · obtain ⟨rfl, rfl⟩ : b = g ∧ off = o := by simpa using e
    have hl' : xs.length + 1 ≤ cap := by simpa using hl
    refine .inr ⟨b, off + F.n, rfl, hg, by omega, fun j u hu => ?_, fun j hj => ?_⟩
    · rw [Nat.add_assoc]
      refine hr (F.n + j) u ?_
      rw [List.flatMap_cons, List.getElem?_append_right (by rw [F.len]; omega), F.len, Nat.add_sub_cancel_left]
      exact hu
    · rw [Nat.add_assoc]
      refine ht (F.n + j) ?_
      obtain ⟨m, rfl⟩ : ∃ m, cap = m + 1 := ⟨cap - 1, by omega⟩
      rw [Nat.add_sub_cancel] at hj
      rw [Nat.add_mul]
      omega
end
theorem grown_setCells (b : Nat) : ∀ (vs : List Value) (o : Nat) (w : World), w.grownBy (w.setCells b o vs) (some b)
  | [], o, w => by simpa [World.setCells] using World.grownBy.refl w (some b)
  | v :: r, o, w => by
    rw [World.setCells]
    exact World.grownBy.trans (grown_setCell w b o v) (grown_setCells b r (o + 1) _)
section
variable {α : Type} {F : Flat α} {e : TypeId} {w : World}
theorem OwnO.ofRow {base n : Nat} {v : Value} {xs : List α} (h : w.ownsRow base e F.n v n (xs.flatMap F.cells)) (hn : n = xs.length) : ∃ A cap, v = .slice A xs.length cap ∧ OwnO F w A cap xs ∧ ∀ b ∈ own A, base ≤ b := by
  subst hn
  rcases h.2 with ⟨rfl, h0⟩ | ⟨g, cap, cur, rfl, hb, hh, hc, _, hs, ht⟩
  · obtain rfl := List.eq_nil_of_length_eq_zero h0
    exact ⟨none, 0, rfl, OwnO.nil F w, by simp [own]⟩
  · refine ⟨some ⟨g, 0, none⟩, cap, rfl, .inr ⟨g, 0, rfl, (Array.getElem?_eq_some_iff.1 hh).1, hc, fun j u hu => ?_, fun j hj => ?_⟩, fun b hb' => by obtain rfl := List.mem_singleton.1 hb'; exact hb⟩
    · rw [← ht] at hu
      have hj : j < (cur.toList.take (xs.length * F.n)).length := (List.getElem?_eq_some_iff.1 hu).1
      have hj2 : j < xs.length * F.n := by have := hj; simp only [List.length_take] at this; omega
      rw [List.getElem?_take_of_lt hj2] at hu
      simp [World.cell?, hh]
      simpa using hu
    · have hj2 : j < cur.size := by omega
      simp [World.cell?, World.frozen?, hh, hj2]
end
section
variable {P : Program} {α : Type} {F : Flat α} {e : TypeId} {bytes : Nat} {z : α}
theorem run_appO (E : El P F e bytes z) (hn0 : 0 < F.n) (hb0 : 0 < bytes) (W : World) (t ty : TypeId) (ht : P.underlying t = some (.slice e)) (A : Option Addr) (cap : Nat) (xs ys : List α) (ad : Addr) (c : Nat)
    (HO : OwnO F W A cap xs) (HR : Rd F W (some ad) ys) (hy0 : 0 < ys.length) (hb : (xs.length + ys.length) * bytes ≤ 140737488355328) :
    ∃ A' cap' w', (Builtin.append_ #[t, t] ty #[.slice A xs.length cap, .slice (some ad) ys.length c]).run P W = .ok (.slice A' (xs.length + ys.length) cap') w' ∧ OwnO F w' A' cap' (xs ++ ys) ∧ But (own A) W w' ∧ ∀ b ∈ own A', b ∈ own A ∨ W.heap.size ≤ b := by
  obtain ⟨i, hi, h3, h4, h5⟩ := info_parts E.info
  have hlen : xs.length + ys.length ≤ 140737488355328 := Nat.le_trans (Nat.le_mul_of_pos_right _ hb0) hb
  have hml : xs.length + ys.length ≤ maxLen := by simp only [maxLen]; omega
  have hzc : (Value.agg (F.cells z).toArray).cells.size = F.n := by simp [Value.cells, F.len]
  rcases HO with ⟨rfl, rfl, rfl⟩ | ⟨g, off, rfl, hg, hle, hr, hth⟩
  · obtain ⟨v', w', hrun, r1, r2, _⟩ := run_append_own (P := P) W W.heap.size t ty e i _ F.n bytes ht hi h3 h4 h5 hzc hn0 (.slice none 0 0) 0 [] (World.ownsRow_nil W _ e F.n) ad ys.length c (ys.flatMap F.cells) (flatMap_cells_length F ys) HR.news (flat_one E ys) (by simpa using hml) (by simpa using hb) (Nat.le_refl _)
    simp only [Nat.zero_add, List.nil_append] at r1
    obtain ⟨A', cap', rfl, hO, hge⟩ := OwnO.ofRow r1 rfl
    exact ⟨A', cap', w', by simpa using hrun, by simpa using hO, But.ofGrown r2 (fun k h => by cases h), fun b hb => .inr (hge b hb)⟩
  · by_cases hroom : xs.length + ys.length ≤ cap
    · have hfit : (xs.length + ys.length) * F.n ≤ cap * F.n := Nat.mul_le_mul_right _ hroom
      rw [Nat.add_mul] at hfit
      have hl := flatMap_cells_length F ys
      have hlx := flatMap_cells_length F xs
      have hrun := run_append_room_cells (P := P) W t ty e i ht hi g off xs.length cap ad ys.length c (ys.flatMap F.cells) (by rw [hl, h4]) HR.news (flat_one E ys) hroom
        (fun j hj => by rw [h4, Nat.add_assoc]; exact (hth (xs.length * F.n + j) (by omega)).1) (fun j hj => by rw [h4, Nat.add_assoc]; exact (hth (xs.length * F.n + j) (by omega)).2)
      rw [h4] at hrun
      have hgr := grown_setCells g (ys.flatMap F.cells) (off + xs.length * F.n) W
      refine ⟨some ⟨g, off, none⟩, cap, _, hrun, .inr ⟨g, off, rfl, Nat.lt_of_lt_of_le hg hgr.size, by simpa using hroom, fun j u hu => ?_, World.there_setCells hth _ _ _⟩, But.ofGrown hgr (fun k h => .inl (by obtain rfl := Option.some.inj h; simp [own])), fun b hb => .inl hb⟩
      rw [List.flatMap_append] at hu
      rcases Nat.lt_or_ge j (xs.flatMap F.cells).length with hj | hj
      · rw [List.getElem?_append_left hj] at hu
        exact World.rangeAt_setCells_apart hr g (off + xs.length * F.n) (ys.flatMap F.cells) (.inr (.inl (by omega))) j u hu
      · rw [List.getElem?_append_right hj] at hu
        have h1 := World.rangeAt_setCells_same W g (off + xs.length * F.n) (ys.flatMap F.cells) (fun k hk => by rw [Nat.add_assoc]; exact hth (xs.length * F.n + k) (by omega)) _ u hu
        rwa [show off + xs.length * F.n + (j - (xs.flatMap F.cells).length) = off + j by omega] at h1
    · obtain ⟨v', w', hrun, r1, r2⟩ := run_append_arg_grows (P := P) W t ty e i _ F.n bytes ht hi h3 h4 h5 hzc hn0 ⟨g, off, none⟩ xs.length cap (xs.flatMap F.cells) (flatMap_cells_length F xs) (fun j u hu => by rw [Addr.add_mid]; exact hr j u hu) ad ys.length c (ys.flatMap F.cells) (flatMap_cells_length F ys) HR.news (by omega) hml hb
      rw [← List.flatMap_append] at r1
      obtain ⟨A', cap', rfl, hO, hge⟩ := OwnO.ofRow r1 (by simp)
      exact ⟨A', cap', w', by simpa using hrun, hO, But.ofGrown r2 (fun k h => by cases h), fun b hb => .inr (hge b hb)⟩
/-- append at a step of a region that draws. -/
theorem step_appO {ops : Array Oper} {o : Oper} {a : Act} {K : Act → World → Prop} {Q : Exit → Act → World → Prop} {Z : Prop} (E : El P F e bytes z) (hn0 : 0 < F.n) (hb0 : 0 < bytes) (W : World) (hgd : o.guard = none) (s y : Operand) (t : TypeId) (ho : o.op = Op.call { callee := Callee.builtin Builtin.append, args := #[s, y], argTypes := #[t, t] }) (ht : P.underlying t = some (.slice e))
    (A : Option Addr) (cap : Nat) (xs ys : List α) (ad : Addr) (n m c : Nat) (hn : n = xs.length) (hs : a.eval s = .slice A n cap) (hy : a.eval y = .slice (some ad) m c) (hm : m = ys.length) (HO : OwnO F W A cap xs) (HR : Rd F W (some ad) ys) (hy0 : 0 < ys.length) (hb : (xs.length + ys.length) * bytes ≤ 140737488355328)
    (hK : ∀ A' cap' w', OwnO F w' A' cap' (xs ++ ys) → But (own A) W w' → (∀ b ∈ own A', b ∈ own A ∨ W.heap.size ≤ b) → K (a.put o.dst (.slice A' (n + m) cap')) w') : if Region.wanted o (yielded ops a.tmps) = true then Oper.wp P o a W K Q else Z := by
  have hw : Region.wanted o (yielded ops a.tmps) = true := by simp [Region.wanted, hgd]
  rw [if_pos hw]
  subst hm
  subst hn
  obtain ⟨A', cap', w', hr, h1, h2, h3⟩ := run_appO E hn0 hb0 W t o.type ht A cap xs ys ad c HO HR hy0 hb
  unfold Oper.wp execOp
  simp only [ho, resolve, invoke, builtin, Sem.run_bind, Sem.run_pure, Result.andThen_ok, List.map_toArray, List.map_cons, List.map_nil, hs, hy, hr]
  exact hK A' cap' w' h1 h2 h3
/-- append in a plain list. -/
theorem ev_appO {ops : Array Oper} {rest : List Oper} {o : Oper} {a : Act} {Q : Exit → Act → World → Prop} (E : El P F e bytes z) (hn0 : 0 < F.n) (hb0 : 0 < bytes) (W : World) (hgd : o.guard = none) (s y : Operand) (t : TypeId) (ho : o.op = Op.call { callee := Callee.builtin Builtin.append, args := #[s, y], argTypes := #[t, t] }) (ht : P.underlying t = some (.slice e))
    (A : Option Addr) (cap : Nat) (xs ys : List α) (ad : Addr) (n m c : Nat) (hn : n = xs.length) (hs : a.eval s = .slice A n cap) (hy : a.eval y = .slice (some ad) m c) (hm : m = ys.length) (HO : OwnO F W A cap xs) (HR : Rd F W (some ad) ys) (hy0 : 0 < ys.length) (hb : (xs.length + ys.length) * bytes ≤ 140737488355328)
    (hK : ∀ A' cap' w', OwnO F w' A' cap' (xs ++ ys) → But (own A) W w' → (∀ b ∈ own A', b ∈ own A ∨ W.heap.size ≤ b) → wpList P ops Q rest (a.put o.dst (.slice A' (n + m) cap')) w') : wpList P ops Q (o :: rest) a W := by
  subst hm
  subst hn
  obtain ⟨A', cap', w', hr, h1, h2, h3⟩ := run_appO E hn0 hb0 W t o.type ht A cap xs ys ad c HO HR hy0 hb
  refine wpList_plain hgd fun K hK' => ?_
  unfold Oper.wp execOp
  simp only [ho, resolve, invoke, builtin, Sem.run_bind, Sem.run_pure, Result.andThen_ok, List.map_toArray, List.map_cons, List.map_nil, hs, hy, hr]
  exact hK' _ _ (hK A' cap' w' h1 h2 h3)
end
end Go.Proofs.YtkicbnkacjnhoaaDoor
