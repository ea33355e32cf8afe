/- Slices of flat structs: what is read, what is owned, as lists. -/
import Derived.Test.YtkicbnkacjnhoaaDoorBase
import Derived.Test.YtkicbnkacjnhoaaDoorOt
import Derived.Maps.AppendAt
namespace Go.Proofs.YtkicbnkacjnhoaaDoor
open Go.RowKit
set_option linter.unusedVariables false

def opEq (a b : POp) : Bool := decide (a = b)
theorem opEq_true {a b : POp} : opEq a b = true ↔ a = b := by simp [opEq]
theorem opEq_false {a b : POp} : opEq a b = false ↔ ¬ a = b := by simp [opEq]

theorem fields23 : Tryd.prog.underlying 23 = some (.struct (Tryd.prog.fieldsOf 23)) := by kernel_rfl
section
variable {P : Program} {d : Nat} {xs ys : Array Value} {f : Field} {fs : List Field} {a b : Value} {r s : Bool} {w : World}
theorem sEq_step (hn : (f.name == "_") = false) (ha : (part f.type xs f.offset).run P w = .ok a w) (hb : (part f.type ys f.offset).run P w = .ok b w) (he : (Op.equalIn d f.type a b).run P w = .ok r w) (hr : (Op.eqFields d xs ys fs).run P w = .ok s w) :
    (Op.eqFields d xs ys (f :: fs)).run P w = .ok (r && s) w := by
  have hn' : f.name ≠ "_" := by simpa using hn
  rw [Op.eqFields]
  simp only [if_pos hn', Sem.run_bind, ha, hb, he, Result.andThen_ok]
  cases r
  · simp
  · simpa using hr
theorem sEq_nil : (Op.eqFields d xs ys []).run P w = .ok true w := by simp [Op.eqFields]
theorem sEq_of {t : TypeId} {fs : Array Field} (hu : P.underlying t = some (.struct fs)) (hp : P.stoodInHeld t = false) (h : (Op.eqFields d xs ys fs.toList).run P w = .ok r w) : (Op.equalIn (d + 1) t (.agg xs) (.agg ys)).run P w = .ok r w := by
  have hf : P.fieldsOf t = fs := by simp [Program.fieldsOf, hu]
  rw [run_equalIn_struct (P := P) w d t xs ys (by rw [hf]; exact hu) hp, hf]
  exact h
end
@[go_sem high] theorem eq23 (w : World) (a0 a1 a2 a3 a4 b0 b1 b2 b3 b4 : Int) :
    (Op.equalIn 10000 23 (.agg #[.int .i64 a0, .int .i64 a1, .int .u8 a2, .int .i64 a3, .int .i64 a4]) (.agg #[.int .i64 b0, .int .i64 b1, .int .u8 b2, .int .i64 b3, .int .i64 b4])).run Tryd.prog w = .ok (opEq ⟨a0, a1, a2, a3, a4⟩ ⟨b0, b1, b2, b3, b4⟩) w := by
  have h : opEq ⟨a0, a1, a2, a3, a4⟩ ⟨b0, b1, b2, b3, b4⟩ = ((a0 == b0) && ((a1 == b1) && ((a2 == b2) && ((a3 == b3) && ((a4 == b4) && true))))) := by
    rw [Bool.eq_iff_iff, opEq_true]; simp
  rw [h]
  refine sEq_of (d := 9999) Tryd.underlying23 (by kernel_rfl) ?_
  refine sEq_step (by rfl) (by go_simp; rfl) (by go_simp; rfl) (by go_simp) ?_
  refine sEq_step (by rfl) (by go_simp; rfl) (by go_simp; rfl) (by go_simp) ?_
  refine sEq_step (by rfl) (by go_simp; rfl) (by go_simp; rfl) (by go_simp) ?_
  refine sEq_step (by rfl) (by go_simp; rfl) (by go_simp; rfl) (by go_simp) ?_
  refine sEq_step (by rfl) (by go_simp; rfl) (by go_simp; rfl) (by go_simp) ?_
  exact sEq_nil

/-- How a struct of plain fields lies in cells. -/
structure Flat (α : Type) where
  n : Nat
  cells : α → List Value
  len : ∀ x, (cells x).length = n

def opF : Flat POp := ⟨5, fun o => [.int .i64 o.k, .int .i64 o.p, .int .u8 o.c, .int .i64 o.l, .int .i64 o.s], fun _ => rfl⟩

/-- A slice at A reads as xs. -/
structure Rd {α : Type} (F : Flat α) (w : World) (A : Option Addr) (xs : List α) : Prop where
  at_ : ∀ i (hi : i < xs.length), ∃ b off, A = some ⟨b, off, none⟩ ∧ ∀ j u, (F.cells xs[i])[j]? = some u → w.cell? ⟨b, off + i * F.n + j, none⟩ = some u

theorem Rd.below {α : Type} {F : Flat α} {w w1 : World} {A : Option Addr} {xs : List α} (h : Rd F w A xs) (hb : Below w.heap.size w w1) : Rd F w1 A xs :=
  ⟨fun i hi => by
    obtain ⟨b, off, e, hc⟩ := h.at_ i hi
    refine ⟨b, off, e, fun j u hu => ?_⟩
    have h1 := hc j u hu
    exact (hb.cell (World.block_lt_of_cell? w _ h1)).trans h1⟩
theorem Rd.drewN {α : Type} {F : Flat α} {w : World} {A : Option Addr} {xs : List α} (h : Rd F w A xs) (n : Nat) : Rd F (w.drewN n) A xs := ⟨h.at_⟩
theorem Rd.drew {α : Type} {F : Flat α} {w : World} {A : Option Addr} {xs : List α} (h : Rd F w A xs) : Rd F w.drew A xs := ⟨h.at_⟩
theorem Rd.nil {α : Type} (F : Flat α) (w : World) (A : Option Addr) : Rd F w A [] := ⟨fun i hi => absurd hi (Nat.not_lt_zero _)⟩

theorem Rd.op {w : World} {A : Option Addr} {xs : List POp} (h : Rd opF w A xs) (i : Nat) (hi : i < xs.length) :
    ∃ b off x, A = some ⟨b, off, none⟩ ∧ Hid (xs[i]? = some x) ∧ w.cell? ⟨b, off + i * 5, none⟩ = some (.int .i64 x.k) ∧ w.cell? ⟨b, off + i * 5 + 1, none⟩ = some (.int .i64 x.p) ∧
      w.cell? ⟨b, off + i * 5 + 2, none⟩ = some (.int .u8 x.c) ∧ w.cell? ⟨b, off + i * 5 + 3, none⟩ = some (.int .i64 x.l) ∧ w.cell? ⟨b, off + i * 5 + 4, none⟩ = some (.int .i64 x.s) := by
  obtain ⟨b, off, e, hc⟩ := h.at_ i hi
  exact ⟨b, off, xs[i], e, List.getElem?_eq_getElem hi, hc 0 _ rfl, hc 1 _ rfl, hc 2 _ rfl, hc 3 _ rfl, hc 4 _ rfl⟩

/-! ### Blocks that are known whole -/
structure Blk (w : World) (b : Nat) (cs : Array Value) (t : TypeId) : Prop where
  out : w.heap[b]? = some (.cells cs t (0, 0))
section
variable {w w1 : World} {b : Nat} {cs : Array Value} {t : TypeId}
theorem Blk.cell (h : Blk w b cs t) (i : Nat) : w.cell? ⟨b, i, none⟩ = cs[i]? := by simp [World.cell?, h.out]
theorem Blk.frozen (h : Blk w b cs t) (i : Nat) : w.frozen? ⟨b, i, none⟩ = false := by simp [World.frozen?, h.out]
theorem Blk.lt (h : Blk w b cs t) : b < w.heap.size := (Array.getElem?_eq_some_iff.1 h.out).1
theorem Blk.below (h : Blk w b cs t) {B : Nat} (hb : Below B w w1) (hlt : b < B) : Blk w1 b cs t := ⟨(hb.block b hlt).trans h.out⟩
theorem Blk.on (h : Blk w b cs t) (hb : Below w.heap.size w w1) : Blk w1 b cs t := h.below hb h.lt
theorem Blk.grown (h : Blk w b cs t) {row : Option Nat} (hg : w.grownBy w1 row) (hne : some b ≠ row) : Blk w1 b cs t := ⟨(hg.block b h.lt hne).trans h.out⟩
theorem Blk.alloc (h : Blk w b cs t) (o : Obj) : Blk (w.alloc o) b cs t := ⟨(Below.heap_alloc w o b h.lt).trans h.out⟩
theorem Blk.drewN (h : Blk w b cs t) (n : Nat) : Blk (w.drewN n) b cs t := ⟨h.out⟩
theorem Blk.drew (h : Blk w b cs t) : Blk w.drew b cs t := ⟨h.out⟩
theorem Blk.new (w : World) (cs : Array Value) (t : TypeId) : Blk (w.alloc (.cells cs t)) w.heap.size cs t := ⟨heap_alloc_new w _⟩
theorem Blk.new1 (w : World) (o : Obj) (cs : Array Value) (t : TypeId) : Blk ((w.alloc o).alloc (.cells cs t)) (w.heap.size + 1) cs t := by
  have h := Blk.new (w.alloc o) cs t
  simpa using h
theorem Blk.new2 (w : World) (o1 o2 : Obj) (cs : Array Value) (t : TypeId) : Blk (((w.alloc o1).alloc o2).alloc (.cells cs t)) (w.heap.size + 1 + 1) cs t := by
  have h := Blk.new ((w.alloc o1).alloc o2) cs t
  simpa using h
theorem Blk.new3 (w : World) (o1 o2 o3 : Obj) (cs : Array Value) (t : TypeId) : Blk ((((w.alloc o1).alloc o2).alloc o3).alloc (.cells cs t)) (w.heap.size + 1 + 1 + 1) cs t := by
  have h := Blk.new (((w.alloc o1).alloc o2).alloc o3) cs t
  simpa using h
theorem Blk.set (h : Blk w b cs t) (i : Nat) (v : Value) : Blk (w.setCell ⟨b, i, none⟩ v) b (cs.setIfInBounds i v) t := ⟨heap_setCell_same w b i cs t v h.out⟩
theorem Blk.setOther (h : Blk w b cs t) {a : Addr} (hne : b ≠ a.block) (v : Value) : Blk (w.setCell a v) b cs t := ⟨(heap_setCell_other w a b v hne).trans h.out⟩
theorem Blk.five {v0 v1 v2 v3 v4 : Value} (h : Blk w b #[v0, v1, v2, v3, v4] t) : w.cell? ⟨b, 0, none⟩ = some v0 ∧ w.cell? ⟨b, 1, none⟩ = some v1 ∧ w.cell? ⟨b, 2, none⟩ = some v2 ∧ w.cell? ⟨b, 3, none⟩ = some v3 ∧ w.cell? ⟨b, 4, none⟩ = some v4 ∧ b < w.heap.size :=
  ⟨h.cell 0, h.cell 1, h.cell 2, h.cell 3, h.cell 4, h.lt⟩
theorem Blk.three {v0 v1 v2 : Value} (h : Blk w b #[v0, v1, v2] t) : w.cell? ⟨b, 0, none⟩ = some v0 ∧ w.cell? ⟨b, 1, none⟩ = some v1 ∧ w.cell? ⟨b, 2, none⟩ = some v2 ∧ b < w.heap.size :=
  ⟨h.cell 0, h.cell 1, h.cell 2, h.lt⟩
end

/-- Five cells of one block written, one behind the other. -/
@[reducible] def put5 (w : World) (b : Nat) (v0 v1 v2 v3 v4 : Value) : World := ((((w.setCell ⟨b, 0, none⟩ v0).setCell ⟨b, 1, none⟩ v1).setCell ⟨b, 2, none⟩ v2).setCell ⟨b, 3, none⟩ v3).setCell ⟨b, 4, none⟩ v4
theorem Blk.cells5 {w : World} {b : Nat} {t : TypeId} {v0 v1 v2 v3 v4 : Value} (h : Blk w b #[v0, v1, v2, v3, v4] t) : w.cell? ⟨b, 0, none⟩ = some v0 ∧ w.cell? ⟨b, 1, none⟩ = some v1 ∧ w.cell? ⟨b, 2, none⟩ = some v2 ∧ w.cell? ⟨b, 3, none⟩ = some v3 ∧ w.cell? ⟨b, 4, none⟩ = some v4 :=
  ⟨h.cell 0, h.cell 1, h.cell 2, h.cell 3, h.cell 4⟩
theorem Blk.set5 {w : World} {b : Nat} {t : TypeId} {u0 u1 u2 u3 u4 : Value} (h : Blk w b #[u0, u1, u2, u3, u4] t) (v0 v1 v2 v3 v4 : Value) : Blk (put5 w b v0 v1 v2 v3 v4) b #[v0, v1, v2, v3, v4] t := by
  unfold put5
  simpa using ((((h.set 0 v0).set 1 v1).set 2 v2).set 3 v3).set 4 v4
theorem Blk.other5 {w : World} {b b' : Nat} {t : TypeId} {cs : Array Value} (h : Blk w b cs t) (hne : b ≠ b') (v0 v1 v2 v3 v4 : Value) : Blk (put5 w b' v0 v1 v2 v3 v4) b cs t :=
  ((((h.setOther hne v0).setOther hne v1).setOther hne v2).setOther hne v3).setOther hne v4
theorem below_put5 {B : Nat} {a w : World} (h : Below B a w) {b : Nat} (hb : B ≤ b) (v0 v1 v2 v3 v4 : Value) : Below B a (put5 w b v0 v1 v2 v3 v4) :=
  ((((h.setCell (p := ⟨b, 0, none⟩) hb v0).setCell (p := ⟨b, 1, none⟩) hb v1).setCell (p := ⟨b, 2, none⟩) hb v2).setCell (p := ⟨b, 3, none⟩) hb v3).setCell (p := ⟨b, 4, none⟩) hb v4
theorem grown_setCell (w : World) (b i : Nat) (v : Value) : w.grownBy (w.setCell ⟨b, i, none⟩ v) (some b) :=
  ⟨rfl, rfl, rfl, by simp, fun k _ hk => heap_setCell_other w _ k v (fun e => hk (by simp [e]))⟩
theorem grown_put5 (w : World) (b : Nat) (v0 v1 v2 v3 v4 : Value) : w.grownBy (put5 w b v0 v1 v2 v3 v4) (some b) :=
  World.grownBy.trans (World.grownBy.trans (World.grownBy.trans (World.grownBy.trans (grown_setCell w b 0 v0) (grown_setCell _ b 1 v1)) (grown_setCell _ b 2 v2)) (grown_setCell _ b 3 v3)) (grown_setCell _ b 4 v4)
theorem wp_abs {P : Program} {c : Code} {Q : Exit → Act → World → Prop} {a : Act} {W : World} (h : ∀ W1, W1 = W → c.wp P Q a W1) : c.wp P Q a W := h W rfl

theorem grown_below {B : Nat} {a w w1 : World} {row : Option Nat} (h : Below B a w) (hg : w.grownBy w1 row) (hB : B ≤ w.heap.size) (hr : ∀ k, row = some k → B ≤ k) : Below B a w1 := h.grown hg hB hr
theorem grown_trans {w w1 w2 : World} {row : Option Nat} (h : w.grownBy w1 row) (k : w1.grownBy w2 row) : w.grownBy w2 row := World.grownBy.trans h k
theorem grown_on {w w1 : World} (h : Below w.heap.size w w1) (row : Option Nat) : w.grownBy w1 row := ⟨h.os, h.tape, h.output, h.size, fun i hi _ => h.block i hi⟩
theorem Rd.grown {α : Type} {F : Flat α} {w w1 : World} {A : Option Addr} {xs : List α} (h : Rd F w A xs) {row : Option Nat} (hg : w.grownBy w1 row) (hne : ∀ b off, A = some ⟨b, off, none⟩ → some b ≠ row) : Rd F w1 A xs :=
  ⟨fun i hi => by
    obtain ⟨b, off, e, hc⟩ := h.at_ i hi
    exact ⟨b, off, e, fun j u hu => hg.cell (hc j u hu) (hne b off e)⟩⟩

/-! ### Rows of the call's own, their block and capacity known -/
def OwnC {α : Type} (F : Flat α) (e : TypeId) (w : World) (g cap : Nat) (xs : List α) : Prop :=
  w.ownsRow 0 e F.n (.slice (some ⟨g, 0, none⟩) xs.length cap) xs.length (xs.flatMap F.cells)
section
variable {α : Type} {F : Flat α} {e : TypeId} {w w1 : World} {g cap : Nat} {xs : List α}
theorem OwnC.lt (h : OwnC F e w g cap xs) : g < w.heap.size := (World.ownsRow.lt h g rfl).2
theorem OwnC.grown (h : OwnC F e w g cap xs) {row : Option Nat} (hg : w.grownBy w1 row) (hne : some g ≠ row) : OwnC F e w1 g cap xs := World.ownsRow.kept h hg (.inr hne)
theorem OwnC.on (h : OwnC F e w g cap xs) (hb : Below w.heap.size w w1) : OwnC F e w1 g cap xs := h.grown (grown_on hb none) (by simp)
theorem OwnC.alloc (h : OwnC F e w g cap xs) (o : Obj) : OwnC F e (w.alloc o) g cap xs := World.ownsRow.alloc h o
theorem OwnC.drew (h : OwnC F e w g cap xs) : OwnC F e w.drew g cap xs := h
theorem OwnC.drewN (h : OwnC F e w g cap xs) (n : Nat) : OwnC F e (w.drewN n) g cap xs := h
theorem flatMap_cells_length (F : Flat α) : ∀ xs : List α, (xs.flatMap F.cells).length = xs.length * F.n
  | [] => by simp
  | x :: r => by rw [List.flatMap_cons, List.length_append, F.len, flatMap_cells_length F r, List.length_cons, Nat.add_mul]; omega
theorem flatMap_cells_at (F : Flat α) : ∀ (xs : List α) (i : Nat) (hi : i < xs.length) (j : Nat) (u : Value), (F.cells xs[i])[j]? = some u → (xs.flatMap F.cells)[i * F.n + j]? = some u
  | x :: r, 0, _, j, u, h => by
    have hj : j < (F.cells x).length := (List.getElem?_eq_some_iff.1 h).1
    simp only [List.flatMap_cons, Nat.zero_mul, Nat.zero_add]
    rw [List.getElem?_append_left hj]
    exact h
  | x :: r, i + 1, hi, j, u, h => by
    rw [List.flatMap_cons, List.getElem?_append_right (by rw [F.len, Nat.add_mul]; omega), F.len]
    have e : (i + 1) * F.n + j - F.n = i * F.n + j := by rw [Nat.add_mul]; omega
    rw [e]
    exact flatMap_cells_at F r i (by simpa using hi) j u (by simpa using h)
theorem OwnC.rd (h : OwnC F e w g cap xs) : Rd F w (some ⟨g, 0, none⟩) xs :=
  ⟨fun i hi => ⟨g, 0, rfl, fun j u hu => by
    have := World.ownsRow.cells h (g := g) rfl (i * F.n + j) u (flatMap_cells_at F xs i hi j u hu)
    have ha : (⟨g, 0, none⟩ : Addr).add (i * F.n + j) = ⟨g, 0 + i * F.n + j, none⟩ := by unfold Addr.add; split <;> simp_all
    rwa [ha] at this⟩⟩
theorem OwnC.le (h : OwnC F e w g cap xs) : xs.length ≤ cap := by
  rcases h.2 with ⟨h', _⟩ | ⟨g', cap', cur, hv, _, _, hl, _⟩
  · cases h'
  · injection hv with _ _ hc
    omega
end

/-- What is asked of an element's type. -/
structure El {α : Type} (P : Program) (F : Flat α) (e : TypeId) (bytes : Nat) (z : α) : Prop where
  info : (P.info? e).map (fun i => (i.zero, i.size, i.bytes)) = some (some (.agg (F.cells z).toArray), F.n, bytes)
  one : ∀ x, ∀ u ∈ F.cells x, u.oneCell' = true

section
variable {P : Program} {ops : Array Oper} {rest : List Oper} {o : Oper} {a : Act} {Q : Exit → Act → World → Prop} {α : Type} {F : Flat α} {e : TypeId} {bytes : Nat} {z : α}
/-- make([]T, 0, n) -/
theorem ev_make0 (E : El P F e bytes z) (w : World) (hg : o.guard = none) (l c : Operand) (t : TypeId) (hop : o.op = Op.makeSlice t l c) (ht : P.underlying t = some (.slice e))
    (kl kc : IntKind) (C : Int) (n : Nat) (hl : a.eval l = .int kl 0) (hc : a.eval c = .int kc C) (hC : C = (n : Int)) (hb : bytes * n ≤ 281474976710656) (hn : n ≤ 9223372036854775807)
    (hK : ∀ w', OwnC F e w' w.heap.size n [] → Below w.heap.size w w' → wpList P ops Q rest (a.put o.dst (.slice (some ⟨w.heap.size, 0, none⟩) 0 n)) w') : wpList P ops Q (o :: rest) a w := by
  obtain ⟨i, hi, h3, h4, h5⟩ := info_parts E.info
  refine wpList_make_own w hg l c t hop w.heap.size e i _ F.n ht hi h3 h4 kl kc C n hl hc hC (by rw [h5]; exact hb) (by simpa [maxLen] using hn) (Nat.le_refl _) fun w' hown hgr => ?_
  refine hK w' ?_ ⟨hgr.os, hgr.tape, hgr.output, hgr.size, fun k hk => hgr.block k hk (by simp)⟩
  rcases hown.2 with ⟨h', _⟩ | ⟨g', cap', cur, hv, _, r⟩
  · cases h'
  · exact ⟨by simp, .inr ⟨g', cap', cur, hv, Nat.zero_le _, r⟩⟩
/-- append(v, x) where there is room. -/
theorem ev_app1 (E : El P F e bytes z) (W : World) (hg : o.guard = none) (s y : Operand) (t : TypeId) (hop : o.op = Op.call { callee := Callee.builtin Builtin.append, args := #[s, y], argTypes := #[t, t] }) (ht : P.underlying t = some (.slice e))
    (g cap : Nat) (xs : List α) (x : α) (n : Nat) (hn : n = xs.length) (hs : a.eval s = .slice (some ⟨g, 0, none⟩) n cap) (hy : a.eval y = .slice (some ⟨W.heap.size, 0, none⟩) 1 1) (HO : OwnC F e W g cap xs) (hroom : xs.length < cap)
    (hK : ∀ w', OwnC F e w' g cap (xs ++ [x]) → W.grownBy w' (some g) → wpList P ops Q rest (a.put o.dst (.slice (some ⟨g, 0, none⟩) (n + 1) cap)) w') :
    wpList P ops Q (o :: rest) a (W.alloc (.cells (F.cells x).toArray e)) := by
  subst hn
  obtain ⟨i, hi, h3, h4, h5⟩ := info_parts E.info
  refine wpList_append_fits (W.alloc (.cells (F.cells x).toArray e)) hg s y t hop 0 e i F.n ht hi h4 g xs.length cap (xs.flatMap F.cells) hs (HO.alloc _) ⟨W.heap.size, 0, none⟩ 1 1 (F.cells x) hy (by rw [F.len, Nat.one_mul]) ?_ (E.one x) (by omega) fun w' hown hgr => ?_
  · intro j u hu
    have ha : (⟨W.heap.size, 0, none⟩ : Addr).add j = ⟨W.heap.size, j, none⟩ := by unfold Addr.add; split <;> simp_all
    rw [ha, (Blk.new W (F.cells x).toArray e).cell j]
    simpa using hu
  · refine hK w' ?_ (World.grownBy.trans (World.grownBy_alloc W _ _) hgr)
    unfold OwnC
    rw [List.length_append, List.flatMap_append]
    simpa using hown
/-- A struct written whole into a block of its own. -/
theorem ev_store (W : World) (hgd : o.guard = none) (ty : TypeId) (x y : Operand) (ho : o.op = .store ty x y) (b : Nat) (cells old : Array Value) (t : TypeId) (hx : a.eval x = .pointer (some ⟨b, 0, none⟩)) (hy : a.eval y = .agg cells)
    (hB : Blk W b old t) (hi : (P.info? ty).map (·.size) = some cells.size) (hold : old.size = cells.size) (h1 : cells.all (·.oneCell') = true)
    (hK : ∀ w', Blk w' b cells t → W.grownBy w' (some b) → wpList P ops Q rest (a.put o.dst undef) w') : wpList P ops Q (o :: rest) a W :=
  wpList_store_row hgd ty x y ho b cells hx hy t old hB.out hi hold h1 (hK _ ⟨setRow_heap W b old cells t (0, 0) hB.out⟩ ⟨rfl, rfl, rfl, by simp, fun k _ hk => setRow_other W b k cells (fun e => hk (by simp [e]))⟩)
/-- The same of a struct of a known type. -/
theorem ev_storeF (E : El P F e bytes z) (W : World) (hgd : o.guard = none) (x y : Operand) (ho : o.op = .store e x y) (b : Nat) (v : α) (old : Array Value) (t : TypeId) (hx : a.eval x = .pointer (some ⟨b, 0, none⟩)) (hy : a.eval y = .agg (F.cells v).toArray)
    (hB : Blk W b old t) (hold : old.size = F.n)
    (hK : ∀ w', Blk w' b (F.cells v).toArray t → W.grownBy w' (some b) → wpList P ops Q rest (a.put o.dst undef) w') : wpList P ops Q (o :: rest) a W := by
  obtain ⟨i, hi, h3, h4, h5⟩ := info_parts E.info
  refine ev_store W hgd e x y ho b _ old t hx hy hB (by rw [hi]; simp [h4, F.len]) (by rw [hold]; simp [F.len]) ?_ hK
  rw [Array.all_eq_true_iff_forall_mem]
  intro u hu
  exact E.one v u (by simpa using hu)

/-! ### Rows of the call's own, block and capacity unknown -/
def OwnV {α : Type} (F : Flat α) (e : TypeId) (base : Nat) (w : World) (v : Value) (xs : List α) : Prop := w.ownsRow base e F.n v xs.length (xs.flatMap F.cells)
theorem Rd.news {w : World} {A : Addr} {ys : List α} (h : Rd F w (some A) ys) : ∀ j u, (ys.flatMap F.cells)[j]? = some u → w.cell? (A.add j) = some u := by
  intro j u hu
  have hj : j < ys.length * F.n := by
    have := (List.getElem?_eq_some_iff.1 hu).1
    rwa [flatMap_cells_length] at this
  have hn : 0 < F.n := by
    rcases Nat.eq_zero_or_pos F.n with h0 | h0
    · rw [h0] at hj; omega
    · exact h0
  have hi : j / F.n < ys.length := Nat.div_lt_of_lt_mul (by rw [Nat.mul_comm]; exact hj)
  have hm : j % F.n < F.n := Nat.mod_lt _ hn
  have hd : j / F.n * F.n + j % F.n = j := by rw [Nat.mul_comm]; exact Nat.div_add_mod j F.n
  obtain ⟨b, off, e1, hc⟩ := h.at_ (j / F.n) hi
  injection e1 with e1
  subst e1
  have hl : j % F.n < (F.cells ys[j / F.n]).length := by rw [F.len]; exact hm
  have hg := List.getElem?_eq_getElem hl
  have h2 := flatMap_cells_at F ys (j / F.n) hi (j % F.n) _ hg
  rw [hd, hu] at h2
  injection h2 with h2
  have h3 := hc (j % F.n) u (by rw [h2]; exact hg)
  have ha : (⟨b, off, none⟩ : Addr).add j = ⟨b, off + j / F.n * F.n + j % F.n, none⟩ := by
    rw [Nat.add_assoc, hd]; unfold Addr.add; split <;> simp_all
  rw [ha]
  exact h3
theorem flat_one (E : El P F e bytes z) (ys : List α) : ∀ u ∈ ys.flatMap F.cells, u.oneCell' = true := by
  intro u hu
  obtain ⟨x, _, hx⟩ := List.mem_flatMap.1 hu
  exact E.one x u hx
/-- append(v, ys...), v of the call's own, whatever its capacity. -/
theorem ev_appS (E : El P F e bytes z) (hn0 : 0 < F.n) (hb0 : 0 < bytes) (W : World) (hgd : o.guard = none) (s y : Operand) (t : TypeId) (ho : o.op = Op.call { callee := Callee.builtin Builtin.append, args := #[s, y], argTypes := #[t, t] }) (ht : P.underlying t = some (.slice e))
    (base : Nat) (v : Value) (xs ys : List α) (A : Option Addr) (m c : Nat) (hs : a.eval s = v) (hy : a.eval y = .slice A m c) (hm : m = ys.length) (HO : OwnV F e base W v xs) (HR : Rd F W A ys) (hb : (xs.length + ys.length) * bytes ≤ 140737488355328) (hbase : base ≤ W.heap.size)
    (hK : ∀ v' w', OwnV F e base w' v' (xs ++ ys) → W.grownBy w' v.ownBlock → (v'.ownBlock = v.ownBlock ∨ v'.ownBlock = some W.heap.size) → wpList P ops Q rest (a.put o.dst v') w') : wpList P ops Q (o :: rest) a W := by
  subst hm
  obtain ⟨i, hi, h3, h4, h5⟩ := info_parts E.info
  have hlen : xs.length + ys.length ≤ 140737488355328 := Nat.le_trans (Nat.le_mul_of_pos_right _ hb0) hb
  have fin : ∀ v' w', w'.ownsRow base e F.n v' (xs.length + ys.length) (xs.flatMap F.cells ++ ys.flatMap F.cells) → OwnV F e base w' v' (xs ++ ys) := fun v' w' h => by
    unfold OwnV; rw [List.length_append, List.flatMap_append]; exact h
  rcases A with _ | ad
  · have h0 : ys = [] := by
      rcases ys with _ | ⟨y0, r⟩
      · rfl
      · obtain ⟨b, off, e1, _⟩ := HR.at_ 0 (by simp)
        cases e1
    subst h0
    refine wpList_plain hgd fun K hK' => ?_
    have hr : (Builtin.append_ #[t, t] o.type #[v, .slice none 0 c]).run P W = .ok v W := by
      rcases HO.2 with ⟨rfl, hn⟩ | ⟨g, cap, cur, rfl, _, _, hnc, _⟩
      · simp [Builtin.append_, run_underlying ht, sizeOf, typeInfo, hi, Builtin.lenOf, Builtin.firstCells]
      · simp [Builtin.append_, run_underlying ht, sizeOf, typeInfo, hi, Builtin.lenOf, Builtin.firstCells, hnc, storeCells]
    unfold Oper.wp execOp
    simp only [ho, resolve, invoke, builtin, Sem.run_bind, Sem.run_pure, Result.andThen_ok, List.map_toArray, List.map_cons, List.map_nil, hs, hy, List.length_nil, hr]
    exact hK' _ _ (hK v W (by simpa [OwnV] using HO) (World.grownBy.refl W _) (.inl rfl))
  · exact wpList_append_own_at W hgd s y t ho base e i _ F.n bytes ht hi h3 h4 h5 (by simp [Value.cells, F.len]) hn0 v xs.length (xs.flatMap F.cells) hs HO ad ys.length c (ys.flatMap F.cells) hy (flatMap_cells_length F ys) HR.news (flat_one E ys) (by simp only [maxLen]; omega) hb hbase
      fun v' w' h1 h2 _ h4 => hK v' w' (fin v' w' h1) h2 h4
/-- append(v, ys...) where there is room. -/
theorem ev_appSC (E : El P F e bytes z) (W : World) (hgd : o.guard = none) (s y : Operand) (t : TypeId) (ho : o.op = Op.call { callee := Callee.builtin Builtin.append, args := #[s, y], argTypes := #[t, t] }) (ht : P.underlying t = some (.slice e))
    (g cap n : Nat) (xs ys : List α) (A : Option Addr) (m c : Nat) (hn : n = xs.length) (hs : a.eval s = .slice (some ⟨g, 0, none⟩) n cap) (hy : a.eval y = .slice A m c) (hm : m = ys.length) (HO : OwnC F e W g cap xs) (HR : Rd F W A ys) (hroom : xs.length + ys.length ≤ cap)
    (hK : ∀ w', OwnC F e w' g cap (xs ++ ys) → W.grownBy w' (some g) → wpList P ops Q rest (a.put o.dst (.slice (some ⟨g, 0, none⟩) (n + m) cap)) w') : wpList P ops Q (o :: rest) a W := by
  subst hm
  subst hn
  obtain ⟨i, hi, h3, h4, h5⟩ := info_parts E.info
  rcases A with _ | ad
  · have h0 : ys = [] := by
      rcases ys with _ | ⟨y0, r⟩
      · rfl
      · obtain ⟨b, off, e1, _⟩ := HR.at_ 0 (by simp)
        cases e1
    subst h0
    refine wpList_plain hgd fun K hK' => ?_
    have hle := HO.le
    have hr : (Builtin.append_ #[t, t] o.type #[.slice (some ⟨g, 0, none⟩) xs.length cap, .slice none 0 c]).run P W = .ok (.slice (some ⟨g, 0, none⟩) xs.length cap) W := by
      simp [Builtin.append_, run_underlying ht, sizeOf, typeInfo, hi, Builtin.lenOf, Builtin.firstCells, hle, storeCells]
    unfold Oper.wp execOp
    simp only [ho, resolve, invoke, builtin, Sem.run_bind, Sem.run_pure, Result.andThen_ok, List.map_toArray, List.map_cons, List.map_nil, hs, hy, List.length_nil, hr]
    exact hK' _ _ (hK W (by simpa using HO) (World.grownBy.refl W _))
  · exact wpList_append_fits W hgd s y t ho 0 e i F.n ht hi h4 g xs.length cap (xs.flatMap F.cells) hs HO ad ys.length c (ys.flatMap F.cells) hy (flatMap_cells_length F ys) HR.news (flat_one E ys) hroom
      fun w' h1 h2 => hK w' (by unfold OwnC; rw [List.length_append, List.flatMap_append]; exact h1) h2
/-- append(v, x), v of the call's own, whatever its capacity. -/
theorem ev_app1V (E : El P F e bytes z) (hn0 : 0 < F.n) (hb0 : 0 < bytes) (W : World) (hgd : o.guard = none) (s y : Operand) (t : TypeId) (ho : o.op = Op.call { callee := Callee.builtin Builtin.append, args := #[s, y], argTypes := #[t, t] }) (ht : P.underlying t = some (.slice e))
    (base : Nat) (v : Value) (xs : List α) (x : α) (hs : a.eval s = v) (hy : a.eval y = .slice (some ⟨W.heap.size, 0, none⟩) 1 1) (HO : OwnV F e base W v xs) (hb : (xs.length + 1) * bytes ≤ 140737488355328) (hbase : base ≤ W.heap.size)
    (hK : ∀ v' w', OwnV F e base w' v' (xs ++ [x]) → W.grownBy w' v.ownBlock → (v'.ownBlock = v.ownBlock ∨ ∃ k, v'.ownBlock = some k ∧ W.heap.size ≤ k) → wpList P ops Q rest (a.put o.dst v') w') : wpList P ops Q (o :: rest) a (W.alloc (.cells (F.cells x).toArray e)) := by
  refine ev_appS E hn0 hb0 (W.alloc (.cells (F.cells x).toArray e)) hgd s y t ho ht base v xs [x] (some ⟨W.heap.size, 0, none⟩) 1 1 hs hy rfl (World.ownsRow.alloc HO _) ⟨fun i hi => ⟨W.heap.size, 0, rfl, fun j u hu => ?_⟩⟩ hb (by simp; omega) fun v' w' h1 h2 h3 => hK v' w' h1 (World.grownBy.trans (World.grownBy_alloc W _ _) h2) ?_
  · obtain rfl : i = 0 := by simpa using hi
    rw [(Blk.new W (F.cells x).toArray e).cell]
    simpa using hu
  · rcases h3 with h3 | h3
    · exact .inl h3
    · exact .inr ⟨_, h3, by simp⟩
theorem OwnC.v {w : World} {g cap : Nat} {xs : List α} (h : OwnC F e w g cap xs) {base : Nat} (hb : base ≤ g) : OwnV F e base w (.slice (some ⟨g, 0, none⟩) xs.length cap) xs := by
  rcases h.2 with ⟨h', _⟩ | ⟨g', cap', cur, hv, _, r⟩
  · cases h'
  · injection hv with hg _ _
    injection hg with hg
    injection hg with hg
    exact ⟨h.1, .inr ⟨g', cap', cur, by simp_all, by omega, r⟩⟩
/-- What is owned and not nil has a block and a capacity. -/
theorem OwnV.c {w : World} {base : Nat} {v : Value} {xs : List α} (h : OwnV F e base w v xs) : (v = .slice none 0 0 ∧ xs = []) ∨ ∃ g cap, v = .slice (some ⟨g, 0, none⟩) xs.length cap ∧ base ≤ g ∧ OwnC F e w g cap xs := by
  rcases h.2 with ⟨h', hn⟩ | ⟨g', cap', cur, hv, hbg, r⟩
  · exact .inl ⟨h', List.eq_nil_of_length_eq_zero hn⟩
  · exact .inr ⟨g', cap', hv, hbg, ⟨h.1, .inr ⟨g', cap', cur, rfl, Nat.zero_le _, r⟩⟩⟩
theorem OwnV.grown {w w1 : World} {base : Nat} {v : Value} {xs : List α} (h : OwnV F e base w v xs) {row : Option Nat} (hg : w.grownBy w1 row) (hne : v.ownBlock = none ∨ v.ownBlock ≠ row) : OwnV F e base w1 v xs := World.ownsRow.kept h hg hne
theorem OwnV.on {w w1 : World} {base : Nat} {v : Value} {xs : List α} (h : OwnV F e base w v xs) (hb : Below w.heap.size w w1) : OwnV F e base w1 v xs := h.grown (grown_on hb none) (by cases v.ownBlock <;> simp)
theorem OwnV.alloc {w : World} {base : Nat} {v : Value} {xs : List α} (h : OwnV F e base w v xs) (ob : Obj) : OwnV F e base (w.alloc ob) v xs := World.ownsRow.alloc h ob
theorem OwnV.nil (w : World) (base : Nat) : OwnV F e base w (.slice none 0 0) [] := ⟨by simp, .inl ⟨rfl, rfl⟩⟩

theorem flatMap_set (F : Flat α) (v : α) : ∀ (xs : List α) (i : Nat) (hi : i < xs.length), (xs.set i v).flatMap F.cells = (xs.flatMap F.cells).take (i * F.n) ++ F.cells v ++ (xs.flatMap F.cells).drop (i * F.n + F.n)
  | x :: r, 0, _ => by
    simp only [List.set_cons_zero, List.flatMap_cons, Nat.zero_mul, List.take_zero, List.nil_append, Nat.zero_add]
    rw [List.drop_append_of_le_length (by rw [F.len]; exact Nat.le_refl _), List.drop_of_length_le (by rw [F.len]; exact Nat.le_refl _), List.nil_append]
  | x :: r, i + 1, hi => by
    have ih := flatMap_set F v r i (by simpa using hi)
    have e1 : (i + 1) * F.n = F.n + i * F.n := by rw [Nat.add_mul]; omega
    have e2 : (i + 1) * F.n + F.n = F.n + (i * F.n + F.n) := by omega
    simp only [List.set_cons_succ, List.flatMap_cons]
    rw [ih, e1, Nat.add_assoc]
    rw [List.take_append, List.drop_append, F.len]
    rw [List.take_of_length_le (show (F.cells x).length ≤ F.n + i * F.n by rw [F.len]; omega), List.drop_of_length_le (show (F.cells x).length ≤ F.n + (i * F.n + F.n) by rw [F.len]; omega)]
    simp [Nat.add_sub_cancel_left]
theorem seg_take (cur cells : List Value) (off L : Nat) (h : off + cells.length ≤ L) (hL : L ≤ cur.length) :
    (cur.take off ++ cells ++ cur.drop (off + cells.length)).take L = (cur.take L).take off ++ cells ++ (cur.take L).drop (off + cells.length) := by
  rw [List.take_append, List.take_append, List.take_take, List.take_take, List.length_append, List.length_take, List.drop_take, Nat.min_eq_left (show off ≤ cur.length by omega), Nat.min_eq_right (show off ≤ L by omega), Nat.min_eq_left (show off ≤ L by omega), List.take_of_length_le (show cells.length ≤ L - off by omega)]
/-- An element written whole. -/
theorem ev_setF (E : El P F e bytes z) (W : World) (hgd : o.guard = none) (x y : Operand) (ho : o.op = .store e x y) (g cap : Nat) (xs : List α) (i off : Nat) (v : α) (hoff : off = i * F.n) (hi : i < xs.length) (hx : a.eval x = .pointer (some ⟨g, off, none⟩)) (hy : a.eval y = .agg (F.cells v).toArray)
    (HO : OwnC F e W g cap xs)
    (hK : ∀ w', OwnC F e w' g cap (xs.set i v) → W.grownBy w' (some g) → wpList P ops Q rest (a.put o.dst undef) w') : wpList P ops Q (o :: rest) a W := by
  subst hoff
  obtain ⟨ti, hti, h3, h4, h5⟩ := info_parts E.info
  rcases HO.2 with ⟨h', _⟩ | ⟨g', cap', cur, hv, hbg, hb, hnc, hcm, hcs, htake⟩
  · cases h'
  · injection hv with hg1 _ hc1
    injection hg1 with hg1
    injection hg1 with hg1
    subst hg1
    subst hc1
    have hfit : i * F.n + F.n ≤ xs.length * F.n := by rw [← Nat.succ_mul]; exact Nat.mul_le_mul_right _ hi
    have hfit2 : xs.length * F.n ≤ cur.size := by rw [hcs]; exact Nat.mul_le_mul_right _ hnc
    have hrun := run_storeCells_at (P := P) g (i * F.n) e (F.cells v) 0 cur W hb (by rw [F.len]; omega) (E.one v)
    refine wpList_plain hgd fun K hK' => ?_
    have hsv : (storeVar e ⟨g, i * F.n, none⟩ (.agg (F.cells v).toArray)).run P W = .ok () (W.setRow g (cur.toList.take (i * F.n + 0) ++ F.cells v ++ cur.toList.drop (i * F.n + 0 + (F.cells v).length)).toArray) := by
      simp [storeVar, sizeOf, typeInfo, hti, Value.cells, F.len, h4]
      simpa [F.len] using hrun
    unfold Oper.wp execOp
    simp only [ho, hx, hy, Instr.storeAt, Instr.sureAddr, Sem.run_bind, Sem.run_pure, Result.andThen_ok, hsv]
    refine hK' _ _ (hK _ ?_ ⟨rfl, rfl, rfl, by simp, fun k _ hk => setRow_other W g k _ (fun e => hk (by simp [e]))⟩)
    refine ⟨by rw [flatMap_cells_length], .inr ⟨g, cap, _, by simp, Nat.zero_le _, setRow_heap W g cur _ e (0, 0) hb, by simpa using hnc, hcm, ?_, ?_⟩⟩
    · simp [F.len]; omega
    · rw [List.length_set, flatMap_set F v xs i hi, ← htake]
      simpa [F.len] using seg_take cur.toList (F.cells v) (i * F.n) (xs.length * F.n) (by rw [F.len]; exact hfit) (by simpa using hfit2)
/-- make([]T, n) -/
theorem ev_makeN (E : El P F e bytes z) (hn0 : 0 < F.n) (w : World) (hg : o.guard = none) (l c : Operand) (t : TypeId) (hop : o.op = Op.makeSlice t l c) (ht : P.underlying t = some (.slice e))
    (kl kc : IntKind) (L C : Int) (n : Nat) (hl : a.eval l = .int kl L) (hc : a.eval c = .int kc C) (hL : L = (n : Int)) (hC : C = (n : Int)) (hb : bytes * n ≤ 281474976710656) (hn : n ≤ 9223372036854775807)
    (hK : ∀ w', OwnC F e w' w.heap.size n (List.replicate n z) → Below w.heap.size w w' → wpList P ops Q rest (a.put o.dst (.slice (some ⟨w.heap.size, 0, none⟩) n n)) w') : wpList P ops Q (o :: rest) a w := by
  obtain ⟨i, hi, h3, h4, h5⟩ := info_parts E.info
  refine wpList_make_full w hg l c t hop w.heap.size e i _ F.n ht hi h3 h4 kl kc L C n hl hc hL hC (by rw [h5]; exact hb) (by simpa [maxLen] using hn) (Nat.le_refl _) fun w' hown hgr => ?_
  refine hK w' ?_ ⟨hgr.os, hgr.tape, hgr.output, hgr.size, fun k hk => hgr.block k hk (by simp)⟩
  have e1 : (madeCells (Value.agg (F.cells z).toArray).cells (n * F.n)).toList = (List.replicate n z).flatMap F.cells := by
    apply List.ext_getElem?
    intro j
    rcases Nat.lt_or_ge j (n * F.n) with hj | hj
    · have hi2 : j / F.n < n := Nat.div_lt_of_lt_mul (by rw [Nat.mul_comm]; exact hj)
      have hm : j % F.n < F.n := Nat.mod_lt _ hn0
      have hd : j / F.n * F.n + j % F.n = j := by rw [Nat.mul_comm]; exact Nat.div_add_mod j F.n
      have hl2 : j % F.n < (F.cells z).length := by rw [F.len]; exact hm
      have h2 := flatMap_cells_at F (List.replicate n z) (j / F.n) (by simpa using hi2) (j % F.n) (F.cells z)[j % F.n] (by simp)
      rw [hd] at h2
      rw [h2]
      simp [madeCells, Value.cells, hj, F.len, hm]
    · rw [List.getElem?_eq_none (by simp [madeCells]; exact hj), List.getElem?_eq_none (by rw [flatMap_cells_length]; simpa using hj)]
  rw [e1] at hown
  unfold OwnC
  rw [List.length_replicate]
  rcases hown.2 with ⟨h', _⟩ | ⟨g', cap', cur, hv, _, r⟩
  · cases h'
  · exact ⟨hown.1, .inr ⟨g', cap', cur, hv, Nat.zero_le _, r⟩⟩
end
theorem El.op : El Tryd.prog opF 23 40 ⟨0, 0, 0, 0, 0⟩ := ⟨by kernel_rfl, fun x u hu => by
  simp only [opF, List.mem_cons, List.not_mem_nil, or_false] at hu
  rcases hu with rfl | rfl | rfl | rfl | rfl <;> rfl⟩
end Go.Proofs.YtkicbnkacjnhoaaDoor
