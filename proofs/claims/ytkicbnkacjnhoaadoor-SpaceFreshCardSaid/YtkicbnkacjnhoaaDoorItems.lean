/- Own memory as a list of items; append that also tells how the old slice reads; slices as elements. -/
import Derived.Test.YtkicbnkacjnhoaaDoorOwnO
import Derived.Test.YtkicbnkacjnhoaaDoorSpAll
namespace Go.Proofs.YtkicbnkacjnhoaaDoor
open Go.RowKit
set_option linter.unusedVariables false
set_option linter.unusedSimpArgs false

/-- What is asked of an element's type, its zero value whatever it is. -/
structure ElZ {α : Type} (P : Program) (F : Flat α) (e : TypeId) (bytes : Nat) (zv : Value) : Prop where
  info : (P.info? e).map (fun i => (i.zero, i.size, i.bytes)) = some (some zv, F.n, bytes)
  zc : zv.cells.size = F.n
  one : ∀ x, ∀ u ∈ F.cells x, u.oneCell' = true
theorem El.z' {α : Type} {P : Program} {F : Flat α} {e : TypeId} {bytes : Nat} {z : α} (E : El P F e bytes z) : ElZ P F e bytes (.agg (F.cells z).toArray) := ⟨E.info, by simp [Value.cells, F.len], E.one⟩
theorem flat_oneZ {α : Type} {P : Program} {F : Flat α} {e : TypeId} {bytes : Nat} {zv : Value} (E : ElZ P F e bytes zv) (ys : List α) : ∀ u ∈ ys.flatMap F.cells, u.oneCell' = true := fun u hu => by
  obtain ⟨x, _, hx⟩ := List.mem_flatMap.1 hu
  exact E.one x u hx
theorem Rd.foreZ {α : Type} {F : Flat α} {W : World} {A : Option Addr} {xs ys : List α} (h : Rd F W A (xs ++ ys)) : Rd F W A xs :=
  ⟨fun i hi => by
    obtain ⟨b, off, e, hc⟩ := h.at_ i (by simp; omega)
    refine ⟨b, off, e, fun j u hu => hc j u ?_⟩
    rw [List.getElem_append_left hi]
    exact hu⟩
section
variable {P : Program} {α : Type} {F : Flat α} {e : TypeId} {bytes : Nat} {zv : Value}
theorem run_appZ (E : ElZ P F e bytes zv) (hn0 : 0 < F.n) (hb0 : 0 < bytes) (W : World) (t ty : TypeId) (ht : P.underlying t = some (.slice e)) (A : Option Addr) (cap : Nat) (xs ys : List α) (ad : Addr) (c : Nat)
    (HO : OwnO F W A cap xs) (HR : Rd F W (some ad) ys) (hy0 : 0 < ys.length) (hb : (xs.length + ys.length) * bytes ≤ 140737488355328) :
    ∃ A' cap' w', (Builtin.append_ #[t, t] ty #[.slice A xs.length cap, .slice (some ad) ys.length c]).run P W = .ok (.slice A' (xs.length + ys.length) cap') w' ∧ OwnO F w' A' cap' (xs ++ ys) ∧ Rd F w' A xs ∧ But (own A) W w' ∧ (A' = A ∨ ∀ b ∈ own A', W.heap.size ≤ b) := by
  obtain ⟨i, hi, h3, h4, h5⟩ := info_parts E.info
  have hlen : xs.length + ys.length ≤ 140737488355328 := Nat.le_trans (Nat.le_mul_of_pos_right _ hb0) hb
  have hml : xs.length + ys.length ≤ maxLen := by simp only [maxLen]; omega
  have hzc := E.zc
  rcases HO with ⟨rfl, rfl, rfl⟩ | ⟨g, off, rfl, hg, hle, hr, hth⟩
  · obtain ⟨v', w', hrun, r1, r2, _⟩ := run_append_own (P := P) W W.heap.size t ty e i _ F.n bytes ht hi h3 h4 h5 hzc hn0 (.slice none 0 0) 0 [] (World.ownsRow_nil W _ e F.n) ad ys.length c (ys.flatMap F.cells) (flatMap_cells_length F ys) HR.news (flat_oneZ E ys) (by simpa using hml) (by simpa using hb) (Nat.le_refl _)
    simp only [Nat.zero_add, List.nil_append] at r1
    obtain ⟨A', cap', rfl, hO, hge⟩ := OwnO.ofRow r1 rfl
    exact ⟨A', cap', w', by simpa using hrun, by simpa using hO, Rd.nil _ _ _, But.ofGrown r2 (fun k h => by cases h), .inr hge⟩
  · by_cases hroom : xs.length + ys.length ≤ cap
    · have hfit : (xs.length + ys.length) * F.n ≤ cap * F.n := Nat.mul_le_mul_right _ hroom
      rw [Nat.add_mul] at hfit
      have hl := flatMap_cells_length F ys
      have hlx := flatMap_cells_length F xs
      have hrun := run_append_room_cells (P := P) W t ty e i ht hi g off xs.length cap ad ys.length c (ys.flatMap F.cells) (by rw [hl, h4]) HR.news (flat_oneZ E ys) hroom
        (fun j hj => by rw [h4, Nat.add_assoc]; exact (hth (xs.length * F.n + j) (by omega)).1) (fun j hj => by rw [h4, Nat.add_assoc]; exact (hth (xs.length * F.n + j) (by omega)).2)
      rw [h4] at hrun
      have hgr := grown_setCells g (ys.flatMap F.cells) (off + xs.length * F.n) W
      have hO2 : OwnO F (W.setCells g (off + xs.length * F.n) (ys.flatMap F.cells)) (some ⟨g, off, none⟩) cap (xs ++ ys) := .inr ⟨g, off, rfl, Nat.lt_of_lt_of_le hg hgr.size, by simpa using hroom, (fun j u hu => by
        rw [List.flatMap_append] at hu
        rcases Nat.lt_or_ge j (xs.flatMap F.cells).length with hj | hj
        · rw [List.getElem?_append_left hj] at hu
          exact World.rangeAt_setCells_apart hr g (off + xs.length * F.n) (ys.flatMap F.cells) (.inr (.inl (by omega))) j u hu
        · rw [List.getElem?_append_right hj] at hu
          have h1 := World.rangeAt_setCells_same W g (off + xs.length * F.n) (ys.flatMap F.cells) (fun k hk => by rw [Nat.add_assoc]; exact hth (xs.length * F.n + k) (by omega)) _ u hu
          rwa [show off + xs.length * F.n + (j - (xs.flatMap F.cells).length) = off + j by omega] at h1
        ), World.there_setCells hth _ _ _⟩
      refine ⟨some ⟨g, off, none⟩, cap, _, hrun, hO2, hO2.rd.foreZ, But.ofGrown hgr (fun k h => .inl (by obtain rfl := Option.some.inj h; simp [own])), .inl rfl⟩
    · obtain ⟨v', w', hrun, r1, r2⟩ := run_append_arg_grows (P := P) W t ty e i _ F.n bytes ht hi h3 h4 h5 hzc hn0 ⟨g, off, none⟩ xs.length cap (xs.flatMap F.cells) (flatMap_cells_length F xs) (fun j u hu => by rw [Addr.add_mid]; exact hr j u hu) ad ys.length c (ys.flatMap F.cells) (flatMap_cells_length F ys) HR.news (by omega) hml hb
      rw [← List.flatMap_append] at r1
      obtain ⟨A', cap', rfl, hO, hge⟩ := OwnO.ofRow r1 (by simp)
      exact ⟨A', cap', w', by simpa using hrun, hO, (OwnO.rd (.inr ⟨g, off, rfl, hg, hle, hr, hth⟩)).but (bs := []) (But.ofGrown r2 (fun k h => by cases h)) (by simp), But.ofGrown r2 (fun k h => by cases h), .inr hge⟩
/-- append at a step of a region that draws. -/
theorem step_appZ {ops : Array Oper} {o : Oper} {a : Act} {K : Act → World → Prop} {Q : Exit → Act → World → Prop} {Z : Prop} (E : ElZ P F e bytes zv) (hn0 : 0 < F.n) (hb0 : 0 < bytes) (W : World) (hgd : o.guard = none) (s y : Operand) (t : TypeId) (ho : o.op = Op.call { callee := Callee.builtin Builtin.append, args := #[s, y], argTypes := #[t, t] }) (ht : P.underlying t = some (.slice e))
    (A : Option Addr) (cap : Nat) (xs ys : List α) (ad : Addr) (n m c : Nat) (hn : n = xs.length) (hs : a.eval s = .slice A n cap) (hy : a.eval y = .slice (some ad) m c) (hm : m = ys.length) (HO : OwnO F W A cap xs) (HR : Rd F W (some ad) ys) (hy0 : 0 < ys.length) (hb : (xs.length + ys.length) * bytes ≤ 140737488355328)
    (hK : ∀ A' cap' w', OwnO F w' A' cap' (xs ++ ys) → Rd F w' A xs → But (own A) W w' → (A' = A ∨ ∀ b ∈ own A', W.heap.size ≤ b) → K (a.put o.dst (.slice A' (n + m) cap')) w') : if Region.wanted o (yielded ops a.tmps) = true then Oper.wp P o a W K Q else Z := by
  have hw : Region.wanted o (yielded ops a.tmps) = true := by simp [Region.wanted, hgd]
  rw [if_pos hw]
  subst hm
  subst hn
  obtain ⟨A', cap', w', hr, h1, h0, h2, h3⟩ := run_appZ E hn0 hb0 W t o.type ht A cap xs ys ad c HO HR hy0 hb
  unfold Oper.wp execOp
  simp only [ho, resolve, invoke, builtin, Sem.run_bind, Sem.run_pure, Result.andThen_ok, List.map_toArray, List.map_cons, List.map_nil, hs, hy, hr]
  exact hK A' cap' w' h1 h0 h2 h3
/-- append in a plain list. -/
theorem ev_appZ {ops : Array Oper} {rest : List Oper} {o : Oper} {a : Act} {Q : Exit → Act → World → Prop} (E : ElZ P F e bytes zv) (hn0 : 0 < F.n) (hb0 : 0 < bytes) (W : World) (hgd : o.guard = none) (s y : Operand) (t : TypeId) (ho : o.op = Op.call { callee := Callee.builtin Builtin.append, args := #[s, y], argTypes := #[t, t] }) (ht : P.underlying t = some (.slice e))
    (A : Option Addr) (cap : Nat) (xs ys : List α) (ad : Addr) (n m c : Nat) (hn : n = xs.length) (hs : a.eval s = .slice A n cap) (hy : a.eval y = .slice (some ad) m c) (hm : m = ys.length) (HO : OwnO F W A cap xs) (HR : Rd F W (some ad) ys) (hy0 : 0 < ys.length) (hb : (xs.length + ys.length) * bytes ≤ 140737488355328)
    (hK : ∀ A' cap' w', OwnO F w' A' cap' (xs ++ ys) → Rd F w' A xs → But (own A) W w' → (A' = A ∨ ∀ b ∈ own A', W.heap.size ≤ b) → wpList P ops Q rest (a.put o.dst (.slice A' (n + m) cap')) w') : wpList P ops Q (o :: rest) a W := by
  subst hm
  subst hn
  obtain ⟨A', cap', w', hr, h1, h0, h2, h3⟩ := run_appZ E hn0 hb0 W t o.type ht A cap xs ys ad c HO HR hy0 hb
  refine wpList_plain hgd fun K hK' => ?_
  unfold Oper.wp execOp
  simp only [ho, resolve, invoke, builtin, Sem.run_bind, Sem.run_pure, Result.andThen_ok, List.map_toArray, List.map_cons, List.map_nil, hs, hy, hr]
  exact hK' _ _ (hK A' cap' w' h1 h0 h2 h3)
end

/-- A slice as an element: one cell. -/
structure Sl where
  A : Option Addr
  n : Nat
  c : Nat
def slF : Flat Sl := ⟨1, fun s => [.slice s.A s.n s.c], fun _ => rfl⟩

/-- A part of memory that the walk holds: its blocks, what is said of them. -/
structure Item where
  foot : List Nat
  ok : World → Prop
  stab : ∀ {bs : List Nat} {w w1 : World}, ok w → But bs w w1 → (∀ b ∈ foot, b ∉ bs) → ok w1
structure HoldI (w0 W : World) (its : List Item) : Prop where
  rules : RulesAt w0
  below : Below w0.heap.size w0 W
  ok : ∀ it ∈ its, it.ok W
  lt : ∀ it ∈ its, ∀ b ∈ it.foot, w0.heap.size ≤ b ∧ b < W.heap.size
  dis : its.Pairwise fun a b => ∀ g ∈ a.foot, g ∉ b.foot
section
variable {w0 W W' : World} {its : List Item}
theorem HoldI.start (w : World) (hr : RulesAt w) : HoldI w w [] := ⟨hr, Below.refl _ _, by simp, by simp, .nil⟩
theorem HoldI.rulesW (h : HoldI w0 W its) : RulesAt W := h.rules.on h.below
theorem HoldI.on (h : HoldI w0 W its) (hb : Below W.heap.size W W') : HoldI w0 W' its :=
  ⟨h.rules, h.below.trans (hb.mono h.below.size), fun it hi => it.stab (h.ok it hi) (bs := []) (But.ofBelow hb) (by simp), fun it hi b hb2 => ⟨(h.lt it hi b hb2).1, Nat.lt_of_lt_of_le (h.lt it hi b hb2).2 hb.size⟩, h.dis⟩
theorem HoldI.drewN (h : HoldI w0 W its) (k : Nat) : HoldI w0 (W.drewN k) its := h.on (below_drewN (Below.refl _ _) k)
theorem HoldI.alloc (h : HoldI w0 W its) (o : Obj) : HoldI w0 (W.alloc o) its := h.on (below_alloc (Below.refl _ _) o)
theorem HoldI.get (h : HoldI w0 W its) (i : Nat) {it : Item} (hi : its[i]? = some it) : it.ok W := h.ok _ (List.mem_of_getElem? hi)
theorem HoldI.add (h : HoldI w0 W its) (hb : Below W.heap.size W W') (it : Item) (ho : it.ok W') (hl : ∀ b ∈ it.foot, W.heap.size ≤ b ∧ b < W'.heap.size) : HoldI w0 W' (its ++ [it]) := by
  have H := h.on hb
  refine ⟨H.rules, H.below, fun e he => ?_, fun e he => ?_, List.pairwise_append.2 ⟨H.dis, List.pairwise_singleton _ _, fun a ha b hb2 g hg hg2 => ?_⟩⟩
  · rcases List.mem_append.1 he with he | he
    · exact H.ok e he
    · obtain rfl := List.mem_singleton.1 he
      exact ho
  · rcases List.mem_append.1 he with he | he
    · exact H.lt e he
    · obtain rfl := List.mem_singleton.1 he
      exact fun b hb2 => ⟨Nat.le_trans h.below.size (hl b hb2).1, (hl b hb2).2⟩
  · obtain rfl := List.mem_singleton.1 hb2
    have h1 := (h.lt a ha g hg).2
    have h2 := (hl g hg2).1
    omega
theorem pairwise_setI {α : Type} {R : α → α → Prop} (hs : ∀ a b, R a b → R b a) {l : List α} (h : l.Pairwise R) {i : Nat} {x y : α} (hi : l[i]? = some x) (hy : ∀ z ∈ l, R x z → R y z) : (l.set i y).Pairwise R := by
  obtain ⟨hlt, hx⟩ := List.getElem?_eq_some_iff.1 hi
  rw [List.pairwise_iff_getElem] at h ⊢
  intro a b ha hb hab
  simp only [List.length_set] at ha hb
  rw [List.getElem_set, List.getElem_set]
  by_cases h1 : i = a
  · subst h1
    rw [if_pos rfl, if_neg (by omega)]
    exact hy _ (List.getElem_mem _) (hx ▸ h _ _ ha hb hab)
  · rw [if_neg h1]
    by_cases h2 : i = b
    · subst h2
      rw [if_pos rfl]
      exact hs _ _ (hy _ (List.getElem_mem _) (hs _ _ (hx ▸ h _ _ ha hb hab)))
    · rw [if_neg h2]
      exact h _ _ ha hb hab
/-- A call changed item i alone. -/
theorem HoldI.change (h : HoldI w0 W its) (i : Nat) {it : Item} (hi : its[i]? = some it) {bs : List Nat} (hb : But bs W W') (hbs : ∀ b ∈ bs, b ∈ it.foot) (it' : Item) (ho : it'.ok W') (hl : ∀ b ∈ it'.foot, b ∈ it.foot ∨ (W.heap.size ≤ b ∧ b < W'.heap.size)) : HoldI w0 W' (its.set i it') := by
  have hm := List.mem_of_getElem? hi
  have hsym : ∀ a b : Item, (∀ g ∈ a.foot, g ∉ b.foot) → ∀ g ∈ b.foot, g ∉ a.foot := fun a b hab g h1 h2 => hab g h2 h1
  have hdis : ∀ (j : Nat) (e : Item), its[j]? = some e → j ≠ i → ∀ g ∈ it.foot, g ∉ e.foot := fun j e hj hne => by
    obtain ⟨l1, e1⟩ := List.getElem?_eq_some_iff.1 hj
    obtain ⟨l2, e2⟩ := List.getElem?_eq_some_iff.1 hi
    have hp := List.pairwise_iff_getElem.1 h.dis
    rcases Nat.lt_or_gt_of_ne hne with hlt | hlt
    · have := hp j i l1 l2 hlt
      rw [e1, e2] at this
      exact hsym _ _ this
    · have := hp i j l2 l1 hlt
      rw [e1, e2] at this
      exact this
  have hlow : ∀ b ∈ it'.foot, w0.heap.size ≤ b ∧ b < W'.heap.size := fun b hb2 => by
    rcases hl b hb2 with h1 | h1
    · exact ⟨(h.lt it hm b h1).1, Nat.lt_of_lt_of_le (h.lt it hm b h1).2 hb.size⟩
    · exact ⟨Nat.le_trans h.below.size h1.1, h1.2⟩
  refine ⟨h.rules, hb.below h.below h.below.size (fun b hb2 => (h.lt it hm b (hbs b hb2)).1), fun e he => ?_, fun e he => ?_, ?_⟩
  · obtain ⟨j, hj, rfl⟩ := List.getElem_of_mem he
    rw [List.getElem_set]
    split
    · exact ho
    · rename_i hne
      have hj' : j < its.length := by simpa using hj
      exact (its[j]).stab (h.ok _ (List.getElem_mem hj')) hb (fun b hb2 hb3 => hdis j its[j] (List.getElem?_eq_getElem hj') (fun h => hne h.symm) b (hbs b hb3) hb2)
  · rcases List.mem_or_eq_of_mem_set he with he | rfl
    · exact fun b hb2 => ⟨(h.lt e he b hb2).1, Nat.lt_of_lt_of_le (h.lt e he b hb2).2 hb.size⟩
    · exact hlow
  · refine pairwise_setI hsym h.dis hi fun z hz hR g hg2 hg3 => ?_
    rcases hl g hg2 with h1 | h1
    · exact hR g h1 hg3
    · have := (h.lt z hz g hg3).2
      omega
end
end Go.Proofs.YtkicbnkacjnhoaaDoor
