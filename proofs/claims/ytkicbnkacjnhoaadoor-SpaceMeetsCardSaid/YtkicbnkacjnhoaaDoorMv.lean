/- What stands through every act of two sides: the invariant of the queues, that whatever is under way is Valid, and how great all may be. -/
import Derived.Test.YtkicbnkacjnhoaaDoorTakes
namespace Go.Proofs.YtkicbnkacjnhoaaDoor
open Go.RowKit
set_option linter.unusedVariables false
set_option linter.unusedSimpArgs false

/-- An operation's form, but for its place. -/
def Form (o : POp) : Prop := ((o.k = 0 ∧ o.c = 0) ∨ (o.k = 1 ∧ 32 ≤ o.c ∧ o.c ≤ 126) ∨ (o.k = 2 ∧ o.c = 0)) ∧ 1 ≤ o.l ∧ o.l ≤ 64 ∧ 1 ≤ o.s ∧ o.s ≤ 64
theorem Form.ofValid {o : POp} (h : validL o = 0) : Form o := by
  unfold validL at h
  split at h
  · split at h
    · split at h
      · rename_i h1 h2 h3
        refine ⟨?_, h2⟩
        rcases h3 with h3 | h3
        · exact .inr (.inl h3)
        · by_cases h0 : o.k = 0
          · exact .inl ⟨h0, h3.2⟩
          · exact .inr (.inr ⟨by omega, h3.2⟩)
      · cases h
    · cases h
  · cases h
theorem Form.c {o : POp} (h : Form o) : 0 ≤ o.c ∧ o.c ≤ 255 := by
  rcases h.1 with h1 | h1 | h1 <;> omega
theorem Form.valid {o : POp} (h : Form o) {x e : List PEl} (hp : putL x o = some e) (hx : x.length ≤ 4095) : validL o = 0 := by
  obtain ⟨hk, hl⟩ := h
  rcases putL_cases hp with ⟨h0, h1, h2, _⟩ | ⟨h0, n, h1, h2, _⟩ | ⟨h0, n, h1, h2, _⟩
  · exact validL_mk (by omega) (by omega) (.inr (by omega)) (by rw [if_pos h0]; omega)
  · exact validL_mk (by omega) (by omega) (.inl (by omega)) (by rw [if_neg (by omega)]; omega)
  · exact validL_mk (by omega) (by omega) (.inr (by omega)) (by rw [if_neg (by omega)]; omega)
theorem shift_form {a b : POp} {f : Bool} (h : Form a) : Form (shift a b f) := by
  obtain ⟨hk, hl⟩ := h
  unfold shift
  repeat' split
  all_goals first
    | exact ⟨hk, hl⟩
    | exact ⟨.inl ⟨rfl, rfl⟩, hl⟩
theorem past_form (f : Bool) : ∀ (line : List POp) (op : POp), Form op → Form (pastL op line f).1
  | [], op, h => h
  | l :: r, op, h => by
    simp only [pastL]
    exact past_form f r _ (shift_form h)
@[reducible] def pside (s : PSd) : PSide := ⟨s.x, s.q, s.made, s.took, s.way⟩
structure MV (f : Bool) (s t : PSd) (k : Nat) : Prop where
  meet : Meet f (pside s) (pside t)
  l1 : s.last = s.made
  l2 : t.last = t.made
  m1 : 0 ≤ s.made ∧ s.made ≤ k
  m2 : 0 ≤ t.made ∧ t.made ≤ k
  x1 : s.x.length + t.way.length ≤ 39 + k
  x2 : t.x.length + s.way.length ≤ 39 + k
  q1 : s.q.length ≤ k
  q2 : t.q.length ≤ k
  w1 : s.way.length ≤ k
  w2 : t.way.length ≤ k
  g1 : s.gone.length ≤ k
  g2 : t.gone.length ≤ k
  b1 : 0 ≤ s.base ∧ s.base ≤ 60
  b2 : 0 ≤ t.base ∧ t.base ≤ 60
  v1 : ∀ v ∈ s.way, validL v.o = 0
  v2 : ∀ v ∈ t.way, validL v.o = 0
theorem MV.symm {f : Bool} {s t : PSd} {k : Nat} (h : MV f s t k) : MV (!f) t s k :=
  ⟨h.meet.symm, h.l2, h.l1, h.m2, h.m1, h.x2, h.x1, h.q2, h.q1, h.w2, h.w1, h.g2, h.g1, h.b2, h.b1, h.v2, h.v1⟩
theorem MV.start (x : List PEl) (hx : x.length ≤ 39) : MV true (sd0 x 0) (sd0 x 32) 0 :=
  ⟨Meet.start true x, rfl, rfl, by simp [sd0], by simp [sd0], by simp [sd0]; omega, by simp [sd0]; omega, by simp [sd0], by simp [sd0], by simp [sd0], by simp [sd0], by simp [sd0], by simp [sd0], by simp [sd0], by simp [sd0], by simp [sd0], by simp [sd0]⟩
theorem MV.up {f : Bool} {s t : PSd} {k : Nat} (h : MV f s t k) : MV f s t (k + 1) :=
  ⟨h.meet, h.l1, h.l2, by have := h.m1; omega, by have := h.m2; omega, by have := h.x1; omega, by have := h.x2; omega, by have := h.q1; omega, by have := h.q2; omega, by have := h.w1; omega, by have := h.w2; omega, by have := h.g1; omega, by have := h.g2; omega, h.b1, h.b2, h.v1, h.v2⟩
theorem goneOf_le (x : List PEl) (a : PAct) : (goneOf x a).length ≤ 1 := by
  unfold goneOf
  split
  · simp
  · split
    · cases x[(a.n % (x.length : Int)).toNat]? <;> simp
    · simp
theorem MV.make {f : Bool} {s t : PSd} {k : Nat} (h : MV f s t k) {o : POp} {e gone : List PEl} (he : putL s.x o = some e) (hv : validL o = 0) (hg : gone.length ≤ s.gone.length + 1) :
    MV f ⟨e, s.q ++ [⟨s.made + 1, o⟩], s.made + 1, s.made + 1, s.took, s.way ++ [⟨s.made + 1, s.took, o⟩], s.base, gone⟩ t (k + 1) := by
  have hl := putL_length he
  refine ⟨h.meet.makes he, rfl, h.l2, by have := h.m1; simp only; omega, by have := h.m2; omega, by have := h.x1; simp only; omega, by have := h.x2; simp; omega, by have := h.q1; simp; omega, by have := h.q2; omega, by have := h.w1; simp; omega, by have := h.w2; omega, by have := h.g1; simp only; omega, by have := h.g2; omega, h.b1, h.b2, fun v hv' => ?_, h.v2⟩
  rcases List.mem_append.1 hv' with h1 | h1
  · exact h.v1 v h1
  · rw [List.mem_singleton.1 h1]; exact hv
theorem dropQ_length (m : Int) : ∀ q : List PMk, (dropQ m q).length ≤ q.length
  | [] => Nat.le_refl _
  | x :: q => by
    simp only [dropQ]
    split
    · exact Nat.le_succ_of_le (dropQ_length m q)
    · exact Nat.le_refl _
theorem MV.take {f : Bool} {s t : PSd} {k : Nat} (h : MV f s t k) {v : PPar} {r : List PPar} (hv : t.way = v :: r) (hk : k ≤ 1000) :
    ∃ e, putL s.x (pastL v.o (opsQ (dropQ v.t s.q)) f).1 = some e ∧ validL v.o = 0 ∧ validL (pastL v.o (opsQ (dropQ v.t s.q)) f).1 = 0 ∧ (0 ≤ v.o.c ∧ v.o.c ≤ 255) ∧ (0 ≤ (pastL v.o (opsQ (dropQ v.t s.q)) f).1.c ∧ (pastL v.o (opsQ (dropQ v.t s.q)) f).1.c ≤ 255) ∧
      MV f { s with x := e, q := crossQ f (dropQ v.t s.q) v.o, took := v.m } { t with way := r } k := by
  have hx := h.x1
  have hq := h.q1
  obtain ⟨e, he, hm⟩ := h.meet.takes (v := v) (r := r) hv (by show s.x.length + s.q.length + s.q.length + 3 < _; omega)
  have hw : validL v.o = 0 := h.v2 v (by rw [hv]; simp)
  have hf := past_form f (opsQ (dropQ v.t s.q)) v.o (Form.ofValid hw)
  have hl : e.length ≤ s.x.length + 1 := putL_length he
  have hwl : t.way.length = r.length + 1 := by rw [hv]; rfl
  have hdq := dropQ_length v.t s.q
  refine ⟨e, he, hw, hf.valid he (show s.x.length ≤ 4095 by omega), (Form.ofValid hw).c, hf.c, ⟨hm, h.l1, h.l2, h.m1, h.m2, ?_, ?_, ?_, h.q2, h.w1, ?_, h.g1, h.g2, h.b1, h.b2, h.v1, fun u hu => h.v2 u (by rw [hv]; exact List.mem_cons_of_mem _ hu)⟩⟩
  · simp only; omega
  · exact h.x2
  · simp only [crossQ_length]; omega
  · have := h.w2; simp only; omega
end Go.Proofs.YtkicbnkacjnhoaaDoor
