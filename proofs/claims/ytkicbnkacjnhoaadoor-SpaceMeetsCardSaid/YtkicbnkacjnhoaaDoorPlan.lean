/- A region that draws its order, walked in an order of one's own: what yields in every grown world goes first; then what only makes memory, in one forced order; then the rest, in one forced order. -/
import Derived.Test.YtkicbnkacjnhoaaDoorSp
namespace Go.Proofs.YtkicbnkacjnhoaaDoor
open Go.RowKit
set_option linter.unusedVariables false
set_option linter.unusedSimpArgs false

section
variable {P : Program} {ops : Array Oper} {Q : Exit → Act → World → Prop}

/-- o reads the same in both frames. -/
def SameAs (ops : Array Oper) (o : Oper) (a a' : Act) : Prop := execOp a'.eval o = execOp a.eval o ∧ Region.wanted o (yielded ops a'.tmps) = Region.wanted o (yielded ops a.tmps)
/-- o yields v in the world w and leaves it. -/
def YieldsS (P : Program) (ops : Array Oper) (w : World) (o : Oper) (v : Value) (a : Act) : Prop :=
  (Region.wanted o (yielded ops a.tmps) = true ∧ ((execOp a.eval o).run P w = .ok (.value v) w ∨ ∃ f args, (execOp a.eval o).run P w = .ok (.enter f args) w ∧ Calls P f args w (fun e w' => e = .returned v ∧ w' = w))) ∨
  (Region.wanted o (yielded ops a.tmps) = false ∧ v = undef)
theorem YieldsS.same {w : World} {o : Oper} {v : Value} {a a' : Act} (h : YieldsS P ops w o v a) (hs : SameAs ops o a a') : YieldsS P ops w o v a' := by
  obtain ⟨h1, h2⟩ := hs
  unfold YieldsS at *
  rw [h1, h2]
  exact h
theorem YieldsS.op {w : World} {i : Nat} {o : Oper} {v : Value} {a : Act} (h : YieldsS P ops w o v a) (hi : ops[i]? = some o) {K : Act → World → Prop} (hK : K (a.put o.dst v) w) : wpOp P ops Q i K a w := by
  unfold wpOp
  simp only [hi]
  rcases h with ⟨hw, h1 | ⟨f, args, h1, h2⟩⟩ | ⟨hw, rfl⟩
  · rw [if_pos hw]
    refine .inl ?_
    unfold Oper.wp
    rw [h1]
    exact hK
  · rw [if_pos hw]
    refine .inl ?_
    unfold Oper.wp
    rw [h1]
    refine h2.mono fun e w' ⟨he, hw'⟩ => ?_
    subst he hw'
    exact hK
  · rw [if_neg (by rw [hw]; simp)]
    exact hK

/-- An operation that is apart from o runs alike whether o's value is laid already or not. -/
theorem wpOp_late {j : Nat} {o oj : Oper} {v : Value} (hj : ops[j]? = some oj) (hap : o.apart ops oj = true) (hso : ∀ cs b, o.op ≠ .select cs b) (hsj : ∀ cs b, oj.op ≠ .select cs b)
    (hQ : ∀ c a w, Q (.panic c) (a.put o.dst v) w → Q (.panic c) a w) {K : Act → World → Prop} {a : Act} {w : World} (h : wpOp P ops Q j K (a.put o.dst v) w) :
    wpOp P ops Q j (fun a' w' => SameAs ops o a a' ∧ K (a'.put o.dst v) w') a w := by
  obtain ⟨p1, p2, p3⟩ := Oper.apart_spec hap
  have same : ∀ u, SameAs ops o a (a.put oj.dst u) := fun u => ⟨execOp_put o hso a oj.dst u p3, wanted_put o a oj.dst u p3⟩
  have hw0 := wanted_put oj a o.dst v p1
  have he0 := execOp_put oj hsj a o.dst v p1
  unfold wpOp at h ⊢
  simp only [hj] at h ⊢
  rw [hw0] at h
  by_cases hw : Region.wanted oj (yielded ops a.tmps) = true
  · rw [if_pos hw] at h ⊢
    rcases h with h | ⟨h1, h2⟩
    · refine .inl ?_
      unfold Oper.wp at h ⊢
      rw [he0] at h
      cases hr : (execOp a.eval oj).run P w with
      | halt x w' =>
        rw [hr] at h
        cases x <;> simp only [Oper.upon] at h ⊢
        exact hQ _ _ _ h
      | ok n w' =>
        rw [hr] at h
        cases n <;> simp only [Oper.upon] at h ⊢
        case value u => exact ⟨same u, by rw [← Act.put_comm a v u p2]; exact h⟩
        case skip => exact ⟨same undef, by rw [← Act.put_comm a v undef p2]; exact h⟩
        case defer d =>
          refine ⟨?_, ?_⟩
          · exact ⟨execOp_put o hso { a with defers := d :: a.defers } oj.dst undef p3, wanted_put o { a with defers := d :: a.defers } oj.dst undef p3⟩
          · rw [← Act.put_comm _ v undef p2, ← Act.put_defers]
            exact h
        case enter f args =>
          refine Calls.mono h fun e w'' he => ?_
          cases e with
          | returned u => exact ⟨same u, by rw [← Act.put_comm a v u p2]; exact he⟩
          | panicked c => exact hQ _ _ _ he
          | outgrown => exact he
        case row row args => exact Rows.mono h fun u w'' he => ⟨same u, by rw [← Act.put_comm a v u p2]; exact he⟩
    · refine .inr ⟨?_, h2⟩
      unfold Oper.asks at h1 ⊢
      rw [he0] at h1
      exact h1
  · rw [if_neg hw] at h ⊢
    exact ⟨same undef, by rw [← Act.put_comm a v undef p2]; exact h⟩

/-! ### Which operations wait for which -/
def Region.deps (ops : Array Oper) : Nat → Nat → Nat → Bool
  | 0, _, _ => false
  | n + 1, j, i => match ops[j]? with
    | some oj => oj.after.any fun e => Region.binds .any e && (e.on == i || Region.deps ops n e.on i)
    | none => false
def ShutL (ops : Array Oper) (L : Array Bool) : Prop := ∀ j oj, ops[j]? = some oj → L.getD j false = true → ∀ e ∈ oj.after, Region.binds .any e = true → L.getD e.on false = true
theorem ShutL.set {L : Array Bool} (h : ShutL ops L) {i : Nat} (hi : i ∈ Region.ready .any ops L) : ShutL ops (L.setIfInBounds i true) := fun j oj hj hl e he hb => by
  obtain ⟨_, oi, hoi, hall⟩ := mem_ready.1 hi
  by_cases hij : i = j
  · subst hij
    obtain rfl : oj = oi := Option.some.inj (hj.symm.trans hoi)
    exact getD_set_true (hall e he hb)
  · rw [getD_set_ne false hij] at hl
    exact getD_set_true (h j oj hj hl e he hb)
theorem deps_waits {L : Array Bool} (h : ShutL ops L) {i : Nat} (hi : L.getD i false = false) : ∀ (n j : Nat), Region.deps ops n j i = true → j ∉ Region.ready .any ops L ∧ L.getD j false = false
  | 0, j, hd => by simp [Region.deps] at hd
  | n + 1, j, hd => by
    unfold Region.deps at hd
    split at hd
    · rename_i oj hj
      obtain ⟨e, he, hb⟩ := Array.any_eq_true'.1 hd
      simp only [Bool.and_eq_true, Bool.or_eq_true, beq_iff_eq] at hb
      have hoff : L.getD e.on false = false := by
        rcases hb.2 with h1 | h1
        · rw [h1]; exact hi
        · exact (deps_waits h hi n e.on h1).2
      refine ⟨fun hr => ?_, ?_⟩
      · obtain ⟨_, o', ho', hall⟩ := mem_ready.1 hr
        obtain rfl : o' = oj := Option.some.inj (ho'.symm.trans hj)
        have := hall e he hb.1
        rw [hoff] at this
        cases this
      · cases hl : L.getD j false with
        | false => rfl
        | true =>
          have := h j oj hj hl e he hb.1
          rw [hoff] at this
          cases this
    · cases hd

/-- wpAny, and of each operation it is told what it does to the world. T: those that are taken first; G: those that only make memory. -/
def wpAnyM (P : Program) (ops : Array Oper) (Q : Exit → Act → World → Prop) (T G : List Nat) : Nat → Array Bool → Act → World → Prop
  | 0, L, a, w => Region.ready .any ops L = [] ∧ Q .normal a w
  | f + 1, L, a, w => (Region.ready .any ops L = [] → Q .normal a w) ∧ ∀ i ∈ Region.ready .any ops L,
    if T.contains i = true then ∃ o v, ops[i]? = some o ∧ YieldsS P ops w o v a ∧ wpAnyM P ops Q T G f (L.setIfInBounds i true) (a.put o.dst v) w
    else if G.contains i = true then wpOp P ops Q i (fun a' w' => Below w.heap.size w w' ∧ wpAnyM P ops Q T G f (L.setIfInBounds i true) a' w') a w
    else wpOp P ops Q i (wpAnyM P ops Q T G f (L.setIfInBounds i true)) a w
theorem wpAnyM.any {T G : List Nat} : ∀ (f : Nat) (L : Array Bool) (a : Act) (w : World), wpAnyM P ops Q T G f L a w → wpAny P .any ops Q f L a w
  | 0, L, a, w, h => h
  | f + 1, L, a, w, h => ⟨h.1, fun i hi => by
    have h2 := h.2 i hi
    split at h2
    · obtain ⟨o, v, ho, hy, hn⟩ := h2
      exact hy.op ho (wpAnyM.any f _ _ _ hn)
    · split at h2
      · exact wpOp_mono (fun a' w' hk => wpAnyM.any f _ _ _ hk.2) h2
      · exact wpOp_mono (fun a' w' hk => wpAnyM.any f _ _ _ hk) h2⟩

theorem getD_unl {L : Array Bool} {i : Nat} (h : L.getD i true = false) : L.getD i false = false := by
  rcases Nat.lt_or_ge i L.size with h' | h'
  · simp [h'] at h ⊢; exact h
  · simp [Array.getElem?_eq_none h'] at h
/-- One operation is taken first. -/
theorem wpAnyM_take {T G : List Nat} (z : Bool) {N i : Nat} {o : Oper} {v : Value} (hi : ops[i]? = some o) (hT : T.contains i = true) (hsel : ∀ (j : Nat) (o : Oper) cs b, ops[j]? = some o → o.op ≠ .select cs b)
    (hQ : ∀ c a w, Q (.panic c) (a.put o.dst v) w → Q (.panic c) a w)
    (hdep : z = false → ∀ j oj, ops[j]? = some oj → j ≠ i → T.contains j = false → G.contains j = false → Region.deps ops N j i = true) :
    ∀ (f : Nat) (L : Array Bool) (a : Act) (w : World), ShutL ops L →
      (∀ j oj, ops[j]? = some oj → j ≠ i → L.getD j true = false → (∀ e ∈ oj.after, Region.binds .any e = true → e.on ≠ i) → o.apart ops oj = true) →
      i ∈ Region.ready .any ops L → (∀ w', (z = true ∨ Below w.heap.size w w') → YieldsS P ops w' o v a) →
      wpAnyM P ops Q T G f (L.setIfInBounds i true) (a.put o.dst v) w → wpAnyM P ops Q T G (f + 1) L a w := by
  intro f
  induction f with
  | zero =>
    intro L a w hS hfree hr hy H
    refine ⟨fun h0 => (by rw [h0] at hr; cases hr), fun j hj => ?_⟩
    by_cases hji : j = i
    · subst hji
      rw [if_pos hT]
      exact ⟨o, v, hi, hy w (.inr (Below.refl _ _)), H⟩
    · have := ready_mono hj hji
      rw [H.1] at this
      cases this
  | succ f ih =>
    intro L a w hS hfree hr hy H
    refine ⟨fun h0 => (by rw [h0] at hr; cases hr), fun j hj => ?_⟩
    by_cases hji : j = i
    · subst hji
      rw [if_pos hT]
      exact ⟨o, v, hi, hy w (.inr (Below.refl _ _)), H⟩
    · have hiu := getD_unl (mem_ready.1 hr).1
      obtain ⟨hjun, oj, hoj, hall⟩ := mem_ready.1 hj
      have hnot : ∀ e ∈ oj.after, Region.binds .any e = true → e.on ≠ i := fun e he hb heq => by
        have h1 := hall e he hb
        rw [heq, hiu] at h1
        cases h1
      have hap := hfree j oj hoj hji hjun hnot
      have H2 := H.2 j (ready_mono hj hji)
      have hS' := hS.set hj
      have hr' := ready_mono hr (Ne.symm hji)
      have hfree' : ∀ k ok, ops[k]? = some ok → k ≠ i → (L.setIfInBounds j true).getD k true = false → (∀ e ∈ ok.after, Region.binds .any e = true → e.on ≠ i) → o.apart ops ok = true := fun k ok hk hki hun hno => by
        refine hfree k ok hk hki ?_ hno
        by_cases hjk : j = k
        · subst hjk; exact hjun
        · rw [getD_set_ne true hjk] at hun; exact hun
      by_cases hTj : T.contains j = true
      · rw [if_pos hTj] at H2 ⊢
        obtain ⟨o2, u, ho2, hy2, hn⟩ := H2
        obtain rfl : o2 = oj := Option.some.inj (ho2.symm.trans hoj)
        obtain ⟨p1, p2, p3⟩ := Oper.apart_spec hap
        have hs2 : SameAs ops o2 (a.put o.dst v) a := ⟨(execOp_put o2 (fun cs b => hsel j o2 cs b hoj) a o.dst v p1).symm, (wanted_put o2 a o.dst v p1).symm⟩
        have hsi : SameAs ops o a (a.put o2.dst u) := ⟨execOp_put o (fun cs b => hsel i o cs b hi) a o2.dst u p3, wanted_put o a o2.dst u p3⟩
        refine ⟨o2, u, hoj, hy2.same hs2, ih _ _ _ hS' hfree' hr' (fun w' hb => (hy w' hb).same hsi) ?_⟩
        rw [Array.setIfInBounds_comm _ _ hji, ← Act.put_comm a v u p2]
        exact hn
      · rw [if_neg hTj] at H2 ⊢
        by_cases hGj : G.contains j = true
        · rw [if_pos hGj] at H2 ⊢
          refine wpOp_mono (fun a' w' h3 => ⟨h3.2.1, ?_⟩) (wpOp_late hoj hap (fun cs b => hsel i o cs b hi) (fun cs b => hsel j oj cs b hoj) hQ H2)
          refine ih _ _ _ hS' hfree' hr' (fun w'' hb => (hy w'' (hb.imp id fun hb => h3.2.1.trans (hb.mono h3.2.1.size))).same h3.1) ?_
          rw [Array.setIfInBounds_comm _ _ hji]
          exact h3.2.2
        · cases hz : z with
          | false =>
            have hd := hdep hz j oj hoj hji (by simpa using hTj) (by simpa using hGj)
            exact absurd hj (deps_waits hS hiu N j hd).1
          | true =>
            subst hz
            rw [if_neg hGj] at H2 ⊢
            refine wpOp_mono (fun a' w' h3 => ?_) (wpOp_late hoj hap (fun cs b => hsel i o cs b hi) (fun cs b => hsel j oj cs b hoj) hQ H2)
            refine ih _ _ _ hS' hfree' hr' (fun w'' hb => (hy w'' (.inl rfl)).same h3.1) ?_
            rw [Array.setIfInBounds_comm _ _ hji]
            exact h3.2

/-! ### The plan -/
def Region.forcedB (ops : Array Oper) : List Nat → Array Bool → Bool
  | [], L => (Region.ready .any ops L).isEmpty
  | i :: r, L => decide (Region.ready .any ops L = [i]) && Region.forcedB ops r (L.setIfInBounds i true)
def Region.takesB (ops : Array Oper) (Z T G F : List Nat) (N : Nat) : List Nat → Array Bool → Bool
  | [], L => Region.forcedB ops (G ++ F) L
  | i :: r, L => (Region.ready .any ops L).contains i && Region.free .any ops L i && T.contains i && (Z.contains i || (List.range ops.size).all fun j => j == i || T.contains j || G.contains j || Region.deps ops N j i) && Region.takesB ops Z T G F N r (L.setIfInBounds i true)
def Region.planB (ops : Array Oper) (Z T G F : List Nat) : Bool :=
  Region.noSelect ops && decide (T.length + (G.length + F.length) = ops.size) && (G.all fun i => !T.contains i && ((ops[i]?).map (·.guard.isNone)).getD false) && (F.all fun i => !T.contains i && !G.contains i) && Region.takesB ops Z T G F ops.size T (Array.replicate ops.size false)
/-- The takes, in the plan's order; then R. -/
def wpTakes (P : Program) (ops : Array Oper) (Z : List Nat) (w : World) (R : Act → Prop) : List Nat → Act → Prop
  | [], a => R a
  | i :: r, a => ∃ o v, ops[i]? = some o ∧ (∀ w', (Z.contains i = true ∨ Below w.heap.size w w') → YieldsS P ops w' o v a) ∧ wpTakes P ops Z w R r (a.put o.dst v)
/-- What only makes memory, in the plan's order; then R. -/
def wpGrow (P : Program) (ops : Array Oper) (Q : Exit → Act → World → Prop) (R : Act → World → Prop) : List Nat → Act → World → Prop
  | [], a, w => R a w
  | i :: r, a, w => ∃ o, ops[i]? = some o ∧ o.wp P a w (fun a' w' => Below w.heap.size w w' ∧ wpGrow P ops Q R r a' w') Q
def pickOps (ops : Array Oper) (F : List Nat) : List Oper := F.filterMap fun i => ops[i]?
theorem tail_m {T G : List Nat} : ∀ (F : List Nat) (L : Array Bool) (a : Act) (w : World), (∀ i ∈ F, T.contains i = false ∧ G.contains i = false) → Region.forcedB ops F L = true → wpList P ops Q (pickOps ops F) a w → wpAnyM P ops Q T G F.length L a w
  | [], L, a, w, _, hB, h => ⟨by simpa [Region.forcedB] using hB, h⟩
  | i :: r, L, a, w, hF, hB, h => by
    simp only [Region.forcedB, Bool.and_eq_true, decide_eq_true_eq] at hB
    refine ⟨fun h0 => (by rw [h0] at hB; cases hB.1), fun j hj => ?_⟩
    obtain rfl : j = i := by rw [hB.1] at hj; simpa using hj
    obtain ⟨h1, h2⟩ := hF j (by simp)
    rw [if_neg (by rw [h1]; simp), if_neg (by rw [h2]; simp)]
    obtain ⟨_, oj, hoj, _⟩ := mem_ready.1 hj
    have hp : pickOps ops (j :: r) = oj :: pickOps ops r := by simp [pickOps, hoj]
    rw [hp] at h
    have hw : wpOp P ops Q j (wpList P ops Q (pickOps ops r)) a w := by unfold wpOp; simp only [hoj]; exact h
    exact wpOp_mono (fun a' w' h' => tail_m r _ a' w' (fun k hk => hF k (by simp [hk])) hB.2 h') hw
theorem grow_m {T G F : List Nat} (hF : ∀ i ∈ F, T.contains i = false ∧ G.contains i = false) : ∀ (g : List Nat) (L : Array Bool) (a : Act) (w : World), (∀ i ∈ g, T.contains i = false ∧ G.contains i = true ∧ ∀ o, ops[i]? = some o → o.guard = none) → Region.forcedB ops (g ++ F) L = true →
    wpGrow P ops Q (wpList P ops Q (pickOps ops F)) g a w → wpAnyM P ops Q T G (g ++ F).length L a w
  | [], L, a, w, _, hB, h => tail_m F L a w hF hB h
  | i :: r, L, a, w, hg, hB, h => by
    simp only [List.cons_append, Region.forcedB, Bool.and_eq_true, decide_eq_true_eq] at hB
    refine ⟨fun h0 => (by rw [h0] at hB; cases hB.1), fun j hj => ?_⟩
    obtain rfl : j = i := by rw [hB.1] at hj; simpa using hj
    obtain ⟨h1, h2, h3⟩ := hg j (by simp)
    rw [if_neg (by rw [h1]; simp), if_pos h2]
    obtain ⟨o, ho, hw⟩ := h
    have hgd := h3 o ho
    unfold wpOp
    simp only [ho]
    rw [if_pos (by simp [Region.wanted, hgd])]
    refine .inl (Oper.wp_mono (fun a' w' hk => ⟨hk.1, ?_⟩) hw)
    exact grow_m hF r _ a' w' (fun k hk => hg k (by simp [hk])) hB.2 hk.2
theorem takes_m {Z T G F : List Nat} {N : Nat} (hsel : Region.noSelect ops = true) (hF : ∀ i ∈ F, T.contains i = false ∧ G.contains i = false) (hG : ∀ i ∈ G, T.contains i = false ∧ G.contains i = true ∧ ∀ o, ops[i]? = some o → o.guard = none)
    (hQ : ∀ c (a : Act) (d : Tmp) v w, Q (.panic c) (a.put (some d) v) w → Q (.panic c) a w) : ∀ (t : List Nat) (L : Array Bool) (a : Act) (w : World), ShutL ops L → Region.takesB ops Z T G F N t L = true →
    wpTakes P ops Z w (fun a' => wpGrow P ops Q (wpList P ops Q (pickOps ops F)) G a' w) t a → wpAnyM P ops Q T G (t.length + (G ++ F).length) L a w
  | [], L, a, w, hS, hB, h => by
    rw [List.length_nil, Nat.zero_add]
    exact grow_m hF G L a w hG hB h
  | i :: r, L, a, w, hS, hB, h => by
    simp only [Region.takesB, Bool.and_eq_true] at hB
    obtain ⟨⟨⟨⟨hr, hf⟩, hT⟩, hd⟩, hB'⟩ := hB
    obtain ⟨o, v, ho, hy, hn⟩ := h
    have hr' : i ∈ Region.ready .any ops L := by simpa using hr
    have e : (i :: r).length + (G ++ F).length = (r.length + (G ++ F).length) + 1 := by simp only [List.length_cons]; omega
    rw [e]
    refine wpAnyM_take (Z.contains i) (N := N) ho hT (Region.noSelect_spec hsel) (fun c a' w' h' => by
      cases hd : o.dst with
      | none => rw [hd] at h'; exact h'
      | some d => rw [hd] at h'; exact hQ _ _ _ _ _ h') (fun hz j oj hj hji h1 h2 => ?_) _ L a w hS (Region.free_spec ho hf) hr' hy (takes_m hsel hF hG hQ r _ _ w (hS.set hr') hB' hn)
    rw [hz, Bool.false_or] at hd
    have h3 := List.all_eq_true.1 hd j (List.mem_range.2 (Array.getElem?_eq_some_iff.1 hj).1)
    rw [h1, h2] at h3
    simpa [hji] using h3
theorem wp_region_plan {id : Nat} {a : Act} {w : World} {ops : Array Oper} (Z T G F : List Nat) (hm : P.follows .mixedOrders = true) (hB : Region.planB ops Z T G F = true) (hQ : ∀ c (a : Act) (d : Tmp) v w, Q (.panic c) (a.put (some d) v) w → Q (.panic c) a w)
    (h : wpTakes P ops Z w.drew (fun a' => wpGrow P ops Q (wpList P ops Q (pickOps ops F)) G a' w.drew) T a) : (Code.region id ops true).wp P Q a w := by
  simp only [Region.planB, Bool.and_eq_true, decide_eq_true_eq] at hB
  obtain ⟨⟨⟨⟨hsel, hlen⟩, hG⟩, hF⟩, ht⟩ := hB
  refine wp_region_any hm (wpAnyM.any _ _ _ _ (T := T) (G := G) ?_)
  have hF' : ∀ i ∈ F, T.contains i = false ∧ G.contains i = false := fun i hi => by
    have := List.all_eq_true.1 hF i hi
    simpa using this
  have hG' : ∀ i ∈ G, T.contains i = false ∧ G.contains i = true ∧ ∀ o, ops[i]? = some o → o.guard = none := fun i hi => by
    have := List.all_eq_true.1 hG i hi
    simp only [Bool.and_eq_true] at this
    refine ⟨by simpa using this.1, by simpa using hi, fun o ho => ?_⟩
    have h2 := this.2
    rw [ho] at h2
    simpa using h2
  have h0 : ShutL ops (Array.replicate ops.size false) := fun j oj _ hl => by
    rcases Nat.lt_or_ge j ops.size with h1 | h1 <;> simp [h1] at hl
  have := takes_m hsel hF' hG' hQ T _ a _ h0 ht h
  rwa [show T.length + (G ++ F).length = ops.size by rw [List.length_append]; exact hlen] at this
/-- One that reads memory. -/
theorem take_step {Z : List Nat} {w : World} {R : Act → Prop} {i : Nat} {r : List Nat} {a : Act} (o : Oper) (v : Value) (ho : ops[i]? = some o) (hz : Z.contains i = false) (hy : ∀ w', Below w.heap.size w w' → YieldsS P ops w' o v a) (h : wpTakes P ops Z w R r (a.put o.dst v)) : wpTakes P ops Z w R (i :: r) a :=
  ⟨o, v, ho, fun w' hb => hy w' (hb.resolve_left (by rw [hz]; simp)), h⟩
/-- One that reads none. -/
theorem take_any {Z : List Nat} {w : World} {R : Act → Prop} {i : Nat} {r : List Nat} {a : Act} (o : Oper) (v : Value) (ho : ops[i]? = some o) (hy : ∀ w', YieldsS P ops w' o v a) (h : wpTakes P ops Z w R r (a.put o.dst v)) : wpTakes P ops Z w R (i :: r) a :=
  ⟨o, v, ho, fun w' _ => hy w', h⟩
theorem grow_step {R : Act → World → Prop} {i : Nat} {r : List Nat} {a : Act} {w : World} (o : Oper) (ho : ops[i]? = some o) (h : ∀ K : Act → World → Prop, (∀ a' w', Below w.heap.size w w' → wpGrow P ops Q R r a' w' → K a' w') → o.wp P a w K Q) : wpGrow P ops Q R (i :: r) a w :=
  ⟨o, ho, h _ fun a' w' h1 h2 => ⟨h1, h2⟩⟩
/-- The tail, written out. -/
theorem tail_of {F : List Nat} {a : Act} {w : World} (l : List Oper) (hl : pickOps ops F = l) (h : wpList P ops Q l a w) : wpList P ops Q (pickOps ops F) a w := by rw [hl]; exact h
end
end Go.Proofs.YtkicbnkacjnhoaaDoor
