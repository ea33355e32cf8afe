/- The plain law of SpacePlays: the queue is what the written-down lists give, cell by cell. -/
import Derived.Test.YtkicbnkacjnhoaaDoorOtMeet
namespace Go.Proofs.YtkicbnkacjnhoaaDoor
set_option linter.unusedVariables false
set_option linter.unusedSimpArgs false

/-- What crossed: it met those from a on, up to b. -/
structure PFar where
  a : Nat
  b : Nat
  o : POp
instance : Inhabited PFar := ⟨⟨0, 0, ⟨0, 0, 0, 0, 0⟩⟩⟩
def midL (l : List POp) (a b : Nat) : List POp := (l.take b).drop a
def rowL (f : Bool) (l : List POp) (x : PFar) : List POp := l.take x.a ++ ((pastL x.o (midL l x.a x.b) f).2 ++ l.drop x.b)
def rowsL (f : Bool) (l : List POp) (far : List PFar) : List POp := far.foldl (rowL f) l
theorem midL_length {l : List POp} {a b : Nat} (hb : b ≤ l.length) : (midL l a b).length = b - a := by simp [midL]; omega
theorem midL_self (l : List POp) (a : Nat) : midL l a a = [] := by
  unfold midL; rw [List.drop_eq_nil_iff]; simp; omega
theorem midL_succ {l : List POp} {a i : Nat} {x : POp} (ha : a ≤ i) (hx : l[i]? = some x) : midL l a (i + 1) = midL l a i ++ [x] := by
  unfold midL
  have hi := (List.getElem?_eq_some_iff.1 hx).1
  rw [List.take_add_one, hx, Option.toList_some, List.drop_append_of_le_length (by simp; omega)]
theorem midL_all {l : List POp} {a : Nat} : midL l a l.length = l.drop a := by unfold midL; rw [List.take_length]
theorem rowL_length {f : Bool} {l : List POp} {x : PFar} (h : x.a ≤ x.b) (hb : x.b ≤ l.length) : (rowL f l x).length = l.length := by
  have := midL_length (a := x.a) hb
  simp [rowL, pastL_length, this]
  omega
theorem rowL_start (f : Bool) (l : List POp) (a : Nat) (o : POp) : rowL f l ⟨a, a, o⟩ = l := by
  simp [rowL, midL_self, pastL]
theorem rowL_at {f : Bool} {l : List POp} {a i : Nat} {o x : POp} (ha : a ≤ i) (hx : l[i]? = some x) : (rowL f l ⟨a, i, o⟩)[i]? = some x := by
  have hi := (List.getElem?_eq_some_iff.1 hx).1
  have hm := midL_length (l := l) (a := a) (b := i) (by omega)
  have ht : (l.take a).length = a := by simp; omega
  unfold rowL
  simp only []
  rw [List.getElem?_append_right (by omega), ht, List.getElem?_append_right (by rw [pastL_length, hm]; omega), pastL_length, hm, Nat.sub_self, List.getElem?_drop, Nat.add_zero]
  exact hx
theorem set_mid (t m r : List POp) (x z : POp) (i : Nat) (hi : i = t.length + m.length) : (t ++ (m ++ (x :: r))).set i z = t ++ ((m ++ [z]) ++ r) := by
  subst hi
  rw [List.set_append_right _ _ (by omega), show t.length + m.length - t.length = m.length by omega, List.set_append_right _ _ (Nat.le_refl _), Nat.sub_self]
  simp
theorem rowL_step {f : Bool} {l : List POp} {a i : Nat} {o x y z : POp} (ha : a ≤ i) (hx : l[i]? = some x) (hy : (pastL o (midL l a i) f).1 = y) (hz : shift x y f = z) : (rowL f l ⟨a, i, o⟩).set i z = rowL f l ⟨a, i + 1, o⟩ := by
  have hi := (List.getElem?_eq_some_iff.1 hx).1
  have he := (List.getElem?_eq_some_iff.1 hx).2
  have hm := midL_length (l := l) (a := a) (b := i) (by omega)
  unfold rowL
  simp only []
  rw [midL_succ ha hx, pastL_snoc, hy, hz, List.drop_eq_getElem_cons hi, he]
  exact set_mid _ _ _ _ _ _ (by rw [pastL_length, hm]; simp; omega)
theorem past_step {f : Bool} {l : List POp} {a i : Nat} {o x y z : POp} (ha : a ≤ i) (hx : l[i]? = some x) (hy : (pastL o (midL l a i) f).1 = y) (hz : shift y x (!f) = z) : (pastL o (midL l a (i + 1)) f).1 = z := by
  rw [midL_succ ha hx, pastL_snoc, hy, hz]

/-- The document's space. -/
structure PRef where
  own : List PMk
  far : List PFar
  d : Nat
def PRef.Fine (y : PRef) : Prop := y.d ≤ y.own.length ∧ ∀ x ∈ y.far, x.a ≤ x.b ∧ x.b ≤ y.own.length
def PRef.forms (f : Bool) (y : PRef) : List POp := rowsL f (opsQ y.own) y.far
def PRef.queue (f : Bool) (y : PRef) : List PMk := (withOps y.own (y.forms f)).drop y.d
def lastM : List PMk → Int
  | [] => 0
  | x :: q => lastM' x.m q
where lastM' (m : Int) : List PMk → Int
  | [] => m
  | x :: q => lastM' x.m q
theorem rowsL_length (f : Bool) : ∀ (far : List PFar) (l : List POp), (∀ x ∈ far, x.a ≤ x.b ∧ x.b ≤ l.length) → (rowsL f l far).length = l.length
  | [], _, _ => rfl
  | x :: r, l, h => by
    have h1 := h x (by simp)
    have h2 := rowL_length (f := f) h1.1 h1.2
    show (rowsL f (rowL f l x) r).length = l.length
    rw [rowsL_length f r _ (fun u hu => by rw [h2]; exact h u (by simp [hu])), h2]
theorem PRef.forms_length {f : Bool} {y : PRef} (h : y.Fine) : (y.forms f).length = y.own.length := by
  unfold PRef.forms
  rw [rowsL_length f _ _ (fun x hx => by rw [opsQ_length]; exact h.2 x hx), opsQ_length]
theorem rowsL_snoc (f : Bool) (l : List POp) (far : List PFar) (x : PFar) : rowsL f l (far ++ [x]) = rowL f (rowsL f l far) x := by simp [rowsL]
theorem rowL_more (f : Bool) {l : List POp} {x : PFar} (r : List POp) (h : x.a ≤ x.b) (hb : x.b ≤ l.length) : rowL f (l ++ r) x = rowL f l x ++ r := by
  unfold rowL midL
  rw [List.take_append_of_le_length (by omega), List.take_append_of_le_length (by omega), List.drop_append_of_le_length (by omega)]
  simp
theorem rowsL_more (f : Bool) (r : List POp) : ∀ (far : List PFar) (l : List POp), (∀ x ∈ far, x.a ≤ x.b ∧ x.b ≤ l.length) → rowsL f (l ++ r) far = rowsL f l far ++ r
  | [], _, _ => rfl
  | x :: fr, l, h => by
    have h1 := h x (by simp)
    have h2 := rowL_length (f := f) h1.1 h1.2
    show rowsL f (rowL f (l ++ r) x) fr = rowsL f (rowL f l x) fr ++ r
    rw [rowL_more f r h1.1 h1.2]
    exact rowsL_more f r fr _ (fun u hu => by rw [h2]; exact h u (by simp [hu]))
theorem withOps_len : ∀ (q : List PMk) (l : List POp), l.length = q.length → (withOps q l).length = q.length
  | [], [], _ => rfl
  | [], _ :: _, h => by simp at h
  | _ :: _, [], h => by simp at h
  | x :: q, o :: l, h => by simp only [withOps, List.length_cons, withOps_len q l (by simpa using h)]
theorem withOps_drop : ∀ (q : List PMk) (l : List POp) (d : Nat), l.length = q.length → (withOps q l).drop d = withOps (q.drop d) (l.drop d)
  | [], [], d, _ => by simp [withOps]
  | [], _ :: _, _, h => by simp at h
  | _ :: _, [], _, h => by simp at h
  | x :: q, o :: l, 0, h => rfl
  | x :: q, o :: l, d + 1, h => by simp only [withOps, List.drop_succ_cons]; exact withOps_drop q l d (by simpa using h)
theorem withOps_twice : ∀ (q : List PMk) (l l2 : List POp), l.length = q.length → withOps (withOps q l) l2 = withOps q l2
  | [], [], l2, _ => by simp [withOps]
  | [], _ :: _, _, h => by simp at h
  | _ :: _, [], _, h => by simp at h
  | x :: q, o :: l, [], h => by simp [withOps]
  | x :: q, o :: l, u :: l2, h => by simp only [withOps, withOps_twice q l l2 (by simpa using h)]
theorem PRef.ops {f : Bool} {y : PRef} (h : y.Fine) : opsQ (y.queue f) = (y.forms f).drop y.d := by
  have hl := PRef.forms_length (f := f) h
  unfold PRef.queue
  rw [withOps_drop _ _ _ hl, opsQ_with _ _ (by simp [hl])]
theorem PRef.keep {f : Bool} {y : PRef} (h : y.Fine) (z : PMk) : PRef.Fine ⟨y.own ++ [z], y.far, y.d⟩ ∧ PRef.queue f ⟨y.own ++ [z], y.far, y.d⟩ = y.queue f ++ [z] := by
  have hl := PRef.forms_length (f := f) h
  refine ⟨⟨by simp; have := h.1; omega, fun x hx => ⟨(h.2 x hx).1, by have := (h.2 x hx).2; simp; omega⟩⟩, ?_⟩
  have e : PRef.forms f ⟨y.own ++ [z], y.far, y.d⟩ = y.forms f ++ [z.o] := by
    show rowsL f (opsQ (y.own ++ [z])) y.far = _
    rw [opsQ_append]
    exact rowsL_more f [z.o] y.far _ (fun x hx => by rw [opsQ_length]; exact h.2 x hx)
  show (withOps (y.own ++ [z]) (PRef.forms f ⟨y.own ++ [z], y.far, y.d⟩)).drop y.d = _
  rw [e, withOps_append _ _ _ _ hl, List.drop_append_of_le_length (by rw [withOps_len _ _ hl]; exact h.1)]
  rfl
theorem PRef.cross {f : Bool} {y : PRef} (h : y.Fine) (o : POp) : PRef.Fine ⟨y.own, y.far ++ [⟨y.d, y.own.length, o⟩], y.d⟩ ∧ PRef.queue f ⟨y.own, y.far ++ [⟨y.d, y.own.length, o⟩], y.d⟩ = crossQ f (y.queue f) o := by
  have hl := PRef.forms_length (f := f) h
  refine ⟨⟨h.1, fun x hx => ?_⟩, ?_⟩
  · rcases List.mem_append.1 hx with hx | hx
    · exact h.2 x hx
    · rw [List.mem_singleton.1 hx]; exact ⟨h.1, Nat.le_refl _⟩
  have e : PRef.forms f ⟨y.own, y.far ++ [⟨y.d, y.own.length, o⟩], y.d⟩ = (y.forms f).take y.d ++ (pastL o ((y.forms f).drop y.d) f).2 := by
    show rowsL f (opsQ y.own) (y.far ++ [⟨y.d, y.own.length, o⟩]) = _
    rw [rowsL_snoc]
    show rowL f (y.forms f) ⟨y.d, y.own.length, o⟩ = _
    unfold rowL
    simp only []
    rw [← hl, midL_all, List.drop_length, List.append_nil]
  have hd : ((y.forms f).take y.d).length = y.d := by have := h.1; simp; omega
  show (withOps y.own (PRef.forms f ⟨y.own, y.far ++ [⟨y.d, y.own.length, o⟩], y.d⟩)).drop y.d = _
  rw [e]
  have hp : (pastL o ((y.forms f).drop y.d) f).2.length = (y.own.drop y.d).length := by rw [pastL_length]; simp [hl]
  have hlen : ((y.forms f).take y.d ++ (pastL o ((y.forms f).drop y.d) f).2).length = y.own.length := by
    rw [List.length_append, hd, hp]; have := h.1; simp; omega
  rw [withOps_drop _ _ _ hlen, List.drop_append_of_le_length (by omega), show ((y.forms f).take y.d).drop y.d = [] by rw [List.drop_eq_nil_iff]; omega, List.nil_append]
  unfold crossQ
  rw [PRef.ops h]
  unfold PRef.queue
  rw [withOps_drop _ _ _ hl, withOps_twice _ _ _ (by simp [hl])]
theorem PRef.drop {f : Bool} {y : PRef} (h : y.Fine) (n : Nat) (hn : n ≤ (y.queue f).length) : PRef.Fine ⟨y.own, y.far, y.d + n⟩ ∧ PRef.queue f ⟨y.own, y.far, y.d + n⟩ = (y.queue f).drop n := by
  have hl := PRef.forms_length (f := f) h
  have hq : (y.queue f).length = y.own.length - y.d := by simp [PRef.queue, withOps_len _ _ hl]
  refine ⟨⟨by show y.d + n ≤ y.own.length; have := h.1; omega, h.2⟩, ?_⟩
  show (withOps y.own (y.forms f)).drop (y.d + n) = ((withOps y.own (y.forms f)).drop y.d).drop n
  rw [List.drop_drop]
theorem withOps_marks : ∀ (q : List PMk) (l : List POp), l.length = q.length → (withOps q l).map (·.m) = q.map (·.m)
  | [], [], _ => rfl
  | [], _ :: _, h => by simp at h
  | _ :: _, [], h => by simp at h
  | x :: q, o :: l, h => by simp only [withOps, List.map_cons, withOps_marks q l (by simpa using h)]
/-- How many go: by the marks alone. -/
def dropN (m : Int) : List Int → Nat
  | [] => 0
  | x :: q => if x ≤ m then dropN m q + 1 else 0
theorem dropN_le (m : Int) : ∀ q : List PMk, dropN m (q.map (·.m)) ≤ q.length
  | [] => Nat.le_refl _
  | x :: q => by
    have := dropN_le m q
    simp only [List.map_cons, dropN, List.length_cons]
    split <;> omega
theorem dropQ_N (m : Int) : ∀ q : List PMk, dropQ m q = q.drop (dropN m (q.map (·.m)))
  | [] => rfl
  | x :: q => by
    simp only [List.map_cons, dropN, dropQ]
    by_cases h : x.m ≤ m
    · rw [if_pos h, if_pos h, List.drop_succ_cons]; exact dropQ_N m q
    · rw [if_neg h, if_neg h]; rfl
theorem PRef.marks {f : Bool} {y : PRef} (h : y.Fine) : (y.queue f).map (·.m) = (y.own.drop y.d).map (·.m) := by
  have hl := PRef.forms_length (f := f) h
  unfold PRef.queue
  rw [withOps_drop _ _ _ hl, withOps_marks _ _ (by simp [hl])]
theorem lastM'_snoc (z : PMk) : ∀ (q : List PMk) (m : Int), lastM.lastM' m (q ++ [z]) = z.m
  | [], _ => rfl
  | x :: q, _ => lastM'_snoc z q x.m
theorem lastM_snoc (q : List PMk) (z : PMk) : lastM (q ++ [z]) = z.m := by
  cases q with
  | nil => rfl
  | cons x q => exact lastM'_snoc z q x.m
end Go.Proofs.YtkicbnkacjnhoaaDoor
