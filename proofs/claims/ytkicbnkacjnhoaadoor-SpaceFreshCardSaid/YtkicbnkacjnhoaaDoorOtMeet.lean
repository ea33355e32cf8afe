/- Plain Lean: two sides, two lines that keep their order: the invariant of the two queues, and that it stands through every act. No program in sight. -/
import Derived.Test.YtkicbnkacjnhoaaDoorOtText
import Derived.Test.YtkicbnkacjnhoaaDoorOtPiece
namespace Go.Proofs.YtkicbnkacjnhoaaDoor
open Go.RowKit
/-- An operation and its mark. -/
structure PMk where
  m : Int
  o : POp
  deriving DecidableEq
/-- What is under way: its mark, the last mark that its sender had taken in, the operation. -/
structure PPar where
  m : Int
  t : Int
  o : POp
  deriving DecidableEq
def opsQ (q : List PMk) : List POp := q.map (·.o)
def withOps : List PMk → List POp → List PMk
  | x :: q, o :: l => ⟨x.m, o⟩ :: withOps q l
  | _, _ => []
def dropQ (k : Int) : List PMk → List PMk
  | [] => []
  | x :: q => if x.m ≤ k then dropQ k q else x :: q
theorem opsQ_length (q : List PMk) : (opsQ q).length = q.length := by simp [opsQ]
theorem opsQ_append (q r : List PMk) : opsQ (q ++ r) = opsQ q ++ opsQ r := by simp [opsQ]
theorem opsQ_with : ∀ (q : List PMk) (l : List POp), l.length = q.length → opsQ (withOps q l) = l
  | [], [], _ => rfl
  | [], _ :: _, h => by simp at h
  | _ :: _, [], h => by simp at h
  | x :: q, o :: l, h => by
    have := opsQ_with q l (by simpa using h)
    simp only [opsQ] at this
    simp only [withOps, opsQ, List.map_cons, this]
theorem marks_with : ∀ (q : List PMk) (l : List POp), l.length = q.length → (withOps q l).map (·.m) = q.map (·.m)
  | [], [], _ => rfl
  | [], _ :: _, h => by simp at h
  | _ :: _, [], h => by simp at h
  | x :: q, o :: l, h => by simp only [withOps, List.map_cons, marks_with q l (by simpa using h)]
theorem withOps_append : ∀ (q1 : List PMk) (l1 : List POp) (q2 : List PMk) (l2 : List POp), l1.length = q1.length → withOps (q1 ++ q2) (l1 ++ l2) = withOps q1 l1 ++ withOps q2 l2
  | [], [], _, _, _ => rfl
  | [], _ :: _, _, _, h => by simp at h
  | _ :: _, [], _, _, h => by simp at h
  | x :: q, o :: l, q2, l2, h => by simp only [List.cons_append, withOps, withOps_append q l q2 l2 (by simpa using h)]
theorem withOps_length : ∀ (q : List PMk) (l : List POp), l.length = q.length → (withOps q l).length = q.length
  | [], [], _ => rfl
  | [], _ :: _, h => by simp at h
  | _ :: _, [], h => by simp at h
  | x :: q, o :: l, h => by simp only [withOps, List.length_cons, withOps_length q l (by simpa using h)]
theorem dropQ_append (k : Int) : ∀ (q1 q2 : List PMk), (∀ x ∈ q2, k < x.m) → dropQ k (q1 ++ q2) = dropQ k q1 ++ q2
  | [], [], _ => rfl
  | [], x :: q2, h => by
    have := h x (by simp)
    simp only [List.nil_append, dropQ]
    rw [if_neg (by omega)]
  | x :: q1, q2, h => by
    simp only [List.cons_append, dropQ]
    by_cases hx : x.m ≤ k
    · rw [if_pos hx, if_pos hx]
      exact dropQ_append k q1 q2 h
    · rw [if_neg hx, if_neg hx]
      rfl
theorem dropQ_all (k : Int) : ∀ (q : List PMk), (∀ x ∈ q, x.m ≤ k) → dropQ k q = []
  | [], _ => rfl
  | x :: q, h => by
    simp only [dropQ]
    rw [if_pos (h x (by simp))]
    exact dropQ_all k q fun y hy => h y (by simp [hy])
theorem dropQ_mem (k : Int) : ∀ (q : List PMk), ∀ x ∈ dropQ k q, x ∈ q
  | [], x, h => h
  | y :: q, x, h => by
    simp only [dropQ] at h
    split at h
    · exact List.mem_cons_of_mem _ (dropQ_mem k q x h)
    · exact h
theorem with_mark {q : List PMk} {l : List POp} (h : l.length = q.length) {P : Int → Prop} (hq : ∀ x ∈ q, P x.m) : ∀ x ∈ withOps q l, P x.m := fun x hx => by
  have h1 : x.m ∈ (withOps q l).map (·.m) := List.mem_map.2 ⟨x, hx, rfl⟩
  rw [marks_with q l h] at h1
  obtain ⟨y, hy, e⟩ := List.mem_map.1 h1
  rw [← e]
  exact hq y hy
theorem with_op {q : List PMk} {l : List POp} (h : l.length = q.length) {x : PMk} (hx : x ∈ withOps q l) : x.o ∈ l := by
  have h1 : x.o ∈ opsQ (withOps q l) := List.mem_map.2 ⟨x, hx, rfl⟩
  rwa [opsQ_with q l h] at h1
/-- The queue behind an operation that crosses; f: the queue comes first. -/
def crossQ (f : Bool) (q : List PMk) (o : POp) : List PMk := withOps q (pastL o (opsQ q) f).2
theorem past_len (f : Bool) (q : List PMk) (o : POp) : (pastL o (opsQ q) f).2.length = q.length := by rw [pastL_length, opsQ_length]
/-- What comes of parcels that reach a queue, in turn. -/
def deliver (f : Bool) : List PMk → List PPar → List POp
  | _, [] => []
  | Q, v :: r => (pastL v.o (opsQ (dropQ v.t Q)) f).1 :: deliver f (crossQ f (dropQ v.t Q) v.o) r
theorem deliver_snoc (f : Bool) (v : PPar) : ∀ (r : List PPar) (Q : List PMk), (∀ x ∈ Q, x.m ≤ v.t) → deliver f Q (r ++ [v]) = deliver f Q r ++ [v.o]
  | [], Q, h => by
    simp only [List.nil_append, deliver, dropQ_all v.t Q h]
    rfl
  | u :: r, Q, h => by
    simp only [List.cons_append, deliver]
    rw [deliver_snoc f v r (crossQ f (dropQ u.t Q) u.o) (with_mark (P := fun m => m ≤ v.t) (past_len f _ _) fun x hx => h x (dropQ_mem _ _ x hx))]
theorem deliver_more (f : Bool) : ∀ (r : List PPar) (Q : List PMk) (b : PMk), (∀ u ∈ r, u.t < b.m) → deliver f (Q ++ [b]) r = (pastL b.o (deliver f Q r) (!f)).2
  | [], _, _, _ => rfl
  | u :: r, Q, b, h => by
    have hd : dropQ u.t (Q ++ [b]) = dropQ u.t Q ++ [b] := dropQ_append _ _ _ fun x hx => by
      obtain rfl := List.mem_singleton.1 hx
      exact h u (by simp)
    have hp : pastL u.o (opsQ (dropQ u.t Q) ++ [b.o]) f = (shift (pastL u.o (opsQ (dropQ u.t Q)) f).1 b.o (!f), (pastL u.o (opsQ (dropQ u.t Q)) f).2 ++ [shift b.o (pastL u.o (opsQ (dropQ u.t Q)) f).1 f]) := pastL_snoc _ _ _ _
    have ho : opsQ (dropQ u.t Q ++ [b]) = opsQ (dropQ u.t Q) ++ [b.o] := by simp [opsQ]
    have hw : withOps (dropQ u.t Q ++ [b]) ((pastL u.o (opsQ (dropQ u.t Q)) f).2 ++ [shift b.o (pastL u.o (opsQ (dropQ u.t Q)) f).1 f]) = withOps (dropQ u.t Q) (pastL u.o (opsQ (dropQ u.t Q)) f).2 ++ [⟨b.m, shift b.o (pastL u.o (opsQ (dropQ u.t Q)) f).1 f⟩] :=
      withOps_append _ _ _ _ (past_len f _ _)
    have ih := deliver_more f r (crossQ f (dropQ u.t Q) u.o) ⟨b.m, shift b.o (pastL u.o (opsQ (dropQ u.t Q)) f).1 f⟩ fun v hv => h v (by simp [hv])
    simp only [deliver, hd, crossQ, ho, hp, pastL, Bool.not_not, hw]
    simp only [crossQ] at ih
    rw [ih]

/-- A side: its text, its queue, how many it made and took in, what it sent that is under way. -/
structure PSide where
  x : List PEl
  q : List PMk
  made : Int
  took : Int
  way : List PPar
/-- THE INVARIANT. f: s comes first. -/
structure Meet (f : Bool) (s t : PSide) : Prop where
  ex : ∃ (X : List PEl) (s1 s2 t1 t2 : List PMk), s.q = s1 ++ s2 ∧ t.q = t1 ++ t2 ∧ (∀ x ∈ s1, x.m ≤ t.took) ∧ (∀ x ∈ t1, x.m ≤ s.took) ∧
    s2.map (·.m) = s.way.map (·.m) ∧ t2.map (·.m) = t.way.map (·.m) ∧
    deliver f s1 t.way = opsQ t2 ∧ deliver (!f) t1 s.way = opsQ s2 ∧ runL X (opsQ s2) = some s.x ∧ runL X (opsQ t2) = some t.x ∧ X.length ≤ s.x.length + s2.length
  st : (∀ v ∈ s.way, t.took < v.m ∧ v.m ≤ s.made ∧ v.t ≤ s.took) ∧ (∀ v ∈ t.way, s.took < v.m ∧ v.m ≤ t.made ∧ v.t ≤ t.took)
  up : (s.way.map (·.m)).Pairwise (· < ·) ∧ (t.way.map (·.m)).Pairwise (· < ·)
  le : t.took ≤ s.made ∧ s.took ≤ t.made
theorem runL_append : ∀ (l1 l2 : List POp) {d e : List PEl}, runL d l1 = some e → runL d (l1 ++ l2) = runL e l2
  | [], l2, d, e, h => by obtain rfl := Option.some.inj h; rfl
  | o :: r, l2, d, e, h => by
    simp only [runL, List.cons_append] at h ⊢
    split at h
    · rename_i x hx
      exact runL_append r l2 h
    · cases h
theorem runL_grow : ∀ (l : List POp) {d e : List PEl}, runL d l = some e → d.length ≤ e.length + l.length
  | [], d, e, h => by obtain rfl := Option.some.inj h; simp
  | o :: r, d, e, h => by
    simp only [runL] at h
    split at h
    · rename_i x hx
      have h2 := runL_grow r h
      have h1 : d.length ≤ x.length + 1 := by
        rcases putL_cases hx with ⟨_, _, _, rfl⟩ | ⟨_, n, _, hn, rfl⟩ | ⟨_, n, _, hn, rfl⟩
        · omega
        · rw [ins_length]; omega
        · rw [del_length _ _ hn]; omega
      simp only [List.length_cons]
      omega
    · cases h
theorem Meet.symm {f : Bool} {s t : PSide} (h : Meet f s t) : Meet (!f) t s := by
  obtain ⟨X, s1, s2, t1, t2, h1, h2, h3, h4, h5, h6, h7, h8, h9, h10, h11⟩ := h.ex
  exact ⟨⟨X, t1, t2, s1, s2, h2, h1, h4, h3, h6, h5, h8, by rw [Bool.not_not]; exact h7, h10, h9, by rw [← opsQ_length]; exact runL_grow _ h10⟩, ⟨h.st.2, h.st.1⟩, ⟨h.up.2, h.up.1⟩, ⟨h.le.2, h.le.1⟩⟩
theorem Meet.start (f : Bool) (d : List PEl) : Meet f ⟨d, [], 0, 0, []⟩ ⟨d, [], 0, 0, []⟩ :=
  ⟨⟨d, [], [], [], [], rfl, rfl, by simp, by simp, rfl, rfl, rfl, rfl, rfl, rfl, by simp⟩, ⟨by simp, by simp⟩, ⟨by simp, by simp⟩, ⟨Int.le_refl _, Int.le_refl _⟩⟩
/-- One side makes an operation. -/
theorem Meet.makes {f : Bool} {s t : PSide} (h : Meet f s t) {o : POp} {e : List PEl} (ho : putL s.x o = some e) :
    Meet f ⟨e, s.q ++ [⟨s.made + 1, o⟩], s.made + 1, s.took, s.way ++ [⟨s.made + 1, s.took, o⟩]⟩ t := by
  obtain ⟨X, s1, s2, t1, t2, h1, h2, h3, h4, h5, h6, h7, h8, h9, h10, h11⟩ := h.ex
  have hle := h.le
  refine ⟨⟨X, s1, s2 ++ [⟨s.made + 1, o⟩], t1, t2, by simp [h1], h2, h3, h4, by simp [h5], h6, h7, ?_, ?_, h10, ?_⟩, ⟨?_, h.st.2⟩, ⟨?_, h.up.2⟩, ⟨by simp only; omega, hle.2⟩⟩
  · rw [opsQ_append, ← h8]
    exact deliver_snoc (!f) _ s.way t1 h4
  · rw [opsQ_append, runL_append _ _ h9]
    show runL s.x [o] = some e
    simp only [runL, ho]
  · have := runL_grow [o] (d := s.x) (e := e) (by simp only [runL, ho])
    simp only [List.length_append, List.length_cons, List.length_nil] at this ⊢
    omega
  · intro v hv
    rcases List.mem_append.1 hv with hv | hv
    · have := h.st.1 v hv
      exact ⟨this.1, by simp only; omega, this.2.2⟩
    · obtain rfl := List.mem_singleton.1 hv
      exact ⟨by simp only; omega, by simp only; omega, by simp only; omega⟩
  · simp only [List.map_append, List.map_cons, List.map_nil]
    rw [List.pairwise_append]
    refine ⟨h.up.1, by simp, fun a ha b hb => ?_⟩
    obtain rfl := List.mem_singleton.1 hb
    obtain ⟨v, hv, rfl⟩ := List.mem_map.1 ha
    have := (h.st.1 v hv).2.1
    omega
/-- One side takes in a parcel of the other. -/
theorem Meet.takes {f : Bool} {s t : PSide} (h : Meet f s t) {v : PPar} {r : List PPar} (hv : t.way = v :: r) (hd : s.x.length + s.q.length + s.q.length + 3 < 4611686018427387904) :
    ∃ e, putL s.x (pastL v.o (opsQ (dropQ v.t s.q)) f).1 = some e ∧ Meet f ⟨e, crossQ f (dropQ v.t s.q) v.o, s.made, v.m, s.way⟩ { t with way := r } := by
  obtain ⟨X, s1, s2, t1, t2, h1, h2, h3, h4, h5, h6, h7, h8, h9, h10, h11⟩ := h.ex
  have hle := h.le
  have hv0 := h.st.2 v (by rw [hv]; simp)
  rw [hv] at h6 h7
  obtain ⟨b, t2', rfl⟩ : ∃ b t2', t2 = b :: t2' := by
    rcases t2 with _ | ⟨b, t2'⟩
    · simp at h6
    · exact ⟨b, t2', rfl⟩
  simp only [List.map_cons, List.cons.injEq] at h6
  obtain ⟨hbm, h6⟩ := h6
  have h7a : (pastL v.o (opsQ (dropQ v.t s1)) f).1 = b.o := by
    have := congrArg List.head? h7
    simpa [deliver, opsQ] using this
  have h7b : deliver f (crossQ f (dropQ v.t s1) v.o) r = opsQ t2' := by
    have := congrArg List.tail h7
    simpa [deliver, opsQ] using this
  have hm2 : ∀ x ∈ s2, t.took < x.m := fun x hx => by
    have : x.m ∈ s.way.map (·.m) := by rw [← h5]; exact List.mem_map.2 ⟨x, hx, rfl⟩
    obtain ⟨y, hy, e⟩ := List.mem_map.1 this
    rw [← e]
    exact (h.st.1 y hy).1
  have hdr : dropQ v.t s.q = dropQ v.t s1 ++ s2 := by
    rw [h1]
    exact dropQ_append _ _ _ fun x hx => by have := hm2 x hx; omega
  have hpa := pastL_append f (opsQ s2) (opsQ (dropQ v.t s1)) v.o
  rw [h7a] at hpa
  have hop : pastL v.o (opsQ (dropQ v.t s.q)) f = ((pastL b.o (opsQ s2) f).1, (pastL v.o (opsQ (dropQ v.t s1)) f).2 ++ (pastL b.o (opsQ s2) f).2) := by rw [hdr, opsQ_append, hpa]
  have hq : crossQ f (dropQ v.t s.q) v.o = crossQ f (dropQ v.t s1) v.o ++ crossQ f s2 b.o := by
    unfold crossQ
    rw [hop, hdr, withOps_append _ _ _ _ (past_len f _ _)]
  rw [hop, hq]
  have hl2 : s2.length ≤ s.q.length := by rw [h1]; simp
  have hbX : ∃ X', putL X b.o = some X' ∧ runL X' (opsQ t2') = some t.x := by
    have h10' := h10
    simp only [opsQ, List.map_cons, runL] at h10'
    split at h10'
    · rename_i X' hX'
      exact ⟨X', hX', h10'⟩
    · cases h10'
  obtain ⟨X', hX', h10'⟩ := hbX
  obtain ⟨e, he, hr⟩ := past_square f (opsQ s2) h9 hX' (by rw [opsQ_length]; omega)
  refine ⟨e, he, ⟨X', crossQ f (dropQ v.t s1) v.o, crossQ f s2 b.o, t1 ++ [b], t2', rfl, by simp [h2], with_mark (P := fun m => m ≤ t.took) (past_len f _ _) fun x hx => h3 x (dropQ_mem _ _ x hx), ?_, ?_, h6, h7b, ?_, ?_, h10', ?_⟩, ⟨?_, ?_⟩, ⟨h.up.1, ?_⟩, ⟨hle.1, hv0.2.1⟩⟩
  · intro x hx
    rcases List.mem_append.1 hx with hx | hx
    · have := h4 x hx
      simp only
      omega
    · obtain rfl := List.mem_singleton.1 hx
      simp only
      omega
  · show (crossQ f s2 b.o).map (·.m) = _
    unfold crossQ
    rw [marks_with _ _ (past_len f _ _)]
    exact h5
  · show deliver (!f) (t1 ++ [b]) s.way = _
    rw [deliver_more (!f) s.way t1 b fun u hu => by have := (h.st.1 u hu).2.2; omega, h8, Bool.not_not]
    unfold crossQ
    rw [opsQ_with _ _ (past_len f _ _)]
  · show runL X' (opsQ (crossQ f s2 b.o)) = some e
    unfold crossQ
    rw [opsQ_with _ _ (past_len f _ _)]
    exact hr
  · have := runL_grow _ hr
    unfold crossQ
    rw [withOps_length _ _ (past_len f _ _)]
    rw [pastL_length, opsQ_length] at this
    exact this
  · intro u hu
    have := h.st.1 u hu
    exact ⟨this.1, this.2.1, by simp only; omega⟩
  · intro u hu
    have hu2 := h.st.2 u (by rw [hv]; simp [hu])
    refine ⟨?_, hu2.2⟩
    have hp := h.up.2
    rw [hv] at hp
    simp only [List.map_cons, List.pairwise_cons] at hp
    exact hp.1 u.m (List.mem_map.2 ⟨u, hu, rfl⟩)
  · have hp := h.up.2
    rw [hv] at hp
    simp only [List.map_cons, List.pairwise_cons] at hp
    exact hp.2
/-- Nothing under way: one text. -/
theorem Meet.same {f : Bool} {s t : PSide} (h : Meet f s t) (hs : s.way = []) (ht : t.way = []) : s.x = t.x := by
  obtain ⟨X, s1, s2, t1, t2, h1, h2, h3, h4, h5, h6, h7, h8, h9, h10, h11⟩ := h.ex
  rw [hs] at h5
  rw [ht] at h6
  obtain rfl : s2 = [] := by simpa using h5
  obtain rfl : t2 = [] := by simpa using h6
  exact Option.some.inj (h9.symm.trans h10)
end Go.Proofs.YtkicbnkacjnhoaaDoor
