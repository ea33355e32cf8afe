/- grownMarked of jotterlaw10: every list of a list of lists is written full, then grown; what is read then. -/
import Derived.Test.YtkicbnkacjnhoaaDoorItems
namespace Go.Proofs.YtkicbnkacjnhoaaDoor
open Go.RowKit
set_option linter.unusedVariables false
set_option linter.unusedSimpArgs false

def mkEq (a b : PMk) : Bool := decide (a = b)
theorem mkEq_true {a b : PMk} : mkEq a b = true ↔ a = b := by simp [mkEq]
theorem eq23d (w : World) (a0 a1 a2 a3 a4 b0 b1 b2 b3 b4 : Int) :
    (Op.equalIn 9999 23 (.agg #[.int .i64 a0, .int .i64 a1, .int .u8 a2, .int .i64 a3, .int .i64 a4]) (.agg #[.int .i64 b0, .int .i64 b1, .int .u8 b2, .int .i64 b3, .int .i64 b4])).run Tryd.prog w = .ok (opEq ⟨a0, a1, a2, a3, a4⟩ ⟨b0, b1, b2, b3, b4⟩) w := by
  have h : opEq ⟨a0, a1, a2, a3, a4⟩ ⟨b0, b1, b2, b3, b4⟩ = ((a0 == b0) && ((a1 == b1) && ((a2 == b2) && ((a3 == b3) && ((a4 == b4) && true))))) := by
    rw [Bool.eq_iff_iff, opEq_true]; simp
  rw [h]
  refine sEq_of (d := 9998) Tryd.underlying23 (by kernel_rfl) ?_
  refine sEq_step (by rfl) (by go_simp; rfl) (by go_simp; rfl) (by go_simp) ?_
  refine sEq_step (by rfl) (by go_simp; rfl) (by go_simp; rfl) (by go_simp) ?_
  refine sEq_step (by rfl) (by go_simp; rfl) (by go_simp; rfl) (by go_simp) ?_
  refine sEq_step (by rfl) (by go_simp; rfl) (by go_simp; rfl) (by go_simp) ?_
  refine sEq_step (by rfl) (by go_simp; rfl) (by go_simp; rfl) (by go_simp) ?_
  exact sEq_nil
@[go_sem high] theorem eq87 (w : World) (m n a0 a1 a2 a3 a4 b0 b1 b2 b3 b4 : Int) :
    (Op.equalIn 10000 87 (.agg #[.int .i64 m, .int .i64 a0, .int .i64 a1, .int .u8 a2, .int .i64 a3, .int .i64 a4]) (.agg #[.int .i64 n, .int .i64 b0, .int .i64 b1, .int .u8 b2, .int .i64 b3, .int .i64 b4])).run Tryd.prog w = .ok (mkEq ⟨m, ⟨a0, a1, a2, a3, a4⟩⟩ ⟨n, ⟨b0, b1, b2, b3, b4⟩⟩) w := by
  have h : mkEq ⟨m, ⟨a0, a1, a2, a3, a4⟩⟩ ⟨n, ⟨b0, b1, b2, b3, b4⟩⟩ = ((m == n) && (opEq ⟨a0, a1, a2, a3, a4⟩ ⟨b0, b1, b2, b3, b4⟩ && true)) := by
    rw [Bool.eq_iff_iff, mkEq_true]; simp [opEq]
  rw [h]
  refine sEq_of (d := 9999) Tryd.underlying87 (by kernel_rfl) ?_
  refine sEq_step (by rfl) (by go_simp; try rfl) (by go_simp; try rfl) (by go_simp) ?_
  refine sEq_step (by rfl) (by go_simp; try rfl) (by go_simp; try rfl) (eq23d w a0 a1 a2 a3 a4 b0 b1 b2 b3 b4) ?_
  exact sEq_nil

def negM (j k : Nat) : PMk := ⟨-1 - 1000 * j - k, ⟨0, 0, 0, 0, 0⟩⟩
def negL (j n : Nat) : List PMk := (List.range n).map (negM j)
def posM (j k : Nat) : PMk := ⟨1 + 1000 * j + k, ⟨0, 0, 0, 0, 0⟩⟩
def posL (j n : Nat) : List PMk := (List.range n).map (posM j)
theorem negL_length (j n : Nat) : (negL j n).length = n := by simp [negL]
theorem posL_length (j n : Nat) : (posL j n).length = n := by simp [posL]
theorem negL_succ (j n : Nat) : negL j (n + 1) = negL j n ++ [negM j n] := by simp [negL, List.range_succ]
theorem posL_succ (j n : Nat) : posL j (n + 1) = posL j n ++ [posM j n] := by simp [posL, List.range_succ]
theorem neg_set (j : Nat) (xs : List PMk) (k : Nat) (hk : k < xs.length) : (negL j k ++ xs.drop k).set k (negM j k) = negL j (k + 1) ++ xs.drop (k + 1) := by
  rw [List.set_append_right _ _ (by rw [negL_length]; exact Nat.le_refl _), negL_length, Nat.sub_self, List.drop_eq_getElem_cons hk, List.set_cons_zero, negL_succ, List.append_assoc]
  rfl
theorem ElZ.sl : ElZ Tryd.prog slF 76 24 (.slice none 0 0) := ⟨by kernel_rfl, by rfl, fun x u hu => by
  simp only [slF, List.mem_cons, List.not_mem_nil, or_false] at hu
  subst hu
  rfl⟩

/-- In the midst of the first loop. -/
structure G1 (w0 W : World) (gl : Nat) (rs : List Sl) (i k : Nat) : Prop where
  lst : Rd slF W (some ⟨gl, 0, none⟩) rs
  old : ∀ j s, rs[j]? = some s → j < i → OwnV mkF 87 0 W (.slice s.A s.n s.c) (negL j s.n)
  cur : ∀ s, rs[i]? = some s → ∃ ys : List PMk, ys.length = s.n ∧ k ≤ s.n ∧ OwnV mkF 87 0 W (.slice s.A s.n s.c) (negL i k ++ ys.drop k)
  new : ∀ j s, rs[j]? = some s → i < j → ∃ ys : List PMk, ys.length = s.n ∧ OwnV mkF 87 0 W (.slice s.A s.n s.c) ys
  but : But (rs.flatMap (own ·.A)) w0 W
/-- The lists lie apart. -/
structure GRows (gl : Nat) (rs : List Sl) : Prop where
  dis : ∀ (i j : Nat) (s t : Sl), rs[i]? = some s → rs[j]? = some t → i ≠ j → ∀ g ∈ own s.A, g ∉ own t.A
  gl : ∀ s ∈ rs, gl ∉ own s.A
section
variable {w0 W W' : World} {gl i k : Nat} {rs : List Sl}
theorem mem_rows {j : Nat} {s : Sl} (hs : rs[j]? = some s) {b : Nat} (hb : b ∈ own s.A) : b ∈ rs.flatMap (own ·.A) := List.mem_flatMap.2 ⟨s, List.mem_of_getElem? hs, hb⟩
theorem ne_ownBlock {A : Option Addr} {n c g : Nat} (h : g ∉ own A) : (Value.slice A n c).ownBlock = none ∨ (Value.slice A n c).ownBlock ≠ some g := by
  rcases A with _ | a
  · exact .inl rfl
  · refine .inr fun e => h ?_
    have : a.block = g := Option.some.inj e
    simp [own, this]
theorem G1.set (h : G1 w0 W gl rs i k) (R : GRows gl rs) {g n c : Nat} (hs : rs[i]? = some ⟨some ⟨g, 0, none⟩, n, c⟩) {ys : List PMk} (hl : ys.length = n) (hk : k < n) (hg : W.grownBy W' (some g)) (ho : OwnC mkF 87 W' g c ((negL i k ++ ys.drop k).set k (negM i k))) : G1 w0 W' gl rs i (k + 1) := by
  have hb : But [g] W W' := But.ofGrown hg (fun b e => .inl (by obtain rfl := Option.some.inj e; simp))
  refine ⟨h.lst.but hb (fun b off e => ?_), fun j s hj hlt => ?_, fun s hj => ?_, fun j s hj hlt => ?_, h.but.trans hb (fun b hb2 => .inl (mem_rows hs (by simpa [own] using hb2)))⟩
  · obtain ⟨rfl, _⟩ : gl = b ∧ 0 = off := by simpa using e
    have := R.gl _ (List.mem_of_getElem? hs)
    simpa [own] using this
  · exact (h.old j s hj hlt).grown hg (ne_ownBlock (R.dis i j _ _ hs hj (by omega) g (by simp [own])))
  · obtain rfl := Option.some.inj (hs.symm.trans hj)
    refine ⟨ys, hl, hk, ?_⟩
    rw [neg_set i ys k (by omega)] at ho
    have := ho.v (Nat.zero_le g)
    have hlen : (negL i (k + 1) ++ ys.drop (k + 1)).length = n := by rw [List.length_append, negL_length, List.length_drop]; omega
    rw [hlen] at this
    exact this
  · obtain ⟨zs, h1, h2⟩ := h.new j s hj hlt
    exact ⟨zs, h1, h2.grown hg (ne_ownBlock (R.dis i j _ _ hs hj (by omega) g (by simp [own])))⟩
theorem G1.next (h : G1 w0 W gl rs i k) {s : Sl} (hs : rs[i]? = some s) (hk : s.n ≤ k) : G1 w0 W gl rs (i + 1) 0 := by
  refine ⟨h.lst, fun j t hj hlt => ?_, fun t ht => ?_, fun j t hj hlt => h.new j t hj (by omega), h.but⟩
  · by_cases hji : j = i
    · subst hji
      obtain rfl := Option.some.inj (hs.symm.trans hj)
      obtain ⟨ys, h1, h2, h3⟩ := h.cur s hs
      have hkn : k = s.n := by omega
      subst hkn
      rw [List.drop_of_length_le (by omega), List.append_nil] at h3
      exact h3
    · exact h.old j t hj (by omega)
  · obtain ⟨ys, h1, h2⟩ := h.new (i + 1) t ht (by omega)
    exact ⟨ys, h1, Nat.zero_le _, by simpa [negL] using h2⟩
end
theorem G1.cell {w0 W : World} {gl i k : Nat} {rs : List Sl} (h : G1 w0 W gl rs i k) {j : Nat} {s : Sl} (hj : rs[j]? = some s) : W.cell? ⟨gl, j, none⟩ = some (.slice s.A s.n s.c) := by
  obtain ⟨hlt, rfl⟩ := List.getElem?_eq_some_iff.1 hj
  obtain ⟨b, off, e, hc⟩ := h.lst.at_ j hlt
  obtain ⟨rfl, rfl⟩ : gl = b ∧ 0 = off := by simpa using e
  have := hc 0 _ rfl
  simpa [slF] using this

theorem G1.curC {w0 W : World} {gl i k : Nat} {rs : List Sl} (h : G1 w0 W gl rs i k) {A : Option Addr} {n c : Nat} (hs : rs[i]? = some ⟨A, n, c⟩) (hk : k < n) : ∃ (g : Nat) (ys : List PMk), A = some ⟨g, 0, none⟩ ∧ Hid (ys.length = n) ∧ Hid (k < (negL i k ++ ys.drop k).length) ∧ OwnC mkF 87 W g c (negL i k ++ ys.drop k) := by
  obtain ⟨ys, h1, h2, h3⟩ := h.cur _ hs
  have h1' : ys.length = n := h1
  have hl : (negL i k ++ ys.drop k).length = n := by rw [List.length_append, negL_length, List.length_drop]; omega
  have h3' : OwnV mkF 87 0 W (.slice A n c) (negL i k ++ ys.drop k) := h3
  rcases h3'.c with ⟨e, h0⟩ | ⟨g, cap, e, _, hc⟩
  · rw [h0] at hl
    simp at hl
    omega
  · injection e with e1 e2 e3
    subst e1 e3
    exact ⟨g, ys, rfl, Lib.hid h1', Lib.hid (by rw [hl]; exact hk), hc⟩
/-- In the midst of the second loop: what is known behind i whole rows. -/
structure G3 (w0 W : World) (gl : Nat) (rs : List Sl) (i : Nat) (G : Option Addr) (cg : Nat) (gs : List Sl) : Prop where
  lst : Rd slF W (some ⟨gl, 0, none⟩) rs
  gv : OwnO slF W G cg gs
  gn : gs.length = i
  gf : ∀ b ∈ own G, w0.heap.size ≤ b
  old : ∀ (j : Nat) (s : Sl), rs[j]? = some s → j < i → ∃ t : Sl, gs[j]? = some t ∧ t.n = s.n + 64 ∧ Rd mkF W s.A (negL j s.n) ∧ Rd mkF W t.A (negL j s.n ++ posL j 64) ∧ (∀ b ∈ own t.A, b < W.heap.size ∧ b ∉ own G ∧ (b ∈ own s.A ∨ w0.heap.size ≤ b))
  but : But (rs.flatMap (own ·.A)) w0 W
structure GLow (w0 : World) (gl : Nat) (rs : List Sl) : Prop where
  low : ∀ s ∈ rs, ∀ b ∈ own s.A, b < w0.heap.size
  gl : gl < w0.heap.size
/-- The rows that are not yet grown. -/
def G3n (W : World) (rs : List Sl) (i : Nat) : Prop := ∀ (j : Nat) (s : Sl), rs[j]? = some s → i ≤ j → OwnO mkF W s.A s.c (negL j s.n)
/-- The row that grows. -/
structure G3x (w0 W : World) (s : Sl) (i k : Nat) (G X : Option Addr) (cx : Nat) (gs : List Sl) : Prop where
  x : OwnO mkF W X cx (negL i s.n ++ posL i k)
  xo : Rd mkF W s.A (negL i s.n)
  xf : X = s.A ∨ ∀ b ∈ own X, w0.heap.size ≤ b
  xg : ∀ b ∈ own X, b ∉ own G
  xd : ∀ (j : Nat) (t : Sl), gs[j]? = some t → ∀ b ∈ own t.A, b ∉ own X
theorem But.two {bs : List Nat} {w0 W W' : World} {A : Option Addr} (h : But bs w0 W) (k : But (own A) W W') (hA : ∀ b ∈ own A, b ∈ bs ∨ w0.heap.size ≤ b) : But bs w0 W' := h.trans k hA
section
variable {w0 W W' : World} {gl i k cg cx : Nat} {rs gs : List Sl} {G X : Option Addr} {s : Sl}
theorem G3.on (h : G3 w0 W gl rs i G cg gs) (hb : Below W.heap.size W W') : G3 w0 W' gl rs i G cg gs :=
  ⟨h.lst.below hb, h.gv.on hb, h.gn, h.gf, fun j s hj hlt => by
    obtain ⟨t, h1, h2, h3, h4, h5⟩ := h.old j s hj hlt
    exact ⟨t, h1, h2, h3.below hb, h4.below hb, fun b hb2 => ⟨Nat.lt_of_lt_of_le (h5 b hb2).1 hb.size, (h5 b hb2).2⟩⟩, h.but.trans (But.ofBelow hb (bs := [])) (by simp)⟩
theorem G3n.on (h : G3n W rs i) (hb : Below W.heap.size W W') : G3n W' rs i := fun j s hj hlt => (h j s hj hlt).on hb
theorem G3x.on (h : G3x w0 W s i k G X cx gs) (hb : Below W.heap.size W W') : G3x w0 W' s i k G X cx gs := ⟨h.x.on hb, h.xo.below hb, h.xf, h.xg, h.xd⟩
theorem G3.cell (h : G3 w0 W gl rs i G cg gs) {j : Nat} (hj : rs[j]? = some s) : W.cell? ⟨gl, j, none⟩ = some (.slice s.A s.n s.c) := by
  obtain ⟨hlt, rfl⟩ := List.getElem?_eq_some_iff.1 hj
  obtain ⟨b, off, e, hc⟩ := h.lst.at_ j hlt
  obtain ⟨rfl, rfl⟩ : gl = b ∧ 0 = off := by simpa using e
  have := hc 0 _ rfl
  simpa [slF] using this
/-- The second loop begins. -/
theorem G3.first (h : G1 w0 W gl rs rs.length 0) : G3 w0 W gl rs 0 none 0 [] ∧ G3n W rs 0 := by
  refine ⟨⟨h.lst, OwnO.nil _ _, rfl, by simp [own], fun j s _ hlt => absurd hlt (Nat.not_lt_zero _), h.but⟩, fun j s hj _ => ?_⟩
  have hlt := (List.getElem?_eq_some_iff.1 hj).1
  have ho := h.old j s hj hlt
  have hn : s.n = (negL j s.n).length := (negL_length _ _).symm
  obtain ⟨A, cap, e, hO, _⟩ := OwnO.ofRow (F := mkF) (n := (negL j s.n).length) ho rfl
  injection e with e1 e2 e3
  rw [e1, e3]
  exact hO
/-- A row begins to grow. -/
theorem G3x.first (R : GRows gl rs) (L : GLow w0 gl rs) (h : G3 w0 W gl rs i G cg gs) (hn : G3n W rs i) (hs : rs[i]? = some s) : G3x w0 W s i 0 G s.A s.c gs := by
  have hm := List.mem_of_getElem? hs
  refine ⟨by simpa [posL] using hn i s hs (Nat.le_refl _), (hn i s hs (Nat.le_refl _)).rd, .inl rfl, fun b hb hb2 => ?_, fun j t hj b hb hb2 => ?_⟩
  · have h1 := h.gf b hb2
    have h2 := L.low s hm b hb
    omega
  · have hjl : j < i := by rw [← h.gn]; exact (List.getElem?_eq_some_iff.1 hj).1
    have hjr : j < rs.length := by have := (List.getElem?_eq_some_iff.1 hs).1; omega
    obtain ⟨u, h1, _, _, _, h5⟩ := h.old j rs[j] (List.getElem?_eq_getElem hjr) hjl
    obtain rfl := Option.some.inj (hj.symm.trans h1)
    rcases (h5 b hb).2.2 with h6 | h6
    · exact R.dis j i _ _ (List.getElem?_eq_getElem hjr) hs (by omega) b h6 hb2
    · have := L.low s hm b hb2
      omega
/-- One element more. -/
theorem G3x.grow (R : GRows gl rs) (L : GLow w0 gl rs) (h : G3 w0 W gl rs i G cg gs) (hn : G3n W rs (i + 1)) (hx : G3x w0 W s i k G X cx gs) (hs : rs[i]? = some s)
    {X' : Option Addr} {cx' : Nat} (ho : OwnO mkF W' X' cx' ((negL i s.n ++ posL i k) ++ [posM i k])) (hr : Rd mkF W' X (negL i s.n ++ posL i k)) (hb : But (own X) W W') (hf : X' = X ∨ ∀ b ∈ own X', W.heap.size ≤ b) (hlt : ∀ b ∈ own X', b < W'.heap.size) :
    G3 w0 W' gl rs i G cg gs ∧ G3n W' rs (i + 1) ∧ G3x w0 W' s i (k + 1) G X' cx' gs := by
  have hm := List.mem_of_getElem? hs
  have hw0 : w0.heap.size ≤ W.heap.size := h.but.size
  have hXs : ∀ b ∈ own X, b ∈ own s.A ∨ w0.heap.size ≤ b := fun b hb2 => by
    rcases hx.xf with h1 | h1
    · exact .inl (h1 ▸ hb2)
    · exact .inr (h1 b hb2)
  refine ⟨⟨h.lst.but hb (fun b off e hb2 => ?_), h.gv.but hb (fun b hb1 hb2 => hx.xg b hb2 hb1), h.gn, h.gf, fun j t hj hlt2 => ?_, h.but.trans hb (fun b hb2 => ?_)⟩, fun j t hj hij => ?_, ⟨?_, ?_, ?_, ?_, ?_⟩⟩
  · obtain ⟨rfl, _⟩ : gl = b ∧ 0 = off := by simpa using e
    rcases hXs gl hb2 with h1 | h1
    · exact R.gl s hm h1
    · have := L.gl; omega
  · obtain ⟨u, h1, h2, h3, h4, h5⟩ := h.old j t hj hlt2
    refine ⟨u, h1, h2, h3.but hb (fun b off e hb2 => ?_), h4.but hb (fun b off e hb2 => hx.xd j u h1 b (own_addr e) hb2), fun b hb2 => ⟨Nat.lt_of_lt_of_le (h5 b hb2).1 hb.size, (h5 b hb2).2⟩⟩
    have hbo := own_addr e
    rcases hXs b hb2 with h6 | h6
    · exact R.dis j i _ _ hj hs (by omega) b hbo h6
    · have := L.low t (List.mem_of_getElem? hj) b hbo
      omega
  · rcases hXs b hb2 with h1 | h1
    · exact .inl (mem_rows hs h1)
    · exact .inr h1
  · refine (hn j t hj hij).but hb (fun b hb1 hb2 => ?_)
    rcases hXs b hb2 with h6 | h6
    · exact R.dis j i _ _ hj hs (by omega) b hb1 h6
    · have := L.low t (List.mem_of_getElem? hj) b hb1
      omega
  · rw [posL_succ, ← List.append_assoc]
    exact ho
  · rcases hx.xf with h1 | h1
    · rw [← h1]
      exact hr.foreZ
    · refine hx.xo.but hb (fun b off e hb2 => ?_)
      have h2 := L.low s hm b (own_addr e)
      have h3 := h1 b hb2
      omega
  · rcases hf with h1 | h1
    · rw [h1]; exact hx.xf
    · exact .inr fun b hb2 => Nat.le_trans hw0 (h1 b hb2)
  · intro b hb1 hb2
    rcases hf with h1 | h1
    · exact hx.xg b (h1 ▸ hb1) hb2
    · have h3 := h1 b hb1
      have h4 := h.gv.lt b hb2
      omega
  · intro j t hj b hb1 hb2
    rcases hf with h1 | h1
    · exact hx.xd j t hj b hb1 (h1 ▸ hb2)
    · have h3 := h1 b hb2
      have hjl : j < i := by rw [← h.gn]; exact (List.getElem?_eq_some_iff.1 hj).1
      have hjr : j < rs.length := by have := (List.getElem?_eq_some_iff.1 hs).1; omega
      obtain ⟨u, h6, _, _, _, h5⟩ := h.old j rs[j] (List.getElem?_eq_getElem hjr) hjl
      obtain rfl := Option.some.inj (hj.symm.trans h6)
      have := (h5 b hb1).1
      omega
/-- The grown row is put to the others. -/
theorem G3.put (R : GRows gl rs) (L : GLow w0 gl rs) (h : G3 w0 W gl rs i G cg gs) (hn : G3n W rs (i + 1)) (hx : G3x w0 W s i 64 G X cx gs) (hs : rs[i]? = some s)
    {G' : Option Addr} {cg' : Nat} (ho : OwnO slF W' G' cg' (gs ++ [⟨X, s.n + 64, cx⟩])) (hb : But (own G) W W') (hf : G' = G ∨ ∀ b ∈ own G', W.heap.size ≤ b) :
    G3 w0 W' gl rs (i + 1) G' cg' (gs ++ [⟨X, s.n + 64, cx⟩]) ∧ G3n W' rs (i + 1) := by
  have hm := List.mem_of_getElem? hs
  have hw0 : w0.heap.size ≤ W.heap.size := h.but.size
  have hG' : ∀ b, b < W.heap.size → b ∉ own G → b ∉ own G' := fun b h1 h2 h3 => by
    rcases hf with h4 | h4
    · exact h2 (h4 ▸ h3)
    · have := h4 b h3
      omega
  refine ⟨⟨h.lst.but hb (fun b off e hb2 => ?_), ho, by simp [h.gn], fun b hb2 => ?_, fun j t hj hlt => ?_, h.but.trans hb (fun b hb2 => .inr (h.gf b hb2))⟩, fun j t hj hij => ?_⟩
  · obtain ⟨rfl, _⟩ : gl = b ∧ 0 = off := by simpa using e
    have h1 := h.gf gl hb2
    have := L.gl
    omega
  · rcases hf with h4 | h4
    · exact h.gf b (h4 ▸ hb2)
    · exact Nat.le_trans hw0 (h4 b hb2)
  · by_cases hji : j = i
    · subst hji
      obtain rfl := Option.some.inj (hs.symm.trans hj)
      refine ⟨⟨X, s.n + 64, cx⟩, by rw [List.getElem?_append_right (by rw [h.gn]; exact Nat.le_refl _), h.gn]; simp, rfl, hx.xo.but hb (fun b off e hb2 => ?_), hx.x.rd.but hb (fun b off e hb2 => hx.xg b (own_addr e) hb2), fun b hb2 => ⟨Nat.lt_of_lt_of_le (hx.x.lt b hb2) hb.size, hG' b (hx.x.lt b hb2) (hx.xg b hb2), ?_⟩⟩
      · have h1 := h.gf b hb2
        have h2 := L.low s hm b (own_addr e)
        omega
      · rcases hx.xf with h1 | h1
        · exact .inl (h1 ▸ hb2)
        · exact .inr (h1 b hb2)
    · obtain ⟨u, h1, h2, h3, h4, h5⟩ := h.old j t hj (by omega)
      refine ⟨u, by rw [List.getElem?_append_left (List.getElem?_eq_some_iff.1 h1).1]; exact h1, h2, h3.but hb (fun b off e hb2 => ?_), h4.but hb (fun b off e hb2 => (h5 b (own_addr e)).2.1 hb2), fun b hb2 => ⟨Nat.lt_of_lt_of_le (h5 b hb2).1 hb.size, hG' b (h5 b hb2).1 (h5 b hb2).2.1, (h5 b hb2).2.2⟩⟩
      have h6 := h.gf b hb2
      have h7 := L.low t (List.mem_of_getElem? hj) b (own_addr e)
      omega
  · refine (hn j t hj hij).but hb (fun b hb1 hb2 => ?_)
    have h6 := h.gf b hb2
    have h7 := L.low t (List.mem_of_getElem? hj) b hb1
    omega
end
theorem Rd.six2 {W : World} {A : Option Addr} {xs : List PMk} (h : Rd mkF W A xs) {k : Nat} {x : PMk} (hx : xs[k]? = some x) : ∃ b off, A = some ⟨b, off, none⟩ ∧ SixAt W b (off + k * 6) x := by
  obtain ⟨b, off, y, e, hy, _, hc⟩ := h.six k (List.getElem?_eq_some_iff.1 hx).1
  obtain rfl := Option.some.inj (hx.symm.trans hy.out)
  exact ⟨b, off, e, hc⟩
theorem neg_at {j n k : Nat} {ys : List PMk} (hk : k < n) : (negL j n ++ ys)[k]? = some (negM j k) := by
  rw [List.getElem?_append_left (by rw [negL_length]; exact hk)]
  simp [negL, hk]
theorem neg_at0 {j n k : Nat} (hk : k < n) : (negL j n)[k]? = some (negM j k) := by simp [negL, hk]
theorem pos_at {j n k : Nat} (hk : n ≤ k) (hk2 : k < n + 64) : (negL j n ++ posL j 64)[k]? = some (posM j (k - n)) := by
  rw [List.getElem?_append_right (by rw [negL_length]; exact hk), negL_length]
  simp only [posL, List.getElem?_map]
  rw [List.getElem?_range (by omega)]
  rfl
theorem G3.gcell {w0 W : World} {gl i cg : Nat} {rs gs : List Sl} {G : Option Addr} (h : G3 w0 W gl rs i G cg gs) {j : Nat} {t : Sl} (hj : gs[j]? = some t) : ∃ b off, G = some ⟨b, off, none⟩ ∧ W.cell? ⟨b, off + j, none⟩ = some (.slice t.A t.n t.c) := by
  obtain ⟨hlt, rfl⟩ := List.getElem?_eq_some_iff.1 hj
  obtain ⟨b, off, e, hc⟩ := h.gv.rd.at_ j hlt
  have := hc 0 _ rfl
  exact ⟨b, off, e, by simpa [slF] using this⟩
theorem Blk.rdSl {w : World} {b : Nat} {t : TypeId} {A : Option Addr} {n c : Nat} (h : Blk w b #[.slice A n c] t) : Rd slF w (some ⟨b, 0, none⟩) [⟨A, n, c⟩] :=
  ⟨fun i hi => ⟨b, 0, rfl, fun j u hu => by
    obtain rfl : i = 0 := by simp at hi; omega
    rw [h.cell]
    simpa [slF] using hu⟩⟩
set_option maxHeartbeats 8000000 in
set_option maxRecDepth 100000 in
theorem grown_any (gl cl : Nat) (rs : List Sl) (w : World) (R : GRows gl rs) (L : GLow w gl rs) (h : G1 w w gl rs 0 0) (hn : rs.length ≤ 100) (hs : ∀ s ∈ rs, s.n ≤ 5000) :
    Calls Tryd.prog 76 #[.slice (some ⟨gl, 0, none⟩) rs.length cl] w fun e w' => e = .returned (.bool true) ∧ But (rs.flatMap (own ·.A)) w w' := by
  have HS := Lib.hid hs
  have HR := Lib.hid R
  have HL := Lib.hid L
  clear hs R L
  go_enter Tryd.func76, Tryd.ntmps76
  go_wp2_with fail
  go_loopw [3, 4] (fun i kk wr => ∃ a : Nat, a ≤ rs.length ∧ i = .int .i64 a ∧ G1 w wr gl rs a 0) (fun i kk wr => rs.length - (intOf i).toNat)
  case atStart => exact ⟨0, Nat.zero_le _, rfl, h⟩
  case round =>
    clear h
    obtain ⟨a, ha, rfl, hG⟩ := hrel
    by_cases hlt : a < rs.length
    · obtain ⟨⟨A, n, c⟩, hsj⟩ : ∃ s, rs[a]? = some s := ⟨_, List.getElem?_eq_getElem hlt⟩
      have HJ := Lib.hid hsj
      have hnn := HS.out _ (List.mem_of_getElem? hsj)
      clear hsj
      go_wp2_with fail
      obtain ⟨wo, hwo⟩ : ∃ wo : World, wo = wr := ⟨_, rfl⟩
      go_loopw [4] (fun kk wx => ∃ k : Nat, k ≤ n ∧ kk = .int .i64 k ∧ G1 w wx gl rs a k) (fun kk wx => n - (intOf kk).toNat)
      case atStart => exact ⟨0, Nat.zero_le _, rfl, hG⟩
      case round =>
        clear hG
        obtain ⟨k, hk, rfl, hG⟩ := hrel
        have e0 := hG.cell HJ.out
        dsimp only at e0
        by_cases hlt2 : k < n
        · obtain ⟨g, ys, rfl, hy, hl, hO⟩ := hG.curC HJ.out hlt2
          have q1 : IntKind.i64.wrap (1000 * (a : Int)) = 1000 * (a : Int) := IntWalk.i64_in _ (by omega)
          have q2 : IntKind.i64.wrap (-1 - 1000 * (a : Int)) = -1 - 1000 * (a : Int) := IntWalk.i64_in _ (by omega)
          have q3 : IntKind.i64.wrap (-1 - 1000 * (a : Int) - (k : Int)) = -1 - 1000 * (a : Int) - (k : Int) := IntWalk.i64_in _ (by omega)
          have hoff : k * 6 = k * mkF.n := rfl
          go_wp2_with (refine at_st 38 rfl ?_; go_must (refine ev_setF El.mark _ rfl _ _ rfl g c _ k _ (negM a k) hoff hl.out rfl rfl hO ?_); intro w2 hO2 hg2)
          go_roundw
          case rel => exact ⟨k + 1, by omega, by go_num, hG.set HR.out HJ.out hy.out hlt2 hg2 hO2⟩
          case measure => simp [intOf]; omega
        · have hkn : n ≤ k := by omega
          go_wp2_with fail
          go_roundw
          case rel => exact ⟨a + 1, by omega, by go_num, hG.next HJ.out hkn⟩
          case measure => simp [intOf]; omega
    · have hE : a = rs.length := by omega
      have hG2 : G1 w wr gl rs rs.length 0 := hE ▸ hG
      obtain ⟨hA, hN⟩ := G3.first hG2
      clear hG hG2 hE
      go_wp2_with fail
      obtain ⟨wo, hwo⟩ : ∃ wo : World, wo = wr := ⟨_, rfl⟩
      go_loopw [5, 6, 7, 8] (fun gv i xv kv wx => ∃ (a cg : Nat) (G : Option Addr) (gs : List Sl), a ≤ rs.length ∧ i = .int .i64 a ∧ gv = .slice G a cg ∧ G3 w wx gl rs a G cg gs ∧ G3n wx rs a) (fun gv i xv kv wx => rs.length - (intOf i).toNat)
      case atStart => exact ⟨0, 0, none, [], Nat.zero_le _, rfl, rfl, hA, hN⟩
      case round =>
        clear hA hN
        obtain ⟨a, cg, G, gs, ha, rfl, rfl, hA, hN⟩ := hrel
        by_cases hlt : a < rs.length
        · obtain ⟨⟨A, n, c⟩, hsj⟩ : ∃ s, rs[a]? = some s := ⟨_, List.getElem?_eq_getElem hlt⟩
          have HJ := Lib.hid hsj
          have hnn := HS.out _ (List.mem_of_getElem? hsj)
          have hX := G3x.first HR.out HL.out hA hN hsj
          have hM : G3n wr rs (a + 1) := fun j s hj hij => hN j s hj (by omega)
          have e0 := hA.cell hsj
          dsimp only at e0 hnn hX
          clear hsj hN
          go_wp2_with fail
          obtain ⟨wo2, hwo2⟩ : ∃ wo2 : World, wo2 = wr := ⟨_, rfl⟩
          go_loopw [7, 8] (fun xv kk wx => ∃ (k cx : Nat) (X : Option Addr), k ≤ 64 ∧ kk = .int .i64 k ∧ xv = .slice X (n + k) cx ∧ G3 w wx gl rs a G cg gs ∧ G3n wx rs (a + 1) ∧ G3x w wx ⟨A, n, c⟩ a k G X cx gs) (fun xv kk wx => 64 - (intOf kk).toNat)
          case atStart => exact ⟨0, c, A, Nat.zero_le _, rfl, rfl, hA, hM, hX⟩
          case round =>
            clear hA hM hX e0
            obtain ⟨k, cx, X, hk, rfl, rfl, hA, hM, hX⟩ := hrel
            by_cases hlt2 : k < 64
            · have q1 : IntKind.i64.wrap (1000 * (a : Int)) = 1000 * (a : Int) := IntWalk.i64_in _ (by omega)
              have q2 : IntKind.i64.wrap (1 + 1000 * (a : Int)) = 1 + 1000 * (a : Int) := IntWalk.i64_in _ (by omega)
              have q3 : IntKind.i64.wrap (1 + 1000 * (a : Int) + (k : Int)) = 1 + 1000 * (a : Int) + (k : Int) := IntWalk.i64_in _ (by omega)
              have hlen : Hid (n + k = (negL a n ++ posL a k).length) := Lib.hid (by rw [List.length_append, negL_length, posL_length])
              have hsz : Hid (((negL a n ++ posL a k).length + [posM a k].length) * 48 ≤ 140737488355328) := Lib.hid (by rw [← hlen.out]; simp; omega)
              go_wp2_with (at_builtin; refine ev_appZ El.mark.z' (by decide) (by decide) _ rfl _ _ 76 rfl Tryd.underlying76 X cx (negL a n ++ posL a k) [posM a k] ⟨wr.heap.size, 0, none⟩ (n + k) 1 1 hlen.out rfl rfl rfl (hX.x.alloc _) (Blk.rdMk (Blk.new wr _ _)) (by simp) hsz.out ?_; intro X' cx' w2 ho hrd hb hf)
              have hg := G3x.grow HR.out HL.out (hA.on (below_alloc (Below.refl _ _) _)) (hM.on (below_alloc (Below.refl _ _) _)) (hX.on (below_alloc (Below.refl _ _) _)) HJ.out ho hrd hb hf ho.lt
              go_roundw
              case rel => exact ⟨k + 1, cx', X', by omega, by go_num, rfl, hg.1, hg.2.1, hg.2.2⟩
              case measure => simp [intOf]; omega
            · have hk64 : k = 64 := by omega
              subst hk64
              have hsz : Hid ((gs.length + [(⟨X, n + 64, cx⟩ : Sl)].length) * 24 ≤ 140737488355328) := Lib.hid (by rw [hA.gn]; simp; omega)
              have hgn : Hid (a = gs.length) := Lib.hid hA.gn.symm
              go_wp2_with (at_builtin; refine ev_appZ ElZ.sl (by decide) (by decide) _ rfl _ _ 130 rfl Tryd.underlying130 G cg gs [⟨X, n + 64, cx⟩] ⟨wr.heap.size, 0, none⟩ a 1 1 hgn.out rfl rfl rfl (hA.gv.alloc _) (Blk.rdSl (Blk.new wr _ _)) (by simp) hsz.out ?_; intro G' cg' w2 ho hrd hb hf)
              have hg := G3.put HR.out HL.out (hA.on (below_alloc (Below.refl _ _) _)) (hM.on (below_alloc (Below.refl _ _) _)) (hX.on (below_alloc (Below.refl _ _) _)) HJ.out ho hb hf
              go_roundw
              case rel => exact ⟨a + 1, cg', G', _, by omega, by go_num, rfl, hg.1, hg.2⟩
              case measure => simp [intOf]; omega
        · have hE : a = rs.length := by omega
          subst hE
          clear hN
          go_wp2_with fail
          obtain ⟨wo3, hwo3⟩ : ∃ wo3 : World, wo3 = wr := ⟨_, rfl⟩
          go_loopw [9, 10, 11] (fun i nn kk wx => ∃ a : Nat, a ≤ rs.length ∧ i = .int .i64 a ∧ G3 w wx gl rs rs.length G cg gs) (fun i nn kk wx => rs.length - (intOf i).toNat)
          case atStart => exact ⟨0, Nat.zero_le _, rfl, hA⟩
          case round =>
            clear hA
            obtain ⟨a, ha, rfl, hA⟩ := hrel
            by_cases hlt : a < rs.length
            · obtain ⟨⟨A, n, c⟩, hsj⟩ : ∃ s, rs[a]? = some s := ⟨_, List.getElem?_eq_getElem hlt⟩
              obtain ⟨⟨T, tn, ct⟩, htj, h1, h2, h3, h4⟩ := hA.old a _ hsj hlt
              dsimp only at h1 h2 h3 h4
              subst h1
              have HJ := Lib.hid hsj
              have HT := Lib.hid htj
              have hnn := HS.out _ (List.mem_of_getElem? hsj)
              have e0 := hA.cell hsj
              obtain ⟨bg, og, rfl, e1⟩ := hA.gcell htj
              dsimp only at e0 e1 hnn
              clear hsj htj h2 h3 h4
              have p1 : IntKind.i64.wrap ((n : Int) + 64) = (n : Int) + 64 := IntWalk.i64_in _ (by omega)
              go_wp2_with fail
              obtain ⟨wo4, hwo4⟩ : ∃ wo4 : World, wo4 = wr := ⟨_, rfl⟩
              go_loopw [11] (fun kk wx => ∃ k : Nat, k ≤ n + 64 ∧ kk = .int .i64 k ∧ G3 w wx gl rs rs.length (some ⟨bg, og, none⟩) cg gs) (fun kk wx => n + 64 - (intOf kk).toNat)
              case atStart => exact ⟨0, Nat.zero_le _, rfl, hA⟩
              case round =>
                clear hA e0 e1
                obtain ⟨k, hk, rfl, hA⟩ := hrel
                by_cases hlt2 : k < n + 64
                · obtain ⟨⟨T', tn', ct'⟩, htj', h1, h2, h3, h4⟩ := hA.old a _ HJ.out hlt
                  have ht := Option.some.inj (HT.out.symm.trans htj')
                  injection ht with ht1 ht2 ht3
                  subst ht1 ht3
                  have e0 := hA.cell HJ.out
                  obtain ⟨bg', og', hG', e1⟩ := hA.gcell HT.out
                  obtain ⟨rfl, rfl⟩ : bg = bg' ∧ og = og' := by simpa using hG'
                  dsimp only at e0 e1 h2 h3
                  have q1 : IntKind.i64.wrap (1000 * (a : Int)) = 1000 * (a : Int) := IntWalk.i64_in _ (by omega)
                  have q2 : IntKind.i64.wrap (-1 - 1000 * (a : Int)) = -1 - 1000 * (a : Int) := IntWalk.i64_in _ (by omega)
                  have q3 : IntKind.i64.wrap (-1 - 1000 * (a : Int) - (k : Int)) = -1 - 1000 * (a : Int) - (k : Int) := IntWalk.i64_in _ (by omega)
                  have q4 : IntKind.i64.wrap (1 + 1000 * (a : Int)) = 1 + 1000 * (a : Int) := IntWalk.i64_in _ (by omega)
                  have q5 : IntKind.i64.wrap (1 + 1000 * (a : Int) + (k : Int)) = 1 + 1000 * (a : Int) + (k : Int) := IntWalk.i64_in _ (by omega)
                  have q6 : IntKind.i64.wrap (1 + 1000 * (a : Int) + (k : Int) - (n : Int)) = 1 + 1000 * (a : Int) + (k : Int) - (n : Int) := IntWalk.i64_in _ (by omega)
                  have q7 : mkEq ⟨-1 - 1000 * (a : Int) - (k : Int), ⟨0, 0, 0, 0, 0⟩⟩ ⟨-1 - 1000 * (a : Int) - (k : Int), ⟨0, 0, 0, 0, 0⟩⟩ = true := mkEq_true.2 rfl
                  have q8 : mkEq ⟨1 + 1000 * (a : Int) + (k : Int) - (n : Int), ⟨0, 0, 0, 0, 0⟩⟩ ⟨1 + 1000 * (a : Int) + (k : Int) - (n : Int), ⟨0, 0, 0, 0, 0⟩⟩ = true := mkEq_true.2 rfl
                  by_cases hkn : k < n
                  · obtain ⟨b1, o1, rfl, x0, x1, x2, x3, x4, x5⟩ := h2.six2 (neg_at0 hkn)
                    obtain ⟨b2, o2, rfl, y0, y1, y2, y3, y4, y5⟩ := h3.six2 (neg_at hkn)
                    simp only [negM] at x0 x1 x2 x3 x4 x5 y0 y1 y2 y3 y4 y5
                    clear htj' h1 h2 h3 h4 ht2 hG'
                    go_wp2_with fail
                    go_roundw
                    case rel => exact ⟨k + 1, by omega, by go_num, hA⟩
                    case measure => simp [intOf]; omega
                  · obtain ⟨b2, o2, rfl, y0, y1, y2, y3, y4, y5⟩ := h3.six2 (pos_at (by omega) hlt2)
                    have e2 : ((k - n : Nat) : Int) = (k : Int) - (n : Int) := by omega
                    simp only [posM] at y0 y1 y2 y3 y4 y5
                    have e3 : 1 + 1000 * (a : Int) + ((k - n : Nat) : Int) = 1 + 1000 * (a : Int) + (k : Int) - (n : Int) := by omega
                    rw [e3] at y0
                    clear htj' h1 h2 h3 h4 ht2 hG' e2 e3
                    go_wp2_with fail
                    go_roundw
                    case rel => exact ⟨k + 1, by omega, by go_num, hA⟩
                    case measure => simp [intOf]; omega
                · go_wp2_with fail
                  go_roundw
                  case rel => exact ⟨a + 1, by omega, by go_num, hA⟩
                  case measure => simp [intOf]; omega
            · go_wp2_with fail
              go_ret
              exact ⟨rfl, hA.but⟩
end Go.Proofs.YtkicbnkacjnhoaaDoor
