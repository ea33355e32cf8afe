/- A side in memory: its text, its space, what it sent that is under way, what it took away; what becomes of it when one field is written. -/
import Derived.Test.YtkicbnkacjnhoaaDoorOwnO
import Derived.Test.YtkicbnkacjnhoaaDoorApply
import Derived.Test.YtkicbnkacjnhoaaDoorSpAll
namespace Go.Proofs.YtkicbnkacjnhoaaDoor
open Go.RowKit
set_option linter.unusedVariables false
set_option linter.unusedSimpArgs false

/-- No block lies in two of the lists. -/
def Apart (ls : List (List Nat)) : Prop := ls.Pairwise fun a b => ∀ x ∈ a, x ∉ b
theorem Apart.get {ls : List (List Nat)} (h : Apart ls) (i j : Nat) {a b : List Nat} (hi : ls[i]? = some a) (hj : ls[j]? = some b) (hne : i ≠ j) : ∀ x ∈ a, x ∉ b := by
  obtain ⟨i1, rfl⟩ := List.getElem?_eq_some_iff.1 hi
  obtain ⟨j1, rfl⟩ := List.getElem?_eq_some_iff.1 hj
  have hp := List.pairwise_iff_getElem.1 h
  rcases Nat.lt_or_gt_of_ne hne with h1 | h1
  · exact hp i j i1 j1 h1
  · exact fun x hx hy => hp j i j1 i1 h1 x hy hx
theorem Apart.set {ls : List (List Nat)} (h : Apart ls) {N : Nat} (lt : ∀ l ∈ ls, ∀ x ∈ l, x < N) (i : Nat) {a l : List Nat} (hi : ls[i]? = some a) (hl : ∀ x ∈ l, x ∈ a ∨ N ≤ x) : Apart (ls.set i l) := by
  obtain ⟨i1, rfl⟩ := List.getElem?_eq_some_iff.1 hi
  have hp := List.pairwise_iff_getElem.1 h
  refine List.pairwise_iff_getElem.2 fun j k hj hk hjk x hx hy => ?_
  rw [List.length_set] at hj hk
  rw [List.getElem_set] at hx hy
  split at hx
  · rename_i e
    subst e
    rw [if_neg (by omega)] at hy
    rcases hl x hx with h1 | h1
    · exact hp i k hj hk hjk x h1 hy
    · have := lt _ (List.getElem_mem hk) x hy; omega
  · split at hy
    · rename_i e
      subst e
      rcases hl x hy with h1 | h1
      · exact hp j i hj hk hjk x hx h1
      · have := lt _ (List.getElem_mem hj) x hx; omega
    · exact hp j k hj hk hjk x hx hy
theorem Apart.put {ls : List (List Nat)} (h : Apart ls) (i : Nat) {l : List Nat} (hl : ∀ x ∈ l, ∀ a ∈ ls, x ∉ a) : Apart (ls.set i l) := by
  have hp := List.pairwise_iff_getElem.1 h
  refine List.pairwise_iff_getElem.2 fun j k hj hk hjk x hx hy => ?_
  rw [List.length_set] at hj hk
  rw [List.getElem_set] at hx hy
  split at hx
  · rw [if_neg (by omega)] at hy
    exact hl x hx _ (List.getElem_mem hk) hy
  · split at hy
    · exact hl x hy _ (List.getElem_mem hj) hx
    · exact hp j k hj hk hjk x hx hy

def parF : Flat PPar := ⟨7, fun x => [.int .i64 x.m, .int .i64 x.t, .int .i64 x.o.k, .int .i64 x.o.p, .int .u8 x.o.c, .int .i64 x.o.l, .int .i64 x.o.s], fun _ => rfl⟩
theorem El.par : El Tryd.prog parF 116 56 ⟨0, 0, ⟨0, 0, 0, 0, 0⟩⟩ := ⟨by kernel_rfl, fun x u hu => by
  simp only [parF, List.mem_cons, List.not_mem_nil, or_false] at hu
  rcases hu with rfl | rfl | rfl | rfl | rfl | rfl | rfl <;> rfl⟩
theorem Blk.rdPar {w : World} {b : Nat} {t : TypeId} {x : PPar} (h : Blk w b (parF.cells x).toArray t) : Rd parF w (some ⟨b, 0, none⟩) [x] :=
  ⟨fun i hi => ⟨b, 0, rfl, fun j u hu => by
    obtain rfl : i = 0 := by simp at hi; omega
    rw [h.cell]
    simpa using hu⟩⟩
theorem Blk.rdEl {w : World} {b : Nat} {t : TypeId} {x : PEl} (h : Blk w b (elF.cells x).toArray t) : Rd elF w (some ⟨b, 0, none⟩) [x] :=
  ⟨fun i hi => ⟨b, 0, rfl, fun j u hu => by
    obtain rfl : i = 0 := by simp at hi; omega
    rw [h.cell]
    simpa using hu⟩⟩
theorem Blk.seven {w : World} {b : Nat} {t : TypeId} {v0 v1 v2 v3 v4 v5 v6 : Value} (h : Blk w b #[v0, v1, v2, v3, v4, v5, v6] t) :
    w.cell? ⟨b, 0, none⟩ = some v0 ∧ w.cell? ⟨b, 1, none⟩ = some v1 ∧ w.cell? ⟨b, 2, none⟩ = some v2 ∧ w.cell? ⟨b, 3, none⟩ = some v3 ∧ w.cell? ⟨b, 4, none⟩ = some v4 ∧ w.cell? ⟨b, 5, none⟩ = some v5 ∧ w.cell? ⟨b, 6, none⟩ = some v6 :=
  ⟨h.cell 0, h.cell 1, h.cell 2, h.cell 3, h.cell 4, h.cell 5, h.cell 6⟩

/-- A side, its fields each by itself. -/
structure PSd where
  x : List PEl
  q : List PMk
  last : Int
  made : Int
  took : Int
  way : List PPar
  base : Int
  gone : List PEl
/-- Where a side lies. -/
structure Loc where
  ps : Nat
  T : Option Addr
  cT : Nat
  p : Nat
  A : Option Addr
  c : Nat
  V : Option Addr
  cV : Nat
  G : Option Addr
  cG : Nat
@[reducible] def Loc.ls (L : Loc) : List (List Nat) := [[L.ps], [L.p], own L.T, own L.A, own L.V, own L.G]
def Loc.foot (L : Loc) : List Nat := L.ls.flatten
structure SdAt (W : World) (L : Loc) (s : PSd) (f : Bool) : Prop where
  blk : Blk W L.ps #[.slice L.T s.x.length L.cT, .pointer (some ⟨L.p, 0, none⟩), .int .i64 s.made, .int .i64 s.took, .slice L.V s.way.length L.cV, .int .i64 s.base, .slice L.G s.gone.length L.cG] 108
  tx : Rd elF W L.T s.x
  tl : s.x.length ≤ L.cT
  tb : ∀ b ∈ own L.T, b < W.heap.size
  sp : SpAt W L.p L.A L.c s.q s.last f
  wy : OwnO parF W L.V L.cV s.way
  gn : OwnO elF W L.G L.cG s.gone
  ap : Apart L.ls
theorem mem_foot {L : Loc} {b : Nat} : b ∈ L.foot ↔ b = L.ps ∨ b = L.p ∨ b ∈ own L.T ∨ b ∈ own L.A ∨ b ∈ own L.V ∨ b ∈ own L.G := by
  simp [Loc.foot, Loc.ls]
section
variable {W W' : World} {L : Loc} {s : PSd} {f : Bool}
theorem SdAt.lt (h : SdAt W L s f) : ∀ b ∈ L.foot, b < W.heap.size := fun b hb => by
  rcases mem_foot.1 hb with rfl | rfl | hb | hb | hb | hb
  · exact h.blk.lt
  · exact h.sp.blk.lt
  · exact h.tb b hb
  · exact h.sp.lt b (List.mem_cons_of_mem _ hb)
  · exact h.wy.lt b hb
  · exact h.gn.lt b hb
theorem SdAt.ltL (h : SdAt W L s f) : ∀ l ∈ L.ls, ∀ b ∈ l, b < W.heap.size := fun l hl b hb => h.lt b (List.mem_flatten.2 ⟨l, hl, hb⟩)
theorem SdAt.but {bs : List Nat} (h : SdAt W L s f) (hb : But bs W W') (hn : ∀ b ∈ L.foot, b ∉ bs) : SdAt W' L s f :=
  ⟨h.blk.but hb (hn _ (mem_foot.2 (.inl rfl))), h.tx.but hb (fun b off e => hn b (mem_foot.2 (.inr (.inr (.inl (own_addr e)))))), h.tl, fun b hb' => Nat.lt_of_lt_of_le (h.tb b hb') hb.size,
   h.sp.but hb (fun b hb' => hn b (mem_foot.2 (by rcases List.mem_cons.1 hb' with h1 | h1; exact .inr (.inl h1); exact .inr (.inr (.inr (.inl h1)))))), h.wy.but hb (fun b hb' => hn b (mem_foot.2 (.inr (.inr (.inr (.inr (.inl hb'))))))), h.gn.but hb (fun b hb' => hn b (mem_foot.2 (.inr (.inr (.inr (.inr (.inr hb'))))))), h.ap⟩
theorem SdAt.on (h : SdAt W L s f) (hb : Below W.heap.size W W') : SdAt W' L s f := h.but (bs := []) (But.ofBelow hb) (by simp)
theorem SdAt.drew (h : SdAt W L s f) : SdAt W.drew L s f := h.on (Below.refl _ _).drew
/-- What the rest keeps when the side's own block is written. -/
theorem SdAt.psn (h : SdAt W L s f) : L.ps ≠ L.p ∧ L.ps ∉ own L.T ∧ L.ps ∉ own L.A ∧ L.ps ∉ own L.V ∧ L.ps ∉ own L.G := by
  have g := fun j b hj hne => h.ap.get 0 j (b := b) rfl hj hne L.ps (by simp)
  exact ⟨fun e => g 1 [L.p] rfl (by decide) (by simp [e]), g 2 _ rfl (by decide), g 3 _ rfl (by decide), g 4 _ rfl (by decide), g 5 _ rfl (by decide)⟩
theorem SdAt.setBlk (h : SdAt W L s f) (i : Nat) (v : Value) (s' : PSd) (hx : s'.x = s.x) (hq : s'.q = s.q) (hl : s'.last = s.last) (hw : s'.way = s.way) (hg : s'.gone = s.gone)
    (hB : Blk (W.setCell ⟨L.ps, i, none⟩ v) L.ps #[.slice L.T s'.x.length L.cT, .pointer (some ⟨L.p, 0, none⟩), .int .i64 s'.made, .int .i64 s'.took, .slice L.V s'.way.length L.cV, .int .i64 s'.base, .slice L.G s'.gone.length L.cG] 108) :
    SdAt (W.setCell ⟨L.ps, i, none⟩ v) L s' f := by
  have hb := But.setCell W L.ps i v (bs := [L.ps]) (by simp)
  obtain ⟨n1, n2, n3, n4, n5⟩ := h.psn
  refine ⟨hB, ?_, by rw [hx]; exact h.tl, fun b hb' => Nat.lt_of_lt_of_le (h.tb b hb') hb.size, ?_, ?_, ?_, h.ap⟩
  · rw [hx]; exact h.tx.but hb (fun b off e hm => n2 (by rw [← List.mem_singleton.1 hm]; exact own_addr e))
  · rw [hq, hl]; exact h.sp.but hb (fun b hb' hm => by
      rw [List.mem_singleton.1 hm] at hb'
      rcases List.mem_cons.1 hb' with h1 | h1
      · exact n1 h1
      · exact n3 h1)
  · rw [hw]; exact h.wy.but hb (fun b hb' hm => n4 (by rw [← List.mem_singleton.1 hm]; exact hb'))
  · rw [hg]; exact h.gn.but hb (fun b hb' hm => n5 (by rw [← List.mem_singleton.1 hm]; exact hb'))
theorem SdAt.setMade (h : SdAt W L s f) (m : Int) : SdAt (W.setCell ⟨L.ps, 2, none⟩ (.int .i64 m)) L { s with made := m } f :=
  h.setBlk 2 _ _ rfl rfl rfl rfl rfl (by simpa using h.blk.set 2 (.int .i64 m))
theorem SdAt.setTook (h : SdAt W L s f) (m : Int) : SdAt (W.setCell ⟨L.ps, 3, none⟩ (.int .i64 m)) L { s with took := m } f :=
  h.setBlk 3 _ _ rfl rfl rfl rfl rfl (by simpa using h.blk.set 3 (.int .i64 m))
/-- The text is another one, in memory that no other field holds. -/
theorem SdAt.setText (h : SdAt W L s f) (T' : Option Addr) (cT' : Nat) (x' : List PEl) (hr : Rd elF W T' x') (hc : x'.length ≤ cT') (ht : ∀ b ∈ own T', b < W.heap.size ∧ b ∉ L.foot) :
    SdAt (W.setCell ⟨L.ps, 0, none⟩ (.slice T' x'.length cT')) { L with T := T', cT := cT' } { s with x := x' } f := by
  have hb := But.setCell W L.ps 0 (.slice T' x'.length cT') (bs := [L.ps]) (by simp)
  obtain ⟨n1, n2, n3, n4, n5⟩ := h.psn
  refine ⟨by simpa using h.blk.set 0 (.slice T' x'.length cT'), ?_, hc, fun b hb' => Nat.lt_of_lt_of_le (ht b hb').1 hb.size, ?_, ?_, ?_, ?_⟩
  · exact hr.but hb (fun b off e hm => (ht b (own_addr e)).2 (mem_foot.2 (.inl (List.mem_singleton.1 hm))))
  · exact h.sp.but hb (fun b hb' hm => by
      rw [List.mem_singleton.1 hm] at hb'
      rcases List.mem_cons.1 hb' with h1 | h1
      · exact n1 h1
      · exact n3 h1)
  · exact h.wy.but hb (fun b hb' hm => n4 (by rw [← List.mem_singleton.1 hm]; exact hb'))
  · exact h.gn.but hb (fun b hb' hm => n5 (by rw [← List.mem_singleton.1 hm]; exact hb'))
  · exact h.ap.put 2 fun b hb' l hl hm => (ht b hb').2 (List.mem_flatten.2 ⟨l, hl, hm⟩)
/-- The space has changed. -/
theorem SdAt.setSp (h : SdAt W L s f) {A' : Option Addr} {c' : Nat} {q' : List PMk} {last' : Int} (hb : But (L.p :: own L.A) W W') (hs : SpAt W' L.p A' c' q' last' f) (hf : ∀ b ∈ own A', b ∈ own L.A ∨ W.heap.size ≤ b) :
    SdAt W' { L with A := A', c := c' } { s with q := q', last := last' } f := by
  have g1 := fun i a hi hne => h.ap.get i 1 (a := a) hi rfl hne
  have g3 := fun i a hi hne => h.ap.get i 3 (a := a) hi rfl hne
  have nn : ∀ i a, L.ls[i]? = some a → i ≠ 1 → i ≠ 3 → ∀ b ∈ a, b ∉ L.p :: own L.A := fun i a hi n1 n3 b hb hm => by
    rcases List.mem_cons.1 hm with h1 | h1
    · exact g1 i a hi n1 b hb (by simp [h1])
    · exact g3 i a hi n3 b hb h1
  refine ⟨h.blk.but hb (nn 0 _ rfl (by decide) (by decide) _ (by simp)), h.tx.but hb (fun b off e => nn 2 _ rfl (by decide) (by decide) b (own_addr e)), h.tl, fun b hb' => Nat.lt_of_lt_of_le (h.tb b hb') hb.size, hs,
    h.wy.but hb (nn 4 _ rfl (by decide) (by decide)), h.gn.but hb (nn 5 _ rfl (by decide) (by decide)), ?_⟩
  exact h.ap.set h.ltL 3 rfl hf
theorem SdAt.wayTo (h : SdAt W L s f) {V' : Option Addr} {cV' : Nat} {way' : List PPar} (hb : But (own L.V) W W') (ho : OwnO parF W' V' cV' way') (hf : ∀ b ∈ own V', b ∈ own L.V ∨ W.heap.size ≤ b) (n : Nat) (hn : n = way'.length) :
    SdAt (W'.setCell ⟨L.ps, 4, none⟩ (.slice V' n cV')) { L with V := V', cV := cV' } { s with way := way' } f := by
  subst hn
  have g4 := fun i a hi hne => h.ap.get i 4 (a := a) hi rfl hne
  have hb2 := But.setCell W' L.ps 4 (.slice V' way'.length cV') (bs := [L.ps]) (by simp)
  obtain ⟨n1, n2, n3, n4, n5⟩ := h.psn
  have nV : L.ps ∉ own V' := fun hm => by
    rcases hf _ hm with h1 | h1
    · exact n4 h1
    · have := h.blk.lt; omega
  have k := h.blk.but hb (g4 0 _ rfl (by decide) _ (by simp))
  refine ⟨by simpa using k.set 4 (.slice V' way'.length cV'), ?_, h.tl, fun b hb' => Nat.lt_of_lt_of_le (h.tb b hb') (Nat.le_trans hb.size hb2.size), ?_, ?_, ?_, ?_⟩
  · exact (h.tx.but hb (fun b off e => g4 2 _ rfl (by decide) b (own_addr e))).but hb2 (fun b off e hm => n2 (by rw [← List.mem_singleton.1 hm]; exact own_addr e))
  · exact (h.sp.but hb (fun b hb' => by
      rcases List.mem_cons.1 hb' with h1 | h1
      · exact g4 1 _ rfl (by decide) b (by simp [h1])
      · exact g4 3 _ rfl (by decide) b h1)).but hb2 (fun b hb' hm => by
      rw [List.mem_singleton.1 hm] at hb'
      rcases List.mem_cons.1 hb' with h1 | h1
      · exact n1 h1
      · exact n3 h1)
  · exact ho.but hb2 (fun b hb' hm => nV (by rw [← List.mem_singleton.1 hm]; exact hb'))
  · exact (h.gn.but hb (g4 5 _ rfl (by decide))).but hb2 (fun b hb' hm => n5 (by rw [← List.mem_singleton.1 hm]; exact hb'))
  · exact h.ap.set h.ltL 4 rfl hf
theorem SdAt.goneTo (h : SdAt W L s f) {G' : Option Addr} {cG' : Nat} {gone' : List PEl} (hb : But (own L.G) W W') (ho : OwnO elF W' G' cG' gone') (hf : ∀ b ∈ own G', b ∈ own L.G ∨ W.heap.size ≤ b) (n : Nat) (hn : n = gone'.length) :
    SdAt (W'.setCell ⟨L.ps, 6, none⟩ (.slice G' n cG')) { L with G := G', cG := cG' } { s with gone := gone' } f := by
  subst hn
  have g4 := fun i a hi hne => h.ap.get i 5 (a := a) hi rfl hne
  have hb2 := But.setCell W' L.ps 6 (.slice G' gone'.length cG') (bs := [L.ps]) (by simp)
  obtain ⟨n1, n2, n3, n4, n5⟩ := h.psn
  have nV : L.ps ∉ own G' := fun hm => by
    rcases hf _ hm with h1 | h1
    · exact n5 h1
    · have := h.blk.lt; omega
  have k := h.blk.but hb (g4 0 _ rfl (by decide) _ (by simp))
  refine ⟨by simpa using k.set 6 (.slice G' gone'.length cG'), ?_, h.tl, fun b hb' => Nat.lt_of_lt_of_le (h.tb b hb') (Nat.le_trans hb.size hb2.size), ?_, ?_, ?_, ?_⟩
  · exact (h.tx.but hb (fun b off e => g4 2 _ rfl (by decide) b (own_addr e))).but hb2 (fun b off e hm => n2 (by rw [← List.mem_singleton.1 hm]; exact own_addr e))
  · exact (h.sp.but hb (fun b hb' => by
      rcases List.mem_cons.1 hb' with h1 | h1
      · exact g4 1 _ rfl (by decide) b (by simp [h1])
      · exact g4 3 _ rfl (by decide) b h1)).but hb2 (fun b hb' hm => by
      rw [List.mem_singleton.1 hm] at hb'
      rcases List.mem_cons.1 hb' with h1 | h1
      · exact n1 h1
      · exact n3 h1)
  · exact (h.wy.but hb (g4 4 _ rfl (by decide))).but hb2 (fun b hb' hm => n4 (by rw [← List.mem_singleton.1 hm]; exact hb'))
  · exact ho.but hb2 (fun b hb' hm => nV (by rw [← List.mem_singleton.1 hm]; exact hb'))
  · exact h.ap.set h.ltL 5 rfl hf
/-- The first parcel is taken out. -/
theorem SdAt.wayTail (h : SdAt W L s f) {v : PPar} {r : List PPar} (hw : s.way = v :: r) {b off : Nat} (hV : L.V = some ⟨b, off, none⟩) :
    SdAt (W.setCell ⟨L.ps, 4, none⟩ (.slice (some ⟨b, off + 7, none⟩) r.length (L.cV - 1))) { L with V := some ⟨b, off + 7, none⟩, cV := L.cV - 1 } { s with way := r } f := by
  have ho := h.wy
  rw [hw, hV] at ho
  exact h.wayTo (But.refl _ _) ho.tail (fun b' hb' => .inl (by rw [hV]; exact hb')) _ rfl
end
end Go.Proofs.YtkicbnkacjnhoaaDoor
