/- Plain Lean: of two lines woven, from a text whose elements bear tags: the end holds just what stood and neither took away, and what either put in. No program in sight. -/
import Derived.Test.YtkicbnkacjnhoaaDoorOtMerge
namespace Go.Proofs.YtkicbnkacjnhoaaDoor
open Go.RowKit
theorem Merge.symm {d da db x : List PEl} (h : Merge d da db x) : Merge d db da x := fun z => by
  rw [h z]
  constructor
  · rintro (⟨a, b, c⟩ | ⟨a, b | b⟩)
    · exact .inl ⟨a, c, b⟩
    · exact .inr ⟨a, .inr b⟩
    · exact .inr ⟨a, .inl b⟩
  · rintro (⟨a, b, c⟩ | ⟨a, b | b⟩)
    · exact .inl ⟨a, c, b⟩
    · exact .inr ⟨a, .inr b⟩
    · exact .inr ⟨a, .inl b⟩
theorem Merge.paste {d da db x daa X : List PEl} (h : Merge d da db x) (k : Merge da daa x X) (h1 : ∀ z, z ∈ d → z ∉ da → z ∉ daa) (h2 : ∀ z, z ∉ d → z ∈ da → z ∉ db) : Merge d daa db X := fun z => by
  have hz := h z
  have kz := k z
  have a1 := h1 z
  have a2 := h2 z
  by_cases hd : z ∈ d <;> by_cases ha : z ∈ da <;> simp_all
/-- Tags: client 1 is the text's own; client 2 has put in up to i, client 3 up to j. -/
def Tagged (i j : Nat) (t : List PEl) : Prop := t.Nodup ∧ ∀ z ∈ t, z.l = 1 ∨ (z.l = 2 ∧ z.s ≤ i) ∨ (z.l = 3 ∧ z.s ≤ j)
def Numbered (c : Int) : Nat → List POp → Prop
  | _, [] => True
  | i, o :: r => o.l = c ∧ o.s = (i : Int) + 1 ∧ Numbered c (i + 1) r
theorem numbered_past (c : Int) (f : Bool) : ∀ (line : List POp) (i : Nat) (op : POp), Numbered c i line → Numbered c i (pastL op line f).2
  | [], _, _, _ => trivial
  | l :: r, i, op, h => by
    have := shift_ls l op f
    exact ⟨this.1.trans h.1, this.2.trans h.2.1, numbered_past c f r (i + 1) _ h.2.2⟩
theorem past_ls (f : Bool) : ∀ (line : List POp) (op : POp), (pastL op line f).1.l = op.l ∧ (pastL op line f).1.s = op.s
  | [], _ => ⟨rfl, rfl⟩
  | l :: r, op => by
    have h := past_ls f r (shift op l (!f))
    have k := shift_ls op l (!f)
    exact ⟨h.1.trans k.1, h.2.trans k.2⟩
theorem added_ls {o : POp} {z : PEl} (h : added o = some z) : z.l = o.l ∧ z.s = o.s := by
  unfold added at h
  split at h
  · have := Option.some.inj h
    subst this
    exact ⟨rfl, rfl⟩
  · cases h
theorem fresh2 {i j : Nat} {t : List PEl} {o : POp} (ht : Tagged i j t) (h1 : o.l = 2) (h2 : o.s = (i : Int) + 1) : ∀ z, added o = some z → z ∉ t := fun z hz hm => by
  have := added_ls hz
  have := ht.2 z hm
  omega
theorem fresh3 {i j : Nat} {t : List PEl} {o : POp} (ht : Tagged i j t) (h1 : o.l = 3) (h2 : o.s = (j : Int) + 1) : ∀ z, added o = some z → z ∉ t := fun z hz hm => by
  have := added_ls hz
  have := ht.2 z hm
  omega
theorem tagged2 {i j : Nat} {t e : List PEl} {o : POp} (ht : Tagged i j t) (h1 : o.l = 2) (h2 : o.s = (i : Int) + 1) (h : putL t o = some e) : Tagged (i + 1) j e := by
  obtain ⟨n, m⟩ := putL_mem h ht.1 (fresh2 ht h1 h2)
  refine ⟨n, fun z hz => ?_⟩
  rcases (m z).1 hz with ⟨hz, _⟩ | hz
  · have := ht.2 z hz
    omega
  · have := added_ls hz
    omega
theorem tagged3 {i j : Nat} {t e : List PEl} {o : POp} (ht : Tagged i j t) (h1 : o.l = 3) (h2 : o.s = (j : Int) + 1) (h : putL t o = some e) : Tagged i (j + 1) e := by
  obtain ⟨n, m⟩ := putL_mem h ht.1 (fresh3 ht h1 h2)
  refine ⟨n, fun z hz => ?_⟩
  rcases (m z).1 hz with ⟨hz, _⟩ | hz
  · have := ht.2 z hz
    omega
  · have := added_ls hz
    omega
/-- What a line of client 2's leaves: old elements, or new numbers. -/
theorem run_old2 : ∀ (r : List POp) (i : Nat) {j : Nat} {t e : List PEl}, Tagged i j t → Numbered 2 i r → runL t r = some e → Tagged (i + r.length) j e ∧ ∀ z ∈ e, z ∈ t ∨ (z.l = 2 ∧ (i : Int) < z.s)
  | [], i, j, t, e, ht, _, h => by
    obtain rfl := Option.some.inj h
    exact ⟨ht, fun z hz => .inl hz⟩
  | o :: r, i, j, t, e, ht, hn, h => by
    simp only [runL] at h
    split at h
    · rename_i t1 h1
      have k1 := tagged2 ht hn.1 hn.2.1 h1
      obtain ⟨k2, k3⟩ := run_old2 r (i + 1) k1 hn.2.2 h
      refine ⟨by simpa [Nat.add_assoc, Nat.add_comm 1] using k2, fun z hz => ?_⟩
      rcases k3 z hz with hz | hz
      · rcases ((putL_mem h1 ht.1 (fresh2 ht hn.1 hn.2.1)).2 z).1 hz with ⟨hz, _⟩ | hz
        · exact .inl hz
        · have h0 := hn.1
          have h00 := hn.2.1
          have := added_ls hz
          exact .inr (by omega)
      · exact .inr (by omega)
    · cases h
theorem run_old3 : ∀ (r : List POp) (j : Nat) {i : Nat} {t e : List PEl}, Tagged i j t → Numbered 3 j r → runL t r = some e → Tagged i (j + r.length) e ∧ ∀ z ∈ e, z ∈ t ∨ (z.l = 3 ∧ (j : Int) < z.s)
  | [], j, i, t, e, ht, _, h => by
    obtain rfl := Option.some.inj h
    exact ⟨ht, fun z hz => .inl hz⟩
  | o :: r, j, i, t, e, ht, hn, h => by
    simp only [runL] at h
    split at h
    · rename_i t1 h1
      have k1 := tagged3 ht hn.1 hn.2.1 h1
      obtain ⟨k2, k3⟩ := run_old3 r (j + 1) k1 hn.2.2 h
      refine ⟨by simpa [Nat.add_assoc, Nat.add_comm 1] using k2, fun z hz => ?_⟩
      rcases k3 z hz with hz | hz
      · rcases ((putL_mem h1 ht.1 (fresh3 ht hn.1 hn.2.1)).2 z).1 hz with ⟨hz, _⟩ | hz
        · exact .inl hz
        · have h0 := hn.1
          have h00 := hn.2.1
          have := added_ls hz
          exact .inr (by omega)
      · exact .inr (by omega)
    · cases h
/-- An operation of client 3's and a line of client 2's. -/
theorem past_merge : ∀ (r : List POp) (i j : Nat) {d a db : List PEl} {b : POp}, Tagged i j d → Numbered 2 i r → b.l = 3 → b.s = (j : Int) + 1 → runL d r = some a → putL d b = some db → d.length + r.length + 2 < 4611686018427387904 →
    ∃ x, putL a (pastL b r true).1 = some x ∧ runL db (pastL b r true).2 = some x ∧ Merge d a db x
  | [], i, j, d, a, db, b, ht, _, _, _, hr, hb, _ => by
    obtain rfl := Option.some.inj hr
    refine ⟨db, hb, rfl, fun z => ?_⟩
    by_cases h : z ∈ d <;> simp [h]
  | l :: r, i, j, d, a, db, b, ht, hn, b1, b2, hr, hb, hd => by
    simp only [runL] at hr
    split at hr
    · rename_i dl hl
      have hdl := putL_length hl
      simp only [List.length_cons] at hd
      obtain ⟨x1, e1, e2⟩ := square hl hb (by omega)
      have fl := fresh2 ht hn.1 hn.2.1
      have tl := tagged2 ht hn.1 hn.2.1 hl
      have fb : ∀ z, added b = some z → z ∉ d ∧ z ∉ dl := fun z hz => ⟨fresh3 ht b1 b2 z hz, fresh3 tl b1 b2 z hz⟩
      have m1 := (square_merge false hl hb e1 (by omega) ht.1 fl fb).2
      have hs := shift_ls b l false
      obtain ⟨x, h3, h4, m2⟩ := past_merge r (i + 1) j tl hn.2.2 (hs.1.trans b1) (hs.2.trans b2) hr e1 (by omega)
      refine ⟨x, h3, by simp only [pastL, runL, e2]; exact h4, m1.paste m2 (fun z hz hz2 hz3 => ?_) (fun z hz hz2 hz3 => ?_)⟩
      · rcases (run_old2 r (i + 1) tl hn.2.2 hr).2 z hz3 with h | h
        · exact hz2 h
        · have := ht.2 z hz
          omega
      · have h0 := hn.1
        have h00 := hn.2.1
        rcases ((putL_mem hl ht.1 fl).2 z).1 hz2 with ⟨h, _⟩ | h
        · exact hz h
        · have k := added_ls h
          rcases ((putL_mem hb ht.1 (fun z hz => (fb z hz).1)).2 z).1 hz3 with ⟨h, _⟩ | h
          · exact hz h
          · have k2 := added_ls h
            omega
    · cases hr
/-- Two lines. -/
theorem weave_merge : ∀ (ys xs : List POp) (i j : Nat) {d a b : List PEl}, Tagged i j d → Numbered 2 i xs → Numbered 3 j ys → runL d xs = some a → runL d ys = some b → d.length + xs.length + ys.length + 2 < 4611686018427387904 →
    ∃ x, runL a (weaveL xs ys).2 = some x ∧ runL b (weaveL xs ys).1 = some x ∧ Merge d a b x ∧ x.Nodup
  | [], xs, i, j, d, a, b, ht, hx, _, ha, hb, _ => by
    obtain rfl := Option.some.inj hb
    refine ⟨a, rfl, ha, fun z => ?_, (run_old2 xs i ht hx ha).1.1⟩
    by_cases h : z ∈ d <;> simp [h]
  | y :: r, xs, i, j, d, a, b, ht, hx, hy, ha, hb, hd => by
    simp only [runL] at hb
    split at hb
    · rename_i dy hyp
      have hdy := putL_length hyp
      simp only [List.length_cons] at hd
      obtain ⟨a1, h1, h2, m1⟩ := past_merge xs i j ht hx hy.1 hy.2.1 ha hyp (by omega)
      have ty := tagged3 ht hy.1 hy.2.1 hyp
      obtain ⟨x, h3, h4, m2, nx⟩ := weave_merge r (pastL y xs true).2 i (j + 1) ty (numbered_past 2 true xs i y hx) hy.2.2 h2 hb (by rw [pastL_length]; omega)
      refine ⟨x, by simp only [weaveL, runL, h1]; exact h3, by simp only [weaveL]; exact h4, (m1.symm.paste m2.symm (fun z hz hz2 hz3 => ?_) (fun z hz hz2 hz3 => ?_)).symm, nx⟩
      · rcases (run_old3 r (j + 1) ty hy.2.2 hb).2 z hz3 with h | h
        · exact hz2 h
        · have := ht.2 z hz
          omega
      · have h0 := hy.1
        have h00 := hy.2.1
        rcases ((putL_mem hyp ht.1 (fresh3 ht hy.1 hy.2.1)).2 z).1 hz2 with ⟨h, _⟩ | h
        · exact hz h
        · have k := added_ls h
          rcases (run_old2 xs i ht hx ha).2 z hz3 with h | h
          · exact hz h
          · omega
    · cases hb
end Go.Proofs.YtkicbnkacjnhoaaDoor
