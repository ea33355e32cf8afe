/- Plain Lean: which elements stand behind an operation, and behind the other side of a square. No program in sight. -/
import Derived.Test.YtkicbnkacjnhoaaDoorOtText
namespace Go.Proofs.YtkicbnkacjnhoaaDoor
open Go.RowKit
section
variable {α : Type}
theorem ins_perm (x : α) : ∀ (d : List α) (n : Nat), (ins d n x).Perm (x :: d)
  | d, 0 => by cases d <;> exact List.Perm.refl _
  | [], _ + 1 => List.Perm.refl _
  | h :: t, n + 1 => (List.Perm.cons h (ins_perm x t n)).trans (List.Perm.swap x h t)
theorem del_perm : ∀ (d : List α) (n : Nat) (x : α), d[n]? = some x → d.Perm (x :: del d n)
  | [], n, x, h => by simp at h
  | a :: t, 0, x, h => by
    simp at h
    subst h
    exact List.Perm.refl _
  | a :: t, n + 1, x, h => (List.Perm.cons a (del_perm t n x (by simpa using h))).trans (List.Perm.swap x a _)
theorem ins_get_lo (x : α) : ∀ (d : List α) (n m : Nat), m < n → n ≤ d.length → (ins d n x)[m]? = d[m]?
  | [], n, m, h, hn => by simp at hn; omega
  | a :: t, 0, m, h, _ => by omega
  | a :: t, n + 1, 0, _, _ => rfl
  | a :: t, n + 1, m + 1, h, hn => by simpa [ins] using ins_get_lo x t n m (by omega) (by simpa using hn)
theorem ins_get_hi (x : α) : ∀ (d : List α) (n m : Nat), n ≤ m → n ≤ d.length → (ins d n x)[m + 1]? = d[m]?
  | d, 0, m, _, _ => by rw [ins_zero]; simp
  | [], n + 1, m, _, hn => by simp at hn
  | a :: t, n + 1, 0, h, _ => by omega
  | a :: t, n + 1, m + 1, h, hn => by simpa [ins] using ins_get_hi x t n m (by omega) (by simpa using hn)
theorem ins_get_at (x : α) : ∀ (d : List α) (n : Nat), n ≤ d.length → (ins d n x)[n]? = some x
  | d, 0, _ => by rw [ins_zero]; rfl
  | [], n + 1, hn => by simp at hn
  | a :: t, n + 1, hn => by simpa [ins] using ins_get_at x t n (by simpa using hn)
theorem del_get_lo : ∀ (d : List α) (n m : Nat), m < n → (del d n)[m]? = d[m]?
  | [], n, m, _ => rfl
  | a :: t, 0, m, h => by omega
  | a :: t, n + 1, 0, _ => rfl
  | a :: t, n + 1, m + 1, h => by simpa [del] using del_get_lo t n m (by omega)
theorem del_get_hi : ∀ (d : List α) (n m : Nat), n ≤ m → (del d n)[m]? = d[m + 1]?
  | [], n, m, _ => by simp [del]
  | a :: t, 0, m, h => by simp [del]
  | a :: t, n + 1, 0, h => by omega
  | a :: t, n + 1, m + 1, h => by simpa [del] using del_get_hi t n m (by omega)
end

/-- What an operation adds, what it takes away. -/
def added (o : POp) : Option PEl := if o.k = 1 then some ⟨o.c, o.l, o.s⟩ else none
def taken (t : List PEl) (o : POp) : Option PEl := if o.k = 2 then t[o.p.toNat]? else none

theorem putL_mem {t e : List PEl} {o : POp} (h : putL t o = some e) (nd : t.Nodup) (fresh : ∀ z, added o = some z → z ∉ t) :
    e.Nodup ∧ ∀ z, z ∈ e ↔ (z ∈ t ∧ taken t o ≠ some z) ∨ added o = some z := by
  rcases putL_cases h with ⟨ko, _, _, rfl⟩ | ⟨ko, n, po, hn, rfl⟩ | ⟨ko, n, po, hn, rfl⟩
  · refine ⟨nd, fun z => ?_⟩
    simp [added, taken, ko]
  · have hp := ins_perm (⟨o.c, o.l, o.s⟩ : PEl) t n
    have ha : added o = some ⟨o.c, o.l, o.s⟩ := by simp [added, ko]
    have ht : taken t o = none := by simp [taken, ko]
    refine ⟨hp.nodup_iff.2 (List.nodup_cons.2 ⟨fresh _ ha, nd⟩), fun z => ?_⟩
    rw [hp.mem_iff, ha, ht, List.mem_cons]
    constructor
    · rintro (h | h)
      · exact .inr (by rw [h])
      · exact .inl ⟨h, by simp⟩
    · rintro (⟨h, _⟩ | h)
      · exact .inr h
      · exact .inl (Option.some.inj h).symm
  · have hx := List.getElem?_eq_getElem hn
    have hp := del_perm t n _ hx
    have ha : added o = none := by simp [added, ko]
    have ht : taken t o = some t[n] := by
      unfold taken
      rw [if_pos ko, po]
      exact hx
    have hnd := hp.nodup_iff.1 nd
    rw [List.nodup_cons] at hnd
    refine ⟨hnd.2, fun z => ?_⟩
    rw [hp.mem_iff, ha, ht, List.mem_cons]
    constructor
    · intro h
      refine .inl ⟨.inr h, fun e => hnd.1 ?_⟩
      rw [Option.some.inj e]
      exact h
    · rintro (⟨h, hne⟩ | h)
      · rcases h with h | h
        · exact absurd (by rw [h]) hne
        · exact h
      · cases h

theorem shift_ls (a b : POp) (f : Bool) : (shift a b f).l = a.l ∧ (shift a b f).s = a.s := by
  unfold shift
  repeat' split
  all_goals exact ⟨rfl, rfl⟩
theorem added_shift (a b : POp) (f : Bool) : added (shift a b f) = added a := by
  unfold shift
  split
  · rename_i h
    split
    · simp [added, h]
    · split
      · simp [added, h]
      · rfl
  · split
    · rename_i h1 h
      split
      · simp [added, h]
      · split
        · split
          · simp [added, h]
          · simp [added, h]
        · rfl
    · rfl

/-- What the shifted operation takes away: the same, if the other has not taken it. -/
theorem taken_shift {d da db : List PEl} {a b : POp} (f : Bool) (ha : putL d a = some da) (hb : putL d b = some db) (hd : d.length < 4611686018427387904) (nd : d.Nodup) :
    taken da (shift b a f) = if taken d a = taken d b then none else taken d b := by
  rcases putL_cases hb with ⟨kb, pb, cb, rfl⟩ | ⟨kb, m, pb, hm, rfl⟩ | ⟨kb, m, pb, hm, rfl⟩
  · rw [sh_na kb]
    simp [taken, kb]
  · have h1 : taken d b = none := by simp [taken, kb]
    have h2 : (shift b a f).k = 1 := by
      unfold shift
      rw [if_pos kb]
      split
      · exact kb
      · split <;> exact kb
    rw [h1]
    have h3 : taken da (shift b a f) = none := by simp [taken, h2]
    rw [h3]
    simp
  · have hbm : taken d b = d[m]? := by simp [taken, kb, pb]
    have hx := List.getElem?_eq_getElem hm
    rcases putL_cases ha with ⟨ka, pa, ca, rfl⟩ | ⟨ka, n, pa, hn, rfl⟩ | ⟨ka, n, pa, hn, rfl⟩
    · have h1 : taken da a = none := by simp [taken, ka]
      rw [sh_nb ka, h1, hbm, hx, if_neg (by simp)]
    · have h1 : taken d a = none := by simp [taken, ka]
      rw [sh_di kb ka, h1, hbm, hx, if_neg (by simp), ← hx]
      unfold taken
      rw [if_pos (show ({ b with p := pastDI b.p a.p } : POp).k = 2 from kb)]
      unfold pastDI
      by_cases hc : n ≤ m
      · rw [if_pos (by omega), wrap64_small (by omega) (by omega), pb]
        exact ins_get_hi _ d n m hc hn
      · rw [if_neg (by omega), pb]
        exact ins_get_lo _ d n m (by omega) hn
    · have hy := List.getElem?_eq_getElem hn
      have h1 : taken d a = d[n]? := by simp [taken, ka, pa]
      by_cases heq : n = m
      · subst heq
        rw [sh_de kb ka (by omega), h1, hbm, if_pos rfl]
        rfl
      · have hne : ¬ d[n] = d[m] := fun e => heq ((List.getElem?_inj hn nd).1 (by rw [hy, hx, e]))
        rw [sh_dd kb ka (by omega), h1, hbm, hy, hx, if_neg (fun e => hne (Option.some.inj e)), ← hx]
        unfold taken
        rw [if_pos (show ({ b with p := pastDD b.p a.p } : POp).k = 2 from kb)]
        unfold pastDD
        by_cases hc : n < m
        · rw [if_pos (by omega), wrap64_small (by omega) (by omega), pb]
          rw [show ((m : Int) - 1).toNat = m - 1 by omega, del_get_hi d n (m - 1) (by omega)]
          congr 1
          omega
        · rw [if_neg (by omega), pb]
          exact del_get_lo d n m (by omega)

/-- Three texts merged: what stood stays if both kept it; what is new comes from either. -/
def Merge (d da db x : List PEl) : Prop := ∀ z, z ∈ x ↔ (z ∈ d ∧ z ∈ da ∧ z ∈ db) ∨ (z ∉ d ∧ (z ∈ da ∨ z ∈ db))
theorem square_merge {d da db x : List PEl} {a b : POp} (f : Bool) (ha : putL d a = some da) (hb : putL d b = some db) (hx : putL da (shift b a f) = some x) (hd : d.length < 4611686018427387904) (nd : d.Nodup)
    (fa : ∀ z, added a = some z → z ∉ d) (fb : ∀ z, added b = some z → z ∉ d ∧ z ∉ da) : x.Nodup ∧ Merge d da db x := by
  obtain ⟨na, ma⟩ := putL_mem ha nd fa
  obtain ⟨nb, mb⟩ := putL_mem hb nd (fun z hz => (fb z hz).1)
  obtain ⟨nx, mx⟩ := putL_mem hx na (fun z hz => (fb z (by rwa [added_shift] at hz)).2)
  refine ⟨nx, fun z => ?_⟩
  rw [mx, added_shift, taken_shift f ha hb hd nd, mb]
  have tb : ∀ y, taken d b = some y → y ∈ d := fun y hy => by
    unfold taken at hy
    split at hy
    · exact List.mem_of_getElem? hy
    · cases hy
  by_cases hzd : z ∈ d
  · have h1 : ¬ added b = some z := fun h => (fb z h).1 hzd
    have h2 : ¬ added a = some z := fun h => fa z h hzd
    have hza := ma z
    by_cases heq : taken d a = taken d b
    · rw [if_pos heq]
      rw [heq] at hza
      simp only [h1, h2, or_false, hzd, true_and, not_true_eq_false, false_and] at hza ⊢
      rw [hza]
      simp
    · rw [if_neg heq]
      simp only [h1, or_false, hzd, true_and, not_true_eq_false, false_and]
  · have h1 : taken d b ≠ some z := fun h => hzd (tb z h)
    have h2 : (if taken d a = taken d b then none else taken d b) ≠ some z := by
      split
      · simp
      · exact h1
    simp only [h2, hzd, ne_eq, not_false_eq_true, and_true, false_and, true_and, false_or]
end Go.Proofs.YtkicbnkacjnhoaaDoor
