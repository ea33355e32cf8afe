/- Plain Lean: texts as lists; what one operation makes of a text; THE SQUARE CLOSES, of two operations, of an operation and a line, of two lines. No program in sight. -/
import Derived.Test.YtkicbnkacjnhoaaDoorOtWeave
namespace Go.Proofs.YtkicbnkacjnhoaaDoor
open Go.RowKit
/-- An element of a text: character, client, number. -/
structure PEl where
  c : Int
  l : Int
  s : Int
  deriving DecidableEq

def ins {α : Type} : List α → Nat → α → List α
  | d, 0, x => x :: d
  | [], _ + 1, x => [x]
  | h :: t, n + 1, x => h :: ins t n x
def del {α : Type} : List α → Nat → List α
  | [], _ => []
  | _ :: t, 0 => t
  | h :: t, n + 1 => h :: del t n
section
variable {α : Type}
theorem ins_length (x : α) : ∀ (d : List α) (n : Nat), (ins d n x).length = d.length + 1
  | d, 0 => by cases d <;> rfl
  | [], _ + 1 => rfl
  | h :: t, n + 1 => by simp only [ins, List.length_cons, ins_length x t n]
theorem del_length : ∀ (d : List α) (n : Nat), n < d.length → (del d n).length = d.length - 1
  | [], n, h => by simp at h
  | _ :: t, 0, _ => by simp [del]
  | h :: t, n + 1, hn => by
    have hn' : n < t.length := by simpa using hn
    simp only [del, List.length_cons, del_length t n hn']
    omega
theorem ins_take (x : α) : ∀ (d : List α) (n : Nat), n ≤ d.length → ins d n x = d.take n ++ x :: d.drop n
  | d, 0, _ => by cases d <;> rfl
  | [], n + 1, h => by simp at h
  | h :: t, n + 1, hn => by simp only [ins, List.take_succ_cons, List.drop_succ_cons, List.cons_append, ins_take x t n (by simpa using hn)]
theorem del_take : ∀ (d : List α) (n : Nat), n < d.length → del d n = d.take n ++ d.drop (n + 1)
  | [], n, h => by simp at h
  | _ :: t, 0, _ => rfl
  | h :: t, n + 1, hn => by simp only [del, List.take_succ_cons, List.drop_succ_cons, List.cons_append, del_take t n (by simpa using hn)]
theorem ins_ins (x y : α) : ∀ (d : List α) (a b : Nat), a ≤ b → b ≤ d.length → ins (ins d a x) (b + 1) y = ins (ins d b y) a x
  | d, 0, b, _, _ => by cases d <;> cases b <;> rfl
  | [], a + 1, b, h, hb => by simp at hb; omega
  | h :: t, a + 1, 0, hab, _ => by omega
  | h :: t, a + 1, b + 1, hab, hb => by simp only [ins, ins_ins x y t a b (by omega) (by simpa using hb)]
theorem ins_del_lo (x : α) : ∀ (d : List α) (a b : Nat), b < a → a ≤ d.length → del (ins d a x) b = ins (del d b) (a - 1) x
  | [], a, b, h, ha => by simp at ha; omega
  | h :: t, 0, b, hab, _ => by omega
  | h :: t, a + 1, 0, _, _ => rfl
  | h :: t, a + 1, b + 1, hab, ha => by
    have := ins_del_lo x t a b (by omega) (by simpa using ha)
    obtain ⟨a', rfl⟩ : ∃ a', a = a' + 1 := ⟨a - 1, by omega⟩
    simp only [ins, del, Nat.add_sub_cancel] at this ⊢
    rw [this]
theorem ins_zero (x : α) (d : List α) : ins d 0 x = x :: d := by cases d <;> rfl
theorem rfl_hi (x h : α) (t : List α) (b : Nat) : del (ins (h :: t) 0 x) (b + 1) = ins (del (h :: t) b) 0 x := by
  rw [ins_zero, ins_zero]
  rfl
theorem ins_del_hi (x : α) : ∀ (d : List α) (a b : Nat), a ≤ b → b < d.length → del (ins d a x) (b + 1) = ins (del d b) a x
  | [], a, b, h, hb => by simp at hb
  | h :: t, 0, b, _, _ => rfl_hi x h t b
  | h :: t, a + 1, 0, hab, _ => by omega
  | h :: t, a + 1, b + 1, hab, hb => by simp only [ins, del, ins_del_hi x t a b (by omega) (by simpa using hb)]
theorem del_del : ∀ (d : List α) (a b : Nat), a < b → b < d.length → del (del d a) (b - 1) = del (del d b) a
  | [], a, b, h, hb => by simp at hb
  | h :: t, 0, b + 1, _, _ => rfl
  | h :: t, a + 1, b + 1, hab, hb => by
    have := del_del t a b (by omega) (by simpa using hb)
    obtain ⟨b', rfl⟩ : ∃ b', b = b' + 1 := ⟨b - 1, by omega⟩
    simp only [del, Nat.add_sub_cancel] at this ⊢
    rw [this]
end

/-- The text behind one operation; none: it doesn't fit. -/
def putL (d : List PEl) (o : POp) : Option (List PEl) :=
  if o.k = 0 then (if o.p = 0 ∧ o.c = 0 then some d else none)
  else if o.k = 1 then (if 0 ≤ o.p ∧ o.p ≤ d.length then some (ins d o.p.toNat ⟨o.c, o.l, o.s⟩) else none)
  else if o.k = 2 then (if 0 ≤ o.p ∧ o.p < d.length then some (del d o.p.toNat) else none)
  else none
def runL : List PEl → List POp → Option (List PEl)
  | d, [] => some d
  | d, o :: r => match putL d o with
    | some e => runL e r
    | none => none

theorem putL_cases {d e : List PEl} {o : POp} (h : putL d o = some e) :
    (o.k = 0 ∧ o.p = 0 ∧ o.c = 0 ∧ e = d) ∨ (o.k = 1 ∧ ∃ n : Nat, o.p = n ∧ n ≤ d.length ∧ e = ins d n ⟨o.c, o.l, o.s⟩) ∨ (o.k = 2 ∧ ∃ n : Nat, o.p = n ∧ n < d.length ∧ e = del d n) := by
  unfold putL at h
  split at h
  · split at h
    · rename_i h1 h2
      exact .inl ⟨h1, h2.1, h2.2, (Option.some.inj h).symm⟩
    · cases h
  · split at h
    · split at h
      · rename_i h1 h2
        refine .inr (.inl ⟨h1, o.p.toNat, by omega, by omega, (Option.some.inj h).symm⟩)
      · cases h
    · split at h
      · split at h
        · rename_i h1 h2
          refine .inr (.inr ⟨h1, o.p.toNat, by omega, by omega, (Option.some.inj h).symm⟩)
        · cases h
      · cases h
theorem putL_nop {d : List PEl} {o : POp} (h0 : o.k = 0) (h1 : o.p = 0) (h2 : o.c = 0) : putL d o = some d := by simp [putL, h0, h1, h2]
theorem putL_ins {d : List PEl} {o : POp} (n : Nat) (h0 : o.k = 1) (h1 : o.p = n) (h2 : n ≤ d.length) : putL d o = some (ins d n ⟨o.c, o.l, o.s⟩) := by
  unfold putL
  rw [if_neg (by omega), if_pos h0, if_pos (by omega), h1]
  rfl
theorem putL_del {d : List PEl} {o : POp} (n : Nat) (h0 : o.k = 2) (h1 : o.p = n) (h2 : n < d.length) : putL d o = some (del d n) := by
  unfold putL
  rw [if_neg (by omega), if_neg (by omega), if_pos h0, if_pos (by omega), h1]
  rfl
theorem putL_length {d e : List PEl} {o : POp} (h : putL d o = some e) : e.length ≤ d.length + 1 := by
  rcases putL_cases h with ⟨_, _, _, rfl⟩ | ⟨_, n, _, hn, rfl⟩ | ⟨_, n, _, hn, rfl⟩
  · omega
  · rw [ins_length]; omega
  · rw [del_length _ _ hn]; omega
theorem wrap64_small {x : Int} (h1 : -9223372036854775808 ≤ x) (h2 : x ≤ 9223372036854775807) : wrap64 x = x := by
  unfold wrap64
  omega

section
variable {a b : POp} {f : Bool}
theorem sh_ii (ka : a.k = 1) (kb : b.k = 1) : shift a b f = { a with p := pastII a.p b.p f } := by unfold shift; rw [if_pos ka, if_pos kb]
theorem sh_id (ka : a.k = 1) (kb : b.k = 2) : shift a b f = { a with p := pastID a.p b.p } := by unfold shift; rw [if_pos ka, if_neg (by omega), if_pos kb]
theorem sh_di (ka : a.k = 2) (kb : b.k = 1) : shift a b f = { a with p := pastDI a.p b.p } := by unfold shift; rw [if_neg (by omega), if_pos ka, if_pos kb]
theorem sh_de (ka : a.k = 2) (kb : b.k = 2) (h : b.p = a.p) : shift a b f = ⟨0, 0, 0, a.l, a.s⟩ := by unfold shift; rw [if_neg (by omega), if_pos ka, if_neg (by omega), if_pos kb, if_pos h]
theorem sh_dd (ka : a.k = 2) (kb : b.k = 2) (h : ¬ b.p = a.p) : shift a b f = { a with p := pastDD a.p b.p } := by unfold shift; rw [if_neg (by omega), if_pos ka, if_neg (by omega), if_pos kb, if_neg h]
theorem sh_na (ka : a.k = 0) : shift a b f = a := by unfold shift; rw [if_neg (by omega), if_neg (by omega)]
theorem sh_nb (kb : b.k = 0) : shift a b f = a := by
  unfold shift
  split
  · simp [kb]
  · split
    · simp [kb]
    · rfl
theorem pastII_t (x y : Int) : pastII x y true = if y < x then wrap64 (x + 1) else x := by simp [pastII]
theorem pastII_f (x y : Int) : pastII x y false = if y ≤ x then wrap64 (x + 1) else x := by
  unfold pastII
  by_cases h : y ≤ x
  · rw [if_pos h, if_pos (by simp; omega)]
  · rw [if_neg h, if_neg (by simp; omega)]
theorem same_p (a : POp) {q : Int} (h : q = a.p) : ({ a with p := q } : POp) = a := by subst h; rfl
theorem with_p (a : POp) {q r : Int} (h : q = r) : ({ a with p := q } : POp) = { a with p := r } := by rw [h]
end
/-- THE SQUARE CLOSES. -/
theorem square {d da db : List PEl} {a b : POp} (ha : putL d a = some da) (hb : putL d b = some db) (hd : d.length < 4611686018427387904) :
    ∃ x, putL da (shift b a false) = some x ∧ putL db (shift a b true) = some x := by
  rcases putL_cases ha with ⟨ka, pa, ca, rfl⟩ | ⟨ka, n, pa, hn, rfl⟩ | ⟨ka, n, pa, hn, rfl⟩
  · exact ⟨db, by rw [sh_nb ka]; exact hb, by rw [sh_na ka]; exact putL_nop ka pa ca⟩
  · rcases putL_cases hb with ⟨kb, pb, cb, rfl⟩ | ⟨kb, m, pb, hm, rfl⟩ | ⟨kb, m, pb, hm, rfl⟩
    · exact ⟨_, by rw [sh_na kb]; exact putL_nop kb pb cb, by rw [sh_nb kb]; exact ha⟩
    · by_cases hc : m < n
      · have e1 : shift b a false = b := (sh_ii kb ka).trans (same_p _ (by rw [pastII_f, if_neg (by omega)]))
        have e2 : shift a b true = { a with p := ((n + 1 : Nat) : Int) } := (sh_ii ka kb).trans (with_p _ (by rw [pastII_t, if_pos (by omega), wrap64_small (by omega) (by omega)]; omega))
        rw [e1, e2]
        refine ⟨_, putL_ins m kb pb (by rw [ins_length]; omega), ?_⟩
        rw [putL_ins (n + 1) (show ({ a with p := ((n + 1 : Nat) : Int) } : POp).k = 1 from ka) rfl (by rw [ins_length]; omega)]
        rw [ins_ins _ _ d m n (by omega) hn]
      · have e1 : shift b a false = { b with p := ((m + 1 : Nat) : Int) } := (sh_ii kb ka).trans (with_p _ (by rw [pastII_f, if_pos (by omega), wrap64_small (by omega) (by omega)]; omega))
        have e2 : shift a b true = a := (sh_ii ka kb).trans (same_p _ (by rw [pastII_t, if_neg (by omega)]))
        rw [e1, e2]
        refine ⟨_, putL_ins (m + 1) kb rfl (by rw [ins_length]; omega), ?_⟩
        rw [putL_ins n ka pa (by rw [ins_length]; omega)]
        rw [ins_ins _ _ d n m (by omega) hm]
    · by_cases hc : m < n
      · have e1 : shift b a false = b := (sh_di kb ka).trans (same_p _ (by unfold pastDI; rw [if_neg (by omega)]))
        have e2 : shift a b true = { a with p := ((n - 1 : Nat) : Int) } := (sh_id ka kb).trans (with_p _ (by unfold pastID; rw [if_pos (by omega), wrap64_small (by omega) (by omega)]; omega))
        rw [e1, e2]
        refine ⟨_, putL_del m kb pb (by rw [ins_length]; omega), ?_⟩
        rw [putL_ins (n - 1) (show ({ a with p := ((n - 1 : Nat) : Int) } : POp).k = 1 from ka) rfl (by rw [del_length _ _ hm]; omega)]
        rw [ins_del_lo _ d n m (by omega) hn]
      · have e1 : shift b a false = { b with p := ((m + 1 : Nat) : Int) } := (sh_di kb ka).trans (with_p _ (by unfold pastDI; rw [if_pos (by omega), wrap64_small (by omega) (by omega)]; omega))
        have e2 : shift a b true = a := (sh_id ka kb).trans (same_p _ (by unfold pastID; rw [if_neg (by omega)]))
        rw [e1, e2]
        refine ⟨_, putL_del (m + 1) kb rfl (by rw [ins_length]; omega), ?_⟩
        rw [putL_ins n ka pa (by rw [del_length _ _ hm]; omega)]
        rw [ins_del_hi _ d n m (by omega) hm]
  · rcases putL_cases hb with ⟨kb, pb, cb, rfl⟩ | ⟨kb, m, pb, hm, rfl⟩ | ⟨kb, m, pb, hm, rfl⟩
    · exact ⟨_, by rw [sh_na kb]; exact putL_nop kb pb cb, by rw [sh_nb kb]; exact ha⟩
    · by_cases hc : n < m
      · have e1 : shift b a false = { b with p := ((m - 1 : Nat) : Int) } := (sh_id kb ka).trans (with_p _ (by unfold pastID; rw [if_pos (by omega), wrap64_small (by omega) (by omega)]; omega))
        have e2 : shift a b true = a := (sh_di ka kb).trans (same_p _ (by unfold pastDI; rw [if_neg (by omega)]))
        rw [e1, e2]
        refine ⟨_, putL_ins (m - 1) kb rfl (by rw [del_length _ _ hn]; omega), ?_⟩
        rw [putL_del n ka pa (by rw [ins_length]; omega)]
        rw [ins_del_lo _ d m n (by omega) hm]
      · have e1 : shift b a false = b := (sh_id kb ka).trans (same_p _ (by unfold pastID; rw [if_neg (by omega)]))
        have e2 : shift a b true = { a with p := ((n + 1 : Nat) : Int) } := (sh_di ka kb).trans (with_p _ (by unfold pastDI; rw [if_pos (by omega), wrap64_small (by omega) (by omega)]; omega))
        rw [e1, e2]
        refine ⟨_, putL_ins m kb pb (by rw [del_length _ _ hn]; omega), ?_⟩
        rw [putL_del (n + 1) (show ({ a with p := ((n + 1 : Nat) : Int) } : POp).k = 2 from ka) rfl (by rw [ins_length]; omega)]
        rw [ins_del_hi _ d m n (by omega) hn]
    · by_cases heq : m = n
      · subst heq
        rw [sh_de kb ka (by omega), sh_de ka kb (by omega)]
        exact ⟨_, putL_nop rfl rfl rfl, putL_nop rfl rfl rfl⟩
      · by_cases hc : n < m
        · have e1 : shift b a false = { b with p := ((m - 1 : Nat) : Int) } := (sh_dd kb ka (by omega)).trans (with_p _ (by unfold pastDD; rw [if_pos (by omega), wrap64_small (by omega) (by omega)]; omega))
          have e2 : shift a b true = a := (sh_dd ka kb (by omega)).trans (same_p _ (by unfold pastDD; rw [if_neg (by omega)]))
          rw [e1, e2]
          refine ⟨_, putL_del (m - 1) kb rfl (by rw [del_length _ _ hn]; omega), ?_⟩
          rw [putL_del n ka pa (by rw [del_length _ _ hm]; omega)]
          rw [del_del d n m (by omega) hm]
        · have e1 : shift b a false = b := (sh_dd kb ka (by omega)).trans (same_p _ (by unfold pastDD; rw [if_neg (by omega)]))
          have e2 : shift a b true = { a with p := ((n - 1 : Nat) : Int) } := (sh_dd ka kb (by omega)).trans (with_p _ (by unfold pastDD; rw [if_pos (by omega), wrap64_small (by omega) (by omega)]; omega))
          rw [e1, e2]
          refine ⟨_, putL_del m kb pb (by rw [del_length _ _ hn]; omega), ?_⟩
          rw [putL_del (n - 1) (show ({ a with p := ((n - 1 : Nat) : Int) } : POp).k = 2 from ka) rfl (by rw [del_length _ _ hm]; omega)]
          rw [del_del d m n (by omega) hn]

/-- An operation and a line; f: the line comes first. -/
theorem past_square (f : Bool) : ∀ (line : List POp) {d e db : List PEl} {b : POp}, runL d line = some e → putL d b = some db → d.length + line.length + 2 < 4611686018427387904 →
    ∃ x, putL e (pastL b line f).1 = some x ∧ runL db (pastL b line f).2 = some x
  | [], d, e, db, b, hr, hb, _ => by
    obtain rfl := Option.some.inj hr
    exact ⟨db, hb, rfl⟩
  | l :: r, d, e, db, b, hr, hb, hd => by
    simp only [runL] at hr
    split at hr
    · rename_i dl hl
      have hdl := putL_length hl
      have hsq : ∃ x, putL dl (shift b l (!f)) = some x ∧ putL db (shift l b f) = some x := by
        cases f
        · obtain ⟨x, h1, h2⟩ := square hb hl (by simp at hd; omega)
          exact ⟨x, h2, h1⟩
        · exact square hl hb (by simp at hd; omega)
      obtain ⟨x, h1, h2⟩ := hsq
      obtain ⟨z, h3, h4⟩ := past_square f r hr h1 (by simp at hd; omega)
      exact ⟨z, h3, by simp only [pastL, runL, h2]; exact h4⟩
    · cases hr
theorem runL_length : ∀ (l : List POp) {d e : List PEl}, runL d l = some e → e.length ≤ d.length + l.length
  | [], d, e, h => by obtain rfl := Option.some.inj h; simp
  | o :: r, d, e, h => by
    simp only [runL] at h
    split at h
    · rename_i x hx
      have h1 := putL_length hx
      have h2 := runL_length r h
      simp only [List.length_cons]
      omega
    · cases h
/-- Two lines. -/
theorem weave_square : ∀ (ys xs : List POp) {d a b : List PEl}, runL d xs = some a → runL d ys = some b → d.length + xs.length + ys.length + 2 < 4611686018427387904 →
    ∃ x, runL a (weaveL xs ys).2 = some x ∧ runL b (weaveL xs ys).1 = some x
  | [], xs, d, a, b, ha, hb, _ => by
    obtain rfl := Option.some.inj hb
    exact ⟨a, rfl, ha⟩
  | y :: r, xs, d, a, b, ha, hb, hd => by
    simp only [runL] at hb
    split at hb
    · rename_i dy hy
      have hdy := putL_length hy
      simp only [List.length_cons] at hd
      obtain ⟨x, h1, h2⟩ := past_square true xs ha hy (by omega)
      obtain ⟨z, h3, h4⟩ := weave_square r (pastL y xs true).2 h2 hb (by rw [pastL_length]; omega)
      exact ⟨z, by simp only [weaveL, runL, h1]; exact h3, by simp only [weaveL]; exact h4⟩
    · cases hb
end Go.Proofs.YtkicbnkacjnhoaaDoor
