/- The walk of jotterlaw10's act; what it makes of two sides. -/
import Derived.Test.YtkicbnkacjnhoaaDoorMv
namespace Go.Proofs.YtkicbnkacjnhoaaDoor
open Go.RowKit
set_option linter.unusedVariables false
set_option linter.unusedSimpArgs false

def makeS (a : PAct) (s : PSd) : PSd := ⟨(putL s.x (mkOp s.base s.made s.x a)).getD s.x, s.q ++ [⟨s.made + 1, mkOp s.base s.made s.x a⟩], s.made + 1, s.made + 1, s.took, s.way ++ [⟨s.made + 1, s.took, mkOp s.base s.made s.x a⟩], s.base, s.gone ++ goneOf s.x a⟩
def takeS (f : Bool) (s t : PSd) : PSd × PSd := match t.way with
  | [] => (s, t)
  | v :: r => ({ s with x := (putL s.x (pastL v.o (opsQ (dropQ v.t s.q)) f).1).getD s.x, q := crossQ f (dropQ v.t s.q) v.o, took := v.m }, { t with way := r })
def actS (a : PAct) (s t : PSd) : PSd × PSd :=
  if a.k % 4 = 0 then (makeS a s, t) else if a.k % 4 = 1 then (s, makeS a t) else if a.k % 4 = 2 then takeS true s t else ((takeS false t s).2, (takeS false t s).1)
theorem MV.makeS {f : Bool} {s t : PSd} {k : Nat} (h : MV f s t k) (a : PAct) (hc : 0 ≤ a.ch ∧ a.ch ≤ 255) (hk : k ≤ 240) : MV f (makeS a s) t (k + 1) := by
  have hx := h.x1
  have hm := h.m1
  obtain ⟨hv, e, he⟩ := mkOp_ok s.base s.made s.x a h.b1 ⟨hm.1, by omega⟩ (by omega) hc
  have h1 : (putL s.x (mkOp s.base s.made s.x a)).getD s.x = e := by rw [he]; rfl
  have h2 := h.make (gone := s.gone ++ goneOf s.x a) he hv (by have := goneOf_le s.x a; simp; omega)
  unfold Go.Proofs.YtkicbnkacjnhoaaDoor.makeS
  rw [h1]
  exact h2
theorem MV.takeS {f : Bool} {s t : PSd} {k : Nat} (h : MV f s t k) (hk : k ≤ 1000) : MV f (takeS f s t).1 (takeS f s t).2 k := by
  unfold Go.Proofs.YtkicbnkacjnhoaaDoor.takeS
  split
  · exact h
  · rename_i v r hv
    obtain ⟨e, he, _, _, _, _, hm⟩ := h.take hv hk
    simp only [he, Option.getD_some]
    exact hm
theorem MV.actS {s t : PSd} {k : Nat} (h : MV true s t k) (a : PAct) (hc : 0 ≤ a.ch ∧ a.ch ≤ 255) (hk : k ≤ 240) : MV true (actS a s t).1 (actS a s t).2 (k + 1) := by
  unfold Go.Proofs.YtkicbnkacjnhoaaDoor.actS
  split
  · exact h.makeS a hc hk
  · split
    · exact (h.symm.makeS a hc hk).symm
    · split
      · exact (h.takeS (by omega)).up
      · exact (h.symm.takeS (by omega)).symm.up
theorem Two2.swap {w W : World} {L Lc M Mc : Loc} {s t : PSd} {f g : Bool} (h : Two2 w W L Lc M Mc s t f g) : Two2 w W M Mc L Lc t s g f :=
  ⟨h.a2, h.a1, h.qs, h.ps, h.but.mono (fun b hb => by rcases List.mem_append.1 hb with h1 | h1; exact List.mem_append_right _ h1; exact List.mem_append_left _ h1), h.far2, h.far1, fun b hb hm => h.dj b hm hb⟩
theorem Two2.ofMade {w w' : World} {L L' M : Loc} {s t : PSd} {o : POp} {e gone : List PEl} {f g : Bool} (h : Made w w' L L' s o e gone f) (h2 : SdAt w M t g) (dj : ∀ b ∈ L.foot, b ∉ M.foot) :
    Two2 w w' L L' M M ⟨e, s.q ++ [⟨s.made + 1, o⟩], s.made + 1, s.made + 1, s.took, s.way ++ [⟨s.made + 1, s.took, o⟩], s.base, gone⟩ t f g :=
  ⟨h.at_, h2.but h.but (fun b hb hm => dj b hm hb), h.ps, rfl, h.but.mono (fun b hb => List.mem_append_left _ hb), h.far, fun b hb => .inl hb, fun b hb hm => by
    rcases h.far b hb with h1 | h1
    · exact dj b h1 hm
    · have := h2.lt b hm; omega⟩
/-- makes, of two sides. -/
theorem makes_two (a : PAct) (L M : Loc) (s t : PSd) (f g : Bool) (k : Nat) (w : World) (h1 : SdAt w L s f) (h2 : SdAt w M t g) (dj : ∀ b ∈ L.foot, b ∉ M.foot) (hm : MV f s t k) (hk : k ≤ 240) (hc : 0 ≤ a.ch ∧ a.ch ≤ 255) (hn : -9223372036854775808 ≤ a.n ∧ a.n ≤ 9223372036854775807) :
    Calls Tryd.prog 83 #[.pointer (some ⟨L.ps, 0, none⟩), .agg #[.int .i64 a.k, .bool a.nop, .bool a.out, .int .i64 a.n, .int .u8 a.ch]] w fun r w' => r = .returned (.bool true) ∧ ∃ L' M', Two2 w w' L L' M M' (makeS a s) t f g := by
  have hx := hm.x1
  refine (makes_any a L s f w h1 hm.l1 ⟨hm.m1.1, by have := hm.m1; omega⟩ (by omega) hm.b1 (by have := hm.q1; omega) (by have := hm.w1; omega) (by have := hm.g1; omega) hc hn).mono fun r w' ⟨hr, L', e, he, hM⟩ => ?_
  have h3 := Two2.ofMade hM h2 dj
  refine ⟨hr, L', M, ?_⟩
  unfold makeS
  rw [show (putL s.x (mkOp s.base s.made s.x a)).getD s.x = e by rw [he.out.1]; rfl]
  exact h3
/-- takes, of two sides. -/
theorem takes_two (L M : Loc) (s t : PSd) (f g : Bool) (k : Nat) (w : World) (hR : RulesAt w) (h1 : SdAt w L s f) (h2 : SdAt w M t g) (dj : ∀ b ∈ L.foot, b ∉ M.foot) (h0 : 0 ∉ L.foot ++ M.foot) (hm : MV f s t k) (hk : k ≤ 240) :
    Calls Tryd.prog 65 #[.pointer (some ⟨L.ps, 0, none⟩), .pointer (some ⟨M.ps, 0, none⟩)] w fun r w' => r = .returned (.bool true) ∧ ∃ L' M', Two2 w w' L L' M M' (takeS f s t).1 (takeS f s t).2 f g := by
  rcases hw : t.way with _ | ⟨v, r⟩
  · refine (takes_none L.ps M t g w h2 hw).mono fun r w' ⟨hr, hb⟩ => ⟨hr, L, M, ?_⟩
    have h3 := (Two2.start h1 h2 dj).on hb
    unfold takeS
    rw [hw]
    exact h3
  · obtain ⟨e, he, hv, hyv, hvc, hyc, _⟩ := hm.take hw (by omega)
    have hx := hm.x1
    refine (takes_some L M s t f g v r e _ w hR h1 h2 dj h0 hw rfl he hv hvc hyv hyc (by have := hm.q1; omega) (by omega) (by have := hm.w2; rw [hw] at this; simp only [List.length_cons] at this; omega)).mono fun r' w' ⟨hr, L', M', h3⟩ => ⟨hr, L', M', ?_⟩
    unfold takeS
    rw [hw]
    simp only [he, Option.getD_some]
    exact h3
set_option maxHeartbeats 2000000 in
theorem act_any (a : PAct) (L M : Loc) (s t : PSd) (k : Nat) (w : World) (hR : RulesAt w) (h1 : SdAt w L s true) (h2 : SdAt w M t false) (dj : ∀ b ∈ L.foot, b ∉ M.foot) (h0 : 0 ∉ L.foot ++ M.foot) (hm : MV true s t k) (hk : k ≤ 240) (hc : 0 ≤ a.ch ∧ a.ch ≤ 255) (hn : -9223372036854775808 ≤ a.n ∧ a.n ≤ 9223372036854775807) (hk4 : -9223372036854775808 ≤ a.k ∧ a.k ≤ 9223372036854775807) :
    Calls Tryd.prog 63 #[.pointer (some ⟨L.ps, 0, none⟩), .pointer (some ⟨M.ps, 0, none⟩), .agg #[.int .i64 a.k, .bool a.nop, .bool a.out, .int .i64 a.n, .int .u8 a.ch]] w fun r w' => r = .returned (.bool true) ∧ ∃ L' M', Two2 w w' L L' M M' (actS a s t).1 (actS a s t).2 true false := by
  have hp : 0 ≤ a.k % 4 := Int.emod_nonneg _ (by omega)
  have hl : a.k % 4 < 4 := Int.emod_lt_of_pos _ (by omega)
  have ba := below_alloc (Below.refl w.heap.size w) (.cells #[.int .i64 a.k, .bool a.nop, .bool a.out, .int .i64 a.n, .int .u8 a.ch] 111)
  have ka := Blk.new w #[.int .i64 a.k, .bool a.nop, .bool a.out, .int .i64 a.n, .int .u8 a.ch] 111
  have T0 := (Two2.start h1 h2 dj).on ba
  have hR0 := hR.on ba
  obtain ⟨a0, a1, a2, a3, a4⟩ := ka.cells5
  have HM := Lib.hid hm
  have HMs : Hid (MV false t s k) := Lib.hid hm.symm
  have H0 := Lib.hid h0
  have fin : ∀ {w0 w' : World} {L' M' : Loc} {s' t' s2 t2 : PSd}, Two2 w w0 L L M M s2 t2 true false → Two2 w0 w' L L' M M' s' t' true false → Two2 w w' L L' M M' s' t' true false := fun {w0 w' L' M' s' t' s2 t2} g1 g2 =>
    ⟨g2.a1, g2.a2, g2.ps, g2.qs, g1.but.trans g2.but (fun b hb => .inl hb), fun b hb => (g2.far1 b hb).imp id (fun h => Nat.le_trans g1.but.size h), fun b hb => (g2.far2 b hb).imp id (fun h => Nat.le_trans g1.but.size h), g2.dj⟩
  have FIN := @fin
  have TD : Hid (∀ b ∈ M.foot, b ∉ L.foot) := Lib.hid (fun b hb hm => dj b hm hb)
  have HS : Hid (0 ∉ M.foot ++ L.foot) := Lib.hid (fun hm => h0 (by rcases List.mem_append.1 hm with h | h; exact List.mem_append_right _ h; exact List.mem_append_left _ h))
  clear dj
  clear hm h0 h1 h2 hR fin
  obtain ⟨j, hj⟩ : ∃ j, j = a.k % 4 := ⟨_, rfl⟩
  have HJ := Lib.hid hj
  rw [← hj] at hp hl
  clear hj
  go_enter Tryd.func63, Tryd.ntmps63
  go_wp2_with fail
  with_reducible refine (into_any a.k 4 _ (by omega) (by omega) hk4.1 hk4.2).mono ?_
  rintro r w1 ⟨rfl, hw1⟩
  subst w1
  rw [← HJ.out]
  generalize w.alloc (.cells #[.int .i64 a.k, .bool a.nop, .bool a.out, .int .i64 a.n, .int .u8 a.ch] 111) = w0 at *
  by_cases j0 : j = 0
  · subst j0
    go_wp2_with fail
    with_reducible refine (makes_two a L M s t true false k _ T0.a1 T0.a2 T0.dj HM.out hk hc hn).mono ?_
    rintro r w2 ⟨rfl, L', M', h3⟩
    go_wp2
    go_ret
    refine ⟨rfl, L', M', ?_⟩
    unfold actS
    rw [if_pos HJ.out.symm]
    exact FIN T0 h3
  · have q0 : (j == 0) = false := by simpa using j0
    by_cases j1 : j = 1
    · subst j1
      clear j0
      go_wp2_with fail
      with_reducible refine (makes_two a M L t s false true k _ T0.a2 T0.a1 TD.out HMs.out hk hc hn).mono ?_
      rintro r w2 ⟨rfl, L', M', h3⟩
      go_wp2
      go_ret
      refine ⟨rfl, M', L', ?_⟩
      unfold actS
      rw [if_neg (by rw [← HJ.out]; decide), if_pos HJ.out.symm]
      exact FIN T0 h3.swap
    · have q1 : (j == 1) = false := by simpa using j1
      by_cases j2 : j = 2
      · subst j2
        clear j0 j1
        go_wp2_with fail
        with_reducible refine (takes_two L M s t true false k _ hR0 T0.a1 T0.a2 T0.dj H0.out HM.out hk).mono ?_
        rintro r w2 ⟨rfl, L', M', h3⟩
        go_wp2
        go_ret
        refine ⟨rfl, L', M', ?_⟩
        unfold actS
        rw [if_neg (by rw [← HJ.out]; decide), if_neg (by rw [← HJ.out]; decide), if_pos HJ.out.symm]
        exact FIN T0 h3
      · have q2 : (j == 2) = false := by simpa using j2
        have HJ3 : Hid (a.k % 4 ≠ 0 ∧ a.k % 4 ≠ 1 ∧ a.k % 4 ≠ 2) := Lib.hid ⟨by rw [← HJ.out]; exact j0, by rw [← HJ.out]; exact j1, by rw [← HJ.out]; exact j2⟩
        clear j0 j1 j2
        go_wp2_with fail
        with_reducible refine (takes_two M L t s false true k _ hR0 T0.a2 T0.a1 TD.out HS.out HMs.out hk).mono ?_
        rintro r w2 ⟨rfl, L', M', h3⟩
        go_wp2
        go_ret
        refine ⟨rfl, M', L', ?_⟩
        unfold actS
        rw [if_neg HJ3.out.1, if_neg HJ3.out.2.1, if_neg HJ3.out.2.2]
        exact FIN T0 h3.swap
end Go.Proofs.YtkicbnkacjnhoaaDoor
