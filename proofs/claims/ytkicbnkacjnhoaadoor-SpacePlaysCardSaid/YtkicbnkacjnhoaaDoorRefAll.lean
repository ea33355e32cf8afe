/- The document's space: each call in one contract; a pair of spaces, side by side. -/
import Derived.Test.YtkicbnkacjnhoaaDoorRefQueue
import Derived.Test.YtkicbnkacjnhoaaDoorSpRebWalk
namespace Go.Proofs.YtkicbnkacjnhoaaDoor
open Go.RowKit
set_option linter.unusedVariables false
set_option linter.unusedSimpArgs false

/-- What a call of the document's space leaves. -/
structure RefTo (w w' : World) (p : Nat) (A B : Option Addr) (y : PRef) (f : Bool) : Prop where
  out : ∃ A' c' B' e', RefAt w' p A' c' B' e' y f ∧ ∀ b ∈ refB p A' B', b ∈ refB p A B ∨ w.heap.size ≤ b
  but : But (refB p A B) w w'
section
variable {p : Nat} {A : Option Addr} {c : Nat} {B : Option Addr} {e : Nat} {y : PRef} {f : Bool}
theorem RefTo.same {w w' : World} (h : RefAt w p A c B e y f) (hb : Below w.heap.size w w') : RefTo w w' p A B y f := ⟨⟨A, c, B, e, h.on hb, fun b hb => .inl hb⟩, But.ofBelow hb⟩
theorem rkeep_all (mark : Int) (o : POp) (w : World) (h : RefAt w p A c B e y f) (hc : 0 ≤ o.c ∧ o.c ≤ 255) (hl : y.own.length ≤ 100000) :
    Calls Tryd.prog 77 #[.pointer (some ⟨p, 0, none⟩), .int .i64 mark, .agg #[.int .i64 o.k, .int .i64 o.p, .int .u8 o.c, .int .i64 o.l, .int .i64 o.s]] w fun ex w' =>
      ∃ y' : PRef, ex = .returned (.int .i64 (keepE (lastM y.own) mark o)) ∧ RefTo w w' p A B y' f ∧
        Hid ((keepE (lastM y.own) mark o ≠ 0 ∧ y' = y) ∨ (keepE (lastM y.own) mark o = 0 ∧ y' = ⟨y.own ++ [⟨mark, o⟩], y.far, y.d⟩)) := by
  by_cases hv : validL o = 0
  · by_cases hm : mark ≤ lastM y.own ∨ 4096 < mark
    · have hE : keepE (lastM y.own) mark o = 100 := by unfold keepE; rw [if_neg (by simpa using hv), if_pos hm]
      refine (rkeep_mark mark o w h hl hc hv hm).mono fun ex w' ⟨he, hb⟩ => ?_
      exact ⟨y, by rw [hE]; exact he, RefTo.same h hb, Lib.hid (.inl ⟨by rw [hE]; decide, rfl⟩)⟩
    · have hE : keepE (lastM y.own) mark o = 0 := by unfold keepE; rw [if_neg (by simpa using hv), if_neg hm]
      refine (rkeep_ok mark o w h hc hv (by omega) (by omega) hl).mono fun ex w' ⟨he, A', c', hS, hb, hf⟩ => ?_
      refine ⟨_, by rw [hE]; exact he, ⟨⟨A', c', B, e, hS, fun b hb => ?_⟩, hb⟩, Lib.hid (.inr ⟨hE, rfl⟩)⟩
      rcases List.mem_cons.1 hb with rfl | hb
      · exact .inl (by simp)
      · rcases List.mem_append.1 hb with hb | hb
        · rcases hf b hb with h1 | h1
          · exact .inl (by simp [refB, h1])
          · exact .inr h1
        · exact .inl (by simp [refB, hb])
  · have hE : keepE (lastM y.own) mark o = validL o := by unfold keepE; rw [if_pos hv]
    refine (rkeep_bad mark o w hc hv).mono fun ex w' ⟨he, hb⟩ => ?_
    exact ⟨y, by rw [hE]; exact he, RefTo.same h hb, Lib.hid (.inl ⟨by rw [hE]; exact hv, rfl⟩)⟩
theorem rcross_all (o : POp) (w : World) (h : RefAt w p A c B e y f) (hc : 0 ≤ o.c ∧ o.c ≤ 255) (hl : y.own.length ≤ 100000) (hl2 : y.far.length ≤ 100000) (hF : y.Fine) :
    Calls Tryd.prog 79 #[.pointer (some ⟨p, 0, none⟩), .agg #[.int .i64 o.k, .int .i64 o.p, .int .u8 o.c, .int .i64 o.l, .int .i64 o.s]] w fun ex w' =>
      ∃ (z : POp) (y' : PRef), ex = .returned (.tuple #[.agg #[.int .i64 z.k, .int .i64 z.p, .int .u8 z.c, .int .i64 z.l, .int .i64 z.s], .int .i64 (validL o)]) ∧ RefTo w w' p A B y' f ∧
        Hid (z = (if validL o = 0 then (pastL o ((y.forms f).drop y.d) f).1 else ⟨0, 0, 0, 0, 0⟩) ∧ y' = (if validL o = 0 then ⟨y.own, y.far ++ [⟨y.d, y.own.length, o⟩], y.d⟩ else y)) := by
  by_cases hv : validL o = 0
  · refine (rcross_ok o w h hc hv hl hl2 hF).mono fun ex w' ⟨z, hz, he, B', e', hS, hb, hf⟩ => ?_
    refine ⟨z, _, by rw [hv]; exact he, ⟨⟨A, c, B', e', hS, fun b hb => ?_⟩, hb⟩, Lib.hid ⟨by rw [if_pos hv]; exact hz.out.symm, by rw [if_pos hv]⟩⟩
    rcases List.mem_cons.1 hb with rfl | hb
    · exact .inl (by simp)
    · rcases List.mem_append.1 hb with hb | hb
      · exact .inl (by simp [refB, hb])
      · rcases hf b hb with h1 | h1
        · exact .inl (by simp [refB, h1])
        · exact .inr h1
  · refine (rcross_bad o w hc hv).mono fun ex w' ⟨he, hb⟩ => ?_
    exact ⟨⟨0, 0, 0, 0, 0⟩, y, he, RefTo.same h hb, Lib.hid ⟨by rw [if_neg hv], by rw [if_neg hv]⟩⟩
theorem rlook_all (o : POp) (w : World) (h : RefAt w p A c B e y f) (hc : 0 ≤ o.c ∧ o.c ≤ 255) (hl : y.own.length ≤ 100000) (hl2 : y.far.length ≤ 100000) (hF : y.Fine) :
    Calls Tryd.prog 80 #[.pointer (some ⟨p, 0, none⟩), .agg #[.int .i64 o.k, .int .i64 o.p, .int .u8 o.c, .int .i64 o.l, .int .i64 o.s]] w fun ex w' =>
      ∃ z : POp, ex = .returned (.tuple #[.agg #[.int .i64 z.k, .int .i64 z.p, .int .u8 z.c, .int .i64 z.l, .int .i64 z.s], .int .i64 (validL o)]) ∧ Below w.heap.size w w' ∧
        Hid (z = (if validL o = 0 then (pastL o ((y.forms f).drop y.d) f).1 else ⟨0, 0, 0, 0, 0⟩)) := by
  by_cases hv : validL o = 0
  · refine (rlook_ok o w h hc hv hl hl2 hF).mono fun ex w' ⟨z, hz, he, hb⟩ => ?_
    exact ⟨z, by rw [hv]; exact he, hb, Lib.hid (by rw [if_pos hv]; exact hz.out.symm)⟩
  · refine (rlook_bad o w hc hv).mono fun ex w' ⟨he, hb⟩ => ?_
    exact ⟨⟨0, 0, 0, 0, 0⟩, he, hb, Lib.hid (by rw [if_neg hv])⟩
end
section
variable {p : Nat} {A : Option Addr} {c : Nat} {q : List PMk} {last : Int} {first : Bool}
theorem look_all (o : POp) (w : World) (hr : RulesAt w) (h : SpAt w p A c q last first) (hc : 0 ≤ o.c ∧ o.c ≤ 255) (hl : q.length ≤ 4096) :
    Calls Tryd.prog 48 #[.pointer (some ⟨p, 0, none⟩), .agg #[.int .i64 o.k, .int .i64 o.p, .int .u8 o.c, .int .i64 o.l, .int .i64 o.s]] w fun ex w' =>
      ∃ z : POp, ex = .returned (.tuple #[.agg #[.int .i64 z.k, .int .i64 z.p, .int .u8 z.c, .int .i64 z.l, .int .i64 z.s], .int .i64 (validL o)]) ∧ Below w.heap.size w w' ∧
        Hid (z = (if validL o = 0 then (pastL o (opsQ q) first).1 else ⟨0, 0, 0, 0, 0⟩)) := by
  by_cases hv : validL o = 0
  · refine (look_ok o w hr h hc hv hl).mono fun ex w' ⟨z, hz, he, hb⟩ => ?_
    exact ⟨z, by rw [hv]; exact he, hb, Lib.hid (by rw [if_pos hv]; exact hz.out.symm)⟩
  · refine (look_bad o w hc hv).mono fun ex w' ⟨he, hb⟩ => ?_
    exact ⟨⟨0, 0, 0, 0, 0⟩, he, hb, Lib.hid (by rw [if_neg hv])⟩
end
/-- A space of the program at p and one of the document at p2, that hold the same; their blocks lie among bs. -/
def Pr (W : World) (p p2 : Nat) (y : PRef) (f : Bool) (bs : List Nat) : Prop :=
  ∃ A c A2 c2 B2 e2, SpAt W p A c (y.queue f) (lastM y.own) f ∧ RefAt W p2 A2 c2 B2 e2 y f ∧ y.Fine ∧ (∀ b ∈ p :: own A, b ∉ refB p2 A2 B2) ∧ (∀ b ∈ p :: own A, b ∈ bs) ∧ (∀ b ∈ refB p2 A2 B2, b ∈ bs) ∧ ∀ b ∈ bs, b < W.heap.size
section
variable {W W' : World} {p p2 : Nat} {y : PRef} {f : Bool} {bs : List Nat}
theorem Pr.but (h : Pr W p p2 y f bs) {cs : List Nat} (hb : But cs W W') (hn : ∀ b ∈ bs, b ∉ cs) : Pr W' p p2 y f bs := by
  obtain ⟨A, c, A2, c2, B2, e2, h1, h2, h3, h4, h5, h6, h7⟩ := h
  exact ⟨A, c, A2, c2, B2, e2, h1.but hb (fun b hb => hn b (h5 b hb)), h2.but hb (fun b hb => hn b (h6 b hb)), h3, h4, h5, h6, fun b hb' => Nat.lt_of_lt_of_le (h7 b hb') hb.size⟩
theorem Pr.lt (h : Pr W p p2 y f bs) : ∀ b ∈ bs, b < W.heap.size := by
  obtain ⟨_, _, _, _, _, _, _, _, _, _, _, _, h7⟩ := h
  exact h7
theorem Pr.on (h : Pr W p p2 y f bs) (hb : Below W.heap.size W W') : Pr W' p p2 y f bs := h.but (cs := []) (But.ofBelow hb) (by simp)
end
/-- What a step leaves. -/
structure Stp (w w' : World) (p p2 : Nat) (y y' : PRef) (f : Bool) (bs bs' : List Nat) : Prop where
  pr : Pr w' p p2 y' f bs'
  but : But bs w w'
  far : ∀ b ∈ bs', b ∈ bs ∨ w.heap.size ≤ b
  l1 : y'.own.length ≤ y.own.length + 1
  l2 : y'.far.length ≤ y.far.length + 1
end Go.Proofs.YtkicbnkacjnhoaaDoor
