/- A space's calls, each in one contract; what a queue keeps through them. -/
import Derived.Test.YtkicbnkacjnhoaaDoorSpLooksWalk
namespace Go.Proofs.YtkicbnkacjnhoaaDoor
open Go.RowKit
set_option linter.unusedVariables false
set_option linter.unusedSimpArgs false

/-- What Keep answers. -/
def keepE (last mark : Int) (o : POp) : Int := if validL o ≠ 0 then validL o else if mark ≤ last ∨ 4096 < mark then 100 else 0
section
variable {p : Nat} {A : Option Addr} {c : Nat} {q : List PMk} {last : Int} {first : Bool}
theorem keep_all (mark : Int) (o : POp) (w : World) (h : SpAt w p A c q last first) (hc : 0 ≤ o.c ∧ o.c ≤ 255) (hl : q.length ≤ 100000) :
    Calls Tryd.prog 55 #[.pointer (some ⟨p, 0, none⟩), .int .i64 mark, .agg #[.int .i64 o.k, .int .i64 o.p, .int .u8 o.c, .int .i64 o.l, .int .i64 o.s]] w fun e w' =>
      ∃ (A' : Option Addr) (c' : Nat) (q' : List PMk) (last' : Int), e = .returned (.int .i64 (keepE last mark o)) ∧ SpAt w' p A' c' q' last' first ∧ But (p :: own A) w w' ∧ Hid (∀ b ∈ own A', b ∈ own A ∨ w.heap.size ≤ b) ∧
        Hid ((keepE last mark o ≠ 0 ∧ q' = q ∧ last' = last) ∨ (keepE last mark o = 0 ∧ last < mark ∧ mark ≤ 4096 ∧ q' = q ++ [⟨mark, o⟩] ∧ last' = mark)) := by
  by_cases hv : validL o = 0
  · by_cases hm : mark ≤ last ∨ 4096 < mark
    · have hE : keepE last mark o = 100 := by unfold keepE; rw [if_neg (by simpa using hv), if_pos hm]
      refine (keep_mark mark o w h hc hv hm).mono fun e w' ⟨he, hb⟩ => ?_
      exact ⟨A, c, q, last, by rw [hE]; exact he, h.on hb, But.ofBelow hb, Lib.hid (fun b hb => .inl hb), Lib.hid (.inl ⟨by rw [hE]; decide, rfl, rfl⟩)⟩
    · have hE : keepE last mark o = 0 := by unfold keepE; rw [if_neg (by simpa using hv), if_neg hm]
      refine (keep_ok mark o w h hc hv (by omega) (by omega) hl).mono fun e w' ⟨he, A', c', hS, hb, hf⟩ => ?_
      exact ⟨A', c', _, _, by rw [hE]; exact he, hS, hb, hf, Lib.hid (.inr ⟨hE, by omega, by omega, rfl, rfl⟩)⟩
  · have hE : keepE last mark o = validL o := by unfold keepE; rw [if_pos hv]
    refine (keep_bad mark o w h hc hv).mono fun e w' ⟨he, hb⟩ => ?_
    exact ⟨A, c, q, last, by rw [hE]; exact he, h.on hb, But.ofBelow hb, Lib.hid (fun b hb => .inl hb), Lib.hid (.inl ⟨by rw [hE]; exact hv, rfl, rfl⟩)⟩
theorem cross_all (o : POp) (w : World) (hr : RulesAt w) (h : SpAt w p A c q last first) (hc : 0 ≤ o.c ∧ o.c ≤ 255) (hl : q.length ≤ 4096) :
    Calls Tryd.prog 50 #[.pointer (some ⟨p, 0, none⟩), .agg #[.int .i64 o.k, .int .i64 o.p, .int .u8 o.c, .int .i64 o.l, .int .i64 o.s]] w fun e w' =>
      ∃ (y : POp) (q' : List PMk), e = .returned (.tuple #[.agg #[.int .i64 y.k, .int .i64 y.p, .int .u8 y.c, .int .i64 y.l, .int .i64 y.s], .int .i64 (validL o)]) ∧ SpAt w' p A c q' last first ∧ But (own A) w w' ∧
        Hid (y = (if validL o = 0 then (pastL o (opsQ q) first).1 else ⟨0, 0, 0, 0, 0⟩) ∧ q' = (if validL o = 0 then crossQ first q o else q)) := by
  by_cases hv : validL o = 0
  · refine (cross_ok o w hr h hc hv hl).mono fun e w' ⟨y, hy, he, hS, hb⟩ => ?_
    exact ⟨y, _, by rw [hv]; exact he, hS, hb, Lib.hid ⟨by rw [if_pos hv]; exact hy.out.symm, by rw [if_pos hv]⟩⟩
  · refine (cross_bad o w hc hv).mono fun e w' ⟨he, hb⟩ => ?_
    exact ⟨⟨0, 0, 0, 0, 0⟩, q, he, h.on hb, But.ofBelow hb, Lib.hid ⟨by rw [if_neg hv], by rw [if_neg hv]⟩⟩
end
/-- What a queue keeps. -/
structure QInv (q : List PMk) (last : Int) : Prop where
  up : (q.map (·.m)).Pairwise (· < ·)
  rng : ∀ u ∈ q, 0 < u.m ∧ u.m ≤ last ∧ 0 ≤ u.o.c ∧ u.o.c ≤ 255
  top : 0 ≤ last ∧ last ≤ 4096
theorem QInv.nil : QInv [] 0 := ⟨by simp, by simp, by omega, by omega⟩
theorem QInv.keep {q : List PMk} {last mark : Int} {o : POp} (h : QInv q last) (h1 : last < mark) (h2 : mark ≤ 4096) (hc : 0 ≤ o.c ∧ o.c ≤ 255) : QInv (q ++ [⟨mark, o⟩]) mark := by
  refine ⟨?_, fun u hu => ?_, by have := h.top; omega, h2⟩
  · rw [List.map_append, List.pairwise_append]
    refine ⟨h.up, by simp, fun a ha b hb => ?_⟩
    obtain ⟨u, hu, rfl⟩ := List.mem_map.1 ha
    have := h.rng u hu
    simp at hb
    omega
  · rcases List.mem_append.1 hu with hu | hu
    · have := h.rng u hu
      omega
    · obtain rfl := List.mem_singleton.1 hu
      have := h.top
      exact ⟨by simp only; omega, Int.le_refl _, hc⟩
theorem QInv.drop {q : List PMk} {last : Int} (h : QInv q last) (n : Nat) : QInv (q.drop n) last :=
  ⟨by rw [List.map_drop]; exact h.up.drop, fun u hu => h.rng u (List.mem_of_mem_drop hu), h.top⟩
theorem shift_c {a b : POp} {f : Bool} (h : 0 ≤ a.c ∧ a.c ≤ 255) : 0 ≤ (shift a b f).c ∧ (shift a b f).c ≤ 255 := by
  unfold shift
  split
  · split
    · exact h
    · split <;> exact h
  · split
    · split
      · exact h
      · split
        · split
          · exact ⟨by simp only; omega, by simp only; omega⟩
          · exact h
        · exact h
    · exact h
theorem past_c (f : Bool) : ∀ (line : List POp) (op : POp), (∀ z ∈ line, 0 ≤ z.c ∧ z.c ≤ 255) → ∀ z ∈ (pastL op line f).2, 0 ≤ z.c ∧ z.c ≤ 255
  | [], _, _, z, hz => by simp [pastL] at hz
  | l :: r, op, h, z, hz => by
    simp only [pastL, List.mem_cons] at hz
    rcases hz with rfl | hz
    · exact shift_c (h l (by simp))
    · exact past_c f r _ (fun y hy => h y (by simp [hy])) z hz
theorem QInv.cross {q : List PMk} {last : Int} (h : QInv q last) (f : Bool) (o : POp) : QInv (crossQ f q o) last := by
  refine ⟨by unfold crossQ; rw [marks_with _ _ (past_len f q o)]; exact h.up, fun u hu => ?_, h.top⟩
  have h1 : u.m ∈ q.map (·.m) := by
    have : u.m ∈ (crossQ f q o).map (·.m) := List.mem_map.2 ⟨u, hu, rfl⟩
    unfold crossQ at this
    rwa [marks_with _ _ (past_len f q o)] at this
  obtain ⟨v, hv, e⟩ := List.mem_map.1 h1
  have h2 := h.rng v hv
  have h3 := past_c f (opsQ q) o (fun z hz => by
    obtain ⟨t, ht, rfl⟩ := List.mem_map.1 hz
    exact (h.rng t ht).2.2) u.o (with_op (past_len f q o) hu)
  exact ⟨by omega, by omega, h3⟩
theorem crossQ_length (f : Bool) (q : List PMk) (o : POp) : (crossQ f q o).length = q.length := withOps_length _ _ (past_len f q o)
end Go.Proofs.YtkicbnkacjnhoaaDoor
