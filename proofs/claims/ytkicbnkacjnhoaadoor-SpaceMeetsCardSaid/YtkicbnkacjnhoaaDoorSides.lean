/- The walk of jotterlaw10.sides. -/
import Derived.Test.YtkicbnkacjnhoaaDoorSdBase
namespace Go.Proofs.YtkicbnkacjnhoaaDoor
open Go.RowKit
set_option linter.unusedVariables false
set_option linter.unusedSimpArgs false

def sd0 (x : List PEl) (b : Int) : PSd := ⟨x, [], 0, 0, 0, [], b, []⟩
theorem sd_new {w1 w2 : World} {T : Option Addr} {cT base p : Nat} {x : List PEl} {f : Bool} (b : Int) (hT : OwnV elF 41 base w1 (.slice T x.length cT) x) (hp : p = w1.heap.size) (hs : SpAt w2 p none 0 [] 0 f) (b12 : Below w1.heap.size w1 w2) :
    SdAt (w2.alloc (.cells #[.slice T x.length cT, .pointer (some ⟨p, 0, none⟩), .int .i64 0, .int .i64 0, .slice none 0 0, .int .i64 b, .slice none 0 0] 108)) ⟨w2.heap.size, T, cT, p, none, 0, none, 0, none, 0⟩ (sd0 x b) f ∧ ∀ y ∈ Loc.foot ⟨w2.heap.size, T, cT, p, none, 0, none, 0, none, 0⟩, base ≤ y ∨ y = w2.heap.size ∨ y = p := by
  have ba := below_alloc (Below.refl w2.heap.size w2) (.cells #[.slice T x.length cT, .pointer (some ⟨p, 0, none⟩), .int .i64 0, .int .i64 0, .slice none 0 0, .int .i64 b, .slice none 0 0] 108)
  have hTl : ∀ y ∈ own T, base ≤ y ∧ y < w1.heap.size := fun y hy => hT.lt y (own_mem hy)
  have hpl := hs.blk.lt
  have s12 := b12.size
  refine ⟨⟨Blk.new _ _ _, (hT.rd2.below b12).below ba, hT.le, fun y hy => by have := hTl y hy; have := ba.size; omega, hs.on ba, OwnO.nil _ _, OwnO.nil _ _, ?_⟩, fun y hy => ?_⟩
  · simp only [Apart, Loc.ls, List.pairwise_cons, List.mem_cons, List.not_mem_nil, or_false, forall_eq_or_imp, forall_eq, own]
    refine ⟨⟨by omega, fun hm => by have := hTl _ hm; omega, by simp⟩, ⟨fun hm => by have := hTl _ hm; omega, by simp⟩, by simp, by simp, by simp, by simp⟩
  · rcases mem_foot.1 hy with h | h | h | h | h | h
    · exact .inr (.inl h)
    · exact .inr (.inr h)
    · exact .inl (hTl y h).1
    · simp [own] at h
    · simp [own] at h
    · simp [own] at h
set_option maxHeartbeats 2000000 in
theorem sides_any (n : Int) (w : World) (h1 : -9223372036854775808 ≤ n) (h2 : n ≤ 9223372036854775807) :
    Calls Tryd.prog 62 #[.int .i64 n] w fun e w' => ∃ L1 L2 : Loc, e = .returned (.tuple #[.pointer (some ⟨L1.ps, 0, none⟩), .pointer (some ⟨L2.ps, 0, none⟩)]) ∧ SdAt w' L1 (sd0 (begL (n % 40).toNat) 0) true ∧ SdAt w' L2 (sd0 (begL (n % 40).toNat) 32) false ∧
      Hid ((∀ b ∈ L1.foot, b ∉ L2.foot) ∧ (∀ b ∈ L1.foot, w.heap.size ≤ b) ∧ ∀ b ∈ L2.foot, w.heap.size ≤ b) ∧ Below w.heap.size w w' := by
  obtain ⟨x, hx⟩ : ∃ x, x = begL (n % 40).toNat := ⟨_, rfl⟩
  have HX := Lib.hid hx
  rw [← hx]
  clear hx
  go_enter Tryd.func62, Tryd.ntmps62
  go_wp2_with fail
  with_reducible refine (begun_any n _ h1 h2).mono ?_
  rintro e w1 ⟨A1, c1, rfl, o1, b1⟩
  rw [← HX.out] at o1 ⊢
  go_wp2_with fail
  with_reducible refine (new_any _ _).mono ?_
  rintro e w2 ⟨rfl, hS1, b2⟩
  obtain ⟨h3, h4⟩ := sd_new 0 o1 rfl hS1 b2
  have B3 := (b1.trans (b2.mono b1.size)).trans ((below_alloc (Below.refl w2.heap.size w2) (.cells #[.slice A1 x.length c1, .pointer (some ⟨w1.heap.size, 0, none⟩), .int .i64 0, .int .i64 0, .slice none 0 0, .int .i64 0, .slice none 0 0] 108)).mono (Nat.le_trans b1.size b2.size))
  have s1 := b1.size
  have s2 := b2.size
  have H4 := Lib.hid h4
  clear h4
  go_wp2_with fail
  with_reducible refine (begun_any n _ h1 h2).mono ?_
  rintro e w4 ⟨A2, c2, rfl, o2, b4⟩
  rw [← HX.out] at o2 ⊢
  have hlt := h3.lt
  have H3 := h3.on b4
  have B4 := B3.trans (b4.mono B3.size)
  have HLT := Lib.hid hlt
  clear hlt h3
  go_wp2_with fail
  with_reducible refine (new_any _ _).mono ?_
  rintro e w5 ⟨rfl, hS2, b5⟩
  obtain ⟨h5, h6⟩ := sd_new 32 o2 rfl hS2 b5
  have B5 := B4.trans (b5.mono B4.size)
  have ba := below_alloc (Below.refl w5.heap.size w5) (.cells #[.slice A2 x.length c2, .pointer (some ⟨w4.heap.size, 0, none⟩), .int .i64 0, .int .i64 0, .slice none 0 0, .int .i64 32, .slice none 0 0] 108)
  have H5 := (H3.on b5).on ba
  have s4 := b4.size
  have s5 := b5.size
  have H6 := Lib.hid h6
  clear h6
  go_wp2
  go_ret2
  refine ⟨_, _, rfl, H5, h5, Lib.hid ⟨fun y hy hy2 => ?_, fun y hy => ?_, fun y hy => ?_⟩, B5.trans (ba.mono B5.size)⟩
  · have g1 := HLT.out y hy
    rcases H6.out y hy2 with g | g | g <;> omega
  · rcases H4.out y hy with g | g | g <;> omega
  · have g0 := B3.size
    rcases H6.out y hy with g | g | g <;> omega
end Go.Proofs.YtkicbnkacjnhoaaDoor
