/- Elements of a text: how they lie in memory; the walk of sameText. -/
import Derived.Test.YtkicbnkacjnhoaaDoorSame
import Derived.Test.YtkicbnkacjnhoaaDoorOtText
namespace Go.Proofs.YtkicbnkacjnhoaaDoor
open Go.RowKit
set_option linter.unusedVariables false
set_option linter.unusedSimpArgs false

def elEq (a b : PEl) : Bool := decide (a = b)
theorem elEq_true {a b : PEl} : elEq a b = true ↔ a = b := by simp [elEq]
theorem elEq_false {a b : PEl} : elEq a b = false ↔ ¬ a = b := by simp [elEq]
@[go_sem high] theorem eq41 (w : World) (a0 a1 a2 b0 b1 b2 : Int) :
    (Op.equalIn 10000 41 (.agg #[.int .u8 a0, .int .i64 a1, .int .i64 a2]) (.agg #[.int .u8 b0, .int .i64 b1, .int .i64 b2])).run Tryd.prog w = .ok (elEq ⟨a0, a1, a2⟩ ⟨b0, b1, b2⟩) w := by
  have h : elEq ⟨a0, a1, a2⟩ ⟨b0, b1, b2⟩ = ((a0 == b0) && ((a1 == b1) && ((a2 == b2) && true))) := by
    rw [Bool.eq_iff_iff, elEq_true]; simp
  rw [h]
  refine sEq_of (d := 9999) Tryd.underlying41 (by kernel_rfl) ?_
  refine sEq_step (by rfl) (by go_simp; rfl) (by go_simp; rfl) (by go_simp) ?_
  refine sEq_step (by rfl) (by go_simp; rfl) (by go_simp; rfl) (by go_simp) ?_
  refine sEq_step (by rfl) (by go_simp; rfl) (by go_simp; rfl) (by go_simp) ?_
  exact sEq_nil
def elF : Flat PEl := ⟨3, fun o => [.int .u8 o.c, .int .i64 o.l, .int .i64 o.s], fun _ => rfl⟩
instance : Inhabited PEl := ⟨⟨0, 0, 0⟩⟩
theorem El.el : El Tryd.prog elF 41 24 ⟨0, 0, 0⟩ := ⟨by kernel_rfl, fun x u hu => by
  simp only [elF, List.mem_cons, List.not_mem_nil, or_false] at hu
  rcases hu with rfl | rfl | rfl <;> rfl⟩
theorem Rd.el {w : World} {A : Option Addr} {xs : List PEl} (h : Rd elF w A xs) (i : Nat) (hi : i < xs.length) :
    ∃ b off x, A = some ⟨b, off, none⟩ ∧ Hid (xs[i]? = some x) ∧ b < w.heap.size ∧ w.cell? ⟨b, off + i * 3, none⟩ = some (.int .u8 x.c) ∧ w.cell? ⟨b, off + i * 3 + 1, none⟩ = some (.int .i64 x.l) ∧ w.cell? ⟨b, off + i * 3 + 2, none⟩ = some (.int .i64 x.s) := by
  obtain ⟨b, off, e, hc⟩ := h.at_ i hi
  have h0 := hc 0 _ rfl
  exact ⟨b, off, xs[i], e, List.getElem?_eq_getElem hi, World.block_lt_of_cell? w _ h0, h0, hc 1 _ rfl, hc 2 _ rfl⟩

set_option maxHeartbeats 400000 in
theorem sameText_any (A1 A2 : Option Addr) (c1 c2 : Nat) (xs ys : List PEl) (w : World) (h1 : Rd elF w A1 xs) (h2 : Rd elF w A2 ys) (l1 : xs.length ≤ 9223372036854775807) (l2 : ys.length ≤ 9223372036854775807) :
    Calls Tryd.prog 29 #[.slice A1 xs.length c1, .slice A2 ys.length c2] w fun e w' => e = .returned (.bool (decide (xs = ys))) ∧ ∃ n, w' = w.drewN n := by
  by_cases hl : xs.length = ys.length
  · have hlb : ((xs.length : Int) != ys.length) = false := by simp [hl]
    have HL := Lib.hid hl
    clear hl
    go_enter Tryd.func29, Tryd.ntmps29
    go_wp2
    go_loopw [5] (fun i wr => ∃ k : Nat, k ≤ xs.length ∧ i = .int .i64 k ∧ Hid (xs.take k = ys.take k) ∧ ∃ n, wr = w.drewN n) (fun i wr => xs.length - (intOf i).toNat)
    case atStart => exact ⟨0, Nat.zero_le _, rfl, rfl, 0, rfl⟩
    case round =>
      obtain ⟨k, hk, rfl, he, n, rfl⟩ := hrel
      by_cases hlt : k < xs.length
      · have hlt2 : k < ys.length := by have := HL.out; omega
        obtain ⟨b1, o1, x, rfl, hx, _, e0, e1, e2⟩ := h1.el k hlt
        obtain ⟨b2, o2, y, rfl, hy, _, f0, f1, f2⟩ := h2.el k hlt2
        by_cases hxy : x = y
        · have hq : elEq ⟨x.c, x.l, x.s⟩ ⟨y.c, y.l, y.s⟩ = true := elEq_true.2 hxy
          have HXY := Lib.hid hxy
          clear hxy
          go_wp2
          go_quiet (fail)
          go_wp2
          go_roundw
          case rel => exact ⟨k + 1, by omega, by go_num, take_succ_eq he.out hx.out hy.out HXY.out, _, rfl⟩
          case measure => simp [intOf]; omega
        · have hq : elEq ⟨x.c, x.l, x.s⟩ ⟨y.c, y.l, y.s⟩ = false := elEq_false.2 hxy
          have hne : ¬ xs = ys := fun h => hxy (by have e1 := hx.out; have e2 := hy.out; rw [h, e2] at e1; exact (Option.some.inj e1).symm)
          have HN := Lib.hid hne
          clear hne hxy
          go_wp2
          go_quiet (fail)
          go_wp2
          go_ret
          exact ⟨ret_bool (decide_eq_false HN.out).symm, n + nq, World.drewN_drewN ..⟩
      · have hk2 : k = xs.length := by omega
        have heq : xs = ys := by
          have := he.out
          rw [List.take_of_length_le (by omega), List.take_of_length_le (by have := HL.out; omega)] at this
          exact this
        have HN := Lib.hid heq
        clear heq hk2
        go_wp2
        go_ret
        exact ⟨ret_bool (decide_eq_true HN.out).symm, _, rfl⟩
  · have hlb : ((xs.length : Int) != ys.length) = true := by simp; omega
    have hne : ¬ xs = ys := fun h => hl (by rw [h])
    go_enter Tryd.func29, Tryd.ntmps29
    go_wp2
    go_ret
    exact ⟨by simp [hne], 0, rfl⟩
end Go.Proofs.YtkicbnkacjnhoaaDoor
