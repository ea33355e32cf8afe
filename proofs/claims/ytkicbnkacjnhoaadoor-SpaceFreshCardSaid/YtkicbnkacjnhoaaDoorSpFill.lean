/- The walk of jotterlaw10.filled. -/
import Derived.Test.YtkicbnkacjnhoaaDoorSpOne
import Derived.IntWalk
namespace Go.Proofs.YtkicbnkacjnhoaaDoor
open Go.RowKit
set_option linter.unusedVariables false
set_option linter.unusedSimpArgs false

/-- The operations that may be, with marks S, 2 S, .. -/
def fillQ (S : Nat) : Nat → List POp → List PMk
  | _, [] => []
  | n, o :: r => if validL o = 0 then ⟨((n : Int) + 1) * S, o⟩ :: fillQ S (n + 1) r else fillQ S n r
theorem fillQ_snoc (S : Nat) (o : POp) : ∀ (l : List POp) (n : Nat), fillQ S n (l ++ [o]) = fillQ S n l ++ (if validL o = 0 then [⟨((n : Int) + (fillQ S n l).length + 1) * S, o⟩] else [])
  | [], n => by
    simp only [List.nil_append, fillQ, List.length_nil]
    split <;> simp
  | x :: r, n => by
    simp only [List.cons_append, fillQ]
    by_cases hx : validL x = 0
    · rw [if_pos hx, if_pos hx, fillQ_snoc S o r (n + 1)]
      simp only [List.cons_append, List.length_cons]
      by_cases ho : validL o = 0
      · rw [if_pos ho, if_pos ho]
        have : (((n + 1 : Nat) : Int) + ((fillQ S (n + 1) r).length : Int) + 1) = ((n : Int) + ((fillQ S (n + 1) r).length + 1 : Nat) + 1) := by omega
        rw [this]
      · rw [if_neg ho, if_neg ho]
    · rw [if_neg hx, if_neg hx, fillQ_snoc S o r n]
theorem fillQ_length (S : Nat) : ∀ (l : List POp) (n : Nat), (fillQ S n l).length ≤ l.length
  | [], n => by simp [fillQ]
  | x :: r, n => by
    simp only [fillQ]
    have h1 := fillQ_length S r (n + 1)
    have h2 := fillQ_length S r n
    split <;> simp <;> omega
theorem SpAt.drew {W : World} {p : Nat} {A : Option Addr} {c : Nat} {q : List PMk} {last : Int} {first : Bool} (h : SpAt W p A c q last first) : SpAt W.drew p A c q last first := h.on (Below.refl _ _).drew
/-- What is known of what was kept. -/
theorem fillQ_at (S : Nat) : ∀ (l : List POp) (n i : Nat) (x : PMk), (fillQ S n l)[i]? = some x → x.m = ((n : Int) + i + 1) * S ∧ validL x.o = 0 ∧ x.o ∈ l
  | [], n, i, x, h => by simp [fillQ] at h
  | o :: r, n, i, x, h => by
    simp only [fillQ] at h
    by_cases ho : validL o = 0
    · rw [if_pos ho] at h
      rcases i with _ | i
      · obtain rfl : _ = x := by simpa using h
        exact ⟨by simp, ho, by simp⟩
      · have := fillQ_at S r (n + 1) i x (by simpa using h)
        refine ⟨?_, this.2.1, List.mem_cons_of_mem _ this.2.2⟩
        rw [this.1]
        have : (((n + 1 : Nat) : Int) + (i : Int) + 1) = ((n : Int) + ((i + 1 : Nat) : Int) + 1) := by omega
        rw [this]
    · rw [if_neg ho] at h
      have := fillQ_at S r n i x h
      exact ⟨this.1, this.2.1, List.mem_cons_of_mem _ this.2.2⟩

set_option maxHeartbeats 4000000 in
set_option maxRecDepth 100000 in
theorem filled_any (f : Bool) (A : Option Addr) (c S : Nat) (l : List POp) (w : World) (hl : Rd opF w A l) (hok : ∀ o ∈ l, 0 ≤ o.c ∧ o.c ≤ 255) (hll : l.length ≤ 9223372036854775807) (hS1 : 1 ≤ S) (hS2 : S ≤ 50) :
    Calls Tryd.prog 46 #[.bool f, .slice A l.length c, .int .i64 S] w fun e w' =>
      ∃ (p : Nat) (A' : Option Addr) (c' : Nat), e = .returned (.tuple #[.pointer (some ⟨p, 0, none⟩), .int .i64 (fillQ S 0 (l.take 60)).length, .bool true]) ∧ SpAt w' p A' c' (fillQ S 0 (l.take 60)) ((fillQ S 0 (l.take 60)).length * S) f ∧ w.heap.size ≤ p ∧ (∀ b ∈ own A', w.heap.size ≤ b) ∧ Below w.heap.size w w' := by
  have HOK := Lib.hid hok
  clear hok
  go_enter Tryd.func46, Tryd.ntmps46
  go_wp2_with fail
  with_reducible refine (new_any _ _).mono ?_
  rintro e w1 ⟨rfl, hS, hB⟩
  go_wp2_with fail
  go_loopw [10, 11] (fun n i wr => ∃ (k : Nat) (A' : Option Addr) (c' : Nat), k ≤ l.length ∧ k ≤ 60 ∧ i = .int .i64 k ∧ n = .int .i64 (fillQ S 0 (l.take k)).length ∧ (fillQ S 0 (l.take k)).length ≤ k ∧ SpAt wr w.heap.size A' c' (fillQ S 0 (l.take k)) ((fillQ S 0 (l.take k)).length * S) f ∧ (∀ b ∈ own A', w.heap.size ≤ b) ∧ Below w.heap.size w wr) (fun n i wr => 60 - (intOf i).toNat)
  case atStart => exact ⟨0, none, 0, Nat.zero_le _, by omega, rfl, rfl, by simp [fillQ], by simpa [fillQ] using hS, by simp [own], hB⟩
  case round =>
    clear hS hB
    obtain ⟨k, A', c', hk, hk60, rfl, rfl, hlen, hS, hfr, hB⟩ := hrel
    by_cases hlt : k < l.length
    · by_cases hlt2 : k < 60
      · obtain ⟨b, off, x, hA, hx, hbl, FA⟩ := hl.five k hlt
        subst hA
        have hcx : 0 ≤ x.c ∧ x.c ≤ 255 := HOK.out x (List.mem_of_getElem? hx.out)
        have hts : l.take (k + 1) = l.take k ++ [x] := by rw [List.take_add_one, hx.out]; rfl
        have hsn := fillQ_snoc S x (l.take k) 0
        rw [← hts] at hsn
        have HSN := Lib.hid hsn
        have hlen2 := Lib.hid (fillQ_length S (l.take k) 0)
        have FB := five_keep FA hB hbl
        obtain ⟨e0, e1, e2, e3, e4⟩ := FB
        have hmb : (((fillQ S 0 (l.take k)).length : Int) + 1) * S ≤ 4096 ∧ 0 ≤ (((fillQ S 0 (l.take k)).length : Int) + 1) * S := by
          have h1 : (((fillQ S 0 (l.take k)).length : Int) + 1) * S ≤ 60 * 50 := Int.mul_le_mul (by omega) (by omega) (by omega) (by omega)
          have h2 : 0 ≤ (((fillQ S 0 (l.take k)).length : Int) + 1) * S := Int.mul_nonneg (by omega) (by omega)
          omega
        have hmm : ((fillQ S 0 (l.take k)).length : Int) * S < (((fillQ S 0 (l.take k)).length : Int) + 1) * S := by rw [Int.add_mul]; omega
        clear hts hsn
        go_wp2_with fail
        with_reducible refine (valid_any _ _ hcx).mono ?_
        rintro e w2 ⟨rfl, b2⟩
        replace hS := hS.on b2
        have hB1 := hB.trans (b2.mono hB.size)
        clear e0 e1 e2 e3 e4 b2 hB
        by_cases hv : validL x = 0
        · have HV := Lib.hid hv
          have hne : (validL x != validL x) = false := by simp
          rw [HV.out]
          have hmul : IntKind.i64.wrap ((((fillQ S 0 (l.take k)).length : Int) + 1) * S) = (((fillQ S 0 (l.take k)).length : Int) + 1) * S := IntWalk.i64_in _ (by omega)
          have hadd : IntKind.i64.wrap (((fillQ S 0 (l.take k)).length : Int) + 1) = ((fillQ S 0 (l.take k)).length : Int) + 1 := IntWalk.i64_in _ (by omega)
          clear hv
          go_wp2_with fail
          go_region_held3 (fun V => (V.cell? ⟨b, off + k * 5, none⟩ = some (.int .i64 x.k) ∧ V.cell? ⟨b, off + k * 5 + 1, none⟩ = some (.int .i64 x.p) ∧ V.cell? ⟨b, off + k * 5 + 2, none⟩ = some (.int .u8 x.c) ∧ V.cell? ⟨b, off + k * 5 + 3, none⟩ = some (.int .i64 x.l) ∧ V.cell? ⟨b, off + k * 5 + 4, none⟩ = some (.int .i64 x.s)))
            (first | ((with_reducible refine five_keep FA ?_ hbl <;> (repeat' (first | with_reducible exact Below.refl _ _ | with_reducible exact hB | with_reducible exact hB1 | with_reducible exact hB3 | with_reducible refine Below.drew ?_ | fail))); done) | fail)
            (first
              | (go_at_call 55; go_must (with_reducible refine (keep_ok _ x _ (SpAt.drew hS) hcx HV.out hmm hmb.1 (by omega)).mono ?_); rintro e w3 ⟨rfl, A3, c3, hS3, hb3, hf3⟩; (have hB3 : Below w.heap.size w w3 := hb3.below hB1.drew hB1.size (fun b hb => by rcases List.mem_cons.1 hb with rfl | hb; exact Nat.le_refl _; exact hfr b hb)))
              | fail)
          all_goals
            clear hmul hadd hmb hmm
            go_wp2_with fail
            go_roundw
            case rel =>
              have hq2 : fillQ S 0 (l.take (k + 1)) = fillQ S 0 (l.take k) ++ [⟨(((fillQ S 0 (l.take k)).length : Int) + 1) * S, x⟩] := by rw [HSN.out, if_pos HV.out]; simp
              have hl2 : (fillQ S 0 (l.take (k + 1))).length = (fillQ S 0 (l.take k)).length + 1 := by rw [hq2]; simp
              refine ⟨k + 1, A3, c3, by omega, by omega, by go_num, by rw [hl2]; go_num, by omega, ?_, fun b hb => ?_, hB3⟩
              · rw [hl2, hq2]
                simpa using hS3
              · rcases hf3 b hb with h1 | h1
                · exact hfr b h1
                · exact Nat.le_trans hB1.size h1
            case measure => simp [intOf]; omega
        · have HV := Lib.hid hv
          have hq0 : (validL x == 0) = false := by simpa using hv
          have hmul : IntKind.i64.wrap ((((fillQ S 0 (l.take k)).length : Int) + 1) * S) = (((fillQ S 0 (l.take k)).length : Int) + 1) * S := IntWalk.i64_in _ (by omega)
          have hadd : IntKind.i64.wrap (((fillQ S 0 (l.take k)).length : Int) + 1) = ((fillQ S 0 (l.take k)).length : Int) + 1 := IntWalk.i64_in _ (by omega)
          clear hv
          go_wp2_with fail
          go_region_held3 (fun V => (V.cell? ⟨b, off + k * 5, none⟩ = some (.int .i64 x.k) ∧ V.cell? ⟨b, off + k * 5 + 1, none⟩ = some (.int .i64 x.p) ∧ V.cell? ⟨b, off + k * 5 + 2, none⟩ = some (.int .u8 x.c) ∧ V.cell? ⟨b, off + k * 5 + 3, none⟩ = some (.int .i64 x.l) ∧ V.cell? ⟨b, off + k * 5 + 4, none⟩ = some (.int .i64 x.s)))
            (first | ((with_reducible refine five_keep FA ?_ hbl <;> (repeat' (first | with_reducible exact Below.refl _ _ | with_reducible exact hB | with_reducible exact hB1 | with_reducible exact hB3 | with_reducible refine Below.drew ?_ | fail))); done) | fail)
            (first
              | (go_at_call 55; (with_reducible refine (keep_bad _ x _ (SpAt.drew hS) hcx HV.out).mono ?_); rintro e w3 ⟨rfl, hb3⟩; (have hB3 : Below w.heap.size w w3 := hB1.drew.trans (hb3.mono hB1.size)); (have hS3 := (SpAt.drew hS).on hb3))
              | fail)
          all_goals
            clear hmul hadd hmb hmm
            go_wp2_with fail
            go_roundw
            case rel =>
              have hq2 : fillQ S 0 (l.take (k + 1)) = fillQ S 0 (l.take k) := by rw [HSN.out, if_neg HV.out]; simp
              refine ⟨k + 1, A', c', by omega, by omega, by go_num, by rw [hq2], by rw [hq2]; omega, ?_, hfr, hB3⟩
              rw [hq2]
              exact hS3
            case measure => simp [intOf]; omega
      · have htk : Hid (l.take k = l.take 60) := Lib.hid (by rw [show k = 60 by omega])
        have hqf : fillQ S 0 (l.take k) = fillQ S 0 (l.take 60) := by rw [htk.out]
        have hcn : ((fillQ S 0 (l.take k)).length : Int) * S ≤ 4096 ∧ 0 ≤ ((fillQ S 0 (l.take k)).length : Int) * S := by
          have h1 : ((fillQ S 0 (l.take k)).length : Int) * S ≤ 60 * 50 := Int.mul_le_mul (by omega) (by omega) (by omega) (by omega)
          have h2 : 0 ≤ ((fillQ S 0 (l.take k)).length : Int) * S := Int.mul_nonneg (by omega) (by omega)
          omega
        have hmul : IntKind.i64.wrap (((fillQ S 0 (l.take k)).length : Int) * S) = ((fillQ S 0 (l.take k)).length : Int) * S := IntWalk.i64_in _ (by omega)
        have HQF := Lib.hid hqf
        clear hqf
        go_wp2_with fail
        with_reducible refine (queue_any _ hS (by omega)).mono ?_
        rintro e w3 ⟨A3, c3, rfl, hO3, hB3⟩
        replace hS := hS.on hB3
        replace hB := hB.trans (hB3.mono hB.size)
        go_wp2_with fail
        with_reducible refine (last_any _ hS).mono ?_
        rintro e w4 ⟨rfl, hw⟩
        subst w4
        go_wp2
        refine bodyPost_ret (v := .tuple #[.pointer (some ⟨w.heap.size, 0, none⟩), .int .i64 ((fillQ S 0 (l.take k)).length : Int), .bool true]) (by simp [results, Tryd.results46, go_sem]) rfl ?_
        rw [HQF.out] at hS ⊢
        exact ⟨w.heap.size, A', c', rfl, hS, Nat.le_refl _, hfr, hB⟩
    · have htk : Hid (l.take k = l.take 60) := Lib.hid (by rw [List.take_of_length_le (by omega), List.take_of_length_le (by omega)])
      have hqf : fillQ S 0 (l.take k) = fillQ S 0 (l.take 60) := by rw [htk.out]
      have hcn : ((fillQ S 0 (l.take k)).length : Int) * S ≤ 4096 ∧ 0 ≤ ((fillQ S 0 (l.take k)).length : Int) * S := by
        have h1 : ((fillQ S 0 (l.take k)).length : Int) * S ≤ 60 * 50 := Int.mul_le_mul (by omega) (by omega) (by omega) (by omega)
        have h2 : 0 ≤ ((fillQ S 0 (l.take k)).length : Int) * S := Int.mul_nonneg (by omega) (by omega)
        omega
      have hmul : IntKind.i64.wrap (((fillQ S 0 (l.take k)).length : Int) * S) = ((fillQ S 0 (l.take k)).length : Int) * S := IntWalk.i64_in _ (by omega)
      have HQF := Lib.hid hqf
      clear hqf
      go_wp2_with fail
      with_reducible refine (queue_any _ hS (by omega)).mono ?_
      rintro e w3 ⟨A3, c3, rfl, hO3, hB3⟩
      replace hS := hS.on hB3
      replace hB := hB.trans (hB3.mono hB.size)
      go_wp2_with fail
      with_reducible refine (last_any _ hS).mono ?_
      rintro e w4 ⟨rfl, hw⟩
      subst w4
      go_wp2
      refine bodyPost_ret (v := .tuple #[.pointer (some ⟨w.heap.size, 0, none⟩), .int .i64 ((fillQ S 0 (l.take k)).length : Int), .bool true]) (by simp [results, Tryd.results46, go_sem]) rfl ?_
      rw [HQF.out] at hS ⊢
      exact ⟨w.heap.size, A', c', rfl, hS, Nat.le_refl _, hfr, hB⟩
end Go.Proofs.YtkicbnkacjnhoaaDoor
