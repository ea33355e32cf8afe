/- The walk of jotterlaw10.SpaceDrops: it answers true. -/
import Derived.Test.YtkicbnkacjnhoaaSpFill
import Derived.Deep.CutRange
namespace Go.Proofs.Ytkicbnkacjnhoaa
open Go.RowKit
set_option linter.unusedVariables false
set_option linter.unusedSimpArgs false

theorem ev_unguard {P : Program} {ops : Array Oper} {rest : List Oper} {o : Oper} {a : Act} {Q : Exit → Act → World → Prop} {w : World} (hw : Region.wanted o (yielded ops a.tmps) = true)
    (h : wpList P ops Q ({ o with guard := none } :: rest) a w) : wpList P ops Q (o :: rest) a w := by
  have h2 : Region.wanted { o with guard := none } (yielded ops a.tmps) = true := by simp [Region.wanted]
  rw [wpList, if_pos h2] at h
  rw [wpList, if_pos hw]
  exact h
theorem drop_same {q : List PMk} {m : Int} {n1 n2 : Nat} (h1 : n1 ≤ q.length ∧ dropQ m q = q.drop n1) (h2 : n2 ≤ q.length ∧ dropQ m q = q.drop n2) : n2 = n1 := by
  have h := congrArg List.length (h1.2.symm.trans h2.2)
  simp only [List.length_drop] at h
  omega
theorem dropQ_twice (m : Int) : ∀ q : List PMk, dropQ m (dropQ m q) = dropQ m q
  | [] => rfl
  | x :: q => by
    by_cases h : x.m ≤ m
    · simp only [dropQ, if_pos h]
      exact dropQ_twice m q
    · simp only [dropQ, if_neg h]
theorem drops_second {q : List PMk} {mark : Int} {n n2 : Nat} {z : PMk} (h1 : n ≤ q.length ∧ dropQ mark q = q.drop n) (hz : ∀ u ∈ q, u.m < z.m) (h2 : n2 ≤ (q.drop n ++ [z]).length ∧ dropQ mark (q.drop n ++ [z]) = (q.drop n ++ [z]).drop n2) :
    (z.m ≤ mark → n = q.length ∧ n2 = 1) ∧ (mark < z.m → n2 = 0) := by
  constructor
  · intro h
    have e1 : dropQ mark q = [] := dropQ_all mark q fun u hu => by have := hz u hu; omega
    have hn : n = q.length := by
      have := congrArg List.length (h1.2.symm.trans e1)
      simp only [List.length_drop, List.length_nil] at this
      omega
    have e2 : dropQ mark (q.drop n ++ [z]) = [] := dropQ_all mark _ fun u hu => by
      rcases List.mem_append.1 hu with hu | hu
      · have := hz u (List.mem_of_mem_drop hu); omega
      · rw [List.mem_singleton.1 hu]; exact h
    have := congrArg List.length (h2.2.symm.trans e2)
    have h3 := h2.1
    simp only [List.length_drop, List.length_append, List.length_cons, List.length_nil] at this h3
    exact ⟨hn, by omega⟩
  · intro h
    have e : dropQ mark (q.drop n ++ [z]) = q.drop n ++ [z] := by
      rw [dropQ_append mark _ _ (fun x hx => by rw [List.mem_singleton.1 hx]; exact h), ← h1.2, dropQ_twice]
    have := congrArg List.length (h2.2.symm.trans e)
    have h3 := h2.1
    simp only [List.length_drop, List.length_append, List.length_cons, List.length_nil] at this h3
    omega
theorem queues_m (A1 A2 : Option Addr) (c1 c2 n m : Nat) (xs : List PMk) (w : World) (hn : xs.length = n) (hm : xs.length = m) (h1 : Rd mkF w A1 xs) (h2 : Rd mkF w A2 xs) (hl : xs.length ≤ 1000000) :
    Calls Try.prog 7 #[.slice A1 n c1, .slice A2 m c2] w fun e w' => e = .returned (.bool true) ∧ Below w.heap.size w w' := by
  subst hn hm
  exact queues_yes A1 A2 c1 c2 xs w h1 h2 hl
theorem nop_valid : validL ⟨0, 0, 0, 1, 1⟩ = 0 := by decide
section
variable {p : Nat} {A : Option Addr} {c : Nat} {q : List PMk} {last : Int} {first : Bool}
theorem keep_nop_mark (mark : Int) (w : World) (h : SpAt w p A c q last first) (hm : mark ≤ last ∨ 4096 < mark) :
    Calls Try.prog 9 #[.pointer (some ⟨p, 0, none⟩), .int .i64 mark, .agg #[.int .i64 0, .int .i64 0, .int .u8 0, .int .i64 1, .int .i64 1]] w fun e w' => e = .returned (.int .i64 100) ∧ Below w.heap.size w w' :=
  keep_mark mark ⟨0, 0, 0, 1, 1⟩ w h (by decide) nop_valid hm
theorem keep_nop_ok (mark : Int) (w : World) (h : SpAt w p A c q last first) (hm : last < mark) (hm2 : mark ≤ 4096) (hl : q.length ≤ 100000) :
    Calls Try.prog 9 #[.pointer (some ⟨p, 0, none⟩), .int .i64 mark, .agg #[.int .i64 0, .int .i64 0, .int .u8 0, .int .i64 1, .int .i64 1]] w fun e w' =>
      e = .returned (.int .i64 0) ∧ ∃ A' c', SpAt w' p A' c' (q ++ [⟨mark, ⟨0, 0, 0, 1, 1⟩⟩]) mark first ∧ But (p :: own A) w w' ∧ ∀ b ∈ own A', b ∈ own A ∨ w.heap.size ≤ b :=
  keep_ok mark ⟨0, 0, 0, 1, 1⟩ w h (by decide) nop_valid hm hm2 hl
end

set_option maxHeartbeats 8000000 in
set_option maxRecDepth 100000 in
theorem drops_any (f : Bool) (A1 : Option Addr) (c1 : Nat) (l : List POp) (mark : Int) (w : World) (hl : Rd opF w A1 l) (hok1 : ∀ o ∈ l, 0 ≤ o.c ∧ o.c ≤ 255) (z1 : l.length ≤ 9223372036854775807) :
    Calls Try.prog 3 #[.bool f, .slice A1 l.length c1, .int .i64 mark] w fun e w' => e = .returned (.bool true) ∧ Below w.heap.size w w' := by
  have HOK1 := Lib.hid hok1
  clear hok1
  go_enter Try.func3, Try.ntmps3
  go_wp2_with fail
  with_reducible refine (filled_s f _ _ 5 5 rfl l _ hl HOK1.out z1 (by omega) (by omega)).mono ?_
  rintro e w0 ⟨p, A, c, rfl, hS, hpw, hfr, B⟩
  obtain ⟨q, hq⟩ : ∃ q, q = fillQ 5 0 (l.take 60) := ⟨_, rfl⟩
  have hN60 : q.length ≤ 60 := by
    have := fillQ_length 5 (l.take 60) 0
    rw [hq]
    simp at this
    omega
  have hqm : Hid (∀ u ∈ q, u.m < 5 * (q.length : Int) + 1) := Lib.hid (fun u hu => by
    obtain ⟨i, hi, he⟩ := List.getElem_of_mem hu
    have h1 : q[i]? = some u := by rw [List.getElem?_eq_getElem hi, he]
    rw [hq] at h1
    have h2 := (fillQ_at 5 _ _ i u h1).1
    push_cast at h2
    omega)
  rw [← hq] at hS ⊢
  clear hq
  have hl5 : ((q.length : Int) * 5) = 5 * (q.length : Int) := by omega
  rw [hl5] at hS
  have HFR := Lib.hid hfr
  clear hl5 hfr
  go_wp2_with fail
  with_reducible refine (queue_any _ hS (by omega)).mono ?_
  rintro e w1 ⟨A3, c3, rfl, hO, b1⟩
  have r1 := hO.rd2
  have hc3 : Hid (q.length ≤ c3) := Lib.hid hO.le
  have n3 : Hid (∀ b off, A3 = some ⟨b, off, none⟩ → b ≠ p) := Lib.hid (fun b off e => by
    have h1 := (hO.lt b (own_mem (own_addr e))).1
    have h2 := hS.blk.lt
    omega)
  replace hS := hS.on b1
  replace B := B.trans (b1.mono B.size)
  clear hO b1
  go_wp2_with fail
  go_loop [11] (fun i => ∃ k : Nat, k ≤ q.length ∧ i = .int .i64 k ∧ Hid (dropQ mark q = dropQ mark (q.drop k))) (fun i => q.length - (intOf i).toNat)
  case atStart => exact ⟨0, Nat.zero_le _, rfl, Lib.hid (by simp)⟩
  case round =>
    obtain ⟨k, hk, rfl, hd⟩ := hrel
    by_cases hlt : k < q.length
    · obtain ⟨b, off, x, hA, hx, hbl, s0, _, _, _, _, _⟩ := r1.six k hlt
      subst hA
      have hdk := dropQ_drop mark q k x hx.out
      by_cases hm : x.m ≤ mark
      · rw [if_pos hm] at hdk
        have HD : Hid (dropQ mark q = dropQ mark (q.drop (k + 1))) := Lib.hid (hd.out.trans hdk)
        clear hdk
        go_wp2
        go_round
        case rel => exact ⟨k + 1, by omega, by go_num, HD⟩
        case measure => simp [intOf]; omega
      · rw [if_neg hm] at hdk
        have hfin : Hid (k ≤ q.length ∧ dropQ mark q = q.drop k) := Lib.hid ⟨hk, hd.out.trans hdk⟩
        have hmd : decide (x.m ≤ mark) = false := by simpa using hm
        clear hdk hm
        go_wp2_with fail
        with_reducible refine (drop_any _ _ hS (by omega)).mono ?_
        rintro e w2 ⟨n, A4, c4, rfl, hn, hS2, b2, hf2⟩
        have hnk : n = k := drop_same hfin.out hn.out
        subst hnk
        have r2 := r1.but b2 (fun b off e hm => n3.out b off e (List.mem_singleton.1 hm))
        have B2 := b2.below B B.size (fun b hb => by rw [List.mem_singleton.1 hb]; exact hpw)
        have hf4 : Hid (∀ b ∈ own A4, w.heap.size ≤ b) := Lib.hid (fun b hb => Nat.le_trans B.size (hf2 b hb))
        have hdl : (q.drop n).length = q.length - n := by simp
        have HDL := Lib.hid hdl
        have hdl60 : (q.drop n).length ≤ 60 := by omega
        clear hn hS B r1 b2 hf2 hdl
        go_wp2_with fail
        with_reducible refine (queue_any _ hS2 (by omega)).mono ?_
        rintro e w3 ⟨A5, c5, rfl, hO5, b3⟩
        have r5 := hO5.rd2
        replace hS2 := hS2.on b3
        replace r2 := r2.below b3
        replace B2 := B2.trans (b3.mono B2.size)
        have t1 : (((q.drop n).length : Int) != (q.length : Int) - n) = false := by have := HDL.out; simp; omega
        rw [HDL.out] at t1 ⊢
        clear hO5 b3
        go_wp2_with (refine at_dst 68 rfl ?_; refine ev_unguard rfl ?_; refine ev_slL El.mark _ rfl 26 _ _ rfl Try.underlying26 (some ⟨b, off, none⟩) q q.length c3 .i64 _ n rfl rfl hc3.out rfl rfl hk ?_; intro A6 hA6)
        with_reducible refine (queues_m _ _ _ _ _ _ (q.drop n) _ HDL.out HDL.out r5 (hA6 _ r2) (by omega)).mono ?_
        rintro e w4 ⟨rfl, b4⟩
        replace hS2 := hS2.on b4
        replace B2 := B2.trans (b4.mono B2.size)
        clear r5 r2 b4 hA6
        go_wp2_with fail
        with_reducible refine (last_any _ hS2).mono ?_
        rintro e w5 ⟨rfl, hw⟩
        subst w5
        go_upto_region 13 with fail
        obtain ⟨b14, hb14⟩ : ∃ b14, b14 = w4.heap.size := ⟨_, rfl⟩
        rw [← hb14]
        have k14 : Blk (w4.alloc (.cells #[.int .i64 0, .int .i64 0, .int .u8 0, .int .i64 1, .int .i64 1] 33)) b14 #[.int .i64 0, .int .i64 0, .int .u8 0, .int .i64 1, .int .i64 1] 33 := by rw [hb14]; exact Blk.new w4 _ _
        have ba := below_alloc (Below.refl w4.heap.size w4) (.cells #[.int .i64 0, .int .i64 0, .int .u8 0, .int .i64 1, .int .i64 1] 33)
        have hnp : Hid (b14 ∉ p :: own A4) := Lib.hid (fun hm => by have := hS2.lt b14 hm; omega)
        replace hS2 := hS2.on ba
        replace B2 := B2.trans (ba.mono B2.size)
        have m5 : IntKind.i64.wrap (5 * (q.length : Int)) = 5 * (q.length : Int) := IntWalk.i64_in _ (by omega)
        have m6 : IntKind.i64.wrap (5 * (q.length : Int) + 1) = 5 * (q.length : Int) + 1 := IntWalk.i64_in _ (by omega)
        clear ba hb14
        go_region_held3 (fun V => (V.cell? ⟨b14, 0, none⟩ = some (.int .i64 0) ∧ V.cell? ⟨b14, 1, none⟩ = some (.int .i64 0) ∧ V.cell? ⟨b14, 2, none⟩ = some (.int .u8 0) ∧ V.cell? ⟨b14, 3, none⟩ = some (.int .i64 1) ∧ V.cell? ⟨b14, 4, none⟩ = some (.int .i64 1)))
          (first | ((with_reducible exact k14.drew.cells5); done) | ((with_reducible exact k15.cells5); done) | fail)
          (first
            | (go_at_call 9; (with_reducible refine (keep_nop_mark _ _ (SpAt.drew hS2) (by omega)).mono ?_); rintro e w6 ⟨rfl, b6⟩; (have k15 := k14.drew.on b6))
            | fail)
        all_goals
          replace hS2 := (SpAt.drew hS2).on b6
          replace B2 := B2.drew.trans (b6.mono B2.size)
          clear k14 b6
          have k14 := k15
          clear k15
          go_upto_region 14 with fail
          go_region_held3 (fun V => (V.cell? ⟨b14, 0, none⟩ = some (.int .i64 0) ∧ V.cell? ⟨b14, 1, none⟩ = some (.int .i64 0) ∧ V.cell? ⟨b14, 2, none⟩ = some (.int .u8 0) ∧ V.cell? ⟨b14, 3, none⟩ = some (.int .i64 1) ∧ V.cell? ⟨b14, 4, none⟩ = some (.int .i64 1)))
            (first | ((with_reducible exact k14.drew.cells5); done) | ((with_reducible exact k16.cells5); done) | fail)
            (first
              | (go_at_call 9; (with_reducible refine (keep_nop_mark _ _ (SpAt.drew hS2) (by omega)).mono ?_); rintro e w7 ⟨rfl, b6⟩; (have k16 := k14.drew.on b6))
              | fail)
          all_goals
            replace hS2 := (SpAt.drew hS2).on b6
            replace B2 := B2.drew.trans (b6.mono B2.size)
            clear k14 b6
            have k14 := k16
            clear k16
            go_wp2_with fail
            with_reducible refine (queue_any _ hS2 (by omega)).mono ?_
            rintro e w8 ⟨A7, c7, rfl, hO7, b8⟩
            replace hS2 := hS2.on b8
            replace B2 := B2.trans (b8.mono B2.size)
            have k14 := k14.on b8
            rw [HDL.out]
            clear hO7 b8
            go_upto_region 17 with fail
            go_region_held3 (fun V => (V.cell? ⟨b14, 0, none⟩ = some (.int .i64 0) ∧ V.cell? ⟨b14, 1, none⟩ = some (.int .i64 0) ∧ V.cell? ⟨b14, 2, none⟩ = some (.int .u8 0) ∧ V.cell? ⟨b14, 3, none⟩ = some (.int .i64 1) ∧ V.cell? ⟨b14, 4, none⟩ = some (.int .i64 1)))
              (first | ((with_reducible exact k14.drew.cells5); done) | ((with_reducible exact k17.cells5); done) | fail)
              (first
                | (go_at_call 9; (with_reducible refine (keep_nop_ok _ _ (SpAt.drew hS2) (by omega) (by omega) (by omega)).mono ?_); rintro e w9 ⟨rfl, A9, c9, hS9, b9, hf9⟩; (have k17 := k14.drew.but b9 hnp.out))
                | fail)
            all_goals
              have B9 := b9.below B2.drew B2.size (fun b hb => by rcases List.mem_cons.1 hb with rfl | hb; exact hpw; exact hf4.out b hb)
              clear b9 hf9 k14 k17 hS2 B2 hnp m5 m6
              have hz : ∀ u ∈ q, u.m < (⟨5 * (q.length : Int) + 1, ⟨0, 0, 0, 1, 1⟩⟩ : PMk).m := hqm.out
              have HZ := Lib.hid hz
              have hla : (q.drop n ++ [(⟨5 * (q.length : Int) + 1, ⟨0, 0, 0, 1, 1⟩⟩ : PMk)]).length ≤ 61 := by have := HDL.out; simp; omega
              clear hz
              go_wp2_with fail
              with_reducible refine (drop_any _ _ hS9 (by omega)).mono ?_
              rintro e w10 ⟨n2, A10, c10, rfl, hn2, hS10, b10, hf10⟩
              have hsec := Lib.hid (drops_second hfin.out HZ.out hn2.out)
              have B10 := b10.below B9 B9.size (fun b hb => by rw [List.mem_singleton.1 hb]; exact hpw)
              clear b10 hf10 hS9 B9
              by_cases hmk : 5 * (q.length : Int) + 1 ≤ mark
              · obtain ⟨hnl, hn21⟩ := hsec.out.1 hmk
                subst hn21
                have hle : ((q.drop n ++ [(⟨5 * (q.length : Int) + 1, ⟨0, 0, 0, 1, 1⟩⟩ : PMk)]).drop 1).length = 0 := by have := HDL.out; simp; omega
                have HLE := Lib.hid hle
                clear hsec hnl hle
                go_wp2_with fail
                with_reducible refine (queue_any _ hS10 (by have := HLE.out; omega)).mono ?_
                rintro e w11 ⟨A11, c11, rfl, hO11, b11⟩
                rw [HLE.out]
                go_wp2
                go_ret
                exact ⟨rfl, B10.trans (b11.mono B10.size)⟩
              · have hn20 := hsec.out.2 (by simp only; omega)
                subst hn20
                have hle : ((q.drop n ++ [(⟨5 * (q.length : Int) + 1, ⟨0, 0, 0, 1, 1⟩⟩ : PMk)]).drop 0).length = q.length - n + 1 := by have := HDL.out; simp
                have HLE := Lib.hid hle
                have tt : (((q.length - n + 1 : Nat) : Int) == (q.length : Int) - n + 1) = true := by simp; omega
                clear hsec hle
                go_wp2_with fail
                with_reducible refine (queue_any _ hS10 (by have := HLE.out; omega)).mono ?_
                rintro e w11 ⟨A11, c11, rfl, hO11, b11⟩
                replace hS10 := hS10.on b11
                rw [HLE.out]
                clear hO11
                go_wp2_with fail
                with_reducible refine (last_any _ hS10).mono ?_
                rintro e w12 ⟨rfl, hw⟩
                subst w12
                go_wp2
                go_ret
                exact ⟨rfl, B10.trans (b11.mono B10.size)⟩
    · have hfin : Hid (k ≤ q.length ∧ dropQ mark q = q.drop k) := Lib.hid ⟨hk, by rw [hd.out, show q.drop k = [] by rw [List.drop_eq_nil_iff]; omega]; rfl⟩
      go_wp2_with fail
      with_reducible refine (drop_any _ _ hS (by omega)).mono ?_
      rintro e w2 ⟨n, A4, c4, rfl, hn, hS2, b2, hf2⟩
      have hnk : n = k := drop_same hfin.out hn.out
      subst hnk
      have r2 := r1.but b2 (fun b off e hm => n3.out b off e (List.mem_singleton.1 hm))
      have B2 := b2.below B B.size (fun b hb => by rw [List.mem_singleton.1 hb]; exact hpw)
      have hf4 : Hid (∀ b ∈ own A4, w.heap.size ≤ b) := Lib.hid (fun b hb => Nat.le_trans B.size (hf2 b hb))
      have hdl : (q.drop n).length = q.length - n := by simp
      have HDL := Lib.hid hdl
      have hdl60 : (q.drop n).length ≤ 60 := by omega
      clear hn hS B r1 b2 hf2 hdl
      go_wp2_with fail
      with_reducible refine (queue_any _ hS2 (by omega)).mono ?_
      rintro e w3 ⟨A5, c5, rfl, hO5, b3⟩
      have r5 := hO5.rd2
      replace hS2 := hS2.on b3
      replace r2 := r2.below b3
      replace B2 := B2.trans (b3.mono B2.size)
      have t1 : (((q.drop n).length : Int) != (q.length : Int) - n) = false := by have := HDL.out; simp; omega
      rw [HDL.out] at t1 ⊢
      clear hO5 b3
      go_wp2_with (refine at_dst 68 rfl ?_; refine ev_unguard rfl ?_; refine ev_slL El.mark _ rfl 26 _ _ rfl Try.underlying26 A3 q q.length c3 .i64 _ n rfl rfl hc3.out rfl rfl hk ?_; intro A6 hA6)
      with_reducible refine (queues_m _ _ _ _ _ _ (q.drop n) _ HDL.out HDL.out r5 (hA6 _ r2) (by omega)).mono ?_
      rintro e w4 ⟨rfl, b4⟩
      replace hS2 := hS2.on b4
      replace B2 := B2.trans (b4.mono B2.size)
      clear r5 r2 b4 hA6
      go_wp2_with fail
      with_reducible refine (last_any _ hS2).mono ?_
      rintro e w5 ⟨rfl, hw⟩
      subst w5
      go_upto_region 13 with fail
      obtain ⟨b14, hb14⟩ : ∃ b14, b14 = w4.heap.size := ⟨_, rfl⟩
      rw [← hb14]
      have k14 : Blk (w4.alloc (.cells #[.int .i64 0, .int .i64 0, .int .u8 0, .int .i64 1, .int .i64 1] 33)) b14 #[.int .i64 0, .int .i64 0, .int .u8 0, .int .i64 1, .int .i64 1] 33 := by rw [hb14]; exact Blk.new w4 _ _
      have ba := below_alloc (Below.refl w4.heap.size w4) (.cells #[.int .i64 0, .int .i64 0, .int .u8 0, .int .i64 1, .int .i64 1] 33)
      have hnp : Hid (b14 ∉ p :: own A4) := Lib.hid (fun hm => by have := hS2.lt b14 hm; omega)
      replace hS2 := hS2.on ba
      replace B2 := B2.trans (ba.mono B2.size)
      have m5 : IntKind.i64.wrap (5 * (q.length : Int)) = 5 * (q.length : Int) := IntWalk.i64_in _ (by omega)
      have m6 : IntKind.i64.wrap (5 * (q.length : Int) + 1) = 5 * (q.length : Int) + 1 := IntWalk.i64_in _ (by omega)
      clear ba hb14
      go_region_held3 (fun V => (V.cell? ⟨b14, 0, none⟩ = some (.int .i64 0) ∧ V.cell? ⟨b14, 1, none⟩ = some (.int .i64 0) ∧ V.cell? ⟨b14, 2, none⟩ = some (.int .u8 0) ∧ V.cell? ⟨b14, 3, none⟩ = some (.int .i64 1) ∧ V.cell? ⟨b14, 4, none⟩ = some (.int .i64 1)))
        (first | ((with_reducible exact k14.drew.cells5); done) | ((with_reducible exact k15.cells5); done) | fail)
        (first
          | (go_at_call 9; (with_reducible refine (keep_nop_mark _ _ (SpAt.drew hS2) (by omega)).mono ?_); rintro e w6 ⟨rfl, b6⟩; (have k15 := k14.drew.on b6))
          | fail)
      all_goals
        replace hS2 := (SpAt.drew hS2).on b6
        replace B2 := B2.drew.trans (b6.mono B2.size)
        clear k14 b6
        have k14 := k15
        clear k15
        go_upto_region 14 with fail
        go_region_held3 (fun V => (V.cell? ⟨b14, 0, none⟩ = some (.int .i64 0) ∧ V.cell? ⟨b14, 1, none⟩ = some (.int .i64 0) ∧ V.cell? ⟨b14, 2, none⟩ = some (.int .u8 0) ∧ V.cell? ⟨b14, 3, none⟩ = some (.int .i64 1) ∧ V.cell? ⟨b14, 4, none⟩ = some (.int .i64 1)))
          (first | ((with_reducible exact k14.drew.cells5); done) | ((with_reducible exact k16.cells5); done) | fail)
          (first
            | (go_at_call 9; (with_reducible refine (keep_nop_mark _ _ (SpAt.drew hS2) (by omega)).mono ?_); rintro e w7 ⟨rfl, b6⟩; (have k16 := k14.drew.on b6))
            | fail)
        all_goals
          replace hS2 := (SpAt.drew hS2).on b6
          replace B2 := B2.drew.trans (b6.mono B2.size)
          clear k14 b6
          have k14 := k16
          clear k16
          go_wp2_with fail
          with_reducible refine (queue_any _ hS2 (by omega)).mono ?_
          rintro e w8 ⟨A7, c7, rfl, hO7, b8⟩
          replace hS2 := hS2.on b8
          replace B2 := B2.trans (b8.mono B2.size)
          have k14 := k14.on b8
          rw [HDL.out]
          clear hO7 b8
          go_upto_region 17 with fail
          go_region_held3 (fun V => (V.cell? ⟨b14, 0, none⟩ = some (.int .i64 0) ∧ V.cell? ⟨b14, 1, none⟩ = some (.int .i64 0) ∧ V.cell? ⟨b14, 2, none⟩ = some (.int .u8 0) ∧ V.cell? ⟨b14, 3, none⟩ = some (.int .i64 1) ∧ V.cell? ⟨b14, 4, none⟩ = some (.int .i64 1)))
            (first | ((with_reducible exact k14.drew.cells5); done) | ((with_reducible exact k17.cells5); done) | fail)
            (first
              | (go_at_call 9; (with_reducible refine (keep_nop_ok _ _ (SpAt.drew hS2) (by omega) (by omega) (by omega)).mono ?_); rintro e w9 ⟨rfl, A9, c9, hS9, b9, hf9⟩; (have k17 := k14.drew.but b9 hnp.out))
              | fail)
          all_goals
            have B9 := b9.below B2.drew B2.size (fun b hb => by rcases List.mem_cons.1 hb with rfl | hb; exact hpw; exact hf4.out b hb)
            clear b9 hf9 k14 k17 hS2 B2 hnp m5 m6
            have hz : ∀ u ∈ q, u.m < (⟨5 * (q.length : Int) + 1, ⟨0, 0, 0, 1, 1⟩⟩ : PMk).m := hqm.out
            have HZ := Lib.hid hz
            have hla : (q.drop n ++ [(⟨5 * (q.length : Int) + 1, ⟨0, 0, 0, 1, 1⟩⟩ : PMk)]).length ≤ 61 := by have := HDL.out; simp; omega
            clear hz
            go_wp2_with fail
            with_reducible refine (drop_any _ _ hS9 (by omega)).mono ?_
            rintro e w10 ⟨n2, A10, c10, rfl, hn2, hS10, b10, hf10⟩
            have hsec := Lib.hid (drops_second hfin.out HZ.out hn2.out)
            have B10 := b10.below B9 B9.size (fun b hb => by rw [List.mem_singleton.1 hb]; exact hpw)
            clear b10 hf10 hS9 B9
            by_cases hmk : 5 * (q.length : Int) + 1 ≤ mark
            · obtain ⟨hnl, hn21⟩ := hsec.out.1 hmk
              subst hn21
              have hle : ((q.drop n ++ [(⟨5 * (q.length : Int) + 1, ⟨0, 0, 0, 1, 1⟩⟩ : PMk)]).drop 1).length = 0 := by have := HDL.out; simp; omega
              have HLE := Lib.hid hle
              clear hsec hnl hle
              go_wp2_with fail
              with_reducible refine (queue_any _ hS10 (by have := HLE.out; omega)).mono ?_
              rintro e w11 ⟨A11, c11, rfl, hO11, b11⟩
              rw [HLE.out]
              go_wp2
              go_ret
              exact ⟨rfl, B10.trans (b11.mono B10.size)⟩
            · have hn20 := hsec.out.2 (by simp only; omega)
              subst hn20
              have hle : ((q.drop n ++ [(⟨5 * (q.length : Int) + 1, ⟨0, 0, 0, 1, 1⟩⟩ : PMk)]).drop 0).length = q.length - n + 1 := by have := HDL.out; simp
              have HLE := Lib.hid hle
              have tt : (((q.length - n + 1 : Nat) : Int) == (q.length : Int) - n + 1) = true := by simp; omega
              clear hsec hle
              go_wp2_with fail
              with_reducible refine (queue_any _ hS10 (by have := HLE.out; omega)).mono ?_
              rintro e w11 ⟨A11, c11, rfl, hO11, b11⟩
              replace hS10 := hS10.on b11
              rw [HLE.out]
              clear hO11
              go_wp2_with fail
              with_reducible refine (last_any _ hS10).mono ?_
              rintro e w12 ⟨rfl, hw⟩
              subst w12
              go_wp2
              go_ret
              exact ⟨rfl, B10.trans (b11.mono B10.size)⟩
end Go.Proofs.Ytkicbnkacjnhoaa
