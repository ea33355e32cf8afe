/- The walk of jotterlaw10.SpaceLooks: it answers true. -/
import Derived.Test.YtkicbnkacjnhoaaDoorSpFill
import Derived.Test.YtkicbnkacjnhoaaDoorOtMerge
namespace Go.Proofs.YtkicbnkacjnhoaaDoor
open Go.RowKit
set_option linter.unusedVariables false
set_option linter.unusedSimpArgs false

theorem filled_s (f : Bool) (A : Option Addr) (c S : Nat) (Si : Int) (hSi : Si = (S : Int)) (l : List POp) (w : World) (hl : Rd opF w A l) (hok : ∀ o ∈ l, 0 ≤ o.c ∧ o.c ≤ 255) (hll : l.length ≤ 9223372036854775807) (hS1 : 1 ≤ S) (hS2 : S ≤ 50) :
    Calls Tryd.prog 46 #[.bool f, .slice A l.length c, .int .i64 Si] w fun e w' =>
      ∃ (p : Nat) (A' : Option Addr) (c' : Nat), e = .returned (.tuple #[.pointer (some ⟨p, 0, none⟩), .int .i64 (fillQ S 0 (l.take 60)).length, .bool true]) ∧ SpAt w' p A' c' (fillQ S 0 (l.take 60)) ((fillQ S 0 (l.take 60)).length * Si) f ∧ w.heap.size ≤ p ∧ (∀ b ∈ own A', w.heap.size ≤ b) ∧ Below w.heap.size w w' := by
  subst hSi
  exact filled_any f A c S l w hl hok hll hS1 hS2
theorem past_at (g : Bool) : ∀ (line : List POp) (op : POp) (i : Nat) (z y : POp), (pastL op line g).2[i]? = some z → line[i]? = some y → z.l = y.l ∧ z.s = y.s
  | [], _, i, z, y, _, h => by simp at h
  | x :: r, op, 0, z, y, h1, h2 => by
    obtain rfl : x = y := by simpa using h2
    simp only [pastL, List.getElem?_cons_zero, Option.some.injEq] at h1
    rw [← h1]
    exact shift_ls x op g
  | x :: r, op, i + 1, z, y, h1, h2 => by
    simp only [pastL, List.getElem?_cons_succ] at h1
    exact past_at g r _ i z y h1 (by simpa using h2)
theorem withOps_get : ∀ (q : List PMk) (l : List POp) (i : Nat) (u : PMk), (withOps q l)[i]? = some u → ∃ x, q[i]? = some x ∧ l[i]? = some u.o ∧ u.m = x.m
  | [], _, _, _, h => by simp [withOps] at h
  | _ :: _, [], _, _, h => by simp [withOps] at h
  | x :: q, o :: l, 0, u, h => by
    simp only [withOps, List.getElem?_cons_zero, Option.some.injEq] at h
    rw [← h]
    exact ⟨x, rfl, rfl, rfl⟩
  | x :: q, o :: l, i + 1, u, h => by
    simp only [withOps, List.getElem?_cons_succ] at h ⊢
    exact withOps_get q l i u h
theorem crossQ_at {g : Bool} {q : List PMk} {o : POp} {i : Nat} {u v : PMk} (hu : (crossQ g q o)[i]? = some u) (hv : q[i]? = some v) : u.m = v.m ∧ u.o.l = v.o.l ∧ u.o.s = v.o.s := by
  obtain ⟨x, h1, h2, h3⟩ := withOps_get _ _ _ _ hu
  rw [hv] at h1
  obtain rfl := Option.some.inj h1
  exact ⟨h3, past_at g (opsQ q) o i u.o v.o h2 (by simp [opsQ, hv])⟩

set_option maxHeartbeats 8000000 in
set_option maxRecDepth 100000 in
theorem looks_any (f : Bool) (A1 A2 : Option Addr) (c1 c2 : Nat) (l far : List POp) (w : World) (hr : RulesAt w) (hl : Rd opF w A1 l) (hf : Rd opF w A2 far) (hok1 : ∀ o ∈ l, 0 ≤ o.c ∧ o.c ≤ 255) (hok2 : ∀ o ∈ far, 0 ≤ o.c ∧ o.c ≤ 255) (z1 : l.length ≤ 9223372036854775807) (z2 : far.length ≤ 9223372036854775807) :
    Calls Tryd.prog 14 #[.bool f, .slice A1 l.length c1, .slice A2 far.length c2] w fun e w' => e = .returned (.bool true) ∧ Below w.heap.size w w' := by
  have HOK1 := Lib.hid hok1
  have HOK2 := Lib.hid hok2
  clear hok1 hok2
  go_enter Tryd.func14, Tryd.ntmps14
  go_wp2_with fail
  with_reducible refine (filled_s f _ _ 3 3 rfl l _ hl HOK1.out z1 (by omega) (by omega)).mono ?_
  rintro e w0 ⟨p, A, c, rfl, hS, hpw, hfr, B⟩
  obtain ⟨q0, hq0⟩ : ∃ q0, q0 = fillQ 3 0 (l.take 60) := ⟨_, rfl⟩
  have hN60 : q0.length ≤ 60 := by
    have := fillQ_length 3 (l.take 60) 0
    rw [hq0]
    simp at this
    omega
  have hqm0 : Hid (∀ (i : Nat) (x : PMk), q0[i]? = some x → x.m = 3 * ((i : Int) + 1)) := Lib.hid (fun i x hx => by
    rw [hq0] at hx
    rw [(fillQ_at 3 _ _ i x hx).1]
    push_cast
    omega)
  rw [← hq0] at hS ⊢
  clear hq0
  obtain ⟨N, hN⟩ : ∃ N, N = q0.length := ⟨_, rfl⟩
  rw [← hN] at hS hN60 ⊢
  have HN := Lib.hid hN
  have hfrA : ∀ b ∈ own A, w.heap.size ≤ b := hfr
  clear hN hfr
  go_wp2_with fail
  go_loopw [10] (fun i wr => ∃ (k : Nat) (q : List PMk), k ≤ far.length ∧ k ≤ 60 ∧ i = .int .i64 k ∧ Hid (q.length = N) ∧ Hid (∀ (i : Nat) (x : PMk), q[i]? = some x → x.m = 3 * ((i : Int) + 1)) ∧ SpAt wr p A c q ((N : Int) * 3) f ∧ Below w.heap.size w wr) (fun i wr => 60 - (intOf i).toNat)
  case atStart => exact ⟨0, q0, Nat.zero_le _, by omega, rfl, Lib.hid HN.out.symm, hqm0, hS, B⟩
  case round =>
    clear hS B hqm0
    obtain ⟨k, q, hk, hk60, rfl, hqN, hqm, hS, B⟩ := hrel
    by_cases hlt : k < far.length
    · by_cases hlt2 : k < 60
      · obtain ⟨b, off, x, hA2, hx, hbl, FA⟩ := hf.five k hlt
        subst hA2
        have hcx : 0 ≤ x.c ∧ x.c ≤ 255 := HOK2.out x (List.mem_of_getElem? hx.out)
        have hq60 : q.length ≤ 60 := by have := hqN.out; omega
        clear hx
        by_cases hv : validL x = 0
        · have HV := Lib.hid hv
          clear hv
          go_wp2_with fail
          with_reducible refine (queue_any _ hS (by omega)).mono ?_
          rintro e w1 ⟨A1, c1, rfl, hO1, b1⟩
          have r1 := hO1.rd2
          have r1n : ∀ b off, A1 = some ⟨b, off, none⟩ → b ∉ own A := fun b off e hm => by
            have h1 := (hO1.lt b (own_mem (own_addr e))).1
            have h2 := hS.lt b (List.mem_cons_of_mem _ hm)
            omega
          replace hS := hS.on b1
          replace B := B.trans (b1.mono B.size)
          clear hO1 b1
          obtain ⟨e0, e1, e2, e3, e4⟩ := five_keep FA B hbl
          go_wp2_with fail
          with_reducible refine (look_ok _ _ (hr.on B) hS hcx HV.out (by omega)).mono ?_
          rintro e w2 ⟨y, hy, rfl, b2⟩
          clear e0 e1 e2 e3 e4
          replace hS := hS.on b2
          replace B := B.trans (b2.mono B.size)
          replace r1 := r1.below b2
          clear b2
          have k12 := Blk.new w2 #[.int .i64 y.k, .int .i64 y.p, .int .u8 y.c, .int .i64 y.l, .int .i64 y.s] 23
          have k12n : w2.heap.size ∉ own A := fun hm => by have := hS.lt _ (List.mem_cons_of_mem _ hm); omega
          have ba2 := below_alloc (Below.refl w2.heap.size w2) (.cells #[.int .i64 y.k, .int .i64 y.p, .int .u8 y.c, .int .i64 y.l, .int .i64 y.s] 23)
          replace hS := hS.on ba2
          replace B := B.trans (ba2.mono B.size)
          replace r1 := r1.below ba2
          clear ba2
          go_wp2_with fail
          with_reducible refine (queue_any _ hS (by omega)).mono ?_
          rintro e w3 ⟨A3, c3, rfl, hO3, b3⟩
          have r3 := hO3.rd2
          replace hS := hS.on b3
          replace B := B.trans (b3.mono B.size)
          replace r1 := r1.below b3
          replace k12 := k12.on b3
          clear hO3 b3
          go_wp2_with fail
          with_reducible refine (queues_yes _ _ _ _ _ _ r3 r1 (by omega)).mono ?_
          rintro e w4 ⟨rfl, b4⟩
          clear r3
          replace hS := hS.on b4
          replace B := B.trans (b4.mono B.size)
          replace r1 := r1.below b4
          replace k12 := k12.on b4
          clear b4
          obtain ⟨e0, e1, e2, e3, e4⟩ := five_keep FA B hbl
          go_wp2_with fail
          with_reducible refine (cross_ok _ _ (hr.on B) hS hcx HV.out (by omega)).mono ?_
          rintro e w5 ⟨y2, hy2, rfl, hS5, b5⟩
          have hyy : y = y2 := hy.out.symm.trans hy2.out
          subst hyy
          clear e0 e1 e2 e3 e4
          replace hS := hS5
          replace B := b5.below B B.size hfrA
          replace r1 := r1.but b5 r1n
          replace k12 := k12.but b5 k12n
          clear hS5 b5 hy hy2
          have hql : (crossQ f q x).length = q.length := withOps_length _ _ (past_len f q x)
          have HQL := Lib.hid hql
          obtain ⟨q2, hq2⟩ : ∃ q2, q2 = crossQ f q x := ⟨_, rfl⟩
          rw [← hq2] at hS HQL
          have HQ2 := Lib.hid hq2
          clear hq2 hql
          have hl2 : q2.length = N := HQL.out.trans hqN.out
          have k14 := Blk.new w5 #[.int .i64 y.k, .int .i64 y.p, .int .u8 y.c, .int .i64 y.l, .int .i64 y.s] 23
          have ba5 := below_alloc (Below.refl w5.heap.size w5) (.cells #[.int .i64 y.k, .int .i64 y.p, .int .u8 y.c, .int .i64 y.l, .int .i64 y.s] 23)
          replace hS := hS.on ba5
          replace B := B.trans (ba5.mono B.size)
          replace r1 := r1.below ba5
          replace k12 := k12.on ba5
          have hl2N : q2.length ≤ 60 := by omega
          have hnq : ((q2.length : Int) != N) = false := by simp [hl2]
          have hnb : ((q.length : Int) != N) = false := by simp [hqN.out]
          have HL2 := Lib.hid hl2
          clear ba5 hl2
          go_wp2_with fail
          with_reducible refine (queue_any _ hS (by omega)).mono ?_
          rintro e w6 ⟨A2, c2', rfl, hO2, b6⟩
          have r2 := hO2.rd2
          replace hS := hS.on b6
          replace B := B.trans (b6.mono B.size)
          replace r1 := r1.below b6
          replace k12 := k12.on b6
          replace k14 := k14.on b6
          clear hO2 b6
          obtain ⟨e0, e1, e2, e3, e4⟩ := five_keep FA B hbl
          go_wp2_with fail
          with_reducible refine (valid_any _ _ hcx).mono ?_
          rintro e w7 ⟨rfl, b7⟩
          clear e0 e1 e2 e3 e4
          rw [HV.out]
          replace hS := hS.on b7
          replace B := B.trans (b7.mono B.size)
          replace r1 := r1.below b7
          replace k12 := k12.on b7
          replace k14 := k14.on b7
          replace r2 := r2.below b7
          clear b7
          obtain ⟨y0, y1, y2, y3, y4⟩ := k12.cells5
          obtain ⟨z0, z1, z2, z3, z4⟩ := k14.cells5
          go_wp2_with fail
          with_reducible refine (one_yes y _).mono ?_
          rintro e w8 ⟨rfl, b8⟩
          clear y0 y1 y2 y3 y4 z0 z1 z2 z3 z4
          replace hS := hS.on b8
          replace B := B.trans (b8.mono B.size)
          replace r1 := r1.below b8
          replace k12 := k12.on b8
          replace k14 := k14.on b8
          replace r2 := r2.below b8
          clear b8
          have HT : Hid (∀ (i : Nat) (u v : PMk), q2[i]? = some u → q[i]? = some v → u.m = v.m ∧ u.o.l = v.o.l ∧ u.o.s = v.o.s) := Lib.hid (by
            intro i u v hu hv
            rw [HQ2.out] at hu
            exact crossQ_at hu hv)
          clear k12 k14 k12n r1n
          go_wp2_with fail
          go_loopw [17] (fun i wz => ∃ (j : Nat), j ≤ N ∧ i = .int .i64 j ∧ SpAt wz p A c q2 ((N : Int) * 3) f ∧ Rd mkF wz A1 q ∧ Rd mkF wz A2 q2 ∧ Below w.heap.size w wz) (fun i wz => N - (intOf i).toNat)
          case atStart => exact ⟨0, Nat.zero_le _, rfl, hS, r1, r2, B⟩
          case round =>
            clear hS r1 r2 B
            obtain ⟨j, hj, rfl, hS, r1, r2, B⟩ := hrel
            by_cases hjN : j < N
            · have hj1 : j < q.length := by have := hqN.out; omega
              have hj2 : j < q2.length := by have := HL2.out; omega
              obtain ⟨ba, oa, u, rfl, hu, hba, SU⟩ := r2.six j hj2
              obtain ⟨bb, ob, v, rfl, hv, hbb, SV⟩ := r1.six j hj1
              have htag := HT.out j u v hu.out hv.out
              have hmk := hqm.out j v hv.out
              have hu1 : u.m = 3 * ((j : Int) + 1) := by rw [htag.1, hmk]
              obtain ⟨s0, s1, s2, s3, s4, s5⟩ := SU
              obtain ⟨t0, t1, t2, t3, t4, t5⟩ := SV
              rw [hu1] at s0
              rw [htag.2.1] at s4
              rw [htag.2.2] at s5
              have hadd : IntKind.i64.wrap ((j : Int) + 1) = (j : Int) + 1 := IntWalk.i64_in _ (by omega)
              have hmul : IntKind.i64.wrap (3 * ((j : Int) + 1)) = 3 * ((j : Int) + 1) := IntWalk.i64_in _ (by omega)
              clear htag hmk hu1 hu hv
              go_wp2_with fail
              go_quiet (fail)
              clear hadd hmul
              go_wp2_with fail
              go_roundw
              case rel => exact ⟨j + 1, by omega, by go_num, hS.on (below_drewN (Below.refl _ _) nq), r1.drewN nq, r2.drewN nq, below_drewN B nq⟩
              case measure => simp [intOf]; omega
            · clear hnq hnb
              go_wp2_with fail
              go_roundw
              case rel => exact ⟨k + 1, q2, by omega, by omega, by go_num, HL2, Lib.hid (fun i u hu => by
                have hi : i < q.length := by have := (List.getElem?_eq_some_iff.1 hu).1; have := HQL.out; omega
                rw [(HT.out i u _ hu (List.getElem?_eq_getElem hi)).1]
                exact hqm.out i _ (List.getElem?_eq_getElem hi)), hS, B⟩
              case measure => simp [intOf]; omega
        · have HV := Lib.hid hv
          clear hv
          go_wp2_with fail
          with_reducible refine (queue_any _ hS (by omega)).mono ?_
          rintro e w1 ⟨A1, c1, rfl, hO1, b1⟩
          have r1 := hO1.rd2
          have r1n : ∀ b off, A1 = some ⟨b, off, none⟩ → b ∉ own A := fun b off e hm => by
            have h1 := (hO1.lt b (own_mem (own_addr e))).1
            have h2 := hS.lt b (List.mem_cons_of_mem _ hm)
            omega
          replace hS := hS.on b1
          replace B := B.trans (b1.mono B.size)
          clear hO1 b1
          obtain ⟨e0, e1, e2, e3, e4⟩ := five_keep FA B hbl
          go_wp2_with fail
          with_reducible refine (look_bad _ _ hcx HV.out).mono ?_
          rintro e w2 ⟨rfl, b2⟩
          clear e0 e1 e2 e3 e4
          replace hS := hS.on b2
          replace B := B.trans (b2.mono B.size)
          replace r1 := r1.below b2
          clear b2
          have k12 := Blk.new w2 #[.int .i64 0, .int .i64 0, .int .u8 0, .int .i64 0, .int .i64 0] 23
          have k12n : w2.heap.size ∉ own A := fun hm => by have := hS.lt _ (List.mem_cons_of_mem _ hm); omega
          have ba2 := below_alloc (Below.refl w2.heap.size w2) (.cells #[.int .i64 0, .int .i64 0, .int .u8 0, .int .i64 0, .int .i64 0] 23)
          replace hS := hS.on ba2
          replace B := B.trans (ba2.mono B.size)
          replace r1 := r1.below ba2
          clear ba2
          go_wp2_with fail
          with_reducible refine (queue_any _ hS (by omega)).mono ?_
          rintro e w3 ⟨A3, c3, rfl, hO3, b3⟩
          have r3 := hO3.rd2
          replace hS := hS.on b3
          replace B := B.trans (b3.mono B.size)
          replace r1 := r1.below b3
          replace k12 := k12.on b3
          clear hO3 b3
          go_wp2_with fail
          with_reducible refine (queues_yes _ _ _ _ _ _ r3 r1 (by omega)).mono ?_
          rintro e w4 ⟨rfl, b4⟩
          clear r3
          replace hS := hS.on b4
          replace B := B.trans (b4.mono B.size)
          replace r1 := r1.below b4
          replace k12 := k12.on b4
          clear b4
          obtain ⟨e0, e1, e2, e3, e4⟩ := five_keep FA B hbl
          go_wp2_with fail
          with_reducible refine (cross_bad _ _ hcx HV.out).mono ?_
          rintro e w5 ⟨rfl, b5⟩
          clear e0 e1 e2 e3 e4
          replace hS := hS.on b5
          replace B := B.trans (b5.mono B.size)
          replace r1 := r1.below b5
          replace k12 := k12.on b5
          clear b5
          obtain ⟨q2, hq2⟩ : ∃ q2, q2 = q := ⟨_, rfl⟩
          have HQL : Hid (q2.length = q.length) := Lib.hid (by rw [hq2])
          rw [← hq2] at hS
          have HQ2 := Lib.hid hq2
          clear hq2
          have hl2 : q2.length = N := HQL.out.trans hqN.out
          have k14 := Blk.new w5 #[.int .i64 0, .int .i64 0, .int .u8 0, .int .i64 0, .int .i64 0] 23
          have ba5 := below_alloc (Below.refl w5.heap.size w5) (.cells #[.int .i64 0, .int .i64 0, .int .u8 0, .int .i64 0, .int .i64 0] 23)
          replace hS := hS.on ba5
          replace B := B.trans (ba5.mono B.size)
          replace r1 := r1.below ba5
          replace k12 := k12.on ba5
          have hl2N : q2.length ≤ 60 := by omega
          have hnq : ((q2.length : Int) != N) = false := by simp [hl2]
          have hnb : ((q.length : Int) != N) = false := by simp [hqN.out]
          have HL2 := Lib.hid hl2
          clear ba5 hl2
          go_wp2_with fail
          with_reducible refine (queue_any _ hS (by omega)).mono ?_
          rintro e w6 ⟨A2, c2', rfl, hO2, b6⟩
          have r2 := hO2.rd2
          replace hS := hS.on b6
          replace B := B.trans (b6.mono B.size)
          replace r1 := r1.below b6
          replace k12 := k12.on b6
          replace k14 := k14.on b6
          clear hO2 b6
          obtain ⟨e0, e1, e2, e3, e4⟩ := five_keep FA B hbl
          have hvv : (validL x != validL x) = false := by simp
          go_wp2_with fail
          with_reducible refine (valid_any _ _ hcx).mono ?_
          rintro e w7 ⟨rfl, b7⟩
          clear e0 e1 e2 e3 e4
          replace hS := hS.on b7
          replace B := B.trans (b7.mono B.size)
          replace r1 := r1.below b7
          replace k12 := k12.on b7
          replace k14 := k14.on b7
          replace r2 := r2.below b7
          clear b7
          obtain ⟨y0, y1, y2, y3, y4⟩ := k12.cells5
          obtain ⟨z0, z1, z2, z3, z4⟩ := k14.cells5
          go_wp2_with fail
          with_reducible refine (one_yes ⟨0, 0, 0, 0, 0⟩ _).mono ?_
          rintro e w8 ⟨rfl, b8⟩
          clear y0 y1 y2 y3 y4 z0 z1 z2 z3 z4
          replace hS := hS.on b8
          replace B := B.trans (b8.mono B.size)
          replace r1 := r1.below b8
          replace k12 := k12.on b8
          replace k14 := k14.on b8
          replace r2 := r2.below b8
          clear b8
          have hv0 : (validL x != 0) = true := by simpa using HV.out
          go_wp2_with fail
          have r2' := r2
          rw [HQ2.out] at r2'
          rw [show q2.length = q.length from HQL.out]
          with_reducible refine (queues_yes _ _ _ _ _ _ r1 r2' (by omega)).mono ?_
          rintro e w9 ⟨rfl, b9⟩
          clear r2'
          replace hS := hS.on b9
          replace B := B.trans (b9.mono B.size)
          replace r1 := r1.below b9
          replace k12 := k12.on b9
          replace k14 := k14.on b9
          replace r2 := r2.below b9
          clear b9
          obtain ⟨y0, y1, y2, y3, y4⟩ := k12.cells5
          go_wp2_with fail
          with_reducible refine (one_yes ⟨0, 0, 0, 0, 0⟩ _).mono ?_
          rintro e w10 ⟨rfl, b10⟩
          clear y0 y1 y2 y3 y4
          replace hS := hS.on b10
          replace B := B.trans (b10.mono B.size)
          replace r1 := r1.below b10
          replace k12 := k12.on b10
          replace k14 := k14.on b10
          replace r2 := r2.below b10
          clear b10
          have HT : Hid (∀ (i : Nat) (u v : PMk), q2[i]? = some u → q[i]? = some v → u.m = v.m ∧ u.o.l = v.o.l ∧ u.o.s = v.o.s) := Lib.hid (by
            intro i u v hu hv
            rw [HQ2.out, hv] at hu
            obtain rfl := Option.some.inj hu
            exact ⟨rfl, rfl, rfl⟩)
          clear k12 k14 k12n r1n
          go_wp2_with fail
          go_loopw [17] (fun i wz => ∃ (j : Nat), j ≤ N ∧ i = .int .i64 j ∧ SpAt wz p A c q2 ((N : Int) * 3) f ∧ Rd mkF wz A1 q ∧ Rd mkF wz A2 q2 ∧ Below w.heap.size w wz) (fun i wz => N - (intOf i).toNat)
          case atStart => exact ⟨0, Nat.zero_le _, rfl, hS, r1, r2, B⟩
          case round =>
            clear hS r1 r2 B
            obtain ⟨j, hj, rfl, hS, r1, r2, B⟩ := hrel
            by_cases hjN : j < N
            · have hj1 : j < q.length := by have := hqN.out; omega
              have hj2 : j < q2.length := by have := HL2.out; omega
              obtain ⟨ba, oa, u, rfl, hu, hba, SU⟩ := r2.six j hj2
              obtain ⟨bb, ob, v, rfl, hv, hbb, SV⟩ := r1.six j hj1
              have htag := HT.out j u v hu.out hv.out
              have hmk := hqm.out j v hv.out
              have hu1 : u.m = 3 * ((j : Int) + 1) := by rw [htag.1, hmk]
              obtain ⟨s0, s1, s2, s3, s4, s5⟩ := SU
              obtain ⟨t0, t1, t2, t3, t4, t5⟩ := SV
              rw [hu1] at s0
              rw [htag.2.1] at s4
              rw [htag.2.2] at s5
              have hadd : IntKind.i64.wrap ((j : Int) + 1) = (j : Int) + 1 := IntWalk.i64_in _ (by omega)
              have hmul : IntKind.i64.wrap (3 * ((j : Int) + 1)) = 3 * ((j : Int) + 1) := IntWalk.i64_in _ (by omega)
              clear htag hmk hu1 hu hv
              go_wp2_with fail
              go_quiet (fail)
              clear hadd hmul
              go_wp2_with fail
              go_roundw
              case rel => exact ⟨j + 1, by omega, by go_num, hS.on (below_drewN (Below.refl _ _) nq), r1.drewN nq, r2.drewN nq, below_drewN B nq⟩
              case measure => simp [intOf]; omega
            · clear hnq hnb
              go_wp2_with fail
              go_roundw
              case rel => exact ⟨k + 1, q2, by omega, by omega, by go_num, HL2, Lib.hid (fun i u hu => by
                have hi : i < q.length := by have := (List.getElem?_eq_some_iff.1 hu).1; have := HQL.out; omega
                rw [(HT.out i u _ hu (List.getElem?_eq_getElem hi)).1]
                exact hqm.out i _ (List.getElem?_eq_getElem hi)), hS, B⟩
              case measure => simp [intOf]; omega
      · go_wp2_with fail
        with_reducible refine (last_any _ hS).mono ?_
        rintro e w9 ⟨rfl, hw⟩
        subst w9
        have hmul : IntKind.i64.wrap (3 * (N : Int)) = 3 * (N : Int) := IntWalk.i64_in _ (by omega)
        have hq3 : ((N : Int) * 3 == 3 * (N : Int)) = true := by simp; omega
        go_wp2
        go_ret
        exact ⟨rfl, B⟩
    · go_wp2_with fail
      with_reducible refine (last_any _ hS).mono ?_
      rintro e w9 ⟨rfl, hw⟩
      subst w9
      have hmul : IntKind.i64.wrap (3 * (N : Int)) = 3 * (N : Int) := IntWalk.i64_in _ (by omega)
      have hq3 : ((N : Int) * 3 == 3 * (N : Int)) = true := by simp; omega
      go_wp2
      go_ret
      exact ⟨rfl, B⟩
end Go.Proofs.YtkicbnkacjnhoaaDoor
