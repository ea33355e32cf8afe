/- The walk of jotterlaw10.SpaceLines: it answers true. -/
import Derived.Test.YtkicbnkacjnhoaaDoorSpLooksWalk
namespace Go.Proofs.YtkicbnkacjnhoaaDoor
open Go.RowKit
set_option linter.unusedVariables false
set_option linter.unusedSimpArgs false

/-- What the queue and the answers are behind a line that crosses. -/
def linesL (f : Bool) (q ins : List POp) : List POp × List POp := if f then weaveL q ins else ((rweaveL ins q).2, (rweaveL ins q).1)
theorem linesL_nil (f : Bool) (q : List POp) : linesL f q [] = (q, []) := by cases f <;> rfl
theorem linesL_snoc (f : Bool) (q ins : List POp) (x : POp) : linesL f q (ins ++ [x]) = ((pastL x (linesL f q ins).1 f).2, (linesL f q ins).2 ++ [(pastL x (linesL f q ins).1 f).1]) := by
  cases f
  · simp only [linesL, Bool.false_eq_true, if_false]
    rw [rweaveL_snoc]
  · simp only [linesL, if_true]
    rw [weaveL_snoc]
theorem weave_m (A1 A2 : Option Addr) (c1 c2 n m : Nat) (xs ys : List POp) (w : World) (hn : xs.length = n) (hm : ys.length = m) (hr : RulesAt w) (h1 : Rd opF w A1 xs) (h2 : Rd opF w A2 ys) (n1 : xs.length ≤ 4096) (n2 : ys.length ≤ 4096) :
    Calls Tryd.prog 42 #[.slice A1 n c1, .slice A2 m c2] w fun e w' =>
      ∃ (A A' : Option Addr) (c c' : Nat) (ls out : List POp), Hid (weaveL xs ys = (ls, out)) ∧ Hid (ls.length = xs.length ∧ out.length = ys.length) ∧ e = .returned (.tuple #[.slice A ls.length c, .slice A' out.length c', .int .i64 0]) ∧
        Rd opF w' A ls ∧ Rd opF w' A' out ∧ Below w.heap.size w w' := by
  subst hn hm
  exact weave_rd A1 A2 c1 c2 xs ys w hr h1 h2 n1 n2

theorem after_app {w : World} {base : Nat} {A A' : Option Addr} {n n' c c' : Nat} {xs : List POp} {W : World} (h : OwnV opF 23 base w (.slice A n c) xs) (hv : (Value.slice A' n' c').ownBlock = (Value.slice A n c).ownBlock ∨ ∃ k, (Value.slice A' n' c').ownBlock = some k ∧ W.heap.size ≤ k) : ∀ b ∈ own A', b ∈ own A ∨ W.heap.size ≤ b := fun b hb => by
  have h1 := own_mem (n := n') (c := c') hb
  rcases hv with h2 | ⟨k, h2, h3⟩
  · rw [h1] at h2
    exact .inl (by rw [own_block h2.symm]; simp)
  · rw [h1] at h2
    obtain rfl := Option.some.inj h2
    exact .inr h3

set_option maxHeartbeats 8000000 in
set_option maxRecDepth 100000 in
theorem lines_any (f : Bool) (A1 A2 : Option Addr) (c1 c2 : Nat) (l far : List POp) (w : World) (hr : RulesAt w) (hl : Rd opF w A1 l) (hf : Rd opF w A2 far) (hok1 : ∀ o ∈ l, 0 ≤ o.c ∧ o.c ≤ 255) (hok2 : ∀ o ∈ far, 0 ≤ o.c ∧ o.c ≤ 255) (z1 : l.length ≤ 9223372036854775807) (z2 : far.length ≤ 9223372036854775807) :
    Calls Tryd.prog 18 #[.bool f, .slice A1 l.length c1, .slice A2 far.length c2] w fun e w' => e = .returned (.bool true) ∧ Below w.heap.size w w' := by
  have HOK1 := Lib.hid hok1
  have HOK2 := Lib.hid hok2
  clear hok1 hok2
  go_enter Tryd.func18, Tryd.ntmps18
  go_wp2_with fail
  with_reducible refine (filled_s f _ _ 1 1 rfl l _ hl HOK1.out z1 (by omega) (by omega)).mono ?_
  rintro e w0 ⟨p, A, c, rfl, hS, hpw, hfr, B⟩
  obtain ⟨q0, hq0⟩ : ∃ q0, q0 = fillQ 1 0 (l.take 60) := ⟨_, rfl⟩
  have hN60 : q0.length ≤ 60 := by
    have := fillQ_length 1 (l.take 60) 0
    rw [hq0]
    simp at this
    omega
  have hqm0 : Hid (∀ (i : Nat) (x : PMk), q0[i]? = some x → x.m = (i : Int) + 1) := Lib.hid (fun i x hx => by
    rw [hq0] at hx
    rw [(fillQ_at 1 _ _ i x hx).1]
    push_cast
    omega)
  rw [← hq0] at hS ⊢
  clear hq0
  obtain ⟨N, hN⟩ : ∃ N, N = q0.length := ⟨_, rfl⟩
  have hs1 : ((q0.length : Int) * 1) = (N : Int) := by rw [← hN]; omega
  rw [hs1] at hS
  rw [← hN] at hN60 ⊢
  have HN := Lib.hid hN
  clear hN hs1
  go_wp2_with fail
  with_reducible refine (queue_any _ hS (by have := HN.out; omega)).mono ?_
  rintro e w1 ⟨A10, c10, rfl, hO, b1⟩
  have r10 := hO.rd2
  replace hS := hS.on b1
  replace B := B.trans (b1.mono B.size)
  clear hO b1
  have hpl := hS.lt
  go_wp2_with (at_make; refine ev_makeN El.op (by decide) _ rfl _ _ 35 rfl Tryd.underlying35 _ _ _ _ N rfl rfl rfl rfl (by omega) (by omega) ?_; intro w2 hO2 hB2)
  have hoq : Hid ((opsQ q0).length = N) := Lib.hid (by rw [opsQ_length]; exact HN.out.symm)
  go_loopw [12] (fun i wr => ∃ k : Nat, k ≤ N ∧ i = .int .i64 k ∧ OwnC opF 23 wr w1.heap.size N ((opsQ q0).take k ++ List.replicate ((opsQ q0).length - k) ⟨0, 0, 0, 0, 0⟩) ∧ Below w1.heap.size w1 wr) (fun i wr => N - (intOf i).toNat)
  case atStart => exact ⟨0, Nat.zero_le _, rfl, by simpa [hoq.out] using hO2, hB2⟩
  case round =>
    clear hO2 hB2
    obtain ⟨k, hk, rfl, hO2, hB2⟩ := hrel
    by_cases hlt : k < N
    · obtain ⟨b, off, x, rfl, hx, hbl, s0, s1, s2, s3, s4, s5⟩ := (r10.below hB2).six k (by have := HN.out; omega)
      have hxo : Hid ((opsQ q0)[k]? = some x.o) := Lib.hid (by simp [opsQ, hx.out])
      have hlen : k < ((opsQ q0).take k ++ List.replicate ((opsQ q0).length - k) (⟨0, 0, 0, 0, 0⟩ : POp)).length := by have := hoq.out; simp; omega
      have HL := Lib.hid hlen
      have hkq : k < q0.length := by have := HN.out; omega
      clear hlen
      go_wp2_with (refine at_st 53 rfl ?_; go_must (refine ev_setF El.op _ rfl _ _ rfl w1.heap.size N _ k _ x.o ?hoff HL.out rfl rfl hO2 ?_); (case hoff => simp [opF]); intro w3 hO3 hg3)
      go_roundw
      case rel =>
        refine ⟨k + 1, by omega, by go_num, ?_, hB2.grown hg3 hB2.size (fun k e => by injection e; omega)⟩
        rw [← set_take_rep _ _ _ _ hxo.out]
        exact hO3
      case measure => simp [intOf]; omega
    · have hkN : k = N := by omega
      have e : (opsQ q0).take k ++ List.replicate ((opsQ q0).length - k) (⟨0, 0, 0, 0, 0⟩ : POp) = opsQ q0 := by
        rw [hkN, List.take_of_length_le (by rw [hoq.out]; exact Nat.le_refl _), hoq.out]
        simp
      rw [e] at hO2
      have rO := hO2.rd
      have hgq := hO2.lt
      replace hS := hS.on hB2
      replace B := B.trans (hB2.mono B.size)
      have hpl2 : p < w1.heap.size ∧ ∀ b ∈ own A, b < w1.heap.size := ⟨hpl p (by simp), fun b hb => hpl b (List.mem_cons_of_mem _ hb)⟩
      obtain ⟨hpw1, hAw1⟩ := hpl2
      have HAW := Lib.hid hAw1
      have HFR := Lib.hid hfr
      obtain ⟨bq, hbq⟩ : ∃ bq, bq = wr.heap.size := ⟨_, rfl⟩
      have hbq2 : bq ≤ wr.heap.size := by omega
      have hgb : w1.heap.size < bq := by omega
      obtain ⟨g1, hg1⟩ : ∃ g1, g1 = w1.heap.size := ⟨_, rfl⟩
      clear e hkN hO2 hB2 hAw1 hfr hpl r10 hbq hgq
      go_wp2_with fail
      go_loopw [13, 14, 15] (fun vi vo i wz => ∃ (k : Nat) (ins outs : List POp) (q : List PMk) (A3 A4 : Option Addr) (c3 c4 : Nat), k ≤ far.length ∧ k ≤ 60 ∧ i = .int .i64 k ∧ vi = .slice A3 ins.length c3 ∧ vo = .slice A4 outs.length c4 ∧ ins.length ≤ k ∧ Hid (outs.length = ins.length) ∧ Hid (linesL f (opsQ q0) ins = (opsQ q, outs)) ∧ Hid (q.length = N ∧ ∀ (i : Nat) (x : PMk), q[i]? = some x → x.m = (i : Int) + 1) ∧ SpAt wz p A c q (N : Int) f ∧ OwnV opF 23 bq wz (.slice A3 ins.length c3) ins ∧ OwnV opF 23 bq wz (.slice A4 outs.length c4) outs ∧ Hid (∀ b ∈ own A3, b ∉ own A4) ∧ Rd opF wz (some ⟨w1.heap.size, 0, none⟩) (opsQ q0) ∧ bq ≤ wz.heap.size ∧ Below w.heap.size w wz) (fun vi vo i wz => 60 - (intOf i).toNat)
      case atStart => exact ⟨0, [], [], q0, none, none, 0, 0, Nat.zero_le _, by omega, rfl, rfl, rfl, Nat.le_refl _, rfl, Lib.hid (linesL_nil _ _), Lib.hid ⟨HN.out.symm, hqm0.out⟩, hS, OwnV.nil _ _, OwnV.nil _ _, Lib.hid (by simp [own]), rO, hbq2, B⟩
      case round =>
        clear hS rO B hbq2
        obtain ⟨k, ins, outs, q, A3, A4, c3, c4, hk, hk60, rfl, rfl, rfl, hik, hon, hlin0, hqmk, hS, O3, O4, hdj, rO, hbz, B⟩ := hrel
        by_cases hlt : k < far.length
        · by_cases hlt2 : k < 60
          · obtain ⟨b, off, x, hA2, hx, hbl, FA⟩ := hf.five k hlt
            subst hA2
            have hcx : 0 ≤ x.c ∧ x.c ≤ 255 := HOK2.out x (List.mem_of_getElem? hx.out)
            have hq60 : q.length ≤ 60 := by have := hqmk.out.1; omega
            have hol : outs.length ≤ 60 := by have := hon.out; omega
            clear hx
            obtain ⟨e0, e1, e2, e3, e4⟩ := five_keep FA B hbl
            go_wp2_with fail
            with_reducible refine (valid_any _ _ hcx).mono ?_
            rintro e w3 ⟨rfl, b3⟩
            replace hS := hS.on b3
            replace O3 := O3.on b3
            replace O4 := O4.on b3
            replace rO := rO.below b3
            replace B := B.trans (b3.mono B.size)
            replace hbz := Nat.le_trans hbz b3.size
            clear e0 e1 e2 e3 e4 b3
            by_cases hv : validL x = 0
            · have HV := Lib.hid hv
              rw [HV.out]
              clear hv
              obtain ⟨e0, e1, e2, e3, e4⟩ := five_keep FA B hbl
              go_wp2_with fail
              with_reducible refine (cross_ok _ _ (hr.on B) hS hcx HV.out (by omega)).mono ?_
              rintro e w5 ⟨y, hy, rfl, hS5, b5⟩
              have n3 : ∀ g, (Value.slice A3 ins.length c3).ownBlock = some g → g ∉ own A := fun g hg hm => by have := (O3.lt g hg).1; have := HAW.out g hm; omega
              have n4 : ∀ g, (Value.slice A4 outs.length c4).ownBlock = some g → g ∉ own A := fun g hg hm => by have := (O4.lt g hg).1; have := HAW.out g hm; omega
              replace O3 := O3.but b5 n3
              replace O4 := O4.but b5 n4
              replace rO := rO.but b5 (fun b off e hm => by injection e with e; injection e with e _; have := HAW.out b hm; omega)
              replace B := b5.below B B.size HFR.out
              replace hbz := Nat.le_trans hbz b5.size
              replace hS := hS5
              clear e0 e1 e2 e3 e4 b5 hS5 n3 n4
              have HLS : Hid (linesL f (opsQ q0) (ins ++ [x]) = (opsQ (crossQ f q x), outs ++ [y])) := Lib.hid (by
                rw [linesL_snoc, hlin0.out]
                simp only [hy.out]
                unfold crossQ
                rw [opsQ_with _ _ (past_len f q x)])
              have HQ5 : Hid ((crossQ f q x).length = N ∧ ∀ (i : Nat) (u : PMk), (crossQ f q x)[i]? = some u → u.m = (i : Int) + 1) := Lib.hid ⟨(withOps_length _ _ (past_len f q x)).trans hqmk.out.1, fun i u hu => by
                have hi : i < q.length := by
                  have h1 := (List.getElem?_eq_some_iff.1 hu).1
                  have h2 : (crossQ f q x).length = q.length := withOps_length _ _ (past_len f q x)
                  omega
                rw [(crossQ_at hu (List.getElem?_eq_getElem hi)).1]
                exact hqmk.out.2 i _ (List.getElem?_eq_getElem hi)⟩
              obtain ⟨q5, hq5⟩ : ∃ q5, q5 = crossQ f q x := ⟨_, rfl⟩
              rw [← hq5] at HLS HQ5 hS
              clear hq5 hlin0 hqmk hy hq60
              have ba := below_alloc (Below.refl w5.heap.size w5) (.cells #[.int .i64 y.k, .int .i64 y.p, .int .u8 y.c, .int .i64 y.l, .int .i64 y.s] 23)
              have k16 := Blk.new w5 #[.int .i64 y.k, .int .i64 y.p, .int .u8 y.c, .int .i64 y.l, .int .i64 y.s] 23
              have k16n : w5.heap.size ∉ own A3 := fun hm => by have := (O3.lt _ (own_mem (n := ins.length) (c := c3) hm)).2; omega
              have l5 : w5.heap.size < (w5.alloc (.cells #[.int .i64 y.k, .int .i64 y.p, .int .u8 y.c, .int .i64 y.l, .int .i64 y.s] 23)).heap.size := by simp
              replace hS := hS.on ba
              replace O3 := O3.on ba
              replace O4 := O4.on ba
              replace rO := rO.below ba
              replace B := B.trans (ba.mono B.size)
              replace hbz := Nat.le_trans hbz ba.size
              clear ba
              obtain ⟨e0, e1, e2, e3, e4⟩ := five_keep FA B hbl
              go_wp2_with (first
                | (refine at_dst 87 rfl ?_; refine ev_app1V El.op (by decide) (by decide) (w5.alloc (.cells #[.int .i64 y.k, .int .i64 y.p, .int .u8 y.c, .int .i64 y.l, .int .i64 y.s] 23)) rfl _ _ 35 rfl Tryd.underlying35 bq (.slice A3 ins.length c3) ins x rfl (Eq.trans (b := .slice (some ⟨w5.heap.size + 1, 0, none⟩) 1 1) rfl (by simp)) O3 (by omega) hbz ?_; intro v3 w6 O3' hg6 hv3; obtain ⟨A3', c3', hv3', _⟩ := O3'.rd; subst hv3'; (have b6 : But (own A3) (w5.alloc (.cells #[.int .i64 y.k, .int .i64 y.p, .int .u8 y.c, .int .i64 y.l, .int .i64 y.s] 23)) w6 := But.ofGrown hg6 (fun k e => .inl (by rw [own_block e]; simp))); (have d3 := after_app O3 hv3); (have hS6 := hS.but b6 (fun b hb hm => by have := (O3.lt b (own_mem (n := ins.length) (c := c3) hm)).1; rcases List.mem_cons.1 hb with rfl | hb; omega; have := HAW.out b hb; omega)); (have O46 := O4.but b6 (fun g hg hm => hdj.out g hm (by rw [own_block hg]; simp))); (have rO6 := rO.but b6 (fun b off e hm => by injection e with e; injection e with e _; have := (O3.lt b (own_mem (n := ins.length) (c := c3) hm)).1; omega)); (have k166 := k16.but b6 k16n); (have B6 := b6.below B B.size (fun b hm => by have := (O3.lt b (own_mem (n := ins.length) (c := c3) hm)).1; have := B.size; have := hpw; omega)); (have hbz6 := Nat.le_trans hbz b6.size); (have dj6 : ∀ b ∈ own A3', b ∉ own A4 := fun b hb hm => by rcases d3 b hb with h1 | h1; exact hdj.out b h1 hm; have := (O4.lt b (own_mem (n := outs.length) (c := c4) hm)).2; omega); clear e0 e1 e2 e3 e4 hS O3 O4 rO k16 B hbz hg6 hv3 d3 b6 hdj k16n; obtain ⟨y0, y1, y2, y3, y4⟩ := k166.cells5)
                | (refine at_dst 91 rfl ?_; refine ev_app1V El.op (by decide) (by decide) w6 rfl _ _ 35 rfl Tryd.underlying35 bq (.slice A4 outs.length c4) outs y rfl rfl O46 (by omega) hbz6 ?_; intro v4 w7 O4' hg7 hv4; obtain ⟨A4', c4', hv4', _⟩ := O4'.rd; subst hv4'; (have b7 : But (own A4) w6 w7 := But.ofGrown hg7 (fun k e => .inl (by rw [own_block e]; simp))); (have d4 := after_app O46 hv4); (have hS7 := hS6.but b7 (fun b hb hm => by have := (O46.lt b (own_mem (n := outs.length) (c := c4) hm)).1; rcases List.mem_cons.1 hb with rfl | hb; omega; have := HAW.out b hb; omega)); (have O37 := O3'.but b7 (fun g hg hm => dj6 g (by rw [own_block hg]; simp) hm)); (have rO7 := rO6.but b7 (fun b off e hm => by injection e with e; injection e with e _; have := (O46.lt b (own_mem (n := outs.length) (c := c4) hm)).1; omega)); (have B7 := b7.below B6 B6.size (fun b hm => by have := (O46.lt b (own_mem (n := outs.length) (c := c4) hm)).1; have := hpw; omega)); (have hbz7 := Nat.le_trans hbz6 b7.size); (have dj7 : ∀ b ∈ own A3', b ∉ own A4' := fun b hb hm => by rcases d4 b hm with h1 | h1; exact dj6 b hb h1; have := (O3'.lt b (own_mem (n := (ins ++ [x]).length) (c := c3') hb)).2; omega); clear y0 y1 y2 y3 y4 hS6 O46 O3' rO6 k166 B6 hbz6 hg7 hv4 d4 b7 dj6))
              go_roundw
              case rel => exact ⟨k + 1, ins ++ [x], outs ++ [y], q5, A3', A4', c3', c4', by omega, by omega, by go_num, by simp, by simp, by simp; omega, Lib.hid (by simp; exact hon.out), HLS, HQ5, hS7, O37, O4', Lib.hid dj7, rO7, hbz7, B7⟩
              case measure => simp [intOf]; omega
            · have hv0 : (validL x != 0) = true := by simpa using hv
              clear hv
              go_wp2_with fail
              go_roundw
              case rel => exact ⟨k + 1, ins, outs, q, A3, A4, c3, c4, by omega, by omega, by go_num, rfl, rfl, by omega, hon, hlin0, hqmk, hS, O3, O4, hdj, rO, hbz, B⟩
              case measure => simp [intOf]; omega
          · have hil : ins.length ≤ 60 := by omega
            have hxk : k = 60 := by omega
            subst hxk
            cases f
            · go_wp2_with fail
              with_reducible refine (weave_m _ _ _ _ _ _ ins (opsQ q0) _ rfl hoq.out (hr.on B) O3.rd2 rO (by omega) (by have := hoq.out; omega)).mono ?_
              rintro e wv ⟨Ad, Ac, cd, cc, ls, out, hw, hlw, rfl, rd', rc, bv⟩
              have hlin : out = opsQ q ∧ ls = outs := by
                have h1 := hlin0.out
                have h2 : linesL false (opsQ q0) ins = ((weaveL ins (opsQ q0)).2, (weaveL ins (opsQ q0)).1) := by simp only [linesL, Bool.false_eq_true, if_false]; rw [rweaveL_is]
                rw [h2, hw.out] at h1
                exact ⟨congrArg Prod.fst h1, congrArg Prod.snd h1⟩
              obtain ⟨hls, hout⟩ := hlin
              subst hls hout
              have r4 := O4.rd2.below bv
              replace hS := hS.on bv
              replace B := B.trans (bv.mono B.size)
              have hol2 : ls.length ≤ 60 := by have := hon.out; omega
              clear O3 O4 hdj rO hlin0 hw hlw bv
              have hqN := hqmk.out.1
              have hoq2 : (opsQ q).length = N := by rw [opsQ_length]; exact hqN
              have HQN := Lib.hid hqN
              have HOQ2 := Lib.hid hoq2
              have t1 : (((opsQ q).length : Int) != N) = false := by simp [hoq2]
              have t2 : ((q.length : Int) != N) = false := by simp [hqN]
              clear hqN hoq2
              go_wp2_with fail
              with_reducible refine (queue_any _ hS (by have := HQN.out; omega)).mono ?_
              rintro e ws ⟨Ar, cr, rfl, hOr, br⟩
              have rr := hOr.rd2
              replace rc := rc.below br
              replace rd' := rd'.below br
              replace r4 := r4.below br
              replace B := B.trans (br.mono B.size)
              clear hOr br hS
              go_wp2_with fail
              go_loopw [24] (fun i wz => ∃ j : Nat, j ≤ N ∧ i = .int .i64 j ∧ Below ws.heap.size ws wz) (fun i wz => N - (intOf i).toNat)
              case atStart => exact ⟨0, Nat.zero_le _, rfl, Below.refl _ _⟩
              case round =>
                obtain ⟨j, hj, rfl, hBz⟩ := hrel
                by_cases hjN : j < N
                · obtain ⟨ba, oa, u, hAr, hu, hba, SU⟩ := rr.six j (by have := HQN.out; omega)
                  obtain ⟨bb, ob, z, hAc, hz, hbb, FZ⟩ := rc.five j (by have := HOQ2.out; omega)
                  subst hAr hAc
                  have hzu : z = u.o := by
                    have h1 := hz.out
                    simp [opsQ, hu.out] at h1
                    exact h1.symm
                  subst hzu
                  have hum := hqmk.out.2 j u hu.out
                  rw [SixAt, hum] at SU
                  have hadd : IntKind.i64.wrap ((j : Int) + 1) = (j : Int) + 1 := IntWalk.i64_in _ (by omega)
                  have hj1 : j < q.length := by have := HQN.out; omega
                  have hj2 : j < (opsQ q).length := by have := HOQ2.out; omega
                  clear hz hu hum
                  have SV : SixAt ws ba (oa + j * 6) ⟨(j : Int) + 1, u.o⟩ := SU
                  go_wp2_with fail
                  go_region_held3 (fun V => (V.cell? ⟨bb, ob + j * 5, none⟩ = some (.int .i64 u.o.k) ∧ V.cell? ⟨bb, ob + j * 5 + 1, none⟩ = some (.int .i64 u.o.p) ∧ V.cell? ⟨bb, ob + j * 5 + 2, none⟩ = some (.int .u8 u.o.c) ∧ V.cell? ⟨bb, ob + j * 5 + 3, none⟩ = some (.int .i64 u.o.l) ∧ V.cell? ⟨bb, ob + j * 5 + 4, none⟩ = some (.int .i64 u.o.s)) ∧ (V.cell? ⟨ba, oa + j * 6, none⟩ = some (.int .i64 ((j : Int) + 1)) ∧ V.cell? ⟨ba, oa + j * 6 + 1, none⟩ = some (.int .i64 u.o.k) ∧ V.cell? ⟨ba, oa + j * 6 + 2, none⟩ = some (.int .i64 u.o.p) ∧ V.cell? ⟨ba, oa + j * 6 + 3, none⟩ = some (.int .u8 u.o.c) ∧ V.cell? ⟨ba, oa + j * 6 + 4, none⟩ = some (.int .i64 u.o.l) ∧ V.cell? ⟨ba, oa + j * 6 + 5, none⟩ = some (.int .i64 u.o.s)))
                    (first | ((with_reducible refine And.intro (five_keep FZ ?_ hbb) (six_keep SV ?_ hba) <;> (repeat' (first | with_reducible exact Below.refl _ _ | with_reducible exact hBz | with_reducible exact hB2 | with_reducible refine Below.drew ?_ | fail))); done) | fail)
                    (first
                      | (go_at_call 52; (with_reducible refine (one_yes u.o _).mono ?_); rintro e w2 ⟨rfl, hb⟩; (have hB2 : Below ws.heap.size ws w2 := hBz.drew.trans (hb.mono hBz.size)))
                      | fail)
                  all_goals
                    clear hadd
                    go_wp2_with fail
                    go_roundw
                    case rel => exact ⟨j + 1, by omega, by go_num, hB2⟩
                    case measure => simp [intOf]; omega
                · clear t1 t2
                  go_wp2_with fail
                  clear hjN
                  go_loopw [25] (fun i wz => ∃ j : Nat, j ≤ ls.length ∧ i = .int .i64 j ∧ Below ws.heap.size ws wz) (fun i wz => ls.length - (intOf i).toNat)
                  case atStart => exact ⟨0, Nat.zero_le _, rfl, hBz⟩
                  case round =>
                    clear hBz
                    obtain ⟨j, hj, rfl, hBz⟩ := hrel
                    by_cases hjN : j < ls.length
                    · obtain ⟨ba, oa, u, hA4, hu, hba, FU⟩ := r4.five j hjN
                      obtain ⟨bb, ob, z, hAd, hz, hbb, FZ⟩ := rd'.five j hjN
                      have hzu : u = z := Option.some.inj (hu.out.symm.trans hz.out)
                      subst hzu
                      subst hA4 hAd
                      clear hz hu
                      go_wp2_with fail
                      go_region_held3 (fun V => (V.cell? ⟨bb, ob + j * 5, none⟩ = some (.int .i64 u.k) ∧ V.cell? ⟨bb, ob + j * 5 + 1, none⟩ = some (.int .i64 u.p) ∧ V.cell? ⟨bb, ob + j * 5 + 2, none⟩ = some (.int .u8 u.c) ∧ V.cell? ⟨bb, ob + j * 5 + 3, none⟩ = some (.int .i64 u.l) ∧ V.cell? ⟨bb, ob + j * 5 + 4, none⟩ = some (.int .i64 u.s)) ∧ (V.cell? ⟨ba, oa + j * 5, none⟩ = some (.int .i64 u.k) ∧ V.cell? ⟨ba, oa + j * 5 + 1, none⟩ = some (.int .i64 u.p) ∧ V.cell? ⟨ba, oa + j * 5 + 2, none⟩ = some (.int .u8 u.c) ∧ V.cell? ⟨ba, oa + j * 5 + 3, none⟩ = some (.int .i64 u.l) ∧ V.cell? ⟨ba, oa + j * 5 + 4, none⟩ = some (.int .i64 u.s)))
                        (first | ((with_reducible refine And.intro (five_keep FZ ?_ hbb) (five_keep FU ?_ hba) <;> (repeat' (first | with_reducible exact Below.refl _ _ | with_reducible exact hBz | with_reducible exact hB2 | with_reducible refine Below.drew ?_ | fail))); done) | fail)
                        (first
                          | (go_at_call 52; (with_reducible refine (one_yes u _).mono ?_); rintro e w2 ⟨rfl, hb⟩; (have hB2 : Below ws.heap.size ws w2 := hBz.drew.trans (hb.mono hBz.size)))
                          | fail)
                      all_goals
                        go_wp2_with fail
                        go_roundw
                        case rel => exact ⟨j + 1, by omega, by go_num, hB2⟩
                        case measure => simp [intOf]; omega
                    · go_wp2
                      go_ret
                      exact ⟨rfl, B.trans (hBz.mono B.size)⟩
            · go_wp2_with fail
              with_reducible refine (weave_m _ _ _ _ _ _ (opsQ q0) ins _ hoq.out rfl (hr.on B) rO O3.rd2 (by have := hoq.out; omega) (by omega)).mono ?_
              rintro e wv ⟨Ac, Ad, cc, cd, ls, out, hw, hlw, rfl, rc, rd', bv⟩
              have hlin : ls = opsQ q ∧ out = outs := by
                have h1 := hlin0.out
                have h2 : linesL true (opsQ q0) ins = weaveL (opsQ q0) ins := rfl
                rw [h2, hw.out] at h1
                exact ⟨congrArg Prod.fst h1, congrArg Prod.snd h1⟩
              obtain ⟨hls, hout⟩ := hlin
              subst hls hout
              have r4 := O4.rd2.below bv
              replace hS := hS.on bv
              replace B := B.trans (bv.mono B.size)
              have hol2 : out.length ≤ 60 := by have := hon.out; omega
              clear O3 O4 hdj rO hlin0 hw hlw bv
              have hqN := hqmk.out.1
              have hoq2 : (opsQ q).length = N := by rw [opsQ_length]; exact hqN
              have HQN := Lib.hid hqN
              have HOQ2 := Lib.hid hoq2
              have t1 : (((opsQ q).length : Int) != N) = false := by simp [hoq2]
              have t2 : ((q.length : Int) != N) = false := by simp [hqN]
              clear hqN hoq2
              go_wp2_with fail
              with_reducible refine (queue_any _ hS (by have := HQN.out; omega)).mono ?_
              rintro e ws ⟨Ar, cr, rfl, hOr, br⟩
              have rr := hOr.rd2
              replace rc := rc.below br
              replace rd' := rd'.below br
              replace r4 := r4.below br
              replace B := B.trans (br.mono B.size)
              clear hOr br hS
              go_wp2_with fail
              go_loopw [24] (fun i wz => ∃ j : Nat, j ≤ N ∧ i = .int .i64 j ∧ Below ws.heap.size ws wz) (fun i wz => N - (intOf i).toNat)
              case atStart => exact ⟨0, Nat.zero_le _, rfl, Below.refl _ _⟩
              case round =>
                obtain ⟨j, hj, rfl, hBz⟩ := hrel
                by_cases hjN : j < N
                · obtain ⟨ba, oa, u, hAr, hu, hba, SU⟩ := rr.six j (by have := HQN.out; omega)
                  obtain ⟨bb, ob, z, hAc, hz, hbb, FZ⟩ := rc.five j (by have := HOQ2.out; omega)
                  subst hAr hAc
                  have hzu : z = u.o := by
                    have h1 := hz.out
                    simp [opsQ, hu.out] at h1
                    exact h1.symm
                  subst hzu
                  have hum := hqmk.out.2 j u hu.out
                  rw [SixAt, hum] at SU
                  have hadd : IntKind.i64.wrap ((j : Int) + 1) = (j : Int) + 1 := IntWalk.i64_in _ (by omega)
                  have hj1 : j < q.length := by have := HQN.out; omega
                  have hj2 : j < (opsQ q).length := by have := HOQ2.out; omega
                  clear hz hu hum
                  have SV : SixAt ws ba (oa + j * 6) ⟨(j : Int) + 1, u.o⟩ := SU
                  go_wp2_with fail
                  go_region_held3 (fun V => (V.cell? ⟨bb, ob + j * 5, none⟩ = some (.int .i64 u.o.k) ∧ V.cell? ⟨bb, ob + j * 5 + 1, none⟩ = some (.int .i64 u.o.p) ∧ V.cell? ⟨bb, ob + j * 5 + 2, none⟩ = some (.int .u8 u.o.c) ∧ V.cell? ⟨bb, ob + j * 5 + 3, none⟩ = some (.int .i64 u.o.l) ∧ V.cell? ⟨bb, ob + j * 5 + 4, none⟩ = some (.int .i64 u.o.s)) ∧ (V.cell? ⟨ba, oa + j * 6, none⟩ = some (.int .i64 ((j : Int) + 1)) ∧ V.cell? ⟨ba, oa + j * 6 + 1, none⟩ = some (.int .i64 u.o.k) ∧ V.cell? ⟨ba, oa + j * 6 + 2, none⟩ = some (.int .i64 u.o.p) ∧ V.cell? ⟨ba, oa + j * 6 + 3, none⟩ = some (.int .u8 u.o.c) ∧ V.cell? ⟨ba, oa + j * 6 + 4, none⟩ = some (.int .i64 u.o.l) ∧ V.cell? ⟨ba, oa + j * 6 + 5, none⟩ = some (.int .i64 u.o.s)))
                    (first | ((with_reducible refine And.intro (five_keep FZ ?_ hbb) (six_keep SV ?_ hba) <;> (repeat' (first | with_reducible exact Below.refl _ _ | with_reducible exact hBz | with_reducible exact hB2 | with_reducible refine Below.drew ?_ | fail))); done) | fail)
                    (first
                      | (go_at_call 52; (with_reducible refine (one_yes u.o _).mono ?_); rintro e w2 ⟨rfl, hb⟩; (have hB2 : Below ws.heap.size ws w2 := hBz.drew.trans (hb.mono hBz.size)))
                      | fail)
                  all_goals
                    clear hadd
                    go_wp2_with fail
                    go_roundw
                    case rel => exact ⟨j + 1, by omega, by go_num, hB2⟩
                    case measure => simp [intOf]; omega
                · clear t1 t2
                  go_wp2_with fail
                  clear hjN
                  go_loopw [25] (fun i wz => ∃ j : Nat, j ≤ out.length ∧ i = .int .i64 j ∧ Below ws.heap.size ws wz) (fun i wz => out.length - (intOf i).toNat)
                  case atStart => exact ⟨0, Nat.zero_le _, rfl, hBz⟩
                  case round =>
                    clear hBz
                    obtain ⟨j, hj, rfl, hBz⟩ := hrel
                    by_cases hjN : j < out.length
                    · obtain ⟨ba, oa, u, hA4, hu, hba, FU⟩ := r4.five j hjN
                      obtain ⟨bb, ob, z, hAd, hz, hbb, FZ⟩ := rd'.five j hjN
                      have hzu : u = z := Option.some.inj (hu.out.symm.trans hz.out)
                      subst hzu
                      subst hA4 hAd
                      clear hz hu
                      go_wp2_with fail
                      go_region_held3 (fun V => (V.cell? ⟨bb, ob + j * 5, none⟩ = some (.int .i64 u.k) ∧ V.cell? ⟨bb, ob + j * 5 + 1, none⟩ = some (.int .i64 u.p) ∧ V.cell? ⟨bb, ob + j * 5 + 2, none⟩ = some (.int .u8 u.c) ∧ V.cell? ⟨bb, ob + j * 5 + 3, none⟩ = some (.int .i64 u.l) ∧ V.cell? ⟨bb, ob + j * 5 + 4, none⟩ = some (.int .i64 u.s)) ∧ (V.cell? ⟨ba, oa + j * 5, none⟩ = some (.int .i64 u.k) ∧ V.cell? ⟨ba, oa + j * 5 + 1, none⟩ = some (.int .i64 u.p) ∧ V.cell? ⟨ba, oa + j * 5 + 2, none⟩ = some (.int .u8 u.c) ∧ V.cell? ⟨ba, oa + j * 5 + 3, none⟩ = some (.int .i64 u.l) ∧ V.cell? ⟨ba, oa + j * 5 + 4, none⟩ = some (.int .i64 u.s)))
                        (first | ((with_reducible refine And.intro (five_keep FZ ?_ hbb) (five_keep FU ?_ hba) <;> (repeat' (first | with_reducible exact Below.refl _ _ | with_reducible exact hBz | with_reducible exact hB2 | with_reducible refine Below.drew ?_ | fail))); done) | fail)
                        (first
                          | (go_at_call 52; (with_reducible refine (one_yes u _).mono ?_); rintro e w2 ⟨rfl, hb⟩; (have hB2 : Below ws.heap.size ws w2 := hBz.drew.trans (hb.mono hBz.size)))
                          | fail)
                      all_goals
                        go_wp2_with fail
                        go_roundw
                        case rel => exact ⟨j + 1, by omega, by go_num, hB2⟩
                        case measure => simp [intOf]; omega
                    · go_wp2
                      go_ret
                      exact ⟨rfl, B.trans (hBz.mono B.size)⟩
        · have hil : ins.length ≤ 60 := by omega
          cases f
          · go_wp2_with fail
            with_reducible refine (weave_m _ _ _ _ _ _ ins (opsQ q0) _ rfl hoq.out (hr.on B) O3.rd2 rO (by omega) (by have := hoq.out; omega)).mono ?_
            rintro e wv ⟨Ad, Ac, cd, cc, ls, out, hw, hlw, rfl, rd', rc, bv⟩
            have hlin : out = opsQ q ∧ ls = outs := by
              have h1 := hlin0.out
              have h2 : linesL false (opsQ q0) ins = ((weaveL ins (opsQ q0)).2, (weaveL ins (opsQ q0)).1) := by simp only [linesL, Bool.false_eq_true, if_false]; rw [rweaveL_is]
              rw [h2, hw.out] at h1
              exact ⟨congrArg Prod.fst h1, congrArg Prod.snd h1⟩
            obtain ⟨hls, hout⟩ := hlin
            subst hls hout
            have r4 := O4.rd2.below bv
            replace hS := hS.on bv
            replace B := B.trans (bv.mono B.size)
            have hol2 : ls.length ≤ 60 := by have := hon.out; omega
            clear O3 O4 hdj rO hlin0 hw hlw bv
            have hqN := hqmk.out.1
            have hoq2 : (opsQ q).length = N := by rw [opsQ_length]; exact hqN
            have HQN := Lib.hid hqN
            have HOQ2 := Lib.hid hoq2
            have t1 : (((opsQ q).length : Int) != N) = false := by simp [hoq2]
            have t2 : ((q.length : Int) != N) = false := by simp [hqN]
            clear hqN hoq2
            go_wp2_with fail
            with_reducible refine (queue_any _ hS (by have := HQN.out; omega)).mono ?_
            rintro e ws ⟨Ar, cr, rfl, hOr, br⟩
            have rr := hOr.rd2
            replace rc := rc.below br
            replace rd' := rd'.below br
            replace r4 := r4.below br
            replace B := B.trans (br.mono B.size)
            clear hOr br hS
            go_wp2_with fail
            go_loopw [24] (fun i wz => ∃ j : Nat, j ≤ N ∧ i = .int .i64 j ∧ Below ws.heap.size ws wz) (fun i wz => N - (intOf i).toNat)
            case atStart => exact ⟨0, Nat.zero_le _, rfl, Below.refl _ _⟩
            case round =>
              obtain ⟨j, hj, rfl, hBz⟩ := hrel
              by_cases hjN : j < N
              · obtain ⟨ba, oa, u, hAr, hu, hba, SU⟩ := rr.six j (by have := HQN.out; omega)
                obtain ⟨bb, ob, z, hAc, hz, hbb, FZ⟩ := rc.five j (by have := HOQ2.out; omega)
                subst hAr hAc
                have hzu : z = u.o := by
                  have h1 := hz.out
                  simp [opsQ, hu.out] at h1
                  exact h1.symm
                subst hzu
                have hum := hqmk.out.2 j u hu.out
                rw [SixAt, hum] at SU
                have hadd : IntKind.i64.wrap ((j : Int) + 1) = (j : Int) + 1 := IntWalk.i64_in _ (by omega)
                have hj1 : j < q.length := by have := HQN.out; omega
                have hj2 : j < (opsQ q).length := by have := HOQ2.out; omega
                clear hz hu hum
                have SV : SixAt ws ba (oa + j * 6) ⟨(j : Int) + 1, u.o⟩ := SU
                go_wp2_with fail
                go_region_held3 (fun V => (V.cell? ⟨bb, ob + j * 5, none⟩ = some (.int .i64 u.o.k) ∧ V.cell? ⟨bb, ob + j * 5 + 1, none⟩ = some (.int .i64 u.o.p) ∧ V.cell? ⟨bb, ob + j * 5 + 2, none⟩ = some (.int .u8 u.o.c) ∧ V.cell? ⟨bb, ob + j * 5 + 3, none⟩ = some (.int .i64 u.o.l) ∧ V.cell? ⟨bb, ob + j * 5 + 4, none⟩ = some (.int .i64 u.o.s)) ∧ (V.cell? ⟨ba, oa + j * 6, none⟩ = some (.int .i64 ((j : Int) + 1)) ∧ V.cell? ⟨ba, oa + j * 6 + 1, none⟩ = some (.int .i64 u.o.k) ∧ V.cell? ⟨ba, oa + j * 6 + 2, none⟩ = some (.int .i64 u.o.p) ∧ V.cell? ⟨ba, oa + j * 6 + 3, none⟩ = some (.int .u8 u.o.c) ∧ V.cell? ⟨ba, oa + j * 6 + 4, none⟩ = some (.int .i64 u.o.l) ∧ V.cell? ⟨ba, oa + j * 6 + 5, none⟩ = some (.int .i64 u.o.s)))
                  (first | ((with_reducible refine And.intro (five_keep FZ ?_ hbb) (six_keep SV ?_ hba) <;> (repeat' (first | with_reducible exact Below.refl _ _ | with_reducible exact hBz | with_reducible exact hB2 | with_reducible refine Below.drew ?_ | fail))); done) | fail)
                  (first
                    | (go_at_call 52; (with_reducible refine (one_yes u.o _).mono ?_); rintro e w2 ⟨rfl, hb⟩; (have hB2 : Below ws.heap.size ws w2 := hBz.drew.trans (hb.mono hBz.size)))
                    | fail)
                all_goals
                  clear hadd
                  go_wp2_with fail
                  go_roundw
                  case rel => exact ⟨j + 1, by omega, by go_num, hB2⟩
                  case measure => simp [intOf]; omega
              · clear t1 t2
                go_wp2_with fail
                clear hjN
                go_loopw [25] (fun i wz => ∃ j : Nat, j ≤ ls.length ∧ i = .int .i64 j ∧ Below ws.heap.size ws wz) (fun i wz => ls.length - (intOf i).toNat)
                case atStart => exact ⟨0, Nat.zero_le _, rfl, hBz⟩
                case round =>
                  clear hBz
                  obtain ⟨j, hj, rfl, hBz⟩ := hrel
                  by_cases hjN : j < ls.length
                  · obtain ⟨ba, oa, u, hA4, hu, hba, FU⟩ := r4.five j hjN
                    obtain ⟨bb, ob, z, hAd, hz, hbb, FZ⟩ := rd'.five j hjN
                    have hzu : u = z := Option.some.inj (hu.out.symm.trans hz.out)
                    subst hzu
                    subst hA4 hAd
                    clear hz hu
                    go_wp2_with fail
                    go_region_held3 (fun V => (V.cell? ⟨bb, ob + j * 5, none⟩ = some (.int .i64 u.k) ∧ V.cell? ⟨bb, ob + j * 5 + 1, none⟩ = some (.int .i64 u.p) ∧ V.cell? ⟨bb, ob + j * 5 + 2, none⟩ = some (.int .u8 u.c) ∧ V.cell? ⟨bb, ob + j * 5 + 3, none⟩ = some (.int .i64 u.l) ∧ V.cell? ⟨bb, ob + j * 5 + 4, none⟩ = some (.int .i64 u.s)) ∧ (V.cell? ⟨ba, oa + j * 5, none⟩ = some (.int .i64 u.k) ∧ V.cell? ⟨ba, oa + j * 5 + 1, none⟩ = some (.int .i64 u.p) ∧ V.cell? ⟨ba, oa + j * 5 + 2, none⟩ = some (.int .u8 u.c) ∧ V.cell? ⟨ba, oa + j * 5 + 3, none⟩ = some (.int .i64 u.l) ∧ V.cell? ⟨ba, oa + j * 5 + 4, none⟩ = some (.int .i64 u.s)))
                      (first | ((with_reducible refine And.intro (five_keep FZ ?_ hbb) (five_keep FU ?_ hba) <;> (repeat' (first | with_reducible exact Below.refl _ _ | with_reducible exact hBz | with_reducible exact hB2 | with_reducible refine Below.drew ?_ | fail))); done) | fail)
                      (first
                        | (go_at_call 52; (with_reducible refine (one_yes u _).mono ?_); rintro e w2 ⟨rfl, hb⟩; (have hB2 : Below ws.heap.size ws w2 := hBz.drew.trans (hb.mono hBz.size)))
                        | fail)
                    all_goals
                      go_wp2_with fail
                      go_roundw
                      case rel => exact ⟨j + 1, by omega, by go_num, hB2⟩
                      case measure => simp [intOf]; omega
                  · go_wp2
                    go_ret
                    exact ⟨rfl, B.trans (hBz.mono B.size)⟩
          · go_wp2_with fail
            with_reducible refine (weave_m _ _ _ _ _ _ (opsQ q0) ins _ hoq.out rfl (hr.on B) rO O3.rd2 (by have := hoq.out; omega) (by omega)).mono ?_
            rintro e wv ⟨Ac, Ad, cc, cd, ls, out, hw, hlw, rfl, rc, rd', bv⟩
            have hlin : ls = opsQ q ∧ out = outs := by
              have h1 := hlin0.out
              have h2 : linesL true (opsQ q0) ins = weaveL (opsQ q0) ins := rfl
              rw [h2, hw.out] at h1
              exact ⟨congrArg Prod.fst h1, congrArg Prod.snd h1⟩
            obtain ⟨hls, hout⟩ := hlin
            subst hls hout
            have r4 := O4.rd2.below bv
            replace hS := hS.on bv
            replace B := B.trans (bv.mono B.size)
            have hol2 : out.length ≤ 60 := by have := hon.out; omega
            clear O3 O4 hdj rO hlin0 hw hlw bv
            have hqN := hqmk.out.1
            have hoq2 : (opsQ q).length = N := by rw [opsQ_length]; exact hqN
            have HQN := Lib.hid hqN
            have HOQ2 := Lib.hid hoq2
            have t1 : (((opsQ q).length : Int) != N) = false := by simp [hoq2]
            have t2 : ((q.length : Int) != N) = false := by simp [hqN]
            clear hqN hoq2
            go_wp2_with fail
            with_reducible refine (queue_any _ hS (by have := HQN.out; omega)).mono ?_
            rintro e ws ⟨Ar, cr, rfl, hOr, br⟩
            have rr := hOr.rd2
            replace rc := rc.below br
            replace rd' := rd'.below br
            replace r4 := r4.below br
            replace B := B.trans (br.mono B.size)
            clear hOr br hS
            go_wp2_with fail
            go_loopw [24] (fun i wz => ∃ j : Nat, j ≤ N ∧ i = .int .i64 j ∧ Below ws.heap.size ws wz) (fun i wz => N - (intOf i).toNat)
            case atStart => exact ⟨0, Nat.zero_le _, rfl, Below.refl _ _⟩
            case round =>
              obtain ⟨j, hj, rfl, hBz⟩ := hrel
              by_cases hjN : j < N
              · obtain ⟨ba, oa, u, hAr, hu, hba, SU⟩ := rr.six j (by have := HQN.out; omega)
                obtain ⟨bb, ob, z, hAc, hz, hbb, FZ⟩ := rc.five j (by have := HOQ2.out; omega)
                subst hAr hAc
                have hzu : z = u.o := by
                  have h1 := hz.out
                  simp [opsQ, hu.out] at h1
                  exact h1.symm
                subst hzu
                have hum := hqmk.out.2 j u hu.out
                rw [SixAt, hum] at SU
                have hadd : IntKind.i64.wrap ((j : Int) + 1) = (j : Int) + 1 := IntWalk.i64_in _ (by omega)
                have hj1 : j < q.length := by have := HQN.out; omega
                have hj2 : j < (opsQ q).length := by have := HOQ2.out; omega
                clear hz hu hum
                have SV : SixAt ws ba (oa + j * 6) ⟨(j : Int) + 1, u.o⟩ := SU
                go_wp2_with fail
                go_region_held3 (fun V => (V.cell? ⟨bb, ob + j * 5, none⟩ = some (.int .i64 u.o.k) ∧ V.cell? ⟨bb, ob + j * 5 + 1, none⟩ = some (.int .i64 u.o.p) ∧ V.cell? ⟨bb, ob + j * 5 + 2, none⟩ = some (.int .u8 u.o.c) ∧ V.cell? ⟨bb, ob + j * 5 + 3, none⟩ = some (.int .i64 u.o.l) ∧ V.cell? ⟨bb, ob + j * 5 + 4, none⟩ = some (.int .i64 u.o.s)) ∧ (V.cell? ⟨ba, oa + j * 6, none⟩ = some (.int .i64 ((j : Int) + 1)) ∧ V.cell? ⟨ba, oa + j * 6 + 1, none⟩ = some (.int .i64 u.o.k) ∧ V.cell? ⟨ba, oa + j * 6 + 2, none⟩ = some (.int .i64 u.o.p) ∧ V.cell? ⟨ba, oa + j * 6 + 3, none⟩ = some (.int .u8 u.o.c) ∧ V.cell? ⟨ba, oa + j * 6 + 4, none⟩ = some (.int .i64 u.o.l) ∧ V.cell? ⟨ba, oa + j * 6 + 5, none⟩ = some (.int .i64 u.o.s)))
                  (first | ((with_reducible refine And.intro (five_keep FZ ?_ hbb) (six_keep SV ?_ hba) <;> (repeat' (first | with_reducible exact Below.refl _ _ | with_reducible exact hBz | with_reducible exact hB2 | with_reducible refine Below.drew ?_ | fail))); done) | fail)
                  (first
                    | (go_at_call 52; (with_reducible refine (one_yes u.o _).mono ?_); rintro e w2 ⟨rfl, hb⟩; (have hB2 : Below ws.heap.size ws w2 := hBz.drew.trans (hb.mono hBz.size)))
                    | fail)
                all_goals
                  clear hadd
                  go_wp2_with fail
                  go_roundw
                  case rel => exact ⟨j + 1, by omega, by go_num, hB2⟩
                  case measure => simp [intOf]; omega
              · clear t1 t2
                go_wp2_with fail
                clear hjN
                go_loopw [25] (fun i wz => ∃ j : Nat, j ≤ out.length ∧ i = .int .i64 j ∧ Below ws.heap.size ws wz) (fun i wz => out.length - (intOf i).toNat)
                case atStart => exact ⟨0, Nat.zero_le _, rfl, hBz⟩
                case round =>
                  clear hBz
                  obtain ⟨j, hj, rfl, hBz⟩ := hrel
                  by_cases hjN : j < out.length
                  · obtain ⟨ba, oa, u, hA4, hu, hba, FU⟩ := r4.five j hjN
                    obtain ⟨bb, ob, z, hAd, hz, hbb, FZ⟩ := rd'.five j hjN
                    have hzu : u = z := Option.some.inj (hu.out.symm.trans hz.out)
                    subst hzu
                    subst hA4 hAd
                    clear hz hu
                    go_wp2_with fail
                    go_region_held3 (fun V => (V.cell? ⟨bb, ob + j * 5, none⟩ = some (.int .i64 u.k) ∧ V.cell? ⟨bb, ob + j * 5 + 1, none⟩ = some (.int .i64 u.p) ∧ V.cell? ⟨bb, ob + j * 5 + 2, none⟩ = some (.int .u8 u.c) ∧ V.cell? ⟨bb, ob + j * 5 + 3, none⟩ = some (.int .i64 u.l) ∧ V.cell? ⟨bb, ob + j * 5 + 4, none⟩ = some (.int .i64 u.s)) ∧ (V.cell? ⟨ba, oa + j * 5, none⟩ = some (.int .i64 u.k) ∧ V.cell? ⟨ba, oa + j * 5 + 1, none⟩ = some (.int .i64 u.p) ∧ V.cell? ⟨ba, oa + j * 5 + 2, none⟩ = some (.int .u8 u.c) ∧ V.cell? ⟨ba, oa + j * 5 + 3, none⟩ = some (.int .i64 u.l) ∧ V.cell? ⟨ba, oa + j * 5 + 4, none⟩ = some (.int .i64 u.s)))
                      (first | ((with_reducible refine And.intro (five_keep FZ ?_ hbb) (five_keep FU ?_ hba) <;> (repeat' (first | with_reducible exact Below.refl _ _ | with_reducible exact hBz | with_reducible exact hB2 | with_reducible refine Below.drew ?_ | fail))); done) | fail)
                      (first
                        | (go_at_call 52; (with_reducible refine (one_yes u _).mono ?_); rintro e w2 ⟨rfl, hb⟩; (have hB2 : Below ws.heap.size ws w2 := hBz.drew.trans (hb.mono hBz.size)))
                        | fail)
                    all_goals
                      go_wp2_with fail
                      go_roundw
                      case rel => exact ⟨j + 1, by omega, by go_num, hB2⟩
                      case measure => simp [intOf]; omega
                  · go_wp2
                    go_ret
                    exact ⟨rfl, B.trans (hBz.mono B.size)⟩
end Go.Proofs.YtkicbnkacjnhoaaDoor
