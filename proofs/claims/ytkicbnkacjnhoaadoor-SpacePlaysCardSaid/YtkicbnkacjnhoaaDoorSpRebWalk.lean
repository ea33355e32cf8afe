/- The walk of jotterlaw10.SpaceRebuilt: it answers true. -/
import Derived.Test.YtkicbnkacjnhoaaDoorSpAll
namespace Go.Proofs.YtkicbnkacjnhoaaDoor
open Go.RowKit
set_option linter.unusedVariables false
set_option linter.unusedSimpArgs false

/-- A call in a script. -/
structure PSOp where
  k : Int
  w : Bool
  m : Int
  o : POp
def sopF : Flat PSOp := ⟨8, fun x => [.int .i64 x.k, .bool x.w, .int .i64 x.m, .int .i64 x.o.k, .int .i64 x.o.p, .int .u8 x.o.c, .int .i64 x.o.l, .int .i64 x.o.s], fun _ => rfl⟩
theorem Rd.sop {w : World} {A : Option Addr} {xs : List PSOp} (h : Rd sopF w A xs) (i : Nat) (hi : i < xs.length) :
    ∃ b off x, A = some ⟨b, off, none⟩ ∧ Hid (xs[i]? = some x) ∧ b < w.heap.size ∧ w.cell? ⟨b, off + i * 8, none⟩ = some (.int .i64 x.k) ∧ w.cell? ⟨b, off + i * 8 + 1, none⟩ = some (.bool x.w) ∧ w.cell? ⟨b, off + i * 8 + 2, none⟩ = some (.int .i64 x.m) ∧
      w.cell? ⟨b, off + i * 8 + 3, none⟩ = some (.int .i64 x.o.k) ∧ w.cell? ⟨b, off + i * 8 + 4, none⟩ = some (.int .i64 x.o.p) ∧ w.cell? ⟨b, off + i * 8 + 5, none⟩ = some (.int .u8 x.o.c) ∧ w.cell? ⟨b, off + i * 8 + 6, none⟩ = some (.int .i64 x.o.l) ∧ w.cell? ⟨b, off + i * 8 + 7, none⟩ = some (.int .i64 x.o.s) := by
  obtain ⟨b, off, e, hc⟩ := h.at_ i hi
  have h0 := hc 0 _ rfl
  exact ⟨b, off, xs[i], e, List.getElem?_eq_getElem hi, World.block_lt_of_cell? w _ h0, h0, hc 1 _ rfl, hc 2 _ rfl, hc 3 _ rfl, hc 4 _ rfl, hc 5 _ rfl, hc 6 _ rfl, hc 7 _ rfl⟩
theorem Blk.eight {w : World} {b : Nat} {t : TypeId} {v0 v1 v2 v3 v4 v5 v6 v7 : Value} (h : Blk w b #[v0, v1, v2, v3, v4, v5, v6, v7] t) :
    w.cell? ⟨b, 2, none⟩ = some v2 ∧ (w.cell? ⟨b, 3, none⟩ = some v3 ∧ w.cell? ⟨b, 4, none⟩ = some v4 ∧ w.cell? ⟨b, 5, none⟩ = some v5 ∧ w.cell? ⟨b, 6, none⟩ = some v6 ∧ w.cell? ⟨b, 7, none⟩ = some v7) :=
  ⟨h.cell 2, h.cell 3, h.cell 4, h.cell 5, h.cell 6, h.cell 7⟩
/-- The last mark of a queue (0: none). -/
def lastOf (q : List PMk) : Int := match q.getLast? with
  | some u => u.m
  | none => 0
theorem lastOf_snoc (q : List PMk) (u : PMk) : lastOf (q ++ [u]) = u.m := by simp [lastOf]
theorem lastOf_lt {q : List PMk} {last : Int} (h : QInv q last) {j : Nat} {u : PMk} (hu : q[j]? = some u) : lastOf (q.take j) < u.m := by
  rcases j with _ | j
  · simpa [lastOf] using (h.rng u (List.mem_of_getElem? hu)).1
  · have hj := (List.getElem?_eq_some_iff.1 hu).1
    have h1 : q.take (j + 1) = q.take j ++ [q[j]] := by rw [List.take_add_one, List.getElem?_eq_getElem (by omega)]; rfl
    rw [h1, lastOf_snoc]
    have hp := h.up
    rw [List.pairwise_iff_getElem] at hp
    have h2 := hp j (j + 1) (by simp; omega) (by simpa using hj) (by omega)
    obtain ⟨_, he⟩ := List.getElem?_eq_some_iff.1 hu
    simpa [he] using h2
theorem six_but {w w' : World} {b off : Nat} {x : PMk} {bs : List Nat} (h : SixAt w b off x) (hb : But bs w w') (hn : b ∉ bs) (hlt : b < w.heap.size) : SixAt w' b off x := by
  obtain ⟨h0, h1, h2, h3, h4, h5⟩ := h
  have k : ∀ i, w'.cell? ⟨b, i, none⟩ = w.cell? ⟨b, i, none⟩ := fun i => World.cell?_of_block (hb.block b hlt hn)
  exact ⟨(k _).trans h0, (k _).trans h1, (k _).trans h2, (k _).trans h3, (k _).trans h4, (k _).trans h5⟩
theorem cell_but {w w' : World} {b i : Nat} {v : Value} {bs : List Nat} (h : w.cell? ⟨b, i, none⟩ = some v) (hb : But bs w w') (hn : b ∉ bs) (hlt : b < w.heap.size) : w'.cell? ⟨b, i, none⟩ = some v :=
  (World.cell?_of_block (hb.block b hlt hn)).trans h
theorem drop_same {q : List PMk} {m : Int} {n1 n2 : Nat} (h1 : n1 ≤ q.length ∧ dropQ m q = q.drop n1) (h2 : n2 ≤ q.length ∧ dropQ m q = q.drop n2) : n2 = n1 := by
  have h := congrArg List.length (h1.2.symm.trans h2.2)
  simp only [List.length_drop] at h
  omega
theorem keep_valid : validL ⟨1, 0, 97, 1, 1⟩ = 0 := by decide
theorem keep_first {p : Nat} {A : Option Addr} {c : Nat} {first : Bool} (w : World) (h : SpAt w p A c [] 0 first) :
    Calls Tryd.prog 55 #[.pointer (some ⟨p, 0, none⟩), .int .i64 1, .agg #[.int .i64 1, .int .i64 0, .int .u8 97, .int .i64 1, .int .i64 1]] w fun e w' =>
      e = .returned (.int .i64 0) ∧ ∃ A' c', SpAt w' p A' c' [⟨1, ⟨1, 0, 97, 1, 1⟩⟩] 1 first ∧ But (p :: own A) w w' ∧ ∀ b ∈ own A', b ∈ own A ∨ w.heap.size ≤ b :=
  keep_ok 1 ⟨1, 0, 97, 1, 1⟩ w h (by decide) keep_valid (by decide) (by decide) (by simp)

set_option maxHeartbeats 8000000 in
set_option maxRecDepth 100000 in
theorem rebuilt_any (f : Bool) (A1 A2 : Option Addr) (c1 c2 : Nat) (sc : List PSOp) (far : List POp) (w : World) (hr : RulesAt w) (hl : Rd sopF w A1 sc) (hf : Rd opF w A2 far) (hok1 : ∀ x ∈ sc, 0 ≤ x.o.c ∧ x.o.c ≤ 255) (hok2 : ∀ o ∈ far, 0 ≤ o.c ∧ o.c ≤ 255) (z1 : sc.length ≤ 9223372036854775807) (z2 : far.length ≤ 9223372036854775807) :
    Calls Tryd.prog 15 #[.bool f, .slice A1 sc.length c1, .slice A2 far.length c2] w fun e w' => e = .returned (.bool true) ∧ Below w.heap.size w w' := by
  have HOK1 := Lib.hid hok1
  have HOK2 := Lib.hid hok2
  clear hok1 hok2
  go_enter Tryd.func15, Tryd.ntmps15
  go_wp2_with fail
  with_reducible refine (new_any _ _).mono ?_
  rintro e w1 ⟨rfl, hX, b1⟩
  have B := b1
  obtain ⟨p, hp⟩ : ∃ p, p = w.heap.size := ⟨_, rfl⟩
  rw [← hp] at hX ⊢
  have hpw : w.heap.size ≤ p := by omega
  have hp1 : p < w1.heap.size := hX.blk.lt
  clear hp b1
  go_wp2_with fail
  with_reducible refine (new_any _ _).mono ?_
  rintro e w2 ⟨rfl, hY, b2⟩
  obtain ⟨p2, hp2⟩ : ∃ p2, p2 = w1.heap.size := ⟨_, rfl⟩
  rw [← hp2] at hY ⊢
  have hpp : p < p2 := by omega
  replace hX := hX.on b2
  replace B := B.trans (b2.mono B.size)
  clear hp2 hp1 b2
  go_wp2_with fail
  with_reducible refine (keep_first _ hX).mono ?_
  rintro e w3 ⟨rfl, A0, c0, hX3, b3, hf3⟩
  have hp2lt := hY.blk.lt
  replace hY := hY.but b3 (by simp [own]; omega)
  have hfA : Hid (∀ b ∈ own A0, w.heap.size ≤ b ∧ b ≠ p2) := Lib.hid (fun b hb => by
    rcases hf3 b hb with h1 | h1
    · simp [own] at h1
    · have h2 := B.size
      have h4 : p2 < w2.heap.size := hp2lt
      exact ⟨by omega, by omega⟩)
  have B3 := b3.below B B.size (by simp [own]; omega)
  replace hX := hX3
  replace B := B3
  have hQ0 : Hid (QInv [⟨1, ⟨1, 0, 97, 1, 1⟩⟩] 1) := Lib.hid (QInv.nil.keep (by decide) (by decide) (by decide))
  clear b3 hf3 hX3 B3 hp2lt
  go_wp2_with fail
  refine (queue_any _ hX (by simp)).mono ?_
  rintro e w4 ⟨A5, c5, rfl, hO5, b5⟩
  replace hX := hX.on b5
  replace hY := hY.on b5
  replace B := B.trans (b5.mono B.size)
  clear hO5 b5
  go_wp2_with fail
  go_loopw [10] (fun i wr => ∃ (k : Nat) (A : Option Addr) (c : Nat) (q : List PMk) (last : Int), k ≤ sc.length ∧ k ≤ 60 ∧ i = .int .i64 k ∧ q.length ≤ k + 1 ∧ Hid (QInv q last) ∧ SpAt wr p A c q last f ∧ SpAt wr p2 none 0 [] 0 f ∧ Hid (∀ b ∈ own A, w.heap.size ≤ b ∧ b ≠ p2) ∧ Below w.heap.size w wr) (fun i wr => 60 - (intOf i).toNat)
  case atStart => exact ⟨0, A0, c0, _, 1, Nat.zero_le _, by omega, rfl, by simp, hQ0, hX, hY, hfA, B⟩
  case round =>
    clear hX hY hQ0 hfA B
    obtain ⟨k, A, c, q, last, hk, hk60, rfl, hqk, hQ, hX, hY, hfA, B⟩ := hrel
    by_cases hlt : k < sc.length
    · by_cases hlt2 : k < 60
      · obtain ⟨b, off, x, hA1, hx, hbl, s0, s1, s2, s3, s4, s5, s6, s7⟩ := (hl.below B).sop k hlt
        subst hA1
        have hcx : 0 ≤ x.o.c ∧ x.o.c ≤ 255 := HOK1.out x (List.mem_of_getElem? hx.out)
        have kS := Blk.new wr #[.int .i64 x.k, .bool x.w, .int .i64 x.m, .int .i64 x.o.k, .int .i64 x.o.p, .int .u8 x.o.c, .int .i64 x.o.l, .int .i64 x.o.s] 94
        have ba := below_alloc (Below.refl wr.heap.size wr) (.cells #[.int .i64 x.k, .bool x.w, .int .i64 x.m, .int .i64 x.o.k, .int .i64 x.o.p, .int .u8 x.o.c, .int .i64 x.o.l, .int .i64 x.o.s] 94)
        have knX : ∀ b ∈ p :: own A, b ≠ wr.heap.size := fun b hb => by have := hX.lt b hb; omega
        have KNX := Lib.hid knX
        have hyl := hY.blk.lt
        have hpl := hX.blk.lt
        have hXa := hX.on ba
        have hYa := hY.on ba
        have Ba := B.trans (ba.mono B.size)
        have lw : wr.heap.size < (wr.alloc (.cells #[.int .i64 x.k, .bool x.w, .int .i64 x.m, .int .i64 x.o.k, .int .i64 x.o.p, .int .u8 x.o.c, .int .i64 x.o.l, .int .i64 x.o.s] 94)).heap.size := by simp
        clear hx knX
        by_cases k1 : x.k = 1
        · rw [k1] at s0
          have K1 := Lib.hid k1
          clear k1
          go_wp2_with fail
          rw [K1.out] at kS hXa hYa Ba lw ba
          go_region_held3 (fun V => V.cell? ⟨wr.heap.size, 2, none⟩ = some (.int .i64 x.m) ∧ (V.cell? ⟨wr.heap.size, 3, none⟩ = some (.int .i64 x.o.k) ∧ V.cell? ⟨wr.heap.size, 4, none⟩ = some (.int .i64 x.o.p) ∧ V.cell? ⟨wr.heap.size, 5, none⟩ = some (.int .u8 x.o.c) ∧ V.cell? ⟨wr.heap.size, 6, none⟩ = some (.int .i64 x.o.l) ∧ V.cell? ⟨wr.heap.size, 7, none⟩ = some (.int .i64 x.o.s)))
            (first | ((with_reducible exact kS.drew.eight); done) | ((with_reducible exact k3.eight); done) | fail)
            (first
              | (go_at_call 55; (with_reducible refine (keep_all _ x.o _ (SpAt.drew hXa) hcx (by omega)).mono ?_); rintro e w3 ⟨A', c', q', last', rfl, hX3, b3, hf3, hE⟩; (have k3 := kS.drew.but b3 (fun hm => KNX.out _ hm rfl)))
              | fail)
          all_goals
            have hY3 := (SpAt.drew hYa).but b3 (fun b hb hm => by simp [own] at hb; subst hb; rcases List.mem_cons.1 hm with h1 | h1; omega; exact (hfA.out _ h1).2 rfl)
            have B3 := b3.below Ba.drew Ba.size (fun b hb => by rcases List.mem_cons.1 hb with rfl | hb; exact hpw; exact (hfA.out b hb).1)
            have hlw := Ba.size
            have hfA3 : Hid (∀ b ∈ own A', w.heap.size ≤ b ∧ b ≠ p2) := Lib.hid (fun b hb => by
              rcases hf3.out b hb with h1 | h1
              · exact hfA.out b h1
              · have h2 : (wr.alloc (.cells #[.int .i64 1, .bool x.w, .int .i64 x.m, .int .i64 x.o.k, .int .i64 x.o.p, .int .u8 x.o.c, .int .i64 x.o.l, .int .i64 x.o.s] 94)).heap.size ≤ b := h1
                exact ⟨by omega, by omega⟩)
            have hQ3 : Hid (QInv q' last' ∧ q'.length ≤ k + 2) := Lib.hid (by
              rcases hE.out with ⟨_, rfl, rfl⟩ | ⟨_, h1, h2, rfl, rfl⟩
              · exact ⟨hQ.out, by omega⟩
              · exact ⟨hQ.out.keep h1 h2 hcx, by simp; omega⟩)
            clear b3 hE hf3 kS hXa hYa Ba ba hX hY B s0 s1 s2 s3 s4 s5 s6 s7
            go_wp2_with fail
            go_roundw
            case rel => exact ⟨k + 1, A', c', q', last', by omega, by omega, by go_num, hQ3.out.2, Lib.hid hQ3.out.1, hX3, hY3, hfA3, B3⟩
            case measure => simp [intOf]; omega
        · by_cases k2 : x.k = 2
          · have q1 : (x.k == 1) = false := by simpa using k1
            rw [k2] at s0 q1
            have K2 := Lib.hid k2
            clear k1 k2
            go_wp2_with fail
            rw [K2.out] at kS hXa hYa Ba lw ba
            go_region_held3 (fun V => V.cell? ⟨wr.heap.size, 2, none⟩ = some (.int .i64 x.m))
              (first | ((with_reducible exact kS.drew.eight.1); done) | ((with_reducible exact k3.eight.1); done) | fail)
              (first
                | (go_at_call 56; (with_reducible refine (drop_any _ _ (SpAt.drew hXa) (by omega)).mono ?_); rintro e w3 ⟨n, A', c', rfl, hn, hX3, b3, hf3⟩; (have k3 := kS.drew.but b3 (fun hm => KNX.out _ (by rw [List.mem_singleton.1 hm]; simp) rfl)))
                | fail)
            all_goals
              have hY3 := (SpAt.drew hYa).but b3 (fun b hb hm => by simp [own] at hb hm; omega)
              have B3 := b3.below Ba.drew Ba.size (fun b hb => by rw [List.mem_singleton.1 hb]; exact hpw)
              have hlw := Ba.size
              have hfA3 : Hid (∀ b ∈ own A', w.heap.size ≤ b ∧ b ≠ p2) := Lib.hid (fun b hb => by
                have h2 : (wr.alloc (.cells #[.int .i64 2, .bool x.w, .int .i64 x.m, .int .i64 x.o.k, .int .i64 x.o.p, .int .u8 x.o.c, .int .i64 x.o.l, .int .i64 x.o.s] 94)).heap.size ≤ b := hf3 b hb
                exact ⟨by omega, by omega⟩)
              have hdl : (q.drop n).length ≤ k + 2 := by simp; omega
              have hQ3 : Hid (QInv (q.drop n) last) := Lib.hid (hQ.out.drop n)
              clear b3 hn hf3 kS hXa hYa Ba ba hX hY B s0 s1 s2 s3 s4 s5 s6 s7
              go_wp2_with fail
              go_roundw
              case rel => exact ⟨k + 1, A', c', q.drop n, last, by omega, by omega, by go_num, hdl, hQ3, hX3, hY3, hfA3, B3⟩
              case measure => simp [intOf]; omega
          · by_cases k3 : x.k = 3
            · have q1 : (x.k == 1) = false := by simpa using k1
              have q2 : (x.k == 2) = false := by simpa using k2
              rw [k3] at s0 q1 q2
              have K3 := Lib.hid k3
              clear k1 k2 k3
              have B5 := Ba
              rw [K3.out] at kS hXa hYa Ba lw ba
              go_wp2_with fail
              with_reducible refine (cross_all x.o _ (hr.on Ba) hXa hcx (by omega)).mono ?_
              rintro e w3 ⟨y, q', rfl, hX3, b3, hE⟩
              have hY3 := hYa.but b3 (fun b hb hm => by simp [own] at hb; subst hb; exact (hfA.out _ hm).2 rfl)
              have B3 := b3.below Ba Ba.size (fun b hb => (hfA.out b hb).1)
              have hQ3 : Hid (QInv q' last ∧ q'.length ≤ k + 2) := Lib.hid (by
                rw [hE.out.2]
                split
                · exact ⟨hQ.out.cross f x.o, by rw [crossQ_length]; omega⟩
                · exact ⟨hQ.out, by omega⟩)
              clear b3 hE kS hXa hYa Ba ba hX hY B B5 s0 s1 s2 s3 s4 s5 s6 s7
              go_wp2_with fail
              go_roundw
              case rel => exact ⟨k + 1, A, c, q', last, by omega, by omega, by go_num, hQ3.out.2, Lib.hid hQ3.out.1, hX3, hY3, hfA, B3⟩
              case measure => simp [intOf]; omega
            · have q1 : (x.k == 1) = false := by simpa using k1
              have q2 : (x.k == 2) = false := by simpa using k2
              have q3 : (x.k == 3) = false := by simpa using k3
              clear k1 k2 k3
              go_wp2_with fail
              go_roundw
              case rel => exact ⟨k + 1, A, c, q, last, by omega, by omega, by go_num, by omega, hQ, hXa, hYa, hfA, Ba⟩
              case measure => simp [intOf]; omega
      · go_wp2_with fail
        with_reducible refine (queue_any _ hX (by omega)).mono ?_
        rintro e w5 ⟨A12, c12, rfl, hO5, b5⟩
        have r12 := hO5.rd2
        obtain ⟨bw, hbw⟩ : ∃ bw, bw = wr.heap.size := ⟨_, rfl⟩
        obtain ⟨bq, hbq⟩ : ∃ bq, bq = w5.heap.size := ⟨_, rfl⟩
        have hd12 : Hid (∀ b ∈ own A12, bw ≤ b ∧ b < bq) := Lib.hid (fun b hb => by have := hO5.lt b (own_mem hb); omega)
        have hxl : Hid (∀ b ∈ p :: own A, b < bw) := Lib.hid (fun b hb => by have := hX.lt b hb; omega)
        have hp2l : p2 < bw := by have := hY.blk.lt; omega
        have hbwq : bw ≤ bq := by have := b5.size; omega
        have hpl2 : p < bw := hxl.out p (by simp)
        have hwbw : w.heap.size ≤ bw := by have := B.size; omega
        replace hX := hX.on b5
        replace hY := hY.on b5
        replace B := B.trans (b5.mono B.size)
        have hq61 : q.length ≤ 61 := by omega
        have hbz : bq ≤ w5.heap.size := by omega
        clear hO5 b5 hbw hbq
        go_wp2_with fail
        go_loopw [13] (fun i wz => ∃ (j : Nat) (A2 : Option Addr) (c2 : Nat), j ≤ q.length ∧ i = .int .i64 j ∧ SpAt wz p A c q last f ∧ SpAt wz p2 A2 c2 (q.take j) (lastOf (q.take j)) f ∧ Rd mkF wz A12 q ∧ Hid (∀ b ∈ own A2, bq ≤ b) ∧ bq ≤ wz.heap.size ∧ Below w.heap.size w wz) (fun i wz => q.length - (intOf i).toNat)
        case atStart => exact ⟨0, none, 0, Nat.zero_le _, rfl, hX, by simpa [lastOf] using hY, r12, Lib.hid (by simp [own]), hbz, B⟩
        case round =>
          clear hX hY r12 B hbz
          obtain ⟨j, A2y, c2y, hj, rfl, hX, hY, r12, h2f, hbz, B⟩ := hrel
          by_cases hjq : j < q.length
          · obtain ⟨ba, oa, u, hA12, hu, hba, SU⟩ := r12.six j hjq
            subst hA12
            have hur := hQ.out.rng u (List.mem_of_getElem? hu.out)
            have hcu : 0 ≤ u.o.c ∧ u.o.c ≤ 255 := hur.2.2
            have hlo := lastOf_lt hQ.out hu.out
            have hum : u.m ≤ 4096 := by have := hQ.out.top; omega
            have hbaq := hd12.out ba (by simp [own])
            obtain ⟨s0, s1, s2, s3, s4, s5⟩ := SU
            have SU' : SixAt _ ba (oa + j * 6) u := ⟨s0, s1, s2, s3, s4, s5⟩
            have hts : q.take (j + 1) = q.take j ++ [⟨u.m, u.o⟩] := by rw [List.take_add_one, hu.out]; rfl
            have HTS := Lib.hid hts
            have HUR := Lib.hid hur
            clear hts hur hu
            go_wp2_with fail
            with_reducible refine (valid_any u.o _ hcu).mono ?_
            rintro e w6 ⟨rfl, b6⟩
            have SU6 := six_keep SU' b6 hba
            have hba6 := Nat.lt_of_lt_of_le hba b6.size
            replace hX := hX.on b6
            replace hY := hY.on b6
            replace r12 := r12.below b6
            replace B := B.trans (b6.mono B.size)
            replace hbz := Nat.le_trans hbz b6.size
            have hnot : Hid (ba ∉ p2 :: own A2y) := Lib.hid (fun hm => by rcases List.mem_cons.1 hm with h1 | h1; omega; have := h2f.out ba h1; omega)
            have hBa : Below w6.heap.size w6 w6.drew := (Below.refl _ _).drew
            clear s0 s1 s2 s3 s4 s5 SU' hba b6
            by_cases hv : validL u.o = 0
            · have HV := Lib.hid hv
              rw [HV.out]
              clear hv
              go_wp2_with fail
              go_region_held3 (fun V => (V.cell? ⟨ba, oa + j * 6, none⟩ = some (.int .i64 u.m) ∧ V.cell? ⟨ba, oa + j * 6 + 1, none⟩ = some (.int .i64 u.o.k) ∧ V.cell? ⟨ba, oa + j * 6 + 2, none⟩ = some (.int .i64 u.o.p) ∧ V.cell? ⟨ba, oa + j * 6 + 3, none⟩ = some (.int .u8 u.o.c) ∧ V.cell? ⟨ba, oa + j * 6 + 4, none⟩ = some (.int .i64 u.o.l) ∧ V.cell? ⟨ba, oa + j * 6 + 5, none⟩ = some (.int .i64 u.o.s)))
                (first | ((with_reducible refine six_keep SU6 ?_ hba6 <;> (repeat' (first | with_reducible exact Below.refl _ _ | with_reducible exact hBa | with_reducible refine Below.drew ?_ | fail))); done) | ((with_reducible exact SU7); done) | fail)
                (first
                  | (go_at_call 55; (with_reducible refine (keep_ok u.m u.o _ (SpAt.drew hY) hcu HV.out hlo hum (by simp; omega)).mono ?_); rintro e w7 ⟨rfl, A3, c3, hY7, b7, hf7⟩; (have SU7 := six_but (six_keep SU6 hBa hba6) b7 hnot.out hba6))
                  | fail)
              all_goals
                have hX7 := (SpAt.drew hX).but b7 (fun b hb hm => by
                  have h1 := hxl.out b hb
                  rcases List.mem_cons.1 hm with h2 | h2
                  · rcases List.mem_cons.1 hb with h3 | h3
                    · omega
                    · exact (hfA.out b h3).2 h2
                  · have := h2f.out b h2; omega)
                have r7 := (r12.drew).but b7 (fun b off e hm => by injection e with e; injection e with e _; subst e; exact hnot.out hm)
                have B7 := b7.below B.drew B.size (fun b hb => by rcases List.mem_cons.1 hb with h1 | h1; rw [h1]; omega; have := h2f.out b h1; omega)
                have hbz7 : bq ≤ w7.heap.size := Nat.le_trans hbz b7.size
                have h2f7 : Hid (∀ b ∈ own A3, bq ≤ b) := Lib.hid (fun b hb => by rcases hf7 b hb with h1 | h1; exact h2f.out b h1; exact Nat.le_trans hbz h1)
                clear SU6 SU7 hba6 hX hY r12 B b7 hf7 hnot hBa
                go_wp2_with fail
                go_roundw
                case rel => exact ⟨j + 1, A3, c3, by omega, by go_num, hX7, by rw [HTS.out, lastOf_snoc]; exact hY7, r7, h2f7, hbz7, B7⟩
                case measure => simp [intOf]; omega
            · have HV := Lib.hid hv
              have hv0 : (validL u.o != 0) = true := by simpa using hv
              have hvv : (validL u.o != validL u.o) = false := by simp
              clear hv
              go_wp2_with fail
              go_region_held3 (fun V => (V.cell? ⟨ba, oa + j * 6, none⟩ = some (.int .i64 u.m) ∧ V.cell? ⟨ba, oa + j * 6 + 1, none⟩ = some (.int .i64 u.o.k) ∧ V.cell? ⟨ba, oa + j * 6 + 2, none⟩ = some (.int .i64 u.o.p) ∧ V.cell? ⟨ba, oa + j * 6 + 3, none⟩ = some (.int .u8 u.o.c) ∧ V.cell? ⟨ba, oa + j * 6 + 4, none⟩ = some (.int .i64 u.o.l) ∧ V.cell? ⟨ba, oa + j * 6 + 5, none⟩ = some (.int .i64 u.o.s)))
                (first | ((with_reducible refine six_keep SU6 ?_ hba6 <;> (repeat' (first | with_reducible exact Below.refl _ _ | with_reducible exact hBa | with_reducible refine Below.drew ?_ | fail))); done) | ((with_reducible refine six_keep SU6 ?_ hba6 <;> with_reducible exact hB7); done) | fail)
                (first
                  | (go_at_call 55; (with_reducible refine (keep_bad u.m u.o _ (SpAt.drew hY) hcu HV.out).mono ?_); rintro e w7 ⟨rfl, b7⟩; (have hB7 : Below w6.heap.size w6 w7 := hBa.trans b7))
                  | fail)
              all_goals
                go_wp2
                go_ret
                exact ⟨rfl, B.trans (hB7.mono B.size)⟩
          · have hjl : j = q.length := by omega
            have hY2 : SpAt wr p2 A2y c2y q (lastOf q) f := by
              have h1 := hY
              rw [hjl, List.take_length] at h1
              exact h1
            have hdis : Hid ((∀ b ∈ own A, w.heap.size ≤ b ∧ b ≠ p2 ∧ b ∉ own A2y ∧ b ∉ own A12) ∧ (∀ b ∈ own A2y, w.heap.size ≤ b ∧ b ≠ p ∧ b ∉ own A12)) := Lib.hid ⟨fun b hb => by
              have h1 := hxl.out b (List.mem_cons_of_mem _ hb)
              refine ⟨(hfA.out b hb).1, (hfA.out b hb).2, fun hm => ?_, fun hm => ?_⟩
              · have := h2f.out b hm; omega
              · have := (hd12.out b hm).1; omega, fun b hb => by
              have h1 := h2f.out b hb
              refine ⟨by omega, by omega, fun hm => ?_⟩
              have := (hd12.out b hm).2; omega⟩
            obtain ⟨last2, hl2⟩ : ∃ last2, last2 = lastOf q := ⟨_, rfl⟩
            rw [← hl2] at hY2
            have hpA12 : Hid (∀ b ∈ own A12, b ≠ p ∧ b ≠ p2) := Lib.hid (fun b hb => by have := hd12.out b hb; omega)
            clear hY hjl hl2 h2f hd12 hxl hfA hbz
            replace hY := hY2
            clear hY2
            go_wp2_with fail
            go_loopw [16] (fun i wz => ∃ (k : Nat) (A : Option Addr) (c : Nat) (A2' : Option Addr) (c2' : Nat) (q' : List PMk), k ≤ far.length ∧ k ≤ 60 ∧ i = .int .i64 k ∧ q'.length ≤ 61 ∧ Hid (QInv q' last) ∧ SpAt wz p A c q' last f ∧ SpAt wz p2 A2' c2' q' last2 f ∧ Rd mkF wz A12 q ∧ Hid ((∀ b ∈ own A, w.heap.size ≤ b ∧ b ≠ p2 ∧ b ∉ own A2' ∧ b ∉ own A12) ∧ (∀ b ∈ own A2', w.heap.size ≤ b ∧ b ≠ p ∧ b ∉ own A12)) ∧ Below w.heap.size w wz) (fun i wz => 60 - (intOf i).toNat)
            case atStart => exact ⟨0, A, c, A2y, c2y, q, Nat.zero_le _, by omega, rfl, by omega, hQ, hX, hY, r12, hdis, B⟩
            case round =>
              clear hX hY r12 hdis B hQ
              obtain ⟨k, A, c, A2', c2', q', hk, hk60, rfl, hqk, hQ, hX, hY, r12, hdis, B⟩ := hrel
              by_cases hlt : k < far.length
              · by_cases hlt2 : k < 60
                · obtain ⟨b, off, x, hAf, hx, hbl, FA⟩ := hf.five k hlt
                  subst hAf
                  have hcx : 0 ≤ x.c ∧ x.c ≤ 255 := HOK2.out x (List.mem_of_getElem? hx.out)
                  clear hx
                  obtain ⟨e0, e1, e2, e3, e4⟩ := five_keep FA B hbl
                  go_wp2_with fail
                  with_reducible refine (cross_all x _ (hr.on B) hX hcx (by omega)).mono ?_
                  rintro e w5 ⟨y1, q1, rfl, hX5, b5, hE1⟩
                  have hY5 := hY.but b5 (fun b hb hm => by rcases List.mem_cons.1 hb with h1 | h1; exact (hdis.out.1 b hm).2.1 h1; exact (hdis.out.1 b hm).2.2.1 h1)
                  have r5 := r12.but b5 (fun b off e hm => (hdis.out.1 b hm).2.2.2 (own_addr e))
                  have B5 := b5.below B B.size (fun b hb => (hdis.out.1 b hb).1)
                  have k17 := Blk.new w5 #[.int .i64 y1.k, .int .i64 y1.p, .int .u8 y1.c, .int .i64 y1.l, .int .i64 y1.s] 23
                  have k17n : w5.heap.size ∉ own A2' := fun hm => by have := hY5.lt _ (List.mem_cons_of_mem _ hm); omega
                  have ba := below_alloc (Below.refl w5.heap.size w5) (.cells #[.int .i64 y1.k, .int .i64 y1.p, .int .u8 y1.c, .int .i64 y1.l, .int .i64 y1.s] 23)
                  replace hX := hX5.on ba
                  replace hY := hY5.on ba
                  replace r12 := r5.below ba
                  replace B := B5.trans (ba.mono B5.size)
                  clear e0 e1 e2 e3 e4 hX5 hY5 r5 B5 b5 ba
                  obtain ⟨e0, e1, e2, e3, e4⟩ := five_keep FA B hbl
                  go_wp2_with fail
                  with_reducible refine (cross_all x _ (hr.on B) hY hcx (by omega)).mono ?_
                  rintro e w6 ⟨y2, q2, rfl, hY6, b6, hE2⟩
                  have hyy : y1 = y2 := hE1.out.1.trans hE2.out.1.symm
                  have hqq : q1 = q2 := hE1.out.2.trans hE2.out.2.symm
                  subst hyy hqq
                  have hX6 := hX.but b6 (fun b hb hm => by rcases List.mem_cons.1 hb with h1 | h1; exact (hdis.out.2 b hm).2.1 h1; exact (hdis.out.1 b h1).2.2.1 hm)
                  have r6 := r12.but b6 (fun b off e hm => (hdis.out.2 b hm).2.2 (own_addr e))
                  have k176 := k17.but b6 k17n
                  have B6 := b6.below B B.size (fun b hb => (hdis.out.2 b hb).1)
                  have k19 := Blk.new w6 #[.int .i64 y1.k, .int .i64 y1.p, .int .u8 y1.c, .int .i64 y1.l, .int .i64 y1.s] 23
                  have ba := below_alloc (Below.refl w6.heap.size w6) (.cells #[.int .i64 y1.k, .int .i64 y1.p, .int .u8 y1.c, .int .i64 y1.l, .int .i64 y1.s] 23)
                  have hQ1 : Hid (QInv q1 last ∧ q1.length ≤ 61) := Lib.hid (by
                    rw [hE1.out.2]
                    split
                    · exact ⟨hQ.out.cross f x, by rw [crossQ_length]; omega⟩
                    · exact ⟨hQ.out, hqk⟩)
                  replace hX := hX6.on ba
                  replace hY := hY6.on ba
                  replace r12 := r6.below ba
                  replace B := B6.trans (ba.mono B6.size)
                  have k17b := k176.on ba
                  have hvv : (validL x != validL x) = false := by simp
                  clear e0 e1 e2 e3 e4 hX6 hY6 r6 B6 b6 ba k17 k176 k17n hE1 hE2 hQ hqk
                  obtain ⟨hQ1a, hQ1b⟩ := hQ1.out
                  have HQ1 := Lib.hid hQ1a
                  obtain ⟨y0, y1', y2', y3, y4⟩ := k17b.cells5
                  obtain ⟨z0, z1', z2', z3, z4⟩ := k19.cells5
                  clear hQ1 hQ1a
                  go_wp2_with fail
                  with_reducible refine (one_yes y1 _).mono ?_
                  rintro e w7 ⟨rfl, b7⟩
                  replace hX := hX.on b7
                  replace hY := hY.on b7
                  replace r12 := r12.below b7
                  replace B := B.trans (b7.mono B.size)
                  clear y0 y1' y2' y3 y4 z0 z1' z2' z3 z4 k17b k19 b7
                  obtain ⟨e0, e1, e2, e3, e4⟩ := five_keep FA B hbl
                  go_wp2_with fail
                  with_reducible refine (valid_any _ _ hcx).mono ?_
                  rintro e w8 ⟨rfl, b8⟩
                  replace hX := hX.on b8
                  replace hY := hY.on b8
                  replace r12 := r12.below b8
                  replace B := B.trans (b8.mono B.size)
                  clear e0 e1 e2 e3 e4 b8
                  have ht1 : ((k : Int).tmod 5) = ((k % 5 : Nat) : Int) := by rw [Int.tmod_eq_emod_of_nonneg (by omega)]; rfl
                  have ht2 : ((k : Int).tdiv 5) = ((k / 5 : Nat) : Int) := by rw [Int.tdiv_eq_ediv_of_nonneg (by omega)]; rfl
                  by_cases h5 : k % 5 = 4
                  · have q5 : (((k : Int) % 5) == 4) = true := by simp; omega
                    by_cases h6 : k / 5 < q.length
                    · have q6 : decide ((k : Int) / 5 < (q.length : Int)) = true := by simp; omega
                      have q7 : (0 : Int) ≤ (k : Int) / 5 := by omega
                      have q8 : (k : Int) / 5 < (q.length : Int) := by omega
                      have q9 : ((k : Int) / 5).toNat = k / 5 := by omega
                      have q10 : IntKind.i64.wrap ((k : Int) / 5) = (k : Int) / 5 := IntWalk.i64_in _ (by omega)
                      obtain ⟨bA, oA, u, hA12, hu, hbA, SU⟩ := r12.six (k / 5) h6
                      subst hA12
                      have sU := SU.1
                      have hAp := hpA12.out bA (by simp [own])
                      have hpA : Hid (bA ∉ [p]) := Lib.hid (by simp; exact hAp.1)
                      clear hu SU
                      go_upto_region 37 with fail
                      obtain ⟨wk, hwk⟩ : ∃ wk : World, wk = w8 := ⟨_, rfl⟩
                      go_region_held3 (fun V => V.cell? ⟨bA, oA + k / 5 * 6, none⟩ = some (.int .i64 u.m))
                        (first | ((with_reducible refine cell_keep sU ?_ hbA <;> (repeat' (first | with_reducible exact Below.refl _ _ | with_reducible refine Below.drew ?_ | fail))); done) | ((with_reducible exact sU9); done) | fail)
                        (first
                          | (go_at_call 56; (with_reducible refine (drop_any _ _ (SpAt.drew hX) (by omega)).mono ?_); rintro e w9 ⟨n1, A9, c9, rfl, hn1, hX9, b9, hf9⟩; (have sU9 := cell_but (b := bA) sU (But.trans (But.ofBelow (bs := [p]) (Below.refl w8.heap.size w8).drew) b9 (by simp)) hpA.out hbA))
                          | fail)
                      all_goals
                        have b9' : But [p] w8 w9 := But.trans (But.ofBelow (bs := [p]) (Below.refl w8.heap.size w8).drew) b9 (by simp)
                        have hY9 := hY.but b9' (fun b hb hm => by
                          have h1 := List.mem_singleton.1 hm
                          rcases List.mem_cons.1 hb with h2 | h2
                          · omega
                          · exact (hdis.out.2 b h2).2.1 h1)
                        have r9 := r12.but b9' (fun b off e => by injection e with e; injection e with e _; subst e; exact hpA.out)
                        have B9 := b9'.below B B.size (fun b hb => by rw [List.mem_singleton.1 hb]; exact hpw)
                        have hx9l := hX.lt
                        have hy9l := hY.lt
                        have dis9 : Hid ((∀ b ∈ own A9, w.heap.size ≤ b ∧ b ≠ p2 ∧ b ∉ own A2' ∧ b ∉ own (some ⟨bA, oA, none⟩)) ∧ (∀ b ∈ own A2', w.heap.size ≤ b ∧ b ≠ p ∧ b ∉ own (some ⟨bA, oA, none⟩))) := Lib.hid ⟨fun b hb => by
                          have h1 : w8.heap.size ≤ b := hf9 b hb
                          have h2 := B.size
                          have h3 := hy9l p2 (by simp)
                          refine ⟨by omega, by omega, fun hm => ?_, fun hm => ?_⟩
                          · have := hy9l b (List.mem_cons_of_mem _ hm); omega
                          · have := List.mem_singleton.1 hm; simp only at this; omega, hdis.out.2⟩
                        have hbA9 := Nat.lt_of_lt_of_le hbA b9'.size
                        clear b9 hf9 hX hY r12 B hdis sU hbA hx9l hy9l
                        go_upto_region 38 with fail
                        go_region_held3 (fun V => V.cell? ⟨bA, oA + k / 5 * 6, none⟩ = some (.int .i64 u.m))
                          (first | ((with_reducible refine cell_keep sU9 ?_ hbA9 <;> (repeat' (first | with_reducible exact Below.refl _ _ | with_reducible refine Below.drew ?_ | fail))); done) | ((with_reducible exact sU10); done) | fail)
                          (first
                            | (go_at_call 56; (with_reducible refine (drop_any _ _ (SpAt.drew hY9) (by omega)).mono ?_); rintro e w10 ⟨n2, A10', c10', rfl, hn2, hY10, b10, hf10⟩; (have sU10 := cell_but (b := bA) sU9 (But.trans (But.ofBelow (bs := [p2]) (Below.refl w9.heap.size w9).drew) b10 (by simp)) (by simp; exact hAp.2) hbA9); (have hnn : n2 = n1 := drop_same hn1.out hn2.out); subst hnn)
                            | fail)
                        all_goals
                          have b10' : But [p2] w9 w10 := But.trans (But.ofBelow (bs := [p2]) (Below.refl w9.heap.size w9).drew) b10 (by simp)
                          have hX10 := hX9.but b10' (fun b hb hm => by
                            have h1 := List.mem_singleton.1 hm
                            rcases List.mem_cons.1 hb with h2 | h2
                            · omega
                            · exact (dis9.out.1 b h2).2.1 h1)
                          have r10 := r9.but b10' (fun b off e hm => by injection e with e; injection e with e _; subst e; exact hAp.2 (List.mem_singleton.1 hm))
                          have B10 := b10'.below B9 B9.size (fun b hb => by rw [List.mem_singleton.1 hb]; omega)
                          have hx10l := hX9.lt
                          have dis10 : Hid ((∀ b ∈ own A9, w.heap.size ≤ b ∧ b ≠ p2 ∧ b ∉ own A10' ∧ b ∉ own (some ⟨bA, oA, none⟩)) ∧ (∀ b ∈ own A10', w.heap.size ≤ b ∧ b ≠ p ∧ b ∉ own (some ⟨bA, oA, none⟩))) := Lib.hid ⟨fun b hb => by
                            refine ⟨(dis9.out.1 b hb).1, (dis9.out.1 b hb).2.1, fun hm => ?_, (dis9.out.1 b hb).2.2.2⟩
                            have h1 : w9.heap.size ≤ b := hf10 b hm
                            have := hx10l b (List.mem_cons_of_mem _ hb); omega, fun b hb => by
                            have h1 : w9.heap.size ≤ b := hf10 b hb
                            have h2 := B9.size
                            have h3 := hx10l p (by simp)
                            refine ⟨by omega, by omega, fun hm => ?_⟩
                            have := List.mem_singleton.1 hm; simp only at this; omega⟩
                          have hQd : Hid (QInv (q1.drop n2) last) := Lib.hid (HQ1.out.drop n2)
                          have hld : (q1.drop n2).length ≤ 61 := by simp; omega
                          clear b10 hf10 hX9 hY9 r9 B9 dis9 sU9 sU10 hx10l hn1 hn2 hwk ht1 ht2 hbA9 q7 q8 q9 q10
                          go_wp2_with fail
                          go_roundw
                          case rel => exact ⟨k + 1, A9, c9, A10', c10', q1.drop n2, by omega, by omega, by go_num, hld, hQd, hX10, hY10, r10, dis10, B10⟩
                          case measure => simp [intOf]; omega
                    · have q6 : decide ((k : Int) / 5 < (q.length : Int)) = false := by simp; omega
                      clear ht1 ht2
                      go_wp2_with fail
                      go_roundw
                      case rel => exact ⟨k + 1, A, c, A2', c2', q1, by omega, by omega, by go_num, hQ1b, HQ1, hX, hY, r12, hdis, B⟩
                      case measure => simp [intOf]; omega
                  · have q5 : (((k : Int) % 5) == 4) = false := by simp; omega
                    clear ht1 ht2
                    go_wp2_with fail
                    go_roundw
                    case rel => exact ⟨k + 1, A, c, A2', c2', q1, by omega, by omega, by go_num, hQ1b, HQ1, hX, hY, r12, hdis, B⟩
                    case measure => simp [intOf]; omega
                · go_wp2_with fail
                  go_region_held3 (fun V => True)
                    (first | trivial | fail)
                    (first
                      | (go_at_call 47; (with_reducible refine (queue_any _ (hX.on (by (repeat' (first | with_reducible exact Below.refl _ _ | with_reducible exact hBa | with_reducible refine Below.drew ?_ | fail)))) (by omega)).mono ?_); rintro e wa ⟨Aa, ca, rfl, hOa, ba⟩; (have hBa : Below wr.heap.size wr wa := (Below.refl _ _).drew.trans ba); (have ra := hOa.rd2))
                      | (go_at_call 47; (with_reducible refine (queue_any _ (hY.on (by (repeat' (first | with_reducible exact Below.refl _ _ | with_reducible exact hBa | with_reducible refine Below.drew ?_ | fail)))) (by omega)).mono ?_); rintro e wb ⟨Ab, cb, rfl, hOb, bb⟩; (have hBb : Below wr.heap.size wr wb := hBa.trans (bb.mono hBa.size)); (have rb := hOb.rd2); (have ra2 := ra.below bb))
                      | (go_at_call 49; (with_reducible refine (queues_yes _ _ _ _ _ _ ra2 rb (by omega)).mono ?_); rintro e wc ⟨rfl, bc⟩; (have hBc : Below wr.heap.size wr wc := hBb.trans (bc.mono hBb.size)))
                      | fail)
                  all_goals
                    go_wp2
                    go_ret
                    exact ⟨rfl, B.trans (hBc.mono B.size)⟩
              · go_wp2_with fail
                go_region_held3 (fun V => True)
                  (first | trivial | fail)
                  (first
                    | (go_at_call 47; (with_reducible refine (queue_any _ (hX.on (by (repeat' (first | with_reducible exact Below.refl _ _ | with_reducible exact hBa | with_reducible refine Below.drew ?_ | fail)))) (by omega)).mono ?_); rintro e wa ⟨Aa, ca, rfl, hOa, ba⟩; (have hBa : Below wr.heap.size wr wa := (Below.refl _ _).drew.trans ba); (have ra := hOa.rd2))
                    | (go_at_call 47; (with_reducible refine (queue_any _ (hY.on (by (repeat' (first | with_reducible exact Below.refl _ _ | with_reducible exact hBa | with_reducible refine Below.drew ?_ | fail)))) (by omega)).mono ?_); rintro e wb ⟨Ab, cb, rfl, hOb, bb⟩; (have hBb : Below wr.heap.size wr wb := hBa.trans (bb.mono hBa.size)); (have rb := hOb.rd2); (have ra2 := ra.below bb))
                    | (go_at_call 49; (with_reducible refine (queues_yes _ _ _ _ _ _ ra2 rb (by omega)).mono ?_); rintro e wc ⟨rfl, bc⟩; (have hBc : Below wr.heap.size wr wc := hBb.trans (bc.mono hBb.size)))
                    | fail)
                all_goals
                  go_wp2
                  go_ret
                  exact ⟨rfl, B.trans (hBc.mono B.size)⟩
    · go_wp2_with fail
      with_reducible refine (queue_any _ hX (by omega)).mono ?_
      rintro e w5 ⟨A12, c12, rfl, hO5, b5⟩
      have r12 := hO5.rd2
      obtain ⟨bw, hbw⟩ : ∃ bw, bw = wr.heap.size := ⟨_, rfl⟩
      obtain ⟨bq, hbq⟩ : ∃ bq, bq = w5.heap.size := ⟨_, rfl⟩
      have hd12 : Hid (∀ b ∈ own A12, bw ≤ b ∧ b < bq) := Lib.hid (fun b hb => by have := hO5.lt b (own_mem hb); omega)
      have hxl : Hid (∀ b ∈ p :: own A, b < bw) := Lib.hid (fun b hb => by have := hX.lt b hb; omega)
      have hp2l : p2 < bw := by have := hY.blk.lt; omega
      have hbwq : bw ≤ bq := by have := b5.size; omega
      have hpl2 : p < bw := hxl.out p (by simp)
      have hwbw : w.heap.size ≤ bw := by have := B.size; omega
      replace hX := hX.on b5
      replace hY := hY.on b5
      replace B := B.trans (b5.mono B.size)
      have hq61 : q.length ≤ 61 := by omega
      have hbz : bq ≤ w5.heap.size := by omega
      clear hO5 b5 hbw hbq
      go_wp2_with fail
      go_loopw [13] (fun i wz => ∃ (j : Nat) (A2 : Option Addr) (c2 : Nat), j ≤ q.length ∧ i = .int .i64 j ∧ SpAt wz p A c q last f ∧ SpAt wz p2 A2 c2 (q.take j) (lastOf (q.take j)) f ∧ Rd mkF wz A12 q ∧ Hid (∀ b ∈ own A2, bq ≤ b) ∧ bq ≤ wz.heap.size ∧ Below w.heap.size w wz) (fun i wz => q.length - (intOf i).toNat)
      case atStart => exact ⟨0, none, 0, Nat.zero_le _, rfl, hX, by simpa [lastOf] using hY, r12, Lib.hid (by simp [own]), hbz, B⟩
      case round =>
        clear hX hY r12 B hbz
        obtain ⟨j, A2y, c2y, hj, rfl, hX, hY, r12, h2f, hbz, B⟩ := hrel
        by_cases hjq : j < q.length
        · obtain ⟨ba, oa, u, hA12, hu, hba, SU⟩ := r12.six j hjq
          subst hA12
          have hur := hQ.out.rng u (List.mem_of_getElem? hu.out)
          have hcu : 0 ≤ u.o.c ∧ u.o.c ≤ 255 := hur.2.2
          have hlo := lastOf_lt hQ.out hu.out
          have hum : u.m ≤ 4096 := by have := hQ.out.top; omega
          have hbaq := hd12.out ba (by simp [own])
          obtain ⟨s0, s1, s2, s3, s4, s5⟩ := SU
          have SU' : SixAt _ ba (oa + j * 6) u := ⟨s0, s1, s2, s3, s4, s5⟩
          have hts : q.take (j + 1) = q.take j ++ [⟨u.m, u.o⟩] := by rw [List.take_add_one, hu.out]; rfl
          have HTS := Lib.hid hts
          have HUR := Lib.hid hur
          clear hts hur hu
          go_wp2_with fail
          with_reducible refine (valid_any u.o _ hcu).mono ?_
          rintro e w6 ⟨rfl, b6⟩
          have SU6 := six_keep SU' b6 hba
          have hba6 := Nat.lt_of_lt_of_le hba b6.size
          replace hX := hX.on b6
          replace hY := hY.on b6
          replace r12 := r12.below b6
          replace B := B.trans (b6.mono B.size)
          replace hbz := Nat.le_trans hbz b6.size
          have hnot : Hid (ba ∉ p2 :: own A2y) := Lib.hid (fun hm => by rcases List.mem_cons.1 hm with h1 | h1; omega; have := h2f.out ba h1; omega)
          have hBa : Below w6.heap.size w6 w6.drew := (Below.refl _ _).drew
          clear s0 s1 s2 s3 s4 s5 SU' hba b6
          by_cases hv : validL u.o = 0
          · have HV := Lib.hid hv
            rw [HV.out]
            clear hv
            go_wp2_with fail
            go_region_held3 (fun V => (V.cell? ⟨ba, oa + j * 6, none⟩ = some (.int .i64 u.m) ∧ V.cell? ⟨ba, oa + j * 6 + 1, none⟩ = some (.int .i64 u.o.k) ∧ V.cell? ⟨ba, oa + j * 6 + 2, none⟩ = some (.int .i64 u.o.p) ∧ V.cell? ⟨ba, oa + j * 6 + 3, none⟩ = some (.int .u8 u.o.c) ∧ V.cell? ⟨ba, oa + j * 6 + 4, none⟩ = some (.int .i64 u.o.l) ∧ V.cell? ⟨ba, oa + j * 6 + 5, none⟩ = some (.int .i64 u.o.s)))
              (first | ((with_reducible refine six_keep SU6 ?_ hba6 <;> (repeat' (first | with_reducible exact Below.refl _ _ | with_reducible exact hBa | with_reducible refine Below.drew ?_ | fail))); done) | ((with_reducible exact SU7); done) | fail)
              (first
                | (go_at_call 55; (with_reducible refine (keep_ok u.m u.o _ (SpAt.drew hY) hcu HV.out hlo hum (by simp; omega)).mono ?_); rintro e w7 ⟨rfl, A3, c3, hY7, b7, hf7⟩; (have SU7 := six_but (six_keep SU6 hBa hba6) b7 hnot.out hba6))
                | fail)
            all_goals
              have hX7 := (SpAt.drew hX).but b7 (fun b hb hm => by
                have h1 := hxl.out b hb
                rcases List.mem_cons.1 hm with h2 | h2
                · rcases List.mem_cons.1 hb with h3 | h3
                  · omega
                  · exact (hfA.out b h3).2 h2
                · have := h2f.out b h2; omega)
              have r7 := (r12.drew).but b7 (fun b off e hm => by injection e with e; injection e with e _; subst e; exact hnot.out hm)
              have B7 := b7.below B.drew B.size (fun b hb => by rcases List.mem_cons.1 hb with h1 | h1; rw [h1]; omega; have := h2f.out b h1; omega)
              have hbz7 : bq ≤ w7.heap.size := Nat.le_trans hbz b7.size
              have h2f7 : Hid (∀ b ∈ own A3, bq ≤ b) := Lib.hid (fun b hb => by rcases hf7 b hb with h1 | h1; exact h2f.out b h1; exact Nat.le_trans hbz h1)
              clear SU6 SU7 hba6 hX hY r12 B b7 hf7 hnot hBa
              go_wp2_with fail
              go_roundw
              case rel => exact ⟨j + 1, A3, c3, by omega, by go_num, hX7, by rw [HTS.out, lastOf_snoc]; exact hY7, r7, h2f7, hbz7, B7⟩
              case measure => simp [intOf]; omega
          · have HV := Lib.hid hv
            have hv0 : (validL u.o != 0) = true := by simpa using hv
            have hvv : (validL u.o != validL u.o) = false := by simp
            clear hv
            go_wp2_with fail
            go_region_held3 (fun V => (V.cell? ⟨ba, oa + j * 6, none⟩ = some (.int .i64 u.m) ∧ V.cell? ⟨ba, oa + j * 6 + 1, none⟩ = some (.int .i64 u.o.k) ∧ V.cell? ⟨ba, oa + j * 6 + 2, none⟩ = some (.int .i64 u.o.p) ∧ V.cell? ⟨ba, oa + j * 6 + 3, none⟩ = some (.int .u8 u.o.c) ∧ V.cell? ⟨ba, oa + j * 6 + 4, none⟩ = some (.int .i64 u.o.l) ∧ V.cell? ⟨ba, oa + j * 6 + 5, none⟩ = some (.int .i64 u.o.s)))
              (first | ((with_reducible refine six_keep SU6 ?_ hba6 <;> (repeat' (first | with_reducible exact Below.refl _ _ | with_reducible exact hBa | with_reducible refine Below.drew ?_ | fail))); done) | ((with_reducible refine six_keep SU6 ?_ hba6 <;> with_reducible exact hB7); done) | fail)
              (first
                | (go_at_call 55; (with_reducible refine (keep_bad u.m u.o _ (SpAt.drew hY) hcu HV.out).mono ?_); rintro e w7 ⟨rfl, b7⟩; (have hB7 : Below w6.heap.size w6 w7 := hBa.trans b7))
                | fail)
            all_goals
              go_wp2
              go_ret
              exact ⟨rfl, B.trans (hB7.mono B.size)⟩
        · have hjl : j = q.length := by omega
          have hY2 : SpAt wr p2 A2y c2y q (lastOf q) f := by
            have h1 := hY
            rw [hjl, List.take_length] at h1
            exact h1
          have hdis : Hid ((∀ b ∈ own A, w.heap.size ≤ b ∧ b ≠ p2 ∧ b ∉ own A2y ∧ b ∉ own A12) ∧ (∀ b ∈ own A2y, w.heap.size ≤ b ∧ b ≠ p ∧ b ∉ own A12)) := Lib.hid ⟨fun b hb => by
            have h1 := hxl.out b (List.mem_cons_of_mem _ hb)
            refine ⟨(hfA.out b hb).1, (hfA.out b hb).2, fun hm => ?_, fun hm => ?_⟩
            · have := h2f.out b hm; omega
            · have := (hd12.out b hm).1; omega, fun b hb => by
            have h1 := h2f.out b hb
            refine ⟨by omega, by omega, fun hm => ?_⟩
            have := (hd12.out b hm).2; omega⟩
          obtain ⟨last2, hl2⟩ : ∃ last2, last2 = lastOf q := ⟨_, rfl⟩
          rw [← hl2] at hY2
          have hpA12 : Hid (∀ b ∈ own A12, b ≠ p ∧ b ≠ p2) := Lib.hid (fun b hb => by have := hd12.out b hb; omega)
          clear hY hjl hl2 h2f hd12 hxl hfA hbz
          replace hY := hY2
          clear hY2
          go_wp2_with fail
          go_loopw [16] (fun i wz => ∃ (k : Nat) (A : Option Addr) (c : Nat) (A2' : Option Addr) (c2' : Nat) (q' : List PMk), k ≤ far.length ∧ k ≤ 60 ∧ i = .int .i64 k ∧ q'.length ≤ 61 ∧ Hid (QInv q' last) ∧ SpAt wz p A c q' last f ∧ SpAt wz p2 A2' c2' q' last2 f ∧ Rd mkF wz A12 q ∧ Hid ((∀ b ∈ own A, w.heap.size ≤ b ∧ b ≠ p2 ∧ b ∉ own A2' ∧ b ∉ own A12) ∧ (∀ b ∈ own A2', w.heap.size ≤ b ∧ b ≠ p ∧ b ∉ own A12)) ∧ Below w.heap.size w wz) (fun i wz => 60 - (intOf i).toNat)
          case atStart => exact ⟨0, A, c, A2y, c2y, q, Nat.zero_le _, by omega, rfl, by omega, hQ, hX, hY, r12, hdis, B⟩
          case round =>
            clear hX hY r12 hdis B hQ
            obtain ⟨k, A, c, A2', c2', q', hk, hk60, rfl, hqk, hQ, hX, hY, r12, hdis, B⟩ := hrel
            by_cases hlt : k < far.length
            · by_cases hlt2 : k < 60
              · obtain ⟨b, off, x, hAf, hx, hbl, FA⟩ := hf.five k hlt
                subst hAf
                have hcx : 0 ≤ x.c ∧ x.c ≤ 255 := HOK2.out x (List.mem_of_getElem? hx.out)
                clear hx
                obtain ⟨e0, e1, e2, e3, e4⟩ := five_keep FA B hbl
                go_wp2_with fail
                with_reducible refine (cross_all x _ (hr.on B) hX hcx (by omega)).mono ?_
                rintro e w5 ⟨y1, q1, rfl, hX5, b5, hE1⟩
                have hY5 := hY.but b5 (fun b hb hm => by rcases List.mem_cons.1 hb with h1 | h1; exact (hdis.out.1 b hm).2.1 h1; exact (hdis.out.1 b hm).2.2.1 h1)
                have r5 := r12.but b5 (fun b off e hm => (hdis.out.1 b hm).2.2.2 (own_addr e))
                have B5 := b5.below B B.size (fun b hb => (hdis.out.1 b hb).1)
                have k17 := Blk.new w5 #[.int .i64 y1.k, .int .i64 y1.p, .int .u8 y1.c, .int .i64 y1.l, .int .i64 y1.s] 23
                have k17n : w5.heap.size ∉ own A2' := fun hm => by have := hY5.lt _ (List.mem_cons_of_mem _ hm); omega
                have ba := below_alloc (Below.refl w5.heap.size w5) (.cells #[.int .i64 y1.k, .int .i64 y1.p, .int .u8 y1.c, .int .i64 y1.l, .int .i64 y1.s] 23)
                replace hX := hX5.on ba
                replace hY := hY5.on ba
                replace r12 := r5.below ba
                replace B := B5.trans (ba.mono B5.size)
                clear e0 e1 e2 e3 e4 hX5 hY5 r5 B5 b5 ba
                obtain ⟨e0, e1, e2, e3, e4⟩ := five_keep FA B hbl
                go_wp2_with fail
                with_reducible refine (cross_all x _ (hr.on B) hY hcx (by omega)).mono ?_
                rintro e w6 ⟨y2, q2, rfl, hY6, b6, hE2⟩
                have hyy : y1 = y2 := hE1.out.1.trans hE2.out.1.symm
                have hqq : q1 = q2 := hE1.out.2.trans hE2.out.2.symm
                subst hyy hqq
                have hX6 := hX.but b6 (fun b hb hm => by rcases List.mem_cons.1 hb with h1 | h1; exact (hdis.out.2 b hm).2.1 h1; exact (hdis.out.1 b h1).2.2.1 hm)
                have r6 := r12.but b6 (fun b off e hm => (hdis.out.2 b hm).2.2 (own_addr e))
                have k176 := k17.but b6 k17n
                have B6 := b6.below B B.size (fun b hb => (hdis.out.2 b hb).1)
                have k19 := Blk.new w6 #[.int .i64 y1.k, .int .i64 y1.p, .int .u8 y1.c, .int .i64 y1.l, .int .i64 y1.s] 23
                have ba := below_alloc (Below.refl w6.heap.size w6) (.cells #[.int .i64 y1.k, .int .i64 y1.p, .int .u8 y1.c, .int .i64 y1.l, .int .i64 y1.s] 23)
                have hQ1 : Hid (QInv q1 last ∧ q1.length ≤ 61) := Lib.hid (by
                  rw [hE1.out.2]
                  split
                  · exact ⟨hQ.out.cross f x, by rw [crossQ_length]; omega⟩
                  · exact ⟨hQ.out, hqk⟩)
                replace hX := hX6.on ba
                replace hY := hY6.on ba
                replace r12 := r6.below ba
                replace B := B6.trans (ba.mono B6.size)
                have k17b := k176.on ba
                have hvv : (validL x != validL x) = false := by simp
                clear e0 e1 e2 e3 e4 hX6 hY6 r6 B6 b6 ba k17 k176 k17n hE1 hE2 hQ hqk
                obtain ⟨hQ1a, hQ1b⟩ := hQ1.out
                have HQ1 := Lib.hid hQ1a
                obtain ⟨y0, y1', y2', y3, y4⟩ := k17b.cells5
                obtain ⟨z0, z1', z2', z3, z4⟩ := k19.cells5
                clear hQ1 hQ1a
                go_wp2_with fail
                with_reducible refine (one_yes y1 _).mono ?_
                rintro e w7 ⟨rfl, b7⟩
                replace hX := hX.on b7
                replace hY := hY.on b7
                replace r12 := r12.below b7
                replace B := B.trans (b7.mono B.size)
                clear y0 y1' y2' y3 y4 z0 z1' z2' z3 z4 k17b k19 b7
                obtain ⟨e0, e1, e2, e3, e4⟩ := five_keep FA B hbl
                go_wp2_with fail
                with_reducible refine (valid_any _ _ hcx).mono ?_
                rintro e w8 ⟨rfl, b8⟩
                replace hX := hX.on b8
                replace hY := hY.on b8
                replace r12 := r12.below b8
                replace B := B.trans (b8.mono B.size)
                clear e0 e1 e2 e3 e4 b8
                have ht1 : ((k : Int).tmod 5) = ((k % 5 : Nat) : Int) := by rw [Int.tmod_eq_emod_of_nonneg (by omega)]; rfl
                have ht2 : ((k : Int).tdiv 5) = ((k / 5 : Nat) : Int) := by rw [Int.tdiv_eq_ediv_of_nonneg (by omega)]; rfl
                by_cases h5 : k % 5 = 4
                · have q5 : (((k : Int) % 5) == 4) = true := by simp; omega
                  by_cases h6 : k / 5 < q.length
                  · have q6 : decide ((k : Int) / 5 < (q.length : Int)) = true := by simp; omega
                    have q7 : (0 : Int) ≤ (k : Int) / 5 := by omega
                    have q8 : (k : Int) / 5 < (q.length : Int) := by omega
                    have q9 : ((k : Int) / 5).toNat = k / 5 := by omega
                    have q10 : IntKind.i64.wrap ((k : Int) / 5) = (k : Int) / 5 := IntWalk.i64_in _ (by omega)
                    obtain ⟨bA, oA, u, hA12, hu, hbA, SU⟩ := r12.six (k / 5) h6
                    subst hA12
                    have sU := SU.1
                    have hAp := hpA12.out bA (by simp [own])
                    have hpA : Hid (bA ∉ [p]) := Lib.hid (by simp; exact hAp.1)
                    clear hu SU
                    go_upto_region 37 with fail
                    obtain ⟨wk, hwk⟩ : ∃ wk : World, wk = w8 := ⟨_, rfl⟩
                    go_region_held3 (fun V => V.cell? ⟨bA, oA + k / 5 * 6, none⟩ = some (.int .i64 u.m))
                      (first | ((with_reducible refine cell_keep sU ?_ hbA <;> (repeat' (first | with_reducible exact Below.refl _ _ | with_reducible refine Below.drew ?_ | fail))); done) | ((with_reducible exact sU9); done) | fail)
                      (first
                        | (go_at_call 56; (with_reducible refine (drop_any _ _ (SpAt.drew hX) (by omega)).mono ?_); rintro e w9 ⟨n1, A9, c9, rfl, hn1, hX9, b9, hf9⟩; (have sU9 := cell_but (b := bA) sU (But.trans (But.ofBelow (bs := [p]) (Below.refl w8.heap.size w8).drew) b9 (by simp)) hpA.out hbA))
                        | fail)
                    all_goals
                      have b9' : But [p] w8 w9 := But.trans (But.ofBelow (bs := [p]) (Below.refl w8.heap.size w8).drew) b9 (by simp)
                      have hY9 := hY.but b9' (fun b hb hm => by
                        have h1 := List.mem_singleton.1 hm
                        rcases List.mem_cons.1 hb with h2 | h2
                        · omega
                        · exact (hdis.out.2 b h2).2.1 h1)
                      have r9 := r12.but b9' (fun b off e => by injection e with e; injection e with e _; subst e; exact hpA.out)
                      have B9 := b9'.below B B.size (fun b hb => by rw [List.mem_singleton.1 hb]; exact hpw)
                      have hx9l := hX.lt
                      have hy9l := hY.lt
                      have dis9 : Hid ((∀ b ∈ own A9, w.heap.size ≤ b ∧ b ≠ p2 ∧ b ∉ own A2' ∧ b ∉ own (some ⟨bA, oA, none⟩)) ∧ (∀ b ∈ own A2', w.heap.size ≤ b ∧ b ≠ p ∧ b ∉ own (some ⟨bA, oA, none⟩))) := Lib.hid ⟨fun b hb => by
                        have h1 : w8.heap.size ≤ b := hf9 b hb
                        have h2 := B.size
                        have h3 := hy9l p2 (by simp)
                        refine ⟨by omega, by omega, fun hm => ?_, fun hm => ?_⟩
                        · have := hy9l b (List.mem_cons_of_mem _ hm); omega
                        · have := List.mem_singleton.1 hm; simp only at this; omega, hdis.out.2⟩
                      have hbA9 := Nat.lt_of_lt_of_le hbA b9'.size
                      clear b9 hf9 hX hY r12 B hdis sU hbA hx9l hy9l
                      go_upto_region 38 with fail
                      go_region_held3 (fun V => V.cell? ⟨bA, oA + k / 5 * 6, none⟩ = some (.int .i64 u.m))
                        (first | ((with_reducible refine cell_keep sU9 ?_ hbA9 <;> (repeat' (first | with_reducible exact Below.refl _ _ | with_reducible refine Below.drew ?_ | fail))); done) | ((with_reducible exact sU10); done) | fail)
                        (first
                          | (go_at_call 56; (with_reducible refine (drop_any _ _ (SpAt.drew hY9) (by omega)).mono ?_); rintro e w10 ⟨n2, A10', c10', rfl, hn2, hY10, b10, hf10⟩; (have sU10 := cell_but (b := bA) sU9 (But.trans (But.ofBelow (bs := [p2]) (Below.refl w9.heap.size w9).drew) b10 (by simp)) (by simp; exact hAp.2) hbA9); (have hnn : n2 = n1 := drop_same hn1.out hn2.out); subst hnn)
                          | fail)
                      all_goals
                        have b10' : But [p2] w9 w10 := But.trans (But.ofBelow (bs := [p2]) (Below.refl w9.heap.size w9).drew) b10 (by simp)
                        have hX10 := hX9.but b10' (fun b hb hm => by
                          have h1 := List.mem_singleton.1 hm
                          rcases List.mem_cons.1 hb with h2 | h2
                          · omega
                          · exact (dis9.out.1 b h2).2.1 h1)
                        have r10 := r9.but b10' (fun b off e hm => by injection e with e; injection e with e _; subst e; exact hAp.2 (List.mem_singleton.1 hm))
                        have B10 := b10'.below B9 B9.size (fun b hb => by rw [List.mem_singleton.1 hb]; omega)
                        have hx10l := hX9.lt
                        have dis10 : Hid ((∀ b ∈ own A9, w.heap.size ≤ b ∧ b ≠ p2 ∧ b ∉ own A10' ∧ b ∉ own (some ⟨bA, oA, none⟩)) ∧ (∀ b ∈ own A10', w.heap.size ≤ b ∧ b ≠ p ∧ b ∉ own (some ⟨bA, oA, none⟩))) := Lib.hid ⟨fun b hb => by
                          refine ⟨(dis9.out.1 b hb).1, (dis9.out.1 b hb).2.1, fun hm => ?_, (dis9.out.1 b hb).2.2.2⟩
                          have h1 : w9.heap.size ≤ b := hf10 b hm
                          have := hx10l b (List.mem_cons_of_mem _ hb); omega, fun b hb => by
                          have h1 : w9.heap.size ≤ b := hf10 b hb
                          have h2 := B9.size
                          have h3 := hx10l p (by simp)
                          refine ⟨by omega, by omega, fun hm => ?_⟩
                          have := List.mem_singleton.1 hm; simp only at this; omega⟩
                        have hQd : Hid (QInv (q1.drop n2) last) := Lib.hid (HQ1.out.drop n2)
                        have hld : (q1.drop n2).length ≤ 61 := by simp; omega
                        clear b10 hf10 hX9 hY9 r9 B9 dis9 sU9 sU10 hx10l hn1 hn2 hwk ht1 ht2 hbA9 q7 q8 q9 q10
                        go_wp2_with fail
                        go_roundw
                        case rel => exact ⟨k + 1, A9, c9, A10', c10', q1.drop n2, by omega, by omega, by go_num, hld, hQd, hX10, hY10, r10, dis10, B10⟩
                        case measure => simp [intOf]; omega
                  · have q6 : decide ((k : Int) / 5 < (q.length : Int)) = false := by simp; omega
                    clear ht1 ht2
                    go_wp2_with fail
                    go_roundw
                    case rel => exact ⟨k + 1, A, c, A2', c2', q1, by omega, by omega, by go_num, hQ1b, HQ1, hX, hY, r12, hdis, B⟩
                    case measure => simp [intOf]; omega
                · have q5 : (((k : Int) % 5) == 4) = false := by simp; omega
                  clear ht1 ht2
                  go_wp2_with fail
                  go_roundw
                  case rel => exact ⟨k + 1, A, c, A2', c2', q1, by omega, by omega, by go_num, hQ1b, HQ1, hX, hY, r12, hdis, B⟩
                  case measure => simp [intOf]; omega
              · go_wp2_with fail
                go_region_held3 (fun V => True)
                  (first | trivial | fail)
                  (first
                    | (go_at_call 47; (with_reducible refine (queue_any _ (hX.on (by (repeat' (first | with_reducible exact Below.refl _ _ | with_reducible exact hBa | with_reducible refine Below.drew ?_ | fail)))) (by omega)).mono ?_); rintro e wa ⟨Aa, ca, rfl, hOa, ba⟩; (have hBa : Below wr.heap.size wr wa := (Below.refl _ _).drew.trans ba); (have ra := hOa.rd2))
                    | (go_at_call 47; (with_reducible refine (queue_any _ (hY.on (by (repeat' (first | with_reducible exact Below.refl _ _ | with_reducible exact hBa | with_reducible refine Below.drew ?_ | fail)))) (by omega)).mono ?_); rintro e wb ⟨Ab, cb, rfl, hOb, bb⟩; (have hBb : Below wr.heap.size wr wb := hBa.trans (bb.mono hBa.size)); (have rb := hOb.rd2); (have ra2 := ra.below bb))
                    | (go_at_call 49; (with_reducible refine (queues_yes _ _ _ _ _ _ ra2 rb (by omega)).mono ?_); rintro e wc ⟨rfl, bc⟩; (have hBc : Below wr.heap.size wr wc := hBb.trans (bc.mono hBb.size)))
                    | fail)
                all_goals
                  go_wp2
                  go_ret
                  exact ⟨rfl, B.trans (hBc.mono B.size)⟩
            · go_wp2_with fail
              go_region_held3 (fun V => True)
                (first | trivial | fail)
                (first
                  | (go_at_call 47; (with_reducible refine (queue_any _ (hX.on (by (repeat' (first | with_reducible exact Below.refl _ _ | with_reducible exact hBa | with_reducible refine Below.drew ?_ | fail)))) (by omega)).mono ?_); rintro e wa ⟨Aa, ca, rfl, hOa, ba⟩; (have hBa : Below wr.heap.size wr wa := (Below.refl _ _).drew.trans ba); (have ra := hOa.rd2))
                  | (go_at_call 47; (with_reducible refine (queue_any _ (hY.on (by (repeat' (first | with_reducible exact Below.refl _ _ | with_reducible exact hBa | with_reducible refine Below.drew ?_ | fail)))) (by omega)).mono ?_); rintro e wb ⟨Ab, cb, rfl, hOb, bb⟩; (have hBb : Below wr.heap.size wr wb := hBa.trans (bb.mono hBa.size)); (have rb := hOb.rd2); (have ra2 := ra.below bb))
                  | (go_at_call 49; (with_reducible refine (queues_yes _ _ _ _ _ _ ra2 rb (by omega)).mono ?_); rintro e wc ⟨rfl, bc⟩; (have hBc : Below wr.heap.size wr wc := hBb.trans (bc.mono hBb.size)))
                  | fail)
              all_goals
                go_wp2
                go_ret
                exact ⟨rfl, B.trans (hBc.mono B.size)⟩
end Go.Proofs.YtkicbnkacjnhoaaDoor
