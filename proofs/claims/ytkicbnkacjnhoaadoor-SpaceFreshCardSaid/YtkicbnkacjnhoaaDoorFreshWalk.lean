/- The walk of jotterlaw10.SpaceFresh: it answers true. -/
import Derived.Test.YtkicbnkacjnhoaaDoorTwice
import Derived.Test.YtkicbnkacjnhoaaDoorSpLooksWalk
namespace Go.Proofs.YtkicbnkacjnhoaaDoor
open Go.RowKit
set_option linter.unusedVariables false
set_option linter.unusedSimpArgs false

theorem dropQ_mks : ∀ (q : List PMk) (s k : Nat), (∀ (i : Nat) (x : PMk), q[i]? = some x → x.m = (s : Int) + i + 1) → s ≤ k → dropQ k q = q.drop (k - s)
  | [], s, k, h, hk => by simp [dropQ]
  | x :: r, s, k, h, hk => by
    have h0 := h 0 x rfl
    by_cases hks : s = k
    · subst hks
      rw [dropQ, if_neg (by rw [h0]; simp; omega), Nat.sub_self, List.drop_zero]
    · have ih := dropQ_mks r (s + 1) k (fun i y hy => by have := h (i + 1) y hy; rw [this]; push_cast; omega) (by omega)
      rw [dropQ, if_pos (by rw [h0]; simp; omega), ih, show k - s = (k - (s + 1)) + 1 by omega, List.drop_succ_cons]
theorem dropQ_marks {q : List PMk} {k : Nat} (h : ∀ (i : Nat) (x : PMk), q[i]? = some x → x.m = (i : Int) + 1) : dropQ k q = q.drop k := by
  have := dropQ_mks q 0 k (fun i x hx => by rw [h i x hx]; simp) (Nat.zero_le _)
  simpa using this
theorem cross_mks {q : List PMk} {f : Bool} {o : POp} (h : ∀ (i : Nat) (x : PMk), q[i]? = some x → x.m = (i : Int) + 1) : ∀ (i : Nat) (x : PMk), (crossQ f q o)[i]? = some x → x.m = (i : Int) + 1 := fun i x hx => by
  have hm := marks_with q (pastL o (opsQ q) f).2 (past_len f q o)
  have h1 : ((crossQ f q o).map (·.m))[i]? = some x.m := by rw [List.getElem?_map, hx]; rfl
  unfold crossQ at h1
  rw [hm, List.getElem?_map] at h1
  cases h2 : q[i]? with
  | none => rw [h2] at h1; cases h1
  | some y =>
    rw [h2] at h1
    have h3 : y.m = x.m := Option.some.inj h1
    rw [← h3]
    exact h i y h2
/-- A space. -/
def Item.sp (p : Nat) (A : Option Addr) (c : Nat) (q : List PMk) (last : Int) (first : Bool) : Item := ⟨p :: own A, fun W => SpAt W p A c q last first, fun h hb hn => h.but hb hn⟩
/-- A list, and another that may share its memory: both are read alone. -/
def Item.two (A : Option Addr) (xs : List PMk) (G : Option Addr) (ys : List PMk) : Item :=
  ⟨own A ++ own G, fun W => Rd mkF W A xs ∧ Rd mkF W G ys, fun h hb hn => ⟨h.1.but hb fun b off e => hn b (by rw [e]; simp [own]), h.2.but hb fun b off e => hn b (by rw [e]; simp [own])⟩⟩
section
variable {w0 W W' : World} {its : List Item} {A : Option Addr} {c : Nat} {p : Nat} {q : List PMk} {last : Int} {first : Bool}
theorem HoldI.addSp (h : HoldI w0 W its) (hb : Below W.heap.size W W') (ho : SpAt W' p A c q last first) (hp : W.heap.size ≤ p) (hA : ∀ b ∈ own A, W.heap.size ≤ b) : HoldI w0 W' (its ++ [Item.sp p A c q last first]) :=
  h.add hb _ ho fun b hb2 => ⟨by
    rcases List.mem_cons.1 hb2 with rfl | h1
    · exact hp
    · exact hA b h1, ho.lt b hb2⟩
theorem HoldI.sp (h : HoldI w0 W its) (i : Nat) (hi : its[i]? = some (Item.sp p A c q last first)) : SpAt W p A c q last first := h.get i hi
/-- A space changed. -/
theorem HoldI.toSp (h : HoldI w0 W its) (i : Nat) (hi : its[i]? = some (Item.sp p A c q last first)) {bs : List Nat} (hb : But bs W W') (hbs : ∀ b ∈ bs, b ∈ p :: own A) {A' : Option Addr} {c' : Nat} {q' : List PMk} {last' : Int} (ho : SpAt W' p A' c' q' last' first) (hA : ∀ b ∈ own A', b ∈ own A ∨ W.heap.size ≤ b) : HoldI w0 W' (its.set i (Item.sp p A' c' q' last' first)) :=
  h.change i hi hb hbs _ ho fun b hb2 => by
    rcases List.mem_cons.1 hb2 with rfl | h1
    · exact .inl (by simp [Item.sp])
    · rcases hA b h1 with h2 | h2
      · exact .inl (by simp [Item.sp, h2])
      · exact .inr ⟨h2, ho.lt b hb2⟩
theorem HoldI.queue (h : HoldI w0 W its) (i : Nat) (hi : its[i]? = some (Item.sp p A c q last first)) {n : Nat} (hn : n = q.length) (hz : n ≤ 100000) :
    Calls Tryd.prog 47 #[.pointer (some ⟨p, 0, none⟩)] W fun e W' => ∃ (A' : Option Addr) (c' : Nat), e = .returned (.slice A' n c') ∧ HoldI w0 W' (its ++ [Item.ls A' n c' q]) := by
  refine (queue_m (h.sp i hi) hn hz).mono ?_
  rintro e w' ⟨A', c', rfl, o, hb⟩
  exact ⟨A', c', rfl, h.addLs hb hn o⟩
theorem HoldI.keep (h : HoldI w0 W its) (i : Nat) (hi : its[i]? = some (Item.sp p A c q last first)) (mark k o1 o2 o3 o4 : Int) (hc : 0 ≤ o2 ∧ o2 ≤ 255) (hv : validL ⟨k, o1, o2, o3, o4⟩ = 0) (hm : last < mark) (hm2 : mark ≤ 4096) (hl : q.length ≤ 100000) :
    Calls Tryd.prog 55 #[.pointer (some ⟨p, 0, none⟩), .int .i64 mark, .agg #[.int .i64 k, .int .i64 o1, .int .u8 o2, .int .i64 o3, .int .i64 o4]] W fun e W' =>
      e = .returned (.int .i64 0) ∧ ∃ A' c', HoldI w0 W' (its.set i (Item.sp p A' c' (q ++ [⟨mark, ⟨k, o1, o2, o3, o4⟩⟩]) mark first)) := by
  refine (keep_ok mark ⟨k, o1, o2, o3, o4⟩ W (h.sp i hi) hc hv hm hm2 hl).mono ?_
  rintro e w' ⟨rfl, A', c', hS, hb, hA⟩
  exact ⟨rfl, A', c', h.toSp i hi hb (fun b hb => hb) hS hA⟩
theorem HoldI.drop (h : HoldI w0 W its) (i : Nat) (hi : its[i]? = some (Item.sp p A c q last first)) (k : Nat) (ki : Int) (hk : ki = (k : Int)) (hl : q.length ≤ 100000) (hm : Hid (∀ (i : Nat) (x : PMk), q[i]? = some x → x.m = (i : Int) + 1)) :
    Calls Tryd.prog 56 #[.pointer (some ⟨p, 0, none⟩), .int .i64 ki] W fun e W' => ∃ (n : Int) (A' : Option Addr) (c' : Nat), e = .returned (.int .i64 n) ∧ HoldI w0 W' (its.set i (Item.sp p A' c' (q.drop k) last first)) := by
  subst hk
  refine (drop_any k W (h.sp i hi) hl).mono ?_
  rintro e w' ⟨n, A', c', rfl, hn, hS, hb, hA⟩
  have e1 : q.drop n = q.drop k := by rw [← hn.out.2, dropQ_marks hm.out]
  rw [e1] at hS
  exact ⟨n, A', c', rfl, h.toSp i hi hb (fun b hb => by obtain rfl := List.mem_singleton.1 hb; simp) hS fun b hb => .inr (hA b hb)⟩
theorem HoldI.cross (h : HoldI w0 W its) (i : Nat) (hi : its[i]? = some (Item.sp p A c q last first)) (o : POp) (hc : 0 ≤ o.c ∧ o.c ≤ 255) (hl : q.length ≤ 4096) (hm : Hid (∀ (i : Nat) (x : PMk), q[i]? = some x → x.m = (i : Int) + 1)) :
    Calls Tryd.prog 50 #[.pointer (some ⟨p, 0, none⟩), .agg #[.int .i64 o.k, .int .i64 o.p, .int .u8 o.c, .int .i64 o.l, .int .i64 o.s]] W fun e W' =>
      ∃ (y : POp) (r : Int) (q' : List PMk), e = .returned (.tuple #[.agg #[.int .i64 y.k, .int .i64 y.p, .int .u8 y.c, .int .i64 y.l, .int .i64 y.s], .int .i64 r]) ∧ Hid (q'.length = q.length) ∧ Hid (∀ (i : Nat) (x : PMk), q'[i]? = some x → x.m = (i : Int) + 1) ∧ HoldI w0 W' (its.set i (Item.sp p A c q' last first)) := by
  refine (cross_all o W h.rulesW (h.sp i hi) hc hl).mono ?_
  rintro e w' ⟨y, q', rfl, hS, hb, hq⟩
  have h2 := hq.out.2
  refine ⟨y, _, q', rfl, Lib.hid ?_, Lib.hid ?_, h.toSp i hi hb (fun b hb => by simp [hb]) hS fun b hb => .inl hb⟩
  · rw [h2]; split
    · exact crossQ_length _ _ _
    · rfl
  · rw [h2]; split
    · exact cross_mks hm.out
    · exact hm.out
end

theorem HoldI.lsSome {w0 W : World} {its : List Item} {A : Option Addr} {n c : Nat} {xs : List PMk} (h : HoldI w0 W its) (i : Nat) (hi : its[i]? = some (Item.ls A n c xs)) (h0 : 0 < n) : ∃ g, A = some ⟨g, 0, none⟩ ∧ n ≤ c ∧ OwnC mkF 87 W g c xs := by
  obtain ⟨hn, ho⟩ := h.ls i hi
  rcases ho.c with ⟨e, h1⟩ | ⟨g, cap, e, _, hc⟩
  · rw [h1] at hn
    simp at hn
    omega
  · injection e with e1 e2 e3
    subst e1 e3
    exact ⟨g, rfl, by have := hc.le; omega, hc⟩
/-- One element more. -/
theorem HoldI.app1 {w0 W W' : World} {its : List Item} {A : Option Addr} {n c : Nat} {xs : List PMk} {x : PMk} {v : Value} (h : HoldI w0 W its) (i : Nat) (hi : its[i]? = some (Item.ls A n c xs)) (ho : OwnV mkF 87 0 W' v (xs ++ [x])) (hg : W.grownBy W' (Value.slice A n c).ownBlock) (hv : v.ownBlock = (Value.slice A n c).ownBlock ∨ ∃ k, v.ownBlock = some k ∧ W.heap.size ≤ k) :
    ∃ (A' : Option Addr) (c' : Nat), v = .slice A' (n + 1) c' ∧ HoldI w0 W' (its.set i (Item.ls A' (n + 1) c' (xs ++ [x]))) := by
  have hn := (h.ls i hi).1
  obtain ⟨A', c', rfl, ho'⟩ := ho.rdN (n := n + 1) (by rw [hn]; simp)
  refine ⟨A', c', rfl, h.change i hi (But.ofGrown (bs := own A) hg fun k e => .inl (by rw [own_block e]; simp)) (fun b hb => hb) _ ⟨by rw [hn]; simp, ho'⟩ fun b hb => ?_⟩
  have h1 := own_mem (n := n + 1) (c := c') hb
  rcases hv with h2 | ⟨k, h2, h3⟩
  · rw [h1] at h2
    exact .inl (by show b ∈ own A; rw [own_block h2.symm]; simp)
  · rw [h1] at h2
    obtain rfl := Option.some.inj h2
    exact .inr ⟨h3, (ho'.lt b h1).2⟩
def mixM (x : PMk) (k : Nat) (xs : List PMk) : List PMk := List.replicate k x ++ xs.drop k
theorem mixM_length (x : PMk) (k : Nat) (xs : List PMk) (hk : k ≤ xs.length) : (mixM x k xs).length = xs.length := by simp [mixM]; omega
theorem mixM_set (x : PMk) (k : Nat) (xs : List PMk) (hk : k < xs.length) : (mixM x k xs).set k x = mixM x (k + 1) xs := by
  unfold mixM
  rw [List.set_append_right _ _ (by simp), List.length_replicate, Nat.sub_self, List.drop_eq_getElem_cons hk, List.set_cons_zero, List.replicate_succ', List.append_assoc]
  rfl
theorem HoldI.setM {w0 W W' : World} {its : List Item} {g n c : Nat} {xs ys : List PMk} (h : HoldI w0 W its) (i : Nat) (hi : its[i]? = some (Item.ls (some ⟨g, 0, none⟩) n c xs)) (ho : OwnC mkF 87 W' g c ys) (hn : n = ys.length) (hg : W.grownBy W' (some g)) : HoldI w0 W' (its.set i (Item.ls (some ⟨g, 0, none⟩) n c ys)) := by
  subst hn
  exact h.change i hi (But.ofGrown (bs := [g]) hg fun k e => .inl (by obtain rfl := Option.some.inj e; simp)) (fun b hb => hb) _ ⟨rfl, ho.v (Nat.zero_le g)⟩ fun b hb => .inl hb
theorem HoldI.lsO {w0 W : World} {its : List Item} {A : Option Addr} {n c : Nat} {xs : List PMk} (h : HoldI w0 W its) (i : Nat) (hi : its[i]? = some (Item.ls A n c xs)) : OwnO mkF W A c xs := by
  obtain ⟨hn, ho⟩ := h.ls i hi
  subst hn
  obtain ⟨A', cap, e, hO, _⟩ := OwnO.ofRow (F := mkF) (n := xs.length) ho rfl
  injection e with e1 e2 e3
  rw [e1, e3]
  exact hO
/-- A list was grown: it and what came of it are read alone from here on. -/
theorem HoldI.two {w0 W W' : World} {its : List Item} {A A' : Option Addr} {n c c' : Nat} {xs ys : List PMk} (h : HoldI w0 W its) (i : Nat) (hi : its[i]? = some (Item.ls A n c xs)) (ho : OwnO mkF W' A' c' ys) (hr : Rd mkF W' A xs) (hb : But (own A) W W') (hf : A' = A ∨ ∀ b ∈ own A', W.heap.size ≤ b) : HoldI w0 W' (its.set i (Item.two A xs A' ys)) := by
  refine h.change i hi hb (fun b hb => hb) _ ⟨hr, ho.rd⟩ fun b hb2 => ?_
  rcases List.mem_append.1 hb2 with h1 | h1
  · exact .inl h1
  · rcases hf with h2 | h2
    · exact .inl (by rw [h2] at h1; exact h1)
    · exact .inr ⟨h2 b h1, ho.lt b h1⟩
theorem mix_at {x : PMk} {k j : Nat} {xs : List PMk} (hj : j < k) : (mixM x k xs)[j]? = some x := by
  unfold mixM
  rw [List.getElem?_append_left (by simpa using hj), List.getElem?_replicate, if_pos hj]
theorem Rd.six0 {W : World} {g : Nat} {xs : List PMk} (h : Rd mkF W (some ⟨g, 0, none⟩) xs) {k : Nat} {x : PMk} (hx : xs[k]? = some x) : SixAt W g (k * 6) x := by
  obtain ⟨b, off, e, hc⟩ := h.six2 hx
  obtain ⟨rfl, rfl⟩ : g = b ∧ 0 = off := by simpa using e
  rw [Nat.zero_add] at hc
  exact hc
theorem filled_q (f : Bool) (A : Option Addr) (c : Nat) (l : List POp) (w : World) (Q : List PMk) (n : Nat) (hQ : Hid (fillQ 1 0 (l.take 60) = Q)) (hn : n = Q.length) (hl : Rd opF w A l) (hok : ∀ o ∈ l, 0 ≤ o.c ∧ o.c ≤ 255) (hll : l.length ≤ 9223372036854775807) :
    Calls Tryd.prog 46 #[.bool f, .slice A l.length c, .int .i64 1] w fun e w' =>
      ∃ (p : Nat) (A' : Option Addr) (c' : Nat), e = .returned (.tuple #[.pointer (some ⟨p, 0, none⟩), .int .i64 n, .bool true]) ∧ SpAt w' p A' c' Q n f ∧ w.heap.size ≤ p ∧ (∀ b ∈ own A', w.heap.size ≤ b) ∧ Below w.heap.size w w' := by
  subst hn
  refine (filled_s f A c 1 1 rfl l w hl hok hll (by omega) (by omega)).mono ?_
  rintro e w' ⟨p, A', c', rfl, hS, h1, h2, h3⟩
  rw [hQ.out, Int.mul_one] at hS
  exact ⟨p, A', c', by rw [hQ.out], hS, h1, h2, h3⟩
set_option maxHeartbeats 20000000 in
set_option maxRecDepth 100000 in
theorem fresh_any (A0 : Option Addr) (c0 : Nat) (la : List POp) (o : POp) (w : World) (hr : RulesAt w) (hl : Rd opF w A0 la) (hok : ∀ z ∈ la, 0 ≤ z.c ∧ z.c ≤ 255) (hoc : 0 ≤ o.c ∧ o.c ≤ 255) (z1 : la.length ≤ 9223372036854775807) :
    Calls Tryd.prog 16 #[.slice A0 la.length c0, .agg #[.int .i64 o.k, .int .i64 o.p, .int .u8 o.c, .int .i64 o.l, .int .i64 o.s]] w fun e w' => e = .returned (.bool true) ∧ Below w.heap.size w w' := by
  have HOK := Lib.hid hok
  clear hok
  obtain ⟨Q, hQ⟩ : ∃ Q, fillQ 1 0 (la.take 60) = Q := ⟨_, rfl⟩
  obtain ⟨n, hn⟩ : ∃ n, n = Q.length := ⟨_, rfl⟩
  have h60 : n ≤ 60 := by
    have := fillQ_length 1 (la.take 60) 0
    rw [hQ, ← hn] at this
    simp at this
    omega
  have HM : Hid (∀ (i : Nat) (x : PMk), Q[i]? = some x → x.m = (i : Int) + 1) := Lib.hid fun i x hx => by
    have := (fillQ_at 1 (la.take 60) 0 i x (by rw [hQ]; exact hx)).1
    rw [this]; simp
  have HQ := Lib.hid hQ
  have HN := Lib.hid hn
  clear hQ hn
  have B0 := below_alloc (Below.refl w.heap.size w) (.cells #[.int .i64 o.k, .int .i64 o.p, .int .u8 o.c, .int .i64 o.l, .int .i64 o.s] 23)
  have k0 := Blk.new w #[.int .i64 o.k, .int .i64 o.p, .int .u8 o.c, .int .i64 o.l, .int .i64 o.s] 23
  have q1 : IntKind.i64.wrap ((n : Int) + 1) = (n : Int) + 1 := IntWalk.i64_in _ (by omega)
  go_enter Tryd.func16, Tryd.ntmps16
  go_wp2_with fail
  with_reducible refine (filled_q true _ _ la _ Q n HQ HN.out (hl.below B0) HOK.out z1).mono ?_
  rintro e w1 ⟨px, Ax, cx, rfl, hS, hp, hA, b1⟩
  have H0 := HoldI.start _ (hr.on B0)
  have rl := (hl.below B0).below b1
  have H1 := H0.addSp b1 hS hp hA
  go_wp2_with fail
  with_reducible refine (filled_q false _ _ la _ Q n HQ HN.out rl HOK.out z1).mono ?_
  rintro e w2 ⟨py, Ay, cy, rfl, hS2, hp2, hA2, b2⟩
  have H2 := H1.addSp b2 hS2 hp2 hA2
  clear hS hS2 hp hp2 hA hA2 b1 b2 rl H1
  go_wp2_with fail
  have hc := H2.keep 0 rfl ((n : Int) + 1) 1 3 122 1 1 (by omega) (by rfl) (by omega) (by omega) (by have := HN.out; omega)
  with_reducible refine hc.mono ?_
  rintro e w3 ⟨rfl, Ax2, cx2, H3⟩
  clear H2 hc
  go_wp2_with fail
  generalize hQ1 : Q ++ [(⟨(n : Int) + 1, ⟨1, 3, 122, 1, 1⟩⟩ : PMk)] = Q1 at H3
  have HQ1 := Lib.hid hQ1
  have HN1 : Hid (n + 1 = Q1.length) := Lib.hid (by rw [← hQ1, HN.out]; simp)
  clear hQ1
  have hx := H3.sp 0 rfl
  have hy := H3.sp 1 rfl
  with_reducible refine (twice_any px py Ax2 Ay cx2 cy Q1 Q _ _ true false w3 H3.rulesW hx hy (by have := HN1.out; omega) (by have := HN.out; omega)).mono ?_
  rintro e w4 ⟨rfl, b4⟩
  replace H3 := H3.on b4
  clear hx hy b4
  go_wp2_with fail
  have hc := H3.queue 0 rfl HN1.out (by omega)
  with_reducible refine hc.mono ?_
  rintro e w5 ⟨Aa, ca, rfl, H5⟩
  obtain ⟨ga, rfl, hca, _⟩ := H5.lsSome 2 rfl (by omega)
  clear H3 hc
  go_wp2_with fail
  have hc := H5.queue 0 rfl HN1.out (by omega)
  with_reducible refine hc.mono ?_
  rintro e w6 ⟨Ab, cb, rfl, H6⟩
  obtain ⟨gb, rfl, hcb, _⟩ := H6.lsSome 3 rfl (by omega)
  clear H5 hc
  go_wp2_with fail
  have hc := H6.queue 1 rfl HN.out (by omega)
  with_reducible refine hc.mono ?_
  rintro e w7 ⟨Ac, cc, rfl, H7⟩
  clear H6 hc
  have hna : n ≤ ca := by omega
  go_wp2_with fail
  have ra := H7.lsRd 2 rfl
  have rb := H7.lsRd 3 rfl
  with_reducible refine (queues_m ra rb HN1.out HN1.out (by omega)).mono ?_
  rintro e w8 ⟨rfl, b8⟩
  replace H7 := H7.on b8
  clear ra rb b8
  go_wp2_with fail
  have ra := H7.lsRd 2 rfl
  rw [← HQ1.out] at ra
  have ra2 := ra.foreZ
  have rc := H7.lsRd 4 rfl
  with_reducible refine (queues_m ra2 rc HN.out HN.out (by omega)).mono ?_
  rintro e w9 ⟨rfl, b9⟩
  replace H7 := H7.on b9
  clear ra ra2 rc b9
  have HA : HoldI (w.alloc (.cells #[.int .i64 o.k, .int .i64 o.p, .int .u8 o.c, .int .i64 o.l, .int .i64 o.s] 23)) w9 [Item.sp px Ax2 cx2 Q1 ((n : Int) + 1) true, Item.sp py Ay cy Q n false, Item.ls (some ⟨ga, 0, none⟩) (n + 1) ca Q1, Item.ls (some ⟨gb, 0, none⟩) (n + 1) cb Q1, Item.ls Ac n cc Q, Item.ls none 0 0 []] := H7.addLs (Below.refl _ _) rfl (OwnV.nil _ _)
  clear H7 H0
  go_wp2_with fail
  go_loopw [15, 16] (fun kv i wr => ∃ (k : Nat) (Ak : Option Addr) (ck : Nat), k ≤ n + 1 ∧ i = .int .i64 k ∧ kv = .slice Ak k ck ∧ HoldI (w.alloc (.cells #[.int .i64 o.k, .int .i64 o.p, .int .u8 o.c, .int .i64 o.l, .int .i64 o.s] 23)) wr [Item.sp px Ax2 cx2 Q1 ((n : Int) + 1) true, Item.sp py Ay cy Q n false, Item.ls (some ⟨ga, 0, none⟩) (n + 1) ca Q1, Item.ls (some ⟨gb, 0, none⟩) (n + 1) cb Q1, Item.ls Ac n cc Q, Item.ls Ak k ck (Q1.take k)]) (fun kv i wr => n + 1 - (intOf i).toNat)
  case atStart => exact ⟨0, none, 0, Nat.zero_le _, rfl, rfl, HA⟩
  case round =>
    clear HA
    obtain ⟨k, Ak, ck, hk, rfl, rfl, HA⟩ := hrel
    by_cases hlt : k < n + 1
    · obtain ⟨bb, ob, x, hb0, hx, _, e0, e1, e2, e3, e4, e5⟩ := (HA.lsRd 3 rfl).six k (by rw [← HN1.out]; exact hlt)
      obtain ⟨rfl, rfl⟩ : gb = bb ∧ 0 = ob := by simpa using hb0
      rw [Nat.zero_add] at e0 e1 e2 e3 e4 e5
      have hB : Hid (((Q1.take k).length + 1) * 48 ≤ 140737488355328) := Lib.hid (by rw [List.length_take, ← HN1.out]; omega)
      have oK := (HA.ls 5 rfl).2
      clear hb0
      go_wp2_with (at_builtin; refine ev_app1V El.mark (by decide) (by decide) wr rfl _ _ 76 rfl Tryd.underlying76 0 (.slice Ak k ck) (Q1.take k) x rfl rfl oK hB.out (Nat.zero_le _) ?_; intro v' wn oV hgn hvn; obtain ⟨Ak', ck', rfl, HB⟩ := HA.app1 5 rfl oV hgn hvn)
      go_roundw
      case rel =>
        refine ⟨k + 1, Ak', ck', by omega, by go_num, rfl, ?_⟩
        rw [List.take_add_one, hx.out]
        exact HB
      case measure => simp [intOf]; omega
    · have hk2 : k = n + 1 := by omega
      subst hk2
      rw [List.take_of_length_le (by rw [← HN1.out]; exact Nat.le_refl _)] at HA
      obtain ⟨w10, hw10⟩ : ∃ w10 : World, w10 = wr := ⟨_, rfl⟩
      go_wp2_with fail
      go_loopw [17] (fun i wy => ∃ k : Nat, k ≤ n + 1 ∧ i = .int .i64 k ∧ HoldI (w.alloc (.cells #[.int .i64 o.k, .int .i64 o.p, .int .u8 o.c, .int .i64 o.l, .int .i64 o.s] 23)) wy [Item.sp px Ax2 cx2 Q1 ((n : Int) + 1) true, Item.sp py Ay cy Q n false, Item.ls (some ⟨ga, 0, none⟩) (n + 1) ca (mixM ⟨-1, ⟨0, 0, 0, 0, 0⟩⟩ k Q1), Item.ls (some ⟨gb, 0, none⟩) (n + 1) cb Q1, Item.ls Ac n cc Q, Item.ls Ak (n + 1) ck Q1]) (fun i wy => n + 1 - (intOf i).toNat)
      case atStart => exact ⟨0, Nat.zero_le _, rfl, HA⟩
      case round =>
        clear HA
        obtain ⟨k, hk, rfl, HA⟩ := hrel
        by_cases hlt : k < n + 1
        · obtain ⟨g', hg', _, hO⟩ := HA.lsSome 2 rfl (by omega)
          obtain rfl : ga = g' := by simpa using hg'
          have hL : Hid (k < (mixM ⟨-1, ⟨0, 0, 0, 0, 0⟩⟩ k Q1).length) := Lib.hid (by rw [mixM_length _ _ _ (by rw [← HN1.out]; exact hk), ← HN1.out]; exact hlt)
          have hoff : k * 6 = k * mkF.n := rfl
          clear hg'
          go_wp2_with (refine at_st 124 rfl ?_; go_must (refine ev_setF El.mark _ rfl _ _ rfl ga ca _ k _ ⟨-1, ⟨0, 0, 0, 0, 0⟩⟩ hoff hL.out rfl rfl hO ?_); intro wn hO2 hg2)
          have HB := HA.setM 2 rfl hO2 (n := n + 1) (by rw [List.length_set, mixM_length _ _ _ (by rw [← HN1.out]; exact hk), ← HN1.out]) hg2
          rw [mixM_set _ _ _ (by rw [← HN1.out]; exact hlt)] at HB
          go_roundw
          case rel =>
            (repeat apply Exists.intro)
            refine ⟨?_, rfl⟩
            exact ⟨k + 1, by omega, by go_num, HB⟩
          case measure => simp [intOf]; omega
        · have hk2 : k = n + 1 := by omega
          subst hk2
          obtain ⟨w11, hw11⟩ : ∃ w11 : World, w11 = wr := ⟨_, rfl⟩
          go_wp2_with fail
          go_loopw [18] (fun i wy => ∃ k : Nat, k ≤ n ∧ i = .int .i64 k ∧ HoldI (w.alloc (.cells #[.int .i64 o.k, .int .i64 o.p, .int .u8 o.c, .int .i64 o.l, .int .i64 o.s] 23)) wy [Item.sp px Ax2 cx2 Q1 ((n : Int) + 1) true, Item.sp py Ay cy Q n false, Item.ls (some ⟨ga, 0, none⟩) (n + 1) ca (mixM ⟨-1, ⟨0, 0, 0, 0, 0⟩⟩ (n + 1) Q1), Item.ls (some ⟨gb, 0, none⟩) (n + 1) cb Q1, Item.ls Ac n cc (mixM ⟨-3, ⟨0, 0, 0, 0, 0⟩⟩ k Q), Item.ls Ak (n + 1) ck Q1]) (fun i wy => n - (intOf i).toNat)
          case atStart => exact ⟨0, Nat.zero_le _, rfl, HA⟩
          case round =>
            clear HA
            obtain ⟨k, hk, rfl, HA⟩ := hrel
            by_cases hlt : k < n
            · obtain ⟨gc, rfl, _, hO⟩ := HA.lsSome 4 rfl (by omega)
              have hL : Hid (k < (mixM ⟨-3, ⟨0, 0, 0, 0, 0⟩⟩ k Q).length) := Lib.hid (by rw [mixM_length _ _ _ (by rw [← HN.out]; exact hk), ← HN.out]; exact hlt)
              have hoff : k * 6 = k * mkF.n := rfl
              go_wp2_with (refine at_st 134 rfl ?_; go_must (refine ev_setF El.mark _ rfl _ _ rfl gc cc _ k _ ⟨-3, ⟨0, 0, 0, 0, 0⟩⟩ hoff hL.out rfl rfl hO ?_); intro wn hO2 hg2)
              have HB := HA.setM 4 rfl hO2 (n := n) (by rw [List.length_set, mixM_length _ _ _ (by rw [← HN.out]; exact hk), ← HN.out]) hg2
              rw [mixM_set _ _ _ (by rw [← HN.out]; exact hlt)] at HB
              go_roundw
              case rel =>
                (repeat apply Exists.intro)
                refine ⟨?_, rfl⟩
                exact ⟨k + 1, by omega, by go_num, HB⟩
              case measure => simp [intOf]; omega
            · have hk2 : k = n := by omega
              subst hk2
              have OA := HA.lsO 2 rfl
              have ha : Hid (k + 1 = (mixM ⟨-1, ⟨0, 0, 0, 0, 0⟩⟩ (k + 1) Q1).length) := Lib.hid (by rw [mixM_length _ _ _ (by rw [← HN1.out]; exact Nat.le_refl _), ← HN1.out])
              have hb : Hid (k = (mixM ⟨-3, ⟨0, 0, 0, 0, 0⟩⟩ k Q).length) := Lib.hid (by rw [mixM_length _ _ _ (by rw [← HN.out]; exact Nat.le_refl _), ← HN.out])
              have sa : Hid (((mixM ⟨-1, ⟨0, 0, 0, 0, 0⟩⟩ (k + 1) Q1).length + [(⟨-5, ⟨0, 0, 0, 0, 0⟩⟩ : PMk)].length) * 48 ≤ 140737488355328) := Lib.hid (by rw [← ha.out]; simp; omega)
              have sb : Hid (((mixM ⟨-3, ⟨0, 0, 0, 0, 0⟩⟩ k Q).length + [(⟨-6, ⟨0, 0, 0, 0, 0⟩⟩ : PMk)].length) * 48 ≤ 140737488355328) := Lib.hid (by rw [← hb.out]; simp; omega)
              have HA2 := HA.alloc (.cells (mkF.cells ⟨-5, ⟨0, 0, 0, 0, 0⟩⟩).toArray 87)
              go_wp2_with (first
                | (at_builtin; refine ev_appZ El.mark.z' (by decide) (by decide) _ rfl _ _ 76 rfl Tryd.underlying76 (some ⟨ga, 0, none⟩) ca (mixM ⟨-1, ⟨0, 0, 0, 0, 0⟩⟩ (k + 1) Q1) [⟨-5, ⟨0, 0, 0, 0, 0⟩⟩] ⟨wr.heap.size, 0, none⟩ (k + 1) 1 1 ha.out rfl rfl rfl (OA.alloc _) (Blk.rdMk (Blk.new wr _ _)) (by simp) sa.out ?_; intro Ag cg wg og rg bg fg; (have HG := HA2.two 2 rfl og rg bg fg); (have OC := HG.lsO 4 rfl); (have HG2 := HG.alloc (.cells (mkF.cells ⟨-6, ⟨0, 0, 0, 0, 0⟩⟩).toArray 87)); clear HA HA2 OA)
                | (at_builtin; refine ev_appZ El.mark.z' (by decide) (by decide) _ rfl _ _ 76 rfl Tryd.underlying76 Ac cc (mixM ⟨-3, ⟨0, 0, 0, 0, 0⟩⟩ k Q) [⟨-6, ⟨0, 0, 0, 0, 0⟩⟩] ⟨wg.heap.size, 0, none⟩ k 1 1 hb.out rfl rfl rfl (OC.alloc _) (Blk.rdMk (Blk.new wg _ _)) (by simp) sb.out ?_; intro Ah ch wh oh rh bh fh; (have HH := HG2.two 4 rfl oh rh bh fh); clear HG HG2 OC))
              obtain ⟨gk, rfl, hck, _⟩ := HH.lsSome 5 rfl (by omega)
              have J0 := HH.on (Below.refl _ _).drew
              have hkk : k ≤ ck := by omega
              clear HH
              go_region_held3 (fun _ => True)
                (first | trivial | fail)
                (first
                  | (go_at_call 49; (have ra := J3.lsRd 7 rfl); (have rb := J3.lsRd 5 rfl); rw [← HQ1.out] at rb; (have rc := rb.foreZ); (with_reducible refine (queues_m ra rc HN.out HN.out (by omega)).mono ?_); rintro e v4 ⟨rfl, b4⟩; (have J4 := J3.on b4); clear J3 ra rb rc)
                  | (go_at_call 47; (have hc3 := J2.queue 1 rfl HN.out (by omega)); (with_reducible refine hc3.mono ?_); rintro e v3 ⟨A3, c3, rfl, J3⟩; clear J2 hc3)
                  | (go_at_call 49; (have ra := J1.lsRd 6 rfl); (have rb := J1.lsRd 5 rfl); (with_reducible refine (queues_m ra rb HN1.out HN1.out (by omega)).mono ?_); rintro e v2 ⟨rfl, b2⟩; (have J2 := J1.on b2); clear J1 ra rb)
                  | (go_at_call 47; (have hc1 := J0.queue 0 rfl HN1.out (by omega)); (with_reducible refine hc1.mono ?_); rintro e v1 ⟨A1, c1, rfl, J1⟩; clear J0 hc1)
                  )
              have kO := k0.on J4.below
              obtain ⟨e0, e1, e2, e3, e4⟩ := kO.cells5
              go_wp2_with fail
              have hc := J4.cross 1 rfl o hoc (by have := HN.out; omega) HM
              with_reducible refine hc.mono ?_
              rintro e v5 ⟨yy, rr, Q2, rfl, hl2, hm2, J5⟩
              clear J4 hc e0 e1 e2 e3 e4 kO
              go_wp2_with fail
              have hc := J5.drop 1 rfl k (k : Int) rfl (by have := HN.out; have := hl2.out; omega) hm2
              with_reducible refine hc.mono ?_
              rintro e v6 ⟨nn, A6, c6, rfl, J6⟩
              clear J5 hc
              go_wp2_with fail
              have hz0 : Hid (0 = (Q2.drop k).length) := Lib.hid (by have := HN.out; have := hl2.out; simp; omega)
              have hc := J6.queue 1 rfl hz0.out (by omega)
              with_reducible refine hc.mono ?_
              rintro e v7 ⟨A7, c7, rfl, J7⟩
              clear J6 hc
              go_wp2_with fail
              have hc := J7.queue 0 rfl HN1.out (by omega)
              with_reducible refine hc.mono ?_
              rintro e v8 ⟨A8, c8, rfl, J8⟩
              clear J7 hc
              go_wp2_with fail
              have ra := J8.lsRd 9 rfl
              have rb := J8.lsRd 5 rfl
              with_reducible refine (queues_m ra rb HN1.out HN1.out (by omega)).mono ?_
              rintro e v9 ⟨rfl, b9⟩
              replace J8 := J8.on b9
              clear ra rb b9
              have kO := k0.on J8.below
              obtain ⟨e0, e1, e2, e3, e4⟩ := kO.cells5
              go_wp2_with fail
              have HM1 : Hid (∀ (i : Nat) (x : PMk), Q1[i]? = some x → x.m = (i : Int) + 1) := Lib.hid fun i x hx => by
                rw [← HQ1.out] at hx
                rcases Nat.lt_or_ge i Q.length with h1 | h1
                · rw [List.getElem?_append_left h1] at hx
                  exact HM.out i x hx
                · rw [List.getElem?_append_right h1] at hx
                  have h2 : i - Q.length = 0 := by
                    have := (List.getElem?_eq_some_iff.1 hx).1
                    simp at this
                    omega
                  rw [h2] at hx
                  obtain rfl := Option.some.inj hx
                  have := HN.out
                  have : i = k := by omega
                  subst this
                  rfl
              have hc := J8.cross 0 rfl o hoc (by have := HN1.out; omega) HM1
              with_reducible refine hc.mono ?_
              rintro e v10 ⟨y3, r3, Q3, rfl, hl3, hm3, J10⟩
              clear J8 hc e0 e1 e2 e3 e4 kO
              have q2 : IntKind.i64.wrap ((k : Int).tdiv 2) = ((k / 2 : Nat) : Int) := by
                rw [show (k : Int).tdiv 2 = ((k / 2 : Nat) : Int) by rw [Int.tdiv_eq_ediv_of_nonneg (by omega)]; omega]
                exact IntWalk.i64_in _ (by omega)
              go_wp2_with fail
              have hc := J10.drop 0 rfl (k / 2) ((k : Int) / 2) (by omega) (by have := HN1.out; have := hl3.out; omega) hm3
              with_reducible refine hc.mono ?_
              rintro e v11 ⟨n11, A11, c11, rfl, J11⟩
              clear J10 hc
              obtain ⟨m, hm⟩ : ∃ m : Nat, m = k + 1 - k / 2 := ⟨_, rfl⟩
              have hmq : Hid (m = (Q3.drop (k / 2)).length) := Lib.hid (by have := HN1.out; have := hl3.out; simp; omega)
              have q3 : IntKind.i64.wrap ((k : Int) + 1 - (k : Int) / 2) = (k : Int) + 1 - (k : Int) / 2 := IntWalk.i64_in _ (by omega)
              have q4 : ((m : Int) != (k : Int) + 1 - (k : Int) / 2) = false := by simp; omega
              have hm61 : m ≤ 61 := by omega
              have HMM := Lib.hid hm
              clear hm
              go_wp2_with fail
              have hc := J11.queue 0 rfl hmq.out (by omega)
              with_reducible refine hc.mono ?_
              rintro e v12 ⟨A12, c12, rfl, J12⟩
              clear J11 hc
              go_wp2_with fail
              have ra := J12.lsRd 3 rfl
              have rb := J12.lsRd 5 rfl
              with_reducible refine (queues_m ra rb HN1.out HN1.out (by omega)).mono ?_
              rintro e v13 ⟨rfl, b13⟩
              replace J12 := J12.on b13
              clear ra rb b13
              have hta : Rd mkF v13 (some ⟨ga, 0, none⟩) (mixM ⟨-1, ⟨0, 0, 0, 0, 0⟩⟩ (k + 1) Q1) ∧ Rd mkF v13 Ag (mixM ⟨-1, ⟨0, 0, 0, 0, 0⟩⟩ (k + 1) Q1 ++ [⟨-5, ⟨0, 0, 0, 0, 0⟩⟩]) := J12.get 2 rfl
              have htc : Rd mkF v13 Ac (mixM ⟨-3, ⟨0, 0, 0, 0, 0⟩⟩ k Q) ∧ Rd mkF v13 Ah (mixM ⟨-3, ⟨0, 0, 0, 0, 0⟩⟩ k Q ++ [⟨-6, ⟨0, 0, 0, 0, 0⟩⟩]) := J12.get 4 rfl
              obtain ⟨bG, oG, rfl, g0, _⟩ := hta.2.six2 (k := k + 1) (x := ⟨-5, ⟨0, 0, 0, 0, 0⟩⟩) (by rw [List.getElem?_append_right (by rw [← ha.out]; exact Nat.le_refl _), ← ha.out, Nat.sub_self]; rfl)
              obtain ⟨bH, oH, rfl, h0, _⟩ := htc.2.six2 (k := k) (x := ⟨-6, ⟨0, 0, 0, 0, 0⟩⟩) (by rw [List.getElem?_append_right (by rw [← hb.out]; exact Nat.le_refl _), ← hb.out, Nat.sub_self]; rfl)
              dsimp only at g0 h0
              have i0 : (0 : Int) ≤ (k : Int) + 1 := by omega
              have i1 : (k : Int) + 1 < (k : Int) + 1 + 1 := by omega
              have i2 : (0 : Int) ≤ (k : Int) := by omega
              have i3 : (k : Int) < (k : Int) + 1 := by omega
              have i4 : ((k : Int) + 1).toNat = k + 1 := by omega
              have BF := B0.trans (J12.below.mono B0.size)
              have rbb := J12.lsRd 3 rfl
              have raa := hta.1
              have rcc := htc.1
              go_wp2_with fail
              clear J12 hta htc g0 h0 i0 i1 i4
              obtain ⟨w14, hw14⟩ : ∃ w14 : World, w14 = v13 := ⟨_, rfl⟩
              go_loopw [21] (fun i wy => ∃ j : Nat, j ≤ k ∧ i = .int .i64 j ∧ Below w.heap.size w wy ∧ Rd mkF wy (some ⟨ga, 0, none⟩) (mixM ⟨-1, ⟨0, 0, 0, 0, 0⟩⟩ (k + 1) Q1) ∧ Rd mkF wy Ac (mixM ⟨-3, ⟨0, 0, 0, 0, 0⟩⟩ k Q) ∧ Rd mkF wy (some ⟨gb, 0, none⟩) Q1) (fun i wy => k - (intOf i).toNat)
              case atStart => exact ⟨0, Nat.zero_le _, rfl, BF, raa, rcc, rbb⟩
              case round =>
                clear BF raa rcc rbb
                obtain ⟨j, hj, rfl, BF, raa, rcc, rbb⟩ := hrel
                by_cases hlt : j < k
                · have a0 := (raa.six0 (mix_at (show j < k + 1 by omega))).1
                  obtain ⟨bc, oc, rfl, c0', _⟩ := rcc.six2 (mix_at hlt)
                  dsimp only at a0 c0'
                  have j1 : (j : Int) < (k : Int) + 1 := by omega
                  have j2 : (j : Int) < (k : Int) := by omega
                  go_wp2_with fail
                  go_roundw
                  case rel => exact ⟨j + 1, by omega, by go_num, BF, raa, rcc, rbb⟩
                  case measure => simp [intOf]; omega
                · have hjk : j = k := by omega
                  subst hjk
                  have a0 := (raa.six0 (mix_at (show j < j + 1 by omega))).1
                  have hq : Q1[j]? = some ⟨(j : Int) + 1, ⟨1, 3, 122, 1, 1⟩⟩ := by
                    rw [← HQ1.out, List.getElem?_append_right (by rw [← HN.out]; exact Nat.le_refl _), ← HN.out, Nat.sub_self]
                    rfl
                  have b0 := (rbb.six0 hq).2.2.2.1
                  dsimp only at a0 b0
                  clear hq
                  go_wp2_with fail
                  go_ret
                  exact ⟨rfl, BF⟩
end Go.Proofs.YtkicbnkacjnhoaaDoor
