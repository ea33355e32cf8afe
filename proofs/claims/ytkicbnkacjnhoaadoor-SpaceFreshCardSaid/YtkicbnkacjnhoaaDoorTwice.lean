/- twice of jotterlaw10. -/
import Derived.Test.YtkicbnkacjnhoaaDoorGrown
import Derived.Test.YtkicbnkacjnhoaaDoorSpOne
namespace Go.Proofs.YtkicbnkacjnhoaaDoor
open Go.RowKit
set_option linter.unusedVariables false
set_option linter.unusedSimpArgs false

/-- A list of one's own. -/
def Item.ls (A : Option Addr) (n c : Nat) (xs : List PMk) : Item :=
  ⟨own A, fun W => n = xs.length ∧ OwnV mkF 87 0 W (.slice A n c) xs, fun h hb hn => ⟨h.1, h.2.but hb fun g hg => hn g (by rw [own_block hg]; simp)⟩⟩
section
variable {w0 W W' : World} {its : List Item} {A : Option Addr} {n c : Nat} {xs : List PMk}
theorem HoldI.addLs (h : HoldI w0 W its) (hb : Below W.heap.size W W') (hn : n = xs.length) (ho : OwnV mkF 87 W.heap.size W' (.slice A n c) xs) : HoldI w0 W' (its ++ [Item.ls A n c xs]) :=
  h.add hb _ ⟨hn, ho.weak (Nat.zero_le _)⟩ fun b hb2 => ho.lt b (own_mem hb2)
theorem HoldI.ls (h : HoldI w0 W its) (i : Nat) (hi : its[i]? = some (Item.ls A n c xs)) : n = xs.length ∧ OwnV mkF 87 0 W (.slice A n c) xs := h.get i hi
theorem HoldI.lsRd (h : HoldI w0 W its) (i : Nat) (hi : its[i]? = some (Item.ls A n c xs)) : Rd mkF W A xs := (h.ls i hi).2.rd2
theorem OwnV.rdN {α : Type} {F : Flat α} {e : TypeId} {w : World} {base n : Nat} {v : Value} {xs : List α} (h : OwnV F e base w v xs) (hn : n = xs.length) : ∃ A c, v = .slice A n c ∧ OwnV F e base w (.slice A n c) xs := by
  subst hn
  obtain ⟨A, c, rfl, _⟩ := h.rd
  exact ⟨A, c, rfl, h⟩
theorem Below.next {a b c : World} (h : Below a.heap.size a b) (k : Below b.heap.size b c) : Below a.heap.size a c := h.trans (k.mono h.size)
theorem queue_m {w : World} {p : Nat} {q : List PMk} {last : Int} {first : Bool} {nx : Nat} (h : SpAt w p A c q last first) (hn : nx = q.length) (hz : nx ≤ 100000) :
    Calls Tryd.prog 47 #[.pointer (some ⟨p, 0, none⟩)] w fun e w' => ∃ (A' : Option Addr) (c' : Nat), e = .returned (.slice A' nx c') ∧ OwnV mkF 87 w.heap.size w' (.slice A' nx c') q ∧ Below w.heap.size w w' := by
  subst hn
  exact queue_any w h hz
theorem queues_m {A1 A2 : Option Addr} {c1 c2 n1 n2 : Nat} {xs : List PMk} {w : World} (h1 : Rd mkF w A1 xs) (h2 : Rd mkF w A2 xs) (e1 : n1 = xs.length) (e2 : n2 = xs.length) (hl : n1 ≤ 1000000) :
    Calls Tryd.prog 49 #[.slice A1 n1 c1, .slice A2 n2 c2] w fun e w' => e = .returned (.bool true) ∧ Below w.heap.size w w' := by
  subst e2
  subst e1
  exact queues_yes A1 A2 c1 c2 xs w h1 h2 hl
end

theorem Blk.rdSls {w : World} {b : Nat} {cs : Array Value} {t : TypeId} {rs : List Sl} (h : Blk w b cs t) (hc : cs = (rs.map fun s => Value.slice s.A s.n s.c).toArray) : Rd slF w (some ⟨b, 0, none⟩) rs :=
  ⟨fun i hi => ⟨b, 0, rfl, fun j u hu => by
    have hj : j = 0 := by
      have := (List.getElem?_eq_some_iff.1 hu).1
      simp [slF] at this
      exact this
    subst hj
    have hu' : Value.slice rs[i].A rs[i].n rs[i].c = u := by simpa [slF] using hu
    subst hu'
    rw [h.cell, hc]
    simp [slF, hi]⟩⟩
theorem grown_m (gl cl n : Nat) (rs : List Sl) (w : World) (hrs : n = rs.length) (R : GRows gl rs) (L : GLow w gl rs) (h : G1 w w gl rs 0 0) (hn : rs.length ≤ 100) (hs : ∀ s ∈ rs, s.n ≤ 5000) :
    Calls Tryd.prog 76 #[.slice (some ⟨gl, 0, none⟩) n cl] w fun e w' => e = .returned (.bool true) ∧ But (rs.flatMap (own ·.A)) w w' := by
  subst hrs
  exact grown_any gl cl rs w R L h hn hs
/-- Lists of the walk's own, handed on as rows. -/
theorem HoldI.rows {w0 W : World} {its : List Item} (h : HoldI w0 W its) (rs : List Sl) (qs : Nat → List PMk) (hi : ∀ (j : Nat) (s : Sl), rs[j]? = some s → its[j]? = some (Item.ls s.A s.n s.c (qs j))) {gl : Nat} (hgl : gl < W.heap.size) (hne : ∀ s ∈ rs, gl ∉ own s.A) (hl : Rd slF W (some ⟨gl, 0, none⟩) rs) :
    GRows gl rs ∧ GLow W gl rs ∧ G1 W W gl rs 0 0 := by
  have hm : ∀ s ∈ rs, ∃ j : Nat, rs[j]? = some s := fun s hs => List.getElem?_of_mem hs
  refine ⟨⟨fun i j s t hs ht hij g hg1 hg2 => ?_, hne⟩, ⟨fun s hs b hb => ?_, hgl⟩, ⟨hl, fun j s _ hlt => absurd hlt (Nat.not_lt_zero _), fun s hs => ?_, fun j s hs _ => ?_, But.refl _ _⟩⟩
  · have h1 := hi i s hs
    have h2 := hi j t ht
    obtain ⟨l1, e1⟩ := List.getElem?_eq_some_iff.1 h1
    obtain ⟨l2, e2⟩ := List.getElem?_eq_some_iff.1 h2
    have hp := List.pairwise_iff_getElem.1 h.dis
    rcases Nat.lt_or_gt_of_ne hij with hlt | hlt
    · have := hp i j l1 l2 hlt
      rw [e1, e2] at this
      exact this g hg1 hg2
    · have := hp j i l2 l1 hlt
      rw [e1, e2] at this
      exact this g hg2 hg1
  · obtain ⟨j, hj⟩ := hm s hs
    exact (h.lt _ (List.mem_of_getElem? (hi j s hj)) b hb).2
  · have h1 := h.ls 0 (hi 0 s hs)
    exact ⟨qs 0, h1.1.symm, Nat.zero_le _, by simpa [negL] using h1.2⟩
  · have h1 := h.ls j (hi j s hs)
    exact ⟨qs j, h1.1.symm, h1.2⟩
/-- An item behind the rows stays when they alone are written. -/
theorem HoldI.behind {w0 W W' : World} {its : List Item} (h : HoldI w0 W its) (rs : List Sl) (qs : Nat → List PMk) (hi : ∀ (j : Nat) (s : Sl), rs[j]? = some s → its[j]? = some (Item.ls s.A s.n s.c (qs j))) (hb : But (rs.flatMap (own ·.A)) W W') (i : Nat) (hr : rs.length ≤ i) {it : Item} (hit : its[i]? = some it) : it.ok W' := by
  refine it.stab (h.get i hit) hb fun b hb1 hb2 => ?_
  obtain ⟨s, hs, hbs⟩ := List.mem_flatMap.1 hb2
  obtain ⟨j, hj⟩ := List.getElem?_of_mem hs
  have hjl : j < rs.length := (List.getElem?_eq_some_iff.1 hj).1
  obtain ⟨l1, e1⟩ := List.getElem?_eq_some_iff.1 (hi j s hj)
  obtain ⟨l2, e2⟩ := List.getElem?_eq_some_iff.1 hit
  have := List.pairwise_iff_getElem.1 h.dis j i l1 l2 (by omega)
  rw [e1, e2] at this
  exact this b hbs hb1
set_option maxHeartbeats 8000000 in
set_option maxRecDepth 100000 in
theorem twice_any (px py : Nat) (Ax Ay : Option Addr) (cx cy : Nat) (qx qy : List PMk) (lx ly : Int) (fx fy : Bool) (w : World) (hr : RulesAt w) (hx : SpAt w px Ax cx qx lx fx) (hy : SpAt w py Ay cy qy ly fy) (bx : qx.length ≤ 4096) (by' : qy.length ≤ 4096) :
    Calls Tryd.prog 57 #[.pointer (some ⟨px, 0, none⟩), .pointer (some ⟨py, 0, none⟩)] w fun e w' => e = .returned (.bool true) ∧ Below w.heap.size w w' := by
  obtain ⟨nx, hnx⟩ : ∃ n, n = qx.length := ⟨_, rfl⟩
  obtain ⟨ny, hny⟩ : ∃ n, n = qy.length := ⟨_, rfl⟩
  rw [← hnx] at bx
  rw [← hny] at by'
  have HX := Lib.hid hnx
  have HY := Lib.hid hny
  clear hnx hny
  have H0 : HoldI w w.drew [] := (HoldI.start w hr).on (Below.refl _ _).drew
  go_enter Tryd.func57, Tryd.ntmps57
  go_wp2_with fail
  go_region_held3 (fun _ => True)
    (first | trivial | fail)
    (first
      | (go_at_call 47; (with_reducible refine (queue_m (hx.on H4.below) HX.out (by omega)).mono ?_); rintro e w5 ⟨A5, c5, rfl, o5, b5⟩; (have H5 := H4.addLs b5 HX.out o5); clear H4)
      | (go_at_call 47; (with_reducible refine (queue_m (hy.on H3.below) HY.out (by omega)).mono ?_); rintro e w4 ⟨A4, c4, rfl, o4, b4⟩; (have H4 := H3.addLs b4 HY.out o4); clear H3)
      | (go_at_call 47; (with_reducible refine (queue_m (hy.on H2.below) HY.out (by omega)).mono ?_); rintro e w3 ⟨A3, c3, rfl, o3, b3⟩; (have H3 := H2.addLs b3 HY.out o3); clear H2)
      | (go_at_call 47; (with_reducible refine (queue_m (hx.on H1.below) HX.out (by omega)).mono ?_); rintro e w2 ⟨A2, c2, rfl, o2, b2⟩; (have H2 := H1.addLs b2 HX.out o2); clear H1)
      | (go_at_call 47; (with_reducible refine (queue_m (hx.on H0.below) HX.out (by omega)).mono ?_); rintro e w1 ⟨A1, c1, rfl, o1, b1⟩; (have H1 := H0.addLs b1 HX.out o1); clear H0)
      )
  have H6 := H5.alloc (.cells #[.slice A1 nx c1, .slice A2 nx c2, .slice A3 ny c3, .slice A4 ny c4, .slice A5 nx c5] 76)
  have kl := Blk.new w5 #[.slice A1 nx c1, .slice A2 nx c2, .slice A3 ny c3, .slice A4 ny c4, .slice A5 nx c5] 76
  generalize w5.alloc (.cells #[.slice A1 nx c1, .slice A2 nx c2, .slice A3 ny c3, .slice A4 ny c4, .slice A5 nx c5] 76) = w6 at H6 kl ⊢
  have e0 := kl.cell 0
  have e2 := kl.cell 2
  have hzx : Hid ((([] : List PMk).length + qx.length) * 48 ≤ 140737488355328) := Lib.hid (by have := HX.out; simp; omega)
  have hzy : Hid ((([] : List PMk).length + qy.length) * 48 ≤ 140737488355328) := Lib.hid (by have := HY.out; simp; omega)
  have r1 := H6.lsRd 0 rfl
  have r3 := H6.lsRd 2 rfl
  go_wp2_with (first
    | (at_builtin; refine ev_appS El.mark (by decide) (by decide) w6 rfl _ _ 76 rfl Tryd.underlying76 w6.heap.size (.slice none 0 0) [] qx A1 nx c1 rfl rfl HX.out (OwnV.nil _ _) r1 hzx.out (Nat.le_refl _) ?_; intro v' w7 o7 g7 hv7; (have b7 : Below w6.heap.size w6 w7 := (Below.refl _ _).grown g7 (Nat.le_refl _) (fun k e => by cases e)); obtain ⟨A6, c6, rfl, o7'⟩ := OwnV.rdN (by simpa using o7) HX.out; (have H7 := H6.addLs b7 HX.out o7'); (have kl7 := kl.on b7); (have e27 := kl7.cell 2); clear H6 o7 g7 hv7)
    | (at_builtin; refine ev_appS El.mark (by decide) (by decide) w7 rfl _ _ 76 rfl Tryd.underlying76 w7.heap.size (.slice none 0 0) [] qy A3 ny c3 rfl rfl HY.out (OwnV.nil _ _) (r3.below b7) hzy.out (Nat.le_refl _) ?_; intro v' w8 o8 g8 hv8; (have b8 : Below w7.heap.size w7 w8 := (Below.refl _ _).grown g8 (Nat.le_refl _) (fun k e => by cases e)); obtain ⟨A7, c7, rfl, o8'⟩ := OwnV.rdN (by simpa using o8) HY.out; (have H8 := H7.addLs b8 HY.out o8'); (have kl8 := kl7.on b8); (have e3 := kl8.cell 3); (have e1 := kl8.cell 1); (have e4 := kl8.cell 4); clear H7 o8 g8 hv8))
  clear e0 e2 e27 r1 r3
  have ra := H8.lsRd 1 rfl
  have rb := H8.lsRd 5 rfl
  with_reducible refine (queues_m ra rb HX.out HX.out (by omega)).mono ?_
  rintro e w9 ⟨rfl, b9⟩
  replace H8 := H8.on b9
  replace kl8 := kl8.on b9
  clear e1 e3 e4 ra rb
  have e4 := kl8.cell 4
  have e3 := kl8.cell 3
  go_wp2_with fail
  have ra := H8.lsRd 4 rfl
  have rb := H8.lsRd 5 rfl
  with_reducible refine (queues_m ra rb HX.out HX.out (by omega)).mono ?_
  rintro e w10 ⟨rfl, b10⟩
  replace H8 := H8.on b10
  replace kl8 := kl8.on b10
  clear e4 e3 ra rb
  have e3 := kl8.cell 3
  go_wp2_with fail
  have ra := H8.lsRd 3 rfl
  have rb := H8.lsRd 6 rfl
  with_reducible refine (queues_m ra rb HY.out HY.out (by omega)).mono ?_
  rintro e w11 ⟨rfl, b11⟩
  replace H8 := H8.on b11
  replace kl8 := kl8.on b11
  clear e3 ra rb
  go_wp2_with fail
  have hidx : ∀ (j : Nat) (s : Sl), ([⟨A1, nx, c1⟩, ⟨A2, nx, c2⟩, ⟨A3, ny, c3⟩, ⟨A4, ny, c4⟩, ⟨A5, nx, c5⟩] : List Sl)[j]? = some s → ([] ++ [Item.ls A1 nx c1 qx] ++ [Item.ls A2 nx c2 qx] ++ [Item.ls A3 ny c3 qy] ++ [Item.ls A4 ny c4 qy] ++ [Item.ls A5 nx c5 qx] ++ [Item.ls A6 nx c6 qx] ++ [Item.ls A7 ny c7 qy])[j]? = some (Item.ls s.A s.n s.c ((fun i => if i = 2 ∨ i = 3 then qy else qx) j)) := fun j s hj => by
    match j, hj with
    | 0, hj => obtain rfl := Option.some.inj hj; rfl
    | 1, hj => obtain rfl := Option.some.inj hj; rfl
    | 2, hj => obtain rfl := Option.some.inj hj; rfl
    | 3, hj => obtain rfl := Option.some.inj hj; rfl
    | 4, hj => obtain rfl := Option.some.inj hj; rfl
    | j + 5, hj => simp at hj
  have hgne : ∀ s ∈ ([⟨A1, nx, c1⟩, ⟨A2, nx, c2⟩, ⟨A3, ny, c3⟩, ⟨A4, ny, c4⟩, ⟨A5, nx, c5⟩] : List Sl), w5.heap.size ∉ own s.A := fun s hs hb => by
    obtain ⟨j, hj⟩ := List.getElem?_of_mem hs
    have hjl : j < 5 := (List.getElem?_eq_some_iff.1 hj).1
    have h1 := hidx j s hj
    rw [List.getElem?_append_left (by simp; omega), List.getElem?_append_left (by simp; omega)] at h1
    have := (H5.lt _ (List.mem_of_getElem? h1) _ hb).2
    omega
  have hlst : Rd slF w11 (some ⟨w5.heap.size, 0, none⟩) [⟨A1, nx, c1⟩, ⟨A2, nx, c2⟩, ⟨A3, ny, c3⟩, ⟨A4, ny, c4⟩, ⟨A5, nx, c5⟩] := kl8.rdSls rfl
  obtain ⟨R, L, hG⟩ := H8.rows _ _ hidx kl8.lt hgne hlst
  have hsn : ∀ s ∈ ([⟨A1, nx, c1⟩, ⟨A2, nx, c2⟩, ⟨A3, ny, c3⟩, ⟨A4, ny, c4⟩, ⟨A5, nx, c5⟩] : List Sl), s.n ≤ 5000 := fun s hs => by
    simp only [List.mem_cons, List.not_mem_nil, or_false] at hs
    rcases hs with rfl | rfl | rfl | rfl | rfl <;> (dsimp only; omega)
  have hcall := grown_m w5.heap.size 5 5 _ w11 rfl R L hG (by simp) hsn
  with_reducible refine hcall.mono ?_
  rintro e w12 ⟨rfl, b12⟩
  have hk := H8.behind _ _ hidx b12 5 (by simp) (it := Item.ls A6 nx c6 qx) rfl
  have ho := H8.behind _ _ hidx b12 6 (by simp) (it := Item.ls A7 ny c7 qy) rfl
  have rk : Rd mkF w12 A6 qx := hk.2.rd2
  have ro : Rd mkF w12 A7 qy := ho.2.rd2
  have hlow : ∀ b ∈ ([⟨A1, nx, c1⟩, ⟨A2, nx, c2⟩, ⟨A3, ny, c3⟩, ⟨A4, ny, c4⟩, ⟨A5, nx, c5⟩] : List Sl).flatMap (own ·.A), w.heap.size ≤ b := fun b hb => by
    obtain ⟨s, hs, hbs⟩ := List.mem_flatMap.1 hb
    obtain ⟨j, hj⟩ := List.getElem?_of_mem hs
    exact (H8.lt _ (List.mem_of_getElem? (hidx j s hj)) b hbs).1
  have B12 : Below w.heap.size w w12 := b12.below H8.below H8.below.size hlow
  clear hk ho hlow hcall hsn R L hG hlst hgne hidx b12 kl8 H8
  go_wp2_with fail
  with_reducible refine (queue_m (hx.on B12) HX.out (by omega)).mono ?_
  rintro e w13 ⟨A8, c8, rfl, o8, b13⟩
  have B13 := Below.next B12 b13
  have rq := o8.rd2
  go_wp2_with fail
  with_reducible refine (queues_m rq (rk.below b13) HX.out HX.out (by omega)).mono ?_
  rintro e w14 ⟨rfl, b14⟩
  have B14 := Below.next B13 b14
  clear rq
  go_wp2_with fail
  with_reducible refine (queue_m (hy.on B14) HY.out (by omega)).mono ?_
  rintro e w15 ⟨A9, c9, rfl, o9, b15⟩
  have B15 := Below.next B14 b15
  have rq := o9.rd2
  go_wp2_with fail
  with_reducible refine (queues_m rq (((ro.below b13).below b14).below b15) HY.out HY.out (by omega)).mono ?_
  rintro e w16 ⟨rfl, b16⟩
  have B16 := Below.next B15 b16
  go_wp2_with fail
  go_ret
  exact ⟨rfl, B16⟩
end Go.Proofs.YtkicbnkacjnhoaaDoor
