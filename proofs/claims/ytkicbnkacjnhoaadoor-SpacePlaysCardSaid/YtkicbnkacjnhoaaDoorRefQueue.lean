/- The walk of jotterref10's Queue. -/
import Derived.Test.YtkicbnkacjnhoaaDoorRefLook
namespace Go.Proofs.YtkicbnkacjnhoaaDoor
open Go.RowKit
set_option linter.unusedVariables false
set_option linter.unusedSimpArgs false

theorem queue_snoc {f : Bool} {y : PRef} (h : y.Fine) {k : Nat} {x : PMk} {z : POp} (hk : y.d ≤ k) (hx : y.own[k]? = some x) (hz : (y.forms f)[k]? = some z) : (y.queue f).take (k + 1 - y.d) = (y.queue f).take (k - y.d) ++ [⟨x.m, z⟩] := by
  have h1 : (y.queue f)[k - y.d]? = some ⟨x.m, z⟩ := by
    unfold PRef.queue
    rw [List.getElem?_drop, show y.d + (k - y.d) = k by omega]
    exact withOps_at _ _ _ _ _ hx hz
  rw [show k + 1 - y.d = (k - y.d) + 1 by omega, List.take_add_one, h1]
  rfl
theorem rq_s {V : World} {p b off k g : Nat} {n c : Nat} {x : PMk} {z : POp} (h0 : V.cell? ⟨p, 1, none⟩ = some (.slice (some ⟨b, off, none⟩) n c)) (h1 : V.cell? ⟨b, off + k * 6, none⟩ = some (.int .i64 x.m)) (h2 : FiveAt V g (k * 5) z) :
    V.cell? ⟨p, 1, none⟩ = some (.slice (some ⟨b, off, none⟩) n c) ∧ V.cell? ⟨b, off + k * 6, none⟩ = some (.int .i64 x.m) ∧ (V.cell? ⟨g, k * 5, none⟩ = some (.int .i64 z.k) ∧ V.cell? ⟨g, k * 5 + 1, none⟩ = some (.int .i64 z.p) ∧ V.cell? ⟨g, k * 5 + 2, none⟩ = some (.int .u8 z.c) ∧ V.cell? ⟨g, k * 5 + 3, none⟩ = some (.int .i64 z.l) ∧ V.cell? ⟨g, k * 5 + 4, none⟩ = some (.int .i64 z.s)) := ⟨h0, h1, h2⟩
section
variable {p : Nat} {A : Option Addr} {c : Nat} {B : Option Addr} {e : Nat} {y : PRef} {f : Bool}
set_option maxHeartbeats 4000000 in
theorem rqueue_any (w : World) (h : RefAt w p A c B e y f) (hl : y.own.length ≤ 100000) (hl2 : y.far.length ≤ 100000) (hF : y.Fine) :
    Calls Tryd.prog 61 #[.pointer (some ⟨p, 0, none⟩)] w fun ex w' =>
      ∃ (A' : Option Addr) (c' : Nat), ex = .returned (.slice A' (y.queue f).length c') ∧ OwnV mkF 87 w.heap.size w' (.slice A' (y.queue f).length c') (y.queue f) ∧ Below w.heap.size w w' := by
  have HF := Lib.hid hF
  have hfl := Lib.hid (PRef.forms_length (f := f) hF)
  have hql : Hid ((y.queue f).length = y.own.length - y.d) := Lib.hid (by simp [PRef.queue, withOps_len _ _ hfl.out])
  have hdn : y.d ≤ y.own.length := hF.1
  clear hF
  obtain ⟨n, hn⟩ : ∃ n, n = y.own.length := ⟨_, rfl⟩
  have HN := Lib.hid hn
  rw [← hn] at hl hdn
  go_enter Tryd.func61, Tryd.ntmps61
  go_wp2_with fail
  with_reducible refine (rline_any ⟨0, 0, 0, 0, 0⟩ w h (by omega) hl2 HF.out).mono ?_
  rintro ex w1 ⟨g, z, hz, rfl, rg, hg, hb⟩
  have B1 := below_alloc hb (.cells #[.int .i64 z.k, .int .i64 z.p, .int .u8 z.c, .int .i64 z.l, .int .i64 z.s] 23)
  have rg1 := rg.below (below_alloc (Below.refl _ _) (.cells #[.int .i64 z.k, .int .i64 z.p, .int .u8 z.c, .int .i64 z.l, .int .i64 z.s] 23))
  have hS := h.on B1
  obtain ⟨e0, e1, e2, e3, lt⟩ := hS.blk.four
  rw [← HN.out] at e1
  clear hb rg hz
  go_wp2_with fail
  generalize w1.alloc (.cells #[.int .i64 z.k, .int .i64 z.p, .int .u8 z.c, .int .i64 z.l, .int .i64 z.s] 23) = w2 at *
  go_loopw [5, 6] (fun v i wr => ∃ (k : Nat) (l : List PMk) (A' : Option Addr) (c' : Nat), y.d ≤ k ∧ k ≤ n ∧ i = .int .i64 k ∧ Hid (l = (y.queue f).take (k - y.d)) ∧ l.length ≤ k ∧ v = .slice A' l.length c' ∧ OwnV mkF 87 w2.heap.size wr (.slice A' l.length c') l ∧ Below w2.heap.size w2 wr) (fun v i wr => n - (intOf i).toNat)
  case atStart => exact ⟨y.d, [], none, 0, Nat.le_refl _, hdn, rfl, Lib.hid (by simp), by simp, rfl, OwnV.nil _ _, Below.refl _ _⟩
  case round =>
    clear e0 e1 e2 e3 lt
    obtain ⟨k, l, A', c', hdk, hkn, rfl, hl0, hlk, rfl, hO, hB⟩ := hrel
    have hT := hS.on hB
    obtain ⟨e0, e1, e2, e3, lt⟩ := hT.blk.four
    rw [← HN.out] at e1
    by_cases hlt : k < n
    · obtain ⟨b, off, x, hA, hx, hbl, s0, s1, s2, s3, s4, s5⟩ := hS.rdO.six k (by have := HN.out; omega)
      subst hA
      obtain ⟨g', o', u, hg', hu, hgl, FU⟩ := rg1.five k (by rw [hfl.out]; have := HN.out; omega)
      obtain ⟨rfl, rfl⟩ : g = g' ∧ 0 = o' := by simpa using hg'
      rw [Nat.zero_add] at FU
      have s0' := cell_keep s0 hB hbl
      have FU' := five_keep FU hB hgl
      have hp2 := hS.blk.lt
      have hl1 : Hid (l ++ [⟨x.m, u⟩] = (y.queue f).take (k + 1 - y.d)) := Lib.hid (by rw [queue_snoc HF.out hdk hx.out hu.out, hl0.out])
      have sz := hB.size
      have hvb : ∀ t, t < w2.heap.size → some t ≠ (Value.slice A' l.length c').ownBlock := fun t ht e => by have := (hO.lt t e.symm).1; omega
      have W1 := ((below_alloc (Below.refl wr.heap.size wr) (.cells (mkF.cells ⟨x.m, u⟩).toArray 87)).drew)
      have b0 : b < wr.heap.size := by omega
      have g0 : g < wr.heap.size := by omega
      clear s0 s1 s2 s3 s4 s5 hx hu hg' e0 e2 e3 hT
      go_wp2_with fail
      go_region_held3 (fun V => V.cell? ⟨p, 1, none⟩ = some (.slice (some ⟨b, off, none⟩) n c) ∧ V.cell? ⟨b, off + k * 6, none⟩ = some (.int .i64 x.m) ∧ (V.cell? ⟨g, k * 5, none⟩ = some (.int .i64 u.k) ∧ V.cell? ⟨g, k * 5 + 1, none⟩ = some (.int .i64 u.p) ∧ V.cell? ⟨g, k * 5 + 2, none⟩ = some (.int .u8 u.c) ∧ V.cell? ⟨g, k * 5 + 3, none⟩ = some (.int .i64 u.l) ∧ V.cell? ⟨g, k * 5 + 4, none⟩ = some (.int .i64 u.s)))
        (first | ((with_reducible refine rq_s (cell_keep e1 ?_ lt) (cell_keep s0' ?_ b0) (five_keep FU' ?_ g0) <;> (repeat' (first | with_reducible exact Below.refl _ _ | with_reducible exact W1 | with_reducible refine Below.drew ?_ | with_reducible refine below_alloc ?_ _ | fail))); done) | ((with_reducible exact hs3); done) | fail)
        (first
          | (refine step_appV El.mark (by decide) (by decide) _ rfl _ _ 76 rfl Tryd.underlying76 w2.heap.size (.slice A' l.length c') l [⟨x.m, u⟩] ⟨wr.heap.size, 0, none⟩ 1 1 rfl rfl rfl (OwnV.drew (hO.alloc _)) (Rd.drew (Blk.rdMk (Blk.new wr _ _))) (by simp; omega) (by simp; omega) ?_; intro v' w3 hO3 hg3 hv3; obtain ⟨A3, c3, hv', hR⟩ := hO3.rd; subst hv'; (have hs3 := rq_s (hg3.cell (cell_keep e1 W1 lt) (hvb _ hp2)) (hg3.cell (cell_keep s0' W1 b0) (hvb _ hbl)) (show FiveAt w3 g (k * 5) u from ⟨hg3.cell (five_keep FU' W1 g0).1 (hvb _ hgl), hg3.cell (five_keep FU' W1 g0).2.1 (hvb _ hgl), hg3.cell (five_keep FU' W1 g0).2.2.1 (hvb _ hgl), hg3.cell (five_keep FU' W1 g0).2.2.2.1 (hvb _ hgl), hg3.cell (five_keep FU' W1 g0).2.2.2.2 (hvb _ hgl)⟩)))
          | fail)
      all_goals
        have hlen : (l ++ [(⟨x.m, u⟩ : PMk)]).length = l.length + 1 := by simp
        have hB3 : Below w2.heap.size w2 w3 := (hB.trans (W1.mono sz)).grown hg3 (Nat.le_trans sz W1.size) (fun t e => (hO.lt t e).1)
        clear hs3 e1 s0' FU' hg3 hv3 hB W1 hO hl0
        go_wp2_with fail
        go_roundw
        case rel => exact ⟨k + 1, l ++ [⟨x.m, u⟩], A3, c3, by omega, by omega, by go_num, hl1, by rw [hlen]; omega, by rw [hlen], hO3, hB3⟩
        case measure => simp [intOf]; omega
    · have hkq : Hid (l = y.queue f) := Lib.hid (by
        rw [hl0.out, List.take_of_length_le]
        rw [hql.out]
        have := HN.out
        omega)
      clear hT hn
      go_wp2_with fail
      go_ret
      rw [hkq.out] at hO
      refine ⟨A', c', by rw [hkq.out]; rfl, hO.weak B1.size, B1.trans (hB.mono B1.size)⟩
end
end Go.Proofs.YtkicbnkacjnhoaaDoor
