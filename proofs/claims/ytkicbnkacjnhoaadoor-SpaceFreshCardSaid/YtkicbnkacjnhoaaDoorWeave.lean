/- The walk of ot.Weave. -/
import Derived.Test.YtkicbnkacjnhoaaDoorThrough
import Derived.Test.YtkicbnkacjnhoaaDoorOtWeave
namespace Go.Proofs.YtkicbnkacjnhoaaDoor
open Go.RowKit
set_option linter.unusedVariables false
set_option linter.unusedSimpArgs false

theorem OwnV.rd {α : Type} {F : Flat α} {e : TypeId} {w : World} {base : Nat} {v : Value} {xs : List α} (h : OwnV F e base w v xs) : ∃ A c, v = .slice A xs.length c ∧ Rd F w A xs := by
  rcases h.c with ⟨rfl, rfl⟩ | ⟨g, cap, rfl, _, hc⟩
  · exact ⟨none, 0, rfl, Rd.nil _ _ _⟩
  · exact ⟨_, cap, rfl, hc.rd⟩
theorem OwnV.lt {α : Type} {F : Flat α} {e : TypeId} {w : World} {base : Nat} {v : Value} {xs : List α} (h : OwnV F e base w v xs) : ∀ g, v.ownBlock = some g → base ≤ g ∧ g < w.heap.size := by
  rcases h.c with ⟨rfl, rfl⟩ | ⟨g, cap, rfl, hb, hc⟩
  · intro g hg; cases hg
  · intro g' hg
    obtain rfl : g = g' := by simpa [Value.ownBlock] using hg
    exact ⟨hb, hc.lt⟩
theorem OwnV.drewN {α : Type} {F : Flat α} {e : TypeId} {w : World} {base : Nat} {v : Value} {xs : List α} (h : OwnV F e base w v xs) (n : Nat) : OwnV F e base (w.drewN n) v xs := h
theorem OwnV.weak {α : Type} {F : Flat α} {e : TypeId} {w : World} {base base' : Nat} {v : Value} {xs : List α} (h : OwnV F e base w v xs) (hb : base' ≤ base) : OwnV F e base' w v xs := by
  rcases h.c with ⟨rfl, rfl⟩ | ⟨g, cap, rfl, hbg, hc⟩
  · exact OwnV.nil _ _
  · exact hc.v (by omega)

theorem OwnV.empty {α : Type} {F : Flat α} (e : TypeId) (w : World) {base : Nat} (hb : base ≤ w.heap.size) : OwnV F e base (w.alloc (.cells #[] e)) (.slice (some ⟨w.heap.size, 0, none⟩) 0 0) [] :=
  ⟨by simp, .inr ⟨w.heap.size, 0, #[], rfl, hb, heap_alloc_new w _, Nat.le_refl _, Nat.zero_le _, by simp, by simp⟩⟩

theorem run_build0 {P : Program} (w : World) (t e : TypeId) (ie : TypeInfo) (hu : P.underlying t = some (.slice e)) (hie : P.info? e = some ie) :
    (Instr.buildSlice t 0 #[]).run P w = .ok (.slice (some ⟨w.heap.size, 0, none⟩) 0 0) (w.alloc (.cells #[] e)) := by
  simp [Instr.buildSlice, run_underlying hu, sizeOf, typeInfo, hie, newRow, Instr.fill]
  rw [show Array.map (fun _ => (default : Value)) (Array.range 0) = #[] by simp [← Array.size_eq_zero_iff]]
/-- []T{} -/
theorem ev_build0 {P : Program} {ops : Array Oper} {rest : List Oper} {o : Oper} {a : Act} {Q : Exit → Act → World → Prop} {α : Type} {F : Flat α} {e : TypeId} {bytes : Nat} {z : α} (E : El P F e bytes z) (w : World) (hg : o.guard = none) (t : TypeId) (ho : o.op = .buildSlice t 0 #[]) (hu : P.underlying t = some (.slice e))
    (h : wpList P ops Q rest (a.put o.dst (.slice (some ⟨w.heap.size, 0, none⟩) 0 0)) (w.alloc (.cells #[] e))) : wpList P ops Q (o :: rest) a w := by
  obtain ⟨i, hi, h3, h4, h5⟩ := info_parts E.info
  refine wpList_plain hg fun K hK => ?_
  unfold Oper.wp execOp
  simp only [ho, Sem.run_bind, List.map_toArray, List.map_nil, run_build0 w t e i hu hi, Result.andThen_ok]
  exact hK _ _ h

theorem ev_move {P : Program} {ops : Array Oper} {rest : List Oper} {o : Oper} {a : Act} {Q : Exit → Act → World → Prop} (w : World) (hg : o.guard = none) (x : Operand) (v : Value) (ho : o.op = .move x) (hx : a.eval x = v) (h : wpList P ops Q rest (a.put o.dst v) w) : wpList P ops Q (o :: rest) a w := by
  refine wpList_plain hg fun K hK => ?_
  unfold Oper.wp execOp
  simp only [ho, hx, Sem.run_pure, Result.andThen_ok]
  exact hK _ _ h

set_option maxHeartbeats 1000000 in
theorem weave_long (A1 A2 : Option Addr) (c1 c2 : Nat) (xs ys : List POp) (w : World) (hn : 4096 < xs.length ∨ 4096 < ys.length) :
    Calls Tryd.prog 42 #[.slice A1 xs.length c1, .slice A2 ys.length c2] w fun e w' => e = .returned (.tuple #[.slice none 0 0, .slice none 0 0, .int .i64 50]) ∧ w' = w := by
  by_cases ha : 4096 < xs.length
  · go_enter Tryd.func42, Tryd.ntmps42
    go_wp2
    refine bodyPost_ret (v := .tuple #[.slice none 0 0, .slice none 0 0, .int .i64 50]) (by simp [results, Tryd.results42, go_sem]) rfl ?_
    exact ⟨rfl, rfl⟩
  · have hb : 4096 < ys.length := by omega
    go_enter Tryd.func42, Tryd.ntmps42
    go_wp2
    refine bodyPost_ret (v := .tuple #[.slice none 0 0, .slice none 0 0, .int .i64 50]) (by simp [results, Tryd.results42, go_sem]) rfl ?_
    exact ⟨rfl, rfl⟩

set_option maxHeartbeats 1000000 in
theorem weave_any (A1 A2 : Option Addr) (c1 c2 : Nat) (xs ys : List POp) (w : World) (hr : RulesAt w) (h1 : Rd opF w A1 xs) (h2 : Rd opF w A2 ys) (n1 : xs.length ≤ 4096) (n2 : ys.length ≤ 4096) :
    Calls Tryd.prog 42 #[.slice A1 xs.length c1, .slice A2 ys.length c2] w fun e w' =>
      ∃ (A : Option Addr) (c g cap : Nat) (ls out : List POp), Hid (weaveL xs ys = (ls, out)) ∧ e = .returned (.tuple #[.slice A ls.length c, .slice (some ⟨g, 0, none⟩) out.length cap, .int .i64 0]) ∧
        OwnV opF 23 w.heap.size w' (.slice A ls.length c) ls ∧ OwnC opF 23 w' g cap out ∧ (Value.slice A ls.length c).ownBlock ≠ some g ∧ w.heap.size ≤ g ∧ Below w.heap.size w w' := by
  go_enter Tryd.func42, Tryd.ntmps42
  go_wp2_with (first
    | (refine at_dst 19 rfl ?_; refine ev_build0 El.op _ rfl 35 rfl Tryd.underlying35 ?_; refine ev_move _ rfl _ _ rfl rfl ?_; refine ev_appS El.op (by decide) (by decide) _ rfl _ _ 35 rfl Tryd.underlying35 w.heap.size _ [] xs A1 xs.length c1 rfl rfl rfl (OwnV.empty 23 w (Nat.le_refl _)) (h1.below (below_alloc (Below.refl _ _) _)) (by simp; omega) (by simp) ?_; intro L w1 oL hg1 hLb; (have B1 : Below w.heap.size w w1 := (below_alloc (Below.refl _ _) _).grown hg1 (by simp) (fun k e => Nat.le_of_eq (Option.some.inj e))))
    | (at_make; refine ev_make0 El.op _ rfl _ _ 35 rfl Tryd.underlying35 _ _ _ ys.length rfl rfl rfl (by omega) (by omega) ?_; intro w2 hO hb2; (have oL2 := oL.on hb2); (have B2 : Below w.heap.size w w2 := B1.trans (hb2.mono B1.size))))
  obtain ⟨A, c, rfl, hrd⟩ := oL.rd
  have hne : ∀ g, (Value.slice A ([] ++ xs).length c).ownBlock = some g → g < w1.heap.size := fun g hg => (oL.lt g hg).2
  have hgw : w.heap.size ≤ w1.heap.size := B1.size
  clear oL hrd hLb hg1 B1
  generalize w1.heap.size = g at hO hne hgw hb2 ⊢
  clear hb2
  go_loopw [7, 8, 27] (fun L v i wr => ∃ (k : Nat) (A : Option Addr) (c : Nat) (ls out : List POp), k ≤ ys.length ∧ i = .int .i64 k ∧ L = .slice A ls.length c ∧ v = .slice (some ⟨g, 0, none⟩) out.length ys.length ∧ Hid (weaveL xs (ys.take k) = (ls, out)) ∧ OwnV opF 23 w.heap.size wr (.slice A ls.length c) ls ∧ OwnC opF 23 wr g ys.length out ∧ (Value.slice A ls.length c).ownBlock ≠ some g ∧ Below w.heap.size w wr) (fun L v i wr => ys.length - (intOf i).toNat)
  case atStart => exact ⟨0, A, c, xs, [], Nat.zero_le _, rfl, rfl, rfl, rfl, oL2, hO, fun h => by have := hne g h; omega, B2⟩
  case round =>
    clear hne oL2 hO B2
    obtain ⟨k, A, c, ls, out, hk, rfl, rfl, rfl, hq, oL, oC, hne, B⟩ := hrel
    have hlen := weaveL_length (ys.take k) xs
    rw [hq.out] at hlen
    simp only [List.length_take, Nat.min_eq_left hk] at hlen
    obtain ⟨hl1, hl2⟩ := hlen
    by_cases hlt : k < ys.length
    · have hgl := oC.lt
      obtain ⟨b, off, x, rfl, hx, e0, e1, e2, e3, e4⟩ := (h2.below B).op k hlt
      have hrd : Rd opF wr A ls := by
        obtain ⟨A', c', he, h⟩ := oL.rd
        injection he with he1 _ _
        rw [he1]
        exact h
      have hroom : out.length < ys.length := by omega
      have HR := Lib.hid hroom
      have hll : ls.length ≤ 4096 := by omega
      clear hroom hl1 hl2
      go_wp2_with fail
      with_reducible refine (past_any _ _ _ _ _ _ _ _ _ _ (hr.on (below_alloc B _)) (hrd.below (below_alloc (Below.refl _ _) _)) hll).mono ?_
      rintro e w3 ⟨gm, cm, y, m, hy, rfl, om, hgm, hb3⟩
      have kx := (Blk.new wr _ _).on hb3
      have oC3 := (oC.alloc _).on hb3
      have B3 : Below w.heap.size w w3 := (below_alloc B _).trans (hb3.mono (by have := B.size; simp; omega))
      simp at hgm
      have lx := kx.lt
      have hWs := B.size
      clear e0 e1 e2 e3 e4 hb3 oL oC hrd hne
      go_wp2_with (first
        | (refine at_st 10 rfl ?_; go_must (refine ev_storeF El.op _ rfl _ _ rfl wr.heap.size y _ 23 rfl rfl kx rfl ?_); intro w4 k4 hg4; have oC4 := oC3.grown hg4 (ne_some (by omega)); have om4 := om.grown hg4 (ne_some (by omega)); (have B4 : Below w.heap.size w w4 := B3.grown hg4 B3.size (fun k e => by injection e; omega)); obtain ⟨f0, f1, f2, f3, f4⟩ := Blk.cells5 (v0 := .int .i64 y.k) (v1 := .int .i64 y.p) (v2 := .int .u8 y.c) (v3 := .int .i64 y.l) (v4 := .int .i64 y.s) k4; have l4 := k4.lt; clear kx oC3 om B3 hg4)
        | (at_builtin; refine ev_app1 El.op _ rfl _ _ 35 rfl Tryd.underlying35 g ys.length out y _ rfl rfl rfl oC4 HR.out ?_; intro w5 oC5 hg5; have om5 := om4.grown hg5 (ne_some (by omega)); (have B5 : Below w.heap.size w w5 := B4.grown hg5 B4.size (fun k e => by injection e; omega)); clear oC4 om4 B4 hg5 f0 f1 f2 f3 f4 l4))
      go_roundw
      case rel =>
        (repeat apply Exists.intro)
        refine ⟨?_, rfl⟩
        refine ⟨k + 1, some ⟨gm, 0, none⟩, cm, m, out ++ [y], by omega, by go_num, rfl, by simp, ?_, om5.v (by omega), oC5, ?_, B5⟩
        · show weaveL xs (ys.take (k + 1)) = _
          rw [List.take_add_one, hx.out, Option.toList_some, weaveL_snoc, hq.out]
          have h : pastL x ls true = (y, m) := hy.out
          show ((pastL x ls true).2, out ++ [(pastL x ls true).1]) = (m, out ++ [y])
          rw [h]
        · simp [Value.ownBlock]; omega
      case measure => simp [intOf]; omega
    · have hkn : k = ys.length := by omega
      subst hkn
      have hq2 : Hid (weaveL xs ys = (ls, out)) := by have := hq.out; rwa [List.take_length] at this
      clear hl1 hl2 hq
      go_wp2
      refine bodyPost_ret (v := .tuple #[.slice A ls.length c, .slice (some ⟨g, 0, none⟩) out.length ys.length, .int .i64 0]) (by simp [results, Tryd.results42, go_sem]) rfl ?_
      exact ⟨A, c, g, _, ls, out, hq2, rfl, oL, oC, hne, hgw, B⟩
end Go.Proofs.YtkicbnkacjnhoaaDoor
