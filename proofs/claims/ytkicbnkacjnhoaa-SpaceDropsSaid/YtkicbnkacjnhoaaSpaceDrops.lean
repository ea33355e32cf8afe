/- The row of jotterlaw10.SpaceDrops: its arguments opened; the walk; shut. -/
import Derived.Test.YtkicbnkacjnhoaaRows
import Derived.Test.YtkicbnkacjnhoaaSpDropsWalk
import Derived.ProofKit
import Derived.OpenShut
import Derived.Deep.Slices
import Derived.SizedLaws
namespace Go.Proofs.Ytkicbnkacjnhoaa
open Go.ChangeShapes Go.WideShapes Go.ChangeAt Go.RowKit
set_option linter.unusedVariables false
set_option linter.unusedSimpArgs false
set_option linter.constructorNameAsVariable false
set_option maxRecDepth 100000

theorem Try.own : ownKnob Try.prog.godebug = none := by kernel_rfl
instance : Inhabited POp := ⟨⟨0, 0, 0, 0, 0⟩⟩
theorem Try.laidOut : laidOutB Try.prog = true := by kernel_rfl
def I64 (x : Int) : Prop := -9223372036854775808 ≤ x ∧ x ≤ 9223372036854775807
def U8 (x : Int) : Prop := 0 ≤ x ∧ x ≤ 255
def POp.Ok (o : POp) : Prop := I64 o.k ∧ I64 o.p ∧ U8 o.c ∧ I64 o.l ∧ I64 o.s
theorem i64_of {x : Int} (h : (Lit.int .i64 x).wf = true) : I64 x := bounds_i64 h
theorem u8_of {x : Int} (h : (Lit.int .u8 x).wf = true) : U8 x := bounds_u8 h

/-- How an element type's cells read. -/
def Reads {α : Type} (e : TypeId) (F : Flat α) (ok : α → Prop) : Prop :=
  ∀ {H : Type} (enc : TypeId × Value → H) (W : World) (base : Nat) (spare : Nat → Bool) (held : Bool) (fuel : Nat) (cs : List Value) (x : DataW H × List MemPlace), DataW.trod enc Try.prog W base spare held fuel e cs = some x → ∃ a, cs = F.cells a ∧ ok a

theorem c3 : Try.prog.cellsOf 3 = 1 := by kernel_rfl
theorem c4 : Try.prog.cellsOf 4 = 1 := by kernel_rfl
theorem c5 : Try.prog.cellsOf 5 = 1 := by kernel_rfl
theorem c33 : Try.prog.cellsOf 33 = 5 := by kernel_rfl
theorem list5 {α : Type} {l : List α} (h : l.length = 5) : ∃ a b c d e, l = [a, b, c, d, e] := by
  match l, h with
  | [a, b, c, d, e], _ => exact ⟨a, b, c, d, e, rfl⟩
theorem list3 {α : Type} {l : List α} (h : l.length = 3) : ∃ a b c, l = [a, b, c] := by
  match l, h with
  | [a, b, c], _ => exact ⟨a, b, c, rfl⟩

section
variable {H : Type} {enc : TypeId × Value → H} {W : World} {base : Nat} {spare : Nat → Bool} {held : Bool} {m : Nat}
theorem field_int {v : Value} {y : Option (DataW H × List MemPlace)} (h : DataW.trod enc Try.prog W base spare held m 3 [v] = y) (hy : y.isSome = true) : ∃ n, v = .int .i64 n ∧ I64 n := by
  obtain ⟨z, hz⟩ := Option.isSome_iff_exists.1 hy
  rw [hz] at h
  obtain ⟨n, e, _, w⟩ := DataW.trod_int Try.underlying3 h
  exact ⟨n, by simpa using e, i64_of w⟩
theorem field_u8 {v : Value} {y : Option (DataW H × List MemPlace)} (h : DataW.trod enc Try.prog W base spare held m 5 [v] = y) (hy : y.isSome = true) : ∃ n, v = .int .u8 n ∧ U8 n := by
  obtain ⟨z, hz⟩ := Option.isSome_iff_exists.1 hy
  rw [hz] at h
  obtain ⟨n, e, _, w⟩ := DataW.trod_int Try.underlying5 h
  exact ⟨n, by simpa using e, u8_of w⟩
theorem field_bool {v : Value} {y : Option (DataW H × List MemPlace)} (h : DataW.trod enc Try.prog W base spare held m 4 [v] = y) (hy : y.isSome = true) : ∃ b, v = .bool b := by
  obtain ⟨z, hz⟩ := Option.isSome_iff_exists.1 hy
  rw [hz] at h
  obtain ⟨b, e, _⟩ := DataW.trod_bool Try.underlying4 h
  exact ⟨b, by simpa using e⟩
end
theorem isSome_at {α : Type} {xs : List α} {i : Nat} (h : i < xs.length) : (xs[i]?).isSome = true := by simp [h]

theorem reads33 : Reads 33 opF POp.Ok := by
  intro H enc W base spare held fuel cs x h
  obtain ⟨xs, m, _, _, hlen, hxl, hf⟩ := DataW.trod_struct Try.underlying33 h
  rw [c33] at hlen
  obtain ⟨v0, v1, v2, v3, v4, rfl⟩ := list5 hlen
  have hl : xs.length = 5 := hxl
  have g0 : DataW.trod enc Try.prog W base spare held m 3 [v0] = xs[0]? := by simpa [c3] using hf 0 _ rfl
  have g1 : DataW.trod enc Try.prog W base spare held m 3 [v1] = xs[1]? := by simpa [c3] using hf 1 _ rfl
  have g2 : DataW.trod enc Try.prog W base spare held m 5 [v2] = xs[2]? := by simpa [c5] using hf 2 _ rfl
  have g3 : DataW.trod enc Try.prog W base spare held m 3 [v3] = xs[3]? := by simpa [c3] using hf 3 _ rfl
  have g4 : DataW.trod enc Try.prog W base spare held m 3 [v4] = xs[4]? := by simpa [c3] using hf 4 _ rfl
  obtain ⟨a0, rfl, w0⟩ := field_int g0 (isSome_at (by omega))
  obtain ⟨a1, rfl, w1⟩ := field_int g1 (isSome_at (by omega))
  obtain ⟨a2, rfl, w2⟩ := field_u8 g2 (isSome_at (by omega))
  obtain ⟨a3, rfl, w3⟩ := field_int g3 (isSome_at (by omega))
  obtain ⟨a4, rfl, w4⟩ := field_int g4 (isSome_at (by omega))
  exact ⟨⟨a0, a1, a2, a3, a4⟩, rfl, w0, w1, w2, w3, w4⟩

/-- A slice of structs: what it reads as; how long it may be. -/
theorem open_sl {α : Type} [Inhabited α] {F : Flat α} {ok : α → Prop} {t e : TypeId} (hR : Reads e F ok) (ht : Try.prog.underlying t = some (.slice e)) (hc : Try.prog.cellsOf e = F.n) (hn : 0 < F.n)
    {H : Type} {enc : TypeId × Value → H} {W : World} {b0 : Nat} {r : Reach} {v : Value} {d : DataW H} {p : List MemPlace}
    (hv : Value.okWide Try.prog W r b0 t v) (h : DataW.Trod enc Try.prog W 0 (fun _ => true) true t v d p)
 :
    ∃ (A : Option Addr) (xs : List α) (cap : Nat), v = .slice A xs.length cap ∧ xs.length ≤ cap ∧ cap ≤ maxLen ∧ Rd F W A xs ∧ (∀ x ∈ xs, ok x) := by
  obtain ⟨A, len, cap, rfl⟩ := okWide_slice ht hv
  obtain ⟨fuel, hf⟩ := h
  rcases Go.Deep.open_slice ht hf with ⟨hcs, _⟩ | ⟨a, l, c, m, n, D, Pl, hcs, _, hl, hm, hmm, hx, hel⟩
  · simp [Value.cells] at hcs
    obtain ⟨rfl, rfl, rfl⟩ := hcs
    exact ⟨none, [], 0, rfl, Nat.le_refl _, Nat.zero_le _, Rd.nil F W none, by simp⟩
  · simp [Value.cells] at hcs
    obtain ⟨rfl, rfl, rfl⟩ := hcs
    simp at hmm
    subst hmm
    have hall : ∀ i, i < len → ∃ x : α, (∀ k u, (F.cells x)[k]? = some u → W.cell? ((a.add (i * F.n)).add k) = some u) ∧ ok x := by
      intro i hi
      obtain ⟨cs', h1, h2⟩ := hel i (by omega)
      obtain ⟨x, e1, w⟩ := hR enc W 0 (fun _ => true) true n cs' _ h2
      obtain ⟨_, hl2, h3⟩ := World.cells?_some h1
      rw [hc] at h3 hl2
      refine ⟨x, fun k u hu => ?_, w⟩
      have hk : k < F.n := by have := (List.getElem?_eq_some_iff.1 hu).1; rwa [F.len] at this
      rw [h3 k hk, e1]
      exact hu
    obtain ⟨f, hfx⟩ := Go.Deep.choose_lt hall
    have hlen : ((List.range len).map f).length = len := by simp
    simp only [Prod.mk.injEq] at hx
    obtain ⟨rfl, _⟩ := hx
    refine ⟨some a, (List.range len).map f, m, by rw [hlen], by rw [hlen]; exact hl, hm, ⟨fun i hi => ?_⟩, ?_⟩
    · have hi' : i < len := by simpa using hi
      have hg : ((List.range len).map f)[i] = f i := by simp
      obtain ⟨b, off, spot⟩ := a
      have hsp : spot = none := by
        have h0 : 0 < len := by omega
        have hl0 : 0 < (F.cells (f 0)).length := by rw [F.len]; exact hn
        have := World.cell?_spot ((hfx 0 h0).1 0 _ (List.getElem?_eq_getElem hl0))
        simpa [Addr.add] using this
      subst hsp
      refine ⟨b, off, rfl, fun k u hu => ?_⟩
      rw [hg] at hu
      have := (hfx i hi').1 k u hu
      rw [Go.Deep.add_add] at this
      have ha : (⟨b, off, none⟩ : Addr).add (i * F.n + k) = ⟨b, off + i * F.n + k, none⟩ := by
        unfold Addr.add; split <;> simp_all [Nat.add_assoc]
      rwa [ha] at this
    · intro x hx
      obtain ⟨i, hi, rfl⟩ := List.mem_map.1 hx
      exact (hfx i (by simpa using hi)).2

set_option maxRecDepth 100000 in
theorem drops_lifted (os : Os) (started : os.Started) (H : Type) (enc : TypeId × Value → H) :
    ReturnsInHanded {} Try.checked os 3 .any (Rows.spaceDropsSpec.pre6 enc Try.prog Try.f3 Rows.spaceDropsRow.domain false) (Rows.spaceDropsSpec.post enc Try.prog Try.f3 false true false false) := by
  refine returnsInHanded_of_change (C := Try.checked) Try.own started (by kernel_rfl) Try.func3
    (ChangeSpec.witness6 (enc := enc) (C := Try.checked) false ⟨#[], #[.bool false, .slice none 0 0, .int .i64 0], []⟩ 8 (by kernel_rfl) (by kernel_rfl) (by kernel_rfl) (by kernel_rfl)) ?_
  intro W base args ds gs before hval0 hW hcnd _
  have hval : ∀ (j : Nat) t v, Try.f3.params[j]? = some t → args[j]? = some v → Value.okWide Try.prog W .any base t v := hval0
  have hW' := hW
  obtain ⟨p, q, hA0, hV, rfl, hfz, hnd⟩ := hW
  have hA : DataW.TrodAll enc Try.prog W 0 (fun _ => true) true Try.f3.params.toList args.toList ds p := hA0
  rw [Try.params3] at hA hval
  obtain ⟨v0, vs0, d0, ds0, p0, q0, hargs, rfl, rfl, h0, r0⟩ := trodAll_cons hA
  obtain ⟨v1, vs1, d1, ds1, p1, q1, rfl, rfl, rfl, h1, r1⟩ := trodAll_cons r0
  obtain ⟨v2, vs2, d2, ds2, p2, q2, rfl, rfl, rfl, h2, r2⟩ := trodAll_cons r1
  obtain ⟨rfl, rfl, rfl⟩ := trodAll_nil r2
  obtain rfl : args = #[v0, v1, v2] := by cases args; simp_all
  obtain ⟨rfl, rfl⟩ := trodVars_none hV
  have k0 := h0
  have lt0 : ∀ x ∈ p0, x.block < W.heap.size := by obtain ⟨m, hm⟩ := k0; exact DataW.trod_lt m _ _ _ hm
  obtain ⟨x0, rfl, _, _⟩ := open_bool Try.underlying4 (hval 0 4 v0 rfl rfl) h0
  have k1 := h1
  have lt1 : ∀ x ∈ p1, x.block < W.heap.size := by obtain ⟨m, hm⟩ := k1; exact DataW.trod_lt m _ _ _ hm
  obtain ⟨A1, x1, c1, rfl, lc1, mc1, rd1, ok1⟩ := open_sl (F := opF) reads33 Try.underlying22 (by kernel_rfl) (by decide) (hval 1 22 v1 rfl rfl) h1
  have ml1 : x1.length ≤ 9223372036854775807 := by have := mc1; simp only [maxLen] at this; omega
  have k2 := h2
  have lt2 : ∀ x ∈ p2, x.block < W.heap.size := by obtain ⟨m, hm⟩ := k2; exact DataW.trod_lt m _ _ _ hm
  obtain ⟨x2, rfl, _, _, w20⟩ := open_int Try.underlying3 (hval 2 3 v2 rfl rfl) h2
  clear hA0 hval0
  refine (drops_any x0 A1 c1 x1 x2 W rd1 (fun o ho => (ok1 o ho).2.2.1) ml1).mono fun e W' ⟨he, bel⟩ => ?_
  subst he
  exact ⟨_, rfl, _, _, _, [], _, [], hW', trodAll_mk1 (shut_bool Try.underlying4 _), (trodAll_cons_mk (Below.trod Try.laidOut (by kernel_rfl) (of_decide_eq_true (by kernel_rfl)) k0 bel lt0) (trodAll_cons_mk (Below.trod Try.laidOut (by kernel_rfl) (of_decide_eq_true (by kernel_rfl)) k1 bel lt1) (trodAll_cons_mk (Below.trod Try.laidOut (by kernel_rfl) (of_decide_eq_true (by kernel_rfl)) k2 bel lt2) trodAll_mk0))), rfl, bel.frame _, fun h => by cases h⟩

theorem spaceDrops_holds : Rows.SpaceDropsSaid :=
  OpenClaim.holds_of_wide 3 Try.f3 rfl rfl rfl rfl rfl rfl rfl ⟨rfl, rfl, rfl, rfl, rfl⟩ rfl rfl rfl rfl rfl (by kernel_rfl) Try.func3 (by kernel_rfl)
    (of_decide_eq_true (by kernel_rfl)) (by unfold Func.isWrapper; first | (rw [if_pos (by decide +kernel)]; kernel_rfl) | (rw [if_neg (by decide +kernel)]; exact ⟨rfl, rfl⟩))
    (fun os started H enc _ => drops_lifted os started H enc)
end Go.Proofs.Ytkicbnkacjnhoaa
