/- The arguments of this seat's laws, opened: structs of plain fields by value, slices of them. -/
import Derived.Test.YtkicbnkacjnhoaaDoorForm
import Derived.Test.YtkicbnkacjnhoaaDoorMem
import Derived.Deep.Slices
import Derived.SizedLaws
namespace Go.Proofs.YtkicbnkacjnhoaaDoor
open Go.ChangeShapes Go.WideShapes Go.ChangeAt Go.RowKit
set_option linter.unusedVariables false
set_option linter.unusedSimpArgs false
set_option linter.constructorNameAsVariable false
set_option maxRecDepth 100000

def I64 (x : Int) : Prop := -9223372036854775808 ≤ x ∧ x ≤ 9223372036854775807
def U8 (x : Int) : Prop := 0 ≤ x ∧ x ≤ 255
def POp.Ok (o : POp) : Prop := I64 o.k ∧ I64 o.p ∧ U8 o.c ∧ I64 o.l ∧ I64 o.s
theorem i64_of {x : Int} (h : (Lit.int .i64 x).wf = true) : I64 x := bounds_i64 h
theorem u8_of {x : Int} (h : (Lit.int .u8 x).wf = true) : U8 x := bounds_u8 h

/-- How an element type's cells read. -/
def Reads {α : Type} (e : TypeId) (F : Flat α) (ok : α → Prop) : Prop :=
  ∀ {H : Type} (enc : TypeId × Value → H) (W : World) (base : Nat) (spare : Nat → Bool) (held : Bool) (fuel : Nat) (cs : List Value) (x : DataW H × List MemPlace), DataW.trod enc Tryd.prog W base spare held fuel e cs = some x → ∃ a, cs = F.cells a ∧ ok a

theorem c3 : Tryd.prog.cellsOf 3 = 1 := by kernel_rfl
theorem c4 : Tryd.prog.cellsOf 4 = 1 := by kernel_rfl
theorem c5 : Tryd.prog.cellsOf 5 = 1 := by kernel_rfl
theorem c23 : Tryd.prog.cellsOf 23 = 5 := by kernel_rfl
theorem list5 {α : Type} {l : List α} (h : l.length = 5) : ∃ a b c d e, l = [a, b, c, d, e] := by
  match l, h with
  | [a, b, c, d, e], _ => exact ⟨a, b, c, d, e, rfl⟩
theorem list3 {α : Type} {l : List α} (h : l.length = 3) : ∃ a b c, l = [a, b, c] := by
  match l, h with
  | [a, b, c], _ => exact ⟨a, b, c, rfl⟩

section
variable {H : Type} {enc : TypeId × Value → H} {W : World} {base : Nat} {spare : Nat → Bool} {held : Bool} {m : Nat}
theorem field_int {v : Value} {y : Option (DataW H × List MemPlace)} (h : DataW.trod enc Tryd.prog W base spare held m 3 [v] = y) (hy : y.isSome = true) : ∃ n, v = .int .i64 n ∧ I64 n := by
  obtain ⟨z, hz⟩ := Option.isSome_iff_exists.1 hy
  rw [hz] at h
  obtain ⟨n, e, _, w⟩ := DataW.trod_int Tryd.underlying3 h
  exact ⟨n, by simpa using e, i64_of w⟩
theorem field_u8 {v : Value} {y : Option (DataW H × List MemPlace)} (h : DataW.trod enc Tryd.prog W base spare held m 5 [v] = y) (hy : y.isSome = true) : ∃ n, v = .int .u8 n ∧ U8 n := by
  obtain ⟨z, hz⟩ := Option.isSome_iff_exists.1 hy
  rw [hz] at h
  obtain ⟨n, e, _, w⟩ := DataW.trod_int Tryd.underlying5 h
  exact ⟨n, by simpa using e, u8_of w⟩
theorem field_bool {v : Value} {y : Option (DataW H × List MemPlace)} (h : DataW.trod enc Tryd.prog W base spare held m 4 [v] = y) (hy : y.isSome = true) : ∃ b, v = .bool b := by
  obtain ⟨z, hz⟩ := Option.isSome_iff_exists.1 hy
  rw [hz] at h
  obtain ⟨b, e, _⟩ := DataW.trod_bool Tryd.underlying4 h
  exact ⟨b, by simpa using e⟩
end
theorem isSome_at {α : Type} {xs : List α} {i : Nat} (h : i < xs.length) : (xs[i]?).isSome = true := by simp [h]

theorem reads23 : Reads 23 opF POp.Ok := by
  intro H enc W base spare held fuel cs x h
  obtain ⟨xs, m, _, _, hlen, hxl, hf⟩ := DataW.trod_struct Tryd.underlying23 h
  rw [c23] at hlen
  obtain ⟨v0, v1, v2, v3, v4, rfl⟩ := list5 hlen
  have hl : xs.length = 5 := hxl
  have g0 : DataW.trod enc Tryd.prog W base spare held m 3 [v0] = xs[0]? := by simpa [c3] using hf 0 _ rfl
  have g1 : DataW.trod enc Tryd.prog W base spare held m 3 [v1] = xs[1]? := by simpa [c3] using hf 1 _ rfl
  have g2 : DataW.trod enc Tryd.prog W base spare held m 5 [v2] = xs[2]? := by simpa [c5] using hf 2 _ rfl
  have g3 : DataW.trod enc Tryd.prog W base spare held m 3 [v3] = xs[3]? := by simpa [c3] using hf 3 _ rfl
  have g4 : DataW.trod enc Tryd.prog W base spare held m 3 [v4] = xs[4]? := by simpa [c3] using hf 4 _ rfl
  obtain ⟨a0, rfl, w0⟩ := field_int g0 (isSome_at (by omega))
  obtain ⟨a1, rfl, w1⟩ := field_int g1 (isSome_at (by omega))
  obtain ⟨a2, rfl, w2⟩ := field_u8 g2 (isSome_at (by omega))
  obtain ⟨a3, rfl, w3⟩ := field_int g3 (isSome_at (by omega))
  obtain ⟨a4, rfl, w4⟩ := field_int g4 (isSome_at (by omega))
  exact ⟨⟨a0, a1, a2, a3, a4⟩, rfl, w0, w1, w2, w3, w4⟩

/-- A struct by value. -/
theorem open_val {α : Type} {F : Flat α} {ok : α → Prop} {t : TypeId} {fs : Array Field} (hR : Reads t F ok) (hs : Tryd.prog.underlying t = some (.struct fs)) {H : Type} {enc : TypeId × Value → H} {W : World} {base b0 : Nat} {spare : Nat → Bool} {held : Bool} {r : Reach} {v : Value} {d : DataW H} {p : List MemPlace}
    (hv : Value.okWide Tryd.prog W r b0 t v) (h : DataW.Trod enc Tryd.prog W base spare held t v d p) : ∃ a, v = .agg (F.cells a).toArray ∧ ok a := by
  obtain ⟨cs, rfl, hsz⟩ := okWide_struct hs hv
  obtain ⟨fuel, hf⟩ := h
  obtain ⟨a, e, w⟩ := hR enc W base spare held fuel _ _ hf
  have e2 : cs.toList = F.cells a := by simpa [Value.cells] using e
  refine ⟨a, ?_, w⟩
  rw [← e2]

/-- A slice of structs: what it reads as; how long it may be. -/
theorem open_sl {α : Type} [Inhabited α] {F : Flat α} {ok : α → Prop} {t e : TypeId} {B : Nat} (hR : Reads e F ok) (ht : Tryd.prog.underlying t = some (.slice e)) (hc : Tryd.prog.cellsOf e = F.n) (hn : 0 < F.n) (hB : Tryd.prog.bytesOf e = B)
    {H : Type} {enc : TypeId × Value → H} {W : World} {b0 : Nat} {r : Reach} {v : Value} {d : DataW H} {p : List MemPlace} {ts : List TypeId} {ds : List (DataW H)} {j : Nat}
    (hv : Value.okWide Tryd.prog W r b0 t v) (h : DataW.Trod enc Tryd.prog W 0 (fun _ => true) true t v d p)
    (hsz : (DataW.weightsEach Tryd.prog ts ds).all (· ≤ reachBytes) = true) (htj : ts[j]? = some t) (hdj : ds[j]? = some d) :
    ∃ (A : Option Addr) (xs : List α) (cap : Nat), v = .slice A xs.length cap ∧ xs.length ≤ cap ∧ cap ≤ maxLen ∧ Rd F W A xs ∧ (∀ x ∈ xs, ok x) ∧ xs.length * B ≤ 140737488351232 := by
  obtain ⟨A, len, cap, rfl⟩ := okWide_slice ht hv
  obtain ⟨fuel, hf⟩ := h
  rcases Go.Deep.open_slice ht hf with ⟨hcs, _⟩ | ⟨a, l, c, m, n, D, Pl, hcs, _, hl, hm, hmm, hx, hel⟩
  · simp [Value.cells] at hcs
    obtain ⟨rfl, rfl, rfl⟩ := hcs
    exact ⟨none, [], 0, rfl, Nat.le_refl _, Nat.zero_le _, Rd.nil F W none, by simp, by simp⟩
  · simp [Value.cells] at hcs
    obtain ⟨rfl, rfl, rfl⟩ := hcs
    simp at hmm
    subst hmm
    have hall : ∀ i, i < len → ∃ x : α, (∀ k u, (F.cells x)[k]? = some u → W.cell? ((a.add (i * F.n)).add k) = some u) ∧ ok x := by
      intro i hi
      obtain ⟨cs', h1, h2⟩ := hel i (by omega)
      obtain ⟨x, e1, w⟩ := hR enc W 0 (fun _ => true) true n cs' _ h2
      obtain ⟨_, hl2, h3⟩ := World.cells?_some h1
      rw [hc] at h3 hl2
      refine ⟨x, fun k u hu => ?_, w⟩
      have hk : k < F.n := by have := (List.getElem?_eq_some_iff.1 hu).1; rwa [F.len] at this
      rw [h3 k hk, e1]
      exact hu
    obtain ⟨f, hfx⟩ := Go.Deep.choose_lt hall
    have hlen : ((List.range len).map f).length = len := by simp
    simp only [Prod.mk.injEq] at hx
    obtain ⟨rfl, _⟩ := hx
    have hz := sized_slice hsz htj hdj ht
    refine ⟨some a, (List.range len).map f, m, by rw [hlen], by rw [hlen]; exact hl, hm, ⟨fun i hi => ?_⟩, ?_, ?_⟩
    · have hi' : i < len := by simpa using hi
      have hg : ((List.range len).map f)[i] = f i := by simp
      obtain ⟨b, off, spot⟩ := a
      have hsp : spot = none := by
        have h0 : 0 < len := by omega
        have hl0 : 0 < (F.cells (f 0)).length := by rw [F.len]; exact hn
        have := World.cell?_spot ((hfx 0 h0).1 0 _ (List.getElem?_eq_getElem hl0))
        simpa [Addr.add] using this
      subst hsp
      refine ⟨b, off, rfl, fun k u hu => ?_⟩
      rw [hg] at hu
      have := (hfx i hi').1 k u hu
      rw [Go.Deep.add_add] at this
      have ha : (⟨b, off, none⟩ : Addr).add (i * F.n + k) = ⟨b, off + i * F.n + k, none⟩ := by
        unfold Addr.add; split <;> simp_all [Nat.add_assoc]
      rwa [ha] at this
    · intro x hx
      obtain ⟨i, hi, rfl⟩ := List.mem_map.1 hx
      exact (hfx i (by simpa using hi)).2
    · rw [hlen]
      rw [hB] at hz
      simp only [List.length_map, List.length_range] at hz
      have : len * B ≤ (len + (m - len)) * B := Nat.mul_le_mul_right _ (by omega)
      exact Nat.le_trans this hz
end Go.Proofs.YtkicbnkacjnhoaaDoor
