/- Slice expressions: a[:k] reads as the first k, a[k:] as the rest. -/
import Derived.Test.YtkicbnkacjnhoaaDoorMem
namespace Go.Proofs.YtkicbnkacjnhoaaDoor
open Go.RowKit
set_option linter.unusedVariables false
section
variable {α : Type} {F : Flat α} {w : World} {A : Option Addr} {xs : List α}
theorem add_plain (b off k : Nat) : (⟨b, off, none⟩ : Addr).add k = ⟨b, off + k, none⟩ := by unfold Addr.add; split <;> simp_all
theorem Rd.take (h : Rd F w A xs) (k : Nat) : Rd F w A (xs.take k) :=
  ⟨fun i hi => by
    have hi' : i < xs.length := by simp at hi; omega
    obtain ⟨b, off, e, hc⟩ := h.at_ i hi'
    exact ⟨b, off, e, fun j u hu => hc j u (by simpa using hu)⟩⟩
theorem Rd.dropAt (h : Rd F w A xs) (k : Nat) (A' : Option Addr) (hA : k < xs.length → A' = A.map (·.add (k * F.n))) : Rd F w A' (xs.drop k) :=
  ⟨fun i hi => by
    have hi' : k + i < xs.length := by simp at hi; omega
    obtain ⟨b, off, e, hc⟩ := h.at_ (k + i) hi'
    refine ⟨b, off + k * F.n, by rw [hA (by omega), e]; simp [add_plain], fun j u hu => ?_⟩
    have := hc j u (by simpa using hu)
    rw [show off + k * F.n + i * F.n + j = off + (k + i) * F.n + j by rw [Nat.add_mul]; omega]
    exact this⟩
end
section
variable {P : Program} {ops : Array Oper} {rest : List Oper} {o : Oper} {a : Act} {Q : Exit → Act → World → Prop} {α : Type} {F : Flat α} {e : TypeId} {bytes : Nat} {z : α}
/-- x[:k] -/
theorem ev_slH (E : El P F e bytes z) (W : World) (hg : o.guard = none) (t : TypeId) (x y : Operand) (ho : o.op = .slice t x none (some y) none) (ht : P.underlying t = some (.slice e)) (A : Option Addr) (len cap : Nat) (kh : IntKind) (h : Int) (k : Nat)
    (hx : a.eval x = .slice A len cap) (hy : a.eval y = .int kh h) (hk : h = (k : Int)) (hkl : k ≤ cap)
    (hK : wpList P ops Q rest (a.put o.dst (.slice A k cap)) W) : wpList P ops Q (o :: rest) a W := by
  obtain ⟨i, hi, h3, h4, h5⟩ := info_parts E.info
  have he : P.elem t = e := by simp [Program.elem, ht]
  refine wpList_plain hg fun K hK' => ?_
  unfold Oper.wp execOp
  simp only [ho, hx, hy, Option.map_some, Option.map_none]
  subst hk
  rw [Sem.run_bind, run_sliceAt_slice (P := P) W t _ _ _ _ (by rw [he]; exact ht), run_slice_h (P := P) W t A len cap (by rw [he]; exact ht) kh k (by omega) (by omega)]
  have hs : (sizeOf e).run P W = .ok F.n W := by simp [sizeOf, typeInfo, hi, h4]
  rw [he, hs]
  simp only [Result.andThen_ok, sliced, Sem.run_pure]
  have e1 : (if cap = 0 then A else A.map (·.add (0 * F.n))) = A := by
    split
    · rfl
    · rcases A with _ | ad
      · rfl
      · have : ad.add 0 = ad := by unfold Addr.add; split <;> simp_all
        simp [this]
  simp only [e1, Int.toNat_natCast, Nat.sub_zero]
  exact hK' _ _ hK
/-- x[k:] -/
theorem ev_slL (E : El P F e bytes z) (W : World) (hg : o.guard = none) (t : TypeId) (x y : Operand) (ho : o.op = .slice t x (some y) none none) (ht : P.underlying t = some (.slice e)) (A : Option Addr) (xs : List α) (len cap : Nat) (kl : IntKind) (l : Int) (k : Nat)
    (hx : a.eval x = .slice A len cap) (hlen : len = xs.length) (hc : len ≤ cap) (hy : a.eval y = .int kl l) (hk : l = (k : Int)) (hkl : k ≤ len)
    (hK : ∀ A', (∀ w, Rd F w A xs → Rd F w A' (xs.drop k)) → wpList P ops Q rest (a.put o.dst (.slice A' (len - k) (cap - k))) W) : wpList P ops Q (o :: rest) a W := by
  obtain ⟨i, hi, h3, h4, h5⟩ := info_parts E.info
  have he : P.elem t = e := by simp [Program.elem, ht]
  refine wpList_plain hg fun K hK' => ?_
  unfold Oper.wp execOp
  simp only [ho, hx, hy, Option.map_some, Option.map_none]
  subst hk
  rw [Sem.run_bind, run_sliceAt_slice (P := P) W t _ _ _ _ (by rw [he]; exact ht), run_slice_l (P := P) W t A len cap (by rw [he]; exact ht) kl k (by omega) (by omega)]
  have hs : (sizeOf e).run P W = .ok F.n W := by simp [sizeOf, typeInfo, hi, h4]
  rw [he, hs]
  simp only [Result.andThen_ok, sliced, Sem.run_pure, Int.toNat_natCast]
  refine hK' _ _ (hK _ fun w hr => hr.dropAt k _ fun hlt => ?_)
  rw [if_neg (by omega)]
end
end Go.Proofs.YtkicbnkacjnhoaaDoor
