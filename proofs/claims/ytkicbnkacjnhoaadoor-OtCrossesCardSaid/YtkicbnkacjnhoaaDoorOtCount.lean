/- Plain Lean: how many elements stand at the end of a weave. No program in sight. -/
import Derived.Test.YtkicbnkacjnhoaaDoorOtGrid
namespace Go.Proofs.YtkicbnkacjnhoaaDoor
open Go.RowKit
theorem nodup_filter {α : Type} {l : List α} (p : α → Bool) (h : l.Nodup) : (l.filter p).Nodup := List.Nodup.sublist List.filter_sublist h
/-- What stayed of the text, what either put in: no more, no less. -/
theorem merge_count {d a b x : List PEl} (nd : d.Nodup) (na : a.Nodup) (nb : b.Nodup) (nx : x.Nodup) (hd : ∀ z ∈ d, z.l = 1) (ha : ∀ z ∈ a, z ∈ d ∨ z.l = 2) (hb : ∀ z ∈ b, z ∈ d ∨ z.l = 3) (hm : Merge d a b x) :
    x.length = (d.filter fun z => decide (z ∈ a ∧ z ∈ b)).length + (a.filter fun z => decide (z.l = 2)).length + (b.filter fun z => decide (z.l = 3)).length := by
  have hp : x.Perm ((d.filter fun z => decide (z ∈ a ∧ z ∈ b)) ++ ((a.filter fun z => decide (z.l = 2)) ++ (b.filter fun z => decide (z.l = 3)))) := by
    refine (List.perm_ext_iff_of_nodup nx ?_).2 fun z => ?_
    · rw [List.nodup_append, List.nodup_append]
      refine ⟨nodup_filter _ nd, ⟨nodup_filter _ na, nodup_filter _ nb, ?_⟩, ?_⟩
      · intro u hu v hv e
        subst e
        simp only [List.mem_filter, decide_eq_true_eq] at hu hv
        omega
      · intro u hu v hv e
        subst e
        simp only [List.mem_append, List.mem_filter, decide_eq_true_eq] at hu hv
        have := hd u hu.1
        omega
    · rw [hm z]
      simp only [List.mem_append, List.mem_filter, decide_eq_true_eq]
      constructor
      · rintro (⟨h1, h2, h3⟩ | ⟨h1, h2 | h2⟩)
        · exact .inl ⟨h1, h2, h3⟩
        · exact .inr (.inl ⟨h2, (ha z h2).resolve_left h1⟩)
        · exact .inr (.inr ⟨h2, (hb z h2).resolve_left h1⟩)
      · rintro (⟨h1, h2, h3⟩ | ⟨h2, h4⟩ | ⟨h2, h4⟩)
        · exact .inl ⟨h1, h2, h3⟩
        · exact .inr ⟨fun h => by have := hd z h; omega, .inl h2⟩
        · exact .inr ⟨fun h => by have := hd z h; omega, .inr h2⟩
  rw [hp.length_eq, List.length_append, List.length_append, Nat.add_assoc]
end Go.Proofs.YtkicbnkacjnhoaaDoor
