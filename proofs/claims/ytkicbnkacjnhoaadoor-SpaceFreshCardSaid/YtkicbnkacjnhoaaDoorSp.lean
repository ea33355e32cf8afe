/- A space in memory; what a call may change; append inside a region that draws. -/
import Derived.Test.YtkicbnkacjnhoaaDoorMk
import Derived.Test.YtkicbnkacjnhoaaDoorValid
import Derived.Test.YtkicbnkacjnhoaaDoorStepApp
import Derived.Test.YtkicbnkacjnhoaaDoorSt
namespace Go.Proofs.YtkicbnkacjnhoaaDoor
open Go.RowKit
set_option linter.unusedVariables false
set_option linter.unusedSimpArgs false

/-- w' is w with new blocks, and with changes in the blocks bs alone. -/
structure But (bs : List Nat) (w w' : World) : Prop where
  os : w'.os = w.os
  tape : w'.tape = w.tape
  output : w'.output = w.output
  size : w.heap.size ≤ w'.heap.size
  block : ∀ i, i < w.heap.size → i ∉ bs → w'.heap[i]? = w.heap[i]?
theorem But.ofBelow {bs : List Nat} {w w' : World} (h : Below w.heap.size w w') : But bs w w' := ⟨h.os, h.tape, h.output, h.size, fun i hi _ => h.block i hi⟩
theorem But.ofGrown {bs : List Nat} {w w' : World} {row : Option Nat} (h : w.grownBy w' row) (hr : ∀ k, row = some k → k ∈ bs ∨ w.heap.size ≤ k) : But bs w w' :=
  ⟨h.os, h.tape, h.output, h.size, fun i hi hn => h.block i hi fun e => by
    rcases hr i e.symm with h1 | h1
    · exact hn h1
    · omega⟩
theorem But.trans {bs bs' : List Nat} {w w1 w2 : World} (h : But bs w w1) (k : But bs' w1 w2) (hb : ∀ b ∈ bs', b ∈ bs ∨ w.heap.size ≤ b) : But bs w w2 :=
  ⟨k.os.trans h.os, k.tape.trans h.tape, k.output.trans h.output, Nat.le_trans h.size k.size, fun i hi hn => (k.block i (Nat.lt_of_lt_of_le hi h.size) fun hm => by
    rcases hb i hm with h1 | h1
    · exact hn h1
    · omega).trans (h.block i hi hn)⟩
theorem But.refl (bs : List Nat) (w : World) : But bs w w := ⟨rfl, rfl, rfl, Nat.le_refl _, fun _ _ _ => rfl⟩
theorem But.below {bs : List Nat} {w w' : World} {B : Nat} {a : World} (h : But bs w w') (ha : Below B a w) (hB : B ≤ w.heap.size) (hb : ∀ b ∈ bs, B ≤ b) : Below B a w' :=
  ⟨h.os.trans ha.os, h.tape.trans ha.tape, h.output.trans ha.output, Nat.le_trans ha.size h.size, fun k hk => (h.block k (by omega) fun hm => by have := hb k hm; omega).trans (ha.block k hk)⟩
theorem But.mono {bs bs' : List Nat} {w w' : World} (h : But bs w w') (hb : ∀ b ∈ bs, b ∈ bs') : But bs' w w' := ⟨h.os, h.tape, h.output, h.size, fun i hi hn => h.block i hi fun hm => hn (hb i hm)⟩
theorem But.setCell (w : World) (b i : Nat) (v : Value) {bs : List Nat} (hb : b ∈ bs) : But bs w (w.setCell ⟨b, i, none⟩ v) :=
  But.ofGrown (grown_setCell w b i v) fun k e => .inl (by obtain rfl := Option.some.inj e; exact hb)
theorem Blk.but {w w' : World} {b : Nat} {cs : Array Value} {t : TypeId} {bs : List Nat} (h : Blk w b cs t) (hb : But bs w w') (hn : b ∉ bs) : Blk w' b cs t := ⟨(hb.block b h.lt hn).trans h.out⟩
theorem OwnV.but {α : Type} {F : Flat α} {e : TypeId} {w w' : World} {base : Nat} {v : Value} {xs : List α} {bs : List Nat} (h : OwnV F e base w v xs) (hb : But bs w w') (hn : ∀ g, v.ownBlock = some g → g ∉ bs) : OwnV F e base w' v xs := by
  refine ⟨h.1, ?_⟩
  rcases h.2 with h2 | ⟨g, cap, cur, hv, hbg, hh, r⟩
  · exact .inl h2
  · have hg : v.ownBlock = some g := by rw [hv]; rfl
    refine .inr ⟨g, cap, cur, hv, hbg, (hb.block g ?_ (hn g hg)).trans hh, r⟩
    exact (Array.getElem?_eq_some_iff.1 hh).1
theorem Rd.but {α : Type} {F : Flat α} {w w' : World} {A : Option Addr} {xs : List α} {bs : List Nat} (h : Rd F w A xs) (hb : But bs w w') (hn : ∀ b off, A = some ⟨b, off, none⟩ → b ∉ bs) : Rd F w' A xs :=
  ⟨fun i hi => by
    obtain ⟨b, off, e, hc⟩ := h.at_ i hi
    refine ⟨b, off, e, fun j u hu => ?_⟩
    have h1 := hc j u hu
    have hlt : b < w.heap.size := World.block_lt_of_cell? w _ h1
    rw [← h1]
    exact World.cell?_of_block (hb.block b hlt (hn b off e))⟩

/-- The blocks of a slice's array. -/
def own (A : Option Addr) : List Nat := match A with
  | some a => [a.block]
  | none => []
theorem own_block {A : Option Addr} {n c g : Nat} (h : (Value.slice A n c).ownBlock = some g) : own A = [g] := by
  rcases A with _ | a
  · cases h
  · obtain rfl := Option.some.inj h
    rfl
theorem own_mem {A : Option Addr} {n c b : Nat} (h : b ∈ own A) : (Value.slice A n c).ownBlock = some b := by
  rcases A with _ | a
  · cases h
  · obtain rfl := List.mem_singleton.1 h
    rfl
theorem own_addr {A : Option Addr} {b off : Nat} (h : A = some ⟨b, off, none⟩) : b ∈ own A := by subst h; exact List.mem_singleton.2 rfl
/-- A space at block p. -/
structure SpAt (W : World) (p : Nat) (A : Option Addr) (c : Nat) (q : List PMk) (last : Int) (first : Bool) : Prop where
  blk : Blk W p #[.slice A q.length c, .int .i64 last, .bool first] 81
  ow : OwnV mkF 87 0 W (.slice A q.length c) q
  ne : p ∉ own A
section
variable {W W' : World} {p : Nat} {A : Option Addr} {c : Nat} {q : List PMk} {last : Int} {first : Bool}
theorem SpAt.lt (h : SpAt W p A c q last first) : ∀ b ∈ p :: own A, b < W.heap.size := fun b hb => by
  rcases List.mem_cons.1 hb with rfl | hb
  · exact h.blk.lt
  · exact (h.ow.lt b (own_mem hb)).2
theorem SpAt.but {bs : List Nat} (h : SpAt W p A c q last first) (hb : But bs W W') (hn : ∀ b ∈ p :: own A, b ∉ bs) : SpAt W' p A c q last first :=
  ⟨h.blk.but hb (hn p (by simp)), h.ow.but hb fun g hg => hn g (by rw [own_block hg]; simp), h.ne⟩
theorem SpAt.on (h : SpAt W p A c q last first) (hb : Below W.heap.size W W') : SpAt W' p A c q last first := h.but (bs := []) (But.ofBelow hb) (by simp)
theorem SpAt.rd (h : SpAt W p A c q last first) : Rd mkF W A q := h.ow.rd2
end
theorem step_appV {P : Program} {ops : Array Oper} {o : Oper} {a : Act} {K : Act → World → Prop} {Q : Exit → Act → World → Prop} {Z : Prop} {α : Type} {F : Flat α} {e : TypeId} {bytes : Nat} {z : α} (E : El P F e bytes z) (hn0 : 0 < F.n) (hb0 : 0 < bytes) (W : World) (hgd : o.guard = none) (s y : Operand) (t : TypeId) (ho : o.op = Op.call { callee := Callee.builtin Builtin.append, args := #[s, y], argTypes := #[t, t] }) (ht : P.underlying t = some (.slice e))
    (base : Nat) (v : Value) (xs ys : List α) (ad : Addr) (m c : Nat) (hs : a.eval s = v) (hy : a.eval y = .slice (some ad) m c) (hm : m = ys.length) (HO : OwnV F e base W v xs) (HR : Rd F W (some ad) ys) (hb : (xs.length + ys.length) * bytes ≤ 140737488355328) (hbase : base ≤ W.heap.size)
    (hK : ∀ v' w', OwnV F e base w' v' (xs ++ ys) → W.grownBy w' v.ownBlock → (v'.ownBlock = v.ownBlock ∨ v'.ownBlock = some W.heap.size) → K (a.put o.dst v') w') : if Region.wanted o (yielded ops a.tmps) = true then Oper.wp P o a W K Q else Z := by
  have hw : Region.wanted o (yielded ops a.tmps) = true := by simp [Region.wanted, hgd]
  rw [if_pos hw]
  subst hm
  obtain ⟨i, hi, h3, h4, h5⟩ := info_parts E.info
  have hlen : xs.length + ys.length ≤ 140737488355328 := Nat.le_trans (Nat.le_mul_of_pos_right _ hb0) hb
  obtain ⟨v', w', hr, h2, h3', _, h5'⟩ := run_append_own_at (P := P) W base t o.type e i _ F.n bytes ht hi h3 h4 h5 (by simp [Value.cells, F.len]) hn0 v xs.length (xs.flatMap F.cells) HO ad ys.length c (ys.flatMap F.cells) (flatMap_cells_length F ys) HR.news (flat_one E ys) (by simp only [maxLen]; omega) hb hbase
  unfold Oper.wp execOp
  simp only [ho, resolve, invoke, builtin, Sem.run_bind, Sem.run_pure, Result.andThen_ok, List.map_toArray, List.map_cons, List.map_nil, hs, hy, hr]
  exact hK v' w' (by unfold OwnV; rw [List.length_append, List.flatMap_append]; exact h2) h3' h5'
end Go.Proofs.YtkicbnkacjnhoaaDoor
