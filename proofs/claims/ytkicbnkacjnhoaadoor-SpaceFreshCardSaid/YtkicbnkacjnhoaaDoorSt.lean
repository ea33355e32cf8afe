/- What a walk keeps of a world, in one hypothesis: the rules, what stood at the start, blocks known whole, lists that read as told. Contracts of the callees in that form. -/
import Derived.Test.YtkicbnkacjnhoaaDoorWeavesWalk
namespace Go.Proofs.YtkicbnkacjnhoaaDoor
open Go.RowKit
set_option linter.unusedVariables false
set_option linter.unusedSimpArgs false

structure St (w0 W : World) (bs : List (Nat × Array Value × TypeId)) (ls : List (Option Addr × List POp)) : Prop where
  rules : RulesAt W
  below : Below w0.heap.size w0 W
  blks : ∀ p ∈ bs, Blk W p.1 p.2.1 p.2.2
  rds : ∀ p ∈ ls, Rd opF W p.1 p.2
section
variable {w0 W W' : World} {bs : List (Nat × Array Value × TypeId)} {ls : List (Option Addr × List POp)}
theorem St.step (h : St w0 W bs ls) (hb : Below W.heap.size W W') : St w0 W' bs ls :=
  ⟨h.rules.on hb, h.below.trans (hb.mono h.below.size), fun p hp => (h.blks p hp).on hb, fun p hp => (h.rds p hp).below hb⟩
theorem St.rd (h : St w0 W bs ls) (i : Nat) {A : Option Addr} {xs : List POp} (hi : ls[i]? = some (A, xs)) : Rd opF W A xs := h.rds (A, xs) (List.mem_of_getElem? hi)
theorem St.blk (h : St w0 W bs ls) (i : Nat) {b : Nat} {cs : Array Value} {t : TypeId} (hi : bs[i]? = some (b, cs, t)) : Blk W b cs t := h.blks (b, cs, t) (List.mem_of_getElem? hi)
theorem St.add (h : St w0 W bs ls) {A : Option Addr} {xs : List POp} (r : Rd opF W A xs) : St w0 W bs (ls ++ [(A, xs)]) :=
  ⟨h.rules, h.below, h.blks, fun p hp => by
    rcases List.mem_append.1 hp with hp | hp
    · exact h.rds p hp
    · obtain rfl := List.mem_singleton.1 hp
      exact r⟩
theorem St.addB (h : St w0 W bs ls) {b : Nat} {cs : Array Value} {t : TypeId} (r : Blk W b cs t) : St w0 W (bs ++ [(b, cs, t)]) ls :=
  ⟨h.rules, h.below, fun p hp => by
    rcases List.mem_append.1 hp with hp | hp
    · exact h.blks p hp
    · obtain rfl := List.mem_singleton.1 hp
      exact r, h.rds⟩
theorem St.drewN (h : St w0 W bs ls) (n : Nat) : St w0 (W.drewN n) bs ls := h.step (below_drewN (Below.refl _ _) n)
theorem St.start (w : World) (hr : RulesAt w) : St w w [] [] := ⟨hr, Below.refl _ _, by simp, by simp⟩
theorem St.alloc (h : St w0 W bs ls) (o : Obj) : St w0 (W.alloc o) bs ls := h.step (below_alloc (Below.refl _ _) o)
end

/-- The three calls of a weave of copies as one: what the two copies and the weave leave. -/
theorem weave_rd (A1 A2 : Option Addr) (c1 c2 : Nat) (xs ys : List POp) (w : World) (hr : RulesAt w) (h1 : Rd opF w A1 xs) (h2 : Rd opF w A2 ys) (n1 : xs.length ≤ 4096) (n2 : ys.length ≤ 4096) :
    Calls Tryd.prog 42 #[.slice A1 xs.length c1, .slice A2 ys.length c2] w fun e w' =>
      ∃ (A A' : Option Addr) (c c' : Nat) (ls out : List POp), Hid (weaveL xs ys = (ls, out)) ∧ Hid (ls.length = xs.length ∧ out.length = ys.length) ∧ e = .returned (.tuple #[.slice A ls.length c, .slice A' out.length c', .int .i64 0]) ∧
        Rd opF w' A ls ∧ Rd opF w' A' out ∧ Below w.heap.size w w' := by
  refine (weave_any A1 A2 c1 c2 xs ys w hr h1 h2 n1 n2).mono ?_
  rintro e w' ⟨A, c, g, cap, ls, out, hq, rfl, oL, oC, _, _, hb⟩
  have h := weaveL_length ys xs
  rw [hq.out] at h
  exact ⟨A, some ⟨g, 0, none⟩, c, cap, ls, out, hq, h, rfl, oL.rd2, oC.rd, hb⟩
theorem through_rd (p0 p1 p2 p3 p4 : Int) (A : Option Addr) (c : Nat) (line : List POp) (f : Bool) (w : World) (hr : RulesAt w) (hl : Rd opF w A line) (hn : line.length ≤ 4096) :
    Calls Tryd.prog 30 #[.agg #[.int .i64 p0, .int .i64 p1, .int .u8 p2, .int .i64 p3, .int .i64 p4], .slice A line.length c, .bool f] w fun e w' =>
      ∃ (g cap : Nat) (y : POp) (m : List POp), Hid (pastL ⟨p0, p1, p2, p3, p4⟩ line f = (y, m)) ∧ Hid (m.length = line.length) ∧ e = .returned (.tuple #[.agg #[.int .i64 y.k, .int .i64 y.p, .int .u8 y.c, .int .i64 y.l, .int .i64 y.s], .slice (some ⟨g, 0, none⟩) m.length cap, .int .i64 0]) ∧ Rd opF w' (some ⟨g, 0, none⟩) m ∧ w.heap.size ≤ g ∧ Below w.heap.size w w' := by
  refine (through_any p0 p1 p2 p3 p4 A c line f w hr hl hn).mono ?_
  rintro e w' ⟨g, cap, y, m, hy, rfl, ow, hg, hb⟩
  have := pastL_length f line ⟨p0, p1, p2, p3, p4⟩
  rw [hy.out] at this
  exact ⟨g, cap, y, m, hy, this, rfl, ow.rd, hg, hb⟩
/-- An operation whose guard says yes is carried out as one that has none. -/
theorem ev_unguard {P : Program} {ops : Array Oper} {rest : List Oper} {o : Oper} {a : Act} {Q : Exit → Act → World → Prop} {w : World} (hw : Region.wanted o (yielded ops a.tmps) = true)
    (h : wpList P ops Q ({ o with guard := none } :: rest) a w) : wpList P ops Q (o :: rest) a w := by
  have h2 : Region.wanted { o with guard := none } (yielded ops a.tmps) = true := by simp [Region.wanted]
  rw [wpList, if_pos h2] at h
  rw [wpList, if_pos hw]
  exact h
end Go.Proofs.YtkicbnkacjnhoaaDoor
