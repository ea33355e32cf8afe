/- The walk of jotterlaw05.line: moves become a line that fits. -/
import Derived.Test.YtkicbnkacjnhoaaDoorMade
import Derived.Test.YtkicbnkacjnhoaaDoorOtGrid
namespace Go.Proofs.YtkicbnkacjnhoaaDoor
open Go.RowKit
set_option linter.unusedVariables false
set_option linter.unusedSimpArgs false

structure PMv where
  d : Bool
  a : Int
  c : Int
def moveF : Flat PMv := ⟨3, fun o => [.bool o.d, .int .i64 o.a, .int .u8 o.c], fun _ => rfl⟩
theorem Rd.mv {w : World} {A : Option Addr} {xs : List PMv} (h : Rd moveF w A xs) (i : Nat) (hi : i < xs.length) :
    ∃ b off x, A = some ⟨b, off, none⟩ ∧ Hid (xs[i]? = some x) ∧ b < w.heap.size ∧ w.cell? ⟨b, off + i * 3, none⟩ = some (.bool x.d) ∧ w.cell? ⟨b, off + i * 3 + 1, none⟩ = some (.int .i64 x.a) ∧ w.cell? ⟨b, off + i * 3 + 2, none⟩ = some (.int .u8 x.c) := by
  obtain ⟨b, off, e, hc⟩ := h.at_ i hi
  have h0 := hc 0 _ rfl
  exact ⟨b, off, xs[i], e, List.getElem?_eq_getElem hi, World.block_lt_of_cell? w _ h0, h0, hc 1 _ rfl, hc 2 _ rfl⟩

/-- How long the text is behind an operation. -/
def lenOf (n : Nat) (o : POp) : Nat := if o.k = 1 then n + 1 else n - 1
/-- A line that fits a text of n elements and leaves one of m. -/
def LineFits (l : Int) : Nat → Nat → List POp → Nat → Prop
  | n, _, [], m => m = n
  | n, i, o :: r, m => FitsOp n l ((i : Int) + 1) o ∧ LineFits l (lenOf n o) (i + 1) r m
theorem LineFits.snoc {l : Int} : ∀ {r : List POp} {n i m : Nat} {o : POp}, LineFits l n i r m → FitsOp m l (((i + r.length : Nat) : Int) + 1) o → LineFits l n i (r ++ [o]) (lenOf m o)
  | [], n, i, m, o, h, k => by
    obtain rfl := h
    exact ⟨k, rfl⟩
  | x :: r, n, i, m, o, h, k => ⟨h.1, LineFits.snoc h.2 (by rw [show i + 1 + r.length = i + (x :: r).length by simp; omega]; exact k)⟩
theorem fits_put {d : List PEl} {l s : Int} {o : POp} (h : FitsOp d.length l s o) : ∃ e, putL d o = some e ∧ e.length = lenOf d.length o := by
  rcases h.2.2 with ⟨hk, p, hp, hlt⟩ | ⟨hk, p, hp, hle⟩
  · exact ⟨_, putL_del p hk hp hlt, by rw [del_length _ _ hlt]; simp [lenOf, hk]⟩
  · exact ⟨_, putL_ins p hk hp hle, by rw [ins_length]; simp [lenOf, hk]⟩
theorem LineFits.run {l : Int} : ∀ {r : List POp} {n i m : Nat} {d : List PEl}, LineFits l n i r m → d.length = n → ∃ e, runL d r = some e ∧ e.length = m
  | [], n, i, m, d, h, hd => ⟨d, rfl, hd.trans h.symm⟩
  | o :: r, n, i, m, d, h, hd => by
    subst hd
    obtain ⟨x, hx, hl⟩ := fits_put h.1
    obtain ⟨e, h1, h2⟩ := LineFits.run h.2 hl
    exact ⟨e, by simp only [runL, hx]; exact h1, h2⟩
theorem LineFits.numbered {l : Int} : ∀ {r : List POp} {n i m : Nat}, LineFits l n i r m → Numbered l i r
  | [], _, _, _, _ => trivial
  | o :: r, n, i, m, h => ⟨h.1.1, h.1.2.1, LineFits.numbered h.2⟩
theorem LineFits.le {l : Int} : ∀ {r : List POp} {n i m : Nat}, LineFits l n i r m → m ≤ n + r.length
  | [], _, _, _, h => by obtain rfl := h; simp
  | o :: r, n, i, m, h => by
    have := LineFits.le h.2
    have h2 : lenOf n o ≤ n + 1 := by unfold lenOf; split <;> omega
    simp only [List.length_cons]
    omega

set_option maxHeartbeats 1000000 in
theorem line_any (A : Option Addr) (c0 : Nat) (ms : List PMv) (n : Nat) (l : Int) (w : World) (hm : Rd moveF w A ms) (hn : n ≤ 4096) (hz : ms.length * 24 ≤ 140737488351232) :
    Calls Tryd.prog 37 #[.slice A ms.length c0, .int .i64 n, .int .i64 l] w fun e w' =>
      ∃ (g cap m : Nat) (r : List POp), e = .returned (.slice (some ⟨g, 0, none⟩) r.length cap) ∧ Hid (r.length = ms.length) ∧ Hid (LineFits l n 0 r m) ∧ OwnC opF 23 w' g cap r ∧ w.heap.size ≤ g ∧ Below w.heap.size w w' := by
  go_enter Tryd.func37, Tryd.ntmps37
  go_wp2_with (at_make; refine ev_make0 El.op _ rfl _ _ 35 rfl Tryd.underlying35 _ _ _ ms.length rfl rfl rfl (by omega) (by omega) ?_; intro w1 hO hB)
  go_loopw [7, 8, 1] (fun v i t wr => ∃ (k m : Nat) (r : List POp), k ≤ ms.length ∧ i = .int .i64 k ∧ v = .slice (some ⟨w.heap.size, 0, none⟩) k ms.length ∧ t = .int .i64 m ∧ m ≤ 4096 + k ∧ Hid (k = r.length) ∧ Hid (LineFits l n 0 r m) ∧ OwnC opF 23 wr w.heap.size ms.length r ∧ Below w.heap.size w wr) (fun v i t wr => ms.length - (intOf i).toNat)
  case atStart => exact ⟨0, n, [], Nat.zero_le _, rfl, rfl, rfl, by omega, rfl, rfl, hO, hB⟩
  case round =>
    clear hO hB
    obtain ⟨k, m, r, hk, rfl, rfl, rfl, hmk, hkr, hf, hO, hB⟩ := hrel
    by_cases hlt : k < ms.length
    · have HR : Hid (r.length < ms.length) := Lib.hid (by have := hkr.out; omega)
      obtain ⟨b1, o1, x, rfl, hx, hbl, e0, e1, e2⟩ := (hm.below hB).mv k hlt
      go_wp2_with fail
      with_reducible refine (made_any _ _ _ m _ _ _ (by omega)).mono ?_
      rintro e w2 ⟨⟨ok, op, oc, ol, os⟩, hfit, rfl, hb⟩
      have HF := Lib.hid hfit
      obtain ⟨h1, h2, h3⟩ := hfit
      simp only at h1 h2 h3
      have h1' := h1.symm
      clear h1
      subst h1' h2
      have hO2 := hO.on hb
      have B2 := hB.trans (hb.mono hB.size)
      have HFS : Hid (LineFits l n 0 (r ++ [⟨ok, op, oc, l, (k : Int) + 1⟩]) (lenOf m ⟨ok, op, oc, l, (k : Int) + 1⟩)) := Lib.hid (LineFits.snoc hf.out (by rw [Nat.zero_add, ← hkr.out]; exact HF.out))
      rcases h3 with ⟨rfl, p, rfl, hp⟩ | ⟨rfl, p, rfl, hp⟩
      · have lw := hO2.lt
        go_wp2_with (at_builtin; go_must (refine ev_app1 El.op (w2.alloc (.cells #[.int .i64 2, .int .i64 p, .int .u8 oc, .int .i64 l, .int .i64 ((k : Int) + 1)] 23)) rfl _ _ 35 rfl Tryd.underlying35 w.heap.size ms.length r ⟨2, p, oc, l, (k : Int) + 1⟩ k hkr.out rfl (Eq.trans (b := .slice (some ⟨w2.heap.size + 1, 0, none⟩) 1 1) rfl (by simp)) (hO2.alloc _) HR.out ?_); intro w3 hO3 hg3; (have B3 : Below w.heap.size w w3 := (below_alloc B2 _).grown hg3 (below_alloc B2 _).size (fun k e => Nat.le_of_eq (Option.some.inj e))); (have k3 := (Blk.new w2 #[.int .i64 2, .int .i64 p, .int .u8 oc, .int .i64 l, .int .i64 ((k : Int) + 1)] 23).grown hg3 (ne_some (by omega))); obtain ⟨x0, x1, x2, x3, x4⟩ := k3.cells5)
        go_roundw
        case rel => exact ⟨k + 1, m - 1, r ++ [⟨2, p, oc, l, (k : Int) + 1⟩], by omega, by go_num, rfl, by go_num, by omega, Lib.hid (by have := hkr.out; simp; omega), Lib.hid (HFS.out), hO3, B3⟩
        case measure => simp [intOf]; omega
      · have lw := hO2.lt
        go_wp2_with (at_builtin; refine ev_app1 El.op (w2.alloc (.cells #[.int .i64 1, .int .i64 p, .int .u8 oc, .int .i64 l, .int .i64 ((k : Int) + 1)] 23)) rfl _ _ 35 rfl Tryd.underlying35 w.heap.size ms.length r ⟨1, p, oc, l, (k : Int) + 1⟩ k hkr.out rfl (Eq.trans (b := .slice (some ⟨w2.heap.size + 1, 0, none⟩) 1 1) rfl (by simp)) (hO2.alloc _) HR.out ?_; intro w3 hO3 hg3; (have B3 : Below w.heap.size w w3 := (below_alloc B2 _).grown hg3 (below_alloc B2 _).size (fun k e => Nat.le_of_eq (Option.some.inj e))); (have k3 := (Blk.new w2 #[.int .i64 1, .int .i64 p, .int .u8 oc, .int .i64 l, .int .i64 ((k : Int) + 1)] 23).grown hg3 (ne_some (by omega))); obtain ⟨x0, x1, x2, x3, x4⟩ := k3.cells5)
        go_roundw
        case rel => exact ⟨k + 1, m + 1, r ++ [⟨1, p, oc, l, (k : Int) + 1⟩], by omega, by go_num, rfl, by go_num, by omega, Lib.hid (by have := hkr.out; simp; omega), Lib.hid (HFS.out), hO3, B3⟩
        case measure => simp [intOf]; omega
    · have hkn : k = ms.length := by omega
      subst hkn
      go_wp2
      go_ret
      exact ⟨w.heap.size, ms.length, m, r, ret_val (Eq.trans (b := .slice (some ⟨w.heap.size, 0, none⟩) ms.length ms.length) rfl (by rw [← hkr.out])), Lib.hid hkr.out.symm, hf, hO, Nat.le_refl _, hB⟩
end Go.Proofs.YtkicbnkacjnhoaaDoor
