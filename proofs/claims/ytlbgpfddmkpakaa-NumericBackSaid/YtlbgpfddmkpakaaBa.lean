/- Numeric: rows of numbers in memory; the iterator over every second element. -/
import Derived.Test.YtlbgpfddmkpakaaAg
import Derived.RangeFuncNested
import Derived.RangeFuncBound
import Derived.RangeFuncCalls
import Derived.RangeFuncLeaves
import Derived.RangeFuncBox
import Derived.RangeFuncFrom
import Derived.Shelf.Abstract
import Derived.Shelf.RegionOpen
import Derived.OwnWalkIn
import Derived.TacticsInMore
import Derived.LoopNIn
import Derived.LoopIn
import Derived.Maps.AppendAt
namespace Go.Proofs.Ytlbgpfddmkpakaa.Nu
open Go.RowKit Go.Shelf
set_option linter.unusedVariables false
set_option linter.unusedSimpArgs false
attribute [local go_sem] Oper.semAt_some

/-- A number as a value. -/
abbrev num (x : Nat × Nat) : Value := .agg #[.int .u32 x.1, .int .u32 x.2]
/-- A row of numbers (two cells each) in memory. -/
def Row (w : World) (v : Value) (l : List (Nat × Nat)) : Prop :=
  ∃ p cap, v = .slice p l.length cap ∧ l.length ≤ cap ∧ (l = [] ∨ ∃ g off, p = some ⟨g, off, none⟩ ∧ g < w.heap.size ∧
    ∀ (k : Nat) (x : Nat × Nat), l[k]? = some x → w.cell? ⟨g, off + k * 2, none⟩ = some (.int .u32 x.1) ∧ w.cell? ⟨g, off + k * 2 + 1, none⟩ = some (.int .u32 x.2))
theorem Row.below {w w' : World} {v : Value} {l : List (Nat × Nat)} (h : Row w v l) (hb : Below w.heap.size w w') : Row w' v l := by
  obtain ⟨p, cap, rfl, hc, h⟩ := h
  refine ⟨p, cap, rfl, hc, ?_⟩
  rcases h with h | ⟨g, off, rfl, h2, h3⟩
  · exact .inl h
  · exact .inr ⟨g, off, rfl, Nat.lt_of_lt_of_le h2 hb.size, fun k x hx => ⟨(hb.cell (p := ⟨g, off + k * 2, none⟩) h2).trans (h3 k x hx).1, (hb.cell (p := ⟨g, off + k * 2 + 1, none⟩) h2).trans (h3 k x hx).2⟩⟩
/-- What has come when k rounds are over. -/
def upto {α : Type} (f : Nat → α) (k : Nat) : List α := (List.range k).map f
theorem upto_succ {α : Type} (f : Nat → α) (k : Nat) : upto f (k + 1) = upto f k ++ [f k] := by simp [upto, List.range_succ]
theorem upto_length {α : Type} (f : Nat → α) (k : Nat) : (upto f k).length = k := by simp [upto]
/-- Every second element from one on. -/
def second (l : List (Nat × Nat)) (a k : Nat) : Nat × Nat := l.getD (a + k * 2) (0, 0)
def halfOf (l : List (Nat × Nat)) (a : Nat) : List (Nat × Nat) := upto (second l a) ((l.length + 1 - a) / 2)

set_option maxRecDepth 100000 in
set_option maxHeartbeats 2000000 in
theorem every1_in (F : Fence) (n : Nat) (h67 : F.fn 67) (hro : F.round = none) (hn : 1 ≤ n) (yl Bf Bs n₀ a : Nat) (g off cap : Nat) (l : List (Nat × Nat)) (hlen : l.length ≤ 100000) (ha : a ≤ 1) (hg : g < n₀) (hBs : Bs < n₀) (J Jx : List (Nat × Nat) → World → Prop)
    (hY : ∀ pre x W, J pre W → pre.length < (l.length + 1 - a) / 2 → YieldAt F (n - 1) Try.prog yl #[num x] W fun e W' =>
      (e = .returned (.bool true) ∧ J (pre ++ [x]) W' ∧ Below n₀ W W') ∨ (e = .returned (.bool false) ∧ Jx (pre ++ [x]) W'))
    (W : World) (hf : W.cell? ⟨Bf, 0, none⟩ = some (.int .i64 a)) (hs : W.cell? ⟨Bs, 0, none⟩ = some (.slice (some ⟨g, off, none⟩) l.length cap))
    (hc : ∀ (k : Nat) (x : Nat × Nat), l[k]? = some x → W.cell? ⟨g, off + k * 2, none⟩ = some (.int .u32 x.1) ∧ W.cell? ⟨g, off + k * 2 + 1, none⟩ = some (.int .u32 x.2)) (h0 : J [] W) :
    CallsIn F n Try.prog 67 #[.func (.yield yl) #[] #[], .pointer (some ⟨Bf, 0, none⟩), .pointer (some ⟨Bs, 0, none⟩)] W fun e W' => (∃ v, e = .returned v) ∧
      ((∃ ys, ys = halfOf l a ∧ J ys W') ∨ (∃ pre, (∃ k, pre = upto (second l a) k) ∧ Jx pre W')) := by
  have HC := Lib.hid hc
  clear hc
  refine callsIn_of_wp Try.func67 rfl h67 ?_ hro
  simp only [Try.ntmps67, List.size_toArray, List.length_cons, List.length_nil, Nat.reduceAdd, Nat.reduceSub, Array.replicate_succ, Array.replicate_zero, List.push_toArray, List.append_toArray, List.nil_append, List.cons_append]
  gi_wp2
  gi_loopw [4] (fun i wr => ∃ k : Nat, k ≤ (l.length + 1 - a) / 2 ∧ i = .int .i64 ((a + k * 2 : Nat) : Int) ∧ J (upto (second l a) k) wr ∧ Below n₀ W wr)
    (fun i _ => l.length + 2 - (intOf i).toNat)
  case atStart => exact ⟨0, Nat.zero_le _, by simp, h0, Below.refl _ _⟩
  case round =>
    obtain ⟨k, hk, rfl, hJs, hnx⟩ := hrel
    have hs' : wr.cell? ⟨Bs, 0, none⟩ = some (.slice (some ⟨g, off, none⟩) l.length cap) := (hnx.cell (p := ⟨Bs, 0, none⟩) hBs).trans hs
    obtain ⟨i, hi⟩ : ∃ i, i = a + k * 2 := ⟨_, rfl⟩
    rw [← hi]
    have HI := Lib.hid hi
    by_cases hlt : i < l.length
    · have hlk : k < (l.length + 1 - a) / 2 := by omega
      obtain ⟨x, hx⟩ : ∃ x, l[i]? = some x := ⟨l[i], by simp [hlt]⟩
      obtain ⟨c0, c1⟩ := HC.out i x hx
      have d0 : wr.cell? ⟨g, off + i * 2, none⟩ = some (.int .u32 x.1) := (hnx.cell (p := ⟨g, off + i * 2, none⟩) hg).trans c0
      have d1 : wr.cell? ⟨g, off + i * 2 + 1, none⟩ = some (.int .u32 x.2) := (hnx.cell (p := ⟨g, off + i * 2 + 1, none⟩) hg).trans c1
      have hsx : second l a k = x := by unfold second; rw [← hi, List.getD_eq_getElem?_getD, hx]; rfl
      have HSX := Lib.hid hsx
      obtain ⟨fn, tmps, assign, body, hy, hR⟩ := hY _ x wr hJs (by rw [upto_length]; exact hlk)
      have tl : decide ((i : Int) < (l.length : Int)) = true := decide_eq_true (by omega)
      have ek : wrap64 ((i : Int) + 2) = (i : Int) + 2 := by unfold wrap64; omega
      clear c0 c1 hsx hi hx
      gi_wp2
      refine hR.mono ?_
      rintro e W3 (⟨rfl, hJ3, hk3⟩ | ⟨rfl, hJx3⟩)
      · have HLT := Lib.hid hlt
        have HLK := Lib.hid hlk
        have HK := Lib.hid hk
        have HLEN := Lib.hid hlen
        have HA := Lib.hid ha
        clear tl hlt hlk hk hlen ha
        gi_wp2
        try rw [ek]
        go_roundw
        case rel => exact ⟨k + 1, by have := HLK.out; omega, by have := HI.out; rw [show a + (k + 1) * 2 = i + 2 by omega]; rfl, by rw [upto_succ, HSX.out]; exact hJ3, hnx.trans hk3⟩
        case measure =>
          have := HLT.out
          simp [intOf]; omega
      · gi_wp2
        refine bodyPost_ret (results_none rfl _ _ _) rfl ?_
        exact ⟨⟨_, rfl⟩, .inr ⟨_, ⟨k + 1, by rw [upto_succ, HSX.out]⟩, hJx3⟩⟩
    · have tl : decide ((i : Int) < (l.length : Int)) = false := decide_eq_false (by omega)
      have hkk : k = (l.length + 1 - a) / 2 := by omega
      gi_wp2
      go_end0
      exact ⟨⟨_, rfl⟩, .inl ⟨_, by unfold halfOf; rw [hkk], hJs⟩⟩
end Go.Proofs.Ytlbgpfddmkpakaa.Nu
