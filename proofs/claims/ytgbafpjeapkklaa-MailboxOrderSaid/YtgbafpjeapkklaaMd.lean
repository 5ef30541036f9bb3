/- Mailbox: the closure chain of Check. -/
import Derived.Test.YtgbafpjeapkklaaMb
import Derived.Test.YtgbafpjeapkklaaMc
namespace Go.Proofs.Ytgbafpjeapkklaa.Mb
open Go.RowKit
set_option linter.unusedVariables false
set_option linter.unusedSimpArgs false

/-- The nodes that were seen: all ahead of one. -/
def seenTo (a : Nat) : List (Int × Value) := (List.range a).map fun (i : Nat) => ((i : Int), Value.bool true)
theorem seen_find (a k : Nat) : (seenTo a).find? (fun x => x.1 == (k : Int)) = if k < a then some ((k : Int), .bool true) else none := by
  induction a with
  | zero => rfl
  | succ a ih =>
    have e : seenTo (a + 1) = seenTo a ++ [((a : Int), .bool true)] := by simp [seenTo, List.range_succ]
    rw [e, List.find?_append, ih]
    by_cases h : k < a
    · rw [if_pos h, if_pos (by omega)]; rfl
    · rw [if_neg h]
      by_cases h2 : k = a
      · subst h2; simp
      · rw [if_neg (by omega)]
        have : ((a : Int) == (k : Int)) = false := by simp; omega
        simp [this]
theorem seen_snoc (a : Nat) : seenTo a ++ [((a : Int), .bool true)] = seenTo (a + 1) := by simp [seenTo, List.range_succ]

theorem zero4 (w : World) : (zeroValue 4).run Try.prog w = .ok (.bool false) w := by kernel_rfl
theorem und120 : Try.prog.underlying 120 = some (.map 3 4) := by kernel_rfl

/-- Check's memory: the state's box g, seen's variable gs, the map r. -/
structure CM (w : World) (q : Q) (ns ps : Value) (g gs r a : Nat) (W : World) : Prop where
  bx : Bx w q ns ps g W
  var : W.heap[gs]? = some (.cells #[.map (some r)] 120 (0, 0))
  map : MapI W r (seenTo a)
  low : w.heap.size ≤ r

theorem CM.put {w : World} {q : Q} {ns ps : Value} {g gs r a : Nat} {W : World} (h : CM w q ns ps g gs r a W) :
    ∃ W', (Instr.mapUpdate 120 (.map (some r)) (.int .i64 a) (.bool true)).run Try.prog W = .ok () W' ∧ CM w q ns ps g gs r (a + 1) W' := by
  obtain ⟨W', h1, h2, h3, h4, h5, h6, h7⟩ := put_new h.map 120 4 und120 (a : Int) (.bool true) (by rw [seen_find, if_neg (by omega)])
  obtain ⟨es, clock, hm, _⟩ := h.map
  have ng : g ≠ r := by rintro rfl; have := h.bx.box; rw [hm] at this; cases this
  have ns' : gs ≠ r := by rintro rfl; have := h.var; rw [hm] at this; cases this
  refine ⟨W', h1, ⟨⟨?_, (h7 g ng).trans h.bx.box⟩, (h7 gs ns').trans h.var, by rw [← seen_snoc]; exact h2, h.low⟩⟩
  exact h.bx.below.trans ⟨h4, h5, h6, Nat.le_of_eq h3.symm, fun k hk => h7 k (by have := h.low; omega)⟩
theorem CM.look {w : World} {q : Q} {ns ps : Value} {g gs r a : Nat} {W : World} (h : CM w q ns ps g gs r a W) (k : Nat) :
    (Instr.lookup 120 (.map (some r)) (.int .i64 k) false).run Try.prog W = .ok (.bool (decide (k < a))) W := by
  rw [look1 h.map 120 4 (.bool false) und120 (zero4 W) (k : Int), seen_find]
  by_cases hk : k < a
  · simp [hk]
  · simp [hk]

set_option maxRecDepth 100000 in
set_option maxHeartbeats 4000000 in
theorem chain_at {q : Q} {w : World} {ps : Value} {gn off cap : Nat} (hn : Tri w (.slice (some ⟨gn, off, none⟩) (q.m + 1) cap) q.nodes) (g gs r a e : Nat) (h1 : a ≤ e) (h2 : e ≤ q.m) (hf : q.m < 2000)
    (hend : e = q.m ∨ q.isOpen (e + 1) = true) (hlink : ∀ i, a ≤ i → i < e → q.isOpen (i + 1) = false) (W : World) (hW : CM w q (.slice (some ⟨gn, off, none⟩) (q.m + 1) cap) ps g gs r a W) :
    Calls Try.prog 54 #[.int .i64 a, .pointer (some ⟨gs, 0, none⟩), .pointer (some ⟨g, 0, none⟩)] W fun en W' => en = .returned (.tuple #[.int .i64 e, .bool true]) ∧ CM w q (.slice (some ⟨gn, off, none⟩) (q.m + 1) cap) ps g gs r (e + 1) W' := by
  obtain ⟨p, cap', hp, hcap, hn⟩ := hn
  injection hp with p1 p2 p3
  subst p3
  have HN : Hid (gn < w.heap.size ∧ ∀ (k : Nat) (x : Int × Int × Int), q.nodes[k]? = some x → w.cell? ⟨gn, off + k * 3 + 2, none⟩ = some (.int .i64 x.2.2)) := by
    rcases hn with h | ⟨g', off', e1, e2, e3⟩
    · have := nodes_len q; rw [h] at this; simp at this
    · rw [← p1] at e1
      injection e1 with e1
      injection e1 with e4 e5
      subst e4
      subst e5
      exact ⟨e2, fun k x hx => (e3 k x hx).2.2⟩
  have HNX : Hid (∀ k, a ≤ k → k ≤ e → (q.node k).2.2 = if k < e then (k : Int) + 1 else -1) := by
    intro k hk1 hk2
    have hx : (q.node k).2.2 = q.nxt k := by unfold Q.node; split <;> simp_all
    rw [hx]
    unfold Q.nxt
    by_cases hke : k < e
    · rw [if_pos ⟨by omega, hlink k hk1 hke⟩, if_pos hke]
    · obtain rfl : k = e := by omega
      rw [if_neg (by omega : ¬ k < k)]
      rcases hend with h | h
      · rw [if_neg (by omega)]
      · rw [h]; simp
  have HW := Lib.hid hW
  clear hn p1 p2 hcap hlink hend hW
  generalize hM : q.m = M at *
  have HM := Lib.hid hM; clear hM
  go_enter Try.func54, Try.ntmps54
  go_wp2_with fail
  go_loopw [0] (fun s0 wr => ∃ k : Nat, a ≤ k ∧ k ≤ e ∧ s0 = .int .i64 k ∧ CM w q (.slice (some ⟨gn, off, none⟩) (M + 1) cap) ps g gs r k wr) (fun s0 _ => e + 1 - (intOf s0).toNat)
  case atStart => exact ⟨a, Nat.le_refl _, h1, rfl, HW.out⟩
  case round =>
    obtain ⟨k, hk1, hk2, rfl, hS⟩ := hrel
    have HS := Lib.hid hS; clear hS
    have hl : (Instr.lookup 120 (.map (some r)) (.int .i64 k) false).run Try.prog wr = .ok (.bool false) wr := by
      have := HS.out.look k
      simpa using this
    obtain ⟨W', hput, hW'⟩ := HS.out.put
    have HS' := Lib.hid hW'; clear hW'
    have v0 : wr.cell? ⟨gs, 0, none⟩ = some (.map (some r)) := cell_blk HS.out.var 0
    have b0 : W'.cell? ⟨g, 0, none⟩ = some (.slice (some ⟨gn, off, none⟩) (M + 1) cap) := cell_blk HS'.out.bx.box 0
    have hx := HN.out.2 k _ (nodes_get (q := q) (j := k) (by rw [HM.out]; omega))
    rw [HNX.out k hk1 hk2] at hx
    have d0 : W'.cell? ⟨gn, off + k * 3 + 2, none⟩ = some (.int .i64 (if k < e then (k : Int) + 1 else -1)) := (HS'.out.bx.below.cell (p := ⟨gn, off + k * 3 + 2, none⟩) HN.out.1).trans hx
    clear hx
    have kl : (k : Int) < (M : Int) + 1 := by omega
    by_cases hke : k < e
    · rw [if_pos hke] at d0
      have t1 : decide ((k : Int) + 1 < 0) = false := decide_eq_false (by omega)
      go_wp2_with fail
      go_roundw
      case rel => exact ⟨k + 1, by omega, by omega, by go_num, HS'.out⟩
      case measure => simp [intOf]; omega
    · rw [if_neg hke] at d0
      obtain rfl : e = k := by omega
      go_wp2_with fail
      go_ret2
      exact ⟨rfl, HS'.out⟩
end Go.Proofs.Ytgbafpjeapkklaa.Mb
