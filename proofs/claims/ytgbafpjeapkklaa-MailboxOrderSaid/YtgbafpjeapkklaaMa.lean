/- Mailbox: lists of triples in memory; a queue, plainly; is. -/
import Derived.Test.YtgbafpjeapkklaaRows
import Derived.WalkKit
import Derived.WalkSpells
import Derived.WalkLawsBesides
import Derived.BigQuiet
import Derived.RegionTactic
import Derived.BigRegion
import Derived.ChangeAlike
import Derived.Deep.QuietTactic
import Derived.Lib.Hide
namespace Go.Proofs.Ytgbafpjeapkklaa.Mb
open Go.RowKit
set_option linter.unusedVariables false
set_option linter.unusedSimpArgs false

theorem cell_blk {w : World} {b : Nat} {C : Array Value} {t : TypeId} {f : Nat × Nat} (h : w.heap[b]? = some (.cells C t f)) (o : Nat) : w.cell? ⟨b, o, none⟩ = C[o]? := by
  simp [World.cell?, h]
theorem frozen_blk {w : World} {b : Nat} {C : Array Value} {t : TypeId} (h : w.heap[b]? = some (.cells C t (0, 0))) (o : Nat) : w.frozen? ⟨b, o, none⟩ = false := by
  simp [World.frozen?, h]
theorem blk_set {w : World} {b : Nat} {C : Array Value} {t : TypeId} {f : Nat × Nat} (h : w.heap[b]? = some (.cells C t f)) (o : Nat) (v : Value) : (w.setCell ⟨b, o, none⟩ v).heap[b]? = some (.cells (C.setIfInBounds o v) t f) := by
  simp [World.setCell, Array.getElem?_modify, h]
theorem blk_set_ne {w : World} {b : Nat} {x : Option Obj} (h : w.heap[b]? = x) (p : Addr) (hp : b ≠ p.block) (v : Value) : (w.setCell p v).heap[b]? = x := by
  rw [Below.heap_setCell _ _ _ _ hp]; exact h
theorem blk_lt {w : World} {b : Nat} {x : Obj} (h : w.heap[b]? = some x) : b < w.heap.size := by
  rcases Nat.lt_or_ge b w.heap.size with hlt | hge
  · exact hlt
  · rw [Array.getElem?_eq_none hge] at h; cases h

/-- A list of triples in memory. -/
def Tri (w : World) (v : Value) (l : List (Int × Int × Int)) : Prop :=
  ∃ p cap, v = .slice p l.length cap ∧ l.length ≤ cap ∧ (l = [] ∨ ∃ g off, p = some ⟨g, off, none⟩ ∧ g < w.heap.size ∧
    ∀ (k : Nat) (x : Int × Int × Int), l[k]? = some x → w.cell? ⟨g, off + k * 3, none⟩ = some (.int .i64 x.1) ∧ w.cell? ⟨g, off + k * 3 + 1, none⟩ = some (.int .i64 x.2.1) ∧ w.cell? ⟨g, off + k * 3 + 2, none⟩ = some (.int .i64 x.2.2))
theorem Tri.below {w w' : World} {v : Value} {l : List (Int × Int × Int)} (h : Tri w v l) (hb : Below w.heap.size w w') : Tri w' v l := by
  obtain ⟨p, cap, rfl, hc, h⟩ := h
  refine ⟨p, cap, rfl, hc, ?_⟩
  rcases h with h | ⟨g, off, rfl, h2, h3⟩
  · exact .inl h
  · refine .inr ⟨g, off, rfl, Nat.lt_of_lt_of_le h2 hb.size, fun k o ho => ?_⟩
    obtain ⟨a, b, c⟩ := h3 k o ho
    exact ⟨(hb.cell (p := ⟨g, off + k * 3, none⟩) h2).trans a, (hb.cell (p := ⟨g, off + k * 3 + 1, none⟩) h2).trans b, (hb.cell (p := ⟨g, off + k * 3 + 2, none⟩) h2).trans c⟩
theorem Tri.slice {w : World} {v : Value} {l : List (Int × Int × Int)} (h : Tri w v l) : ∃ p cap, v = .slice p l.length cap := by
  obtain ⟨p, cap, e, _⟩ := h
  exact ⟨p, cap, e⟩

/-! ### A queue -/
structure Q where
  vals : List (Int × Int)
  opn : List (Int × Nat)
  done : Nat
  empty : Bool
def Q.m (q : Q) : Nat := q.vals.length
def Q.isOpen (q : Q) (j : Nat) : Bool := q.opn.any fun o => o.2 == j
def Q.nxt (q : Q) (j : Nat) : Int := if j < q.m ∧ q.isOpen (j + 1) = false then (j : Int) + 1 else -1
def Q.node (q : Q) (j : Nat) : Int × Int × Int := if j = 0 then (0, -1, q.nxt 0) else ((q.vals.getD (j - 1) (0, 0)).1, (q.vals.getD (j - 1) (0, 0)).2, q.nxt j)
def Q.nodes (q : Q) : List (Int × Int × Int) := (List.range (q.m + 1)).map q.node
def Q.pushes (q : Q) : List (Int × Int × Int) := q.opn.map fun o => (o.1, (o.2 : Int) - 1, (o.2 : Int))
structure WF (q : Q) : Prop where
  few : q.m < 2000
  fewo : q.opn.length ≤ q.m
  prod : ∀ x ∈ q.vals, 0 ≤ x.2
  sorted : q.opn.Pairwise fun a b => a.1 < b.1
  opn : ∀ o ∈ q.opn, 1 ≤ o.2 ∧ o.2 ≤ q.m ∧ (q.vals.getD (o.2 - 1) (0, 0)).2 = o.1 ∧ 0 ≤ o.1
  done : q.done ≤ q.m
  linked : ∀ j, 1 ≤ j → j ≤ q.done → q.isOpen j = false
  mt : q.empty = true → q.done = q.m

theorem nodes_get {q : Q} {j : Nat} (h : j ≤ q.m) : q.nodes[j]? = some (q.node j) := by
  simp [Q.nodes, show j < q.m + 1 by omega]
theorem nodes_len (q : Q) : q.nodes.length = q.m + 1 := by simp [Q.nodes]
theorem pushes_len (q : Q) : q.pushes.length = q.opn.length := by simp [Q.pushes]
theorem pushes_get {q : Q} {k : Nat} {o : Int × Nat} (h : q.opn[k]? = some o) : q.pushes[k]? = some (o.1, (o.2 : Int) - 1, (o.2 : Int)) := by
  simp [Q.pushes, h]
theorem isOpen_of {q : Q} {o : Int × Nat} (h : o ∈ q.opn) : q.isOpen o.2 = true := by
  simp only [Q.isOpen, List.any_eq_true]
  exact ⟨o, h, by simp⟩
theorem open_uniq {q : Q} (hq : WF q) {i k : Nat} {o p : Int × Nat} (hi : q.opn[i]? = some o) (hk : q.opn[k]? = some p) (h : o.2 = p.2) : i = k := by
  have ho := hq.opn o (List.mem_of_getElem? hi)
  have hp := hq.opn p (List.mem_of_getElem? hk)
  have e : o.1 = p.1 := by rw [← ho.2.2.1, ← hp.2.2.1, h]
  obtain ⟨x1, x2⟩ := List.getElem?_eq_some_iff.1 hi
  obtain ⟨y1, y2⟩ := List.getElem?_eq_some_iff.1 hk
  have hs := List.pairwise_iff_getElem.1 hq.sorted
  rcases Nat.lt_trichotomy i k with h | h | h
  · have := hs i k x1 y1 h; rw [x2, y2] at this; omega
  · exact h
  · have := hs k i y1 x1 h; rw [x2, y2] at this; omega
set_option maxRecDepth 100000 in
set_option maxHeartbeats 1000000 in
theorem is_at (A B : Option Addr) (L cap l2 c2 : Nat) (a b : Int) (e : Bool) (n : Int) (h1 : 0 ≤ n) (h2 : n < L) (w : World) :
    Calls Try.prog 66 #[.agg #[.slice A L cap, .int .i64 a, .int .i64 b, .slice B l2 c2, .bool e], .int .i64 n] w fun e w' => e = .returned (.bool true) ∧ Below w.heap.size w w' := by
  have t1 : decide (0 ≤ n) = true := decide_eq_true h1
  have t2 : decide (n < (L : Int)) = true := decide_eq_true h2
  go_enter Try.func66, Try.ntmps66
  go_wp2_with fail
  go_ret
  exact ⟨rfl, (Below.refl _ _).alloc (Nat.le_refl _) _⟩
end Go.Proofs.Ytgbafpjeapkklaa.Mb
