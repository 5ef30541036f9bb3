/- A range over a function whose rounds are numbered: the law of the walk. -/
import Derived.Test.YtdgfnlagbdmniaaDoorPg
import Derived.RangeFuncNested
import Derived.RangeFuncBound
import Derived.RangeFuncCalls
import Derived.RangeFuncLeaves
import Derived.RangeFuncBox
import Derived.Shelf.Abstract
import Derived.Shelf.RegionOpen
import Derived.OwnWalkIn
import Derived.TacticsInMore
import Derived.LoopNIn
import Derived.LoopIn
import Derived.Maps.AppendAt
namespace Go.Proofs.YtdgfnlagbdmniaaDoor.Pl
open Go.RowKit

/-- What an iterator does that hands out N tuples, one behind the other, to a body that always goes on. -/
def IdxSeq (P : Program) (gf : Nat) (lb : Array Value) (xs : Nat → Array Value) (Pool : Nat → World → Prop) (N : Nat) : Prop :=
  ∀ (l : Nat) (J : Nat → World → Prop) (W : World), (∀ k W, J k W → Pool k W) → (∀ k W W', J k W → Below W.heap.size W W' → J k W') →
    (∀ k W, J k W → k < N → YieldAt Fence.wide 0 P l (xs k) W fun e W' => e = .returned (.bool true) ∧ J (k + 1) W') → J 0 W →
    CallsIn Fence.wide 0 P gf (#[.func (.yield l) #[] #[]] ++ lb) W fun e W' => (∃ v, e = .returned v) ∧ J N W'

/-- How a round's body is left: off its end; the loop's two blocks as they were. -/
def RoundEnd (l d : Nat) (I : World → Prop) (W2 : World) : Exit → Act → World → Prop
  | .normal, _, W' => I W' ∧ W'.heap[l]? = W2.heap[l]? ∧ W'.heap[d]? = W2.heap[d]?
  | _, _, _ => False

theorem grown_putObj (W : World) (l : Nat) (o : Obj) : W.grownBy (W.putObj l o) (some l) := grownBy_putObj' W l o

theorem range_idx {P : Program} {g : Operand} {ps : Array Tmp} {assign body : Code} {Q : Exit → Act → World → Prop} {a : Act} {w : World}
    {gf : Nat} {lb : Array Value} (hg : a.eval g = .func (.func gf) #[] lb) (eg : ∀ args w, (callFunc gf args).run P w = .ok (.enter gf args) w)
    {xs : Nat → Array Value} {N : Nat} (hps : ∀ k, (xs k).size = ps.size) {Pool : Nat → World → Prop} (hseq : IdxSeq P gf lb xs Pool N)
    (I : Nat → World → Prop) (hI : ∀ k W W', I k W → W.grownBy W' (some (w.heap.size + 1)) → I k W') (hIP : ∀ k W, I k W → Pool k W) (h0 : I 0 w)
    (hround : ∀ k W, I k W → k < N → w.heap.size + 1 < W.heap.size →
      assign.wpIn (Fence.wide.inRound (w.heap.size + 1)) 0 P (Exit.then (fun a₁ W₁ => W₁.heap[w.heap.size + 1]? = W.heap[w.heap.size + 1]? ∧ W₁.heap[w.heap.size]? = W.heap[w.heap.size]? ∧
        ∀ W₂, W₁.grownBy W₂ (some (w.heap.size + 1)) → W₂.heap.size = W₁.heap.size →
          body.wpIn (Fence.wide.inRound (w.heap.size + 1)) 0 P (RoundEnd (w.heap.size + 1) w.heap.size (I (k + 1)) W₂) a₁ W₂) (fun _ _ _ => False))
        { tmps := (ps.zip (xs k)).foldl (fun t (p, v) => t.setIfInBounds p v) a.tmps, defers := [] } W)
    (hdone : ∀ W, I N W → W.heap[w.heap.size]? = some (.deferred (some [])) → Q .normal { a with defers := { target := .collected w.heap.size, args := #[] } :: a.defers } W) :
    (Code.rangeFunc g ps assign body).wpIn Fence.wide 0 P Q a w := by
  refine wpIn_rangeFunc ?_
  intro fn hfn
  obtain ⟨rec, hrec⟩ : ∃ rec : LoopState → Loop, rec = fun st => { state := st, pending := none, fn, tmps := a.tmps, params := ps, assign, body, defers := w.heap.size } := ⟨_, rfl⟩
  obtain ⟨W1, hW1⟩ : ∃ W1, (w.alloc (.deferred (some []))).alloc (.loop (rec .ready)) = W1 := ⟨_, rfl⟩
  have hL1 : W1.heap[w.heap.size + 1]? = some (.loop (rec .ready)) := by
    rw [← hW1]; have := World.alloc_heap_new (w.alloc (.deferred (some []))) (.loop (rec .ready)); rwa [World.size_alloc] at this
  have hK1 : W1.heap[w.heap.size]? = some (.deferred (some [])) := by
    rw [← hW1]; exact (Below.heap_alloc _ _ _ (by simp)).trans (World.alloc_heap_new w _)
  have hI1 : I 0 W1 := by rw [← hW1]; exact hI _ _ _ h0 (fr_alloc (fr_alloc (fr_refl _ _) _) _)
  refine ⟨w.heap.size + 1, [{ target := .collected w.heap.size, args := #[] }], W1, { target := .fn (.func gf) lb, args := #[.func (.yield (w.heap.size + 1)) #[] #[]] }, W1, gf,
    #[.func (.yield (w.heap.size + 1)) #[] #[]] ++ lb, W1, ?_, ?_, ?_, ?_, (fun h => by cases h), ?_⟩
  · rw [← hW1, hrec]; exact run_enterLoop_outer _ _ _ _ _
  · simp only [resolve, hg]
    simp [go_sem]
  · intro f' _; trivial
  · simp [invoke, go_sem, eg]
  · refine (hseq (w.heap.size + 1) (fun k W => I k W ∧ W.heap[w.heap.size + 1]? = some (.loop (rec .ready)) ∧ W.heap[w.heap.size]? = some (.deferred (some []))) W1
      (fun k W h => hIP k W h.1)
      (fun k W W' h hb => ⟨hI k W W' h.1 (fr_of_below hb (Nat.le_refl _) _), (hb.block _ (Array.getElem?_eq_some_iff.1 h.2.1).1).trans h.2.1, (hb.block _ (Array.getElem?_eq_some_iff.1 h.2.2).1).trans h.2.2⟩)
      ?_ ⟨hI1, hL1, hK1⟩).mono ?_
    · rintro k W ⟨hi, hl, hk⟩ hlt
      have hsz : w.heap.size + 1 < W.heap.size := (Array.getElem?_eq_some_iff.1 hl).1
      have hy := run_yield (P := P) (args := xs k) hl (by rw [hrec]; exact hps k)
      rw [hrec] at hy
      refine ⟨fn, _, assign, body, hy, roundIn_of_wpIn trivial ?_⟩
      refine wpIn_mono (hround k W hi hlt hsz) ?_
      rintro e a₁ W₁ hp
      cases e with
      | normal =>
        obtain ⟨h1, h2, hb⟩ := hp
        have hl1 : W₁.heap[w.heap.size + 1]? = some (.loop (rec .ready)) := h1.trans hl
        have hk1 : W₁.heap[w.heap.size]? = some (.deferred (some [])) := h2.trans hk
        refine ⟨_, run_beginRound hl1 (by rw [hrec]), ?_⟩
        refine wpIn_mono (hb _ (grown_putObj _ _ _) (by simp)) ?_
        rintro e a₃ W₃ hq
        cases e with
        | normal =>
          obtain ⟨hi3, h3, h4⟩ := hq
          have hl3 : W₃.heap[w.heap.size + 1]? = some (.loop { rec .ready with state := .busy }) := h3.trans (World.putObj_heap_same (Array.getElem?_eq_some_iff.1 hl1).1)
          have hk3 : W₃.heap[w.heap.size]? = some (.deferred (some [])) := h4.trans ((World.putObj_heap_other (by omega)).trans hk1)
          have hr := run_endRound (P := P) none hl3
          refine ⟨_, _, hr, rfl, hI _ _ _ hi3 (grown_putObj _ _ _), ?_, (World.putObj_heap_other (by omega)).trans hk3⟩
          rw [World.putObj_heap_same (Array.getElem?_eq_some_iff.1 hl3).1, hrec]
          rfl
        | exit id => exact hq.elim
        | goto t => exact hq.elim
        | ret => exact hq.elim
        | panic ch => exact hq.elim
        | outgrown => exact hq.elim
      | exit id => exact hp.elim
      | goto t => exact hp.elim
      | ret => exact hp.elim
      | panic ch => exact hp.elim
      | outgrown => exact hp.elim
    · rintro e W2 ⟨⟨v, rfl⟩, hi, hl, hk⟩
      have hend := run_endLoop (P := P) hl (by rw [hrec]; simp)
      rw [hrec] at hend
      exact ⟨none, _, hend, hdone _ (hI _ _ _ hi (grown_putObj _ (w.heap.size + 1) _)) ((World.putObj_heap_other (by omega)).trans hk)⟩
end Go.Proofs.YtdgfnlagbdmniaaDoor.Pl
