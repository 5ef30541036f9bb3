/- Mailbox: two rows of numbers beside states. -/
import Derived.Test.YtgbafpjeapkklaaMp
namespace Go.Proofs.Ytgbafpjeapkklaa.Mb
open Go.RowKit
set_option linter.unusedVariables false
set_option linter.unusedSimpArgs false

theorem SB.keep {w : World} {X : Nat} {ns ps : Value} {q : Q} {W W' : World} (h : SB w X ns ps q W) {v : Value} {n B' : Nat} {xs : List Value} (hv : W.ownsRow B' 3 1 v n xs) (hB : w.heap.size ≤ B') (hg : W.grownBy W' v.ownBlock) : SB w X ns ps q W' := by
  have hk : ∀ (k : Nat) (C : Array Value) (t : TypeId) (f : Nat × Nat), W.heap[k]? = some (.cells C t f) → t ≠ 3 → W'.heap[k]? = W.heap[k]? := by
    intro k C t f hk ht
    refine hg.block k (blk_lt hk) fun e => ?_
    rcases hv.2 with ⟨rfl, _⟩ | ⟨g', cap, cur, rfl, _, hgg, _⟩
    · simp [Value.ownBlock] at e
    · simp [Value.ownBlock] at e
      subst e
      rw [hk] at hgg
      injection hgg with hgg
      injection hgg with _ h2 _
      exact ht h2
  exact ⟨h.below.grown hg h.below.size (fun k hk => by have := hv.lt k hk; omega), h.low, (hk _ _ _ _ h.box (by decide)).trans h.box, h.t1.keep hg.size fun k C f h1 => hk k C 99 f h1 (by decide), h.t2.keep hg.size fun k C f h1 => hk k C 102 f h1 (by decide)⟩

/-- Two states, two rows of numbers, and arrays of one number. -/
structure TR (w : World) (X : Nat) (ns ps : Value) (q : Q) (Y : Nat) (ns2 ps2 : Value) (q2 : Q) (u : Value) (n : Nat) (xs : List Int) (v : Value) (m : Nat) (ys : List Int) (fr : List (Nat × Int)) (W : World) : Prop where
  sb : SB w X ns ps q W
  sb2 : SB w Y ns2 ps2 q2 W
  o1 : W.ownsRow w.heap.size 3 1 u n (ints xs)
  o2 : W.ownsRow w.heap.size 3 1 v m (ints ys)
  ap : ∀ g, u.ownBlock = some g → v.ownBlock ≠ some g
  fresh : ∀ y ∈ fr, W.heap[y.1]? = some (.cells #[.int .i64 y.2] 3 (0, 0)) ∧ u.ownBlock ≠ some y.1 ∧ v.ownBlock ≠ some y.1
section
variable {w : World} {X : Nat} {ns ps : Value} {q : Q} {Y : Nat} {ns2 ps2 : Value} {q2 : Q} {u : Value} {n : Nat} {xs : List Int} {v : Value} {m : Nat} {ys : List Int} {fr : List (Nat × Int)} {W W' : World}
theorem TR.step (h : TR w X ns ps q Y ns2 ps2 q2 u n xs v m ys fr W) (hb : Below W.heap.size W W') : TR w X ns ps q Y ns2 ps2 q2 u n xs v m ys fr W' :=
  ⟨h.sb.step hb, h.sb2.step hb, own1_below h.o1 hb, own1_below h.o2 hb, h.ap, fun y hy => ⟨(hb.block _ (blk_lt (h.fresh y hy).1)).trans (h.fresh y hy).1, (h.fresh y hy).2⟩⟩
theorem TR.drew (h : TR w X ns ps q Y ns2 ps2 q2 u n xs v m ys fr W) : TR w X ns ps q Y ns2 ps2 q2 u n xs v m ys fr W.drew := h.step (Below.refl _ _).drew
theorem TR.alloc (h : TR w X ns ps q Y ns2 ps2 q2 u n xs v m ys fr W) (c : Int) : TR w X ns ps q Y ns2 ps2 q2 u n xs v m ys ((W.heap.size, c) :: fr) (W.alloc (Obj.cells #[.int .i64 c] 3)) := by
  have ha : Below W.heap.size W (W.alloc (Obj.cells #[.int .i64 c] 3)) := (Below.refl _ _).alloc (Nat.le_refl _) _
  refine { h.step ha with fresh := fun y hy => ?_ }
  rcases List.mem_cons.1 hy with rfl | hy
  · refine ⟨(MapKept.heap_alloc _ _).1, fun e => ?_, fun e => ?_⟩
    · have := h.o1.lt _ e; omega
    · have := h.o2.lt _ e; omega
  · exact (h.step ha).fresh y hy
theorem TR.re1 (h : TR w X ns ps q Y ns2 ps2 q2 u n xs v m ys fr W) {u' : Value} {n' : Nat} {xs' : List Int} (hg : W.grownBy W' u.ownBlock) (ho : W'.ownsRow w.heap.size 3 1 u' n' (ints xs')) (hb : u'.ownBlock = u.ownBlock ∨ u'.ownBlock = some W.heap.size) :
    TR w X ns ps q Y ns2 ps2 q2 u' n' xs' v m ys fr W' := by
  refine ⟨h.sb.keep h.o1 (Nat.le_refl _) hg, h.sb2.keep h.o1 (Nat.le_refl _) hg, ho, ?_, ?_, ?_⟩
  · refine h.o2.kept hg ?_
    cases hv : v.ownBlock with
    | none => exact .inl rfl
    | some g =>
      right
      intro e
      exact h.ap g e.symm hv
  · intro g hu' hv
    rcases hb with e | e
    · exact h.ap g (e ▸ hu') hv
    · rw [e] at hu'
      injection hu' with hu'
      have := h.o2.lt _ hv
      omega
  · intro y hy
    obtain ⟨h1, h2, h3⟩ := h.fresh y hy
    refine ⟨(hg.block _ (blk_lt h1) (fun e => h2 e.symm)).trans h1, fun e => ?_, h3⟩
    rcases hb with e' | e'
    · exact h2 (e' ▸ e)
    · rw [e'] at e
      injection e with e
      have := blk_lt h1
      omega
theorem TR.re2 (h : TR w X ns ps q Y ns2 ps2 q2 u n xs v m ys fr W) {v' : Value} {m' : Nat} {ys' : List Int} (hg : W.grownBy W' v.ownBlock) (ho : W'.ownsRow w.heap.size 3 1 v' m' (ints ys')) (hb : v'.ownBlock = v.ownBlock ∨ v'.ownBlock = some W.heap.size) :
    TR w X ns ps q Y ns2 ps2 q2 u n xs v' m' ys' fr W' := by
  refine ⟨h.sb.keep h.o2 (Nat.le_refl _) hg, h.sb2.keep h.o2 (Nat.le_refl _) hg, ?_, ho, ?_, ?_⟩
  · refine h.o1.kept hg ?_
    cases hv : u.ownBlock with
    | none => exact .inl rfl
    | some g =>
      right
      intro e
      exact h.ap g hv e.symm
  · intro g hu hv'
    rcases hb with e | e
    · exact h.ap g hu (e ▸ hv')
    · rw [e] at hv'
      injection hv' with hv'
      have := h.o1.lt _ hu
      omega
  · intro y hy
    obtain ⟨h1, h2, h3⟩ := h.fresh y hy
    refine ⟨(hg.block _ (blk_lt h1) (fun e => h3 e.symm)).trans h1, h2, fun e => ?_⟩
    rcases hb with e' | e'
    · exact h3 (e' ▸ e)
    · rw [e'] at e
      injection e with e
      have := blk_lt h1
      omega
end

set_option maxRecDepth 100000 in
/-- An append of one number to a row of one's own, and where the row lies then. -/
theorem run_append_one (W : World) (ty : TypeId) {B : Nat} {u : Value} {n : Nat} {xs : List Int} (h : W.ownsRow B 3 1 u n (ints xs)) {g : Nat} {c : Int} (hg : W.heap[g]? = some (.cells #[.int .i64 c] 3 (0, 0))) (hn : n ≤ 2000) (hB : B ≤ W.heap.size) :
    ∃ u' W', (Builtin.append_ #[30, 30] ty #[u, .slice (some ⟨g, 0, none⟩) 1 1]).run Try.prog W = .ok u' W' ∧ W'.ownsRow B 3 1 u' (n + 1) (ints (xs ++ [c])) ∧ W.grownBy W' u.ownBlock ∧ (u'.ownBlock = u.ownBlock ∨ u'.ownBlock = some W.heap.size) ∧ ∃ p k, u' = .slice p (n + 1) k := by
  obtain ⟨i0, hi, hz0, hz1, hz2⟩ := info_parts info3
  have hsrc : ∀ j x, [Value.int .i64 c][j]? = some x → W.cell? ((⟨g, 0, none⟩ : Addr).add j) = some x := by
    intro j x hj
    cases j with
    | zero => simp at hj; subst hj; exact cell_blk hg 0
    | succ j => simp at hj
  obtain ⟨u', W', hr, ho, hgr, hnil⟩ := run_append_own (P := Try.prog) W B 30 ty 3 i0 (.int .i64 0) 1 8 Try.underlying30 hi hz0 hz1 hz2 rfl (by decide) u n (ints xs) h ⟨g, 0, none⟩ 1 1 [.int .i64 c] rfl hsrc (ints_one [c]) (by unfold maxLen; omega) (by omega) hB
  have hsl := own1_slice ho
  refine ⟨u', W', hr, by simpa [ints] using ho, hgr, ?_, hsl⟩
  rcases h.2 with ⟨rfl, h0⟩ | ⟨g', cap, cur, rfl, hb, hgg, hnc, hm, hs, ht⟩
  · right
    have hr2 := run_append_nil (P := Try.prog) W 30 ty 3 i0 (.int .i64 0) Try.underlying30 hi hz0 ⟨g, 0, none⟩ 1 1 [.int .i64 c] (by rw [hz1]; rfl) hsrc (by omega) (by omega) (by omega)
    have e := (hr.symm.trans hr2); injection e with e _
    rw [e]; rfl
  · by_cases hroom : n + 1 ≤ cap
    · left
      have hr2 := run_append_room (P := Try.prog) W 30 ty 3 i0 Try.underlying30 hi g' n cap cur hgg ⟨g, 0, none⟩ 1 1 [.int .i64 c] (by rw [hz1]; rfl) hsrc (ints_one [c]) hroom (by rw [hz1, hs]; simp; omega)
      have e := (hr.symm.trans hr2); injection e with e _
      rw [e]; rfl
    · right
      have hx := h.cells (g := g') rfl
      have hr2 := run_append_grow (P := Try.prog) W 30 ty 3 i0 (.int .i64 0) Try.underlying30 hi hz0 ⟨g', 0, none⟩ n cap (ints xs) (by rw [hz1]; exact h.1) hx ⟨g, 0, none⟩ 1 1 [.int .i64 c] (by rw [hz1]; rfl) hsrc (by omega) (by omega) (growslice_fits (by omega) (by rw [hz2]; omega))
      have e := (hr.symm.trans hr2); injection e with e _
      rw [e]; rfl
end Go.Proofs.Ytgbafpjeapkklaa.Mb
