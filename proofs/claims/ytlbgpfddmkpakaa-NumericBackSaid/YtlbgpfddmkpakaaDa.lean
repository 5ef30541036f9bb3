/- Numeric: rows under construction: two rows of one's own, fresh numbers, and old memory. -/
import Derived.Test.YtlbgpfddmkpakaaCj
namespace Go.Proofs.Ytlbgpfddmkpakaa.Nu
open Go.RowKit
set_option linter.unusedVariables false
set_option linter.unusedSimpArgs false

/-- A type of numbers and the type of their rows. -/
structure NumTy (e st : TypeId) : Prop where
  info : (Try.prog.info? e).map (fun i => (i.zero, i.size, i.bytes)) = some (some (.agg #[.int .u32 0, .int .u32 0]), 2, 8)
  und : Try.prog.underlying st = some (.slice e)
theorem nt26 : NumTy 26 39 := ⟨info26, und39⟩
theorem nt57 : NumTy 57 43 := ⟨R.info57, R.und43⟩
/-- A row of one's own. -/
abbrev Own (e : TypeId) (B : Nat) (W : World) (v : Value) (L : List (Nat × Nat)) : Prop := W.ownsRow B e 2 v L.length (cellsN L)
/-- A number in a block of its own. -/
abbrev Pt (W : World) (X : Nat) (e : TypeId) (p : Nat × Nat) : Prop := B2 W X e (.int .u32 p.1) (.int .u32 p.2)
theorem Own.slice {e : TypeId} {B : Nat} {W : World} {v : Value} {L : List (Nat × Nat)} (h : Own e B W v L) : ∃ p cap, v = .slice p L.length cap := by
  rcases h.2 with ⟨rfl, h0⟩ | ⟨g, cap, cur, rfl, _⟩
  · exact ⟨none, 0, by rw [h0]⟩
  · exact ⟨_, cap, rfl⟩
theorem own_nil (e : TypeId) (B : Nat) (W : World) : Own e B W (.slice none 0 0) [] := World.ownsRow_nil _ _ _ _

set_option maxRecDepth 100000 in
/-- An append of one number to a row of one's own, and where the row lies then. -/
theorem run_app {e st : TypeId} (T : NumTy e st) (W : World) (ty : TypeId) {B : Nat} {u : Value} {L : List (Nat × Nat)} (h : Own e B W u L) {g : Nat} {p : Nat × Nat} (hg : Pt W g e p) (hn : L.length ≤ 2000) (hB : B ≤ W.heap.size) :
    ∃ u' W', (Builtin.append_ #[st, st] ty #[u, .slice (some ⟨g, 0, none⟩) 1 1]).run Try.prog W = .ok u' W' ∧ Own e B W' u' (L ++ [p]) ∧ W.grownBy W' u.ownBlock ∧ (u'.ownBlock = u.ownBlock ∨ u'.ownBlock = some W.heap.size) ∧
      (∀ j x, (cellsN L)[j]? = some x → ∀ g, u.ownBlock = some g → W'.cell? ⟨g, j, none⟩ = some x) ∧ ∃ g' k, u' = .slice (some ⟨g', 0, none⟩) (L.length + 1) k := by
  obtain ⟨i0, hi, hz0, hz1, hz2⟩ := info_parts T.info
  have hsrc : ∀ j x, [Value.int .u32 p.1, Value.int .u32 p.2][j]? = some x → W.cell? ((⟨g, 0, none⟩ : Addr).add j) = some x := by
    intro j x hj
    rw [Addr.add_lit]
    match j with
    | 0 => simp at hj; subst hj; exact cell_blk hg 0
    | 1 => simp at hj; subst hj; exact cell_blk hg 1
    | j + 2 => simp at hj
  have m2 : ∀ x ∈ [Value.int .u32 p.1, Value.int .u32 p.2], x.oneCell' = true := by simp [Value.oneCell']
  obtain ⟨u', W', hr, ho, hgr, hnil⟩ := run_append_own (P := Try.prog) W B st ty e i0 (.agg #[.int .u32 0, .int .u32 0]) 2 8 T.und hi hz0 hz1 hz2 rfl (by decide) u L.length (cellsN L) h ⟨g, 0, none⟩ 1 1 [.int .u32 p.1, .int .u32 p.2] rfl hsrc m2 (by unfold maxLen; omega) (by omega) hB
  obtain ⟨g8, cap8, e8⟩ := ownsRow_succ ho
  have hO : Own e B W' u' (L ++ [p]) := by
    show W'.ownsRow B e 2 u' (L ++ [p]).length (cellsN (L ++ [p]))
    rw [cellsN_app, List.length_append]; exact ho
  refine ⟨u', W', hr, hO, hgr, ?_, ?_, g8, cap8, e8⟩
  · rcases h.2 with ⟨rfl, h0⟩ | ⟨g', cap, cur, rfl, hb, hgg, hnc, hm, hs, ht⟩
    · right
      have hr2 := run_append_nil (P := Try.prog) W st ty e i0 (.agg #[.int .u32 0, .int .u32 0]) T.und hi hz0 ⟨g, 0, none⟩ 1 1 [.int .u32 p.1, .int .u32 p.2] (by rw [hz1]; rfl) hsrc (by omega) (by omega) (by omega)
      have e := (hr.symm.trans hr2); injection e with e _
      rw [e]; rfl
    · by_cases hroom : L.length + 1 ≤ cap
      · left
        have hr2 := run_append_room (P := Try.prog) W st ty e i0 T.und hi g' L.length cap cur hgg ⟨g, 0, none⟩ 1 1 [.int .u32 p.1, .int .u32 p.2] (by rw [hz1]; rfl) hsrc m2 hroom (by rw [hz1, hs]; simp; omega)
        have e := (hr.symm.trans hr2); injection e with e _
        rw [e]; rfl
      · right
        have hx := h.cells (g := g') rfl
        have hr2 := run_append_grow (P := Try.prog) W st ty e i0 (.agg #[.int .u32 0, .int .u32 0]) T.und hi hz0 ⟨g', 0, none⟩ L.length cap (cellsN L) (by rw [hz1]; exact h.1) hx ⟨g, 0, none⟩ 1 1 [.int .u32 p.1, .int .u32 p.2] (by rw [hz1]; rfl) hsrc (by omega) (by omega) (growslice_fits (by omega) (by rw [hz2]; omega))
        have e := (hr.symm.trans hr2); injection e with e _
        rw [e]; rfl
  · intro j x hj g0 hg0
    rcases h.2 with ⟨rfl, h0⟩ | ⟨g', cap, cur, rfl, hb, hgg, hnc, hm, hs, ht⟩
    · cases hg0
    · have hg1 : g' = g0 := by simpa [Value.ownBlock] using hg0
      subst hg1
      by_cases hroom : L.length + 1 ≤ cap
      · have hr2 := run_append_room (P := Try.prog) W st ty e i0 T.und hi g' L.length cap cur hgg ⟨g, 0, none⟩ 1 1 [.int .u32 p.1, .int .u32 p.2] (by rw [hz1]; rfl) hsrc m2 hroom (by rw [hz1, hs]; simp; omega)
        have e' := (hr.symm.trans hr2)
        injection e' with e1 _
        subst e1
        have h5 := hO.cells (g := g') rfl j x (by rw [cellsN_app, List.getElem?_append_left (List.getElem?_eq_some_iff.1 hj).1]; exact hj)
        rw [Addr.add_lit, Nat.zero_add] at h5
        exact h5
      · have hx := h.cells (g := g') rfl
        have hr2 := run_append_grow (P := Try.prog) W st ty e i0 (.agg #[.int .u32 0, .int .u32 0]) T.und hi hz0 ⟨g', 0, none⟩ L.length cap (cellsN L) (by rw [hz1]; exact h.1) hx ⟨g, 0, none⟩ 1 1 [.int .u32 p.1, .int .u32 p.2] (by rw [hz1]; rfl) hsrc (by omega) (by omega) (growslice_fits (by omega) (by rw [hz2]; omega))
        have e' := (hr.symm.trans hr2)
        injection e' with _ e2
        have h7 := hx j x hj
        rw [Addr.add_lit, Nat.zero_add] at h7
        rw [e2]
        exact ((one_drew (w := W) (.inr rfl)).alloc (by simp) _).cell (p := ⟨g', j, none⟩) (cell_lt h7) |>.trans h7

/-- Two rows of one's own, fresh numbers; what lies below is old. -/
structure TN (e : TypeId) (W0 : World) (u : Value) (xs : List (Nat × Nat)) (v : Value) (ys : List (Nat × Nat)) (fr : List (Nat × Nat × Nat)) (W : World) : Prop where
  below : Below W0.heap.size W0 W
  o1 : Own e W0.heap.size W u xs
  o2 : Own e W0.heap.size W v ys
  ap : ∀ g, u.ownBlock = some g → v.ownBlock ≠ some g
  fresh : ∀ y ∈ fr, Pt W y.1 e y.2 ∧ u.ownBlock ≠ some y.1 ∧ v.ownBlock ≠ some y.1
  low : ∀ y ∈ fr, W0.heap.size ≤ y.1
section
variable {e st : TypeId} {W0 : World} {u : Value} {xs : List (Nat × Nat)} {v : Value} {ys : List (Nat × Nat)} {fr : List (Nat × Nat × Nat)} {W W' : World}
theorem TN.start (W0 : World) (e : TypeId) : TN e W0 (.slice none 0 0) [] (.slice none 0 0) [] [] W0 :=
  ⟨Below.refl _ _, own_nil _ _ _, own_nil _ _ _, (fun g h => by cases h), (fun y h => by cases h), (fun y h => by cases h)⟩
theorem TN.step (h : TN e W0 u xs v ys fr W) (hb : Below W.heap.size W W') : TN e W0 u xs v ys fr W' :=
  ⟨h.below.trans (hb.mono h.below.size), own_step h.o1 hb, own_step h.o2 hb, h.ap, (fun y hy => ⟨(h.fresh y hy).1.step hb, (h.fresh y hy).2⟩), h.low⟩
theorem TN.drew (h : TN e W0 u xs v ys fr W) : TN e W0 u xs v ys fr W.drew := h.step (Below.refl _ _).drew
theorem TN.drewN (h : TN e W0 u xs v ys fr W) (n : Nat) : TN e W0 u xs v ys fr (W.drewN n) := h.step (below_drewN (Below.refl _ _) n)
theorem TN.allocs (h : TN e W0 u xs v ys fr W) (o : Obj) : TN e W0 u xs v ys fr (W.alloc o) := h.step ((Below.refl _ _).alloc (Nat.le_refl _) _)
theorem TN.alloc (h : TN e W0 u xs v ys fr W) (a b : Nat) : TN e W0 u xs v ys ((W.heap.size, a, b) :: fr) (W.alloc (Obj.cells #[.int .u32 a, .int .u32 b] e)) := by
  have ha : Below W.heap.size W (W.alloc (Obj.cells #[.int .u32 (a : Nat), .int .u32 (b : Nat)] e)) := (Below.refl _ _).alloc (Nat.le_refl _) _
  refine { h.step ha with fresh := fun y hy => ?_, low := fun y hy => ?_ }
  rotate_left
  · rcases List.mem_cons.1 hy with rfl | hy
    · exact h.below.size
    · exact h.low y hy
  rcases List.mem_cons.1 hy with rfl | hy
  · refine ⟨B2.made W _ _ e, fun e => ?_, fun e => ?_⟩
    · have := h.o1.lt _ e; dsimp only at this; omega
    · have := h.o2.lt _ e; dsimp only at this; omega
  · exact (h.step ha).fresh y hy
theorem TN.alloc0 (h : TN e W0 u xs v ys fr W) : TN e W0 u xs v ys ((W.heap.size, 0, 0) :: fr) (W.alloc (Obj.cells #[.int .u32 0, .int .u32 0] e)) := h.alloc 0 0
/-- A fresh number is written. -/
theorem TN.store1 {X : Nat} {p : Nat × Nat} (h : TN e W0 u xs v ys [(X, p)] W) {a b : Nat} (hW : W' = (W.setCell ⟨X, 0, none⟩ (.int .u32 a)).setCell ⟨X, 1, none⟩ (.int .u32 b)) : TN e W0 u xs v ys [(X, a, b)] W' := by
  obtain ⟨hp, hu, hv⟩ := h.fresh _ (List.mem_singleton.2 rfl)
  have hl := h.low _ (List.mem_singleton.2 rfl)
  obtain ⟨h1, h2, _⟩ := B2.put hp hW
  have hk : ∀ k, k ≠ X → W'.heap[k]? = W.heap[k]? := by
    intro k hk
    rw [hW, Below.heap_setCell _ _ _ _ hk, Below.heap_setCell _ _ _ _ hk]
  have ho : ∀ {z : Value} {zs : List (Nat × Nat)}, Own e W0.heap.size W z zs → z.ownBlock ≠ some X → Own e W0.heap.size W' z zs := by
    intro z zs hz hne
    refine ⟨hz.1, ?_⟩
    rcases hz.2 with h0 | ⟨g, cap, cur, rfl, hb, hgg, hrest⟩
    · exact .inl h0
    · refine .inr ⟨g, cap, cur, rfl, hb, (hk g (fun e => hne (by rw [e]; rfl))).trans hgg, hrest⟩
  exact ⟨h2 _ _ hl h.below, ho h.o1 hu, ho h.o2 hv, h.ap, fun y hy => by rw [List.mem_singleton.1 hy]; exact ⟨h1, hu, hv⟩, fun y hy => by rw [List.mem_singleton.1 hy]; exact hl⟩
theorem TN.forget (h : TN e W0 u xs v ys fr W) {fr' : List (Nat × Nat × Nat)} (hs : ∀ y ∈ fr', y ∈ fr) : TN e W0 u xs v ys fr' W := { h with fresh := fun y hy => h.fresh y (hs y hy), low := fun y hy => h.low y (hs y hy) }
theorem TN.re1 (h : TN e W0 u xs v ys fr W) {u' : Value} {xs' : List (Nat × Nat)} (hg : W.grownBy W' u.ownBlock) (ho : Own e W0.heap.size W' u' xs') (hb : u'.ownBlock = u.ownBlock ∨ u'.ownBlock = some W.heap.size) :
    TN e W0 u' xs' v ys fr W' := by
  refine ⟨h.below.grown hg h.below.size (fun k hk => by have := h.o1.lt k hk; omega), ho, ?_, ?_, ?_, h.low⟩
  · refine h.o2.kept hg ?_
    cases hv : v.ownBlock with
    | none => exact .inl rfl
    | some g =>
      right
      intro e
      exact h.ap g e.symm hv
  · intro g hu' hv
    rcases hb with e | e
    · exact h.ap g (e ▸ hu') hv
    · rw [e] at hu'
      injection hu' with hu'
      have := h.o2.lt _ hv
      omega
  · intro y hy
    obtain ⟨h1, h2, h3⟩ := h.fresh y hy
    refine ⟨(hg.block _ (blk_lt h1) (fun e => h2 e.symm)).trans h1, fun e => ?_, h3⟩
    rcases hb with e' | e'
    · exact h2 (e' ▸ e)
    · rw [e'] at e
      injection e with e
      have := blk_lt h1
      omega
theorem TN.swap (h : TN e W0 u xs v ys fr W) : TN e W0 v ys u xs fr W :=
  ⟨h.below, h.o2, h.o1, fun g hv hu => h.ap g hu hv, fun y hy => ⟨(h.fresh y hy).1, (h.fresh y hy).2.2, (h.fresh y hy).2.1⟩, h.low⟩
theorem TN.re2 (h : TN e W0 u xs v ys fr W) {v' : Value} {ys' : List (Nat × Nat)} (hg : W.grownBy W' v.ownBlock) (ho : Own e W0.heap.size W' v' ys') (hb : v'.ownBlock = v.ownBlock ∨ v'.ownBlock = some W.heap.size) :
    TN e W0 u xs v' ys' fr W' := (h.swap.re1 hg ho hb).swap
theorem step_app_run {P : Program} {ops : Array Oper} {o : Oper} {a : Act} {w : World} {K : Act → World → Prop} {Q : Exit → Act → World → Prop} {E : Prop}
    (hg : o.guard = none) (d x : Operand) (t : TypeId) (hop : o.op = Op.call { callee := Callee.builtin Builtin.append, args := #[d, x], argTypes := #[t, t] })
    (v u : Value) (hd : a.eval d = v) (hx : a.eval x = u) {v' : Value} {w' : World} (hr : (Builtin.append_ #[t, t] o.type #[v, u]).run P w = .ok v' w') (hK : K (a.put o.dst v') w') :
    if Region.wanted o (yielded ops a.tmps) = true then Oper.wp P o a w K Q else E := step_app hg d x t hop v u hd hx hr hK
set_option maxRecDepth 100000 in
theorem step_TN1 (T : NumTy e st) {ops : Array Oper} {o : Oper} {a : Act} {K : Act → World → Prop} {Q : Exit → Act → World → Prop} {E : Prop} {g : Nat} {p : Nat × Nat}
    (h : TN e W0 u xs v ys fr W) (hm : (g, p) ∈ fr) (hg : o.guard = none) (s x : Operand) (hop : o.op = Op.call { callee := Callee.builtin Builtin.append, args := #[s, x], argTypes := #[st, st] })
    (hs : a.eval s = u) (hx : a.eval x = .slice (some ⟨g, 0, none⟩) 1 1) {n : Nat} (hl : xs.length = n) (hn : n ≤ 2000)
    (hK : ∀ p' k w', TN e W0 (.slice (some ⟨p', 0, none⟩) (n + 1) k) (xs ++ [p]) v ys fr w' → K (a.put o.dst (.slice (some ⟨p', 0, none⟩) (n + 1) k)) w') :
    if Region.wanted o (yielded ops a.tmps) = true then Oper.wp Try.prog o a W K Q else E := by
  subst hl
  obtain ⟨u', W', hr, ho, hgr, hb, _, g', k, rfl⟩ := run_app T W o.type h.o1 (h.fresh _ hm).1 hn h.below.size
  exact step_app_run hg s x st hop _ _ hs hx hr (hK g' k W' (h.re1 hgr ho hb))
set_option maxRecDepth 100000 in
theorem step_TN2 (T : NumTy e st) {ops : Array Oper} {o : Oper} {a : Act} {K : Act → World → Prop} {Q : Exit → Act → World → Prop} {E : Prop} {g : Nat} {p : Nat × Nat}
    (h : TN e W0 u xs v ys fr W) (hm : (g, p) ∈ fr) (hg : o.guard = none) (s x : Operand) (hop : o.op = Op.call { callee := Callee.builtin Builtin.append, args := #[s, x], argTypes := #[st, st] })
    (hs : a.eval s = v) (hx : a.eval x = .slice (some ⟨g, 0, none⟩) 1 1) {n : Nat} (hl : ys.length = n) (hn : n ≤ 2000)
    (hK : ∀ p' k w', TN e W0 u xs (.slice (some ⟨p', 0, none⟩) (n + 1) k) (ys ++ [p]) fr w' → K (a.put o.dst (.slice (some ⟨p', 0, none⟩) (n + 1) k)) w') :
    if Region.wanted o (yielded ops a.tmps) = true then Oper.wp Try.prog o a W K Q else E := by
  subst hl
  obtain ⟨u', W', hr, ho, hgr, hb, _, g', k, rfl⟩ := run_app T W o.type h.o2 (h.fresh _ hm).1 hn h.below.size
  exact step_app_run hg s x st hop _ _ hs hx hr (hK g' k W' (h.re2 hgr ho hb))
end
/-- A row of one's own is a row. -/
theorem Own.row {e : TypeId} {B : Nat} {W : World} {v : Value} {L : List (Nat × Nat)} (h : Own e B W v L) : Row W v L := own_row rfl h
/-- The cells of an element of an old row, now. -/
theorem Row.at {W0 W : World} {v : Value} {l : List (Nat × Nat)} (h : Row W0 v l) (hb : Below W0.heap.size W0 W) : Row W v l := h.below hb
end Go.Proofs.Ytlbgpfddmkpakaa.Nu
