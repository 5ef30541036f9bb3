/- Parts Ub, Uc, Ud, Uf, Ta, Ug of the proof. -/
import Derived.RangeFuncNested
import Derived.RangeFuncCalls
import Derived.RangeFuncBox
import Derived.Shelf.Abstract
import Derived.OwnWalkIn
import Derived.TacticsInMore
import Derived.Test.YtgbafpjeapkklaaG0
namespace Go.Proofs.Ytgbafpjeapkklaa.Mb
open Go.RowKit
set_option linter.unusedVariables false
set_option linter.unusedSimpArgs false
structure Rk (t e : TypeId) (z : Value) (bt : Nat) : Prop where
  ht : Try.prog.underlying t = some (.slice e)
  hi : (Try.prog.info? e).map (fun i => (i.zero, i.size, i.bytes)) = some (some z, 1, bt)
  cs : bt = 8 ∨ bt = 24
  one : z.cells.size = 1
theorem rk30 : Rk 30 3 (.int .i64 0) 8 := ⟨Try.underlying30, by kernel_rfl, by decide, rfl⟩
theorem rk66 : Rk 66 30 (.slice none 0 0) 24 := ⟨Try.underlying66, by kernel_rfl, by decide, rfl⟩
theorem rk70 : Rk 70 84 (.chan none) 8 := ⟨Try.underlying70, by kernel_rfl, by decide, rfl⟩
theorem rk65 : Rk 65 75 (.pointer none) 8 := ⟨Try.underlying65, by kernel_rfl, by decide, rfl⟩
set_option maxRecDepth 100000 in
theorem app_src {t e : TypeId} {z : Value} {bt : Nat} (K : Rk t e z bt) (W : World) (ty : TypeId) {B : Nat} {u : Value} {n m cv : Nat} {xs ys : List Value} (h : W.ownsRow B e 1 u n xs) {a : Addr} (hl : ys.length = m) (hsrc : ∀ j x, ys[j]? = some x → W.cell? (a.add j) = some x)
    (h1 : ∀ x ∈ ys, x.oneCell' = true) (hn : n + m ≤ 100000) (hB : B ≤ W.heap.size) :
    ∃ u' W', (Builtin.append_ #[t, t] ty #[u, .slice (some a) m cv]).run Try.prog W = .ok u' W' ∧ W'.ownsRow B e 1 u' (n + m) (xs ++ ys) ∧ W.grownBy W' u.ownBlock ∧ (u'.ownBlock = u.ownBlock ∨ u'.ownBlock = some W.heap.size) ∧ ∃ p k, u' = .slice p (n + m) k := by
  obtain ⟨i0, hi, hz0, hz1, hz2⟩ := info_parts K.hi
  have ht := K.ht
  have hone := K.one
  have hcs := K.cs
  clear K
  have hl' : ys.length = m * 1 := by omega
  obtain ⟨u', W', hr, ho, hgr, hnil⟩ := run_append_own (P := Try.prog) W B t ty e i0 z 1 bt ht hi hz0 hz1 hz2 hone (by omega) u n xs h a m cv ys hl' hsrc h1 (by unfold maxLen; omega) (by rcases hcs with rfl | rfl <;> omega) hB
  have hsl := own1_slice ho
  refine ⟨u', W', hr, ho, hgr, ?_, hsl⟩
  rcases h.2 with ⟨rfl, h0⟩ | ⟨g', cap, cur', rfl, hb, hgg, hnc, hm, hs, ht2⟩
  · by_cases hm0 : m = 0
    · left
      have := hnil.2 ⟨rfl, hm0⟩
      rw [this]
    · right
      have hr2 := run_append_nil (P := Try.prog) W t ty e i0 z ht hi hz0 a m cv ys (by rw [hz1]; exact hl') hsrc (by omega) (by omega) (by rw [hz2]; rcases hcs with e | e <;> rw [e] <;> omega)
      have e := (hr.symm.trans hr2); injection e with e _
      rw [e]; rfl
  · by_cases hroom : n + m ≤ cap
    · left
      have hr2 := run_append_room (P := Try.prog) W t ty e i0 ht hi g' n cap cur' hgg a m cv ys (by rw [hz1]; exact hl') hsrc h1 hroom (by rw [hz1, hl', hs]; omega)
      have e := (hr.symm.trans hr2); injection e with e _
      rw [e]; rfl
    · right
      have hx := h.cells (g := g') rfl
      have hr2 := run_append_grow (P := Try.prog) W t ty e i0 z ht hi hz0 ⟨g', 0, none⟩ n cap xs (by rw [hz1]; exact h.1) hx a m cv ys (by rw [hz1]; exact hl') hsrc (by omega) (by omega) (growslice_fits (by omega) (by rw [hz2]; rcases hcs with e | e <;> rw [e] <;> omega))
      have e := (hr.symm.trans hr2); injection e with e _
      rw [e]; rfl
set_option maxRecDepth 100000 in
theorem app_nil {t e : TypeId} {z : Value} {bt : Nat} (K : Rk t e z bt) (W : World) (ty : TypeId) {B : Nat} {u : Value} {n : Nat} {xs : List Value} (h : W.ownsRow B e 1 u n xs) :
    (Builtin.append_ #[t, t] ty #[u, .slice none 0 0]).run Try.prog W = .ok u W := by
  obtain ⟨i0, hi, hz0, hz1, hz2⟩ := info_parts K.hi
  have ht := K.ht
  obtain ⟨p, k, rfl⟩ := own1_slice h
  have hnk : n ≤ k := by
    rcases h.2 with ⟨e, rfl⟩ | ⟨g', cap, cur, e, _, _, hc, _⟩
    · exact Nat.zero_le _
    · injection e with _ _ e3; omega
  cases p with
  | none =>
    rcases h.2 with ⟨e, rfl⟩ | ⟨g', cap, cur, e, _⟩
    · injection e with _ _ e3
      subst e3
      simp [Builtin.append_, run_underlying ht, sizeOf, typeInfo, hi, Builtin.lenOf, Builtin.firstCells, loadCells, loadCellsFrom, storeCells]
    · cases e
  | some a =>
    simp [Builtin.append_, run_underlying ht, sizeOf, typeInfo, hi, Builtin.lenOf, Builtin.firstCells, loadCells, loadCellsFrom, storeCells, hnk]
theorem app_rows {t e : TypeId} {z : Value} {bt : Nat} (K : Rk t e z bt) (W : World) (ty : TypeId) {B B' : Nat} {u v : Value} {n m : Nat} {xs ys : List Value} (h : W.ownsRow B e 1 u n xs) (hv : W.ownsRow B' e 1 v m ys)
    (h1 : ∀ x ∈ ys, x.oneCell' = true) (hn : n + m ≤ 100000) (hB : B ≤ W.heap.size) :
    ∃ u' W', (Builtin.append_ #[t, t] ty #[u, v]).run Try.prog W = .ok u' W' ∧ W'.ownsRow B e 1 u' (n + m) (xs ++ ys) ∧ W.grownBy W' u.ownBlock ∧ (u'.ownBlock = u.ownBlock ∨ u'.ownBlock = some W.heap.size) ∧ ∃ p k, u' = .slice p (n + m) k := by
  have hvl := hv.1
  rcases hv.2 with ⟨rfl, h0⟩ | ⟨g, cv, cur, rfl, _, hg, hcv, hmv, hsv, htv⟩
  · subst h0
    have hy : ys = [] := by simpa using hvl
    subst hy
    exact ⟨u, W, app_nil K W ty h, by simpa using h, ⟨rfl, rfl, rfl, Nat.le_refl _, fun _ _ _ => rfl⟩, .inl rfl, by simpa using own1_slice h⟩
  · exact app_src K W ty h (by omega) (hv.cells (g := g) rfl) h1 hn hB
theorem app_one {t e : TypeId} {z : Value} {bt : Nat} (K : Rk t e z bt) (W : World) (ty : TypeId) {B g : Nat} {u x : Value} {n : Nat} {xs : List Value} {f : Nat × Nat} (h : W.ownsRow B e 1 u n xs) (hg : W.heap[g]? = some (.cells #[x] e f))
    (h1 : x.oneCell' = true) (hn : n ≤ 10000) (hB : B ≤ W.heap.size) :
    ∃ u' W', (Builtin.append_ #[t, t] ty #[u, .slice (some ⟨g, 0, none⟩) 1 1]).run Try.prog W = .ok u' W' ∧ W'.ownsRow B e 1 u' (n + 1) (xs ++ [x]) ∧ W.grownBy W' u.ownBlock ∧ (u'.ownBlock = u.ownBlock ∨ u'.ownBlock = some W.heap.size) ∧ ∃ p k, u' = .slice p (n + 1) k :=
  app_src K W ty h rfl (fun j y hj => by
    cases j with
    | zero => simp at hj; subst hj; exact cell_blk hg 0
    | succ j => simp at hj) (by simpa using h1) (by omega) hB
end Go.Proofs.Ytgbafpjeapkklaa.Mb
namespace Go.Proofs.Ytgbafpjeapkklaa.Mb
open Go.RowKit
set_option linter.unusedVariables false
set_option linter.unusedSimpArgs false
def BR (W : World) (B : Nat) (v : Value) (most : List Int) (mail : List (List Int)) (grp : List Int) : Prop :=
  ∃ v0 v1 v2 vs, v = .agg #[v0, v1, v2] ∧ W.ownsRow B 3 1 v0 most.length (ints most) ∧ W.ownsRow B 30 1 v1 mail.length vs ∧ W.ownsRow B 3 1 v2 grp.length (ints grp) ∧
    ∀ (i : Nat) (x : Value) (l : List Int), vs[i]? = some x → mail[i]? = some l → W.ownsRow B 3 1 x l.length (ints l)
theorem own_keep {W W' : World} {B s : Nat} {e : TypeId} {v : Value} {n : Nat} {xs : List Value} (h : W.ownsRow B e s v n xs) (hk : ∀ (g : Nat) (C : Array Value) (f : Nat × Nat), W.heap[g]? = some (.cells C e f) → W'.heap[g]? = W.heap[g]?) : W'.ownsRow B e s v n xs := by
  refine ⟨h.1, ?_⟩
  rcases h.2 with h0 | ⟨g, cap, cur, h1, h2, h3, h4⟩
  · exact .inl h0
  · exact .inr ⟨g, cap, cur, h1, h2, (hk g _ _ h3).trans h3, h4⟩
theorem own_lower {W : World} {B B' s : Nat} {e : TypeId} {v : Value} {n : Nat} {xs : List Value} (h : W.ownsRow B e s v n xs) (hb : B' ≤ B) : W.ownsRow B' e s v n xs := by
  refine ⟨h.1, ?_⟩
  rcases h.2 with h0 | ⟨g, cap, cur, h1, h2, h3⟩
  · exact .inl h0
  · exact .inr ⟨g, cap, cur, h1, Nat.le_trans hb h2, h3⟩
structure R3 (w : World) (v0 v1 v2 : Value) (W : World) : Prop where
  below : Below w.heap.size w W
  box : W.heap[w.heap.size]? = some (.cells #[v0, v1, v2] 68 (0, 0))
  out : W.heap[w.heap.size + 1]? = some (.cells #[.slice none 0 0, .slice none 0 0, .slice none 0 0] 68 (0, 0))
section
variable {w : World} {v0 v1 v2 : Value} {W W' : World}
theorem R3.step (h : R3 w v0 v1 v2 W) (hb : Below W.heap.size W W') : R3 w v0 v1 v2 W' :=
  ⟨h.below.trans (hb.mono h.below.size), (hb.block _ (blk_lt h.box)).trans h.box, (hb.block _ (blk_lt h.out)).trans h.out⟩
theorem R3.mk' (w : World) (v0 v1 v2 : Value) : R3 w v0 v1 v2 ((w.alloc (Obj.cells #[v0, v1, v2] 68)).alloc (Obj.cells #[.slice none 0 0, .slice none 0 0, .slice none 0 0] 68)) := by
  have h1 : Below w.heap.size w (w.alloc (Obj.cells #[v0, v1, v2] 68)) := (Below.refl _ _).alloc (Nat.le_refl _) _
  have h2 := (Below.refl (w.alloc (Obj.cells #[v0, v1, v2] 68)).heap.size (w.alloc (Obj.cells #[v0, v1, v2] 68))).alloc (Nat.le_refl _) (Obj.cells #[.slice none 0 0, .slice none 0 0, .slice none 0 0] 68)
  have h3 := (MapKept.heap_alloc w (Obj.cells #[v0, v1, v2] 68)).1
  refine ⟨h1.trans (h2.mono h1.size), (h2.block _ (blk_lt h3)).trans h3, ?_⟩
  have h4 := (MapKept.heap_alloc (w.alloc (Obj.cells #[v0, v1, v2] 68)) (Obj.cells #[.slice none 0 0, .slice none 0 0, .slice none 0 0] 68)).1
  simpa using h4
theorem R3.facts (h : R3 w v0 v1 v2 W) : W.cell? ⟨w.heap.size, 0, none⟩ = some v0 ∧ W.cell? ⟨w.heap.size, 1, none⟩ = some v1 ∧ W.cell? ⟨w.heap.size, 2, none⟩ = some v2 := ⟨cell_blk h.box 0, cell_blk h.box 1, cell_blk h.box 2⟩
theorem R3.zero (h : R3 w v0 v1 v2 W) : W.cell? ⟨w.heap.size + 1, 0, none⟩ = some (.slice none 0 0) ∧ W.cell? ⟨w.heap.size + 1, 1, none⟩ = some (.slice none 0 0) ∧ W.cell? ⟨w.heap.size + 1, 2, none⟩ = some (.slice none 0 0) := ⟨cell_blk h.out 0, cell_blk h.out 1, cell_blk h.out 2⟩
theorem R3.frz (h : R3 w v0 v1 v2 W) (o : Nat) : W.frozen? ⟨w.heap.size, o, none⟩ = false ∧ W.frozen? ⟨w.heap.size + 1, o, none⟩ = false := ⟨frozen_blk h.box o, frozen_blk h.out o⟩
theorem R3.set0 (h : R3 w v0 v1 v2 W) (u : Value) : R3 w u v1 v2 (W.setCell ⟨w.heap.size, 0, none⟩ u) :=
  ⟨h.below.setCell (p := ⟨w.heap.size, 0, none⟩) (Nat.le_refl _) _, blk_set h.box 0 _, blk_set_ne h.out ⟨w.heap.size, 0, none⟩ (by show w.heap.size + 1 ≠ w.heap.size; omega) _⟩
theorem R3.set1 (h : R3 w v0 v1 v2 W) (u : Value) : R3 w v0 u v2 (W.setCell ⟨w.heap.size, 1, none⟩ u) :=
  ⟨h.below.setCell (p := ⟨w.heap.size, 1, none⟩) (Nat.le_refl _) _, blk_set h.box 1 _, blk_set_ne h.out ⟨w.heap.size, 1, none⟩ (by show w.heap.size + 1 ≠ w.heap.size; omega) _⟩
theorem R3.set2 (h : R3 w v0 v1 v2 W) (u : Value) : R3 w v0 v1 u (W.setCell ⟨w.heap.size, 2, none⟩ u) :=
  ⟨h.below.setCell (p := ⟨w.heap.size, 2, none⟩) (Nat.le_refl _) _, blk_set h.box 2 _, blk_set_ne h.out ⟨w.heap.size, 2, none⟩ (by show w.heap.size + 1 ≠ w.heap.size; omega) _⟩
theorem R3.fin (h : R3 w v0 v1 v2 W) {u0 u1 u2 : Value} (hW : W' = (((W.setCell ⟨w.heap.size + 1, 0, none⟩ u0).setCell ⟨w.heap.size + 1, 1, none⟩ u1).setCell ⟨w.heap.size + 1, 2, none⟩ u2)) :
    Below w.heap.size w W' ∧ W'.cell? ⟨w.heap.size + 1, 0, none⟩ = some u0 ∧ W'.cell? ⟨w.heap.size + 1, 1, none⟩ = some u1 ∧ W'.cell? ⟨w.heap.size + 1, 2, none⟩ = some u2 ∧
      ∀ (g : Nat) (C : Array Value) (e : TypeId) (f : Nat × Nat), e = 3 ∨ e = 30 → W.heap[g]? = some (.cells C e f) → W'.heap[g]? = W.heap[g]? := by
  subst hW
  have h1 := blk_set h.out 0 u0
  have h2 := blk_set h1 1 u1
  have h3 := blk_set h2 2 u2
  refine ⟨((h.below.setCell (p := ⟨w.heap.size + 1, 0, none⟩) (Nat.le_succ _) _).setCell (p := ⟨w.heap.size + 1, 1, none⟩) (Nat.le_succ _) _).setCell (p := ⟨w.heap.size + 1, 2, none⟩) (Nat.le_succ _) _, cell_blk h3 0, cell_blk h3 1, cell_blk h3 2, fun g C e f he hg => ?_⟩
  have hne : g ≠ w.heap.size + 1 := by
    rintro rfl
    rw [h.out] at hg
    injection hg with hg
    injection hg with _ h4 _
    subst h4
    rcases he with h | h <;> cases h
  rw [Below.heap_setCell _ _ _ _ hne, Below.heap_setCell _ _ _ _ hne, Below.heap_setCell _ _ _ _ hne]
theorem R3.keeps (h : R3 w v0 v1 v2 W) (o : Nat) (u : Value) (g : Nat) (C : Array Value) (e : TypeId) (f : Nat × Nat) (he : e = 3 ∨ e = 30) (hg : W.heap[g]? = some (.cells C e f)) : (W.setCell ⟨w.heap.size, o, none⟩ u).heap[g]? = W.heap[g]? := by
  have hne : g ≠ w.heap.size := by
    rintro rfl
    rw [h.box] at hg
    injection hg with hg
    injection hg with _ h4 _
    subst h4
    rcases he with h | h <;> cases h
  rw [Below.heap_setCell _ _ _ _ hne]
end
theorem made_row (W : World) (e : TypeId) (B : Nat) (hB : B ≤ W.heap.size) : (W.alloc (Obj.cells #[] e)).ownsRow B e 1 (.slice (some ⟨W.heap.size, 0, none⟩) 0 0) 0 [] ∧ Below W.heap.size W (W.alloc (Obj.cells #[] e)) :=
  ⟨World.ownsRow_made W (e := e) (size := 1) (base := B) #[] 0 hB (by decide) rfl, (Below.refl _ _).alloc (Nat.le_refl _) _⟩
theorem copy_row {t e : TypeId} {z : Value} {bt : Nat} (K : Rk t e z bt) (W : World) (ty : TypeId) {B : Nat} {v : Value} {m : Nat} {ys : List Value} (hv : W.ownsRow B e 1 v m ys) (h1 : ∀ x ∈ ys, x.oneCell' = true) (hm : m ≤ 100000) :
    ∃ u W', (Builtin.append_ #[t, t] ty #[.slice (some ⟨W.heap.size, 0, none⟩) 0 0, v]).run Try.prog (W.alloc (Obj.cells #[] e)) = .ok u W' ∧ W'.ownsRow W.heap.size e 1 u m ys ∧ Below W.heap.size W W' ∧ ∃ p k, u = .slice p m k := by
  obtain ⟨h0, hb⟩ := made_row W e W.heap.size (Nat.le_refl _)
  obtain ⟨u, W', hr, ho, hg, _, hs⟩ := app_rows K (W.alloc (Obj.cells #[] e)) ty h0 (own1_below hv hb) h1 (by omega) hb.size
  rw [Nat.zero_add, List.nil_append] at ho
  refine ⟨u, W', hr, ho, hb.grown hg hb.size (fun k hk => by simp [Value.ownBlock] at hk; omega), by rw [Nat.zero_add] at hs; exact hs⟩
theorem more_row {t e : TypeId} {z : Value} {bt : Nat} (K : Rk t e z bt) (W : World) (ty : TypeId) {B : Nat} {u : Value} {n : Nat} {xs : List Value} (x : Value) (h : W.ownsRow B e 1 u n xs) (h1 : x.oneCell' = true) (hn : n ≤ 10000) (hB : B ≤ W.heap.size) :
    ∃ u' W', (Builtin.append_ #[t, t] ty #[u, .slice (some ⟨W.heap.size, 0, none⟩) 1 1]).run Try.prog (W.alloc (Obj.cells #[x] e)) = .ok u' W' ∧ W'.ownsRow B e 1 u' (n + 1) (xs ++ [x]) ∧ W.grownBy W' u.ownBlock ∧ ∃ p k, u' = .slice p (n + 1) k := by
  have ha : Below W.heap.size W (W.alloc (Obj.cells #[x] e)) := (Below.refl _ _).alloc (Nat.le_refl _) _
  obtain ⟨u', W', hr, ho, hg, _, hs⟩ := app_one K (W.alloc (Obj.cells #[x] e)) ty (own1_below h ha) (MapKept.heap_alloc W (Obj.cells #[x] e)).1 h1 hn (Nat.le_trans hB ha.size)
  refine ⟨u', W', hr, ho, ?_, hs⟩
  exact (World.grownBy_alloc W _ _).trans hg
end Go.Proofs.Ytgbafpjeapkklaa.Mb
namespace Go.Proofs.Ytgbafpjeapkklaa.Mb
open Go.RowKit
set_option linter.unusedVariables false
set_option linter.unusedSimpArgs false
theorem own_one_cell {W : World} {B s : Nat} {e : TypeId} {v : Value} {n : Nat} {xs : List Value} (h : W.ownsRow B e s v n xs) : v.oneCell' = true := by
  rcases h.2 with ⟨rfl, _⟩ | ⟨g, cap, cur, rfl, _⟩ <;> rfl
theorem one_slices {W : World} {B : Nat} {e : TypeId} {v : Value} {n : Nat} {xs : List Value} (h : W.ownsRow B e 1 v n xs) (hx : ∀ (i : Nat) (x : Value), xs[i]? = some x → x.oneCell' = true) : ∀ x ∈ xs, x.oneCell' = true := fun x hm => by
  obtain ⟨i, hi, e⟩ := List.getElem_of_mem hm
  exact hx i x (by rw [← e]; simp)
set_option maxRecDepth 100000 in
set_option maxHeartbeats 8000000 in
theorem rnew_no {B : Nat} {b : Value} {most : List Int} {mail : List (List Int)} {grp : List Int} {n : Int} (w : World) (hb : BR w B b most mail grp) (hn : n < 1 ∨ 1000 < n) :
    Calls Try.prog 25 #[b, .int .i64 n] w fun e w' => e = .returned (.tuple #[b, .int .i64 1]) ∧ Below w.heap.size w w' := by
  obtain ⟨v0, v1, v2, vs, rfl, h0, h1, h2, h3⟩ := hb
  obtain ⟨q0, k0, rfl⟩ := own1_slice h0
  obtain ⟨q1, k1, rfl⟩ := own1_slice h1
  obtain ⟨q2, k2, rfl⟩ := own1_slice h2
  clear h0 h1 h2 h3
  by_cases hn1 : n < 1
  · have tn : decide (n < 1) = true := decide_eq_true hn1
    clear hn hn1
    have HB0 : Hid (R3 w (.slice q0 most.length k0) (.slice q1 mail.length k1) (.slice q2 grp.length k2) ((w.alloc (Obj.cells #[.slice q0 most.length k0, .slice q1 mail.length k1, .slice q2 grp.length k2] 68)).alloc (Obj.cells #[.slice none 0 0, .slice none 0 0, .slice none 0 0] 68))) := R3.mk' w _ _ _
    go_enter Try.func25, Try.ntmps25
    go_upto_region 1 with fail
    generalize ((w.alloc (Obj.cells #[.slice q0 most.length k0, .slice q1 mail.length k1, .slice q2 grp.length k2] 68)).alloc (Obj.cells #[.slice none 0 0, .slice none 0 0, .slice none 0 0] 68)) = W0 at *
    obtain ⟨c0, c1, c2⟩ := HB0.out.facts
    obtain ⟨z0, z1, z2⟩ := HB0.out.zero
    have f0 := (HB0.out.frz 0).2
    have f1 := (HB0.out.frz 1).2
    have f2 := (HB0.out.frz 2).2
    go_wp2_with fail
    obtain ⟨W5, hW5⟩ : ∃ W5, W5 = (((W0.setCell ⟨w.heap.size + 1, 0, none⟩ (.slice q0 most.length k0)).setCell ⟨w.heap.size + 1, 1, none⟩ (.slice q1 mail.length k1)).setCell ⟨w.heap.size + 1, 2, none⟩ (.slice q2 grp.length k2)) := ⟨_, rfl⟩
    rw [← hW5]
    obtain ⟨k1', d0, d1, d2, _⟩ := HB0.out.fin hW5
    have K1 := Lib.hid k1'
    clear c0 c1 c2 z0 z1 z2 f0 f1 f2 k1' hW5
    refine bodyPost_ret (v := .tuple #[.agg #[.slice q0 most.length k0, .slice q1 mail.length k1, .slice q2 grp.length k2], .int .i64 1]) (by simp [results, Try.results25, go_sem, d0, d1, d2]) rfl ⟨rfl, K1.out⟩
  · have tn : decide (n < 1) = false := decide_eq_false hn1
    have tn2 : decide (1000 < n) = true := decide_eq_true (by omega)
    clear hn hn1
    have HB0 : Hid (R3 w (.slice q0 most.length k0) (.slice q1 mail.length k1) (.slice q2 grp.length k2) ((w.alloc (Obj.cells #[.slice q0 most.length k0, .slice q1 mail.length k1, .slice q2 grp.length k2] 68)).alloc (Obj.cells #[.slice none 0 0, .slice none 0 0, .slice none 0 0] 68))) := R3.mk' w _ _ _
    go_enter Try.func25, Try.ntmps25
    go_upto_region 1 with fail
    generalize ((w.alloc (Obj.cells #[.slice q0 most.length k0, .slice q1 mail.length k1, .slice q2 grp.length k2] 68)).alloc (Obj.cells #[.slice none 0 0, .slice none 0 0, .slice none 0 0] 68)) = W0 at *
    obtain ⟨c0, c1, c2⟩ := HB0.out.facts
    obtain ⟨z0, z1, z2⟩ := HB0.out.zero
    have f0 := (HB0.out.frz 0).2
    have f1 := (HB0.out.frz 1).2
    have f2 := (HB0.out.frz 2).2
    go_wp2_with fail
    obtain ⟨W5, hW5⟩ : ∃ W5, W5 = (((W0.setCell ⟨w.heap.size + 1, 0, none⟩ (.slice q0 most.length k0)).setCell ⟨w.heap.size + 1, 1, none⟩ (.slice q1 mail.length k1)).setCell ⟨w.heap.size + 1, 2, none⟩ (.slice q2 grp.length k2)) := ⟨_, rfl⟩
    rw [← hW5]
    obtain ⟨k1', d0, d1, d2, _⟩ := HB0.out.fin hW5
    have K1 := Lib.hid k1'
    clear c0 c1 c2 z0 z1 z2 f0 f1 f2 k1' hW5
    refine bodyPost_ret (v := .tuple #[.agg #[.slice q0 most.length k0, .slice q1 mail.length k1, .slice q2 grp.length k2], .int .i64 1]) (by simp [results, Try.results25, go_sem, d0, d1, d2]) rfl ⟨rfl, K1.out⟩
set_option maxRecDepth 100000 in
set_option maxHeartbeats 8000000 in
theorem rnew_yes {B : Nat} {b : Value} {most : List Int} {mail : List (List Int)} {grp : List Int} {n : Int} (w : World) (hb : BR w B b most mail grp) (hB : B ≤ w.heap.size) (hl : most.length ≤ 1000) (hl2 : mail.length ≤ 1000) (hn1 : ¬ n < 1) (hn2 : ¬ 1000 < n) :
    Calls Try.prog 25 #[b, .int .i64 n] w fun e w' => ∃ b', e = .returned (.tuple #[b', .int .i64 0]) ∧ BR w' B b' (most ++ [n]) (mail ++ [[]]) grp ∧ Below w.heap.size w w' := by
  obtain ⟨v0, v1, v2, vs, rfl, h0, h1, h2, h3⟩ := hb
  obtain ⟨q0, k0, rfl⟩ := own1_slice h0
  obtain ⟨q1, k1, rfl⟩ := own1_slice h1
  obtain ⟨q2, k2, rfl⟩ := own1_slice h2
  have tn : decide (n < 1) = false := decide_eq_false hn1
  have tn2 : decide (1000 < n) = false := decide_eq_false hn2
  have H0 := Lib.hid h0
  have H1 := Lib.hid h1
  have H2 := Lib.hid h2
  have H3 := Lib.hid h3
  have HL := Lib.hid hl
  have HL2 := Lib.hid hl2
  have HBB := Lib.hid hB
  clear h0 h1 h2 h3 hl hl2 hB hn1 hn2
  have HB0 : Hid (R3 w (.slice q0 most.length k0) (.slice q1 mail.length k1) (.slice q2 grp.length k2) ((w.alloc (Obj.cells #[.slice q0 most.length k0, .slice q1 mail.length k1, .slice q2 grp.length k2] 68)).alloc (Obj.cells #[.slice none 0 0, .slice none 0 0, .slice none 0 0] 68))) := R3.mk' w _ _ _
  go_enter Try.func25, Try.ntmps25
  go_upto_region 1 with fail
  generalize ((w.alloc (Obj.cells #[.slice q0 most.length k0, .slice q1 mail.length k1, .slice q2 grp.length k2] 68)).alloc (Obj.cells #[.slice none 0 0, .slice none 0 0, .slice none 0 0] 68)) = W0 at *
  obtain ⟨c0, c1, c2⟩ := HB0.out.facts
  go_upto_region 3 with fail
  clear c0 c1 c2
  obtain ⟨c0, c1, c2⟩ := HB0.out.facts
  have f0 := (HB0.out.frz 0).1
  obtain ⟨u1, W1, hr1, ho1, hb1, p1, e1, hs1⟩ := copy_row rk30 W0 30 (own_lower (own1_below H0.out HB0.out.below) (Nat.zero_le _)) (ints_one _) (by have := HL.out; omega)
  subst hs1
  obtain ⟨u2, W2, hr2, ho2, hg2, p2, e2, hs2⟩ := more_row rk30 W1 30 (.int .i64 n) ho1 rfl (by have := HL.out; omega) hb1.size
  subst hs2
  have hb2 : Below W0.heap.size W0 W2 := hb1.grown hg2 hb1.size (fun k hk => by have := ho1.lt k hk; omega)
  have HR1 := Lib.hid hr1
  have HR2 := Lib.hid hr2
  have HO2 : Hid (W2.ownsRow W0.heap.size 3 1 (.slice p2 (most.length + 1) e2) (most.length + 1) (ints (most ++ [n]))) := by
    have : ints (most ++ [n]) = ints most ++ [.int .i64 n] := by simp [ints]
    show World.ownsRow _ _ _ _ _ _ _
    rw [this]
    exact ho2
  have HB2 := Lib.hid (HB0.out.step hb2)
  have HBS := Lib.hid hb2.size
  clear hr1 ho1 hb1 hr2 ho2 hg2 hb2
  obtain ⟨a0, _, _⟩ := (HB0.out.step ((Below.refl _ _).alloc (Nat.le_refl _) (Obj.cells #[] 3))).facts
  obtain ⟨d0, d1, d2⟩ := HB2.out.facts
  have g0 := (HB2.out.frz 0).1
  go_upto_region 4 with (first | (at_builtin; refine Lib.wpList_append_run _ rfl _ _ _ _ rfl (.slice (some ⟨W0.heap.size, 0, none⟩) 0 0) (.slice q0 most.length k0) rfl rfl _ _ HR1.out ?_) | (at_builtin; refine Lib.wpList_append_run _ rfl _ _ _ _ rfl (.slice p1 most.length e1) (.slice (some ⟨W1.heap.size, 0, none⟩) 1 1) rfl rfl _ _ HR2.out ?_))
  clear a0 d0 d1 d2 g0 c0 c1 c2 f0
  have HB3 := Lib.hid (HB2.out.set0 (.slice p2 (most.length + 1) e2))
  have HO3 : Hid ((W2.setCell ⟨w.heap.size, 0, none⟩ (.slice p2 (most.length + 1) e2)).ownsRow W0.heap.size 3 1 (.slice p2 (most.length + 1) e2) (most.length + 1) (ints (most ++ [n]))) := own_keep HO2.out (fun g C f hg => HB2.out.keeps 0 _ g C 3 f (.inl rfl) hg)
  generalize W2.setCell ⟨w.heap.size, 0, none⟩ (.slice p2 (most.length + 1) e2) = W3 at *
  have hv1 := own_lower (own1_below H1.out HB3.out.below) (Nat.zero_le _)
  obtain ⟨u4, W4, hr4, ho4, hb4, p4, e4, hs4⟩ := copy_row rk66 W3 66 hv1 (one_slices hv1 (fun i x hx => by
    obtain ⟨l, hl⟩ : ∃ l, mail[i]? = some l := ⟨mail[i]'(by have h := (List.getElem?_eq_some_iff.1 hx).1; rw [hv1.1] at h; omega), by simp⟩
    exact own_one_cell (H3.out i x l hx hl))) (by have := HL2.out; omega)
  subst hs4
  obtain ⟨u5, W5, hr5, ho5, hg5, p5, e5, hs5⟩ := more_row rk66 W4 66 (.slice none 0 0) ho4 rfl (by have := HL2.out; omega) hb4.size
  subst hs5
  have hb5 : Below W3.heap.size W3 W5 := hb4.grown hg5 hb4.size (fun k hk => by have := ho4.lt k hk; omega)
  have HR4 := Lib.hid hr4
  have HR5 := Lib.hid hr5
  have HO5 := Lib.hid ho5
  have HP5 := Lib.hid (own1_below HO3.out hb5)
  have HB5 := Lib.hid (HB3.out.step hb5)
  have HS5 := Lib.hid hb5.size
  have HS3 : Hid (w.heap.size ≤ W3.heap.size) := HB3.out.below.size
  clear hv1 hr4 ho4 hb4 hr5 ho5 hg5 hb5
  obtain ⟨c0, c1, c2⟩ := HB3.out.facts
  obtain ⟨_, a1, _⟩ := (HB3.out.step ((Below.refl _ _).alloc (Nat.le_refl _) (Obj.cells #[] 30))).facts
  obtain ⟨d0, d1, d2⟩ := HB5.out.facts
  have g1 := (HB5.out.frz 1).1
  go_upto_region 5 with (first | (at_builtin; refine Lib.wpList_append_run _ rfl _ _ _ _ rfl (.slice (some ⟨W3.heap.size, 0, none⟩) 0 0) (.slice q1 mail.length k1) rfl rfl _ _ HR4.out ?_) | (at_builtin; refine Lib.wpList_append_run _ rfl _ _ _ _ rfl (.slice p4 mail.length e4) (.slice (some ⟨W4.heap.size, 0, none⟩) 1 1) rfl rfl _ _ HR5.out ?_))
  clear a1 d0 d1 d2 g1 c0 c1 c2
  have HB6 := Lib.hid (HB5.out.set1 (.slice p5 (mail.length + 1) e5))
  have HO6 := Lib.hid (own_keep HO5.out (fun g C f hg => HB5.out.keeps 1 (.slice p5 (mail.length + 1) e5) g C 30 f (.inr rfl) hg))
  have HP6 := Lib.hid (own_keep HP5.out (fun g C f hg => HB5.out.keeps 1 (.slice p5 (mail.length + 1) e5) g C 3 f (.inl rfl) hg))
  generalize W5.setCell ⟨w.heap.size, 1, none⟩ (.slice p5 (mail.length + 1) e5) = W6 at *
  obtain ⟨c0, c1, c2⟩ := HB6.out.facts
  obtain ⟨z0, z1, z2⟩ := HB6.out.zero
  have f0 := (HB6.out.frz 0).2
  have f1 := (HB6.out.frz 1).2
  have f2 := (HB6.out.frz 2).2
  go_wp2_with fail
  obtain ⟨W7, hW7⟩ : ∃ W7, W7 = (((W6.setCell ⟨w.heap.size + 1, 0, none⟩ (.slice p2 (most.length + 1) e2)).setCell ⟨w.heap.size + 1, 1, none⟩ (.slice p5 (mail.length + 1) e5)).setCell ⟨w.heap.size + 1, 2, none⟩ (.slice q2 grp.length k2)) := ⟨_, rfl⟩
  rw [← hW7]
  obtain ⟨k1', d0, d1, d2, hk⟩ := HB6.out.fin hW7
  have K1 := Lib.hid k1'
  have HK := Lib.hid hk
  clear c0 c1 c2 z0 z1 z2 f0 f1 f2 k1' hW7 hk
  refine bodyPost_ret (v := .tuple #[.agg #[.slice p2 (most.length + 1) e2, .slice p5 (mail.length + 1) e5, .slice q2 grp.length k2], .int .i64 0]) (by simp [results, Try.results25, go_sem, d0, d1, d2]) rfl ⟨_, rfl, ⟨_, _, _, vs ++ [.slice none 0 0], rfl, ?_, ?_, ?_, ?_⟩, K1.out⟩
  · rw [show (most ++ [n]).length = most.length + 1 by simp]
    exact own_lower (own_keep HP6.out (fun g C f hg => HK.out g C 3 f (.inl rfl) hg)) (Nat.le_trans HBB.out HB0.out.below.size)
  · rw [show (mail ++ [([] : List Int)]).length = mail.length + 1 by simp]
    exact own_lower (own_keep HO6.out (fun g C f hg => HK.out g C 30 f (.inr rfl) hg)) (Nat.le_trans HBB.out HS3.out)
  · exact own1_below H2.out K1.out
  · intro i x l hx hl
    have hvl : vs.length = mail.length := by have := H1.out.1; omega
    rcases Nat.lt_or_ge i mail.length with hi | hi
    · rw [List.getElem?_append_left (by omega)] at hx
      rw [List.getElem?_append_left hi] at hl
      exact own1_below (H3.out i x l hx hl) K1.out
    · have hi2 : i = mail.length := by
        have := (List.getElem?_eq_some_iff.1 hl).1
        simp at this
        omega
      subst hi2
      rw [List.getElem?_append_right (by omega)] at hx
      simp [hvl] at hx hl
      subst hx hl
      exact World.ownsRow_nil _ _ _ _
end Go.Proofs.Ytgbafpjeapkklaa.Mb
namespace Go.Proofs.Ytgbafpjeapkklaa.Mb
open Go.RowKit
set_option linter.unusedVariables false
set_option linter.unusedSimpArgs false
structure DA (W0 : World) (u : Value) (n : Nat) (xs : List Value) (fr : List (Nat × Value)) (W : World) : Prop where
  below : Below W0.heap.size W0 W
  own : W.ownsRow W0.heap.size 3 1 u n xs
  fresh : ∀ y ∈ fr, W.heap[y.1]? = some (.cells #[y.2] 3 (0, 0)) ∧ W0.heap.size ≤ y.1 ∧ u.ownBlock ≠ some y.1
section
variable {W0 : World} {u : Value} {n : Nat} {xs : List Value} {fr : List (Nat × Value)} {W : World}
theorem DA.start (W0 : World) : DA W0 (.slice none 0 0) 0 [] [] W0 := ⟨Below.refl _ _, World.ownsRow_nil _ _ _ _, fun y h => by cases h⟩
theorem DA.drew (h : DA W0 u n xs fr W) : DA W0 u n xs fr W.drew := ⟨h.below.drew, own1_below h.own (Below.refl _ _).drew, h.fresh⟩
theorem DA.cell (h : DA W0 u n xs fr W) (x : Value) : DA W0 u n xs ((W.heap.size, x) :: fr) (W.alloc (Obj.cells #[x] 3)) := by
  have ha : Below W.heap.size W (W.alloc (Obj.cells #[x] 3)) := (Below.refl _ _).alloc (Nat.le_refl _) _
  refine ⟨h.below.trans (ha.mono h.below.size), own1_below h.own ha, fun y hy => ?_⟩
  rcases List.mem_cons.1 hy with rfl | hy
  · exact ⟨(MapKept.heap_alloc W _).1, h.below.size, fun e => by have := h.own.lt _ e; omega⟩
  · obtain ⟨a, b, c⟩ := h.fresh y hy
    exact ⟨(ha.block _ (blk_lt a)).trans a, b, c⟩
theorem DA.row (h : DA W0 (.slice none 0 0) 0 [] fr W) : DA W0 (.slice (some ⟨W.heap.size, 0, none⟩) 0 0) 0 [] fr (W.alloc (Obj.cells #[] 3)) := by
  obtain ⟨ho, ha⟩ := made_row W 3 W0.heap.size h.below.size
  refine ⟨h.below.trans (ha.mono h.below.size), ho, fun y hy => ?_⟩
  obtain ⟨a, b, c⟩ := h.fresh y hy
  refine ⟨(ha.block _ (blk_lt a)).trans a, b, fun e => ?_⟩
  simp [Value.ownBlock] at e
  have := blk_lt a
  omega
theorem DA.grow (h : DA W0 u n xs fr W) {u' : Value} {n' : Nat} {xs' : List Value} {W' : World} (ho : W'.ownsRow W0.heap.size 3 1 u' n' xs') (hg : W.grownBy W' u.ownBlock) (hb : u'.ownBlock = u.ownBlock ∨ u'.ownBlock = some W.heap.size) : DA W0 u' n' xs' fr W' := by
  refine ⟨h.below.grown hg h.below.size (fun k hk => by have := h.own.lt k hk; omega), ho, fun y hy => ?_⟩
  obtain ⟨a, b, c⟩ := h.fresh y hy
  refine ⟨(hg.block _ (blk_lt a) (fun e => c e.symm)).trans a, b, fun e => ?_⟩
  rcases hb with e' | e'
  · exact c (e'.symm.trans e)
  · rw [e'] at e
    injection e with e
    have := blk_lt a
    omega
end
end Go.Proofs.Ytgbafpjeapkklaa.Mb
namespace Go.Proofs.Ytgbafpjeapkklaa.Mb
open Go.RowKit Go.Shelf
set_option linter.unusedVariables false
set_option linter.unusedSimpArgs false
section
variable {F : Fence} {n : Nat} {P : Program} {ops : Array Oper} {Q : Exit → Act → World → Prop}
def left (ops : Array Oper) (listed : Array Bool) : Nat := (List.range ops.size).countP fun i => !listed.getD i true
theorem left_set {listed : Array Bool} {i : Nat} (hi : i < ops.size) (h : listed.getD i true = false) : left ops (listed.setIfInBounds i true) + 1 = left ops listed := by
  unfold left
  have hlt : i < listed.size := by
    rcases Nat.lt_or_ge i listed.size with h' | h'
    · exact h'
    · simp [Array.getElem?_eq_none h'] at h
  have key : ∀ l : List Nat, l.Nodup → (l.countP fun j => !(listed.setIfInBounds i true).getD j true) + (if i ∈ l then 1 else 0) = l.countP fun j => !listed.getD j true := by
    intro l
    induction l with
    | nil => intro _; simp
    | cons x l ih =>
      intro hnd
      obtain ⟨h1, h2⟩ := List.nodup_cons.1 hnd
      have ih := ih h2
      rw [List.countP_cons, List.countP_cons]
      by_cases hx : i = x
      · subst hx
        have e1 : (listed.setIfInBounds i true).getD i true = true := by simp [hlt]
        rw [if_neg h1] at ih
        rw [e1, h]
        simp at ih ⊢
        exact ih
      · rw [getD_set_ne true hx]
        have e2 : (i ∈ x :: l) ↔ i ∈ l := by simp [hx]
        simp only [e2]
        omega
  have := key (List.range ops.size) List.nodup_range
  rw [if_pos (by simpa using hi)] at this
  exact this
theorem wpAnyIn_inv (hback : ∀ (i : Nat) (o : Oper), ops[i]? = some o → ∀ e ∈ o.after, e.on < i)
    (I : (Nat → Bool) → Act → World → Prop)
    (step : ∀ (i : Nat) (o : Oper), ops[i]? = some o → ∀ (S : Nat → Bool) a w, I S a w → S i = false → (∀ e ∈ o.after, Region.binds .any e = true → S e.on = true) →
      wpOpIn F n P ops Q i (I fun j => j == i || S j) a w)
    (done : ∀ S a w, I S a w → (∀ i, i < ops.size → S i = true) → Q .normal a w) :
    ∀ (fuel : Nat) (listed : Array Bool) a w, listed.size = ops.size → left ops listed ≤ fuel → I (fun j => listed.getD j true) a w → wpAnyIn F n P .any ops Q fuel listed a w := by
  have hall : ∀ listed : Array Bool, listed.size = ops.size → Region.ready .any ops listed = [] → ∀ i, i < ops.size → listed.getD i true = true := by
    intro listed hsz hr i
    induction i using Nat.strongRecOn with
    | ind i ih =>
      intro hi
      cases hl : listed.getD i true with
      | true => rfl
      | false =>
        exfalso
        have : i ∈ Region.ready .any ops listed := by
          rw [mem_ready]
          refine ⟨hl, ops[i], by simp [hi], fun e he _ => ?_⟩
          have hlt := hback i ops[i] (by simp [hi]) e he
          have := ih e.on hlt (by omega)
          simp [show e.on < listed.size by omega] at this ⊢
          exact this
        rw [hr] at this
        cases this
  intro fuel
  induction fuel with
  | zero =>
    intro listed a w hsz hleft hI
    have hr : Region.ready .any ops listed = [] := by
      rw [List.eq_nil_iff_forall_not_mem]
      intro j hj
      obtain ⟨h0, o, ho, _⟩ := mem_ready.1 hj
      have hlt := (Array.getElem?_eq_some_iff.1 ho).1
      have := left_set hlt h0
      omega
    exact ⟨hr, done _ a w hI (hall listed hsz hr)⟩
  | succ fuel ih =>
    intro listed a w hsz hleft hI
    refine ⟨fun hr => done _ a w hI (hall listed hsz hr), fun i hi => ?_⟩
    obtain ⟨h0, o, ho, hdep⟩ := mem_ready.1 hi
    have hlt := (Array.getElem?_eq_some_iff.1 ho).1
    have hs := step i o ho _ a w hI h0 (fun e he hb => by
      have h := hdep e he hb
      have hel := hback i o ho e he
      simp [show e.on < listed.size by omega] at h ⊢
      exact h)
    refine wpOpIn_mono (fun a' w' h' => ih _ a' w' (by simp [hsz]) (by have := left_set hlt h0; omega) ?_) hs
    have e : (fun j => (listed.setIfInBounds i true).getD j true) = fun j => j == i || listed.getD j true := by
      funext j
      by_cases hj : i = j
      · subst hj; simp [show i < listed.size by omega]
      · rw [getD_set_ne true hj]
        have : (j == i) = false := by simp; omega
        simp [this]
    rw [e]
    exact h'
theorem wpIn_region_inv {id : Nat} {a : Act} {w : World} (hm : P.follows .mixedOrders = true) (hback : ∀ (i : Nat) (o : Oper), ops[i]? = some o → ∀ e ∈ o.after, e.on < i)
    (I : (Nat → Bool) → Act → World → Prop) (h0 : ∀ S, (∀ i, i < ops.size → S i = false) → I S a w.drew)
    (step : ∀ (i : Nat) (o : Oper), ops[i]? = some o → ∀ (S : Nat → Bool) a w, I S a w → S i = false → (∀ e ∈ o.after, Region.binds .any e = true → S e.on = true) →
      wpOpIn F n P ops Q i (I fun j => j == i || S j) a w)
    (done : ∀ S a w, I S a w → (∀ i, i < ops.size → S i = true) → Q .normal a w) : (Code.region id ops true).wpIn F n P Q a w := by
  refine wpIn_region_any hm ?_
  refine wpAnyIn_inv hback I step done _ _ _ _ (by simp) ?_ (h0 _ fun i hi => by simp [hi])
  exact Nat.le_trans List.countP_le_length (by simp)
end
theorem back_of {ops : Array Oper} (h : ((List.range ops.size).all fun i => ((ops[i]?).map fun o => o.after.all fun e => decide (e.on < i)).getD true) = true) : ∀ (i : Nat) (o : Oper), ops[i]? = some o → ∀ e ∈ o.after, e.on < i := by
  intro i o ho e he
  have hlt := (Array.getElem?_eq_some_iff.1 ho).1
  have := List.all_eq_true.1 h i (by simpa using hlt)
  rw [ho] at this
  simp only [Option.map_some, Option.getD_some, Array.all_eq_true_iff_forall_mem] at this
  simpa using this e he
def upd (y : Nat → Value) (i : Nat) (v : Value) : Nat → Value := fun j => if j = i then v else y j
theorem upd_same (y : Nat → Value) (i : Nat) (v : Value) : upd y i v i = v := if_pos rfl
theorem upd_other (y : Nat → Value) {i j : Nat} (v : Value) (h : j ≠ i) : upd y i v j = y j := if_neg h
theorem d_other {d : Nat → Bool} {i j : Nat} (h : j ≠ i) : (j == i || d j) = d j := by rw [beq_false_of_ne h]; rfl
section
variable {F : Fence} {n : Nat} {P : Program} {ops : Array Oper} {Q : Exit → Act → World → Prop}
theorem op_wanted {i : Nat} {o : Oper} {K : Act → World → Prop} {a : Act} {w : World} (ho : ops[i]? = some o) (hw : Region.wanted o (yielded ops a.tmps) = true)
    (h : ∀ K' : Act → World → Prop, (∀ a w, K a w → K' a w) → Oper.wpIn F n P o a w K' Q) : wpOpIn F n P ops Q i K a w :=
  wpOpIn_step ho fun K' hK => by rw [if_pos hw]; exact h K' hK
theorem wpIn_val {o : Oper} {a : Act} {w : World} {K : Act → World → Prop} {v : Value} (hab : ∀ f, o.about P w a.eval = some f → F.fn f) (h : (o.semAt F.round a.eval).run P w = .ok (.value v) w) (hK : K (a.put o.dst v) w) : Oper.wpIn F n P o a w K Q :=
  ⟨hab, by rw [h]; exact hK⟩
end
theorem wpIn_det {n : Nat} {o : Oper} {a : Act} {w : World} {K : Act → World → Prop} {Q : Exit → Act → World → Prop} {f : FuncId} {args : Array Value} {v : Value} (h : (o.semAt Fence.wide.round a.eval).run Try.prog w = .ok (.enter f args) w)
    (hd : Calls Try.prog f args w fun e w' => e = .returned v ∧ Below w.heap.size w w')
    (hK : ∀ w', Below w.heap.size w w' → K (a.put o.dst v) w') : Oper.wpIn Fence.wide n Try.prog o a w K Q := by
  refine ⟨fun _ _ => trivial, ?_⟩
  rw [h, Oper.uponIn_enter]
  refine ⟨(fun h => by cases h), ?_⟩
  refine (callsIn_wide.2 hd).mono ?_
  rintro e w' ⟨rfl, hb⟩
  exact hK w' hb
structure QA (W : World) (V : Nat → Value) (A : Nat) (d : Nat → Bool) (y : Nat → Value) (Wx : World) : Prop where
  bu : Below W.heap.size W Wx
  val : ∀ i, i < A → d i = true → y i = V i
theorem QA.start {W : World} {V : Nat → Value} {A : Nat} {d : Nat → Bool} {y : Nat → Value} (hd : ∀ i, i < A → d i = false) : QA W V A d y W.drew :=
  ⟨(Below.refl _ _).drew, fun i hi t => by rw [hd i hi] at t; cases t⟩
theorem QA.walk {W Wx Wn : World} {V : Nat → Value} {A : Nat} {d : Nat → Bool} {y : Nat → Value} (h : QA W V A d y Wx) (hb : Below Wx.heap.size Wx Wn) : QA W V A d y Wn := ⟨h.bu.trans (hb.mono h.bu.size), h.val⟩
theorem QA.pure {W Wx : World} {V : Nat → Value} {A : Nat} {d : Nat → Bool} {y : Nat → Value} (h : QA W V A d y Wx) {i : Nat} (hi : i < A) : QA W V A (fun j => j == i || d j) (upd y i (V i)) Wx :=
  ⟨h.bu, fun j hj t => by
    by_cases e : j = i
    · subst e; exact upd_same _ _ _
    · rw [upd_other _ _ e]; exact h.val j hj (by rwa [d_other e] at t)⟩
end Go.Proofs.Ytgbafpjeapkklaa.Mb
namespace Go.Proofs.Ytgbafpjeapkklaa.Mb
open Go.RowKit
set_option linter.unusedVariables false
set_option linter.unusedSimpArgs false
theorem wpIn_app {F : Fence} {n : Nat} {o : Oper} {a : Act} {W : World} {K : Act → World → Prop} {Q : Exit → Act → World → Prop} (s x : Operand) (t : TypeId) (hop : o.op = Op.call { callee := Callee.builtin Builtin.append, args := #[s, x], argTypes := #[t, t] })
    {u v u' : Value} {W' : World} (hs : a.eval s = u) (hx : a.eval x = v) (hr : (Builtin.append_ #[t, t] o.type #[u, v]).run Try.prog W = .ok u' W') (hK : K (a.put o.dst u') W') : Oper.wpIn F n Try.prog o a W K Q := by
  unfold Oper.wpIn
  refine ⟨?_, ?_⟩
  · simp [Oper.about, hop, resolve, Target.leads, Sem.run_pure]
  · rw [Oper.semAt_plain F _ _ (by rw [hop]; intro c hc'; cases hc')]
    simp [execOp, hop, resolve, invoke, builtin, hs, hx, hr, Result.andThen]
    exact hK
section
variable {F : Fence} {n : Nat} {P : Program} {ops : Array Oper} {Q : Exit → Act → World → Prop}
def Closed (ops : Array Oper) (S : Nat → Bool) : Prop := ∀ (j : Nat) (p : Oper), ops[j]? = some p → S j = true → ∀ e ∈ p.after, Region.binds .any e = true → S e.on = true
theorem wpIn_region_cl {id : Nat} {a : Act} {w : World} (hm : P.follows .mixedOrders = true) (hback : ∀ (i : Nat) (o : Oper), ops[i]? = some o → ∀ e ∈ o.after, e.on < i)
    (I : (Nat → Bool) → Act → World → Prop) (h0 : ∀ S, (∀ i, i < ops.size → S i = false) → I S a w.drew)
    (step : ∀ (i : Nat) (o : Oper), ops[i]? = some o → ∀ (S : Nat → Bool) a w, I S a w → S i = false → (∀ e ∈ o.after, Region.binds .any e = true → S e.on = true) → Closed ops S →
      wpOpIn F n P ops Q i (I fun j => j == i || S j) a w)
    (done : ∀ S a w, I S a w → (∀ i, i < ops.size → S i = true) → Q .normal a w) : (Code.region id ops true).wpIn F n P Q a w := by
  refine wpIn_region_inv hm hback (fun S a w => I S a w ∧ Closed ops S) (fun S hS => ⟨h0 S hS, fun j p hp t => ?_⟩) (fun i o ho S a w hI hS hd => ?_) (fun S a w hI hall => done S a w hI.1 hall)
  · have := (Array.getElem?_eq_some_iff.1 hp).1
    rw [hS j this] at t; cases t
  · have hc : Closed ops (fun j => j == i || S j) := by
      intro j p hp t e he hb
      show (e.on == i || S e.on) = true
      by_cases hji : j = i
      · subst hji
        rw [ho] at hp
        injection hp with hp
        subst hp
        rw [hd e he hb, Bool.or_true]
      · have t' : S j = true := by
          have this : (j == i || S j) = true := t
          rwa [d_other hji] at this
        rw [hI.2 j p hp t' e he hb, Bool.or_true]
    have h := step i o ho S a w hI.1 hS hd hI.2
    refine wpOpIn_step ho fun K hK => ?_
    unfold wpOpIn at h
    rw [ho] at h
    dsimp only at h
    split
    · rename_i hw
      rw [if_pos hw] at h
      exact Oper.wpIn_mono (fun a w k => hK a w ⟨k, hc⟩) h
    · rename_i hw
      rw [if_neg hw] at h
      exact ⟨h.1, hK _ _ ⟨h.2, hc⟩⟩
end
theorem wpIn_new {F : Fence} {n : Nat} {o : Oper} {a : Act} {w w' : World} {K : Act → World → Prop} {Q : Exit → Act → World → Prop} {v : Value} (hab : ∀ f, o.about Try.prog w a.eval = some f → F.fn f) (h : (o.semAt F.round a.eval).run Try.prog w = .ok (.value v) w') (hK : K (a.put o.dst v) w') : Oper.wpIn F n Try.prog o a w K Q :=
  ⟨hab, by rw [h]; exact hK⟩
def Src (W0 : World) (v : Value) (ys : List Value) : Prop := (v = .slice none 0 0 ∧ ys = []) ∨ ∃ a cv, v = .slice (some a) ys.length cv ∧ (∀ j x, ys[j]? = some x → W0.cell? (a.add j) = some x) ∧ ∀ x ∈ ys, x.oneCell' = true
theorem cell_lt {W : World} {a : Addr} {x : Value} (h : W.cell? a = some x) : a.block < W.heap.size := World.block_lt_of_cell? _ _ h
theorem DA.app {W0 : World} {u : Value} {n : Nat} {xs : List Value} {fr : List (Nat × Value)} {W : World} (h : DA W0 u n xs fr W) (ty : TypeId) {v : Value} {ys : List Value} (hs : Src W0 v ys) (hn : n + ys.length ≤ 100000) :
    ∃ u' W', (Builtin.append_ #[30, 30] ty #[u, v]).run Try.prog W = .ok u' W' ∧ DA W0 u' (n + ys.length) (xs ++ ys) fr W' := by
  rcases hs with ⟨rfl, rfl⟩ | ⟨a, cv, rfl, hc, h1⟩
  · exact ⟨u, W, app_nil rk30 W ty h.own, by simpa using h⟩
  · obtain ⟨u', W', hr, ho, hg, hb, _⟩ := app_src rk30 W ty (cv := cv) h.own rfl (fun j x hx => (h.below.cell (p := a.add j) (cell_lt (hc j x hx))).trans (hc j x hx)) h1 hn h.below.size
    exact ⟨u', W', hr, h.grow ho hg hb⟩
theorem DA.one {W0 : World} {u : Value} {n : Nat} {xs : List Value} {fr : List (Nat × Value)} {W : World} (h : DA W0 u n xs fr W) (ty : TypeId) {g : Nat} {c : Value} (hm : (g, c) ∈ fr) (hc : c.oneCell' = true) (hn : n ≤ 10000) :
    ∃ u' W', (Builtin.append_ #[30, 30] ty #[u, .slice (some ⟨g, 0, none⟩) 1 1]).run Try.prog W = .ok u' W' ∧ DA W0 u' (n + 1) (xs ++ [c]) fr W' := by
  obtain ⟨u', W', hr, ho, hg, hb, _⟩ := app_one rk30 W ty h.own (h.fresh _ hm).1 hc hn h.below.size
  exact ⟨u', W', hr, h.grow ho hg hb⟩
structure IS (W0 : World) (V : Nat → Value) (Pu : Nat → Bool) (b a1 a2 f st : Nat) (F : Prop) (A : Addr) (n1 n2 : Nat) (x1 x2 : List Value) (c : Value) (d : Nat → Bool) (y : Nat → Value) (Wx : World) : Prop where
  val : ∀ i, Pu i = true → d i = true → y i = V i
  mem : ∃ Wm u nn xs fr, Wx = (if d st = true then Wm.setCell A (y a2) else Wm) ∧ DA W0 u nn xs fr Wm ∧ (d b = false → u = .slice none 0 0 ∧ nn = 0 ∧ xs = []) ∧ (d b = true → d a1 = false → y b = u ∧ nn = 0 ∧ xs = []) ∧ (d a1 = true → d a2 = false → y a1 = u ∧ nn = n1 ∧ xs = x1) ∧
    (d a2 = true → y a2 = u ∧ nn = n2 ∧ xs = x2) ∧ (F → d f = true → ∃ g, y f = .slice (some ⟨g, 0, none⟩) 1 1 ∧ (g, c) ∈ fr)
section
variable {W0 : World} {V : Nat → Value} {Pu : Nat → Bool} {b a1 a2 f st : Nat} {F : Prop} {A : Addr} {n1 n2 : Nat} {x1 x2 : List Value} {c : Value} {d : Nat → Bool} {y : Nat → Value} {Wx : World}
theorem IS.start (y : Nat → Value) (h : ∀ i, Pu i = true → d i = false) (hb : d b = false) (h1 : d a1 = false) (h2 : d a2 = false) (hf : F → d f = false) (hst : d st = false) : IS W0 V Pu b a1 a2 f st F A n1 n2 x1 x2 c d y W0.drew := by
  have no : ∀ {p : Prop} {i : Nat}, d i = false → d i = true → p := fun h0 h1 => by rw [h0] at h1; cases h1
  exact ⟨fun i hi hd => no (h i hi) hd, W0.drew, .slice none 0 0, 0, [], [], (by rw [if_neg (by simp [hst])]), (DA.start W0).drew, fun _ => ⟨rfl, rfl, rfl⟩, fun hd => no hb hd, fun hd => no h1 hd, fun hd => no h2 hd, fun hF hd => no (hf hF) hd⟩
theorem IS.pure (h : IS W0 V Pu b a1 a2 f st F A n1 n2 x1 x2 c d y Wx) {i : Nat} (hi : Pu i = true) (hb : Pu b = false) (h1 : Pu a1 = false) (h2 : Pu a2 = false) (hf : F → Pu f = false) (hst : Pu st = false) :
    IS W0 V Pu b a1 a2 f st F A n1 n2 x1 x2 c (fun j => j == i || d j) (upd y i (V i)) Wx := by
  have ne : ∀ {j}, Pu j = false → j ≠ i := fun hj e => by rw [e, hi] at hj; cases hj
  obtain ⟨Wm, u, nn, xs, fr, e, hD, q0, q1, q2, q3, q4⟩ := h.mem
  refine ⟨fun j hj hd => ?_, Wm, u, nn, xs, fr, ?_, hD, ?_, ?_, ?_, ?_, ?_⟩
  · by_cases hji : j = i
    · subst hji; exact upd_same _ _ _
    · rw [upd_other _ _ hji]
      rw [d_other hji] at hd
      exact h.val j hj hd
  · rw [d_other (ne hst), upd_other _ _ (ne h2)]; exact e
  · rw [d_other (ne hb)]; exact q0
  · rw [d_other (ne hb), d_other (ne h1), upd_other _ _ (ne hb)]; exact q1
  · rw [d_other (ne h1), d_other (ne h2), upd_other _ _ (ne h1)]; exact q2
  · rw [d_other (ne h2), upd_other _ _ (ne h2)]; exact q3
  · intro hF
    rw [d_other (ne (hf hF)), upd_other _ _ (ne (hf hF))]
    exact q4 hF
theorem IS.live (h : IS W0 V Pu b a1 a2 f st F A n1 n2 x1 x2 c d y Wx) (hst : d st = false) : Below W0.heap.size W0 Wx := by
  obtain ⟨Wm, u, nn, xs, fr, e, hD, _⟩ := h.mem
  rw [if_neg (by simp [hst])] at e
  rw [e]
  exact hD.below
theorem IS.build0 (h : IS W0 V Pu b a1 a2 f st F A n1 n2 x1 x2 c d y Wx) (hb : d b = false) (h1 : d a1 = false) (h2 : d a2 = false) (hst : d st = false) (pb : Pu b = false) (nb2 : a2 ≠ b) (nbf : F → f ≠ b) (nbs : st ≠ b) (hab : a1 = b → n1 = 0 ∧ x1 = []) :
    IS W0 V Pu b a1 a2 f st F A n1 n2 x1 x2 c (fun j => j == b || d j) (upd y b (.slice (some ⟨Wx.heap.size, 0, none⟩) 0 0)) (Wx.alloc (Obj.cells #[] 3)) := by
  obtain ⟨Wm, u, nn, xs, fr, e, hD, q0, q1, q2, q3, q4⟩ := h.mem
  rw [if_neg (by simp [hst])] at e
  subst e
  obtain ⟨rfl, rfl, rfl⟩ := q0 hb
  refine ⟨fun j hj hd => ?_, _, _, _, _, fr, (by rw [d_other nbs, if_neg (by simp [hst])]), hD.row, ?_, ?_, ?_, ?_, ?_⟩
  · have hjb : j ≠ b := fun e => by rw [e, pb] at hj; cases hj
    rw [upd_other _ _ hjb]
    rw [d_other hjb] at hd
    exact h.val j hj hd
  · intro hd; simp at hd
  · intro _ _; exact ⟨upd_same _ _ _, rfl, rfl⟩
  · intro hd _
    by_cases e1 : a1 = b
    · obtain ⟨r1, r2⟩ := hab e1
      rw [e1, r1, r2]
      exact ⟨upd_same _ _ _, rfl, rfl⟩
    · rw [d_other e1, h1] at hd; cases hd
  · rw [d_other nb2, h2]; intro hd; cases hd
  · intro hF
    rw [d_other (nbf hF), upd_other _ _ (nbf hF)]
    exact q4 hF
theorem IS.build1 (h : IS W0 V Pu b a1 a2 f st F A n1 n2 x1 x2 c d y Wx) (hF : F) (hst : d st = false) (pf : Pu f = false) (n0 : b ≠ f) (n1' : a1 ≠ f) (n2' : a2 ≠ f) (ns : st ≠ f) :
    IS W0 V Pu b a1 a2 f st F A n1 n2 x1 x2 c (fun j => j == f || d j) (upd y f (.slice (some ⟨Wx.heap.size, 0, none⟩) 1 1)) (Wx.alloc (Obj.cells #[c] 3)) := by
  obtain ⟨Wm, u, nn, xs, fr, e, hD, q0, q1, q2, q3, q4⟩ := h.mem
  rw [if_neg (by simp [hst])] at e
  subst e
  refine ⟨fun j hj hd => ?_, _, u, nn, xs, _, (by rw [d_other ns, if_neg (by simp [hst])]), hD.cell c, ?_, ?_, ?_, ?_, ?_⟩
  · have hjb : j ≠ f := fun e => by rw [e, pf] at hj; cases hj
    rw [upd_other _ _ hjb]
    rw [d_other hjb] at hd
    exact h.val j hj hd
  · rw [d_other n0]; exact q0
  · rw [d_other n0, d_other n1', upd_other _ _ n0]; exact q1
  · rw [d_other n1', d_other n2', upd_other _ _ n1']; exact q2
  · rw [d_other n2', upd_other _ _ n2']; exact q3
  · intro _ _
    exact ⟨_, upd_same _ _ _, List.mem_cons_self ..⟩
theorem IS.acc2 (h : IS W0 V Pu b a1 a2 f st F A n1 n2 x1 x2 c d y Wx) (h1 : d a1 = true) (h2 : d a2 = false) (hst : d st = false) : ∃ fr, DA W0 (y a1) n1 x1 fr Wx ∧ (F → d f = true → ∃ g, y f = .slice (some ⟨g, 0, none⟩) 1 1 ∧ (g, c) ∈ fr) := by
  obtain ⟨Wm, u, nn, xs, fr, e, hD, q0, q1, q2, q3, q4⟩ := h.mem
  rw [if_neg (by simp [hst])] at e
  obtain ⟨r1, r2, r3⟩ := q2 h1 h2
  rw [e, r1, ← r2, ← r3]
  exact ⟨fr, hD, q4⟩
theorem IS.app1 (h : IS W0 V Pu b a1 a2 f st F A n1 n2 x1 x2 c d y Wx) (hb : d b = true) (h1 : d a1 = false) (h2 : d a2 = false) (hst : d st = false) (p1 : Pu a1 = false) (m0 : b ≠ a1) (m2 : a2 ≠ a1) (mf : F → f ≠ a1) (ms : st ≠ a1)
    (ty : TypeId) {v : Value} (hs : Src W0 v x1) (hn : x1.length = n1) (hle : n1 ≤ 100000) :
    ∃ u' W', (Builtin.append_ #[30, 30] ty #[y b, v]).run Try.prog Wx = .ok u' W' ∧ IS W0 V Pu b a1 a2 f st F A n1 n2 x1 x2 c (fun j => j == a1 || d j) (upd y a1 u') W' := by
  obtain ⟨Wm, u, nn, xs, fr, e, hD, q0, q1, q2, q3, q4⟩ := h.mem
  rw [if_neg (by simp [hst])] at e
  subst e
  obtain ⟨rfl, rfl, rfl⟩ := q1 hb h1
  obtain ⟨u', W', hr, hD'⟩ := hD.app ty hs (by omega)
  rw [Nat.zero_add, List.nil_append, hn] at hD'
  refine ⟨u', W', hr, fun j hj hd => ?_, W', u', n1, x1, fr, (by rw [d_other ms, if_neg (by simp [hst])]), hD', ?_, ?_, ?_, ?_, ?_⟩
  · have hjb : j ≠ a1 := fun e => by rw [e, p1] at hj; cases hj
    rw [upd_other _ _ hjb]
    rw [d_other hjb] at hd
    exact h.val j hj hd
  · rw [d_other m0, hb]; intro hd; cases hd
  · intro _ hd; simp at hd
  · intro _ _; exact ⟨upd_same _ _ _, rfl, rfl⟩
  · rw [d_other m2, h2]; intro hd; cases hd
  · intro hF
    rw [d_other (mf hF), upd_other _ _ (mf hF)]
    exact q4 hF
theorem IS.put2 (h : IS W0 V Pu b a1 a2 f st F A n1 n2 x1 x2 c d y Wx) (h1 : d a1 = true) (hb : d b = true) (hst : d st = false) (p2 : Pu a2 = false) (m0 : b ≠ a2) (m1 : a1 ≠ a2) (mf : F → f ≠ a2) (ms : st ≠ a2) {u' : Value} {W' : World} {fr' : List (Nat × Value)} (hD : DA W0 u' n2 x2 fr' W')
    (hfr : F → d f = true → ∃ g, y f = .slice (some ⟨g, 0, none⟩) 1 1 ∧ (g, c) ∈ fr') : IS W0 V Pu b a1 a2 f st F A n1 n2 x1 x2 c (fun j => j == a2 || d j) (upd y a2 u') W' := by
  refine ⟨fun j hj hd => ?_, W', u', n2, x2, fr', (by rw [d_other ms, if_neg (by simp [hst])]), hD, ?_, ?_, ?_, ?_, ?_⟩
  · have hjb : j ≠ a2 := fun e => by rw [e, p2] at hj; cases hj
    rw [upd_other _ _ hjb]
    rw [d_other hjb] at hd
    exact h.val j hj hd
  · rw [d_other m0, hb]; intro hd; cases hd
  · rw [d_other m1, h1]; intro _ hd; cases hd
  · intro _ hd; simp at hd
  · intro _; exact ⟨upd_same _ _ _, rfl, rfl⟩
  · intro hF
    rw [d_other (mf hF), upd_other _ _ (mf hF)]
    exact hfr hF
theorem IS.store (h : IS W0 V Pu b a1 a2 f st F A n1 n2 x1 x2 c d y Wx) (h2 : d a2 = true) (hst : d st = false) (ps : Pu st = false) (m0 : b ≠ st) (m1 : a1 ≠ st) (m2 : a2 ≠ st) (mf : F → f ≠ st) : IS W0 V Pu b a1 a2 f st F A n1 n2 x1 x2 c (fun j => j == st || d j) y (Wx.setCell A (y a2)) := by
  obtain ⟨Wm, u, nn, xs, fr, e, hD, q0, q1, q2, q3, q4⟩ := h.mem
  rw [if_neg (by simp [hst])] at e
  subst e
  refine ⟨fun j hj hd => ?_, Wx, u, nn, xs, fr, (by simp), hD, ?_, ?_, ?_, ?_, ?_⟩
  · have hjb : j ≠ st := fun e => by rw [e, ps] at hj; cases hj
    rw [d_other hjb] at hd
    exact h.val j hj hd
  · rw [d_other m0]; exact q0
  · rw [d_other m0, d_other m1]; exact q1
  · rw [d_other m1, d_other m2]; exact q2
  · rw [d_other m2]; exact q3
  · intro hF
    rw [d_other (mf hF)]
    exact q4 hF
theorem IS.fin (h : IS W0 V Pu b a1 a2 f st F A n1 n2 x1 x2 c d y Wx) (hst : d st = true) (h2 : d a2 = true) : ∃ Wm fr, Wx = Wm.setCell A (y a2) ∧ DA W0 (y a2) n2 x2 fr Wm := by
  obtain ⟨Wm, u, nn, xs, fr, e, hD, q0, q1, q2, q3, q4⟩ := h.mem
  rw [if_pos hst] at e
  obtain ⟨r1, r2, r3⟩ := q3 h2
  refine ⟨Wm, fr, e, ?_⟩
  rw [r1, ← r2, ← r3]
  exact hD
end
theorem Closed.no {ops : Array Oper} {S : Nat → Bool} (h : Closed ops S) {i j : Nat} {p : Oper} (hp : ops[j]? = some p) (hi : S i = false) (hw : (p.after.any fun e => Region.binds .any e && e.on == i) = true) : S j = false := by
  cases hj : S j with
  | false => rfl
  | true =>
    obtain ⟨e, he, hb⟩ := Array.any_eq_true'.1 hw
    simp only [Bool.and_eq_true, beq_iff_eq] at hb
    have := h j p hp hj e he hb.1
    rw [hb.2, hi] at this
    cases this
end Go.Proofs.Ytgbafpjeapkklaa.Mb
