/- Mailbox: whole rows appended; Clone of a row. -/
import Derived.Test.YtgbafpjeapkklaaNe
namespace Go.Proofs.Ytgbafpjeapkklaa.Mb
open Go.RowKit
set_option linter.unusedVariables false
set_option linter.unusedSimpArgs false

set_option maxRecDepth 100000 in
/-- An append of a row to a row of one's own, and where the row lies then. -/
theorem run_append_many (W : World) (ty : TypeId) {B B' : Nat} {u v : Value} {n m : Nat} {xs ys : List Int} (h : W.ownsRow B 3 1 u n (ints xs)) (hv : W.ownsRow B' 3 1 v m (ints ys)) (hn : n + m ≤ 100000) (hB : B ≤ W.heap.size) :
    ∃ u' W', (Builtin.append_ #[30, 30] ty #[u, v]).run Try.prog W = .ok u' W' ∧ W'.ownsRow B 3 1 u' (n + m) (ints (xs ++ ys)) ∧ W.grownBy W' u.ownBlock ∧ (u'.ownBlock = u.ownBlock ∨ u'.ownBlock = some W.heap.size) ∧ ∃ p k, u' = .slice p (n + m) k := by
  obtain ⟨i0, hi, hz0, hz1, hz2⟩ := info_parts info3
  rcases hv.2 with ⟨rfl, h0⟩ | ⟨g, cv, cur, rfl, _, hg, hcv, hmv, hsv, htv⟩
  · subst h0
    have hy : ys = [] := by have := hv.1; simpa [ints] using this
    subst hy
    have hsl := own1_slice h
    refine ⟨u, W, ?_, by simpa using h, ⟨rfl, rfl, rfl, Nat.le_refl _, fun _ _ _ => rfl⟩, .inl rfl, by simpa using hsl⟩
    obtain ⟨p, k, rfl⟩ := hsl
    have hnk : n ≤ k := by
      rcases h.2 with ⟨e, rfl⟩ | ⟨g', cap, cur, e, _, _, hc, _⟩
      · exact Nat.zero_le _
      · injection e with _ _ e3; omega
    cases p with
    | none =>
      rcases h.2 with ⟨e, rfl⟩ | ⟨g', cap, cur, e, _⟩
      · injection e with _ _ e3
        subst e3
        simp [Builtin.append_, run_underlying Try.underlying30, sizeOf, typeInfo, hi, Builtin.lenOf, Builtin.firstCells, loadCells, loadCellsFrom, storeCells]
      · cases e
    | some a =>
      simp [Builtin.append_, run_underlying Try.underlying30, sizeOf, typeInfo, hi, Builtin.lenOf, Builtin.firstCells, loadCells, loadCellsFrom, storeCells, hnk]
  · have hsrc : ∀ j x, (ints ys)[j]? = some x → W.cell? ((⟨g, 0, none⟩ : Addr).add j) = some x := hv.cells (g := g) rfl
    have hl : (ints ys).length = m * 1 := hv.1
    obtain ⟨u', W', hr, ho, hgr, hnil⟩ := run_append_own (P := Try.prog) W B 30 ty 3 i0 (.int .i64 0) 1 8 Try.underlying30 hi hz0 hz1 hz2 rfl (by decide) u n (ints xs) h ⟨g, 0, none⟩ m cv (ints ys) hl hsrc (ints_one ys) (by unfold maxLen; omega) (by omega) hB
    have hsl := own1_slice ho
    have hio : ints (xs ++ ys) = ints xs ++ ints ys := by simp [ints]
    refine ⟨u', W', hr, by rw [hio]; exact ho, hgr, ?_, hsl⟩
    rcases h.2 with ⟨rfl, h0⟩ | ⟨g', cap, cur', rfl, hb, hgg, hnc, hm, hs, ht⟩
    · by_cases hm0 : m = 0
      · left
        have := hnil.2 ⟨rfl, hm0⟩
        rw [this]
      · right
        have hr2 := run_append_nil (P := Try.prog) W 30 ty 3 i0 (.int .i64 0) Try.underlying30 hi hz0 ⟨g, 0, none⟩ m cv (ints ys) (by rw [hz1]; exact hl) hsrc (by omega) (by omega) (by rw [hz2]; omega)
        have e := (hr.symm.trans hr2); injection e with e _
        rw [e]; rfl
    · by_cases hroom : n + m ≤ cap
      · left
        have hr2 := run_append_room (P := Try.prog) W 30 ty 3 i0 Try.underlying30 hi g' n cap cur' hgg ⟨g, 0, none⟩ m cv (ints ys) (by rw [hz1]; exact hl) hsrc (ints_one ys) hroom (by rw [hz1, hl, hs]; omega)
        have e := (hr.symm.trans hr2); injection e with e _
        rw [e]; rfl
      · right
        have hx := h.cells (g := g') rfl
        have hr2 := run_append_grow (P := Try.prog) W 30 ty 3 i0 (.int .i64 0) Try.underlying30 hi hz0 ⟨g', 0, none⟩ n cap (ints xs) (by rw [hz1]; exact h.1) hx ⟨g, 0, none⟩ m cv (ints ys) (by rw [hz1]; exact hl) hsrc (by omega) (by omega) (growslice_fits (by omega) (by rw [hz2]; omega))
        have e := (hr.symm.trans hr2); injection e with e _
        rw [e]; rfl

set_option maxRecDepth 100000 in
set_option maxHeartbeats 1000000 in
/-- slices.Clone of a row of numbers. -/
theorem clone23 {w : World} {v : Value} {n B : Nat} {xs : List Int} (h : w.ownsRow B 3 1 v n (ints xs)) (hn : n ≤ 2000) :
    Calls Try.prog 23 #[v] w fun e w' => ∃ v', e = .returned v' ∧ w'.ownsRow w.heap.size 3 1 v' n (ints xs) ∧ Below w.heap.size w w' := by
  have HH := Lib.hid h
  have HNN := Lib.hid hn
  rcases h.2 with ⟨rfl, h0⟩ | ⟨g, cap, cur, rfl, _, hg, _⟩
  · have hy : xs = [] := by have := h.1; rw [h0] at this; simpa [ints] using this
    subst hy
    subst h0
    have heq := Lib.run_eql_slice_nil (P := Try.prog) w 30 3 none 0 0 0 0 Try.underlying30
    clear h hn
    go_enter Try.func23, Try.ntmps23
    go_wp2_with fail
    go_ret
    exact ⟨_, rfl, World.ownsRow_nil _ _ _ _, Below.refl _ _⟩
  · have heq := Lib.run_eql_slice_nil (P := Try.prog) w 30 3 (some ⟨g, 0, none⟩) n cap 0 0 Try.underlying30
    have ha : Below w.heap.size w (w.alloc (Obj.cells #[] 3)) := (Below.refl w.heap.size w).alloc (Nat.le_refl _) (Obj.cells #[] 3)
    have hon : (w.alloc (Obj.cells #[] 3)).ownsRow w.heap.size 3 1 (.slice (some ⟨w.heap.size, 0, none⟩) 0 0) 0 (ints []) := World.ownsRow_made w #[] 0 (Nat.le_refl _) (by decide) rfl
    obtain ⟨u', W', hr, ho, hgr, hb, p, k, hsl⟩ := run_append_many (w.alloc (Obj.cells #[] 3)) 30 hon (own1_below h ha) (by omega) ha.size
    have HR := Lib.hid hr
    have HO : Hid (W'.ownsRow w.heap.size 3 1 u' n (ints xs)) := by have h2 := ho; rw [Nat.zero_add, List.nil_append] at h2; exact h2
    have HBL : Hid (Below w.heap.size w W') := ha.grown hgr ha.size (fun k hk => by simp [Value.ownBlock] at hk; omega)
    clear hr ho hgr hb hsl h hn hon ha hg
    go_enter Try.func23, Try.ntmps23
    go_wp2_with (at_builtin; refine Lib.wpList_append_run _ rfl _ _ _ _ rfl _ _ rfl rfl _ _ HR.out ?_)
    go_ret
    exact ⟨_, rfl, HO.out, HBL.out⟩
end Go.Proofs.Ytgbafpjeapkklaa.Mb
