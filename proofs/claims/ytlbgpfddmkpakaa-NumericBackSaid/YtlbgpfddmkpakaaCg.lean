/- Numeric: the reference's rows of numbers. -/
import Derived.Test.YtlbgpfddmkpakaaCf
namespace Go.Proofs.Ytlbgpfddmkpakaa.Nu.R
open Go.RowKit
set_option linter.unusedVariables false
set_option linter.unusedSimpArgs false

theorem info57 : (Try.prog.info? 57).map (fun i => (i.zero, i.size, i.bytes)) = some (some (.agg #[.int .u32 0, .int .u32 0]), 2, 8) := by kernel_rfl
theorem und43 : Try.prog.underlying 43 = some (.slice 57) := by kernel_rfl
theorem own_one {w : World} (base : Nat) (a b : Value) (hb : base ≤ w.heap.size) : (w.alloc (.cells #[a, b] 57)).ownsRow base 57 2 (.slice (some ⟨w.heap.size, 0, none⟩) 1 1) 1 [a, b] :=
  ⟨rfl, .inr ⟨w.heap.size, 1, #[a, b], rfl, hb, World.alloc_heap_new w _, by omega, by decide, rfl, rfl⟩⟩
/-- What a row's block grows past leaves a block of two cells that is not the row's. -/
theorem b2_grown {W w1 : World} {X g : Nat} {v0 v1 : Value} {tmp : Obj} (h : B2 W X 57 v0 v1) (hgr : (W.alloc tmp).grownBy w1 (some g)) (hne : X ≠ g) : B2 w1 X 57 v0 v1 :=
  (hgr.block X (by have := blk_lt h; simp; omega) (by simpa using hne)).trans ((Below.heap_alloc W tmp X (blk_lt h)).trans h)
theorem row_ne {W : World} {B X g k cap : Nat} {v0 v1 : Value} {xs : List Value} (h : B2 W X 57 v0 v1) (ho : W.ownsRow B 57 2 (.slice (some ⟨g, 0, none⟩) k cap) k xs) (hk : 2 ≤ k) : X ≠ g := by
  rintro rfl
  rcases ho.2 with ⟨e, _⟩ | ⟨g', cap', cur, e, _, hb, hc, _, hs, _⟩
  · cases e
  · injection e with e1 _ _
    injection e1 with e1
    injection e1 with e1
    subst e1
    have := (show W.heap[X]? = _ from h).symm.trans hb
    injection this with this
    injection this with this
    rw [← this] at hs
    simp at hs
    omega

theorem own_step {w w' : World} {base : Nat} {e : TypeId} {size : Nat} {v : Value} {n : Nat} {xs : List Value} (h : w.ownsRow base e size v n xs) (hb : Below w.heap.size w w') : w'.ownsRow base e size v n xs := by
  refine ⟨h.1, ?_⟩
  rcases h.2 with h0 | ⟨g, cap, cur, h1, h2, h3, h4⟩
  · exact .inl h0
  · exact .inr ⟨g, cap, cur, h1, h2, (hb.block g (blk_lt h3)).trans h3, h4⟩
/-- A row, the turn's block. -/
def TS (w : World) (X : Nat) (q : Nat × Nat) (g k cap : Nat) (L : List (Nat × Nat)) (W : World) : Prop :=
  W.ownsRow w.heap.size 57 2 (.slice (some ⟨g, 0, none⟩) k cap) k (cellsN L) ∧ B2 W X 57 (.int .u32 q.1) (.int .u32 q.2) ∧ Below w.heap.size w W
theorem TS.step {w : World} {X : Nat} {q : Nat × Nat} {g k cap : Nat} {L : List (Nat × Nat)} {W W' : World} (h : TS w X q g k cap L W) (hb : Below W.heap.size W W') : TS w X q g k cap L W' :=
  ⟨own_step h.1 hb, h.2.1.step hb, h.2.2.trans (hb.mono h.2.2.size)⟩
theorem TS.drew {w : World} {X : Nat} {q : Nat × Nat} {g k cap : Nat} {L : List (Nat × Nat)} {W : World} (h : TS w X q g k cap L W) : TS w X q g k cap L W.drew := h.step (one_drew (.inr rfl))
theorem TS.alloc {w : World} {X : Nat} {q : Nat × Nat} {g k cap : Nat} {L : List (Nat × Nat)} {W : World} (h : TS w X q g k cap L W) (o : Obj) : TS w X q g k cap L (W.alloc o) := h.step ((Below.refl _ W).alloc (Nat.le_refl _) o)
theorem TS.facts {w : World} {X : Nat} {q : Nat × Nat} {g k cap : Nat} {L : List (Nat × Nat)} {W : World} (h : TS w X q g k cap L W) {j : Nat} {P : Nat × Nat} (hP : L[j]? = some P) :
    W.cell? ⟨X, 0, none⟩ = some (.int .u32 q.1) ∧ W.cell? ⟨X, 1, none⟩ = some (.int .u32 q.2) ∧ W.cell? ⟨g, j * 2, none⟩ = some (.int .u32 P.1) ∧ W.cell? ⟨g, j * 2 + 1, none⟩ = some (.int .u32 P.2) := by
  obtain ⟨q0, q1⟩ := cellsN_get _ j _ hP
  have p0 := (h.1.cells rfl _ _ q0)
  have p1 := (h.1.cells rfl _ _ q1)
  rw [Addr.add_lit] at p0 p1
  simp only [Nat.zero_add] at p0 p1
  exact ⟨h.2.1.cells.1, h.2.1.cells.2, p0, p1⟩
/-- What a round leaves behind. -/
theorem step_rel {w wr W8 : World} {n k g cap g8 cap8 : Nat} (X : Nat) (q : Nat × Nat) {p : Nat × Nat} {tmp : Obj} (hx : B2 wr X 57 (.int .u32 q.1) (.int .u32 q.2)) (hb : Below w.heap.size w wr) (hne : X ≠ g) (hk : 1 ≤ k) (hlt : k < n) (hL : p = tw q k)
    (ho : wr.ownsRow w.heap.size 57 2 (.slice (some ⟨g, 0, none⟩) k cap) k (cellsN (upto (tw q) k))) (ho8 : W8.ownsRow w.heap.size 57 2 (.slice (some ⟨g8, 0, none⟩) (k + 1) cap8) (k + 1) (cellsN (upto (tw q) k) ++ [.int .u32 p.1, .int .u32 p.2])) (hg : (wr.alloc tmp).grownBy W8 (some g)) :
    ∃ k' g' cap' : Nat, 1 ≤ k' ∧ k' ≤ n ∧ Value.int .i64 ((k : Int) + 1) = .int .i64 k' ∧ Value.slice (some ⟨g8, 0, none⟩) (k + 1) cap8 = .slice (some ⟨g', 0, none⟩) k' cap' ∧ X ≠ g' ∧ W8.ownsRow w.heap.size 57 2 (.slice (some ⟨g', 0, none⟩) k' cap') k' (cellsN (upto (tw q) k')) ∧ B2 W8 X 57 (.int .u32 q.1) (.int .u32 q.2) ∧ Below w.heap.size w W8 := by
  have hx8 : B2 W8 X 57 (.int .u32 q.1) (.int .u32 q.2) := b2_grown hx hg hne
  refine ⟨k + 1, g8, cap8, by omega, by omega, rfl, rfl, row_ne hx8 ho8 (by omega), by rw [upto_succ, ← hL, cellsN_app]; exact ho8, hx8, (hb.alloc hb.size tmp).grown hg (by have := hb.size; simp; omega) fun j e => ?_⟩
  injection e with e
  subst e
  rcases ho.2 with ⟨e, _⟩ | ⟨g', _, _, e, h, _⟩
  · cases e
  · injection e with e _ _
    injection e with e
    injection e with e
    subst e
    exact h
theorem mulc_at (a b c d : Nat) (w : World) : Calls Try.prog 48 #[.agg #[.int .u32 a, .int .u32 b], .agg #[.int .u32 c, .int .u32 d]] w fun e w' => ∃ pa pb : Nat, e = .returned (.agg #[.int .u32 pa, .int .u32 pb]) ∧ (pa, pb) = mulc (a, b) (c, d) ∧ Below w.heap.size w w' := by
  have h := rmul_at a b c d w
  have e : mulc (a, b) (c, d) = (cb (mulRe a b c d), cb (mulIm a b c d)) := by simp only [mulc]
  rw [e]
  generalize cb (mulRe a b c d) = pa at *
  generalize cb (mulIm a b c d) = pb at *
  refine h.mono ?_
  rintro e w' ⟨rfl, hb⟩
  exact ⟨pa, pb, rfl, rfl, hb⟩
set_option maxRecDepth 100000 in
set_option maxHeartbeats 1000000 in
theorem step_app {P : Program} {ops : Array Oper} {o : Oper} {a : Act} {w : World} {K : Act → World → Prop} {Q : Exit → Act → World → Prop} {E : Prop}
    (hg : o.guard = none) (d x : Operand) (t : TypeId) (hop : o.op = Op.call { callee := Callee.builtin Builtin.append, args := #[d, x], argTypes := #[t, t] })
    (v u : Value) (hd : a.eval d = v) (hx : a.eval x = u) {v' : Value} {w' : World} (hr : (Builtin.append_ #[t, t] o.type #[v, u]).run P w = .ok v' w') (hK : K (a.put o.dst v') w') :
    if Region.wanted o (yielded ops a.tmps) = true then Oper.wp P o a w K Q else E := by
  have hw : Region.wanted o (yielded ops a.tmps) = true := by simp [Region.wanted, hg]
  rw [if_pos hw]
  unfold Oper.wp
  simp [execOp, hop, resolve, invoke, builtin, hd, hx, hr, Result.andThen]
  exact hK
set_option maxRecDepth 100000 in
theorem app2 {W : World} {B g k cap : Nat} {xs news : List Value} (ty : TypeId) (ho : W.ownsRow B 57 2 (.slice (some ⟨g, 0, none⟩) k cap) k xs) (ad : Addr) (hl : news.length = 1 * 2)
    (hn : ∀ j u, news[j]? = some u → W.cell? (ad.add j) = some u) (h1 : ∀ u ∈ news, u.oneCell' = true) (hk : k ≤ 64) (hB : B ≤ W.heap.size) :
    ∃ v' W', (Builtin.append_ #[43, 43] ty #[.slice (some ⟨g, 0, none⟩) k cap, .slice (some ad) 1 1]).run Try.prog W = .ok v' W' ∧ W'.ownsRow B 57 2 v' (k + 1) (xs ++ news) ∧ W.grownBy W' (some g) ∧
      (∀ j u, xs[j]? = some u → W'.cell? ⟨g, j, none⟩ = some u) := by
  obtain ⟨i0, hi, hz0, hz1, hz2⟩ := info_parts info57
  have hc : ∀ j u, xs[j]? = some u → W.cell? ((⟨g, 0, none⟩ : Addr).add j) = some u := ho.cells (g := g) rfl
  by_cases hr : k + 1 ≤ cap
  · obtain ⟨W', h2, h3, h4⟩ := run_append_own_spare (P := Try.prog) W B 43 ty 57 i0 2 und43 hi hz1 g k cap xs ho ad 1 1 news hl hn h1 hr
    refine ⟨_, W', h2, h3, h4, fun j u hj => ?_⟩
    have h5 := h3.cells (g := g) rfl j u (by rw [List.getElem?_append_left (List.getElem?_eq_some_iff.1 hj).1]; exact hj)
    rw [Addr.add_lit, Nat.zero_add] at h5
    exact h5
  · obtain ⟨v', W', h2, h3, h4, _⟩ := run_append_own (P := Try.prog) W B 43 ty 57 i0 (.agg #[.int .u32 0, .int .u32 0]) 2 8 und43 hi hz0 hz1 hz2 rfl (by decide) _ k xs ho ad 1 1 news hl hn h1 (by unfold maxLen; omega) (by omega) hB
    have h5 := run_append_grow (P := Try.prog) W 43 ty 57 i0 (.agg #[.int .u32 0, .int .u32 0]) und43 hi hz0 ⟨g, 0, none⟩ k cap xs (by rw [hz1]; exact ho.1) hc ad 1 1 news (by rw [hz1]; exact hl) hn (by omega) (by omega) (growslice_fits (by omega) (by rw [hz2]; omega))
    refine ⟨v', W', h2, h3, h4, fun j u hj => ?_⟩
    have h6 := h5.symm.trans h2
    injection h6 with _ h6
    have h7 := hc j u hj
    rw [Addr.add_lit, Nat.zero_add] at h7
    rw [← h6]
    exact ((one_drew (w := W) (.inr rfl)).alloc (by simp) _).cell (p := ⟨g, j, none⟩) (cell_lt h7) |>.trans h7
set_option maxRecDepth 100000 in
set_option maxHeartbeats 1000000 in
theorem step_TS {ops : Array Oper} {o : Oper} {a : Act} {W : World} {K : Act → World → Prop} {Q : Exit → Act → World → Prop} {E : Prop}
    {w : World} {X : Nat} {q : Nat × Nat} {g k cap pa pb : Nat} (h : TS w X q g k cap (upto (tw q) k) W) (hg : o.guard = none) (s x : Operand) (hop : o.op = Op.call { callee := Callee.builtin Builtin.append, args := #[s, x], argTypes := #[43, 43] })
    (hs : a.eval s = .slice (some ⟨g, 0, none⟩) k cap) (hx : a.eval x = .slice (some ⟨W.heap.size, 0, none⟩) 1 1) (hk : k ≤ 64) (hne : X ≠ g) (h1 : 1 ≤ k) (hp : (pa, pb) = tw q k)
    (hK : ∀ g' c' w', TS w X q g' (k + 1) c' (upto (tw q) (k + 1)) w' → X ≠ g' → (∀ j u, (cellsN (upto (tw q) k))[j]? = some u → w'.cell? ⟨g, j, none⟩ = some u) → K (a.put o.dst (.slice (some ⟨g', 0, none⟩) (k + 1) c')) w') :
    if Region.wanted o (yielded ops a.tmps) = true then Oper.wp Try.prog o a (W.alloc (.cells #[.int .u32 pa, .int .u32 pb] 57)) K Q else E := by
  have hA := h.alloc (.cells #[.int .u32 (pa : Nat), .int .u32 (pb : Nat)] 57)
  have m2 : ∀ u ∈ [Value.int .u32 (pa : Nat), Value.int .u32 (pb : Nat)], u.oneCell' = true := by simp [Value.oneCell']
  obtain ⟨u', W', hr, ho, hgr, hcs⟩ := app2 o.type hA.1 ⟨W.heap.size, 0, none⟩ (news := [.int .u32 pa, .int .u32 pb]) rfl (two_new _ _ _ _) m2 hk hA.2.2.size
  obtain ⟨g8, cap8, rfl⟩ := ownsRow_succ ho
  obtain ⟨k', g', cap', e1, e2, e3, e4, e5, e6, e7, e8⟩ := step_rel (n := k + 1) X q h.2.1 h.2.2 hne h1 (by omega) hp h.1 ho hgr
  have ek : k' = k + 1 := by injection e3 with _ e3; omega
  subst ek
  injection e4 with e4 _ ec
  injection e4 with e4
  injection e4 with e4
  subst e4
  subst ec
  exact step_app hg s x 43 hop _ _ hs hx hr (hK g8 cap8 W' ⟨e6, e7, e8⟩ e5 hcs)
end Go.Proofs.Ytlbgpfddmkpakaa.Nu.R
