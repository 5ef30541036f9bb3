/- Numeric: cells of rows; slices.Collect over every's func. -/
import Derived.Test.YtlbgpfddmkpakaaBa
namespace Go.Proofs.Ytlbgpfddmkpakaa.Nu
open Go.RowKit Go.Shelf
set_option linter.unusedVariables false
set_option linter.unusedSimpArgs false
attribute [local go_sem] Oper.semAt_some

theorem info26 : (Try.prog.info? 26).map (fun i => (i.zero, i.size, i.bytes)) = some (some (.agg #[.int .u32 0, .int .u32 0]), 2, 8) := by kernel_rfl
theorem u39 : Try.prog.underlying 39 = some (.slice 26) := by kernel_rfl
/-- The cells of numbers. -/
def cellsN (l : List (Nat × Nat)) : List Value := l.flatMap fun x => [.int .u32 x.1, .int .u32 x.2]
theorem cellsN_cons (x : Nat × Nat) (l : List (Nat × Nat)) : cellsN (x :: l) = [.int .u32 x.1, .int .u32 x.2] ++ cellsN l := rfl
theorem cellsN_app (l m : List (Nat × Nat)) : cellsN (l ++ m) = cellsN l ++ cellsN m := by simp [cellsN]
theorem cellsN_one (x : Nat × Nat) : cellsN [x] = [.int .u32 x.1, .int .u32 x.2] := rfl
theorem cellsN_len (l : List (Nat × Nat)) : (cellsN l).length = l.length * 2 := by
  induction l with
  | nil => rfl
  | cons x l ih => rw [cellsN_cons, List.length_append, ih]; simp; omega
theorem cellsN_get (l : List (Nat × Nat)) : ∀ (k : Nat) (x : Nat × Nat), l[k]? = some x → (cellsN l)[k * 2]? = some (.int .u32 x.1) ∧ (cellsN l)[k * 2 + 1]? = some (.int .u32 x.2) := by
  induction l with
  | nil => intro k x h; simp at h
  | cons y l ih =>
    intro k x h
    cases k with
    | zero => simp at h; subst h; rw [cellsN_cons]; simp
    | succ k =>
      obtain ⟨a, b⟩ := ih k x (by simpa using h)
      rw [cellsN_cons, show (k + 1) * 2 = k * 2 + 2 by omega]
      refine ⟨?_, ?_⟩
      · rw [List.getElem?_append_right (by simp)]; simpa using a
      · rw [List.getElem?_append_right (by simp)]; simpa using b
theorem own_row {w : World} {base : Nat} {e : TypeId} {v : Value} {n : Nat} {l : List (Nat × Nat)} (hn : n = l.length) (h : w.ownsRow base e 2 v n (cellsN l)) : Row w v l := by
  subst hn
  have hc := fun g hg => h.cells (g := g) hg
  rcases h.2 with ⟨rfl, h0⟩ | ⟨g, cap, cur, rfl, _, hg, hcap, _⟩
  · exact ⟨none, 0, by rw [h0], by rw [h0]; exact Nat.le_refl _, .inl (List.eq_nil_of_length_eq_zero h0)⟩
  · refine ⟨some ⟨g, 0, none⟩, cap, rfl, hcap, .inr ⟨g, 0, rfl, blk_lt hg, fun k x hx => ?_⟩⟩
    obtain ⟨a, b⟩ := cellsN_get l k x hx
    have h1 := hc g rfl _ _ a
    have h2 := hc g rfl _ _ b
    rw [Addr.add_lit] at h1 h2
    exact ⟨h1, h2⟩

/-- **every's func goes over every second element.** -/
theorem every_stops (F : Fence) (n : Nat) (h67 : F.fn 67) (hro : F.round = none) (hn : 1 ≤ n) (Bf Bs n₀ a : Nat) (g off cap : Nat) (l : List (Nat × Nat)) (hlen : l.length ≤ 100000) (ha : a ≤ 1) (hg : g < n₀) (hBs : Bs < n₀) (w : World) (hn₀ : n₀ ≤ w.heap.size) (hBf : Bf < w.heap.size)
    (hf : w.cell? ⟨Bf, 0, none⟩ = some (.int .i64 a)) (hs : w.cell? ⟨Bs, 0, none⟩ = some (.slice (some ⟨g, off, none⟩) l.length cap))
    (hc : ∀ (k : Nat) (x : Nat × Nat), l[k]? = some x → w.cell? ⟨g, off + k * 2, none⟩ = some (.int .u32 x.1) ∧ w.cell? ⟨g, off + k * 2 + 1, none⟩ = some (.int .u32 x.2)) :
    SeqStopsK F n Try.prog 67 #[.pointer (some ⟨Bf, 0, none⟩), .pointer (some ⟨Bs, 0, none⟩)] (fun x : Nat × Nat => #[num x]) (Below n₀) (fun ys => ys = halfOf l a) (fun pre => ∃ k, pre = upto (second l a) k) ((l.length + 1 - a) / 2) w := fun yl J Jx W hW _ _ hY h0 =>
  every1_in F n h67 hro hn yl Bf Bs n₀ a g off cap l hlen ha hg hBs J Jx hY W ((hW.cell (p := ⟨Bf, 0, none⟩) hBf).trans hf) ((hW.cell (p := ⟨Bs, 0, none⟩) (Nat.lt_of_lt_of_le hBs hn₀)).trans hs)
    (fun k x hx => ⟨(hW.cell (p := ⟨g, off + k * 2, none⟩) (Nat.lt_of_lt_of_le hg hn₀)).trans (hc k x hx).1, (hW.cell (p := ⟨g, off + k * 2 + 1, none⟩) (Nat.lt_of_lt_of_le hg hn₀)).trans (hc k x hx).2⟩) h0

theorem b2_own {β : Type} (B : Nat) (t : TypeId) (v0 v1 : Value) : Own (fun (_ : β) W => B2 W B t v0 v1) := fun s X Y row hs hg hrow =>
  (hg.block B (blk_lt hs) (fun e' => by obtain ⟨o, ho, hc⟩ := hrow B e'.symm; rw [show X.heap[B]? = _ from hs] at ho; cases ho; cases hc)).trans hs
theorem two_new (w : World) (x y : Value) (t : TypeId) : ∀ j u, [x, y][j]? = some u → (w.alloc (.cells #[x, y] t)).cell? ((⟨w.heap.size, 0, none⟩ : Addr).add j) = some u := by
  intro j u h
  rw [Addr.add_lit]
  match j with
  | 0 => simp at h; subst h; exact (B2.made w _ _ t).cells.1
  | 1 => simp at h; subst h; exact (B2.made w _ _ t).cells.2
  | j + 2 => simp at h

set_option maxRecDepth 100000 in
set_option maxHeartbeats 4000000 in
theorem append_in (F : Fence) (n : Nat) (h66 : F.fn 66) (h67 : F.fn 67) (hro : F.round = none) (hn : 6 ≤ n) (Bf Bs a : Nat) (g off cap : Nat) (l : List (Nat × Nat)) (hlen : l.length ≤ 1000) (ha : a ≤ 1) (w : World) (hg : g < w.heap.size) (hBs : Bs < w.heap.size) (hBf : Bf < w.heap.size)
    (hf : w.cell? ⟨Bf, 0, none⟩ = some (.int .i64 a)) (hs : w.cell? ⟨Bs, 0, none⟩ = some (.slice (some ⟨g, off, none⟩) l.length cap))
    (hc : ∀ (k : Nat) (x : Nat × Nat), l[k]? = some x → w.cell? ⟨g, off + k * 2, none⟩ = some (.int .u32 x.1) ∧ w.cell? ⟨g, off + k * 2 + 1, none⟩ = some (.int .u32 x.2)) :
    CallsIn F n Try.prog 66 #[.slice none 0 0, .func (.func 67) #[] #[.pointer (some ⟨Bf, 0, none⟩), .pointer (some ⟨Bs, 0, none⟩)]] w fun e W' => ∃ v, e = .returned v ∧ W'.ownsRow w.heap.size 26 2 v (halfOf l a).length (cellsN (halfOf l a)) ∧ Below w.heap.size w W' := by
  have h1 : 1 ≤ n := by omega
  obtain ⟨i0, hi, hz0, hz1, hz2⟩ := info_parts info26
  have HC := Lib.hid hc
  clear hc
  refine callsIn_of_wp_marks Try.func66 rfl h66 ?_ hro
  simp only [Try.ntmps66, List.size_toArray, List.length_cons, List.length_nil, Nat.reduceAdd, Nat.reduceSub, Array.replicate_succ, Array.replicate_zero, List.push_toArray, List.append_toArray, List.nil_append, List.cons_append]
  gi_wp2
  have bO := Boxed.new w 39 (.slice none 0 0)
  have hB0 : Below w.heap.size w (w.alloc (.cells #[.slice none 0 0] 39)) := (Below.refl _ w).alloc (Nat.le_refl _) _
  have hsz : (w.alloc (.cells #[.slice none 0 0] 39)).heap.size = w.heap.size + 1 := by simp
  obtain ⟨W0, hW0⟩ : ∃ W0, w.alloc (.cells #[.slice none 0 0] 39) = W0 := ⟨_, rfl⟩
  rw [hW0] at bO hB0 hsz ⊢
  clear hW0
  refine wpIn_rangeFunc_ownH hro h1 (gf := 67) (lb := #[.pointer (some ⟨Bf, 0, none⟩), .pointer (some ⟨Bs, 0, none⟩)]) rfl h67 (enters_of Try.func67 (by kernel_rfl) rfl)
    (every_stops F (n - 1) h67 hro (by omega) Bf Bs w.heap.size a g off cap l (by omega) ha hg hBs W0 (by omega) (by omega) ((hB0.cell (p := ⟨Bf, 0, none⟩) hBf).trans hf) ((hB0.cell (p := ⟨Bs, 0, none⟩) hBs).trans hs)
      (fun k x hx => ⟨(hB0.cell (p := ⟨g, off + k * 2, none⟩) hg).trans (HC.out k x hx).1, (hB0.cell (p := ⟨g, off + k * 2 + 1, none⟩) hg).trans (HC.out k x hx).2⟩)) belowK_t (belowK_b (by omega)) (Below.refl _ _) (fun _ => rfl)
    (fun pre W => (∃ v, Boxed W w.heap.size 39 v ∧ W.ownsRow w.heap.size 26 2 v pre.length (cellsN pre) ∧ True) ∧ Below w.heap.size w W)
    (fun _ _ _ => False)
    (OwnFrom.and (Own.from (holdsRow_own w.heap.size w.heap.size 39 26 2 (fun pre => pre.length) (fun pre => cellsN pre) (fun pre v => True)) _) (ownFrom_below (Nat.le_refl _) (by omega)))
    (fun _ _ _ _ _ hs _ _ => hs)
    ⟨⟨_, bO, World.ownsRow_nil _ _ _ _, trivial⟩, hB0⟩
    (fun x a' W => ∃ Bx, w.heap.size < Bx ∧ B2 W Bx 26 (.int .u32 x.1) (.int .u32 x.2) ∧ a' = { tmps := #[.slice none 0 0, .func (.func 67) #[] #[.pointer (some ⟨Bf, 0, none⟩), .pointer (some ⟨Bs, 0, none⟩)], .pointer (some ⟨w.heap.size, 0, none⟩), undef, .slice none 0 0, .pointer (some ⟨Bx, 0, none⟩), .func (.func 67) #[] #[.pointer (some ⟨Bf, 0, none⟩), .pointer (some ⟨Bs, 0, none⟩)], num x, undef, undef, undef, undef, undef], defers := [] })
    (fun x a' _ X Y row hs hg hr => by obtain ⟨Bx, e1, e2, e3⟩ := hs; exact ⟨Bx, e1, b2_own (β := Unit) Bx 26 _ _ () X Y row e2 hg (fun r e => (hr r e).2), e3⟩)
    ?assign ?body ?done ?stop
  case assign =>
    rintro yl pre x W K ⟨⟨v, hv, hrow, _⟩, hB1⟩ hK
    gi_wp2
    exact hK _ _ ((KeepsOthers.alloc _ _).from _) ((Below.refl _ W).alloc hB1.size _) ⟨⟨v, hv.alloc _, hrow.alloc _, trivial⟩, hB1.alloc hB1.size _⟩ ⟨W.heap.size, hv.lt, B2.made W _ _ 26, rfl⟩
  case body =>
    rintro yl pre x a' W hl ⟨r, hr⟩ ⟨⟨v, hv, hrow, _⟩, hB⟩ ⟨Bx, hBx, bX, rfl⟩ hlt
    have hc := hv.cell
    have hx0 := bX.cells.1
    have hx1 := bX.cells.2
    have hpl : pre.length < 1000 := by omega
    have m1 : pre.length + 1 ≤ maxLen := by unfold maxLen; omega
    have m2 : ∀ u ∈ [Value.int .u32 x.1, Value.int .u32 x.2], u.oneCell' = true := by simp [Value.oneCell']
    gi_wp2_with (gi_at_builtin; refine wpListIn_append_own _ rfl _ _ 39 rfl w.heap.size 26 i0 (.agg #[.int .u32 0, .int .u32 0]) 2 8 u39 hi hz0 hz1 hz2 rfl (by decide) _ _ _ rfl (hrow.alloc _) ⟨W.heap.size, 0, none⟩ 1 1 [.int .u32 x.1, .int .u32 x.2] rfl rfl (two_new _ _ _ _) m2 m1 (by omega) (by have := hB.size; simp; omega) ?_; intro v' w1 hown' hgrow _; obtain ⟨g', cap', rfl⟩ := ownsRow_succ hown'; obtain ⟨hv1, hv2, hr2, hk2, hb2⟩ := hv.appended (by decide) hrow hB.size (Nat.le_refl _) hown' hgrow; have hc1 := hv1.cell; have hf1 := hv1.frozen)
    exact ⟨hk2.from _, hb2, ⟨_, hv2, by rw [cellsN_app, List.length_append]; exact hr2, trivial⟩, hB.trans hb2⟩
  case done =>
    rintro D zs W hD rfl ⟨⟨v, hv, hrow, _⟩, hB⟩ hK
    have cR := hv.cell
    gi_wp2
    refine ⟨by simp, .inl ⟨_, _, rfl, run_takeDeferred hK, ?_⟩⟩
    exact ⟨_, results_tmp rfl _ _ _, v, rfl, ownsRow_putObj hrow _ hK rfl, hB.trans (belowK_b (w := w) (Nat.le_refl _) W D _ _ (by omega) hK rfl rfl)⟩
  case stop =>
    rintro D c pre W _ _ h _
    exact h.elim
end Go.Proofs.Ytlbgpfddmkpakaa.Nu
