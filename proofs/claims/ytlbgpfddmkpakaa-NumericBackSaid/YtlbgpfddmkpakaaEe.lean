/- Numeric: rows of words; the program's Spectrum. -/
import Derived.Test.YtlbgpfddmkpakaaEd
namespace Go.Proofs.Ytlbgpfddmkpakaa.Nu
open Go.RowKit
set_option linter.unusedVariables false
set_option linter.unusedSimpArgs false

theorem info24 : (Try.prog.info? 24).map (fun i => (i.zero, i.size, i.bytes)) = some (some (.int .u32 0), 1, 4) := by kernel_rfl
theorem und38 : Try.prog.underlying 38 = some (.slice 24) := by kernel_rfl
/-- The cells of words. -/
def cellsU (l : List Nat) : List Value := l.map fun (x : Nat) => Value.int .u32 (x : Int)
theorem cellsU_app (l m : List Nat) : cellsU (l ++ m) = cellsU l ++ cellsU m := by simp [cellsU]
theorem cellsU_len (l : List Nat) : (cellsU l).length = l.length := by simp [cellsU]
/-- A row of words that is read. -/
def Row32 (w : World) (v : Value) (l : List Nat) : Prop :=
  ∃ p cap, v = .slice p l.length cap ∧ l.length ≤ cap ∧ (l = [] ∨ ∃ g off, p = some ⟨g, off, none⟩ ∧ g < w.heap.size ∧
    ∀ (k : Nat) (x : Nat), l[k]? = some x → w.cell? ⟨g, off + k, none⟩ = some (.int .u32 x))
theorem Row32.below {w w' : World} {v : Value} {l : List Nat} (h : Row32 w v l) (hb : Below w.heap.size w w') : Row32 w' v l := by
  obtain ⟨p, cap, rfl, hc, h⟩ := h
  refine ⟨p, cap, rfl, hc, ?_⟩
  rcases h with h | ⟨g, off, rfl, h2, h3⟩
  · exact .inl h
  · exact .inr ⟨g, off, rfl, Nat.lt_of_lt_of_le h2 hb.size, fun k x hx => (hb.cell (p := ⟨g, off + k, none⟩) h2).trans (h3 k x hx)⟩
abbrev OwnU (B : Nat) (W : World) (v : Value) (L : List Nat) : Prop := W.ownsRow B 24 1 v L.length (cellsU L)
theorem ownU_nil (B : Nat) (W : World) : OwnU B W (.slice none 0 0) [] := World.ownsRow_nil _ _ _ _
theorem OwnU.slice {B : Nat} {W : World} {v : Value} {L : List Nat} (h : OwnU B W v L) : ∃ p cap, v = .slice p L.length cap := by
  rcases h.2 with ⟨rfl, h0⟩ | ⟨g, cap, cur, rfl, _⟩
  · exact ⟨none, 0, by rw [h0]⟩
  · exact ⟨_, cap, rfl⟩
theorem OwnU.base {B B' : Nat} {W : World} {v : Value} {l : List Nat} (h : OwnU B W v l) (hB : B' ≤ B) : OwnU B' W v l := by
  refine ⟨h.1, ?_⟩
  rcases h.2 with h0 | ⟨g, cap, cur, h1, h2, h3⟩
  · exact .inl h0
  · exact .inr ⟨g, cap, cur, h1, Nat.le_trans hB h2, h3⟩
theorem OwnU.row {B : Nat} {W : World} {v : Value} {l : List Nat} (h : OwnU B W v l) : Row32 W v l := by
  have hcs := fun g (hg : v.ownBlock = some g) => h.cells (g := g) hg
  rcases h.2 with ⟨rfl, h0⟩ | ⟨g, cap, cur, rfl, hb, hgg, hnc, _⟩
  · exact ⟨none, 0, by rw [h0], by rw [h0]; exact Nat.le_refl _, .inl (List.eq_nil_of_length_eq_zero h0)⟩
  · refine ⟨_, cap, rfl, hnc, .inr ⟨g, 0, rfl, blk_lt hgg, fun k x hx => ?_⟩⟩
    have := hcs g rfl k (.int .u32 x) (by simp [cellsU, hx])
    rw [Addr.add_lit] at this
    exact this
/-- A row of words of one's own, and a fresh number. -/
structure TU (W0 : World) (u : Value) (xs : List Nat) (W : World) : Prop where
  below : Below W0.heap.size W0 W
  o1 : OwnU W0.heap.size W u xs
theorem TU.start (W0 : World) : TU W0 (.slice none 0 0) [] W0 := ⟨Below.refl _ _, ownU_nil _ _⟩
theorem TU.step {W0 : World} {u : Value} {xs : List Nat} {W W' : World} (h : TU W0 u xs W) (hb : Below W.heap.size W W') : TU W0 u xs W' :=
  ⟨h.below.trans (hb.mono h.below.size), own_step h.o1 hb⟩
theorem TU.empty (W0 : World) : TU W0 (.slice (some ⟨W0.heap.size, 0, none⟩) 0 0) [] (W0.alloc (Obj.cells #[] 24)) :=
  ⟨(Below.refl _ _).alloc (Nat.le_refl _) _, World.ownsRow_made W0 #[] 0 (Nat.le_refl _) (by unfold maxLen; omega) rfl⟩
theorem wpList_appT {W : World} (st : TypeId) {ops : Array Oper} {rest : List Oper} {o : Oper} {a : Act} {Q : Exit → Act → World → Prop} (hg : o.guard = none) (s x : Operand) (hop : o.op = Op.call { callee := Callee.builtin Builtin.append, args := #[s, x], argTypes := #[st, st] })
    {vs vx : Value} (hs : a.eval s = vs) (hx : a.eval x = vx) {v' : Value} {w' : World} (hr : (Builtin.append_ #[st, st] o.type #[vs, vx]).run Try.prog W = .ok v' w') (h : wpList Try.prog ops Q rest (a.put o.dst v') w') : wpList Try.prog ops Q (o :: rest) a W := by
  have hw : Region.wanted o (yielded ops a.tmps) = true := by simp [Region.wanted, hg]
  unfold wpList
  rw [if_pos hw]
  exact .inl (Lib.wp_append_run W s x st st hop vs vx hs hx v' w' hr h)
set_option maxRecDepth 100000 in
theorem wpList_TU {W0 W : World} {u : Value} {xs : List Nat} (h : TU W0 u xs W) (c : Nat) {ops : Array Oper} {rest : List Oper} {o : Oper} {a : Act} {Q : Exit → Act → World → Prop} (hg : o.guard = none) (s x : Operand) (hop : o.op = Op.call { callee := Callee.builtin Builtin.append, args := #[s, x], argTypes := #[38, 38] })
    (hs : a.eval s = u) (hx : a.eval x = .slice (some ⟨W.heap.size, 0, none⟩) 1 1) {n : Nat} (hl : xs.length = n) (hn : n ≤ 2000)
    (hK : ∀ p' k w', TU W0 (.slice p' (n + 1) k) (xs ++ [c]) w' → wpList Try.prog ops Q rest (a.put o.dst (.slice p' (n + 1) k)) w') : wpList Try.prog ops Q (o :: rest) a (W.alloc (Obj.cells #[.int .u32 c] 24)) := by
  subst hl
  obtain ⟨i0, hi, hz0, hz1, hz2⟩ := info_parts info24
  have h1 := h.step ((Below.refl _ _).alloc (Nat.le_refl _) (Obj.cells #[.int .u32 (c : Nat)] 24))
  have hsrc : ∀ j y, [Value.int .u32 (c : Nat)][j]? = some y → (W.alloc (Obj.cells #[.int .u32 (c : Nat)] 24)).cell? ((⟨W.heap.size, 0, none⟩ : Addr).add j) = some y := by
    intro j y hj
    rw [Addr.add_lit]
    match j with
    | 0 => simp at hj; subst hj; exact cell_blk (MapKept.heap_alloc _ _).1 0
    | j + 1 => simp at hj
  obtain ⟨u', W', hr, ho, hgr, hnil⟩ := run_append_own (P := Try.prog) (W.alloc (Obj.cells #[.int .u32 (c : Nat)] 24)) W0.heap.size 38 o.type 24 i0 (.int .u32 0) 1 4 und38 hi hz0 hz1 hz2 rfl (by decide) u xs.length (cellsU xs) h1.o1 ⟨W.heap.size, 0, none⟩ 1 1 [.int .u32 c] rfl hsrc (by simp [Value.oneCell']) (by unfold maxLen; omega) (by omega) h1.below.size
  have hO : OwnU W0.heap.size W' u' (xs ++ [c]) := by
    show W'.ownsRow W0.heap.size 24 1 u' (xs ++ [c]).length (cellsU (xs ++ [c]))
    rw [cellsU_app, List.length_append]; exact ho
  obtain ⟨p', k', e'⟩ := OwnU.slice hO
  rw [List.length_append, List.length_singleton] at e'
  subst e'
  exact wpList_appT 38 hg s x hop hs hx hr (hK p' k' W' ⟨h1.below.grown hgr h1.below.size (fun k hk => by have := h1.o1.lt k hk; omega), hO⟩) 
/-- The power of a number. -/
def pw (x : Nat × Nat) : Nat := cb (fop .add (fop .mul (canon x.1) (canon x.1)) (fop .mul (canon x.2) (canon x.2)))
/-- Samples as numbers. -/
def smp (l : List Nat) (n : Nat) : List (Nat × Nat) := upto (fun j => (l.getD j 0, 0)) n
/-- The spectrum of 2^k samples. -/
def spec (k : Nat) (l : List Nat) : List Nat := upto (fun j => pw (el (fft k (smp l (2 ^ k))) j)) (min (2 ^ k / 2 + 1) (2 ^ k))
theorem TN.allocL {e : TypeId} {W0 : World} {u : Value} {xs : List (Nat × Nat)} {v : Value} {ys : List (Nat × Nat)} {fr : List (Nat × Nat × Nat)} {W : World} (h : TN e W0 u xs v ys fr W) (a : Nat) :
    TN e W0 u xs v ys ((W.heap.size, a, 0) :: fr) (W.alloc (Obj.cells #[.int .u32 a, .int .u32 0] e)) := h.alloc a 0
end Go.Proofs.Ytlbgpfddmkpakaa.Nu
