/- Numeric: rows that are read, appends in walks, sums of numbers. -/
import Derived.Test.YtlbgpfddmkpakaaDa
import Derived.Lib.AppendZeros
namespace Go.Proofs.Ytlbgpfddmkpakaa.Nu
open Go.RowKit
set_option linter.unusedVariables false
set_option linter.unusedSimpArgs false

/-- Sum and difference of numbers. -/
def addc (x y : Nat × Nat) : Nat × Nat := (nop .add x.1 y.1, nop .add x.2 y.2)
def subc (x y : Nat × Nat) : Nat × Nat := (nop .sub x.1 y.1, nop .sub x.2 y.2)
/-- Element of a list of numbers. -/
def el (l : List (Nat × Nat)) (j : Nat) : Nat × Nat := l.getD j (0, 0)
theorem el_get {l : List (Nat × Nat)} {j : Nat} (h : j < l.length) : l[j]? = some (el l j) := by
  unfold el; rw [List.getD_eq_getElem?_getD, List.getElem?_eq_getElem h]; rfl
/-- The transform of a list of 2^k numbers. -/
def fft : Nat → List (Nat × Nat) → List (Nat × Nat)
  | 0, l => [(cc (el l 0).1, cc (el l 0).2)]
  | k + 1, l => upto (fun j => addc (el (fft k (halfOf l 0)) j) (mulc (tw (wOf (2 ^ (k + 1))) j) (el (fft k (halfOf l 1)) j))) (2 ^ k) ++
      upto (fun j => subc (el (fft k (halfOf l 0)) j) (mulc (tw (wOf (2 ^ (k + 1))) j) (el (fft k (halfOf l 1)) j))) (2 ^ k)
theorem fft_length (k : Nat) (l : List (Nat × Nat)) : (fft k l).length = 2 ^ k := by
  cases k with
  | zero => rfl
  | succ k => simp [fft, upto_length]; omega
theorem upto_get {α : Type} (f : Nat → α) {k j : Nat} (h : j < k) : (upto f k)[j]? = some (f j) := by simp [upto, h]

/-- A row that is read. -/
def Rd (W : World) (g off : Nat) (l : List (Nat × Nat)) : Prop :=
  g < W.heap.size ∧ ∀ (k : Nat) (x : Nat × Nat), l[k]? = some x → W.cell? ⟨g, off + k * 2, none⟩ = some (.int .u32 x.1) ∧ W.cell? ⟨g, off + k * 2 + 1, none⟩ = some (.int .u32 x.2)
theorem Rd.step {W W' : World} {g off : Nat} {l : List (Nat × Nat)} (h : Rd W g off l) {B : Nat} (hb : Below B W W') (hg : g < B) : Rd W' g off l :=
  ⟨Nat.lt_of_lt_of_le h.1 hb.size, fun k x hx => ⟨(hb.cell (p := ⟨g, off + k * 2, none⟩) hg).trans (h.2 k x hx).1, (hb.cell (p := ⟨g, off + k * 2 + 1, none⟩) hg).trans (h.2 k x hx).2⟩⟩
theorem Rd.get0 {W : World} {g : Nat} {l : List (Nat × Nat)} (h : Rd W g 0 l) {j : Nat} {p : Nat × Nat} (hj : l[j]? = some p) : W.cell? ⟨g, j * 2, none⟩ = some (.int .u32 p.1) ∧ W.cell? ⟨g, j * 2 + 1, none⟩ = some (.int .u32 p.2) := by
  have := h.2 j p hj
  rw [Nat.zero_add] at this
  exact this
theorem Row.rd {W : World} {v : Value} {l : List (Nat × Nat)} (h : Row W v l) (hne : l ≠ []) : ∃ g off cap, v = .slice (some ⟨g, off, none⟩) l.length cap ∧ l.length ≤ cap ∧ Rd W g off l := by
  obtain ⟨p, cap, rfl, hc, h⟩ := h
  rcases h with h | ⟨g, off, rfl, h1, h2⟩
  · exact absurd h hne
  · exact ⟨g, off, cap, rfl, hc, h1, h2⟩
theorem Own.rd {e : TypeId} {B : Nat} {W : World} {v : Value} {l : List (Nat × Nat)} (h : Own e B W v l) (hne : l ≠ []) : ∃ g cap, v = .slice (some ⟨g, 0, none⟩) l.length cap ∧ l.length ≤ cap ∧ B ≤ g ∧ Rd W g 0 l := by
  have hcs := fun g (hg : v.ownBlock = some g) => h.cells (g := g) hg
  rcases h.2 with ⟨rfl, h0⟩ | ⟨g, cap, cur, rfl, hb, hgg, hnc, _⟩
  · exact absurd (List.eq_nil_of_length_eq_zero h0) hne
  · refine ⟨g, cap, rfl, hnc, hb, blk_lt hgg, fun k x hx => ?_⟩
    obtain ⟨a, b⟩ := cellsN_get l k x hx
    have h1 := hcs g rfl _ _ a
    have h2 := hcs g rfl _ _ b
    rw [Addr.add_lit] at h1 h2
    exact ⟨h1, by rw [Nat.add_assoc]; exact h2⟩
theorem Own.base {e : TypeId} {B B' : Nat} {W : World} {v : Value} {l : List (Nat × Nat)} (h : Own e B W v l) (hB : B' ≤ B) : Own e B' W v l := by
  refine ⟨h.1, ?_⟩
  rcases h.2 with h0 | ⟨g, cap, cur, h1, h2, h3⟩
  · exact .inl h0
  · exact .inr ⟨g, cap, cur, h1, Nat.le_trans hB h2, h3⟩
section
variable {e st : TypeId} {W0 : World} {u : Value} {xs : List (Nat × Nat)} {v : Value} {ys : List (Nat × Nat)} {fr : List (Nat × Nat × Nat)} {W W' : World}
theorem TN.rd (h : TN e W0 u xs v ys fr W) {g off : Nat} {l : List (Nat × Nat)} (r : Rd W0 g off l) : Rd W g off l := r.step h.below r.1
theorem TN.pt (h : TN e W0 u xs v ys fr W) {X : Nat} {p : Nat × Nat} (hm : (X, p) ∈ fr) : W.cell? ⟨X, 0, none⟩ = some (.int .u32 p.1) ∧ W.cell? ⟨X, 1, none⟩ = some (.int .u32 p.2) := (h.fresh _ hm).1.cells
/-- Elements of two old rows. -/
theorem TN.two (h : TN e W0 u xs v ys fr W) {g g' j : Nat} {l l' : List (Nat × Nat)} {p p' : Nat × Nat} (r : Rd W0 g 0 l) (r' : Rd W0 g' 0 l') (hj : l[j]? = some p) (hj' : l'[j]? = some p') :
    W.cell? ⟨g, j * 2, none⟩ = some (.int .u32 p.1) ∧ W.cell? ⟨g, j * 2 + 1, none⟩ = some (.int .u32 p.2) ∧ W.cell? ⟨g', j * 2, none⟩ = some (.int .u32 p'.1) ∧ W.cell? ⟨g', j * 2 + 1, none⟩ = some (.int .u32 p'.2) :=
  ⟨((h.rd r).get0 hj).1, ((h.rd r).get0 hj).2, ((h.rd r').get0 hj').1, ((h.rd r').get0 hj').2⟩
/-- An element of an old row, and a fresh number. -/
theorem TN.one (h : TN e W0 u xs v ys fr W) {g j X : Nat} {l : List (Nat × Nat)} {p q : Nat × Nat} (r : Rd W0 g 0 l) (hj : l[j]? = some p) (hm : (X, q) ∈ fr) :
    W.cell? ⟨g, j * 2, none⟩ = some (.int .u32 p.1) ∧ W.cell? ⟨g, j * 2 + 1, none⟩ = some (.int .u32 p.2) ∧ W.cell? ⟨X, 0, none⟩ = some (.int .u32 q.1) ∧ W.cell? ⟨X, 1, none⟩ = some (.int .u32 q.2) :=
  ⟨((h.rd r).get0 hj).1, ((h.rd r).get0 hj).2, (h.pt hm).1, (h.pt hm).2⟩
theorem TN.empty2 (W0 : World) (e : TypeId) : TN e W0 (.slice (some ⟨W0.heap.size, 0, none⟩) 0 0) [] (.slice (some ⟨W0.heap.size + 1, 0, none⟩) 0 0) [] [] ((W0.alloc (Obj.cells #[] e)).alloc (Obj.cells #[] e)) := by
  have ha : Below W0.heap.size W0 (W0.alloc (Obj.cells #[] e)) := (Below.refl _ _).alloc (Nat.le_refl _) _
  have hz : (W0.alloc (Obj.cells #[] e)).heap.size = W0.heap.size + 1 := by simp
  have hb : Below (W0.alloc (Obj.cells #[] e)).heap.size (W0.alloc (Obj.cells #[] e)) ((W0.alloc (Obj.cells #[] e)).alloc (Obj.cells #[] e)) := (Below.refl _ _).alloc (Nat.le_refl _) _
  refine ⟨ha.trans (hb.mono ha.size), own_step (World.ownsRow_made W0 #[] 0 (Nat.le_refl _) (by unfold maxLen; omega) rfl) hb, ?_, ?_, (fun y hy => by cases hy), (fun y hy => by cases hy)⟩
  · have := World.ownsRow_made (base := W0.heap.size) (e := e) (size := 2) (W0.alloc (Obj.cells #[] e)) #[] 0 (by omega) (by unfold maxLen; omega) rfl
    rw [hz] at this
    exact this
  · intro g hg hg'
    injection hg with hg
    injection hg' with hg'
    dsimp only at hg hg'
    omega
theorem wpList_app (T : NumTy e st) {ops : Array Oper} {rest : List Oper} {o : Oper} {a : Act} {Q : Exit → Act → World → Prop} (hg : o.guard = none) (s x : Operand) (hop : o.op = Op.call { callee := Callee.builtin Builtin.append, args := #[s, x], argTypes := #[st, st] })
    {vs vx : Value} (hs : a.eval s = vs) (hx : a.eval x = vx) {v' : Value} {w' : World} (hr : (Builtin.append_ #[st, st] o.type #[vs, vx]).run Try.prog W = .ok v' w') (h : wpList Try.prog ops Q rest (a.put o.dst v') w') : wpList Try.prog ops Q (o :: rest) a W := by
  have hw : Region.wanted o (yielded ops a.tmps) = true := by simp [Region.wanted, hg]
  unfold wpList
  rw [if_pos hw]
  exact .inl (Lib.wp_append_run W s x st st hop vs vx hs hx v' w' hr h)
theorem wpList_TN1 (T : NumTy e st) {g : Nat} {p : Nat × Nat} (h : TN e W0 u xs v ys fr W) (hm : (g, p) ∈ fr) {ops : Array Oper} {rest : List Oper} {o : Oper} {a : Act} {Q : Exit → Act → World → Prop} (hg : o.guard = none) (s x : Operand) (hop : o.op = Op.call { callee := Callee.builtin Builtin.append, args := #[s, x], argTypes := #[st, st] })
    (hs : a.eval s = u) (hx : a.eval x = .slice (some ⟨g, 0, none⟩) 1 1) {n : Nat} (hl : xs.length = n) (hn : n ≤ 2000)
    (hK : ∀ p' k w', TN e W0 (.slice (some ⟨p', 0, none⟩) (n + 1) k) (xs ++ [p]) v ys fr w' → wpList Try.prog ops Q rest (a.put o.dst (.slice (some ⟨p', 0, none⟩) (n + 1) k)) w') : wpList Try.prog ops Q (o :: rest) a W := by
  subst hl
  obtain ⟨u', W', hr, ho, hgr, hb, _, g', k, rfl⟩ := run_app T W o.type h.o1 (h.fresh _ hm).1 hn h.below.size
  exact wpList_app T hg s x hop hs hx hr (hK g' k W' (h.re1 hgr ho hb))
theorem wpList_TN2 (T : NumTy e st) {g : Nat} {p : Nat × Nat} (h : TN e W0 u xs v ys fr W) (hm : (g, p) ∈ fr) {ops : Array Oper} {rest : List Oper} {o : Oper} {a : Act} {Q : Exit → Act → World → Prop} (hg : o.guard = none) (s x : Operand) (hop : o.op = Op.call { callee := Callee.builtin Builtin.append, args := #[s, x], argTypes := #[st, st] })
    (hs : a.eval s = v) (hx : a.eval x = .slice (some ⟨g, 0, none⟩) 1 1) {n : Nat} (hl : ys.length = n) (hn : n ≤ 2000)
    (hK : ∀ p' k w', TN e W0 u xs (.slice (some ⟨p', 0, none⟩) (n + 1) k) (ys ++ [p]) fr w' → wpList Try.prog ops Q rest (a.put o.dst (.slice (some ⟨p', 0, none⟩) (n + 1) k)) w') : wpList Try.prog ops Q (o :: rest) a W := by
  subst hl
  obtain ⟨u', W', hr, ho, hgr, hb, _, g', k, rfl⟩ := run_app T W o.type h.o2 (h.fresh _ hm).1 hn h.below.size
  exact wpList_app T hg s x hop hs hx hr (hK g' k W' (h.re2 hgr ho hb))
/-- The second row behind the first one. -/
theorem wpList_TN12 (T : NumTy e st) (h : TN e W0 u xs v ys fr W) (hne : ys ≠ []) {ops : Array Oper} {rest : List Oper} {o : Oper} {a : Act} {Q : Exit → Act → World → Prop} (hg : o.guard = none) (s x : Operand) (hop : o.op = Op.call { callee := Callee.builtin Builtin.append, args := #[s, x], argTypes := #[st, st] })
    (hs : a.eval s = u) (hx : a.eval x = v) (hn : xs.length + ys.length ≤ 2000)
    (hK : ∀ u' w', Own e W0.heap.size w' u' (xs ++ ys) → Below W0.heap.size W0 w' → wpList Try.prog ops Q rest (a.put o.dst u') w') : wpList Try.prog ops Q (o :: rest) a W := by
  obtain ⟨i0, hi, hz0, hz1, hz2⟩ := info_parts T.info
  obtain ⟨g, cap, e2, hcap, hB, hrd⟩ := h.o2.rd hne
  subst e2
  have hc := h.o2.cells (g := g) rfl
  have m2 : ∀ (l : List (Nat × Nat)), ∀ x ∈ cellsN l, x.oneCell' = true := by
    intro l x hx
    simp only [cellsN, List.mem_flatMap] at hx
    obtain ⟨y, _, hy⟩ := hx
    simp only [List.mem_cons, List.not_mem_nil, or_false] at hy
    rcases hy with rfl | rfl <;> rfl
  obtain ⟨u', W', hr, ho, hgr, hnil⟩ := run_append_own (P := Try.prog) W W0.heap.size st o.type e i0 (.agg #[.int .u32 0, .int .u32 0]) 2 8 T.und hi hz0 hz1 hz2 rfl (by decide) u xs.length (cellsN xs) h.o1 ⟨g, 0, none⟩ ys.length cap (cellsN ys) (cellsN_len ys) hc (m2 ys) (by unfold maxLen; omega) (by omega) h.below.size
  refine wpList_app T hg s x hop hs hx hr (hK u' W' ?_ (h.below.grown hgr h.below.size (fun k hk => by have := h.o1.lt k hk; omega)))
  show W'.ownsRow W0.heap.size e 2 u' (xs ++ ys).length (cellsN (xs ++ ys))
  rw [cellsN_app, List.length_append]
  exact ho
end
theorem raddc_at (a b c d : Nat) (w : World) : Calls Try.prog 58 #[.agg #[.int .u32 a, .int .u32 b], .agg #[.int .u32 c, .int .u32 d]] w fun e w' => ∃ pa pb : Nat, e = .returned (.agg #[.int .u32 pa, .int .u32 pb]) ∧ (pa, pb) = addc (a, b) (c, d) ∧ Below w.heap.size w w' :=
  (radd_at a b c d w).mono fun _ _ ⟨h1, h2⟩ => ⟨_, _, h1, rfl, h2⟩
theorem rsubc_at (a b c d : Nat) (w : World) : Calls Try.prog 64 #[.agg #[.int .u32 a, .int .u32 b], .agg #[.int .u32 c, .int .u32 d]] w fun e w' => ∃ pa pb : Nat, e = .returned (.agg #[.int .u32 pa, .int .u32 pb]) ∧ (pa, pb) = subc (a, b) (c, d) ∧ Below w.heap.size w w' :=
  (rsub_at a b c d w).mono fun _ _ ⟨h1, h2⟩ => ⟨_, _, h1, rfl, h2⟩
theorem addc_at (a b c d : Nat) (w : World) : Calls Try.prog 14 #[.agg #[.int .u32 a, .int .u32 b], .agg #[.int .u32 c, .int .u32 d]] w fun e w' => ∃ pa pb : Nat, e = .returned (.agg #[.int .u32 pa, .int .u32 pb]) ∧ (pa, pb) = addc (a, b) (c, d) ∧ Below w.heap.size w w' :=
  (add_at a b c d w).mono fun _ _ ⟨h1, h2⟩ => ⟨_, _, h1, rfl, h2⟩
theorem subc_at (a b c d : Nat) (w : World) : Calls Try.prog 15 #[.agg #[.int .u32 a, .int .u32 b], .agg #[.int .u32 c, .int .u32 d]] w fun e w' => ∃ pa pb : Nat, e = .returned (.agg #[.int .u32 pa, .int .u32 pb]) ∧ (pa, pb) = subc (a, b) (c, d) ∧ Below w.heap.size w w' :=
  (sub_at a b c d w).mono fun _ _ ⟨h1, h2⟩ => ⟨_, _, h1, rfl, h2⟩
end Go.Proofs.Ytlbgpfddmkpakaa.Nu
