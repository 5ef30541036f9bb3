/- Numeric: conjugates, quotients by a count. -/
import Derived.Test.YtlbgpfddmkpakaaDd
namespace Go.Proofs.Ytlbgpfddmkpakaa.Nu
open Go.RowKit
set_option linter.unusedVariables false
set_option linter.unusedSimpArgs false

theorem neg32_mod (b : Nat) : neg32 b % 2 ^ 31 = b % 2 ^ 31 := by
  show (b ^^^ 2 ^ 31) % 2 ^ 31 = _
  rw [Nat.xor_mod_two_pow]
  simp
theorem nan_mod {a b : Nat} (h : a % 2 ^ 31 = b % 2 ^ 31) : (Ieee.single.read a).isNaN = (Ieee.single.read b).isNaN := by
  have hs : Ieee.single.signWeight = 2 ^ 31 := rfl
  unfold Ieee.Format.read
  dsimp only
  rw [hs, h]
  split
  · rfl
  · split
    · rfl
    · split <;> rfl
theorem cc_neg (b : Nat) : cc (neg32 (cc b)) = cc (neg32 b) := by
  cases h : (Ieee.single.read b).isNaN with
  | false =>
    have : cc b = b := by unfold cc; rw [canon_some h]; rfl
    rw [this]
  | true =>
    have e1 : cc b = 2143289344 := by unfold cc; rw [canon_none h]; rfl
    have e2 : canon (neg32 b) = none := canon_none ((nan_mod (neg32_mod b)).trans h)
    have e3 : cc (neg32 2143289344) = 2143289344 := by kernel_rfl
    have e4 : cc (neg32 b) = 2143289344 := by unfold cc; rw [e2]; rfl
    rw [e1, e3, e4]
/-- The conjugate of a number. -/
def conjc (x : Nat × Nat) : Nat × Nat := (cc x.1, cc (neg32 x.2))
/-- A number by the bits of a count. -/
def divc (nb : Nat) (x : Nat × Nat) : Nat × Nat := (cb (fop .quo (canon x.1) (canon nb)), cb (fop .quo (canon x.2) (canon nb)))
/-- The bits of a count of points. -/
def nOf (n : Nat) : Nat := if n = 1 then 1065353216 else if n = 2 then 1073741824 else if n = 4 then 1082130432 else if n = 8 then 1090519040 else if n = 16 then 1098907648 else if n = 32 then 1107296256 else 1115684864
theorem conv_n {n : Nat} (hp : (n : Int) ∈ pts) : ∀ w, (convert 3 31 (.int .i64 n)).run Try.prog w = .ok (.float .f32 (nOf n)) w := by
  rcases R.pts_nat hp with rfl | rfl | rfl | rfl | rfl | rfl | rfl <;> (intro w; kernel_rfl)
/-- An operation on floats: its value is known, or it is none. -/
theorem fop_split {op : BinOp} (hop : op = .add ∨ op = .sub ∨ op = .mul ∨ op = .quo) (t : TypeId) (x y : Nat) :
    (∃ r, canon r = fop op (canon x) (canon y) ∧ ∀ w, (binOp op t (.float .f32 x) (.float .f32 y)).run Try.prog w = .ok (.float .f32 r) w) ∨
    (∃ f : World → Nat, (∀ w, canon (f w) = fop op (canon x) (canon y)) ∧ ∀ w, (binOp op t (.float .f32 x) (.float .f32 y)).run Try.prog w = .ok (.float .f32 (f w)) w.drew) := by
  rw [fop_bits hop]
  cases h : floatBits op .f32 x y with
  | some r => exact .inl ⟨r, canon_some (arith_num hop h), fun w => run_float_arith w op t .f32 x y r h⟩
  | none =>
    refine .inr ⟨fun w => (Question.nanBits .f32 x y).cut (w.tape w.drawn (.nanBits .f32 x y)), fun w => canon_none (nan_cut _ x y).1, fun w => ?_⟩
    unfold floatBits at h
    rcases hop with rfl | rfl | rfl | rfl <;> simp only at h <;> simp [binOp, Op.floatArith, h, Question.forced]
theorem rconjc_at (a b : Nat) (w : World) : Calls Try.prog 51 #[.agg #[.int .u32 a, .int .u32 b]] w fun e w' => ∃ pa pb : Nat, e = .returned (.agg #[.int .u32 pa, .int .u32 pb]) ∧ (pa, pb) = conjc (a, b) ∧ Below w.heap.size w w' :=
  (rconj_at a b w).mono fun _ _ ⟨h1, h2⟩ => ⟨_, _, h1, rfl, h2⟩
theorem conjc_at (a b : Nat) (w : World) : Calls Try.prog 11 #[.agg #[.int .u32 a, .int .u32 b]] w fun e w' => ∃ pa pb : Nat, e = .returned (.agg #[.int .u32 pa, .int .u32 pb]) ∧ (pa, pb) = conjc (a, b) ∧ Below w.heap.size w w' :=
  (conj_at a b w).mono fun _ _ ⟨h1, h2⟩ => ⟨_, _, h1, by rw [cc_neg]; rfl, h2⟩
section
variable {e st : TypeId} {W0 : World} {u : Value} {xs : List (Nat × Nat)} {v : Value} {ys : List (Nat × Nat)} {fr : List (Nat × Nat × Nat)} {W W' : World}
theorem TN.ptX {X p0 p1 : Nat} (h : TN e W0 u xs v ys [(X, p0, p1)] W) : W.cell? ⟨X, 0, none⟩ = some (.int .u32 p0) ∧ W.cell? ⟨X, 1, none⟩ = some (.int .u32 p1) := h.pt (List.mem_singleton.2 rfl)
theorem TN.empty1 (W0 : World) (e : TypeId) : TN e W0 (.slice (some ⟨W0.heap.size, 0, none⟩) 0 0) [] (.slice none 0 0) [] [] (W0.alloc (Obj.cells #[] e)) := by
  have ha : Below W0.heap.size W0 (W0.alloc (Obj.cells #[] e)) := (Below.refl _ _).alloc (Nat.le_refl _) _
  exact ⟨ha, World.ownsRow_made W0 #[] 0 (Nat.le_refl _) (by unfold maxLen; omega) rfl, own_nil _ _ _, (fun g _ h => by cases h), (fun y hy => by cases hy), (fun y hy => by cases hy)⟩
end
/-- The conjugates of a list. -/
def conjL (l : List (Nat × Nat)) (n : Nat) : List (Nat × Nat) := upto (fun j => conjc (el l j)) n
/-- The inverse transform. -/
def inv (k : Nat) (l : List (Nat × Nat)) : List (Nat × Nat) := upto (fun j => divc (nOf (2 ^ k)) (conjc (el (fft k (conjL l (2 ^ k))) j))) (2 ^ k)
end Go.Proofs.Ytlbgpfddmkpakaa.Nu
