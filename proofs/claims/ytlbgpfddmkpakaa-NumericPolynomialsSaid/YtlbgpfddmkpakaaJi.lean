/- Numeric: NumericPolynomials, the law; an array of two words that came in. -/
import Derived.Test.YtlbgpfddmkpakaaJh
import Derived.Test.YtlbgpfddmkpakaaGa
namespace Go.Proofs.Ytlbgpfddmkpakaa.Nu
open Go.RowKit Go.ChangeShapes
set_option linter.unusedVariables false
set_option linter.unusedSimpArgs false
set_option maxRecDepth 100000 in
theorem arrw2_of {H : Type} {enc : TypeId × Value → H} {W : World} {v : Value} {d : DataW H} {ps : List MemPlace} {r : Reach} {b0 : Nat} (hval : Value.okWide Try.prog W r b0 55 v) (h : DataW.Trod enc Try.prog W 0 (fun _ => true) true 55 v d ps) :
    ∃ xs : Nat × Nat, v = .agg #[.int .u32 xs.1, .int .u32 xs.2] ∧ (xs.1 < 2 ^ 32 ∧ xs.2 < 2 ^ 32) := by
  simp only [Value.okWide, und55] at hval
  obtain ⟨cs, rfl, _⟩ := hval
  obtain ⟨fuel, h⟩ := h
  obtain ⟨xs, k, hk, hxy, hlen, hxl, hf⟩ := DataW.trod_array und55 h
  obtain ⟨ls⟩ := cs
  simp only [Value.cells] at h hlen hf
  rw [cells55] at hlen
  match xs, hxl, ls, hlen with
  | [y0, y1], _, [v0, v1], _ =>
    have g0 := hf 0 (by omega)
    have g1 := hf 1 (by omega)
    simp [cells24] at g0 g1
    obtain ⟨z0, q0, _, w0⟩ := DataW.trod_int und24 g0
    obtain ⟨z1, q1, _, w1⟩ := DataW.trod_int und24 g1
    simp at q0 q1
    subst q0 q1
    obtain ⟨n0, rfl, b0⟩ := nat_u32 w0
    obtain ⟨n1, rfl, b1⟩ := nat_u32 w1
    exact ⟨(n0, n1), rfl, b0, b1⟩
theorem law_polynomials (v0 : Value) (xs0 : List (Nat × Nat)) (v1 : Value) (xs1 : List (Nat × Nat)) (xs2 : Nat × Nat) (w : World) (h0 : Row w v0 xs0) (b0 : ∀ x ∈ xs0, x.1 < 2 ^ 32 ∧ x.2 < 2 ^ 32) (h1 : Row w v1 xs1) (b1 : ∀ x ∈ xs1, x.1 < 2 ^ 32 ∧ x.2 < 2 ^ 32) (b2 : xs2.1 < 2 ^ 32 ∧ xs2.2 < 2 ^ 32) :
    Calls Try.prog 5 #[v0, v1, .agg #[.int .u32 xs2.1, .int .u32 xs2.2]] w fun e w' => e = .returned (.bool true) ∧ Below w.heap.size w w' :=
  polynomials_walk v0 v1 xs0 xs1 xs2.1 xs2.2 w h0 h1
end Go.Proofs.Ytlbgpfddmkpakaa.Nu
