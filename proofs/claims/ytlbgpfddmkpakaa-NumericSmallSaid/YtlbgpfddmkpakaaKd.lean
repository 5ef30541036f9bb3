/- Numeric: NumericSmall, the law; an array of two int16 that came in. -/
import Derived.Test.YtlbgpfddmkpakaaKc
import Derived.Test.YtlbgpfddmkpakaaGa
namespace Go.Proofs.Ytlbgpfddmkpakaa.Nu
open Go.RowKit Go.ChangeShapes
set_option linter.unusedVariables false
set_option linter.unusedSimpArgs false
theorem cells23 : Try.prog.cellsOf 23 = 2 := by kernel_rfl
theorem cells22 : Try.prog.cellsOf 22 = 1 := by kernel_rfl
theorem und23 : Try.prog.underlying 23 = some (.array 2 22) := by kernel_rfl
theorem und22 : Try.prog.underlying 22 = some (.int .i16) := by kernel_rfl
set_option maxRecDepth 100000 in
theorem arrh2_of {H : Type} {enc : TypeId × Value → H} {W : World} {v : Value} {d : DataW H} {ps : List MemPlace} {r : Reach} {b0 : Nat} (hval : Value.okWide Try.prog W r b0 23 v) (h : DataW.Trod enc Try.prog W 0 (fun _ => true) true 23 v d ps) :
    ∃ xs : Int × Int, v = .agg #[.int .i16 xs.1, .int .i16 xs.2] ∧ ((Lit.int .i16 xs.1).wf = true ∧ (Lit.int .i16 xs.2).wf = true) := by
  simp only [Value.okWide, und23] at hval
  obtain ⟨cs, rfl, _⟩ := hval
  obtain ⟨fuel, h⟩ := h
  obtain ⟨xs, k, hk, hxy, hlen, hxl, hf⟩ := DataW.trod_array und23 h
  obtain ⟨ls⟩ := cs
  simp only [Value.cells] at h hlen hf
  rw [cells23] at hlen
  match xs, hxl, ls, hlen with
  | [y0, y1], _, [v0, v1], _ =>
    have g0 := hf 0 (by omega)
    have g1 := hf 1 (by omega)
    simp [cells22] at g0 g1
    obtain ⟨z0, q0, _, w0⟩ := DataW.trod_int und22 g0
    obtain ⟨z1, q1, _, w1⟩ := DataW.trod_int und22 g1
    simp at q0 q1
    subst q0 q1
    exact ⟨(z0, z1), rfl, w0, w1⟩
theorem law_small (xs0 xs1 xs2 : Int × Int) (x3 : Int) (w3 : (Lit.int .u8 x3).wf = true) (w : World) (b0 : (Lit.int .i16 xs0.1).wf = true ∧ (Lit.int .i16 xs0.2).wf = true) (b1 : (Lit.int .i16 xs1.1).wf = true ∧ (Lit.int .i16 xs1.2).wf = true) (b2 : (Lit.int .i16 xs2.1).wf = true ∧ (Lit.int .i16 xs2.2).wf = true) :
    Calls Try.prog 3 #[.agg #[.int .i16 xs0.1, .int .i16 xs0.2], .agg #[.int .i16 xs1.1, .int .i16 xs1.2], .agg #[.int .i16 xs2.1, .int .i16 xs2.2], .int .u8 x3] w fun e w' => e = .returned (.bool true) ∧ Below w.heap.size w w' :=
  small_walk xs0.1 xs0.2 xs1.1 xs1.2 xs2.1 xs2.2 x3 b0.1 b0.2 b1.1 b1.2 b2.1 b2.2 w3 w
end Go.Proofs.Ytlbgpfddmkpakaa.Nu
