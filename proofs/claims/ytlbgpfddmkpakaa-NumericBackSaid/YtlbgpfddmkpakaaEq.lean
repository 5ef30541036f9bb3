/- Numeric: equality of numbers. -/
import Derived.Test.YtlbgpfddmkpakaaDa
import Derived.Laws.StructEq
namespace Go.Proofs.Ytlbgpfddmkpakaa.Nu
open Go.RowKit
set_option linter.unusedVariables false
set_option linter.unusedSimpArgs false

theorem eqn_of {T : TypeId} {f g : Field} (hu : Try.prog.underlying T = some (.struct #[f, g])) (hp : Try.prog.stoodInHeld T = false) (h1 : (f.name == "_") = false) (h2 : (g.name == "_") = false)
    (d : Nat) (w : World) (xs ys : Array Value) (x0 y0 x1 y1 : Int) (a1 : (part f.type xs f.offset).run Try.prog w = .ok (.int .u32 x0) w) (a2 : (part f.type ys f.offset).run Try.prog w = .ok (.int .u32 y0) w)
    (a3 : (part g.type xs g.offset).run Try.prog w = .ok (.int .u32 x1) w) (a4 : (part g.type ys g.offset).run Try.prog w = .ok (.int .u32 y1) w)
    (e1 : (Op.equalIn d f.type (.int .u32 x0) (.int .u32 y0)).run Try.prog w = .ok (x0 == y0) w) (e2 : (Op.equalIn d g.type (.int .u32 x1) (.int .u32 y1)).run Try.prog w = .ok (x1 == y1) w) :
    (Op.equalIn (d + 1) T (.agg xs) (.agg ys)).run Try.prog w = .ok (x0 == y0 && (x1 == y1)) w := by
  have hf : Try.prog.fieldsOf T = #[f, g] := by simp [Program.fieldsOf, hu]
  have h1' : f.name ≠ "_" := by simpa using h1
  have h2' : g.name ≠ "_" := by simpa using h2
  rw [run_equalIn_struct (P := Try.prog) w d T xs ys (by rw [hf]; exact hu) hp, hf]
  show (Op.eqFields d xs ys [f, g]).run Try.prog w = _
  rw [Op.eqFields]
  simp only [if_pos h1', Sem.run_bind, a1, a2, e1, Result.andThen_ok]
  cases x0 == y0
  · simp
  · generalize (x1 == y1) = b at *
    cases b <;> simp [Op.eqFields, h2', a3, a4, e2, Result.andThen]
theorem eqn26 (d : Nat) (w : World) (x0 y0 x1 y1 : Int) : (Op.equalIn (d + 2) 26 (.agg #[.int .u32 x0, .int .u32 x1]) (.agg #[.int .u32 y0, .int .u32 y1])).run Try.prog w = .ok (x0 == y0 && (x1 == y1)) w := by
  refine eqn_of (T := 26) Try.underlying26 (by kernel_rfl) rfl rfl (d + 1) w _ _ x0 y0 x1 y1 ?_ ?_ ?_ ?_ ?_ ?_
  all_goals first | (go_simp; done) | (go_simp; rfl)
theorem eqn57 (d : Nat) (w : World) (x0 y0 x1 y1 : Int) : (Op.equalIn (d + 2) 57 (.agg #[.int .u32 x0, .int .u32 x1]) (.agg #[.int .u32 y0, .int .u32 y1])).run Try.prog w = .ok (x0 == y0 && (x1 == y1)) w := by
  refine eqn_of (T := 57) Try.underlying57 (by kernel_rfl) rfl rfl (d + 1) w _ _ x0 y0 x1 y1 ?_ ?_ ?_ ?_ ?_ ?_
  all_goals first | (go_simp; done) | (go_simp; rfl)
end Go.Proofs.Ytlbgpfddmkpakaa.Nu
