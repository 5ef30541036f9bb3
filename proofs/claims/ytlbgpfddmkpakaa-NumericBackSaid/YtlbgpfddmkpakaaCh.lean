/- Numeric: the reference's Twiddles: the turn's loop. UNDER WAY. -/
import Derived.Test.YtlbgpfddmkpakaaCg
namespace Go.Proofs.Ytlbgpfddmkpakaa.Nu.R
open Go.RowKit
set_option linter.unusedVariables false
set_option linter.unusedSimpArgs false

/-- The turn behind a count, as the loop reckons it. -/
def tOf (i : Nat) : Nat × Nat :=
  if i = 8 then (0, one64) else if i = 16 then (4604544271217802189, 4604544271217802189) else if i = 32 then (4606496786581982534, 4600565431771507042)
  else if i = 64 then (4607009347991985328, 4596196889902818828) else (4607139046673687846, 4591727299969791023)
/-- One round's floats. -/
theorem t_step : ∀ i ∈ [8, 16, 32, 64], ∃ a b c d : Nat, floatBits .add .f64 one64 (tOf i).1 = some a ∧ floatBits .sub .f64 one64 (tOf i).1 = some b ∧ floatBits .quo .f64 a two64 = some c ∧ floatBits .quo .f64 b two64 = some d ∧
    Ieee.double.sqrt c = some (tOf (i * 2)).1 ∧ Ieee.double.sqrt d = some (tOf (i * 2)).2 := by
  intro i hi
  simp only [List.mem_cons, List.not_mem_nil, or_false] at hi
  rcases hi with rfl | rfl | rfl | rfl
  · exact ⟨4607182418800017408, 4607182418800017408, 4602678819172646912, 4602678819172646912, by kernel_rfl, by kernel_rfl, by kernel_rfl, by kernel_rfl, by kernel_rfl, by kernel_rfl⟩
  · exact ⟨4610366944636280294, 4598947915082336358, 4605863345008909798, 4594444315454965862, by kernel_rfl, by kernel_rfl, by kernel_rfl, by kernel_rfl, by kernel_rfl, by kernel_rfl⟩
  · exact ⟨4611343202318370467, 4590149478407443920, 4606839602690999971, 4585645878780073424, by kernel_rfl, by kernel_rfl, by kernel_rfl, by kernel_rfl, by kernel_rfl, by kernel_rfl⟩
  · exact ⟨4611599483023371864, 4581195487265450496, 4607095883396001368, 4576691887638080000, by kernel_rfl, by kernel_rfl, by kernel_rfl, by kernel_rfl, by kernel_rfl, by kernel_rfl⟩
end Go.Proofs.Ytlbgpfddmkpakaa.Nu.R
