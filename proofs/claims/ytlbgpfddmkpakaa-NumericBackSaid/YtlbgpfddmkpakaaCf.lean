/- Numeric: one times the turn is the turn; the twiddles as the reference reckons them. -/
import Derived.Test.YtlbgpfddmkpakaaCe
namespace Go.Proofs.Ytlbgpfddmkpakaa.Nu
open Go.RowKit
set_option linter.unusedVariables false

set_option maxRecDepth 100000 in
theorem one_turn : ∀ n ∈ [2, 4, 8, 16, 32, 64], mulc (1065353216, 0) (wOf n) = wOf n := by decide +kernel
end Go.Proofs.Ytlbgpfddmkpakaa.Nu
