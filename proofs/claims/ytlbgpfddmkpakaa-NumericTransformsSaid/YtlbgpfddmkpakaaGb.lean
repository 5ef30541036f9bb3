/- Numeric: NumericTransforms, the law. -/
import Derived.Test.YtlbgpfddmkpakaaFe
import Derived.Test.YtlbgpfddmkpakaaGa
namespace Go.Proofs.Ytlbgpfddmkpakaa.Nu
open Go.RowKit
theorem law_transforms (x0 : Int) (w0 : (Lit.int .i64 x0).wf = true) (v1 : Value) (xs1 : List (Nat × Nat)) (v2 : Value) (xs2 : List Nat) (x3 : Bool) (w : World) (h1 : Row w v1 xs1) (b1 : ∀ x ∈ xs1, x.1 < 2 ^ 32 ∧ x.2 < 2 ^ 32) (h2 : Row32 w v2 xs2) (b2 : ∀ x ∈ xs2, x < 2 ^ 32) :
    Calls Try.prog 4 #[.int .i64 x0, v1, v2, .bool x3] w fun e w' => e = .returned (.bool true) ∧ Below w.heap.size w w' :=
  transforms_walk x0 v1 v2 xs1 xs2 x3 w h1 h2
end Go.Proofs.Ytlbgpfddmkpakaa.Nu
