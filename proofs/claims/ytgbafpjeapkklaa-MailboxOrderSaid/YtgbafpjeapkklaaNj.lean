/- MailboxOrder: the law. -/
import Derived.Test.YtgbafpjeapkklaaNh
import Derived.Test.YtgbafpjeapkklaaNi
namespace Go.Proofs.Ytgbafpjeapkklaa.Mb
open Go.RowKit
theorem law_order (v0 : Value) (xs0 : List (Int × Int × Int)) (w : World) (h0 : OpsS w v0 xs0) (b0 : ∀ x ∈ xs0, (-128 ≤ x.1 ∧ x.1 ≤ 127) ∧ (-128 ≤ x.2.1 ∧ x.2.1 ≤ 127) ∧ (-128 ≤ x.2.2 ∧ x.2.2 ≤ 127)) :
    Calls Try.prog 6 #[v0] w fun e w' => e = .returned (.bool true) ∧ Below w.heap.size w w' := order_walk v0 xs0 w h0 b0
end Go.Proofs.Ytgbafpjeapkklaa.Mb
