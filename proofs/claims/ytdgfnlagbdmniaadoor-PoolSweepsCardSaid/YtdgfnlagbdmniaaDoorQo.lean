/- PoolSweeps: the law. -/
import Derived.Test.YtdgfnlagbdmniaaDoorQn
namespace Go.Proofs.YtdgfnlagbdmniaaDoor.Pl
open Go.RowKit

theorem law_sweeps (v : Value) (xs : List Int) (u : Value) (bs : List Bool) (w : World) (hN : Nums w v xs) (hb : ∀ x ∈ xs, 0 ≤ x ∧ x ≤ 65535) (hB : Bools w u bs) (hT : Tab w) :
    Calls Tryd.prog 7 #[v, u] w fun e w' => e = .returned (.bool true) ∧ Below w.heap.size w w' := by
  by_cases hl : xs.length ≤ 200
  · exact sweeps_walk v xs u bs w hT hN hb hl hB
  · obtain ⟨p, cap, rfl, _⟩ := hN
    exact sweeps_long u p _ cap (by omega) w hT
end Go.Proofs.YtdgfnlagbdmniaaDoor.Pl
