/- PoolApart: the law. -/
import Derived.Test.YtdgfnlagbdmniaaDoorQb
import Derived.Test.YtdgfnlagbdmniaaDoorPz
namespace Go.Proofs.YtdgfnlagbdmniaaDoor.Pl
open Go.RowKit

theorem law_apart (x : Int) (hx : (Lit.int .u8 x).wf = true) (v : Value) (xs : List Int) (w : World) (hN : Nums w v xs) (hb : ∀ x ∈ xs, 0 ≤ x ∧ x ≤ 65535) (hT : Tab w) :
    Calls Tryd.prog 4 #[.int .u8 x, v] w fun e w' => e = .returned (.bool true) ∧ Below w.heap.size w w' := by
  obtain ⟨h0, h1⟩ := u8_bd hx
  by_cases hl : xs.length ≤ 200
  · exact apart_walk x h0 h1 v xs w hT hN hb hl
  · obtain ⟨p, cap, rfl, _⟩ := hN
    exact apart_long x p _ cap (by omega) w hT
end Go.Proofs.YtdgfnlagbdmniaaDoor.Pl
