/- PoolFirst: the law. -/
import Derived.Test.YtdgfnlagbdmniaaDoorQf
import Derived.Test.YtdgfnlagbdmniaaDoorPz
namespace Go.Proofs.YtdgfnlagbdmniaaDoor.Pl
open Go.RowKit

theorem law_first (v : Value) (xs : List Int) (x : Int) (hx : (Lit.int .u16 x).wf = true) (y : Int) (hy : (Lit.int .u16 y).wf = true) (w : World) (hN : Nums w v xs) (hb : ∀ x ∈ xs, 0 ≤ x ∧ x ≤ 65535) (hT : Tab w) :
    Calls Tryd.prog 5 #[v, .int .u16 x, .int .u16 y] w fun e w' => e = .returned (.bool true) ∧ Below w.heap.size w w' := by
  obtain ⟨h0, h1⟩ := u16_bd hx
  obtain ⟨h2, h3⟩ := u16_bd hy
  by_cases hl : xs.length ≤ 200
  · exact first_walk x y h0 h1 h2 h3 v xs w hT hN hb hl
  · obtain ⟨p, cap, rfl, _⟩ := hN
    exact first_long x y p _ cap (by omega) w hT
end Go.Proofs.YtdgfnlagbdmniaaDoor.Pl
