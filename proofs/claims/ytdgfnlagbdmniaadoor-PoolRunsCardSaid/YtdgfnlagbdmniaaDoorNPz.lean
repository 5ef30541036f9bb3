/- Lists that came in: read as numbers, as truth values. -/
import Derived.Test.YtdgfnlagbdmniaaDoorMb
import Derived.ProofKit
import Derived.OpenShut
import Derived.Carry
import Derived.Deep.Grids
namespace Go.Proofs.YtdgfnlagbdmniaaDoor.Pl
open Go.RowKit Go.ChangeShapes

theorem cells22 : Tryd.prog.cellsOf 22 = 1 := by kernel_rfl
theorem cells4 : Tryd.prog.cellsOf 4 = 1 := by kernel_rfl
theorem laidOut : laidOutB Tryd.prog = true := by kernel_rfl

set_option maxRecDepth 100000 in
theorem nums_of {H : Type} {enc : TypeId × Value → H} {W : World} {v : Value} {d : DataW H} {ps : List MemPlace} {r : Reach} {b0 : Nat} (hval : Value.okWide Tryd.prog W r b0 34 v) (h : DataW.Trod enc Tryd.prog W 0 (fun _ => true) true 34 v d ps) :
    ∃ xs, Nums W v xs ∧ ∀ x ∈ xs, 0 ≤ x ∧ x ≤ 65535 := by
  obtain ⟨a0, l0, c0, rfl⟩ := Go.WideShapes.okWide_slice Tryd.underlying34 hval
  obtain ⟨fuel, h⟩ := h
  rcases open_ints Tryd.underlying34 Tryd.underlying22 cells22 h with ⟨hv, _⟩ | ⟨a, len, cap, zs, hv, _, hl, _, hz, _, hc, hw⟩
  · obtain ⟨rfl, rfl, rfl⟩ : a0 = none ∧ l0 = 0 ∧ c0 = 0 := by simpa [Value.cells] using hv
    exact ⟨[], ⟨none, 0, rfl, .inl rfl⟩, by simp⟩
  · obtain ⟨rfl, rfl, rfl⟩ : a0 = some a ∧ l0 = len ∧ c0 = cap := by simpa [Value.cells] using hv
    simp only [if_true] at hz
    refine ⟨zs.take l0, ⟨some a, c0, by simp; omega, ?_⟩, fun x hx => bounds_u16 (hw x (List.mem_of_mem_take hx))⟩
    by_cases h0 : l0 = 0
    · left; simp [h0]
    · right
      obtain ⟨b, off, rfl, hcell⟩ := ints_at hc (by omega)
      refine ⟨b, off, rfl, ?_, ?_⟩
      · have := hcell 0 (by omega)
        exact World.block_lt_of_cell? _ _ this
      · intro k x hx
        have hk := (List.getElem?_eq_some_iff.1 hx).1
        simp at hk
        rw [List.getElem?_take_of_lt (by omega)] at hx
        rw [hcell k (by omega)]
        simp [List.getD, hx]

/-- A list of truth values in memory. -/
def Bools (w : World) (v : Value) (bs : List Bool) : Prop :=
  ∃ p cap, v = .slice p bs.length cap ∧ (bs = [] ∨ ∃ g off, p = some ⟨g, off, none⟩ ∧ g < w.heap.size ∧ ∀ k x, bs[k]? = some x → w.cell? ⟨g, off + k, none⟩ = some (.bool x))
end Go.Proofs.YtdgfnlagbdmniaaDoor.Pl
