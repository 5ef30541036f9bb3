/- Lists of numbers that came in; MailboxProgress' law. -/
import Derived.Test.YtgbafpjeapkklaaMt
import Derived.ProofKit
import Derived.OpenShut
import Derived.Carry
import Derived.Deep.Grids
namespace Go.Proofs.Ytgbafpjeapkklaa.Mb
open Go.RowKit Go.ChangeShapes
set_option linter.unusedVariables false
set_option linter.unusedSimpArgs false

theorem laidOut : laidOutB Try.prog = true := by kernel_rfl
theorem cells31 : Try.prog.cellsOf 31 = 1 := by kernel_rfl
theorem cells5 : Try.prog.cellsOf 5 = 1 := by kernel_rfl

set_option maxRecDepth 100000 in
theorem nums16_of {H : Type} {enc : TypeId × Value → H} {W : World} {v : Value} {d : DataW H} {ps : List MemPlace} {r : Reach} {b0 : Nat} (hval : Value.okWide Try.prog W r b0 22 v) (h : DataW.Trod enc Try.prog W 0 (fun _ => true) true 22 v d ps) :
    ∃ xs, NumK W .i16 v xs ∧ ∀ x ∈ xs, -32768 ≤ x ∧ x ≤ 32767 := by
  obtain ⟨a0, l0, c0, rfl⟩ := Go.WideShapes.okWide_slice Try.underlying22 hval
  obtain ⟨fuel, h⟩ := h
  rcases open_ints Try.underlying22 Try.underlying31 cells31 h with ⟨hv, _⟩ | ⟨a, len, cap, zs, hv, _, hl, _, hz, _, hc, hw⟩
  · obtain ⟨rfl, rfl, rfl⟩ : a0 = none ∧ l0 = 0 ∧ c0 = 0 := by simpa [Value.cells] using hv
    exact ⟨[], ⟨none, 0, rfl, .inl rfl⟩, by simp⟩
  · obtain ⟨rfl, rfl, rfl⟩ : a0 = some a ∧ l0 = len ∧ c0 = cap := by simpa [Value.cells] using hv
    simp only [if_true] at hz
    refine ⟨zs.take l0, ⟨some a, c0, by simp; omega, ?_⟩, fun x hx => bounds_i16 (hw x (List.mem_of_mem_take hx))⟩
    by_cases h0 : l0 = 0
    · left; simp [h0]
    · right
      obtain ⟨b, off, rfl, hcell⟩ := ints_at hc (by omega)
      refine ⟨b, off, rfl, ?_, ?_⟩
      · have := hcell 0 (by omega)
        exact World.block_lt_of_cell? _ _ this
      · intro k x hx
        have hk := (List.getElem?_eq_some_iff.1 hx).1
        simp at hk
        rw [List.getElem?_take_of_lt (by omega)] at hx
        rw [hcell k (by omega)]
        simp [List.getD, hx]
set_option maxRecDepth 100000 in
theorem nums8_of {H : Type} {enc : TypeId × Value → H} {W : World} {v : Value} {d : DataW H} {ps : List MemPlace} {r : Reach} {b0 : Nat} (hval : Value.okWide Try.prog W r b0 23 v) (h : DataW.Trod enc Try.prog W 0 (fun _ => true) true 23 v d ps) :
    ∃ xs, NumK W .u8 v xs ∧ ∀ x ∈ xs, 0 ≤ x ∧ x ≤ 255 := by
  obtain ⟨a0, l0, c0, rfl⟩ := Go.WideShapes.okWide_slice Try.underlying23 hval
  obtain ⟨fuel, h⟩ := h
  rcases open_ints Try.underlying23 Try.underlying5 cells5 h with ⟨hv, _⟩ | ⟨a, len, cap, zs, hv, _, hl, _, hz, _, hc, hw⟩
  · obtain ⟨rfl, rfl, rfl⟩ : a0 = none ∧ l0 = 0 ∧ c0 = 0 := by simpa [Value.cells] using hv
    exact ⟨[], ⟨none, 0, rfl, .inl rfl⟩, by simp⟩
  · obtain ⟨rfl, rfl, rfl⟩ : a0 = some a ∧ l0 = len ∧ c0 = cap := by simpa [Value.cells] using hv
    simp only [if_true] at hz
    refine ⟨zs.take l0, ⟨some a, c0, by simp; omega, ?_⟩, fun x hx => bounds_u8 (hw x (List.mem_of_mem_take hx))⟩
    by_cases h0 : l0 = 0
    · left; simp [h0]
    · right
      obtain ⟨b, off, rfl, hcell⟩ := ints_at hc (by omega)
      refine ⟨b, off, rfl, ?_, ?_⟩
      · have := hcell 0 (by omega)
        exact World.block_lt_of_cell? _ _ this
      · intro k x hx
        have hk := (List.getElem?_eq_some_iff.1 hx).1
        simp at hk
        rw [List.getElem?_take_of_lt (by omega)] at hx
        rw [hcell k (by omega)]
        simp [List.getD, hx]
theorem law_progress (v0 : Value) (xs0 : List Int) (v1 : Value) (xs1 : List Int) (w : World) (h0 : NumK w .i16 v0 xs0) (b0 : ∀ x ∈ xs0, -32768 ≤ x ∧ x ≤ 32767) (h1 : NumK w .u8 v1 xs1) (b1 : ∀ x ∈ xs1, 0 ≤ x ∧ x ≤ 255) :
    Calls Try.prog 3 #[v0, v1] w fun e w' => e = .returned (.bool true) ∧ Below w.heap.size w w' := progress_walk v0 v1 xs0 xs1 w h0 h1 b0 b1
end Go.Proofs.Ytgbafpjeapkklaa.Mb
