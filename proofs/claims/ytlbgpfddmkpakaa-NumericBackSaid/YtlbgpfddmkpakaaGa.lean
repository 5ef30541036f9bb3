/- Numeric: rows that came in. -/
import Derived.Test.YtlbgpfddmkpakaaFa
import Derived.ProofKit
import Derived.OpenShut
import Derived.Carry
import Derived.Deep.Grids
import Derived.Deep.SlicePairs
namespace Go.Proofs.Ytlbgpfddmkpakaa.Nu
open Go.RowKit Go.ChangeShapes
set_option linter.unusedVariables false
set_option linter.unusedSimpArgs false

theorem laidOut : laidOutB Try.prog = true := by kernel_rfl
theorem cells55 : Try.prog.cellsOf 55 = 2 := by kernel_rfl
theorem cells24 : Try.prog.cellsOf 24 = 1 := by kernel_rfl
theorem und55 : Try.prog.underlying 55 = some (.array 2 24) := by kernel_rfl
theorem und24 : Try.prog.underlying 24 = some (.int .u32) := by kernel_rfl
theorem und37 : Try.prog.underlying 37 = some (.slice 55) := by kernel_rfl
theorem nat_u32 {z : Int} (h : (Lit.int .u32 z).wf = true) : ∃ n : Nat, z = (n : Int) ∧ n < 2 ^ 32 := by
  have : 0 ≤ z ∧ z < 4294967296 := by
    have h1 : IntKind.u32.min = 0 := by kernel_rfl
    have h2 : IntKind.u32.max = 4294967295 := by kernel_rfl
    simp [Lit.wf] at h
    rw [h1, h2] at h
    omega
  exact ⟨z.toNat, by omega, by omega⟩

set_option maxRecDepth 100000 in
theorem words_of {H : Type} {enc : TypeId × Value → H} {W : World} {v : Value} {d : DataW H} {ps : List MemPlace} {r : Reach} {b0 : Nat} (hval : Value.okWide Try.prog W r b0 38 v) (h : DataW.Trod enc Try.prog W 0 (fun _ => true) true 38 v d ps) :
    ∃ xs, Row32 W v xs ∧ ∀ x ∈ xs, x < 2 ^ 32 := by
  obtain ⟨a0, l0, c0, rfl⟩ := Go.WideShapes.okWide_slice und38 hval
  obtain ⟨fuel, h⟩ := h
  rcases Go.Deep.open_slice und38 h with ⟨hv, _⟩ | ⟨a, len, cap, m, n, D, Pl, hv, hb, hl, hm, hmm, _, hx⟩
  · obtain ⟨rfl, rfl, rfl⟩ : a0 = none ∧ l0 = 0 ∧ c0 = 0 := by simpa [Value.cells] using hv
    exact ⟨[], ⟨none, 0, rfl, Nat.le_refl _, .inl rfl⟩, by simp⟩
  · obtain ⟨rfl, rfl, rfl⟩ : a0 = some a ∧ l0 = len ∧ c0 = cap := by simpa [Value.cells] using hv
    have hlm : l0 ≤ m := by rw [hmm]; split <;> omega
    have each : ∀ i, i < l0 → ∃ x : Nat, W.cell? (a.add i) = some (.int .u32 x) ∧ x < 2 ^ 32 := by
      intro i hi
      obtain ⟨cs', h1, h2⟩ := hx i (by omega)
      rw [cells24] at h1
      obtain ⟨_, hlen, hcell⟩ := World.cells?_some h1
      obtain ⟨z, q0, _, w0⟩ := DataW.trod_int und24 h2
      have e0 := hcell 0 (by omega)
      rw [q0] at e0
      obtain ⟨x, rfl, hxx⟩ := nat_u32 w0
      refine ⟨x, ?_, hxx⟩
      simpa [Addr.add] using e0
    obtain ⟨q, hq⟩ := Go.Deep.choose_lt each
    refine ⟨(List.range l0).map q, ⟨some a, c0, by simp, by simp; exact hl, ?_⟩, ?_⟩
    · by_cases h0 : l0 = 0
      · left; simp [h0]
      · right
        have hp := (hq 0 (by omega)).1
        obtain ⟨b, off, mm⟩ := a
        cases mm with
        | some x => exfalso; simp [World.cell?, Addr.add] at hp; split at hp <;> cases hp
        | none =>
          refine ⟨b, off, rfl, World.block_lt_of_cell? _ _ hp, fun k x hx => ?_⟩
          have hk := (List.getElem?_eq_some_iff.1 hx).1
          simp at hk
          simp [hk] at hx
          subst hx
          have g0 := (hq k hk).1
          rw [show (⟨b, off, none⟩ : Addr).add k = ⟨b, off + k, none⟩ from by simp [Addr.add]] at g0
          exact g0
    · intro x hx
      obtain ⟨i, hi, rfl⟩ := List.mem_map.1 hx
      exact (hq i (List.mem_range.1 hi)).2
set_option maxRecDepth 100000 in
theorem pairs_of {H : Type} {enc : TypeId × Value → H} {W : World} {v : Value} {d : DataW H} {ps : List MemPlace} {r : Reach} {b0 : Nat} (hval : Value.okWide Try.prog W r b0 37 v) (h : DataW.Trod enc Try.prog W 0 (fun _ => true) true 37 v d ps) :
    ∃ xs, Row W v xs ∧ ∀ x ∈ xs, x.1 < 2 ^ 32 ∧ x.2 < 2 ^ 32 := by
  obtain ⟨a0, l0, c0, rfl⟩ := Go.WideShapes.okWide_slice und37 hval
  obtain ⟨fuel, h⟩ := h
  rcases Go.Deep.open_slice und37 h with ⟨hv, _⟩ | ⟨a, len, cap, m, n, D, Pl, hv, hb, hl, hm, hmm, _, hx⟩
  · obtain ⟨rfl, rfl, rfl⟩ : a0 = none ∧ l0 = 0 ∧ c0 = 0 := by simpa [Value.cells] using hv
    exact ⟨[], ⟨none, 0, rfl, Nat.le_refl _, .inl rfl⟩, by simp⟩
  · obtain ⟨rfl, rfl, rfl⟩ : a0 = some a ∧ l0 = len ∧ c0 = cap := by simpa [Value.cells] using hv
    have hlm : l0 ≤ m := by rw [hmm]; split <;> omega
    have each : ∀ i, i < l0 → ∃ x : Nat × Nat, W.cell? (a.add (i * 2)) = some (.int .u32 x.1) ∧ W.cell? (a.add (i * 2 + 1)) = some (.int .u32 x.2) ∧ x.1 < 2 ^ 32 ∧ x.2 < 2 ^ 32 := by
      intro i hi
      obtain ⟨cs', h1, h2⟩ := hx i (by omega)
      rw [cells55] at h1
      obtain ⟨_, hlen, hcell⟩ := World.cells?_some h1
      obtain ⟨xs, k, hk, hxy, _, hxl, hf⟩ := DataW.trod_array und55 h2
      match xs, hxl, cs', hlen with
      | [y0, y1], _, [v0, v1], _ =>
        have g0 := hf 0 (by omega)
        have g1 := hf 1 (by omega)
        simp [cells24] at g0 g1
        have e0 := hcell 0 (by omega)
        have e1 := hcell 1 (by omega)
        rw [Go.Deep.add_add] at e0 e1
        obtain ⟨z0, q0, _, w0⟩ := DataW.trod_int und24 g0
        obtain ⟨z1, q1, _, w1⟩ := DataW.trod_int und24 g1
        simp at q0 q1
        subst q0 q1
        obtain ⟨n0, rfl, b0⟩ := nat_u32 w0
        obtain ⟨n1, rfl, b1⟩ := nat_u32 w1
        exact ⟨(n0, n1), by simpa using e0, by simpa using e1, b0, b1⟩
    obtain ⟨q, hq⟩ := Go.Deep.choose_lt each
    refine ⟨(List.range l0).map q, ⟨some a, c0, by simp, by simp; exact hl, ?_⟩, ?_⟩
    · by_cases h0 : l0 = 0
      · left; simp [h0]
      · right
        have hp := (hq 0 (by omega)).1
        obtain ⟨b, off, mm⟩ := a
        cases mm with
        | some x => exfalso; simp [World.cell?, Addr.add] at hp; split at hp <;> cases hp
        | none =>
          refine ⟨b, off, rfl, World.block_lt_of_cell? _ _ hp, fun k x hx => ?_⟩
          have hk := (List.getElem?_eq_some_iff.1 hx).1
          simp at hk
          simp [hk] at hx
          subst hx
          obtain ⟨g0, g1, _⟩ := hq k hk
          rw [show (⟨b, off, none⟩ : Addr).add (k * 2) = ⟨b, off + k * 2, none⟩ from by simp [Addr.add]] at g0
          rw [show (⟨b, off, none⟩ : Addr).add (k * 2 + 1) = ⟨b, off + k * 2 + 1, none⟩ from by simp [Addr.add, Nat.add_assoc]] at g1
          exact ⟨g0, g1⟩
    · intro x hx
      obtain ⟨i, hi, rfl⟩ := List.mem_map.1 hx
      exact (hq i (List.mem_range.1 hi)).2.2
end Go.Proofs.Ytlbgpfddmkpakaa.Nu
