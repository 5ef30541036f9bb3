/- MailboxOrder: the operations that came in; the law. -/
import Derived.Test.YtgbafpjeapkklaaNg
import Derived.Test.YtgbafpjeapkklaaMu
import Derived.Deep.SlicePairs
namespace Go.Proofs.Ytgbafpjeapkklaa.Mb
open Go.RowKit Go.ChangeShapes
set_option linter.unusedVariables false
set_option linter.unusedSimpArgs false

theorem cells51 : Try.prog.cellsOf 51 = 3 := by kernel_rfl
theorem cells49 : Try.prog.cellsOf 49 = 1 := by kernel_rfl

set_option maxRecDepth 100000 in
theorem ops_of {H : Type} {enc : TypeId × Value → H} {W : World} {v : Value} {d : DataW H} {ps : List MemPlace} {r : Reach} {b0 : Nat} (hval : Value.okWide Try.prog W r b0 42 v) (h : DataW.Trod enc Try.prog W 0 (fun _ => true) true 42 v d ps) :
    ∃ l, OpsS W v l ∧ ∀ x ∈ l, (-128 ≤ x.1 ∧ x.1 ≤ 127) ∧ (-128 ≤ x.2.1 ∧ x.2.1 ≤ 127) ∧ (-128 ≤ x.2.2 ∧ x.2.2 ≤ 127) := by
  obtain ⟨a0, l0, c0, rfl⟩ := Go.WideShapes.okWide_slice Try.underlying42 hval
  obtain ⟨fuel, h⟩ := h
  rcases Go.Deep.open_slice Try.underlying42 h with ⟨hv, _⟩ | ⟨a, len, cap, m, n, D, Pl, hv, hb, hl, hm, hmm, _, hx⟩
  · obtain ⟨rfl, rfl, rfl⟩ : a0 = none ∧ l0 = 0 ∧ c0 = 0 := by simpa [Value.cells] using hv
    exact ⟨[], ⟨none, 0, rfl, .inl rfl⟩, by simp⟩
  · obtain ⟨rfl, rfl, rfl⟩ : a0 = some a ∧ l0 = len ∧ c0 = cap := by simpa [Value.cells] using hv
    have hlm : l0 ≤ m := by rw [hmm]; split <;> omega
    have each : ∀ i, i < l0 → ∃ x : Int × Int × Int, W.cell? (a.add (i * 3)) = some (.int .i8 x.1) ∧ W.cell? (a.add (i * 3 + 1)) = some (.int .i8 x.2.1) ∧ W.cell? (a.add (i * 3 + 2)) = some (.int .i8 x.2.2) ∧
        (-128 ≤ x.1 ∧ x.1 ≤ 127) ∧ (-128 ≤ x.2.1 ∧ x.2.1 ≤ 127) ∧ (-128 ≤ x.2.2 ∧ x.2.2 ≤ 127) := by
      intro i hi
      obtain ⟨cs', h1, h2⟩ := hx i (by omega)
      rw [cells51] at h1
      obtain ⟨_, hlen, hcell⟩ := World.cells?_some h1
      obtain ⟨xs, k, hk, hxy, _, hxl, hf⟩ := DataW.trod_struct Try.underlying51 h2
      match xs, hxl, cs', hlen with
      | [y0, y1, y2], _, [v0, v1, v2], _ =>
        have g0 := hf 0 _ rfl
        have g1 := hf 1 _ rfl
        have g2 := hf 2 _ rfl
        simp [cells49] at g0 g1 g2
        have e0 := hcell 0 (by omega)
        have e1 := hcell 1 (by omega)
        have e2 := hcell 2 (by omega)
        rw [Go.Deep.add_add] at e0 e1 e2
        obtain ⟨z0, q0, _, w0⟩ := DataW.trod_int Try.underlying49 g0
        obtain ⟨z1, q1, _, w1⟩ := DataW.trod_int Try.underlying49 g1
        obtain ⟨z2, q2, _, w2⟩ := DataW.trod_int Try.underlying49 g2
        simp at q0 q1 q2
        subst q0 q1 q2
        exact ⟨(z0, z1, z2), by simpa using e0, by simpa using e1, by simpa using e2, bounds_i8 w0, bounds_i8 w1, bounds_i8 w2⟩
    obtain ⟨q, hq⟩ := Go.Deep.choose_lt each
    refine ⟨(List.range l0).map q, ⟨some a, c0, by simp, ?_⟩, ?_⟩
    · by_cases h0 : l0 = 0
      · left; simp [h0]
      · right
        have hp := (hq 0 (by omega)).1
        obtain ⟨b, off, mm⟩ := a
        cases mm with
        | some x => exfalso; simp [World.cell?, Addr.add] at hp; split at hp <;> cases hp
        | none =>
          refine ⟨b, off, rfl, World.block_lt_of_cell? _ _ hp, fun k x hx => ?_⟩
          have hk := (List.getElem?_eq_some_iff.1 hx).1
          simp at hk
          simp [hk] at hx
          subst hx
          obtain ⟨g0, g1, g2, _⟩ := hq k hk
          rw [show (⟨b, off, none⟩ : Addr).add (k * 3) = ⟨b, off + k * 3, none⟩ from by simp [Addr.add]] at g0
          rw [show (⟨b, off, none⟩ : Addr).add (k * 3 + 1) = ⟨b, off + k * 3 + 1, none⟩ from by simp [Addr.add, Nat.add_assoc]] at g1
          rw [show (⟨b, off, none⟩ : Addr).add (k * 3 + 2) = ⟨b, off + k * 3 + 2, none⟩ from by simp [Addr.add, Nat.add_assoc]] at g2
          exact ⟨g0, g1, g2⟩
    · intro x hx
      obtain ⟨i, hi, rfl⟩ := List.mem_map.1 hx
      exact (hq i (List.mem_range.1 hi)).2.2.2
end Go.Proofs.Ytgbafpjeapkklaa.Mb
