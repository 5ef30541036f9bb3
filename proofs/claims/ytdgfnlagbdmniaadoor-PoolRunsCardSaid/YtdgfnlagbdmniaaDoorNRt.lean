/- PoolRuns: the acts that came in; the law. -/
import Derived.Test.YtdgfnlagbdmniaaDoorMg
import Derived.Deep.SlicePairs
namespace Go.Proofs.YtdgfnlagbdmniaaDoor.Pl
open Go.RowKit Go.ChangeShapes

theorem cells61 : Tryd.prog.cellsOf 61 = 2 := by kernel_rfl
theorem cells3 : Tryd.prog.cellsOf 3 = 1 := by kernel_rfl
theorem cells5' : Tryd.prog.cellsOf 5 = 1 := by kernel_rfl

set_option maxRecDepth 100000 in
theorem acts_of {H : Type} {enc : TypeId × Value → H} {W : World} {v : Value} {d : DataW H} {ps : List MemPlace} {r : Reach} {b0 : Nat} (hval : Value.okWide Tryd.prog W r b0 54 v) (h : DataW.Trod enc Tryd.prog W 0 (fun _ => true) true 54 v d ps) :
    ∃ l, ActS W v l ∧ ∀ x ∈ l, 0 ≤ x.1 := by
  obtain ⟨a0, l0, c0, rfl⟩ := Go.WideShapes.okWide_slice Tryd.underlying54 hval
  obtain ⟨fuel, h⟩ := h
  rcases Go.Deep.open_slice_pairs Tryd.underlying54 Tryd.underlying61 cells61 rfl rfl cells5' cells3 h with ⟨hv, _⟩ | ⟨a, len, cap, m, n, V0, V1, D0, D1, P0, P1, hv, _, hl, _, hm, _, hc⟩
  · obtain ⟨rfl, rfl, rfl⟩ : a0 = none ∧ l0 = 0 ∧ c0 = 0 := by simpa [Value.cells] using hv
    exact ⟨[], ⟨none, 0, rfl, .inl rfl⟩, by simp⟩
  · obtain ⟨rfl, rfl, rfl⟩ : a0 = some a ∧ l0 = len ∧ c0 = cap := by simpa [Value.cells] using hv
    simp only [if_true] at hm
    have each : ∀ i, i < l0 → ∃ x : Int × Int, V0 i = .int .u8 x.1 ∧ V1 i = .int .i64 x.2 ∧ 0 ≤ x.1 := by
      intro i hi
      obtain ⟨_, _, h0, h1⟩ := hc i (by omega)
      obtain ⟨y0, e0, _, w0⟩ := DataW.trod_int Tryd.underlying5 h0
      obtain ⟨y1, e1, _, _⟩ := DataW.trod_int Tryd.underlying3 h1
      exact ⟨(y0, y1), by simpa using e0, by simpa using e1, (bounds_u8 w0).1⟩
    obtain ⟨q, hq⟩ := Go.Deep.choose_lt each
    refine ⟨(List.range l0).map q, ⟨some a, c0, by simp, ?_⟩, ?_⟩
    · by_cases h0 : l0 = 0
      · left; simp [h0]
      · right
        have hp := (hc 0 (by omega)).1
        obtain ⟨b, off, mm⟩ := a
        cases mm with
        | some x => exfalso; simp [World.cell?, Addr.add] at hp; split at hp <;> cases hp
        | none =>
          refine ⟨b, off, rfl, World.block_lt_of_cell? _ _ hp, fun k x hx => ?_⟩
          have hk := (List.getElem?_eq_some_iff.1 hx).1
          simp at hk
          simp [hk] at hx
          subst hx
          obtain ⟨g0, g1, _, _⟩ := hc k (by omega)
          obtain ⟨e0, e1, _⟩ := hq k hk
          rw [show (⟨b, off, none⟩ : Addr).add (k * 2) = ⟨b, off + k * 2, none⟩ from by simp [Addr.add], e0] at g0
          rw [show (⟨b, off, none⟩ : Addr).add (k * 2 + 1) = ⟨b, off + k * 2 + 1, none⟩ from by simp [Addr.add, Nat.add_assoc], e1] at g1
          exact ⟨g0, g1⟩
    · intro x hx
      obtain ⟨i, hi, rfl⟩ := List.mem_map.1 hx
      exact (hq i (List.mem_range.1 hi)).2.2

theorem runs_law (c : Int) (_hc : (Lit.int .i64 c).wf = true) (v : Value) (l : List (Int × Int)) (w : World) (hN : ActS w v l) (hx : ∀ x ∈ l, 0 ≤ x.1) (hT : Tab w) :
    Calls Tryd.prog 8 #[.int .i64 c, v] w fun e w' => e = .returned (.bool true) ∧ Below w.heap.size w w' := runs_walk c v l w hT hN hx
end Go.Proofs.YtdgfnlagbdmniaaDoor.Pl
