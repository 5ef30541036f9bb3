/- PoolSweeps, plainly; a list of truth values that came in. -/
import Derived.Test.YtdgfnlagbdmniaaDoorNQk
import Derived.Test.YtdgfnlagbdmniaaDoorNPz
import Derived.Test.YtdgfnlagbdmniaaDoorMb
namespace Go.Proofs.YtdgfnlagbdmniaaDoor.Pl
open Go.RowKit Go.ChangeShapes Go.Deep

set_option maxRecDepth 100000 in
theorem bools_of {H : Type} {enc : TypeId × Value → H} {W : World} {v : Value} {d : DataW H} {ps : List MemPlace} {r : Reach} {b0 : Nat} (hval : Value.okWide Tryd.prog W r b0 52 v) (h : DataW.Trod enc Tryd.prog W 0 (fun _ => true) true 52 v d ps) :
    ∃ bs, Bools W v bs := by
  obtain ⟨a0, l0, c0, rfl⟩ := Go.WideShapes.okWide_slice Tryd.underlying52 hval
  obtain ⟨fuel, h⟩ := h
  rcases open_bools Tryd.underlying52 Tryd.underlying4 cells4 h with ⟨hv, _⟩ | ⟨a, len, cap, Bf, hv, _, hl, _, _, hc⟩
  · obtain ⟨rfl, rfl, rfl⟩ : a0 = none ∧ l0 = 0 ∧ c0 = 0 := by simpa [Value.cells] using hv
    exact ⟨[], ⟨none, 0, rfl, .inl rfl⟩⟩
  · obtain ⟨rfl, rfl, rfl⟩ : a0 = some a ∧ l0 = len ∧ c0 = cap := by simpa [Value.cells] using hv
    refine ⟨(List.range l0).map Bf, ⟨some a, c0, by simp, ?_⟩⟩
    by_cases h0 : l0 = 0
    · left; simp [h0]
    · right
      have hp := hc 0 (by omega)
      obtain ⟨b, off, m⟩ := a
      cases m with
      | some x => exfalso; simp [World.cell?, Addr.add] at hp; split at hp <;> cases hp
      | none =>
        refine ⟨b, off, rfl, World.block_lt_of_cell? _ _ hp, fun k x hx => ?_⟩
        have hk := (List.getElem?_eq_some_iff.1 hx).1
        simp at hk
        have := hc k (by omega)
        rw [show (⟨b, off, none⟩ : Addr).add k = ⟨b, off + k, none⟩ from by simp [Addr.add]] at this
        rw [this]
        simp [hk] at hx
        rw [hx]

theorem bit_ex {t n : Nat} (h0 : t ≠ 0) (ht : t < 2 ^ n) : ∃ s, s < n ∧ t.testBit s = true := by
  obtain ⟨s, hs⟩ := Nat.exists_testBit_of_ne_zero h0
  refine ⟨s, ?_, hs⟩
  apply Nat.lt_of_not_le
  intro hle
  have : t.testBit s = false := Nat.testBit_lt_two_pow (Nat.lt_of_lt_of_le ht (Nat.pow_le_pow_right (by decide) hle))
  rw [this] at hs; cases hs

theorem empty_segs (L : List (List Chunk)) (hL : ∀ x ∈ L, IsSeg x) : ∀ i, objsL i L.flatten = [] → L.flatten = List.replicate L.flatten.length Chunk.zero := by
  induction L with
  | nil => intro i _; rfl
  | cons x L ih =>
    intro i he
    rw [List.flatten_cons, objsL_append] at he
    obtain ⟨e1, e2⟩ := List.append_eq_nil_iff.1 he
    have ih := ih (fun y hy => hL y (by simp [hy])) _ e2
    rcases hL x (by simp) with rfl | ⟨c, rfl, hc⟩ | ⟨size, many, m, h1, h2, h3, rfl⟩
    · rw [List.flatten_cons]
      simp only [List.singleton_append, List.length_cons, List.replicate_succ]
      rw [← ih]
    · exfalso
      rw [objsL_slots, seg_slots hc.what] at e1
      obtain ⟨s, hs, hb⟩ := bit_ex hc.pos hc.taken
      have := mem_slots.2 ⟨hs, hb⟩
      rw [List.map_eq_nil_iff] at e1
      rw [e1] at this; cases this
    · exfalso
      rw [objsL_large] at e1; cases e1

/-- A pool without objects has free chunks alone. -/
theorem empty_zero {cs : List Chunk} (h : Good cs) (he : objs cs = []) : cs = List.replicate cs.length Chunk.zero := by
  obtain ⟨L, rfl, hL⟩ := h
  rw [objs_eq] at he
  exact empty_segs L hL 0 he

/-- PoolSweeps' first loop: the first k objects have got their marks. -/
structure Marks (l : List PObj) (k : Nat) (l' : List PObj) : Prop where
  len : l'.length = l.length
  rest : l'.drop k = l.drop k
theorem Marks.zero (l : List PObj) : Marks l 0 l := ⟨rfl, rfl⟩
theorem Marks.get {l l' : List PObj} {k : Nat} (h : Marks l k l') {o : PObj} (ho : l[k]? = some o) : l'[k]? = some o := by
  have : (l'.drop k)[0]? = (l.drop k)[0]? := by rw [h.rest]
  simpa [List.getElem?_drop, ho] using this
theorem Marks.skip {l l' : List PObj} {k : Nat} (h : Marks l k l') : Marks l (k + 1) l' := ⟨h.len, by rw [← List.drop_drop, h.rest, List.drop_drop]⟩
theorem Marks.mark {l l' m : List PObj} {k : Nat} (h : Marks l k l') {A B : List PObj} {o p : PObj} (e1 : l' = A ++ o :: B) (e2 : m = A ++ p :: B) (hA : A.length = k) : Marks l (k + 1) m ∧ m.take k = l'.take k ∧ m[k]? = some p := by
  subst hA
  have hd : ∀ q : PObj, (A ++ q :: B).drop (A.length + 1) = B := fun q => by simp
  refine ⟨⟨by rw [e2, ← h.len, e1]; simp, ?_⟩, by rw [e1, e2]; simp, by rw [e2]; simp⟩
  have := congrArg (List.drop 1) h.rest
  rw [List.drop_drop, List.drop_drop, e1, hd] at this
  rw [e2, hd, ← this]
theorem kept_snoc {l : List PObj} {k : Nat} {o : PObj} (h : l[k]? = some o) (hm : o.marked = true) : kept (l.take (k + 1)) = kept (l.take k) ++ [unmark o] := by
  rw [List.take_add_one, h]; simp [kept, hm]
theorem kept_same {l : List PObj} {k : Nat} {o : PObj} (h : l[k]? = some o) (hm : o.marked = false) : kept (l.take (k + 1)) = kept (l.take k) := by
  rw [List.take_add_one, h]; simp [kept, hm]
end Go.Proofs.YtdgfnlagbdmniaaDoor.Pl
