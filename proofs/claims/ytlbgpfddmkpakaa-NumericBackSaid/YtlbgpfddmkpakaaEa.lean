/- Numeric: the map of factors; a row of one's own that is written. -/
import Derived.Test.YtlbgpfddmkpakaaDe
import Derived.MapKept
namespace Go.Proofs.Ytlbgpfddmkpakaa.Nu
open Go.RowKit Go.MapKept
set_option linter.unusedVariables false
set_option linter.unusedSimpArgs false

/-- A map in memory. -/
def MapI (w : World) (r : Nat) (l : List (Int × Value)) : Prop :=
  ∃ es clock, w.heap[r]? = some (.map es clock) ∧ es.toList.map (fun e => (e.key, e.val)) = l.map fun x => (Value.int .i64 x.1, x.2)

theorem find_now (k : Int) : ∀ (es : List MapEntry) (l : List (Int × Value)) (i : Nat), es.map (fun e => (e.key, e.val)) = l.map (fun x => (Value.int .i64 x.1, x.2)) →
    ∃ j, Instr.findNow (.int .i64) (.int .i64 k) es i = some (match l.find? (fun x => x.1 == k) with | some x => some (j, x.2) | none => none) := by
  intro es
  induction es with
  | nil =>
    intro l i h
    cases l with
    | nil => exact ⟨0, rfl⟩
    | cons x l => cases h
  | cons e es ih =>
    intro l i h
    cases l with
    | nil => cases h
    | cons x l =>
      simp only [List.map_cons, List.cons.injEq, Prod.mk.injEq] at h
      obtain ⟨⟨h1, h2⟩, h3⟩ := h
      by_cases hk : x.1 = k
      · refine ⟨i, ?_⟩
        simp [Instr.findNow, Instr.sameNow, h1, hk, h2]
      · obtain ⟨j, hj⟩ := ih l (i + 1) h3
        refine ⟨j, ?_⟩
        have hk' : (k == x.1) = false := by simpa using fun e => hk e.symm
        have hk2 : (x.1 == k) = false := by simpa using hk
        simp only [Instr.findNow, Instr.sameNow, h1, if_true, hk', List.find?_cons, hk2]
        exact hj

theorem look {w : World} {r : Nat} {l : List (Int × Value)} (h : MapI w r l) (t e : TypeId) (z : Value) (ht : Try.prog.underlying t = some (.map 3 e)) (hz : (zeroValue e).run Try.prog w = .ok z w) (k : Int) :
    (Instr.lookup t (.map (some r)) (.int .i64 k) true).run Try.prog w = .ok (.tuple #[(match l.find? (fun x => x.1 == k) with | some x => x.2 | none => z), .bool (l.find? fun x => x.1 == k).isSome]) w := by
  obtain ⟨es, clock, h1, h2⟩ := h
  obtain ⟨j, hj⟩ := find_now k es.toList l 0 h2
  have h3 : Try.prog.underlying 3 = some (.int .i64) := Try.underlying3
  have hck : ∀ b, (Instr.checkKey b 10000 3 (.int .i64 k)).run Try.prog w = .ok () w := fun b => run_checkKey (w := w) (k := .int .i64 k) h3 (by simp [IsKey]) b 9999
  have hgo : (getObj r).run Try.prog w = .ok (.map es clock) w := by simp [getObj, Sem.run, h1]
  have hfk := run_findKey (P := Try.prog) (w := w) h3 hj
  unfold Instr.lookup
  cases hf : l.find? (fun x => x.1 == k) with
  | none =>
    rw [hf] at hfk
    simp [run_underlying ht, Result.andThen, hgo, hck, hfk, hz]
  | some x =>
    rw [hf] at hfk
    simp [run_underlying ht, Result.andThen, hgo, hck, hfk, hz]

/-- A new key is put in. -/
theorem put_new {w : World} {r : Nat} {l : List (Int × Value)} (h : MapI w r l) (t e : TypeId) (ht : Try.prog.underlying t = some (.map 3 e)) (k : Int) (v : Value) (hn : l.find? (fun x => x.1 == k) = none) :
    ∃ w', (Instr.mapUpdate t (.map (some r)) (.int .i64 k) v).run Try.prog w = .ok () w' ∧ MapI w' r (l ++ [(k, v)]) ∧ w'.heap.size = w.heap.size ∧ w'.os = w.os ∧ w'.tape = w.tape ∧ w'.output = w.output ∧ ∀ g, g ≠ r → w'.heap[g]? = w.heap[g]? := by
  obtain ⟨es, clock, h1, h2⟩ := h
  obtain ⟨j, hj⟩ := find_now k es.toList l 0 h2
  rw [hn] at hj
  have h3 : Try.prog.underlying 3 = some (.int .i64) := Try.underlying3
  have hck : ∀ b, (Instr.checkKey b 10000 3 (.int .i64 k)).run Try.prog w = .ok () w := fun b => run_checkKey (w := w) (k := .int .i64 k) h3 (by simp [IsKey]) b 9999
  have hgo : (getObj r).run Try.prog w = .ok (.map es clock) w := by simp [getObj, Sem.run, h1]
  have hfk := run_findKey (P := Try.prog) (w := w) h3 hj
  have hso : ∀ o : Obj, (∃ es c, o = .map es c) → (setObj r o).run Try.prog w = .ok () { w with heap := w.heap.setIfInBounds r o } := by
    rintro o ⟨es', c, rfl⟩
    simp [setObj, Sem.run, h1]
  obtain ⟨g1, g2⟩ := heap_set (o' := .map (es.push { key := .int .i64 k, val := v, born := clock }) (clock + 1)) h1
  refine ⟨{ w with heap := w.heap.setIfInBounds r (.map (es.push { key := .int .i64 k, val := v, born := clock }) (clock + 1)) }, ?_, ⟨_, _, g1, ?_⟩, by simp, rfl, rfl, rfl, g2⟩
  · unfold Instr.mapUpdate
    simp [run_underlying ht, Result.andThen, hgo, hck, hfk]
    exact hso _ ⟨_, _, rfl⟩
  · simp [h2]

theorem zero39 (w : World) : (zeroValue 39).run Try.prog w = .ok (.slice none 0 0) w := by kernel_rfl
theorem und88 : Try.prog.underlying 88 = some (.map 3 39) := by kernel_rfl
theorem mk_map (t : TypeId) (w : World) : (Instr.makeMap t none).run Try.prog w = .ok (.map (some w.heap.size)) (w.alloc (.map #[] 0)) := by
  simp [Instr.makeMap, Result.andThen]
theorem cell_map {w : World} {r : Nat} {es : Array MapEntry} {c : Nat} (h : w.heap[r]? = some (.map es c)) (o : Nat) : w.cell? ⟨r, o, none⟩ = none := by
  simp [World.cell?, h]
/-- The factors of a count. -/
abbrev twL (n : Nat) : List (Nat × Nat) := upto (tw (wOf n)) n
/-- A map of factors. -/
def FMap (W : World) (r : Nat) : Prop :=
  ∃ l : List (Int × Value), MapI W r l ∧ ∀ x ∈ l, ∃ n : Nat, x.1 = (n : Int) ∧ (n : Int) ∈ pts ∧ Row W x.2 (twL n)
theorem Row.grown {w w' : World} {r : Nat} {v : Value} {l : List (Nat × Nat)} (h : Row w v l) (hm : ∃ es c, w.heap[r]? = some (.map es c)) (hg : w.grownBy w' (some r)) : Row w' v l := by
  obtain ⟨p, cap, rfl, hc, h⟩ := h
  refine ⟨p, cap, rfl, hc, ?_⟩
  rcases h with h | ⟨g, off, rfl, h2, h3⟩
  · exact .inl h
  · cases l with
    | nil => exact .inl rfl
    | cons x l =>
      have hne : g ≠ r := by
        rintro rfl
        obtain ⟨es, c, hm⟩ := hm
        have := (h3 0 x rfl).1
        rw [cell_map hm] at this
        cases this
      have hb : w'.heap[g]? = w.heap[g]? := hg.block g h2 (by simpa using hne)
      exact .inr ⟨g, off, rfl, Nat.lt_of_lt_of_le h2 hg.size, fun k y hy => ⟨(World.cell?_of_block hb).trans (h3 k y hy).1, (World.cell?_of_block hb).trans (h3 k y hy).2⟩⟩
theorem Below.toGrown {w w' : World} (h : Below w.heap.size w w') (row : Option Nat) : w.grownBy w' row := ⟨h.os, h.tape, h.output, h.size, fun k hk _ => h.block k hk⟩
theorem Grown.trans {w w1 w2 : World} {row : Option Nat} (h : w.grownBy w1 row) (h' : w1.grownBy w2 row) : w.grownBy w2 row :=
  ⟨h'.os.trans h.os, h'.tape.trans h.tape, h'.output.trans h.output, Nat.le_trans h.size h'.size, fun k hk hr => (h'.block k (Nat.lt_of_lt_of_le hk h.size) hr).trans (h.block k hk hr)⟩
theorem FMap.isMap {W : World} {r : Nat} (h : FMap W r) : ∃ es c, W.heap[r]? = some (.map es c) := by
  obtain ⟨l, ⟨es, c, h1, _⟩, _⟩ := h
  exact ⟨es, c, h1⟩
theorem FMap.step {W W' : World} {r : Nat} (h : FMap W r) (hb : Below W.heap.size W W') : FMap W' r := by
  obtain ⟨l, ⟨es, c, h1, h2⟩, h3⟩ := h
  refine ⟨l, ⟨es, c, (hb.block r (blk_lt h1)).trans h1, h2⟩, fun x hx => ?_⟩
  obtain ⟨n, a, b, hr⟩ := h3 x hx
  exact ⟨n, a, b, hr.below hb⟩
theorem FMap.made (w : World) : FMap (w.alloc (.map #[] 0)) w.heap.size :=
  ⟨[], ⟨#[], 0, (MapKept.heap_alloc _ _).1, rfl⟩, fun x hx => by cases hx⟩
/-- A count that is looked up. -/
theorem FMap.look {W : World} {r : Nat} (h : FMap W r) {n : Nat} (hp : (n : Int) ∈ pts) :
    (∃ v, Row W v (twL n) ∧ (Instr.lookup 88 (.map (some r)) (.int .i64 n) true).run Try.prog W = .ok (.tuple #[v, .bool true]) W) ∨
    ((Instr.lookup 88 (.map (some r)) (.int .i64 n) true).run Try.prog W = .ok (.tuple #[.slice none 0 0, .bool false]) W ∧
      ∀ (W1 : World) (v : Value), W.grownBy W1 none → Row W1 v (twL n) → ∃ W2, (Instr.mapUpdate 88 (.map (some r)) (.int .i64 n) v).run Try.prog W1 = .ok () W2 ∧ FMap W2 r ∧ W1.grownBy W2 (some r)) := by
  obtain ⟨l, hm, hl⟩ := h
  have hk := Nu.look hm 88 39 (.slice none 0 0) und88 (zero39 W) (n : Int)
  cases hf : l.find? (fun x => x.1 == (n : Int)) with
  | some x =>
    left
    obtain ⟨m, h1, h2, h3⟩ := hl x (List.mem_of_find?_eq_some hf)
    have h4 : x.1 = (n : Int) := by simpa using List.find?_some hf
    have e : m = n := by omega
    subst e
    rw [hf] at hk
    exact ⟨x.2, h3, hk⟩
  | none =>
    right
    rw [hf] at hk
    refine ⟨hk, fun W1 v hg hr => ?_⟩
    have hm1 : MapI W1 r l := by
      obtain ⟨es, c, h1, h2⟩ := hm
      exact ⟨es, c, (hg.block r (blk_lt h1) (by simp)).trans h1, h2⟩
    obtain ⟨W2, e1, e2, e3, e4, e5, e6, e7⟩ := put_new hm1 88 39 und88 (n : Int) v hf
    have hg2 : W1.grownBy W2 (some r) := ⟨e4, e5, e6, Nat.le_of_eq e3.symm, fun k hk hr => e7 k (fun e => hr (by rw [e]))⟩
    have hm1' : ∃ es c, W1.heap[r]? = some (.map es c) := by obtain ⟨es, c, h1, _⟩ := hm1; exact ⟨es, c, h1⟩
    refine ⟨W2, e1, ⟨_, e2, fun x hx => ?_⟩, hg2⟩
    rcases List.mem_append.1 hx with hx | hx
    · obtain ⟨m, a, b, c⟩ := hl x hx
      exact ⟨m, a, b, (c.below (w' := W1) ⟨hg.os, hg.tape, hg.output, hg.size, fun k hk => hg.block k hk (by simp)⟩).grown hm1' hg2⟩
    · rw [List.mem_singleton.1 hx]
      exact ⟨n, rfl, hp, hr.grown hm1' hg2⟩

/-! ### A row of one's own is written -/
theorem cellsN_set (L : List (Nat × Nat)) : ∀ (j : Nat) (p : Nat × Nat), cellsN (L.set j p) = ((cellsN L).set (j * 2) (.int .u32 p.1)).set (j * 2 + 1) (.int .u32 p.2) := by
  induction L with
  | nil => intro j p; rfl
  | cons x L ih =>
    intro j p
    cases j with
    | zero => rfl
    | succ j =>
      rw [List.set_cons_succ, cellsN_cons, ih j p, cellsN_cons, show (j + 1) * 2 = j * 2 + 2 by omega]
      rfl
theorem own_set {e : TypeId} {B : Nat} {W : World} {g n cap j : Nat} {L : List (Nat × Nat)} {p : Nat × Nat} (h : Own e B W (.slice (some ⟨g, 0, none⟩) n cap) L) (hj : j < L.length) :
    Own e B ((W.setCell ⟨g, j * 2, none⟩ (.int .u32 p.1)).setCell ⟨g, j * 2 + 1, none⟩ (.int .u32 p.2)) (.slice (some ⟨g, 0, none⟩) n cap) (L.set j p) := by
  refine ⟨by rw [cellsN_len], ?_⟩
  rcases h.2 with ⟨h0, _⟩ | ⟨g', cap', cur, h1, h2, h3, h4, h5, h6, h7⟩
  · cases h0
  · injection h1 with e1 e2 e3
    injection e1 with e1
    injection e1 with e1
    subst e1
    subst e3
    refine .inr ⟨g, cap, (cur.setIfInBounds (j * 2) (.int .u32 p.1)).setIfInBounds (j * 2 + 1) (.int .u32 p.2), by rw [List.length_set, e2], h2, blk_set (blk_set h3 _ _) _ _, by rw [List.length_set]; exact h4, h5, by simp [h6], ?_⟩
    rw [List.length_set, Array.toList_setIfInBounds, Array.toList_setIfInBounds, List.take_set, List.take_set, h7, cellsN_set]
section
variable {e : TypeId} {W0 : World} {v : Value} {ys : List (Nat × Nat)} {fr : List (Nat × Nat × Nat)} {W W' : World}
theorem TN.set {g n cap j : Nat} {L : List (Nat × Nat)} {a b : Nat} (h : TN e W0 (.slice (some ⟨g, 0, none⟩) n cap) L v ys fr W) (hj : j < L.length)
    (hW : W' = (W.setCell ⟨g, j * 2, none⟩ (.int .u32 a)).setCell ⟨g, j * 2 + 1, none⟩ (.int .u32 b)) : TN e W0 (.slice (some ⟨g, 0, none⟩) n cap) (L.set j (a, b)) v ys fr W' := by
  obtain ⟨hlo, _⟩ := h.o1.lt g rfl
  have hk : ∀ k, k ≠ g → W'.heap[k]? = W.heap[k]? := by
    intro k hk
    rw [hW, Below.heap_setCell _ _ _ _ hk, Below.heap_setCell _ _ _ _ hk]
  have hb : Below W0.heap.size W0 W' := by rw [hW]; exact (h.below.setCell (p := ⟨g, j * 2, none⟩) hlo _).setCell (p := ⟨g, j * 2 + 1, none⟩) hlo _
  refine ⟨hb, by rw [hW]; exact own_set (p := (a, b)) h.o1 hj, ?_, h.ap, fun y hy => ?_, h.low⟩
  · refine ⟨h.o2.1, ?_⟩
    rcases h.o2.2 with h0 | ⟨g', cap, cur, rfl, hb', hgg, hrest⟩
    · exact .inl h0
    · exact .inr ⟨g', cap, cur, rfl, hb', (hk g' (fun e => h.ap g rfl (by rw [e]; rfl))).trans hgg, hrest⟩
  · obtain ⟨h1, h2, h3⟩ := h.fresh y hy
    exact ⟨(hk y.1 (fun e => h2 (by rw [e]; rfl))).trans h1, h2, h3⟩
/-- What a store into the row asks. -/
theorem TN.there {g n cap j : Nat} {L : List (Nat × Nat)} (h : TN e W0 (.slice (some ⟨g, 0, none⟩) n cap) L v ys fr W) (hj : j < L.length) :
    W.cell? ⟨g, j * 2, none⟩ = some (.int .u32 (el L j).1) ∧ W.cell? ⟨g, j * 2 + 1, none⟩ = some (.int .u32 (el L j).2) ∧ W.frozen? ⟨g, j * 2, none⟩ = false ∧ W.frozen? ⟨g, j * 2 + 1, none⟩ = false := by
  obtain ⟨g', c', e', _, _, r⟩ := Own.rd h.o1 (by intro e; rw [e] at hj; simp at hj)
  injection e' with e1 _ _
  injection e1 with e1
  injection e1 with e1
  subst e1
  obtain ⟨a, b⟩ := r.get0 (el_get hj)
  refine ⟨a, b, ?_, ?_⟩
  all_goals
    rcases h.o1.2 with ⟨h0, _⟩ | ⟨g2, cap', cur, h1, h2, h3, _⟩
    · cases h0
    · injection h1 with e1 _ _
      injection e1 with e1
      injection e1 with e1
      subst e1
      exact frozen_blk h3 _
end
end Go.Proofs.Ytlbgpfddmkpakaa.Nu
