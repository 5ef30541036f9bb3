/- Mailbox: maps with whole numbers as keys, in memory. -/
import Derived.Test.YtgbafpjeapkklaaMa
import Derived.MapKept
namespace Go.Proofs.Ytgbafpjeapkklaa.Mb
open Go.RowKit Go.MapKept
set_option linter.unusedVariables false
set_option linter.unusedSimpArgs false

/-- A map in memory. -/
def MapI (w : World) (r : Nat) (l : List (Int × Value)) : Prop :=
  ∃ es clock, w.heap[r]? = some (.map es clock) ∧ es.toList.map (fun e => (e.key, e.val)) = l.map fun x => (Value.int .i64 x.1, x.2)

theorem find_now (k : Int) : ∀ (es : List MapEntry) (l : List (Int × Value)) (i : Nat), es.map (fun e => (e.key, e.val)) = l.map (fun x => (Value.int .i64 x.1, x.2)) →
    ∃ j, Instr.findNow (.int .i64) (.int .i64 k) es i = some (match l.find? (fun x => x.1 == k) with | some x => some (j, x.2) | none => none) := by
  intro es
  induction es with
  | nil =>
    intro l i h
    cases l with
    | nil => exact ⟨0, rfl⟩
    | cons x l => cases h
  | cons e es ih =>
    intro l i h
    cases l with
    | nil => cases h
    | cons x l =>
      simp only [List.map_cons, List.cons.injEq, Prod.mk.injEq] at h
      obtain ⟨⟨h1, h2⟩, h3⟩ := h
      by_cases hk : x.1 = k
      · refine ⟨i, ?_⟩
        simp [Instr.findNow, Instr.sameNow, h1, hk, h2]
      · obtain ⟨j, hj⟩ := ih l (i + 1) h3
        refine ⟨j, ?_⟩
        have hk' : (k == x.1) = false := by simpa using fun e => hk e.symm
        have hk2 : (x.1 == k) = false := by simpa using hk
        simp only [Instr.findNow, Instr.sameNow, h1, if_true, hk', List.find?_cons, hk2]
        exact hj

theorem look {w : World} {r : Nat} {l : List (Int × Value)} (h : MapI w r l) (t e : TypeId) (z : Value) (ht : Try.prog.underlying t = some (.map 3 e)) (hz : (zeroValue e).run Try.prog w = .ok z w) (k : Int) :
    (Instr.lookup t (.map (some r)) (.int .i64 k) true).run Try.prog w = .ok (.tuple #[(match l.find? (fun x => x.1 == k) with | some x => x.2 | none => z), .bool (l.find? fun x => x.1 == k).isSome]) w := by
  obtain ⟨es, clock, h1, h2⟩ := h
  obtain ⟨j, hj⟩ := find_now k es.toList l 0 h2
  have h3 : Try.prog.underlying 3 = some (.int .i64) := Try.underlying3
  have hck : ∀ b, (Instr.checkKey b 10000 3 (.int .i64 k)).run Try.prog w = .ok () w := fun b => run_checkKey (w := w) (k := .int .i64 k) h3 (by simp [IsKey]) b 9999
  have hgo : (getObj r).run Try.prog w = .ok (.map es clock) w := by simp [getObj, Sem.run, h1]
  have hfk := run_findKey (P := Try.prog) (w := w) h3 hj
  unfold Instr.lookup
  cases hf : l.find? (fun x => x.1 == k) with
  | none =>
    rw [hf] at hfk
    simp [run_underlying ht, Result.andThen, hgo, hck, hfk, hz]
  | some x =>
    rw [hf] at hfk
    simp [run_underlying ht, Result.andThen, hgo, hck, hfk, hz]

theorem look1 {w : World} {r : Nat} {l : List (Int × Value)} (h : MapI w r l) (t e : TypeId) (z : Value) (ht : Try.prog.underlying t = some (.map 3 e)) (hz : (zeroValue e).run Try.prog w = .ok z w) (k : Int) :
    (Instr.lookup t (.map (some r)) (.int .i64 k) false).run Try.prog w = .ok (match l.find? (fun x => x.1 == k) with | some x => x.2 | none => z) w := by
  obtain ⟨es, clock, h1, h2⟩ := h
  obtain ⟨j, hj⟩ := find_now k es.toList l 0 h2
  have h3 : Try.prog.underlying 3 = some (.int .i64) := Try.underlying3
  have hck : ∀ b, (Instr.checkKey b 10000 3 (.int .i64 k)).run Try.prog w = .ok () w := fun b => run_checkKey (w := w) (k := .int .i64 k) h3 (by simp [IsKey]) b 9999
  have hgo : (getObj r).run Try.prog w = .ok (.map es clock) w := by simp [getObj, Sem.run, h1]
  have hfk := run_findKey (P := Try.prog) (w := w) h3 hj
  unfold Instr.lookup
  cases hf : l.find? (fun x => x.1 == k) with
  | none =>
    rw [hf] at hfk
    simp [run_underlying ht, Result.andThen, hgo, hck, hfk, hz]
  | some x =>
    rw [hf] at hfk
    simp [run_underlying ht, Result.andThen, hgo, hck, hfk, hz]

/-- A new key is put in. -/
theorem put_new {w : World} {r : Nat} {l : List (Int × Value)} (h : MapI w r l) (t e : TypeId) (ht : Try.prog.underlying t = some (.map 3 e)) (k : Int) (v : Value) (hn : l.find? (fun x => x.1 == k) = none) :
    ∃ w', (Instr.mapUpdate t (.map (some r)) (.int .i64 k) v).run Try.prog w = .ok () w' ∧ MapI w' r (l ++ [(k, v)]) ∧ w'.heap.size = w.heap.size ∧ w'.os = w.os ∧ w'.tape = w.tape ∧ w'.output = w.output ∧ ∀ g, g ≠ r → w'.heap[g]? = w.heap[g]? := by
  obtain ⟨es, clock, h1, h2⟩ := h
  obtain ⟨j, hj⟩ := find_now k es.toList l 0 h2
  rw [hn] at hj
  have h3 : Try.prog.underlying 3 = some (.int .i64) := Try.underlying3
  have hck : ∀ b, (Instr.checkKey b 10000 3 (.int .i64 k)).run Try.prog w = .ok () w := fun b => run_checkKey (w := w) (k := .int .i64 k) h3 (by simp [IsKey]) b 9999
  have hgo : (getObj r).run Try.prog w = .ok (.map es clock) w := by simp [getObj, Sem.run, h1]
  have hfk := run_findKey (P := Try.prog) (w := w) h3 hj
  have hso : ∀ o : Obj, (∃ es c, o = .map es c) → (setObj r o).run Try.prog w = .ok () { w with heap := w.heap.setIfInBounds r o } := by
    rintro o ⟨es', c, rfl⟩
    simp [setObj, Sem.run, h1]
  obtain ⟨g1, g2⟩ := heap_set (o' := .map (es.push { key := .int .i64 k, val := v, born := clock }) (clock + 1)) h1
  refine ⟨{ w with heap := w.heap.setIfInBounds r (.map (es.push { key := .int .i64 k, val := v, born := clock }) (clock + 1)) }, ?_, ⟨_, _, g1, ?_⟩, by simp, rfl, rfl, rfl, g2⟩
  · unfold Instr.mapUpdate
    simp [run_underlying ht, Result.andThen, hgo, hck, hfk]
    exact hso _ ⟨_, _, rfl⟩
  · simp [h2]
end Go.Proofs.Ytgbafpjeapkklaa.Mb
