/- Mailbox: slices.Insert ahead of the end. -/
import Derived.Test.YtgbafpjeapkklaaMs
import Derived.Lib.Overlaps
import Derived.Lib.AppendZeros
import Derived.Lib.AppendZerosOnto
import Derived.Laws.Externs
import Derived.Laws.CopyRow
namespace Go.Proofs.Ytgbafpjeapkklaa.Mb
open Go.RowKit
set_option linter.unusedVariables false
set_option linter.unusedSimpArgs false

/-- A list is laid over a row. -/
def over (cur : Array Value) (o : Nat) (cs : List Value) : Array Value := (cur.toList.take o ++ cs ++ cur.toList.drop (o + cs.length)).toArray
theorem over_size {cur : Array Value} {o : Nat} {cs : List Value} (h : o + cs.length ≤ cur.size) : (over cur o cs).size = cur.size := by
  simp only [over, List.size_toArray, List.length_append, List.length_take, List.length_drop, Array.length_toList]
  omega

theorem run_copy3 (w : World) (ty : TypeId) (g o dLen dCap : Nat) (a : Addr) (sLen sCap : Nat) (cur : Array Value) (t : TypeId) (cs : List Value)
    (hg : w.heap[g]? = some (.cells cur t (0, 0))) (hn : cs.length = Nat.min sLen dLen * 3)
    (hsrc : ∀ j v, cs[j]? = some v → w.cell? (a.add j) = some v) (hfit : o + cs.length ≤ cur.size) (h1 : ∀ v ∈ cs, v.oneCell' = true) :
    (Builtin.copy_ #[26, 26] ty #[.slice (some ⟨g, o, none⟩) dLen dCap, .slice (some a) sLen sCap]).run Try.prog w = .ok (goInt (Nat.min sLen dLen)) (w.setRow g (over cur o cs)) := by
  obtain ⟨i0, hi0, hz0, hz1, hz2⟩ := info_parts info102
  have hl := run_loadCells_list (P := Try.prog) w a cs hsrc
  have hst := run_storeCells_at Try.prog g o t cs 0 cur w hg (by simpa using hfit) h1
  simp only [Nat.add_zero] at hst
  simp [Builtin.copy_, run_underlying Try.underlying26, Builtin.lenOf, Builtin.firstCells, sizeOf, typeInfo, hi0, hz1, ← hn, hl, hst, over]

theorem step_copy_run {ops : Array Oper} {o : Oper} {a : Act} {w : World} {K : Act → World → Prop} {Q : Exit → Act → World → Prop} {E : Prop}
    (hg : o.guard = none) (d x : Operand) (dT sT : TypeId) (hop : o.op = Op.call { callee := Callee.builtin Builtin.copy, args := #[d, x], argTypes := #[dT, sT] })
    (v u : Value) (hd : a.eval d = v) (hx : a.eval x = u) {v' : Value} {w' : World} (hr : (Builtin.copy_ #[dT, sT] o.type #[v, u]).run Try.prog w = .ok v' w') (hK : K (a.put o.dst v') w') :
    if Region.wanted o (yielded ops a.tmps) = true then Oper.wp Try.prog o a w K Q else E := by
  have hw : Region.wanted o (yielded ops a.tmps) = true := by simp [Region.wanted, hg]
  rw [if_pos hw]
  unfold Oper.wp
  simp [execOp, hop, resolve, invoke, builtin, hd, hx, hr, Result.andThen]
  exact hK
theorem wpList_copy_run (w : World) {ops : Array Oper} {rest : List Oper} {o : Oper} {a : Act} {Q : Exit → Act → World → Prop} (hgd : o.guard = none) (d s : Operand) (t t' : TypeId)
    (ho : o.op = .call { callee := .builtin .copy, args := #[d, s], argTypes := #[t, t'] }) (v u : Value) (hd : a.eval d = v) (hs : a.eval s = u) {v' : Value} {w' : World}
    (hr : (Builtin.copy_ #[t, t'] o.type #[v, u]).run Try.prog w = .ok v' w') (h : wpList Try.prog ops Q rest (a.put o.dst v') w') : wpList Try.prog ops Q (o :: rest) a w :=
  wpList_plain hgd fun _ hK => by
    unfold Oper.wp execOp
    simp only [ho, resolve, invoke, builtin, Sem.run_bind, Sem.run_pure, Result.andThen_ok, List.map_toArray, List.map_cons, List.map_nil, hd, hs, hr]
    exact hK _ _ h

theorem over_take {cur : Array Value} {o k : Nat} {cs : List Value} (h : o + cs.length ≤ cur.size) (hk : k ≤ o) : (over cur o cs).toList.take k = cur.toList.take k := by
  show (cur.toList.take o ++ cs ++ _).take k = _
  rw [List.append_assoc, List.take_append_of_le_length (by rw [List.length_take, Array.length_toList]; omega), List.take_take, Nat.min_eq_left hk]
theorem over_get {cur : Array Value} {o : Nat} {cs : List Value} (h : o + cs.length ≤ cur.size) (j : Nat) : (over cur o cs)[j]? = if o ≤ j ∧ j < o + cs.length then cs[j - o]? else cur[j]? := by
  have hl : (cur.toList.take o).length = o := by rw [List.length_take, Array.length_toList]; omega
  show (cur.toList.take o ++ cs ++ cur.toList.drop (o + cs.length)).toArray[j]? = _
  rw [List.getElem?_toArray, List.append_assoc]
  by_cases h1 : j < o
  · rw [List.getElem?_append_left (by omega), if_neg (by omega), List.getElem?_take, if_pos h1]; simp
  · rw [List.getElem?_append_right (by omega), hl]
    by_cases h2 : j < o + cs.length
    · rw [List.getElem?_append_left (by omega), if_pos ⟨by omega, h2⟩]
    · rw [List.getElem?_append_right (by omega), if_neg (by omega), List.getElem?_drop, show o + cs.length + (j - o - cs.length) = j by omega]; simp
/-- What lies behind both copies. -/
theorem ins_row {cur : Array Value} {l : List (Int × Int × Int)} {x : Int × Int × Int} {i : Nat} (hi : i ≤ l.length) (hs : (l.length + 1) * 3 ≤ cur.size)
    (h0 : ∀ (j : Nat) (u : Value), (cellsT (l.take i))[j]? = some u → cur[j]? = some u)
    (h1 : ∀ (j : Nat) (u : Value), (trip x)[j]? = some u → cur[i * 3 + j]? = some u) (h2 : ∀ (j : Nat) (u : Value), (cellsT (l.drop i))[j]? = some u → cur[(i + 1) * 3 + j]? = some u) :
    cur.toList.take ((l.length + 1) * 3) = cellsT (l.take i ++ x :: l.drop i) := by
  have ha : (cellsT (l.take i)).length = i * 3 := by rw [cellsT_len, List.length_take, Nat.min_eq_left hi]
  have hb : (trip x).length = 3 := rfl
  have hc : (cellsT (l.drop i)).length = (l.length - i) * 3 := by rw [cellsT_len, List.length_drop]
  have e : cellsT (l.take i ++ x :: l.drop i) = cellsT (l.take i) ++ (trip x ++ cellsT (l.drop i)) := by rw [cellsT_append, cellsT_cons]
  rw [e]
  apply List.ext_getElem
  · rw [List.length_take, show cur.toList.length = cur.size from rfl, List.length_append, List.length_append, ha, hb, hc]; omega
  · intro j p1 p2
    have p3 : j < (l.length + 1) * 3 := by rw [List.length_take] at p1; omega
    have hj : cur[j]? = some (cellsT (l.take i) ++ (trip x ++ cellsT (l.drop i)))[j] := by
      by_cases q1 : j < i * 3
      · rw [List.getElem_append_left (by omega)]
        exact h0 j _ (List.getElem?_eq_getElem _)
      · rw [List.getElem_append_right (by omega)]
        by_cases q2 : j < i * 3 + 3
        · rw [List.getElem_append_left (by omega)]
          have := h1 (j - i * 3) _ (List.getElem?_eq_getElem (by omega))
          rw [show i * 3 + (j - i * 3) = j by omega] at this
          simpa [ha] using this
        · rw [List.getElem_append_right (by omega)]
          have := h2 (j - i * 3 - 3) _ (List.getElem?_eq_getElem (by omega))
          rw [show (i + 1) * 3 + (j - i * 3 - 3) = j by omega] at this
          simpa [ha, hb] using this
    have hlt : j < cur.size := by omega
    rw [List.getElem_take, Array.getElem_toList]
    rw [Array.getElem?_eq_getElem hlt] at hj
    exact Option.some.inj hj
end Go.Proofs.Ytgbafpjeapkklaa.Mb
