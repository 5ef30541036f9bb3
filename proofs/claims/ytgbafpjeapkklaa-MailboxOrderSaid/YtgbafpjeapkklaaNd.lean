/- Mailbox: Begin and Finish that are refused. -/
import Derived.Test.YtgbafpjeapkklaaNc
namespace Go.Proofs.Ytgbafpjeapkklaa.Mb
open Go.RowKit
set_option linter.unusedVariables false
set_option linter.unusedSimpArgs false

/-- The zero state, as a value. -/
def zv : Value := .agg #[.slice none 0 0, .int .i64 0, .int .i64 0, .slice none 0 0, .bool false]
theorem CB.frz {w : World} {ns ps : Value} {m d : Int} {b : Bool} {W : World} (h : CB w ns ps m d b W) :
    W.frozen? ⟨w.heap.size + 1, 0, none⟩ = false ∧ W.frozen? ⟨w.heap.size + 1, 1, none⟩ = false ∧ W.frozen? ⟨w.heap.size + 1, 2, none⟩ = false ∧ W.frozen? ⟨w.heap.size + 1, 3, none⟩ = false ∧ W.frozen? ⟨w.heap.size + 1, 4, none⟩ = false :=
  ⟨frozen_blk h.2.2 0, frozen_blk h.2.2 1, frozen_blk h.2.2 2, frozen_blk h.2.2 3, frozen_blk h.2.2 4⟩
theorem CB.zero {w : World} {ns ps : Value} {m d : Int} {b : Bool} {W : World} (h : CB w ns ps m d b W) :
    W.cell? ⟨w.heap.size + 1, 0, none⟩ = some (.slice none 0 0) ∧ W.cell? ⟨w.heap.size + 1, 1, none⟩ = some (.int .i64 0) ∧ W.cell? ⟨w.heap.size + 1, 2, none⟩ = some (.int .i64 0) ∧ W.cell? ⟨w.heap.size + 1, 3, none⟩ = some (.slice none 0 0) ∧ W.cell? ⟨w.heap.size + 1, 4, none⟩ = some (.bool false) :=
  z_cells h.2.2
theorem CB.out {w : World} {ns ps : Value} {m d : Int} {b : Bool} {W : World} (h : CB w ns ps m d b W) {W' : World}
    (hW : W' = (((((W.setCell ⟨w.heap.size + 1, 0, none⟩ (.slice none 0 0)).setCell ⟨w.heap.size + 1, 1, none⟩ (.int .i64 0)).setCell ⟨w.heap.size + 1, 2, none⟩ (.int .i64 0)).setCell ⟨w.heap.size + 1, 3, none⟩ (.slice none 0 0)).setCell ⟨w.heap.size + 1, 4, none⟩ (.bool false))) :
    Below w.heap.size w W' ∧ W'.heap[w.heap.size + 1]? = some (.cells #[.slice none 0 0, .int .i64 0, .int .i64 0, .slice none 0 0, .bool false] 28 (0, 0)) := by
  subst hW
  obtain ⟨f1, f2, f3⟩ := five h.2.2 (.slice none 0 0) (.int .i64 0) (.int .i64 0) (.slice none 0 0) (.bool false)
  exact ⟨f2 _ _ (Nat.le_succ _) h.1, f1⟩

set_option maxRecDepth 100000 in
set_option maxHeartbeats 4000000 in
theorem begin_neg {q : Q} (hq : WF q) {v : Value} {p x : Int} (hneg : p < 0) (w : World) (hv : St w v q) :
    Calls Try.prog 10 #[v, .int .i64 p, .int .i64 x] w fun e w' => e = .returned (.tuple #[zv, .bool false, .int .i64 1]) ∧ Below w.heap.size w w' := by
  obtain ⟨ns, ps, rfl, hn, hp'⟩ := hv
  have hfew := hq.few
  have hfo := hq.fewo
  have HCK : Hid (∀ W, Below w.heap.size w W → Calls Try.prog 18 #[.agg #[ns, .int .i64 q.m, .int .i64 q.done, ps, .bool q.empty]] W fun e w' => e = .returned (.int .i64 0) ∧ Below W.heap.size W w') := fun W h => check_at hq ns ps W (hn.below h).1 (hp'.below h).1

  have HB0 : Hid (CB w ns ps q.m q.done q.empty ((w.alloc (Obj.cells #[ns, .int .i64 q.m, .int .i64 q.done, ps, .bool q.empty] 28)).alloc (Obj.cells #[.slice none 0 0, .int .i64 0, .int .i64 0, .slice none 0 0, .bool false] 28))) := CB.mk w ns ps q.m q.done q.empty
  obtain ⟨pn, cn, hA⟩ := hn.slice
  obtain ⟨pp, cp, hB⟩ := hp'.slice
  subst hA
  subst hB
  clear hn hp'
  have tp : decide (p < 0) = true := decide_eq_true hneg
  clear hq hfew hfo
  generalize hM : q.m = M at *
  generalize hD : q.done = D at *
  clear hM hD
  go_enter Try.func10, Try.ntmps10
  go_upto_region 1 with fail
  generalize ((w.alloc (Obj.cells #[.slice pn q.nodes.length cn, .int .i64 M, .int .i64 D, .slice pp q.pushes.length cp, .bool q.empty] 28)).alloc (Obj.cells #[.slice none 0 0, .int .i64 0, .int .i64 0, .slice none 0 0, .bool false] 28)) = W0 at *
  obtain ⟨c0, c1, c2, c3, c4⟩ := HB0.out.facts
  go_wp2_with fail
  refine (HCK.out _ HB0.out.1).mono ?_
  rintro e W1 ⟨rfl, hb1⟩
  have HB1 := Lib.hid (HB0.out.step hb1)
  clear hb1 c0 c1 c2 c3 c4

  obtain ⟨z0, z1, z2, z3, z4⟩ := HB1.out.zero
  obtain ⟨f0, f1, f2, f3, f4⟩ := HB1.out.frz
  go_wp2_with fail
  obtain ⟨W5, hW5⟩ : ∃ W5, W5 = (((((W1.setCell ⟨w.heap.size + 1, 0, none⟩ (.slice none 0 0)).setCell ⟨w.heap.size + 1, 1, none⟩ (.int .i64 0)).setCell ⟨w.heap.size + 1, 2, none⟩ (.int .i64 0)).setCell ⟨w.heap.size + 1, 3, none⟩ (.slice none 0 0)).setCell ⟨w.heap.size + 1, 4, none⟩ (.bool false)) := ⟨_, rfl⟩
  rw [← hW5]
  obtain ⟨k1, k2⟩ := HB1.out.out hW5
  have K1 := Lib.hid k1
  clear z0 z1 z2 z3 z4 f0 f1 f2 f3 f4 k1 hW5
  obtain ⟨c0, c1, c2, c3, c4⟩ := z_cells k2
  refine bodyPost_ret (v := .tuple #[.agg #[.slice none 0 0, .int .i64 0, .int .i64 0, .slice none 0 0, .bool false], .bool false, .int .i64 1]) (by simp [results, Try.results10, go_sem, c0, c1, c2, c3, c4]) rfl ⟨rfl, K1.out⟩

set_option maxRecDepth 100000 in
set_option maxHeartbeats 4000000 in
theorem begin_busy {q : Q} (hq : WF q) {v : Value} {p x : Int} (hp : 0 ≤ p) {i j : Nat} (ho : q.opn[i]? = some (p, j)) (w : World) (hv : St w v q) :
    Calls Try.prog 10 #[v, .int .i64 p, .int .i64 x] w fun e w' => e = .returned (.tuple #[zv, .bool false, .int .i64 300]) ∧ Below w.heap.size w w' := by
  obtain ⟨ns, ps, rfl, hn, hp'⟩ := hv
  have hfew := hq.few
  have hfo := hq.fewo
  have HCK : Hid (∀ W, Below w.heap.size w W → Calls Try.prog 18 #[.agg #[ns, .int .i64 q.m, .int .i64 q.done, ps, .bool q.empty]] W fun e w' => e = .returned (.int .i64 0) ∧ Below W.heap.size W w') := fun W h => check_at hq ns ps W (hn.below h).1 (hp'.below h).1
  have HPU : Hid (∀ W, Below w.heap.size w W → Calls Try.prog 39 #[.agg #[ns, .int .i64 q.m, .int .i64 q.done, ps, .bool q.empty], .int .i64 p] W fun e w' => e = .returned (.int .i64 i) ∧ Below W.heap.size W w') := fun W h => by
    rw [← push_idx hq ho]
    exact push_at (by rw [pushes_len]; omega) _ _ _ p W (hp'.below h).1
  have HB0 : Hid (CB w ns ps q.m q.done q.empty ((w.alloc (Obj.cells #[ns, .int .i64 q.m, .int .i64 q.done, ps, .bool q.empty] 28)).alloc (Obj.cells #[.slice none 0 0, .int .i64 0, .int .i64 0, .slice none 0 0, .bool false] 28))) := CB.mk w ns ps q.m q.done q.empty
  obtain ⟨pn, cn, hA⟩ := hn.slice
  obtain ⟨pp, cp, hB⟩ := hp'.slice
  subst hA
  subst hB
  clear hn hp'
  have tp : decide (p < 0) = false := decide_eq_false (by omega)
  have ti : decide ((0 : Int) ≤ (i : Int)) = true := decide_eq_true (by omega)
  clear hp ho
  clear hq hfew hfo
  generalize hM : q.m = M at *
  generalize hD : q.done = D at *
  clear hM hD
  go_enter Try.func10, Try.ntmps10
  go_upto_region 1 with fail
  generalize ((w.alloc (Obj.cells #[.slice pn q.nodes.length cn, .int .i64 M, .int .i64 D, .slice pp q.pushes.length cp, .bool q.empty] 28)).alloc (Obj.cells #[.slice none 0 0, .int .i64 0, .int .i64 0, .slice none 0 0, .bool false] 28)) = W0 at *
  obtain ⟨c0, c1, c2, c3, c4⟩ := HB0.out.facts
  go_wp2_with fail
  refine (HCK.out _ HB0.out.1).mono ?_
  rintro e W1 ⟨rfl, hb1⟩
  have HB1 := Lib.hid (HB0.out.step hb1)
  clear hb1 c0 c1 c2 c3 c4
  obtain ⟨c0, c1, c2, c3, c4⟩ := HB1.out.facts
  go_wp2_with fail
  refine (HPU.out _ HB1.out.1).mono ?_
  rintro e W1' ⟨rfl, hb1⟩
  have HB1' := Lib.hid (HB1.out.step hb1)
  clear hb1 c0 c1 c2 c3 c4
  obtain ⟨z0, z1, z2, z3, z4⟩ := HB1'.out.zero
  obtain ⟨f0, f1, f2, f3, f4⟩ := HB1'.out.frz
  go_wp2_with fail
  obtain ⟨W5, hW5⟩ : ∃ W5, W5 = (((((W1'.setCell ⟨w.heap.size + 1, 0, none⟩ (.slice none 0 0)).setCell ⟨w.heap.size + 1, 1, none⟩ (.int .i64 0)).setCell ⟨w.heap.size + 1, 2, none⟩ (.int .i64 0)).setCell ⟨w.heap.size + 1, 3, none⟩ (.slice none 0 0)).setCell ⟨w.heap.size + 1, 4, none⟩ (.bool false)) := ⟨_, rfl⟩
  rw [← hW5]
  obtain ⟨k1, k2⟩ := HB1'.out.out hW5
  have K1 := Lib.hid k1
  clear z0 z1 z2 z3 z4 f0 f1 f2 f3 f4 k1 hW5
  obtain ⟨c0, c1, c2, c3, c4⟩ := z_cells k2
  refine bodyPost_ret (v := .tuple #[.agg #[.slice none 0 0, .int .i64 0, .int .i64 0, .slice none 0 0, .bool false], .bool false, .int .i64 300]) (by simp [results, Try.results10, go_sem, c0, c1, c2, c3, c4]) rfl ⟨rfl, K1.out⟩

set_option maxRecDepth 100000 in
set_option maxHeartbeats 4000000 in
theorem finish_none {q : Q} (hq : WF q) {v : Value} {p : Int} (hno : ∀ o ∈ q.opn, o.1 ≠ p) (w : World) (hv : St w v q) :
    Calls Try.prog 11 #[v, .int .i64 p] w fun e w' => e = .returned (.tuple #[zv, .int .i64 301]) ∧ Below w.heap.size w w' := by
  obtain ⟨ns, ps, rfl, hn, hp'⟩ := hv
  have hfew := hq.few
  have hfo := hq.fewo
  have HCK : Hid (∀ W, Below w.heap.size w W → Calls Try.prog 18 #[.agg #[ns, .int .i64 q.m, .int .i64 q.done, ps, .bool q.empty]] W fun e w' => e = .returned (.int .i64 0) ∧ Below W.heap.size W w') := fun W h => check_at hq ns ps W (hn.below h).1 (hp'.below h).1
  have HPU : Hid (∀ W, Below w.heap.size w W → Calls Try.prog 39 #[.agg #[ns, .int .i64 q.m, .int .i64 q.done, ps, .bool q.empty], .int .i64 p] W fun e w' => e = .returned (.int .i64 (-1)) ∧ Below W.heap.size W w') := fun W h => by
    rw [← push_none hno]
    exact push_at (by rw [pushes_len]; omega) _ _ _ p W (hp'.below h).1
  have HB0 : Hid (CB w ns ps q.m q.done q.empty ((w.alloc (Obj.cells #[ns, .int .i64 q.m, .int .i64 q.done, ps, .bool q.empty] 28)).alloc (Obj.cells #[.slice none 0 0, .int .i64 0, .int .i64 0, .slice none 0 0, .bool false] 28))) := CB.mk w ns ps q.m q.done q.empty
  obtain ⟨pn, cn, hA⟩ := hn.slice
  obtain ⟨pp, cp, hB⟩ := hp'.slice
  subst hA
  subst hB
  clear hn hp'
  clear hno
  clear hq hfew hfo
  generalize hM : q.m = M at *
  generalize hD : q.done = D at *
  clear hM hD
  go_enter Try.func11, Try.ntmps11
  go_upto_region 1 with fail
  generalize ((w.alloc (Obj.cells #[.slice pn q.nodes.length cn, .int .i64 M, .int .i64 D, .slice pp q.pushes.length cp, .bool q.empty] 28)).alloc (Obj.cells #[.slice none 0 0, .int .i64 0, .int .i64 0, .slice none 0 0, .bool false] 28)) = W0 at *
  obtain ⟨c0, c1, c2, c3, c4⟩ := HB0.out.facts
  go_wp2_with fail
  refine (HCK.out _ HB0.out.1).mono ?_
  rintro e W1 ⟨rfl, hb1⟩
  have HB1 := Lib.hid (HB0.out.step hb1)
  clear hb1 c0 c1 c2 c3 c4
  obtain ⟨c0, c1, c2, c3, c4⟩ := HB1.out.facts
  go_wp2_with fail
  refine (HPU.out _ HB1.out.1).mono ?_
  rintro e W1' ⟨rfl, hb1⟩
  have HB1' := Lib.hid (HB1.out.step hb1)
  clear hb1 c0 c1 c2 c3 c4
  obtain ⟨z0, z1, z2, z3, z4⟩ := HB1'.out.zero
  obtain ⟨f0, f1, f2, f3, f4⟩ := HB1'.out.frz
  go_wp2_with fail
  obtain ⟨W5, hW5⟩ : ∃ W5, W5 = (((((W1'.setCell ⟨w.heap.size + 1, 0, none⟩ (.slice none 0 0)).setCell ⟨w.heap.size + 1, 1, none⟩ (.int .i64 0)).setCell ⟨w.heap.size + 1, 2, none⟩ (.int .i64 0)).setCell ⟨w.heap.size + 1, 3, none⟩ (.slice none 0 0)).setCell ⟨w.heap.size + 1, 4, none⟩ (.bool false)) := ⟨_, rfl⟩
  rw [← hW5]
  obtain ⟨k1, k2⟩ := HB1'.out.out hW5
  have K1 := Lib.hid k1
  clear z0 z1 z2 z3 z4 f0 f1 f2 f3 f4 k1 hW5
  obtain ⟨c0, c1, c2, c3, c4⟩ := z_cells k2
  refine bodyPost_ret (v := .tuple #[.agg #[.slice none 0 0, .int .i64 0, .int .i64 0, .slice none 0 0, .bool false], .int .i64 301]) (by simp [results, Try.results11, go_sem, c0, c1, c2, c3, c4]) rfl ⟨rfl, K1.out⟩
end Go.Proofs.Ytgbafpjeapkklaa.Mb
