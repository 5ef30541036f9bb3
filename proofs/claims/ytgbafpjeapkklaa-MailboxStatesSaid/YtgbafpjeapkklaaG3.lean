/- Parts Na, Nb, Nc, Nd, Ng of the proof. -/
import Derived.Lib.Overlaps
import Derived.Lib.AppendZeros
import Derived.Lib.AppendZerosOnto
import Derived.Laws.Externs
import Derived.Laws.CopyRow
import Derived.Deep.RegionHeld3
import Derived.Test.YtgbafpjeapkklaaG2
namespace Go.Proofs.Ytgbafpjeapkklaa.Mb
open Go.RowKit
set_option linter.unusedVariables false
set_option linter.unusedSimpArgs false
def over (cur : Array Value) (o : Nat) (cs : List Value) : Array Value := (cur.toList.take o ++ cs ++ cur.toList.drop (o + cs.length)).toArray
theorem over_size {cur : Array Value} {o : Nat} {cs : List Value} (h : o + cs.length ≤ cur.size) : (over cur o cs).size = cur.size := by
 simp only [over, List.size_toArray, List.length_append, List.length_take, List.length_drop, Array.length_toList]
 omega
theorem run_copy3 (w : World) (ty : TypeId) (g o dLen dCap : Nat) (a : Addr) (sLen sCap : Nat) (cur : Array Value) (t : TypeId) (cs : List Value)
  (hg : w.heap[g]? = some (.cells cur t (0, 0))) (hn : cs.length = Nat.min sLen dLen * 3)
  (hsrc : ∀ j v, cs[j]? = some v → w.cell? (a.add j) = some v) (hfit : o + cs.length ≤ cur.size) (h1 : ∀ v ∈ cs, v.oneCell' = true) :
  (Builtin.copy_ #[26, 26] ty #[.slice (some ⟨g, o, none⟩) dLen dCap, .slice (some a) sLen sCap]).run Try.prog w = .ok (goInt (Nat.min sLen dLen)) (w.setRow g (over cur o cs)) := by
 obtain ⟨i0, hi0, hz0, hz1, hz2⟩ := info_parts info102
 have hl := run_loadCells_list (P := Try.prog) w a cs hsrc
 have hst := run_storeCells_at Try.prog g o t cs 0 cur w hg (by simpa using hfit) h1
 simp only [Nat.add_zero] at hst
 simp [Builtin.copy_, run_underlying Try.underlying26, Builtin.lenOf, Builtin.firstCells, sizeOf, typeInfo, hi0, hz1, ← hn, hl, hst, over]
theorem step_copy_run {ops : Array Oper} {o : Oper} {a : Act} {w : World} {K : Act → World → Prop} {Q : Exit → Act → World → Prop} {E : Prop}
  (hg : o.guard = none) (d x : Operand) (dT sT : TypeId) (hop : o.op = Op.call { callee := Callee.builtin Builtin.copy, args := #[d, x], argTypes := #[dT, sT] })
  (v u : Value) (hd : a.eval d = v) (hx : a.eval x = u) {v' : Value} {w' : World} (hr : (Builtin.copy_ #[dT, sT] o.type #[v, u]).run Try.prog w = .ok v' w') (hK : K (a.put o.dst v') w') :
  if Region.wanted o (yielded ops a.tmps) = true then Oper.wp Try.prog o a w K Q else E := by
 have hw : Region.wanted o (yielded ops a.tmps) = true := by simp [Region.wanted, hg]
 rw [if_pos hw]
 unfold Oper.wp
 simp [execOp, hop, resolve, invoke, builtin, hd, hx, hr, Result.andThen]
 exact hK
theorem over_get {cur : Array Value} {o : Nat} {cs : List Value} (h : o + cs.length ≤ cur.size) (j : Nat) : (over cur o cs)[j]? = if o ≤ j ∧ j < o + cs.length then cs[j - o]? else cur[j]? := by
 have hl : (cur.toList.take o).length = o := by rw [List.length_take, Array.length_toList]; omega
 show (cur.toList.take o ++ cs ++ cur.toList.drop (o + cs.length)).toArray[j]? = _
 rw [List.getElem?_toArray, List.append_assoc]
 by_cases h1 : j < o
 ·rw [List.getElem?_append_left (by omega), if_neg (by omega), List.getElem?_take, if_pos h1]; simp
 ·rw [List.getElem?_append_right (by omega), hl]
  by_cases h2 : j < o + cs.length
  ·rw [List.getElem?_append_left (by omega), if_pos ⟨by omega, h2⟩]
  ·rw [List.getElem?_append_right (by omega), if_neg (by omega), List.getElem?_drop, show o + cs.length + (j - o - cs.length) = j by omega]; simp
theorem ins_row {cur : Array Value} {l : List (Int × Int × Int)} {x : Int × Int × Int} {i : Nat} (hi : i ≤ l.length) (hs : (l.length + 1) * 3 ≤ cur.size)
  (h0 : ∀ (j : Nat) (u : Value), (cellsT (l.take i))[j]? = some u → cur[j]? = some u)
  (h1 : ∀ (j : Nat) (u : Value), (trip x)[j]? = some u → cur[i * 3 + j]? = some u) (h2 : ∀ (j : Nat) (u : Value), (cellsT (l.drop i))[j]? = some u → cur[(i + 1) * 3 + j]? = some u) :
  cur.toList.take ((l.length + 1) * 3) = cellsT (l.take i ++ x :: l.drop i) := by
 have ha : (cellsT (l.take i)).length = i * 3 := by rw [cellsT_len, List.length_take, Nat.min_eq_left hi]
 have hb : (trip x).length = 3 := rfl
 have hc : (cellsT (l.drop i)).length = (l.length - i) * 3 := by rw [cellsT_len, List.length_drop]
 have e : cellsT (l.take i ++ x :: l.drop i) = cellsT (l.take i) ++ (trip x ++ cellsT (l.drop i)) := by rw [cellsT_append, cellsT_cons]
 rw [e]
 apply List.ext_getElem
 ·rw [List.length_take, show cur.toList.length = cur.size from rfl, List.length_append, List.length_append, ha, hb, hc]; omega
 ·intro j p1 p2
  have p3 : j < (l.length + 1) * 3 := by rw [List.length_take] at p1; omega
  have hj : cur[j]? = some (cellsT (l.take i) ++ (trip x ++ cellsT (l.drop i)))[j] := by
   by_cases q1 : j < i * 3
   ·rw [List.getElem_append_left (by omega)]
    exact h0 j _ (List.getElem?_eq_getElem _)
   ·rw [List.getElem_append_right (by omega)]
    by_cases q2 : j < i * 3 + 3
    ·rw [List.getElem_append_left (by omega)]
     have := h1 (j - i * 3) _ (List.getElem?_eq_getElem (by omega))
     rw [show i * 3 + (j - i * 3) = j by omega] at this
     simpa [ha] using this
    ·rw [List.getElem_append_right (by omega)]
     have := h2 (j - i * 3 - 3) _ (List.getElem?_eq_getElem (by omega))
     rw [show (i + 1) * 3 + (j - i * 3 - 3) = j by omega] at this
     simpa [ha, hb] using this
  have hlt : j < cur.size := by omega
  rw [List.getElem_take, Array.getElem_toList]
  rw [Array.getElem?_eq_getElem hlt] at hj
  exact Option.some.inj hj
end Go.Proofs.Ytgbafpjeapkklaa.Mb
namespace Go.Proofs.Ytgbafpjeapkklaa.Mb
open Go.RowKit
set_option linter.unusedVariables false
set_option linter.unusedSimpArgs false
theorem sizeOf102 (w : World) : (Go.sizeOf 102).run Try.prog w = .ok 3 w := by kernel_rfl
set_option maxRecDepth 100000 in
set_option maxHeartbeats 4000000 in
theorem insert_room {l : List (Int × Int × Int)} {i : Nat} (hi : i < l.length) (hl : l.length ≤ 2000) (x : Int × Int × Int) (W : World) (B X g cap : Nat) (cur : Array Value) (hBg : B ≤ g) (hcur : W.heap[g]? = some (.cells cur 102 (0, 0))) (hroom : l.length + 1 ≤ cap) (hmax : cap ≤ maxLen) (hsize : cur.size = cap * 3) (htake : cur.toList.take (l.length * 3) = cellsT l)
  (hX : W.heap[X]? = some (.cells (trip x).toArray 102 (0, 0))) (hne : g ≠ X) :
  Calls Try.prog 41 #[.slice (some ⟨g, 0, none⟩) l.length cap, .int .i64 i, .slice (some ⟨X, 0, none⟩) 1 1] W fun e w' => ∃ v', e = .returned v' ∧ w'.ownsRow B 102 3 v' (l.length + 1) (cellsT (l.take i ++ x :: l.drop i)) ∧ W.grownBy w' (some g) := by
 have hcl : ∀ (j : Nat) (u : Value), (cellsT l)[j]? = some u → cur[j]? = some u := by
  intro j u hj
  rw [← htake, List.getElem?_take] at hj
  split at hj
  ·simpa using hj
  ·cases hj
 have hdl : (cellsT (l.drop i)).length = (l.length - i) * 3 := by rw [cellsT_len, List.length_drop]
 have htl : (cellsT (l.take i)).length = i * 3 := by rw [cellsT_len, List.length_take, Nat.min_eq_left (by omega)]
 have hsrcB : ∀ (j : Nat) (u : Value), (cellsT (l.drop i))[j]? = some u → cur[i * 3 + j]? = some u := fun j u hj => hcl _ _ (by rw [← cellsT_drop, List.getElem?_drop] at hj; exact hj)
 obtain ⟨cur1, hcur1⟩ : ∃ cur1, cur1 = over cur ((i + 1) * 3) (cellsT (l.drop i)) := ⟨_, rfl⟩
 have hfit1 : (i + 1) * 3 + (cellsT (l.drop i)).length ≤ cur.size := by rw [hdl, hsize]; omega
 have hs1 : cur1.size = cur.size := by rw [hcur1]; exact over_size hfit1
 obtain ⟨W1, hW1⟩ : ∃ W1, W1 = W.drew.setRow g cur1 := ⟨_, rfl⟩
 have hmin : Nat.min (l.length + 1 - i) (l.length + 1 - (i + 1)) = l.length - i := by simp only [Nat.min_def]; split <;> omega
 have hcp1 : ∀ ty dc sc, (Builtin.copy_ #[26, 26] ty #[.slice (some ⟨g, (i + 1) * 3, none⟩) (l.length + 1 - (i + 1)) dc, .slice (some ⟨g, i * 3, none⟩) (l.length + 1 - i) sc]).run Try.prog W.drew = .ok (goInt ((l.length - i : Nat) : Int)) W1 := fun ty dc sc => by
  have h := run_copy3 W.drew ty g ((i + 1) * 3) (l.length + 1 - (i + 1)) dc ⟨g, i * 3, none⟩ (l.length + 1 - i) sc cur 102 (cellsT (l.drop i)) hcur (by rw [hmin, hdl]) (fun j v hj => by rw [Addr.add_lit]; exact (cB (w := W.drew) hcur _).trans (hsrcB j v hj)) hfit1 (cellsT_one _)
  rw [hmin, ← hcur1, ← hW1] at h
  exact h
 have hg1 : W1.heap[g]? = some (.cells cur1 102 (0, 0)) := by rw [hW1]; exact setRow_heap W.drew g cur cur1 102 _ hcur
 have hX1 : W1.heap[X]? = some (.cells (trip x).toArray 102 (0, 0)) := by rw [hW1, setRow_other _ _ _ _ (fun e => hne e.symm)]; exact hX
 obtain ⟨cur2, hcur2⟩ : ∃ cur2, cur2 = over cur1 (i * 3) (trip x) := ⟨_, rfl⟩
 have hfit2 : i * 3 + (trip x).length ≤ cur1.size := by rw [hs1, hsize]; show i * 3 + 3 ≤ _; omega
 have hs2 : cur2.size = cur1.size := by rw [hcur2]; exact over_size hfit2
 obtain ⟨W2, hW2⟩ : ∃ W2, W2 = W1.setRow g cur2 := ⟨_, rfl⟩
 have hmin2 : Nat.min 1 (l.length + 1 - i) = 1 := by simp only [Nat.min_def]; split <;> omega
 have hcp2 : ∀ ty dc, (Builtin.copy_ #[26, 26] ty #[.slice (some ⟨g, i * 3, none⟩) (l.length + 1 - i) dc, .slice (some ⟨X, 0, none⟩) 1 1]).run Try.prog W1 = .ok (goInt 1) W2 := fun ty dc => by
  have h := run_copy3 W1 ty g (i * 3) (l.length + 1 - i) dc ⟨X, 0, none⟩ 1 1 cur1 102 (trip x) hg1 (by rw [hmin2]; rfl) (fun j v hj => by rw [Addr.add_lit, Nat.zero_add]; refine (cB hX1 j).trans ?_; rw [List.getElem?_toArray]; exact hj) hfit2 (by intro u hu; exact cellsT_one [x] u (by simpa [cellsT] using hu))
  rw [hmin2, ← hcur2, ← hW2] at h
  exact h
 have hov : ∀ lb cb, (callFunc 64 #[.slice (some ⟨X, 0, none⟩) 1 1, .slice (some ⟨g, (i + 1) * 3, none⟩) lb cb]).run Try.prog W = .ok (.value (.bool false)) W := fun lb cb => by
  rw [run_callFunc_extern Try.func64 (by kernel_rfl) (by kernel_rfl) (by kernel_rfl) (e := Extern.SlicesOverlaps.overlaps #[26, 26] #[4]) (by kernel_rfl),
   Lib.run_overlaps_apart W 26 4 102 Try.underlying26 3 sizeOf102 ⟨X, 0, none⟩ ⟨g, (i + 1) * 3, none⟩ 1 1 lb cb (fun e => hne e.symm) 102 102 3 (cap * 3) (by simp [World.shape?, hX, trip]) (by simp [World.shape?, hcur, hsize]) (by omega) (frozen_blk hX _) (frozen_blk hX _)]
  rfl
 have HRES : Hid (W2.ownsRow B 102 3 (.slice (some ⟨g, 0, none⟩) (l.length + 1) cap) (l.length + 1) (cellsT (l.take i ++ x :: l.drop i)) ∧ W.grownBy W2 (some g)) := by
  refine ⟨⟨?_, .inr ⟨g, cap, cur2, rfl, hBg, by rw [hW2]; exact setRow_heap W1 g cur1 cur2 102 _ hg1, hroom, hmax, by rw [hs2, hs1, hsize], ?_⟩⟩, ?_⟩
  ·rw [cellsT_len, List.length_append, List.length_take, List.length_cons, List.length_drop]; congr 1; omega
  ·refine ins_row (by omega) (by rw [hs2, hs1, hsize]; omega) ?_ ?_ ?_
   ·intro j u hj
    have hj2 := (List.getElem?_eq_some_iff.1 hj).1
    rw [htl] at hj2
    rw [hcur2, over_get hfit2, if_neg (by omega), hcur1, over_get hfit1, if_neg (by omega)]
    exact hcl j u (by rw [← cellsT_take, List.getElem?_take, if_pos hj2] at hj; exact hj)
   ·intro j u hj
    have hj2 : j < 3 := (List.getElem?_eq_some_iff.1 hj).1
    rw [hcur2, over_get hfit2, if_pos ⟨by omega, by show _ < i * 3 + 3; omega⟩, show i * 3 + j - i * 3 = j by omega]
    exact hj
   ·intro j u hj
    have hj2 := (List.getElem?_eq_some_iff.1 hj).1
    rw [hcur2, over_get hfit2, if_neg (by show ¬ (_ ∧ _ < i * 3 + 3); omega), hcur1, over_get hfit1, if_pos ⟨by omega, by omega⟩, show (i + 1) * 3 + j - (i + 1) * 3 = j by omega]
    exact hj
  ·refine ⟨by rw [hW2, hW1]; rfl, by rw [hW2, hW1]; rfl, by rw [hW2, hW1]; rfl, ?_, ?_⟩
   ·rw [hW2, hW1]; simp [World.setRow]
   ·intro k _ hk
    rw [hW2, hW1, setRow_other _ _ _ _ (fun e => hk (by rw [e])), setRow_other _ _ _ _ (fun e => hk (by rw [e]))]
    rfl
 have HCP1 := Lib.hid hcp1
 have HCP2 := Lib.hid hcp2
 clear hcp1 hcp2 hcl hdl htl hsrcB hcur1 hfit1 hs1 hW1 hmin hg1 hX1 hcur2 hfit2 hs2 hW2 hmin2 hBg hcur hsize htake hX
 generalize hn : l.length = n at *
 have hw1 : IntKind.i64.wrap ((i : Int) + 1) = (i : Int) + 1 := by rw [Go.IntWalk.i64_left]; unfold wrap64; omega
 have hw2 : IntKind.i64.wrap ((n : Int) + 1) = (n : Int) + 1 := by rw [Go.IntWalk.i64_left]; unfold wrap64; omega
 have hw1' : wrap64 ((i : Int) + 1) = (i : Int) + 1 := by unfold wrap64; omega
 have hw2' : wrap64 ((n : Int) + 1) = (n : Int) + 1 := by unfold wrap64; omega
 have hb1 : (0 : Int) ≤ (i : Int) + 1 := by omega
 have hin : i ≤ n := by omega
 have hz2 : ¬ ((i : Int) = (n : Int)) := by omega
 have hb2 : ¬ (cap = i + 1) := by omega
 have hb3 : (i : Int) ≤ (n : Int) + 1 := by omega
 have hb4 : ¬ (cap = i) := by omega
 have hb5 : ¬ ((cap : Int) < (n : Int) + 1) := by omega
 have hb6 : (i : Int) + 1 ≤ (n : Int) + 1 := by omega
 have hb7 : (n : Int) + 1 ≤ (cap : Int) := by omega
 have hb8 : n + 1 ≤ cap := hroom
 have hb9 : ((i : Int) == (n : Int)) = false := by simpa using hz2
 have hb10 : decide ((cap : Int) < (n : Int) + 1) = false := decide_eq_false hb5
 have hc63 : cap ≤ 9223372036854775807 := by unfold maxLen at hmax; omega
 clear hmax hi hl hroom
 go_enter Try.func41, Try.ntmps41
 go_wp2_with (simp only [hov])
 go_region_law (refine step_copy_run rfl (.tmp 73) (.tmp 76) 26 26 rfl (.slice (some ⟨g, (i + 1) * 3, none⟩) (n + 1 - (i + 1)) (cap - (i + 1))) (.slice (some ⟨g, i * 3, none⟩) (n + 1 - i) (cap - i)) (by simp [Act.eval, Act.put]) (by simp [Act.eval, Act.put]) (HCP1.out _ _ _) ?_)
 have hcp2 := HCP2.out
 go_wp2_with fail
 go_ret
 exact ⟨_, rfl, HRES.out.1, HRES.out.2⟩
end Go.Proofs.Ytgbafpjeapkklaa.Mb
namespace Go.Proofs.Ytgbafpjeapkklaa.Mb
open Go.RowKit
set_option linter.unusedVariables false
set_option linter.unusedSimpArgs false
theorem wrap_small {z : Int} (h0 : 0 ≤ z) (h1 : z ≤ 100000) : wrap64 z = z := by unfold wrap64; omega
set_option maxRecDepth 100000 in
set_option maxHeartbeats 4000000 in
theorem insert_grow {l : List (Int × Int × Int)} {i : Nat} (hi : i < l.length) (hl : l.length ≤ 2000) (x : Int × Int × Int) (W : World) (B X g cap : Nat) (cur : Array Value) (hBW : B ≤ W.heap.size) (hcur : W.heap[g]? = some (.cells cur 102 (0, 0))) (hnc : l.length ≤ cap) (hroom : ¬ l.length + 1 ≤ cap) (hsize : cur.size = cap * 3) (htake : cur.toList.take (l.length * 3) = cellsT l)
  (hX : W.heap[X]? = some (.cells (trip x).toArray 102 (0, 0))) :
  Calls Try.prog 41 #[.slice (some ⟨g, 0, none⟩) l.length cap, .int .i64 i, .slice (some ⟨X, 0, none⟩) 1 1] W fun e w' => ∃ v', e = .returned v' ∧ w'.ownsRow B 102 3 v' (l.length + 1) (cellsT (l.take i ++ x :: l.drop i)) ∧ W.grownBy w' (some g) := by
 obtain rfl : cap = l.length := by omega
 obtain ⟨i0, hi0, hz0, hz1, hz2⟩ := info_parts info102
 have hcl : ∀ (j : Nat) (u : Value), (cellsT l)[j]? = some u → cur[j]? = some u := by
  intro j u hj
  rw [← htake, List.getElem?_take] at hj
  split at hj
  ·simpa using hj
  ·cases hj
 have hdl : (cellsT (l.drop i)).length = (l.length - i) * 3 := by rw [cellsT_len, List.length_drop]
 have htl : (cellsT (l.take i)).length = i * 3 := by rw [cellsT_len, List.length_take, Nat.min_eq_left (by omega)]
 have hsrcB : ∀ (j : Nat) (u : Value), (cellsT (l.drop i))[j]? = some u → cur[i * 3 + j]? = some u := fun j u hj => hcl _ _ (by rw [← cellsT_drop, List.getElem?_drop] at hj; exact hj)
 have hsrcA : ∀ (j : Nat) (u : Value), (cellsT (l.take i))[j]? = some u → cur[j]? = some u := fun j u hj => hcl _ _ (by
  have hj2 := (List.getElem?_eq_some_iff.1 hj).1
  rw [htl] at hj2
  rw [← cellsT_take, List.getElem?_take, if_pos hj2] at hj; exact hj)
 have hold : (Builtin.firstCells i0.size i (.slice (some ⟨g, 0, none⟩) i l.length)).run Try.prog W.drew = .ok (cellsT (l.take i)).toArray W.drew := by
  rw [hz1]
  exact run_firstCells_some W.drew 3 i ⟨g, 0, none⟩ i l.length (cellsT (l.take i)) htl (fun j v hj => by
   rw [Addr.add_lit, Nat.zero_add]
   exact (cB (w := W.drew) hcur _).trans (hsrcA j v hj))
 have hik : i + (l.length + 1 - i) = l.length + 1 := by omega
 have hrz : ∀ ty, (Builtin.append_ #[26, 3] ty #[.slice (some ⟨g, 0, none⟩) i l.length, .int .i64 ((l.length + 1 - i : Nat) : Int)]).run Try.prog W =
   .ok (.slice (some ⟨W.heap.size, 0, none⟩) (l.length + 1) (grownCap W (l.length + 1) l.length 102)) (W.drew.alloc (.cells ((cellsT (l.take i)).toArray ++ Builtin.zeroCells (Value.cells (.agg #[.int .i64 0, .int .i64 0, .int .i64 0])) (l.length + 1 - i) ++ Builtin.zeroCells (Value.cells (.agg #[.int .i64 0, .int .i64 0, .int .i64 0])) (grownCap W (l.length + 1) l.length 102 - (l.length + 1))) 102)) := fun ty => by
  have h := Lib.run_append_grow_zeros W 26 3 ty 102 i0 _ .i64 .i64 Try.underlying26 Try.underlying3 hi0 hz0 (some ⟨g, 0, none⟩) i l.length (cellsT (l.take i)) hold (l.length + 1 - i) (by omega) (by rw [hz1]; decide) (by omega) (by omega) (by rw [hz2]; omega) (by rw [hz2, hik]; exact growslice_fits (by omega) (by omega))
  rw [hik] at h
  exact h
 obtain ⟨G, hG⟩ : ∃ G, G = grownCap W (l.length + 1) l.length 102 := ⟨_, rfl⟩
 obtain ⟨R0, hR0⟩ : ∃ R0 : Array Value, R0 = (cellsT (l.take i)).toArray ++ Builtin.zeroCells (Value.cells (.agg #[.int .i64 0, .int .i64 0, .int .i64 0])) (l.length + 1 - i) ++ Builtin.zeroCells (Value.cells (.agg #[.int .i64 0, .int .i64 0, .int .i64 0])) (G - (l.length + 1)) := ⟨_, rfl⟩
 rw [← hG, ← hR0] at hrz
 have hGn : l.length + 1 ≤ G := by rw [hG]; exact grownCap_ge W _ _ _
 have hGm : G ≤ maxLen := by rw [hG]; exact grownCap_le_maxLen W _ _ _ (by unfold maxLen; omega)
 have hsR : R0.size = G * 3 := by
  have hz3 : (Value.cells (.agg #[.int .i64 0, .int .i64 0, .int .i64 0])).size = 3 := by kernel_rfl
  rw [hR0, Array.size_append, Array.size_append, size_zeroCells, size_zeroCells, hz3, List.size_toArray, htl]
  omega
 have hR0a : ∀ (j : Nat) (u : Value), (cellsT (l.take i))[j]? = some u → R0[j]? = some u := by
  intro j u hj
  have hj2 := (List.getElem?_eq_some_iff.1 hj).1
  rw [hR0, Array.append_assoc, Array.getElem?_append_left (by rw [List.size_toArray]; exact hj2), List.getElem?_toArray]
  exact hj
 obtain ⟨W1, hW1⟩ : ∃ W1, W1 = W.drew.alloc (.cells R0 102) := ⟨_, rfl⟩
 rw [← hW1] at hrz
 have hS1 : W1.heap[W.heap.size]? = some (.cells R0 102 (0, 0)) := by rw [hW1]; exact heap_alloc_new W.drew _
 have hk1 : ∀ k, k < W.heap.size → W1.heap[k]? = W.heap[k]? := fun k hk => by rw [hW1]; exact heap_alloc_old W.drew _ hk
 have hg1 : W1.heap[g]? = some (.cells cur 102 (0, 0)) := (hk1 g (blk_lt hcur)).trans hcur
 have hX1 : W1.heap[X]? = some (.cells (trip x).toArray 102 (0, 0)) := (hk1 X (blk_lt hX)).trans hX
 have hgS : g ≠ W.heap.size := Nat.ne_of_lt (blk_lt hcur)
 obtain ⟨R1, hR1⟩ : ∃ R1, R1 = over R0 (i * 3) (trip x) := ⟨_, rfl⟩
 have hfit1 : i * 3 + (trip x).length ≤ R0.size := by rw [hsR]; show i * 3 + 3 ≤ _; omega
 have hs1 : R1.size = R0.size := by rw [hR1]; exact over_size hfit1
 obtain ⟨W2, hW2⟩ : ∃ W2, W2 = W1.setRow W.heap.size R1 := ⟨_, rfl⟩
 have hmin1 : Nat.min 1 (l.length + 1 - i) = 1 := by simp only [Nat.min_def]; split <;> omega
 have hcp1 : ∀ ty dc, (Builtin.copy_ #[26, 26] ty #[.slice (some ⟨W.heap.size, i * 3, none⟩) (l.length + 1 - i) dc, .slice (some ⟨X, 0, none⟩) 1 1]).run Try.prog W1 = .ok (goInt 1) W2 := fun ty dc => by
  have h := run_copy3 W1 ty W.heap.size (i * 3) (l.length + 1 - i) dc ⟨X, 0, none⟩ 1 1 R0 102 (trip x) hS1 (by rw [hmin1]; rfl) (fun j v hj => by rw [Addr.add_lit, Nat.zero_add]; refine (cB hX1 j).trans ?_; rw [List.getElem?_toArray]; exact hj) hfit1 (by intro u hu; exact cellsT_one [x] u (by simpa [cellsT] using hu))
  rw [hmin1, ← hR1, ← hW2] at h
  exact h
 have hS2 : W2.drew.heap[W.heap.size]? = some (.cells R1 102 (0, 0)) := by rw [hW2]; exact setRow_heap W1 W.heap.size R0 R1 102 _ hS1
 have hg2 : W2.drew.heap[g]? = some (.cells cur 102 (0, 0)) := by rw [hW2]; exact (setRow_other W1 _ _ _ hgS).trans hg1
 obtain ⟨R2, hR2⟩ : ∃ R2, R2 = over R1 ((i + 1) * 3) (cellsT (l.drop i)) := ⟨_, rfl⟩
 have hfit2 : (i + 1) * 3 + (cellsT (l.drop i)).length ≤ R1.size := by rw [hs1, hsR, hdl]; omega
 have hs2 : R2.size = R1.size := by rw [hR2]; exact over_size hfit2
 obtain ⟨W3, hW3⟩ : ∃ W3, W3 = W2.drew.setRow W.heap.size R2 := ⟨_, rfl⟩
 have hmin2 : Nat.min (l.length - i) (l.length + 1 - (i + 1)) = l.length - i := by simp only [Nat.min_def]; split <;> omega
 have hcp2 : ∀ ty dc sc, (Builtin.copy_ #[26, 26] ty #[.slice (some ⟨W.heap.size, (i + 1) * 3, none⟩) (l.length + 1 - (i + 1)) dc, .slice (some ⟨g, i * 3, none⟩) (l.length - i) sc]).run Try.prog W2.drew = .ok (goInt ((l.length - i : Nat) : Int)) W3 := fun ty dc sc => by
  have h := run_copy3 W2.drew ty W.heap.size ((i + 1) * 3) (l.length + 1 - (i + 1)) dc ⟨g, i * 3, none⟩ (l.length - i) sc R1 102 (cellsT (l.drop i)) hS2 (by rw [hmin2, hdl]) (fun j v hj => by rw [Addr.add_lit]; exact (cB hg2 _).trans (hsrcB j v hj)) hfit2 (cellsT_one _)
  rw [hmin2, ← hR2, ← hW3] at h
  exact h
 have HRES : Hid (W3.ownsRow B 102 3 (.slice (some ⟨W.heap.size, 0, none⟩) (l.length + 1) G) (l.length + 1) (cellsT (l.take i ++ x :: l.drop i)) ∧ W.grownBy W3 (some g)) := by
  refine ⟨⟨?_, .inr ⟨W.heap.size, G, R2, rfl, hBW, by rw [hW3]; exact setRow_heap W2.drew _ R1 R2 102 _ hS2, hGn, hGm, by rw [hs2, hs1, hsR], ?_⟩⟩, ?_⟩
  ·rw [cellsT_len, List.length_append, List.length_take, List.length_cons, List.length_drop]; congr 1; omega
  ·refine ins_row (by omega) (by rw [hs2, hs1, hsR]; omega) ?_ ?_ ?_
   ·intro j u hj
    have hj2 := (List.getElem?_eq_some_iff.1 hj).1
    rw [htl] at hj2
    rw [hR2, over_get hfit2, if_neg (by omega), hR1, over_get hfit1, if_neg (by omega)]
    exact hR0a j u hj
   ·intro j u hj
    have hj2 : j < 3 := (List.getElem?_eq_some_iff.1 hj).1
    rw [hR2, over_get hfit2, if_neg (by omega), hR1, over_get hfit1, if_pos ⟨by omega, by show _ < i * 3 + 3; omega⟩, show i * 3 + j - i * 3 = j by omega]
    exact hj
   ·intro j u hj
    have hj2 := (List.getElem?_eq_some_iff.1 hj).1
    rw [hR2, over_get hfit2, if_pos ⟨by omega, by omega⟩, show (i + 1) * 3 + j - (i + 1) * 3 = j by omega]
    exact hj
  ·refine ⟨by rw [hW3, hW2, hW1]; rfl, by rw [hW3, hW2, hW1]; rfl, by rw [hW3, hW2, hW1]; rfl, ?_, ?_⟩
   ·rw [hW3, hW2, hW1]; simp [World.setRow]
   ·intro k hk hkg
    have hkS : k ≠ W.heap.size := by omega
    rw [hW3, setRow_other _ _ _ _ hkS]
    show W2.heap[k]? = _
    rw [hW2, setRow_other _ _ _ _ hkS]
    exact hk1 k hk
 have HCP1 := Lib.hid hcp1
 have HCP2 := Lib.hid hcp2
 clear hcp1 hcp2 hcl hdl htl hsrcB hsrcA hold hik hG hR0 hsR hR0a hW1 hS1 hk1 hg1 hX1 hR1 hfit1 hs1 hW2 hmin1 hS2 hg2 hR2 hfit2 hs2 hW3 hmin2 hBW hcur hsize htake hX hi0 hz0 hz1 hz2
 have HS := Lib.hid hgS; clear hgS
 generalize hSz : W.heap.size = S at *
 clear hSz
 generalize hn : l.length = n at *
 have ek : (n : Int) + 1 - (i : Int) = ((n + 1 - i : Nat) : Int) := by omega
 have hw3 : wrap64 ((n : Int) + 1 - (i : Int)) = ((n + 1 - i : Nat) : Int) := (wrap_small (by omega) (by omega)).trans ek
 have hw3' : IntKind.i64.wrap ((n : Int) + 1 - (i : Int)) = ((n + 1 - i : Nat) : Int) := (Go.IntWalk.i64_left _).trans hw3
 have hw1' : wrap64 ((i : Int) + 1) = (i : Int) + 1 := wrap_small (by omega) (by omega)
 have hw2' : wrap64 ((n : Int) + 1) = (n : Int) + 1 := wrap_small (by omega) (by omega)
 have hw1 : IntKind.i64.wrap ((i : Int) + 1) = (i : Int) + 1 := (Go.IntWalk.i64_left _).trans hw1'
 have hw2 : IntKind.i64.wrap ((n : Int) + 1) = (n : Int) + 1 := (Go.IntWalk.i64_left _).trans hw2'
 clear ek
 have hb1 : (0 : Int) ≤ (i : Int) + 1 := by omega
 have hin : i ≤ n := by omega
 have hz2 : ¬ ((i : Int) = (n : Int)) := by omega
 have hb2 : ¬ (G = i + 1) := by omega
 have hb3 : (i : Int) ≤ (n : Int) + 1 := by omega
 have hb4 : ¬ (G = i) := by omega
 have hb4' : ¬ (n = i) := by omega
 have hb6 : (i : Int) + 1 ≤ (n : Int) + 1 := by omega
 have hb9 : ((i : Int) == (n : Int)) = false := by simpa using hz2
 have hb11 : i ≤ n + 1 := by omega
 have hc63 : G ≤ 9223372036854775807 := by unfold maxLen at hGm; omega
 have hc64 : n ≤ 9223372036854775807 := by omega
 clear hGm hl hroom
 have HI2 := Lib.hid hi
 clear hi
 go_enter Try.func41, Try.ntmps41
 have HRZ := Lib.hid hrz
 clear hrz
 go_upto_region 10 with (at_builtin; refine Lib.wpList_append_run _ rfl _ _ _ _ rfl _ _ rfl rfl _ _ (HRZ.out _) ?_)
 have hcp1 := HCP1.out
 go_upto_region 11 with fail
 clear hcp1
 go_region_law (refine step_copy_run rfl (.tmp 50) (.tmp 53) 26 26 rfl (.slice (some ⟨S, (i + 1) * 3, none⟩) (n + 1 - (i + 1)) (G - (i + 1))) (.slice (some ⟨g, i * 3, none⟩) (n - i) (n - i)) (by simp [Act.eval, Act.put]) (by simp [Act.eval, Act.put]) (HCP2.out _ _ _) ?_)
 go_wp2_with fail
 go_ret
 exact ⟨_, rfl, HRES.out.1, HRES.out.2⟩
theorem insert_any {l : List (Int × Int × Int)} {i : Nat} (hi : i ≤ l.length) (hl : l.length ≤ 2000) (x : Int × Int × Int) : InsC i l x := by
 rcases Nat.lt_or_ge i l.length with h | h
 ·intro W B X v ho hB hX hne
  rcases ho.2 with ⟨_, h0⟩ | ⟨g, cap, cur, rfl, hBg, hcur, hcap, hmax, hsize, htake⟩
  ·omega
  ·have hgX : g ≠ X := by rintro rfl; exact hne rfl
   by_cases hroom : l.length + 1 ≤ cap
   ·exact insert_room h hl x W B X g cap cur hBg hcur hroom hmax hsize htake hX hgX
   ·exact insert_grow h hl x W B X g cap cur hB hcur hcap hroom hsize htake hX
 ·obtain rfl : i = l.length := by omega
  exact insert_end hl x
end Go.Proofs.Ytgbafpjeapkklaa.Mb
namespace Go.Proofs.Ytgbafpjeapkklaa.Mb
open Go.RowKit
set_option linter.unusedVariables false
set_option linter.unusedSimpArgs false
def zv : Value := .agg #[.slice none 0 0, .int .i64 0, .int .i64 0, .slice none 0 0, .bool false]
theorem CB.frz {w : World} {ns ps : Value} {m d : Int} {b : Bool} {W : World} (h : CB w ns ps m d b W) :
  W.frozen? ⟨w.heap.size + 1, 0, none⟩ = false ∧ W.frozen? ⟨w.heap.size + 1, 1, none⟩ = false ∧ W.frozen? ⟨w.heap.size + 1, 2, none⟩ = false ∧ W.frozen? ⟨w.heap.size + 1, 3, none⟩ = false ∧ W.frozen? ⟨w.heap.size + 1, 4, none⟩ = false :=
 ⟨frozen_blk h.2.2 0, frozen_blk h.2.2 1, frozen_blk h.2.2 2, frozen_blk h.2.2 3, frozen_blk h.2.2 4⟩
theorem CB.zero {w : World} {ns ps : Value} {m d : Int} {b : Bool} {W : World} (h : CB w ns ps m d b W) :
  W.cell? ⟨w.heap.size + 1, 0, none⟩ = some (.slice none 0 0) ∧ W.cell? ⟨w.heap.size + 1, 1, none⟩ = some (.int .i64 0) ∧ W.cell? ⟨w.heap.size + 1, 2, none⟩ = some (.int .i64 0) ∧ W.cell? ⟨w.heap.size + 1, 3, none⟩ = some (.slice none 0 0) ∧ W.cell? ⟨w.heap.size + 1, 4, none⟩ = some (.bool false) :=
 z_cells h.2.2
theorem CB.out {w : World} {ns ps : Value} {m d : Int} {b : Bool} {W : World} (h : CB w ns ps m d b W) {W' : World}
  (hW : W' = (((((W.setCell ⟨w.heap.size + 1, 0, none⟩ (.slice none 0 0)).setCell ⟨w.heap.size + 1, 1, none⟩ (.int .i64 0)).setCell ⟨w.heap.size + 1, 2, none⟩ (.int .i64 0)).setCell ⟨w.heap.size + 1, 3, none⟩ (.slice none 0 0)).setCell ⟨w.heap.size + 1, 4, none⟩ (.bool false))) :
  Below w.heap.size w W' ∧ W'.heap[w.heap.size + 1]? = some (.cells #[.slice none 0 0, .int .i64 0, .int .i64 0, .slice none 0 0, .bool false] 28 (0, 0)) := by
 subst hW
 obtain ⟨f1, f2, f3⟩ := five h.2.2 (.slice none 0 0) (.int .i64 0) (.int .i64 0) (.slice none 0 0) (.bool false)
 exact ⟨f2 _ _ (Nat.le_succ _) h.1, f1⟩
end Go.Proofs.Ytgbafpjeapkklaa.Mb
namespace Go.Proofs.Ytgbafpjeapkklaa.Mb
open Go.RowKit
set_option linter.unusedVariables false
set_option linter.unusedSimpArgs false
theorem kind_of (x : Int) (h1 : -128 ≤ x) (h2 : x ≤ 127) : ∃ (r : Int) (kk : Nat), x.tmod 6 = r ∧ -6 < r ∧ r < 6 ∧ (r + 6).tmod 6 = (kk : Int) ∧ kk < 6 := by
 have e : x.tmod 6 = x - 6 * x.tdiv 6 := by have := Int.tmod_add_mul_tdiv x 6; omega
 have b1 : x.tmod 6 < 6 := Int.tmod_lt_of_pos x (by decide)
 have b2 : -6 < x.tmod 6 := Int.lt_tmod_of_pos x (by decide)
 refine ⟨x.tmod 6, ((x.tmod 6 + 6).tmod 6).toNat, rfl, b2, b1, ?_, ?_⟩
 ·have := Int.tmod_nonneg (a := x.tmod 6 + 6) 6 (by omega); omega
 ·have := Int.tmod_lt_of_pos (x.tmod 6 + 6) (b := 6) (by decide)
  have := Int.tmod_nonneg (a := x.tmod 6 + 6) 6 (by omega); omega
end Go.Proofs.Ytgbafpjeapkklaa.Mb
