/- Mailbox: slices.Delete. -/
import Derived.Test.YtgbafpjeapkklaaMj
import Derived.Deep.RegionLaw
import Derived.Deep.RegionWith
namespace Go.Proofs.Ytgbafpjeapkklaa.Mb
open Go.RowKit
set_option linter.unusedVariables false
set_option linter.unusedSimpArgs false

theorem step_append_run {P : Program} {ops : Array Oper} {o : Oper} {a : Act} {w : World} {K : Act → World → Prop} {Q : Exit → Act → World → Prop} {E : Prop}
    (hg : o.guard = none) (d x : Operand) (t : TypeId) (hop : o.op = Op.call { callee := Callee.builtin Builtin.append, args := #[d, x], argTypes := #[t, t] })
    (v u : Value) (hd : a.eval d = v) (hx : a.eval x = u) {v' : Value} {w' : World} (hr : (Builtin.append_ #[t, t] o.type #[v, u]).run P w = .ok v' w') (hK : K (a.put o.dst v') w') :
    if Region.wanted o (yielded ops a.tmps) = true then Oper.wp P o a w K Q else E := by
  have hw : Region.wanted o (yielded ops a.tmps) = true := by simp [Region.wanted, hg]
  rw [if_pos hw]
  unfold Oper.wp
  simp [execOp, hop, resolve, invoke, builtin, hd, hx, hr, Result.andThen]
  exact hK

theorem cellsT_take (l : List (Int × Int × Int)) : ∀ i, (cellsT l).take (i * 3) = cellsT (l.take i) := by
  induction l with
  | nil => intro i; simp [cellsT]
  | cons x l ih =>
    intro i
    cases i with
    | zero => simp [cellsT]
    | succ i => rw [cellsT_cons, List.take_succ_cons, cellsT_cons, ← ih i, show (i + 1) * 3 = (trip x).length + i * 3 by simp [trip]; omega, List.take_length_add_append]
theorem cellsT_drop (l : List (Int × Int × Int)) : ∀ i, (cellsT l).drop (i * 3) = cellsT (l.drop i) := by
  induction l with
  | nil => intro i; simp [cellsT]
  | cons x l ih =>
    intro i
    cases i with
    | zero => simp [cellsT]
    | succ i => rw [cellsT_cons, List.drop_succ_cons, ← ih i, show (i + 1) * 3 = (trip x).length + i * 3 by simp [trip]; omega, List.drop_length_add_append]

/-- The last of a row is cleared. -/
theorem clear_last (W : World) (ty : TypeId) (g c k : Nat) (cur : Array Value) (hg : W.heap[g]? = some (.cells cur 102 (0, 0))) (hk : k * 3 + 3 ≤ cur.size) :
    (Builtin.clear_ #[26] ty #[.slice (some ⟨g, k * 3, none⟩) 1 c]).run Try.prog W = .ok (.tuple #[]) (W.setRow g (cur.toList.take (k * 3) ++ trip (0, 0, 0) ++ cur.toList.drop (k * 3 + 3)).toArray) := by
  have hz : ∀ w, (zeroValue 102).run Try.prog w = .ok (.agg #[.int .i64 0, .int .i64 0, .int .i64 0]) w := fun w => by kernel_rfl
  have hzc : (Builtin.zeroCells (Value.cells (.agg #[.int .i64 0, .int .i64 0, .int .i64 0])) 1).toList = trip (0, 0, 0) := by kernel_rfl
  have hst := run_storeCells_at Try.prog g (k * 3) 102 (trip (0, 0, 0)) 0 cur W hg (by simpa [trip] using hk) (by intro v hv; simp [trip] at hv; subst hv; rfl)
  simp only [Nat.add_zero] at hst
  simp [Builtin.clear_, run_underlying Try.underlying26, hz, Result.andThen, hzc]
  rw [hst]
  simp [trip]

set_option maxRecDepth 100000 in
set_option maxHeartbeats 4000000 in
theorem delete_at {W : World} {B : Nat} {v : Value} {l : List (Int × Int × Int)} (h : W.ownsRow B 102 3 v l.length (cellsT l)) (hl : l.length ≤ 2000) (i : Nat) (hi : i < l.length) :
    Calls Try.prog 42 #[v, .int .i64 i, .int .i64 ((i : Int) + 1)] W fun e w' => ∃ v', e = .returned v' ∧ w'.ownsRow B 102 3 v' (l.length - 1) (cellsT (l.eraseIdx i)) ∧ W.grownBy w' v.ownBlock := by
  obtain ⟨i0, hi0, hz0, hz1, hz2⟩ := info_parts info102
  rcases h.2 with ⟨_, h0⟩ | ⟨g, cap, cur, rfl, hBg, hcur, hcap, hmax, hsize, htake⟩
  · omega
  obtain ⟨news, hnews⟩ : ∃ news, news = cellsT (l.drop (i + 1)) := ⟨_, rfl⟩
  have hlen : news.length = (l.length - (i + 1)) * 3 := by rw [hnews, cellsT_len]; simp
  have hsrc0 : ∀ t u, news[t]? = some u → cur[(i + 1) * 3 + t]? = some u := by
    intro t u hu
    have ht : t < (l.length - (i + 1)) * 3 := by
      have := (List.getElem?_eq_some_iff.1 hu).1
      rwa [hlen] at this
    rw [hnews, ← cellsT_drop, List.getElem?_drop, ← htake, List.getElem?_take, if_pos (by omega)] at hu
    simpa using hu
  obtain ⟨A, hA, hsrc⟩ : ∃ A : Addr, (if cap = i + 1 then some (⟨g, 0, none⟩ : Addr) else some ⟨g, (i + 1) * 3, none⟩) = some A ∧ Hid (∀ t u, news[t]? = some u → W.drew.cell? (A.add t) = some u) := by
    by_cases hc : cap = i + 1
    · refine ⟨⟨g, 0, none⟩, by simp [hc], fun t u hu => ?_⟩
      have h0 : news.length = 0 := by rw [hlen]; omega
      rw [List.length_eq_zero_iff.1 h0] at hu
      simp at hu
    · refine ⟨⟨g, (i + 1) * 3, none⟩, by simp [hc], fun t u hu => ?_⟩
      rw [Addr.add_lit]
      exact (cell_blk (w := W.drew) hcur _).trans (hsrc0 t u hu)
  have H1 : Hid (∀ u ∈ news, u.oneCell' = true) := by rw [hnews]; exact cellsT_one _
  have hap := fun (ty : TypeId) => run_append_room (P := Try.prog) W.drew 26 ty 102 i0 Try.underlying26 hi0 g i cap cur hcur A (l.length - (i + 1)) (cap - (i + 1)) news (by rw [hz1]; exact hlen) hsrc.out H1.out (by omega) (by rw [hz1, hlen, hsize]; omega)
  rw [hz1, show i + (l.length - (i + 1)) = l.length - 1 by omega] at hap
  obtain ⟨cur1, hcur1⟩ : ∃ cur1, cur1 = (cur.toList.take (i * 3) ++ news ++ cur.toList.drop (i * 3 + news.length)).toArray := ⟨_, rfl⟩
  rw [← hcur1] at hap
  obtain ⟨W1, hW1⟩ : ∃ W1, W1 = W.drew.setRow g cur1 := ⟨_, rfl⟩
  rw [← hW1] at hap
  have hg1 : W1.heap[g]? = some (.cells cur1 102 (0, 0)) := by rw [hW1]; exact setRow_heap W.drew g cur cur1 102 _ hcur
  have hs1 : cur1.size = cur.size := by
    rw [hcur1]
    simp only [List.size_toArray, List.length_append, List.length_take, List.length_drop, Array.length_toList]
    rw [hlen, hsize]
    omega
  have hcl := fun ty => clear_last W1 ty g (cap - (l.length - 1)) (l.length - 1) cur1 hg1 (by rw [hs1, hsize]; omega)
  obtain ⟨W2, hW2⟩ : ∃ W2, W2 = W1.setRow g (cur1.toList.take ((l.length - 1) * 3) ++ trip (0, 0, 0) ++ cur1.toList.drop ((l.length - 1) * 3 + 3)).toArray := ⟨_, rfl⟩
  rw [← hW2] at hcl
  have HRES : Hid (W2.ownsRow B 102 3 (.slice (some ⟨g, 0, none⟩) (l.length - 1) cap) (l.length - 1) (cellsT (l.eraseIdx i)) ∧ W.grownBy W2 (some g)) := by
    refine ⟨⟨?_, .inr ⟨g, cap, _, rfl, hBg, by rw [hW2]; exact setRow_heap W1 g cur1 _ 102 _ hg1, by omega, hmax, ?_, ?_⟩⟩, ?_⟩
    · rw [cellsT_len, List.length_eraseIdx, if_pos hi]
    · simp only [List.size_toArray, List.length_append, List.length_take, List.length_drop, Array.length_toList, trip, List.length_cons, List.length_nil]
      rw [hs1, hsize]
      omega
    · have e1 : cur.toList.take (i * 3) = cellsT (l.take i) := by
        rw [← cellsT_take, ← htake, List.take_take, Nat.min_eq_left (by omega)]
      have e2 : (cellsT (l.take i)).length = i * 3 := by rw [cellsT_len]; simp; omega
      have e3 : cur1.toList.take ((l.length - 1) * 3) = cellsT (l.eraseIdx i) := by
        rw [hcur1, e1]
        show (cellsT (l.take i) ++ news ++ _).take _ = _
        rw [List.eraseIdx_eq_take_drop_succ, cellsT_append, hnews]
        rw [← hnews]
        refine List.take_left' ?_
        rw [List.length_append, e2, hlen]
        omega
      rw [e3]
      show (cellsT (l.eraseIdx i) ++ trip (0, 0, 0) ++ _).take _ = _
      rw [List.append_assoc]
      refine List.take_left' ?_
      rw [cellsT_len, List.length_eraseIdx, if_pos hi]
    · refine ⟨by rw [hW2, hW1]; rfl, by rw [hW2, hW1]; rfl, by rw [hW2, hW1]; rfl, ?_, ?_⟩
      · rw [hW2, hW1]; simp [World.setRow]
      · intro k _ hk
        rw [hW2, hW1, setRow_other _ _ _ _ (fun e => hk (by rw [e])), setRow_other _ _ _ _ (fun e => hk (by rw [e]))]
        rfl
  have HAP := Lib.hid hap
  have HL := Lib.hid hlen
  clear hW1 hW2 hcur1 hs1 hg1 hsrc0 hsrc hnews hlen htake hsize hcur hBg H1 hi0 hz0 hz1 hz2 h hap
  generalize hn : l.length = n at *
  obtain ⟨N, rfl⟩ : ∃ N, n = N + 1 := ⟨n - 1, by omega⟩
  simp only [Nat.add_sub_cancel, Nat.add_sub_add_right] at *
  have hiN : i ≤ N := by omega
  have hcn : ¬ cap = N := by omega
  have hcn' : ¬ N = cap := by omega
  have hNN : (N : Int) ≤ (N : Int) + 1 := by omega
  have hNc : N ≤ cap := by omega
  have hiw : wrap64 ((i : Int) + 1) = (i : Int) + 1 := by unfold wrap64; omega
  have hne : ((i : Int) == (i : Int) + 1) = false := by simp; omega
  have d1 : decide ((i : Int) ≤ (i : Int) + 1) = true := decide_eq_true (by omega)
  have hic : i ≤ cap := by omega
  have hjc : i + 1 ≤ cap := by omega
  have hin' : (i : Int) + 1 ≤ ((N + 1 : Nat) : Int) := by omega
  have hi0' : 0 ≤ (i : Int) + 1 := by omega
  have hi00 : 0 ≤ (i : Int) := by omega
  have hcm : cap ≤ 9223372036854775807 := by unfold maxLen at hmax; omega
  clear hmax
  go_enter Try.func42, Try.ntmps42
  go_upto_region 5 with fail
  go_region_law (refine step_append_run rfl (.tmp 22) (.tmp 25) 26 rfl (.slice (some ⟨g, 0, none⟩) i cap) (.slice (some A) (N - i) (cap - (i + 1))) (by simp [Act.eval, Act.put]) (by simp [Act.eval, Act.put]) (HAP.out _) ?_)
  go_wp2_with fail
  go_ret
  exact ⟨_, rfl, HRES.out.1, HRES.out.2⟩
end Go.Proofs.Ytgbafpjeapkklaa.Mb
