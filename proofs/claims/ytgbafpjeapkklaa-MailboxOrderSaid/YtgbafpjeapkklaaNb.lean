/- Mailbox: slices.Insert ahead of the end: its walk. -/
import Derived.Test.YtgbafpjeapkklaaNa
namespace Go.Proofs.Ytgbafpjeapkklaa.Mb
open Go.RowKit
set_option linter.unusedVariables false
set_option linter.unusedSimpArgs false

theorem sizeOf102 (w : World) : (Go.sizeOf 102).run Try.prog w = .ok 3 w := by kernel_rfl

set_option maxRecDepth 100000 in
set_option maxHeartbeats 4000000 in
theorem insert_room {l : List (Int × Int × Int)} {i : Nat} (hi : i < l.length) (hl : l.length ≤ 2000) (x : Int × Int × Int) (W : World) (B X g cap : Nat) (cur : Array Value) (hBg : B ≤ g) (hcur : W.heap[g]? = some (.cells cur 102 (0, 0))) (hroom : l.length + 1 ≤ cap) (hmax : cap ≤ maxLen) (hsize : cur.size = cap * 3) (htake : cur.toList.take (l.length * 3) = cellsT l)
    (hX : W.heap[X]? = some (.cells (trip x).toArray 102 (0, 0))) (hne : g ≠ X) :
    Calls Try.prog 41 #[.slice (some ⟨g, 0, none⟩) l.length cap, .int .i64 i, .slice (some ⟨X, 0, none⟩) 1 1] W fun e w' => ∃ v', e = .returned v' ∧ w'.ownsRow B 102 3 v' (l.length + 1) (cellsT (l.take i ++ x :: l.drop i)) ∧ W.grownBy w' (some g) := by
  have hcl : ∀ (j : Nat) (u : Value), (cellsT l)[j]? = some u → cur[j]? = some u := by
    intro j u hj
    rw [← htake, List.getElem?_take] at hj
    split at hj
    · simpa using hj
    · cases hj
  have hdl : (cellsT (l.drop i)).length = (l.length - i) * 3 := by rw [cellsT_len, List.length_drop]
  have htl : (cellsT (l.take i)).length = i * 3 := by rw [cellsT_len, List.length_take, Nat.min_eq_left (by omega)]
  have hsrcB : ∀ (j : Nat) (u : Value), (cellsT (l.drop i))[j]? = some u → cur[i * 3 + j]? = some u := fun j u hj => hcl _ _ (by rw [← cellsT_drop, List.getElem?_drop] at hj; exact hj)
  -- the first copy
  obtain ⟨cur1, hcur1⟩ : ∃ cur1, cur1 = over cur ((i + 1) * 3) (cellsT (l.drop i)) := ⟨_, rfl⟩
  have hfit1 : (i + 1) * 3 + (cellsT (l.drop i)).length ≤ cur.size := by rw [hdl, hsize]; omega
  have hs1 : cur1.size = cur.size := by rw [hcur1]; exact over_size hfit1
  obtain ⟨W1, hW1⟩ : ∃ W1, W1 = W.drew.setRow g cur1 := ⟨_, rfl⟩
  have hmin : Nat.min (l.length + 1 - i) (l.length + 1 - (i + 1)) = l.length - i := by simp only [Nat.min_def]; split <;> omega
  have hcp1 : ∀ ty dc sc, (Builtin.copy_ #[26, 26] ty #[.slice (some ⟨g, (i + 1) * 3, none⟩) (l.length + 1 - (i + 1)) dc, .slice (some ⟨g, i * 3, none⟩) (l.length + 1 - i) sc]).run Try.prog W.drew = .ok (goInt ((l.length - i : Nat) : Int)) W1 := fun ty dc sc => by
    have h := run_copy3 W.drew ty g ((i + 1) * 3) (l.length + 1 - (i + 1)) dc ⟨g, i * 3, none⟩ (l.length + 1 - i) sc cur 102 (cellsT (l.drop i)) hcur (by rw [hmin, hdl]) (fun j v hj => by rw [Addr.add_lit]; exact (cell_blk (w := W.drew) hcur _).trans (hsrcB j v hj)) hfit1 (cellsT_one _)
    rw [hmin, ← hcur1, ← hW1] at h
    exact h
  have hg1 : W1.heap[g]? = some (.cells cur1 102 (0, 0)) := by rw [hW1]; exact setRow_heap W.drew g cur cur1 102 _ hcur
  have hX1 : W1.heap[X]? = some (.cells (trip x).toArray 102 (0, 0)) := by rw [hW1, setRow_other _ _ _ _ (fun e => hne e.symm)]; exact hX
  -- the second copy
  obtain ⟨cur2, hcur2⟩ : ∃ cur2, cur2 = over cur1 (i * 3) (trip x) := ⟨_, rfl⟩
  have hfit2 : i * 3 + (trip x).length ≤ cur1.size := by rw [hs1, hsize]; show i * 3 + 3 ≤ _; omega
  have hs2 : cur2.size = cur1.size := by rw [hcur2]; exact over_size hfit2
  obtain ⟨W2, hW2⟩ : ∃ W2, W2 = W1.setRow g cur2 := ⟨_, rfl⟩
  have hmin2 : Nat.min 1 (l.length + 1 - i) = 1 := by simp only [Nat.min_def]; split <;> omega
  have hcp2 : ∀ ty dc, (Builtin.copy_ #[26, 26] ty #[.slice (some ⟨g, i * 3, none⟩) (l.length + 1 - i) dc, .slice (some ⟨X, 0, none⟩) 1 1]).run Try.prog W1 = .ok (goInt 1) W2 := fun ty dc => by
    have h := run_copy3 W1 ty g (i * 3) (l.length + 1 - i) dc ⟨X, 0, none⟩ 1 1 cur1 102 (trip x) hg1 (by rw [hmin2]; rfl) (fun j v hj => by rw [Addr.add_lit, Nat.zero_add]; refine (cell_blk hX1 j).trans ?_; rw [List.getElem?_toArray]; exact hj) hfit2 (by intro u hu; exact cellsT_one [x] u (by simpa [cellsT] using hu))
    rw [hmin2, ← hcur2, ← hW2] at h
    exact h
  have hov : ∀ lb cb, (callFunc 64 #[.slice (some ⟨X, 0, none⟩) 1 1, .slice (some ⟨g, (i + 1) * 3, none⟩) lb cb]).run Try.prog W = .ok (.value (.bool false)) W := fun lb cb => by
    rw [run_callFunc_extern Try.func64 (by kernel_rfl) (by kernel_rfl) (by kernel_rfl) (e := Extern.SlicesOverlaps.overlaps #[26, 26] #[4]) (by kernel_rfl),
      Lib.run_overlaps_apart W 26 4 102 Try.underlying26 3 sizeOf102 ⟨X, 0, none⟩ ⟨g, (i + 1) * 3, none⟩ 1 1 lb cb (fun e => hne e.symm) 102 102 3 (cap * 3) (by simp [World.shape?, hX, trip]) (by simp [World.shape?, hcur, hsize]) (by omega) (frozen_blk hX _) (frozen_blk hX _)]
    rfl
  have HRES : Hid (W2.ownsRow B 102 3 (.slice (some ⟨g, 0, none⟩) (l.length + 1) cap) (l.length + 1) (cellsT (l.take i ++ x :: l.drop i)) ∧ W.grownBy W2 (some g)) := by
    refine ⟨⟨?_, .inr ⟨g, cap, cur2, rfl, hBg, by rw [hW2]; exact setRow_heap W1 g cur1 cur2 102 _ hg1, hroom, hmax, by rw [hs2, hs1, hsize], ?_⟩⟩, ?_⟩
    · rw [cellsT_len, List.length_append, List.length_take, List.length_cons, List.length_drop]; congr 1; omega
    · refine ins_row (by omega) (by rw [hs2, hs1, hsize]; omega) ?_ ?_ ?_
      · intro j u hj
        have hj2 := (List.getElem?_eq_some_iff.1 hj).1
        rw [htl] at hj2
        rw [hcur2, over_get hfit2, if_neg (by omega), hcur1, over_get hfit1, if_neg (by omega)]
        exact hcl j u (by rw [← cellsT_take, List.getElem?_take, if_pos hj2] at hj; exact hj)
      · intro j u hj
        have hj2 : j < 3 := (List.getElem?_eq_some_iff.1 hj).1
        rw [hcur2, over_get hfit2, if_pos ⟨by omega, by show _ < i * 3 + 3; omega⟩, show i * 3 + j - i * 3 = j by omega]
        exact hj
      · intro j u hj
        have hj2 := (List.getElem?_eq_some_iff.1 hj).1
        rw [hcur2, over_get hfit2, if_neg (by show ¬ (_ ∧ _ < i * 3 + 3); omega), hcur1, over_get hfit1, if_pos ⟨by omega, by omega⟩, show (i + 1) * 3 + j - (i + 1) * 3 = j by omega]
        exact hj
    · refine ⟨by rw [hW2, hW1]; rfl, by rw [hW2, hW1]; rfl, by rw [hW2, hW1]; rfl, ?_, ?_⟩
      · rw [hW2, hW1]; simp [World.setRow]
      · intro k _ hk
        rw [hW2, hW1, setRow_other _ _ _ _ (fun e => hk (by rw [e])), setRow_other _ _ _ _ (fun e => hk (by rw [e]))]
        rfl
  have HCP1 := Lib.hid hcp1
  have HCP2 := Lib.hid hcp2
  clear hcp1 hcp2 hcl hdl htl hsrcB hcur1 hfit1 hs1 hW1 hmin hg1 hX1 hcur2 hfit2 hs2 hW2 hmin2 hBg hcur hsize htake hX
  generalize hn : l.length = n at *
  have hw1 : IntKind.i64.wrap ((i : Int) + 1) = (i : Int) + 1 := by rw [Go.IntWalk.i64_left]; unfold wrap64; omega
  have hw2 : IntKind.i64.wrap ((n : Int) + 1) = (n : Int) + 1 := by rw [Go.IntWalk.i64_left]; unfold wrap64; omega
  have hw1' : wrap64 ((i : Int) + 1) = (i : Int) + 1 := by unfold wrap64; omega
  have hw2' : wrap64 ((n : Int) + 1) = (n : Int) + 1 := by unfold wrap64; omega
  have hb1 : (0 : Int) ≤ (i : Int) + 1 := by omega
  have hin : i ≤ n := by omega
  have hz2 : ¬ ((i : Int) = (n : Int)) := by omega
  have hb2 : ¬ (cap = i + 1) := by omega
  have hb3 : (i : Int) ≤ (n : Int) + 1 := by omega
  have hb4 : ¬ (cap = i) := by omega
  have hb5 : ¬ ((cap : Int) < (n : Int) + 1) := by omega
  have hb6 : (i : Int) + 1 ≤ (n : Int) + 1 := by omega
  have hb7 : (n : Int) + 1 ≤ (cap : Int) := by omega
  have hb8 : n + 1 ≤ cap := hroom
  have hb9 : ((i : Int) == (n : Int)) = false := by simpa using hz2
  have hb10 : decide ((cap : Int) < (n : Int) + 1) = false := decide_eq_false hb5
  have hc63 : cap ≤ 9223372036854775807 := by unfold maxLen at hmax; omega
  clear hmax hi hl hroom
  go_enter Try.func41, Try.ntmps41
  go_wp2_with (simp only [hov])
  go_region_law (refine step_copy_run rfl (.tmp 73) (.tmp 76) 26 26 rfl (.slice (some ⟨g, (i + 1) * 3, none⟩) (n + 1 - (i + 1)) (cap - (i + 1))) (.slice (some ⟨g, i * 3, none⟩) (n + 1 - i) (cap - i)) (by simp [Act.eval, Act.put]) (by simp [Act.eval, Act.put]) (HCP1.out _ _ _) ?_)
  have hcp2 := HCP2.out
  go_wp2_with fail
  go_ret
  exact ⟨_, rfl, HRES.out.1, HRES.out.2⟩
end Go.Proofs.Ytgbafpjeapkklaa.Mb
