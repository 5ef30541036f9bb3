/- Mailbox: slices.Insert at the end. -/
import Derived.Test.YtgbafpjeapkklaaMl
namespace Go.Proofs.Ytgbafpjeapkklaa.Mb
open Go.RowKit
set_option linter.unusedVariables false
set_option linter.unusedSimpArgs false

/-- What slices.Insert of one push does. -/
def InsC (k : Nat) (l : List (Int × Int × Int)) (x : Int × Int × Int) : Prop :=
  ∀ (W : World) (B X : Nat) (v : Value), W.ownsRow B 102 3 v l.length (cellsT l) → B ≤ W.heap.size → W.heap[X]? = some (.cells (trip x).toArray 102 (0, 0)) → v.ownBlock ≠ some X →
    Calls Try.prog 41 #[v, .int .i64 k, .slice (some ⟨X, 0, none⟩) 1 1] W fun e w' => ∃ v', e = .returned v' ∧ w'.ownsRow B 102 3 v' (l.length + 1) (cellsT (l.take k ++ x :: l.drop k)) ∧ W.grownBy w' v.ownBlock

theorem trip_src {W : World} {X : Nat} {x : Int × Int × Int} (hX : W.heap[X]? = some (.cells (trip x).toArray 102 (0, 0))) : ∀ j u, (cellsT [x])[j]? = some u → W.cell? ((⟨X, 0, none⟩ : Addr).add j) = some u := by
  intro j u hj
  have e : cellsT [x] = trip x := by simp [cellsT]
  rw [e] at hj
  rw [Addr.add_lit, Nat.zero_add]
  refine (cell_blk hX j).trans ?_
  rw [List.getElem?_toArray]
  exact hj

set_option maxRecDepth 100000 in
set_option maxHeartbeats 4000000 in
theorem insert_end {l : List (Int × Int × Int)} (hl : l.length ≤ 2000) (x : Int × Int × Int) : InsC l.length l x := by
  intro W B X v h hB hX hne
  obtain ⟨i0, hi0, hz0, hz1, hz2⟩ := info_parts info102
  have HI := Lib.hid hi0; clear hi0
  have HZ0 := Lib.hid hz0; clear hz0
  have HZ1 := Lib.hid hz1; clear hz1
  have HZ2 := Lib.hid hz2; clear hz2
  have HSRC := Lib.hid (trip_src hX)
  have HLL : Hid (l.take l.length ++ x :: l.drop l.length = l ++ [x]) := by show _ = _; simp
  have HOWN := Lib.hid h
  have HBB := Lib.hid hB
  rw [HLL.out]
  have HXS : Hid (cellsT (l ++ [x]) = cellsT l ++ cellsT [x]) := cellsT_append _ _
  have HL := Lib.hid hl
  clear hX hB hl
  rcases h.2 with ⟨rfl, h0⟩ | ⟨g, cap, cur, rfl, hBg, hcur, hcap, hmax, hsize, htake⟩
  · clear h hne
    generalize l.length = n at *
    subst h0
    go_enter Try.func41, Try.ntmps41
    go_upto_region 7 with fail
    go_wp2_with (at_builtin; refine wpList_append_own _ rfl _ _ 26 rfl B 102 i0 (.agg #[.int .i64 0, .int .i64 0, .int .i64 0]) 3 24 Try.underlying26 HI.out HZ0.out HZ1.out HZ2.out rfl (by decide) _ _ _ rfl HOWN.out ⟨X, 0, none⟩ 1 1 (cellsT [x]) rfl rfl ?c1 ?c2 ?c3 ?c4 ?c5 ?_)
    case c1 => exact HSRC.out
    case c2 => exact cellsT_one _
    case c3 => unfold maxLen; omega
    case c4 => omega
    case c5 => exact HBB.out
    intro v1 w1 hown1 hgr _
    have HO1 := Lib.hid hown1; clear hown1
    have HG1 := Lib.hid hgr; clear hgr
    go_wp2_with fail
    go_ret
    refine ⟨_, rfl, ?_, HG1.out⟩
    rw [HXS.out]
    exact HO1.out
  · clear h hne hcur htake hsize
    generalize l.length = n at *
    have hc2 : cap ≤ 9223372036854775807 := by unfold maxLen at hmax; omega
    obtain ⟨A, hA⟩ : ∃ A : Addr, (if cap = n then (some ⟨g, 0, none⟩ : Option Addr) else some ⟨g, n * 3, none⟩) = some A := by
      by_cases hcn : cap = n
      · exact ⟨⟨g, 0, none⟩, by simp [hcn]⟩
      · exact ⟨⟨g, n * 3, none⟩, by simp [hcn]⟩
    go_enter Try.func41, Try.ntmps41
    go_upto_region 7 with fail
    go_wp2_with (at_builtin; refine wpList_append_own _ rfl _ _ 26 rfl B 102 i0 (.agg #[.int .i64 0, .int .i64 0, .int .i64 0]) 3 24 Try.underlying26 HI.out HZ0.out HZ1.out HZ2.out rfl (by decide) _ _ _ rfl HOWN.out ⟨X, 0, none⟩ 1 1 (cellsT [x]) rfl rfl ?c1 ?c2 ?c3 ?c4 ?c5 ?_)
    case c1 => exact HSRC.out
    case c2 => exact cellsT_one _
    case c3 => have := HL.out; unfold maxLen; omega
    case c4 => have := HL.out; omega
    case c5 => exact HBB.out
    intro v1 w1 hown1 hgr _
    have HO1 := Lib.hid hown1; clear hown1
    have HG1 := Lib.hid hgr; clear hgr
    go_wp2_with fail
    go_ret
    refine ⟨_, rfl, ?_, HG1.out⟩
    rw [HXS.out]
    exact HO1.out
end Go.Proofs.Ytgbafpjeapkklaa.Mb
