/- Numeric: Twiddles of both at each count. -/
import Derived.Test.YtlbgpfddmkpakaaCi
namespace Go.Proofs.Ytlbgpfddmkpakaa.Nu
open Go.RowKit
set_option linter.unusedVariables false
set_option linter.unusedSimpArgs false

abbrev RTwAt (n : Nat) (w : World) : Prop := Calls Try.prog 19 #[.int .i64 n] w fun e w' => ∃ v, e = .returned (.tuple #[v, .int .i64 0]) ∧ w'.ownsRow w.heap.size 57 2 v n (cellsN (upto (tw (wOf n)) n)) ∧ Below w.heap.size w w'
set_option maxRecDepth 100000 in
theorem rtw_1 (w : World) : RTwAt 1 w :=
  R.rtw_1 (n := 1) (r := 1065353216) (s := 2147483648) (h4 := rfl) (by decide) (fun w => by kernel_rfl) (s0 := 0) (fun w => by kernel_rfl) (fun w => by kernel_rfl) (by kernel_rfl) (by kernel_rfl) (fun h => absurd h (by decide)) w
set_option maxRecDepth 100000 in
theorem rtw_2 (w : World) : RTwAt 2 w :=
  R.rtw_2 (n := 2) (r := 3212836864) (s := 2147483648) (h4 := rfl) (by decide) (fun w => by kernel_rfl) (s0 := 0) (fun w => by kernel_rfl) (fun w => by kernel_rfl) (by kernel_rfl) (by kernel_rfl) (fun _ => one_turn 2 (by decide)) w
set_option maxRecDepth 100000 in
theorem rtw_4 (w : World) : RTwAt 4 w :=
  R.rtw_4 (n := 4) (r := 0) (s := 3212836864) (h4 := by decide) (by decide) (fun w => by kernel_rfl) (s0 := 1065353216) (fun w => by kernel_rfl) (fun w => by kernel_rfl) (by kernel_rfl) (by kernel_rfl) (fun _ => one_turn 4 (by decide)) w
set_option maxRecDepth 100000 in
theorem rtw_8 (w : World) : RTwAt 8 w :=
  R.rtw_4 (n := 8) (r := 1060439283) (s := 3207922931) (h4 := by decide) (by decide) (fun w => by kernel_rfl) (s0 := 1060439283) (fun w => by kernel_rfl) (fun w => by kernel_rfl) (by kernel_rfl) (by kernel_rfl) (fun _ => one_turn 8 (by decide)) w
set_option maxRecDepth 100000 in
theorem rtw_16 (w : World) : RTwAt 16 w :=
  R.rtw_4 (n := 16) (r := 1064076126) (s := 3200511765) (h4 := by decide) (by decide) (fun w => by kernel_rfl) (s0 := 1053028117) (fun w => by kernel_rfl) (fun w => by kernel_rfl) (by kernel_rfl) (by kernel_rfl) (fun _ => one_turn 16 (by decide)) w
set_option maxRecDepth 100000 in
theorem rtw_32 (w : World) : RTwAt 32 w :=
  R.rtw_4 (n := 32) (r := 1065030846) (s := 3192374722) (h4 := by decide) (by decide) (fun w => by kernel_rfl) (s0 := 1044891074) (fun w => by kernel_rfl) (fun w => by kernel_rfl) (by kernel_rfl) (by kernel_rfl) (fun _ => one_turn 32 (by decide)) w
set_option maxRecDepth 100000 in
theorem rtw_64 (w : World) : RTwAt 64 w :=
  R.rtw_4 (n := 64) (r := 1065272429) (s := 3184049462) (h4 := by decide) (by decide) (fun w => by kernel_rfl) (s0 := 1036565814) (fun w => by kernel_rfl) (fun w => by kernel_rfl) (by kernel_rfl) (by kernel_rfl) (fun _ => one_turn 64 (by decide)) w
theorem tw_all {n : Nat} (hp : (n : Int) ∈ pts) (w : World) : TwAt n w := by
  rcases R.pts_nat hp with rfl | rfl | rfl | rfl | rfl | rfl | rfl
  · exact tw_1 w
  · exact tw_2 w
  · exact tw_4 w
  · exact tw_8 w
  · exact tw_16 w
  · exact tw_32 w
  · exact tw_64 w
theorem rtw_all {n : Nat} (hp : (n : Int) ∈ pts) (w : World) : RTwAt n w := by
  rcases R.pts_nat hp with rfl | rfl | rfl | rfl | rfl | rfl | rfl
  · exact rtw_1 w
  · exact rtw_2 w
  · exact rtw_4 w
  · exact rtw_8 w
  · exact rtw_16 w
  · exact rtw_32 w
  · exact rtw_64 w
set_option maxRecDepth 100000 in
set_option maxHeartbeats 1000000 in
theorem tw_no {n : Int} (hp : n ∉ pts) (w : World) : Calls Try.prog 18 #[.int .i64 n] w fun e w' => e = .returned (.tuple #[.slice none 0 0, .int .i64 4]) ∧ w' = w := by
  have tp : decide (n ∈ pts) = false := decide_eq_false hp
  clear hp
  go_enter Try.func18, Try.ntmps18
  go_wp2_with fail
  refine (points_at _ _).mono ?_
  rintro e w' ⟨rfl, rfl⟩
  rw [tp]
  clear tp
  go_wp2_with fail
  exact bodyPost_ret (v := .tuple #[.slice none 0 0, .int .i64 4]) (by simp [results, Try.results18, go_sem]) rfl ⟨rfl, rfl⟩
set_option maxRecDepth 100000 in
set_option maxHeartbeats 1000000 in
theorem rtw_no {n : Int} (hp : n ∉ pts) (w : World) : Calls Try.prog 19 #[.int .i64 n] w fun e w' => e = .returned (.tuple #[.slice none 0 0, .int .i64 4]) ∧ w' = w := by
  have tp : decide (n ∈ pts) = false := decide_eq_false hp
  clear hp
  go_enter Try.func19, Try.ntmps19
  go_wp2_with fail
  refine (rpoints_at _ _).mono ?_
  rintro e w' ⟨rfl, rfl⟩
  rw [tp]
  clear tp
  go_wp2_with fail
  exact bodyPost_ret (v := .tuple #[.slice none 0 0, .int .i64 4]) (by simp [results, Try.results19, go_sem]) rfl ⟨rfl, rfl⟩
end Go.Proofs.Ytlbgpfddmkpakaa.Nu
