/- Numeric: the program's Twiddles at each count. -/
import Derived.Test.YtlbgpfddmkpakaaCd
namespace Go.Proofs.Ytlbgpfddmkpakaa.Nu
open Go.RowKit
set_option linter.unusedVariables false
set_option linter.unusedSimpArgs false

/-- The turn of a count, as a number. -/
def wOf (n : Nat) : Nat × Nat :=
  if n = 1 then (1065353216, 2147483648) else if n = 2 then (3212836864, 2147483648) else if n = 4 then (0, 3212836864) else if n = 8 then (1060439283, 3207922931)
  else if n = 16 then (1064076126, 3200511765) else if n = 32 then (1065030846, 3192374722) else (1065272429, 3184049462)
abbrev TwAt (n : Nat) (w : World) : Prop := Calls Try.prog 18 #[.int .i64 n] w fun e w' => ∃ v, e = .returned (.tuple #[v, .int .i64 0]) ∧ w'.ownsRow w.heap.size 26 2 v n (cellsN (upto (tw (wOf n)) n)) ∧ Below w.heap.size w w'
set_option maxRecDepth 100000 in
theorem tw_1 (w : World) : TwAt 1 w :=
  twiddles_gen (n := 1) (re := one64) (im := 0) (r := 1065353216) (s := 2147483648) (by decide) (by decide) turn1 (fun w => by kernel_rfl) (fun w => by kernel_rfl) (by kernel_rfl) (by kernel_rfl) w
set_option maxRecDepth 100000 in
theorem tw_2 (w : World) : TwAt 2 w :=
  twiddles_gen (n := 2) (re := 13830554455654793216) (im := 0) (r := 3212836864) (s := 2147483648) (by decide) (by decide) turn2 (fun w => by kernel_rfl) (fun w => by kernel_rfl) (by kernel_rfl) (by kernel_rfl) w
set_option maxRecDepth 100000 in
theorem tw_4 (w : World) : TwAt 4 w :=
  twiddles_gen (n := 4) (re := 0) (im := one64) (r := 0) (s := 3212836864) (by decide) (by decide) turn4 (fun w => by kernel_rfl) (fun w => by kernel_rfl) (by kernel_rfl) (by kernel_rfl) w
set_option maxRecDepth 100000 in
theorem tw_8 (w : World) : TwAt 8 w :=
  twiddles_gen (n := 8) (re := 4604544271217802189) (im := 4604544271217802189) (r := 1060439283) (s := 3207922931) (by decide) (by decide) turn8 (fun w => by kernel_rfl) (fun w => by kernel_rfl) (by kernel_rfl) (by kernel_rfl) w
set_option maxRecDepth 100000 in
theorem tw_16 (w : World) : TwAt 16 w :=
  twiddles_gen (n := 16) (re := 4606496786581982534) (im := 4600565431771507042) (r := 1064076126) (s := 3200511765) (by decide) (by decide) turn16 (fun w => by kernel_rfl) (fun w => by kernel_rfl) (by kernel_rfl) (by kernel_rfl) w
set_option maxRecDepth 100000 in
theorem tw_32 (w : World) : TwAt 32 w :=
  twiddles_gen (n := 32) (re := 4607009347991985328) (im := 4596196889902818828) (r := 1065030846) (s := 3192374722) (by decide) (by decide) turn32 (fun w => by kernel_rfl) (fun w => by kernel_rfl) (by kernel_rfl) (by kernel_rfl) w
set_option maxRecDepth 100000 in
theorem tw_64 (w : World) : TwAt 64 w :=
  twiddles_gen (n := 64) (re := 4607139046673687846) (im := 4591727299969791023) (r := 1065272429) (s := 3184049462) (by decide) (by decide) turn64 (fun w => by kernel_rfl) (fun w => by kernel_rfl) (by kernel_rfl) (by kernel_rfl) w
end Go.Proofs.Ytlbgpfddmkpakaa.Nu
