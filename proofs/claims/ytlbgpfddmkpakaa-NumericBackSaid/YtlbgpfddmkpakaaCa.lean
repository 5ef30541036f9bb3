/- Numeric: the turn: cosines and sines in float64. -/
import Derived.Test.YtlbgpfddmkpakaaAg
namespace Go.Proofs.Ytlbgpfddmkpakaa.Nu
open Go.RowKit
set_option linter.unusedVariables false
set_option linter.unusedSimpArgs false

abbrev one64 : Nat := 4607182418800017408
abbrev two64 : Nat := 4611686018427387904
theorem run60 {x r : Nat} (h : Ieee.double.sqrt x = some r) (w : World) : (callFunc 60 #[.float .f64 x]).run Try.prog w = .ok (.value (.float .f64 r)) w := by
  rw [run_callFunc_extern Try.func60 (by kernel_rfl) (by kernel_rfl) (by kernel_rfl) (e := Extern.MathSqrt.sqrt) (by kernel_rfl)]
  have h' : FloatKind.f64.format.sqrt x = some r := h
  have e : Extern.MathSqrt.sqrt #[Value.float .f64 x] = pure (Value.float .f64 r) := by
    show (match FloatKind.f64.format.sqrt x with | some r => (pure (Value.float .f64 r) : Sem Value) | none => do pure (Value.float .f64 (← choose (.nanBits .f64 x x)))) = _
    rw [h']
  rw [e]
  rfl
set_option maxRecDepth 100000 in
set_option maxHeartbeats 1000000 in
theorem sqrt_at {x r : Nat} (h : Ieee.double.sqrt x = some r) (w : World) : Calls Try.prog 47 #[.float .f64 x] w fun e w' => e = .returned (.float .f64 r) ∧ w' = w := by
  have h2 := fun w => run60 h w
  go_enter Try.func47, Try.ntmps47
  go_wp2_with fail
  go_ret
  exact ⟨rfl, rfl⟩
set_option maxRecDepth 100000 in
set_option maxHeartbeats 1000000 in
theorem turn1 (w : World) : Calls Try.prog 45 #[.int .i64 1] w fun e w' => e = .returned (.tuple #[.float .f64 one64, .float .f64 0]) ∧ w' = w := by
  go_enter Try.func45, Try.ntmps45
  go_wp2_with fail
  exact bodyPost_ret (v := .tuple #[.float .f64 one64, .float .f64 0]) (by simp [results, Try.results45, go_sem]) rfl ⟨rfl, rfl⟩
set_option maxRecDepth 100000 in
set_option maxHeartbeats 1000000 in
theorem turn2 (w : World) : Calls Try.prog 45 #[.int .i64 2] w fun e w' => e = .returned (.tuple #[.float .f64 13830554455654793216, .float .f64 0]) ∧ w' = w := by
  go_enter Try.func45, Try.ntmps45
  go_wp2_with fail
  exact bodyPost_ret (v := .tuple #[.float .f64 13830554455654793216, .float .f64 0]) (by simp [results, Try.results45, go_sem]) rfl ⟨rfl, rfl⟩
set_option maxRecDepth 100000 in
set_option maxHeartbeats 1000000 in
theorem turn4 (w : World) : Calls Try.prog 45 #[.int .i64 4] w fun e w' => e = .returned (.tuple #[.float .f64 0, .float .f64 one64]) ∧ w' = w := by
  go_enter Try.func45, Try.ntmps45
  go_wp2_with fail
  exact bodyPost_ret (v := .tuple #[.float .f64 0, .float .f64 one64]) (by simp [results, Try.results45, go_sem]) rfl ⟨rfl, rfl⟩
set_option maxRecDepth 100000 in
set_option maxHeartbeats 1000000 in
theorem up8 {re im a b c d r s : Nat} (w : World) (HT : ∀ w, Calls Try.prog 45 #[.int .i64 4] w fun e w' => e = .returned (.tuple #[.float .f64 re, .float .f64 im]) ∧ w' = w)
    (h1 : floatBits .add .f64 one64 re = some a) (h2 : floatBits .sub .f64 one64 re = some b) (h3 : floatBits .quo .f64 a two64 = some c) (h4 : floatBits .quo .f64 b two64 = some d) (h5 : Ieee.double.sqrt c = some r) (h6 : Ieee.double.sqrt d = some s) :
    Calls Try.prog 45 #[.int .i64 8 ] w fun e w' => e = .returned (.tuple #[.float .f64 r, .float .f64 s]) ∧ w' = w := by
  have k1 := fun w => run_float_arith (P := Try.prog) w .add 83 .f64 one64 re a h1
  have k2 := fun w => run_float_arith (P := Try.prog) w .sub 83 .f64 one64 re b h2
  have k3 := fun w => run_float_arith (P := Try.prog) w .quo 83 .f64 a two64 c h3
  have k4 := fun w => run_float_arith (P := Try.prog) w .quo 83 .f64 b two64 d h4
  have H5 := Lib.hid h5
  have H6 := Lib.hid h6
  have HT' := Lib.hid HT
  clear HT h1 h2 h3 h4 h5 h6
  go_enter Try.func45, Try.ntmps45
  go_wp2_with fail
  refine (HT'.out _).mono ?_
  clear HT'
  rintro e w' ⟨rfl, rfl⟩
  go_wp2_with fail
  refine (sqrt_at H5.out _).mono ?_
  clear H5
  rintro e w' ⟨rfl, rfl⟩
  go_wp2_with fail
  refine (sqrt_at H6.out _).mono ?_
  clear H6
  rintro e w' ⟨rfl, rfl⟩
  go_wp2_with fail
  exact bodyPost_ret (v := .tuple #[.float .f64 r, .float .f64 s]) (by simp [results, Try.results45, go_sem]) rfl ⟨rfl, rfl⟩
theorem turn8 (w : World) : Calls Try.prog 45 #[.int .i64 8] w fun e w' => e = .returned (.tuple #[.float .f64 4604544271217802189, .float .f64 4604544271217802189]) ∧ w' = w :=
  up8 (a := 4607182418800017408) (b := 4607182418800017408) (c := 4602678819172646912) (d := 4602678819172646912) w turn4 (by kernel_rfl) (by kernel_rfl) (by kernel_rfl) (by kernel_rfl) (by kernel_rfl) (by kernel_rfl)
set_option maxRecDepth 100000 in
set_option maxHeartbeats 1000000 in
theorem up16 {re im a b c d r s : Nat} (w : World) (HT : ∀ w, Calls Try.prog 45 #[.int .i64 8] w fun e w' => e = .returned (.tuple #[.float .f64 re, .float .f64 im]) ∧ w' = w)
    (h1 : floatBits .add .f64 one64 re = some a) (h2 : floatBits .sub .f64 one64 re = some b) (h3 : floatBits .quo .f64 a two64 = some c) (h4 : floatBits .quo .f64 b two64 = some d) (h5 : Ieee.double.sqrt c = some r) (h6 : Ieee.double.sqrt d = some s) :
    Calls Try.prog 45 #[.int .i64 16 ] w fun e w' => e = .returned (.tuple #[.float .f64 r, .float .f64 s]) ∧ w' = w := by
  have k1 := fun w => run_float_arith (P := Try.prog) w .add 83 .f64 one64 re a h1
  have k2 := fun w => run_float_arith (P := Try.prog) w .sub 83 .f64 one64 re b h2
  have k3 := fun w => run_float_arith (P := Try.prog) w .quo 83 .f64 a two64 c h3
  have k4 := fun w => run_float_arith (P := Try.prog) w .quo 83 .f64 b two64 d h4
  have H5 := Lib.hid h5
  have H6 := Lib.hid h6
  have HT' := Lib.hid HT
  clear HT h1 h2 h3 h4 h5 h6
  go_enter Try.func45, Try.ntmps45
  go_wp2_with fail
  refine (HT'.out _).mono ?_
  clear HT'
  rintro e w' ⟨rfl, rfl⟩
  go_wp2_with fail
  refine (sqrt_at H5.out _).mono ?_
  clear H5
  rintro e w' ⟨rfl, rfl⟩
  go_wp2_with fail
  refine (sqrt_at H6.out _).mono ?_
  clear H6
  rintro e w' ⟨rfl, rfl⟩
  go_wp2_with fail
  exact bodyPost_ret (v := .tuple #[.float .f64 r, .float .f64 s]) (by simp [results, Try.results45, go_sem]) rfl ⟨rfl, rfl⟩
theorem turn16 (w : World) : Calls Try.prog 45 #[.int .i64 16] w fun e w' => e = .returned (.tuple #[.float .f64 4606496786581982534, .float .f64 4600565431771507042]) ∧ w' = w :=
  up16 (a := 4610366944636280294) (b := 4598947915082336358) (c := 4605863345008909798) (d := 4594444315454965862) w turn8 (by kernel_rfl) (by kernel_rfl) (by kernel_rfl) (by kernel_rfl) (by kernel_rfl) (by kernel_rfl)
set_option maxRecDepth 100000 in
set_option maxHeartbeats 1000000 in
theorem up32 {re im a b c d r s : Nat} (w : World) (HT : ∀ w, Calls Try.prog 45 #[.int .i64 16] w fun e w' => e = .returned (.tuple #[.float .f64 re, .float .f64 im]) ∧ w' = w)
    (h1 : floatBits .add .f64 one64 re = some a) (h2 : floatBits .sub .f64 one64 re = some b) (h3 : floatBits .quo .f64 a two64 = some c) (h4 : floatBits .quo .f64 b two64 = some d) (h5 : Ieee.double.sqrt c = some r) (h6 : Ieee.double.sqrt d = some s) :
    Calls Try.prog 45 #[.int .i64 32 ] w fun e w' => e = .returned (.tuple #[.float .f64 r, .float .f64 s]) ∧ w' = w := by
  have k1 := fun w => run_float_arith (P := Try.prog) w .add 83 .f64 one64 re a h1
  have k2 := fun w => run_float_arith (P := Try.prog) w .sub 83 .f64 one64 re b h2
  have k3 := fun w => run_float_arith (P := Try.prog) w .quo 83 .f64 a two64 c h3
  have k4 := fun w => run_float_arith (P := Try.prog) w .quo 83 .f64 b two64 d h4
  have H5 := Lib.hid h5
  have H6 := Lib.hid h6
  have HT' := Lib.hid HT
  clear HT h1 h2 h3 h4 h5 h6
  go_enter Try.func45, Try.ntmps45
  go_wp2_with fail
  refine (HT'.out _).mono ?_
  clear HT'
  rintro e w' ⟨rfl, rfl⟩
  go_wp2_with fail
  refine (sqrt_at H5.out _).mono ?_
  clear H5
  rintro e w' ⟨rfl, rfl⟩
  go_wp2_with fail
  refine (sqrt_at H6.out _).mono ?_
  clear H6
  rintro e w' ⟨rfl, rfl⟩
  go_wp2_with fail
  exact bodyPost_ret (v := .tuple #[.float .f64 r, .float .f64 s]) (by simp [results, Try.results45, go_sem]) rfl ⟨rfl, rfl⟩
theorem turn32 (w : World) : Calls Try.prog 45 #[.int .i64 32] w fun e w' => e = .returned (.tuple #[.float .f64 4607009347991985328, .float .f64 4596196889902818828]) ∧ w' = w :=
  up32 (a := 4611343202318370467) (b := 4590149478407443920) (c := 4606839602690999971) (d := 4585645878780073424) w turn16 (by kernel_rfl) (by kernel_rfl) (by kernel_rfl) (by kernel_rfl) (by kernel_rfl) (by kernel_rfl)
set_option maxRecDepth 100000 in
set_option maxHeartbeats 1000000 in
theorem up64 {re im a b c d r s : Nat} (w : World) (HT : ∀ w, Calls Try.prog 45 #[.int .i64 32] w fun e w' => e = .returned (.tuple #[.float .f64 re, .float .f64 im]) ∧ w' = w)
    (h1 : floatBits .add .f64 one64 re = some a) (h2 : floatBits .sub .f64 one64 re = some b) (h3 : floatBits .quo .f64 a two64 = some c) (h4 : floatBits .quo .f64 b two64 = some d) (h5 : Ieee.double.sqrt c = some r) (h6 : Ieee.double.sqrt d = some s) :
    Calls Try.prog 45 #[.int .i64 64 ] w fun e w' => e = .returned (.tuple #[.float .f64 r, .float .f64 s]) ∧ w' = w := by
  have k1 := fun w => run_float_arith (P := Try.prog) w .add 83 .f64 one64 re a h1
  have k2 := fun w => run_float_arith (P := Try.prog) w .sub 83 .f64 one64 re b h2
  have k3 := fun w => run_float_arith (P := Try.prog) w .quo 83 .f64 a two64 c h3
  have k4 := fun w => run_float_arith (P := Try.prog) w .quo 83 .f64 b two64 d h4
  have H5 := Lib.hid h5
  have H6 := Lib.hid h6
  have HT' := Lib.hid HT
  clear HT h1 h2 h3 h4 h5 h6
  go_enter Try.func45, Try.ntmps45
  go_wp2_with fail
  refine (HT'.out _).mono ?_
  clear HT'
  rintro e w' ⟨rfl, rfl⟩
  go_wp2_with fail
  refine (sqrt_at H5.out _).mono ?_
  clear H5
  rintro e w' ⟨rfl, rfl⟩
  go_wp2_with fail
  refine (sqrt_at H6.out _).mono ?_
  clear H6
  rintro e w' ⟨rfl, rfl⟩
  go_wp2_with fail
  exact bodyPost_ret (v := .tuple #[.float .f64 r, .float .f64 s]) (by simp [results, Try.results45, go_sem]) rfl ⟨rfl, rfl⟩
theorem turn64 (w : World) : Calls Try.prog 45 #[.int .i64 64] w fun e w' => e = .returned (.tuple #[.float .f64 4607139046673687846, .float .f64 4591727299969791023]) ∧ w' = w :=
  up64 (a := 4611599483023371864) (b := 4581195487265450496) (c := 4607095883396001368) (d := 4576691887638080000) w turn32 (by kernel_rfl) (by kernel_rfl) (by kernel_rfl) (by kernel_rfl) (by kernel_rfl) (by kernel_rfl)
end Go.Proofs.Ytlbgpfddmkpakaa.Nu
