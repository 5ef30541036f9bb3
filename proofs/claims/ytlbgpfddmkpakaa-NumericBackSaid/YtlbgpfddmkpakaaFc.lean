/- Numeric: awake. -/
import Derived.Test.YtlbgpfddmkpakaaFb
namespace Go.Proofs.Ytlbgpfddmkpakaa.Nu
open Go.RowKit
set_option linter.unusedVariables false
set_option linter.unusedSimpArgs false
attribute [local go_sem high] eqn26 eqn57

set_option maxRecDepth 100000 in
set_option maxHeartbeats 2000000 in
theorem ofi_at (re im : Int) (x y : Nat) (k1 : ∀ w, (convert 3 31 (.int .i64 re)).run Try.prog w = .ok (.float .f32 x) w) (k2 : ∀ w, (convert 3 31 (.int .i64 im)).run Try.prog w = .ok (.float .f32 y) w) (w : World) :
    Calls Try.prog 8 #[.int .i64 re, .int .i64 im] w fun e w' => e = .returned (.agg #[.int .u32 (cc x), .int .u32 (cc y)]) ∧ Below w.heap.size w w' := by
  have h0 : Hid (Below w.heap.size w (w.alloc (Obj.cells #[.int .u32 0, .int .u32 0] 26))) := (Below.refl _ _).alloc (Nat.le_refl _) _
  have hm := Lib.hid (B2.made w (.int .u32 0) (.int .u32 0) 26)
  have HB : Hid (∀ w, Calls Try.prog 36 #[.float .f32 x, .float .f32 y] w fun e w' => e = .returned (.agg #[.int .u32 (cc x), .int .u32 (cc y)]) ∧ Below w.heap.size w w') := of_at x y
  generalize hcx : cc x = cx at *
  generalize hcy : cc y = cy at *
  clear hcx hcy
  go_enter Try.func8, Try.ntmps8
  go_upto_region 1 with fail
  generalize w.alloc (Obj.cells #[.int .u32 0, .int .u32 0] 26) = W0 at *
  go_wp2_with fail
  refine (HB.out W0).mono ?_
  rintro e W2 ⟨rfl, hb1⟩
  have H2 := Lib.hid (h0.out.trans (hb1.mono h0.out.size))
  have M2 := Lib.hid (hm.out.step hb1)
  clear hb1 k1 k2
  obtain ⟨c0, c1⟩ := M2.out.cells
  obtain ⟨f0, f1⟩ := M2.out.frz
  go_wp2_with fail
  obtain ⟨W3, hW3⟩ : ∃ W3, W3 = (W2.setCell ⟨w.heap.size, 0, none⟩ (.int .u32 cx)).setCell ⟨w.heap.size, 1, none⟩ (.int .u32 cy) := ⟨_, rfl⟩
  rw [← hW3]
  obtain ⟨p1, p2, _⟩ := B2.put M2.out hW3
  have K := Lib.hid (p2 _ _ (Nat.le_refl _) H2.out)
  clear c0 c1 f0 f1 hW3
  obtain ⟨c0, c1⟩ := p1.cells
  refine bodyPost_ret (v := .agg #[.int .u32 cx, .int .u32 cy]) (by simp [results, Try.results8, go_sem, c0, c1]) rfl ⟨rfl, K.out⟩
set_option maxRecDepth 100000 in
set_option maxHeartbeats 2000000 in
theorem abs34 (w : World) : Calls Try.prog 43 #[.agg #[.int .u32 1077936128, .int .u32 1082130432]] w fun e w' => e = .returned (.int .u32 1084227584) ∧ Below w.heap.size w w' := by
  have h0 : Hid (Below w.heap.size w (w.alloc (Obj.cells #[.int .u32 1077936128, .int .u32 1082130432] 26))) := (Below.refl _ _).alloc (Nat.le_refl _) _
  have hm := Lib.hid (B2.made w (.int .u32 1077936128) (.int .u32 1082130432) 26)
  have k1 : ∀ w, (convert 31 83 (.float .f32 1077936128)).run Try.prog w = .ok (.float .f64 4613937818241073152) w := fun w => by kernel_rfl
  have k2 : ∀ w, (convert 31 83 (.float .f32 1082130432)).run Try.prog w = .ok (.float .f64 4616189618054758400) w := fun w => by kernel_rfl
  have q1 : ∀ w, (binOp .mul 83 (.float .f64 4613937818241073152) (.float .f64 4613937818241073152)).run Try.prog w = .ok (.float .f64 4621256167635550208) w := fun w => run_float_arith (P := Try.prog) w .mul 83 .f64 _ _ _ (by kernel_rfl)
  have q2 : ∀ w, (binOp .mul 83 (.float .f64 4616189618054758400) (.float .f64 4616189618054758400)).run Try.prog w = .ok (.float .f64 4625196817309499392) w := fun w => run_float_arith (P := Try.prog) w .mul 83 .f64 _ _ _ (by kernel_rfl)
  have q3 : ∀ w, (binOp .add 83 (.float .f64 4621256167635550208) (.float .f64 4625196817309499392)).run Try.prog w = .ok (.float .f64 4627730092099895296) w := fun w => run_float_arith (P := Try.prog) w .add 83 .f64 _ _ _ (by kernel_rfl)
  have k3 : ∀ w, (convert 83 31 (.float .f64 4617315517961601024)).run Try.prog w = .ok (.float .f32 1084227584) w := fun w => by kernel_rfl
  have e1 : cc 1077936128 = 1077936128 := by kernel_rfl
  have e2 : cc 1082130432 = 1082130432 := by kernel_rfl
  have E := Lib.hid (And.intro e1 e2)
  clear e1 e2
  go_enter Try.func43, Try.ntmps43
  go_upto_region 1 with fail
  generalize w.alloc (Obj.cells #[.int .u32 1077936128, .int .u32 1082130432] 26) = W0 at *
  obtain ⟨c0, c1⟩ := hm.out.cells
  go_wp2_with fail
  refine (parts_at 1077936128 1082130432 W0).mono ?_
  rintro e W2 ⟨rfl, hb⟩
  rw [E.out.1, E.out.2]
  have H2 := Lib.hid (h0.out.trans (hb.mono h0.out.size))
  clear hb c0 c1 hm
  go_wp2_with fail
  refine (sqrt_at (r := 4617315517961601024) (by kernel_rfl) _).mono ?_
  rintro e W3 ⟨rfl, hw3⟩
  rw [hw3]
  clear hw3
  go_wp2_with fail
  refine (bits_at 1084227584 _).mono ?_
  rintro e W4 ⟨rfl, hb⟩
  have H4 := Lib.hid (H2.out.trans (hb.mono H2.out.size))
  clear hb
  rw [show cb (canon 1084227584) = 1084227584 by kernel_rfl]
  go_wp2_with fail
  go_ret
  exact ⟨rfl, H4.out⟩
end Go.Proofs.Ytlbgpfddmkpakaa.Nu
