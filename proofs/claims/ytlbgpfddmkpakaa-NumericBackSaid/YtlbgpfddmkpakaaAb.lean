/- Numeric: bits, Of, Parts, times. -/
import Derived.Test.YtlbgpfddmkpakaaAa
namespace Go.Proofs.Ytlbgpfddmkpakaa.Nu
open Go.RowKit
set_option linter.unusedVariables false
set_option linter.unusedSimpArgs false

theorem run35 (b : Nat) (w : World) : (callFunc 35 #[.float .f32 b]).run Try.prog w = .ok (.value (.int .u32 b)) w := by
  rw [run_callFunc_extern Try.func35 (by kernel_rfl) (by kernel_rfl) (by kernel_rfl) (e := Extern.MathFloatBits.float32bits) (by kernel_rfl)]
  rfl
theorem run38 (n : Int) (w : World) : (callFunc 38 #[.int .u32 n]).run Try.prog w = .ok (.value (.float .f32 n.toNat)) w := by
  rw [run_callFunc_extern Try.func38 (by kernel_rfl) (by kernel_rfl) (by kernel_rfl) (e := Extern.MathFloatBits.float32frombits) (by kernel_rfl)]
  rfl
theorem order_self {d : Ieee.Datum} (h : d.isNaN = false) : d.order d = some .eq := by
  cases d with
  | number s m e => simp [Ieee.Datum.order, Int.compare_eq_eq]
  | infinity s => cases s <;> rfl
  | nan s t => cases h
theorem neq_self (r : Nat) : (FloatKind.f32.format.order r r != some Ordering.eq) = (canon r).isNone := by
  show (Ieee.single.order r r != some Ordering.eq) = _
  cases h : (Ieee.single.read r).isNaN with
  | true =>
    rw [canon_none h]
    have : Ieee.single.order r r = none := by
      unfold Ieee.Format.order
      cases hd : Ieee.single.read r <;> simp_all [Ieee.Datum.order, Ieee.Datum.isNaN]
    rw [this]; rfl
  | false =>
    rw [canon_some h]
    have : Ieee.single.order r r = some .eq := order_self h
    rw [this]; rfl
set_option maxRecDepth 100000 in
set_option maxHeartbeats 1000000 in
theorem bits_at (r : Nat) (w : World) : Calls Try.prog 39 #[.float .f32 r] w fun e w' => e = .returned (.int .u32 (cb (canon r))) ∧ Below w.heap.size w w' := by
  have h1 := neq_self r
  have h2 := fun w => run35 r w
  cases hc : canon r with
  | none =>
    rw [hc] at h1
    simp only [Option.isNone_none, Option.isNone_some] at h1
    go_enter Try.func39, Try.ntmps39
    go_wp2_with fail
    go_ret
    exact ⟨rfl, Below.refl _ _⟩
  | some x =>
    have hx : x = r := by
      unfold canon at hc
      split at hc
      · cases hc
      · injection hc with hc; exact hc.symm
    subst hx
    rw [hc] at h1
    simp only [Option.isNone_none, Option.isNone_some] at h1
    go_enter Try.func39, Try.ntmps39
    go_wp2_with fail
    go_ret
    exact ⟨rfl, Below.refl _ _⟩
set_option maxRecDepth 100000 in
set_option maxHeartbeats 1000000 in
theorem times_at (x y : Nat) (w : World) : Calls Try.prog 37 #[.float .f32 x, .float .f32 y] w fun e w' => ∃ r, e = .returned (.float .f32 r) ∧ r < 2 ^ 32 ∧ canon r = fop .mul (canon x) (canon y) ∧ Below w.heap.size w w' := by
  obtain ⟨r, w', hr, h1, h2, h3⟩ := fop_run (op := .mul) (.inr (.inr (.inl rfl))) 31 x y w
  go_enter Try.func37, Try.ntmps37
  go_wp2_with fail
  go_ret
  exact ⟨_, rfl, h1, h2, by rcases h3 with rfl | rfl; exact Below.refl _ _; exact (Below.refl _ _).drew⟩
end Go.Proofs.Ytlbgpfddmkpakaa.Nu
