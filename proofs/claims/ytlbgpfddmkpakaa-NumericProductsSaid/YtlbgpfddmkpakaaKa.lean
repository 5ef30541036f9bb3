/- Numeric: small. -/
import Derived.Test.YtlbgpfddmkpakaaHc
namespace Go.Proofs.Ytlbgpfddmkpakaa.Nu
open Go.RowKit
set_option linter.unusedVariables false
set_option linter.unusedSimpArgs false
/-- small's answer. -/
def sm (x : Int) : Int := Int.tmod x 1001
theorem sm_le (x : Int) : (sm x).natAbs ≤ 1000 := by
  unfold sm
  have h1 := Int.tmod_lt_of_pos x (b := 1001) (by omega)
  have h2 := Int.lt_tmod_of_pos x (b := 1001) (by omega)
  omega
set_option maxRecDepth 100000 in
theorem small_at (x : Int) (hx : (Lit.int .i16 x).wf = true) (w : World) : Calls Try.prog 9 #[.int .i16 x] w fun e w' => e = .returned (.int .i64 (sm x)) ∧ w' = w := by
  have hb : -32768 ≤ x ∧ x ≤ 32767 := by
    have h1 : IntKind.i16.min = -32768 := by kernel_rfl
    have h2 : IntKind.i16.max = 32767 := by kernel_rfl
    simp [Lit.wf] at hx
    rw [h1, h2] at hx
    exact hx
  have hw : wrap64 x = x := by unfold wrap64; omega
  have hm : wrap64 (Int.tmod x 1001) = Int.tmod x 1001 := by have := sm_le x; unfold sm at this; unfold wrap64; omega
  have HM := Lib.hid hm
  clear hb hx hm
  go_enter Try.func9, Try.ntmps9
  go_wp2_with fail
  go_ret
  exact ⟨rfl, rfl⟩
end Go.Proofs.Ytlbgpfddmkpakaa.Nu
