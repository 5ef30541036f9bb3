/- Numeric: Parts, value, of. -/
import Derived.Test.YtlbgpfddmkpakaaAc
namespace Go.Proofs.Ytlbgpfddmkpakaa.Nu
open Go.RowKit
set_option linter.unusedVariables false
set_option linter.unusedSimpArgs false

/-- What a word is, up to its NaN. -/
def cc (a : Nat) : Nat := cb (canon a)
theorem canon_cc (a : Nat) : canon (cc a) = canon a := canon_cb rfl
theorem cc_lt {a : Nat} (h : a < 2 ^ 32) : cc a < 2 ^ 32 := by
  unfold cc cb
  cases hc : canon a with
  | none => show 2143289344 < _; decide
  | some x =>
    unfold canon at hc
    split at hc
    · cases hc
    · injection hc with hc
      subst hc
      exact h
set_option maxRecDepth 100000 in
set_option maxHeartbeats 2000000 in
theorem parts_at (a b : Nat) (w : World) : Calls Try.prog 12 #[.agg #[.int .u32 a, .int .u32 b]] w fun e w' => e = .returned (.tuple #[.float .f32 (cc a), .float .f32 (cc b)]) ∧ Below w.heap.size w w' := by
  have h0 : Hid (Below w.heap.size w (w.alloc (Obj.cells #[.int .u32 a, .int .u32 b] 26))) := (Below.refl _ _).alloc (Nat.le_refl _) _
  have hm := Lib.hid (B2.made w (.int .u32 a) (.int .u32 b) 26)
  have h38 : ∀ (n : Nat) (w : World), (callFunc 38 #[.int .u32 (n : Int)]).run Try.prog w = .ok (.value (.float .f32 n)) w := fun n w => by rw [run38]; rfl
  have HB : Hid (∀ x w, Calls Try.prog 39 #[.float .f32 x] w fun e w' => e = .returned (.int .u32 (cc x)) ∧ Below w.heap.size w w') := bits_at
  go_enter Try.func12, Try.ntmps12
  go_upto_region 1 with fail
  generalize w.alloc (Obj.cells #[.int .u32 a, .int .u32 b] 26) = W0 at *
  obtain ⟨c0, c1⟩ := hm.out.cells
  go_quiet (fail)
  have H1 := Lib.hid (h0.out.trans ((below_drewN (Below.refl W0.heap.size W0) nq).mono h0.out.size))
  generalize W0.drewN nq = W1 at *
  clear c0 c1 hm
  go_wp2_with fail
  refine (HB.out a W1).mono ?_
  rintro e W2 ⟨rfl, hb2⟩
  have H2 := Lib.hid (H1.out.trans (hb2.mono H1.out.size))
  clear hb2
  go_wp2_with fail
  refine (HB.out b W2).mono ?_
  rintro e W3 ⟨rfl, hb3⟩
  have H3 := Lib.hid (H2.out.trans (hb3.mono H2.out.size))
  clear hb3
  go_wp2_with fail
  exact bodyPost_ret (v := .tuple #[.float .f32 (cc a), .float .f32 (cc b)]) (by simp [results, Try.results12, go_sem]) rfl ⟨rfl, H3.out⟩
set_option maxRecDepth 100000 in
set_option maxHeartbeats 2000000 in
theorem value_at (a b : Nat) (w : World) : Calls Try.prog 41 #[.agg #[.int .u32 a, .int .u32 b]] w fun e w' => e = .returned (.complex .f32 (cc a) (cc b)) ∧ Below w.heap.size w w' := by
  have h0 : Hid (Below w.heap.size w (w.alloc (Obj.cells #[.int .u32 a, .int .u32 b] 26))) := (Below.refl _ _).alloc (Nat.le_refl _) _
  have hm := Lib.hid (B2.made w (.int .u32 a) (.int .u32 b) 26)
  go_enter Try.func41, Try.ntmps41
  go_upto_region 1 with fail
  generalize w.alloc (Obj.cells #[.int .u32 a, .int .u32 b] 26) = W0 at *
  obtain ⟨c0, c1⟩ := hm.out.cells
  go_wp2_with fail
  refine (parts_at a b W0).mono ?_
  rintro e W2 ⟨rfl, hb2⟩
  have H2 := Lib.hid (h0.out.trans (hb2.mono h0.out.size))
  clear hb2 c0 c1 hm
  go_wp2_with fail
  go_ret
  exact ⟨rfl, H2.out⟩
set_option maxRecDepth 100000 in
set_option maxHeartbeats 2000000 in
theorem ofc_at (x y : Nat) (w : World) : Calls Try.prog 40 #[.complex .f32 x y] w fun e w' => e = .returned (.agg #[.int .u32 (cc x), .int .u32 (cc y)]) ∧ Below w.heap.size w w' := by
  have h0 : Hid (Below w.heap.size w (w.alloc (Obj.cells #[.int .u32 0, .int .u32 0] 26))) := (Below.refl _ _).alloc (Nat.le_refl _) _
  have hm := Lib.hid (B2.made w (.int .u32 0) (.int .u32 0) 26)
  have HB : Hid (∀ w, Calls Try.prog 36 #[.float .f32 x, .float .f32 y] w fun e w' => e = .returned (.agg #[.int .u32 (cc x), .int .u32 (cc y)]) ∧ Below w.heap.size w w') := of_at x y
  generalize hcx : cc x = cx at *
  generalize hcy : cc y = cy at *
  clear hcx hcy
  go_enter Try.func40, Try.ntmps40
  go_upto_region 1 with fail
  generalize w.alloc (Obj.cells #[.int .u32 0, .int .u32 0] 26) = W0 at *
  go_wp2_with fail
  refine (HB.out W0).mono ?_
  rintro e W2 ⟨rfl, hb1⟩
  have H2 := Lib.hid (h0.out.trans (hb1.mono h0.out.size))
  have M2 := Lib.hid (hm.out.step hb1)
  clear hb1
  obtain ⟨c0, c1⟩ := M2.out.cells
  obtain ⟨f0, f1⟩ := M2.out.frz
  go_wp2_with fail
  obtain ⟨W3, hW3⟩ : ∃ W3, W3 = (W2.setCell ⟨w.heap.size, 0, none⟩ (.int .u32 cx)).setCell ⟨w.heap.size, 1, none⟩ (.int .u32 cy) := ⟨_, rfl⟩
  rw [← hW3]
  obtain ⟨p1, p2, _⟩ := B2.put M2.out hW3
  have K := Lib.hid (p2 _ _ (Nat.le_refl _) H2.out)
  clear c0 c1 f0 f1 hW3
  obtain ⟨c0, c1⟩ := p1.cells
  refine bodyPost_ret (v := .agg #[.int .u32 cx, .int .u32 cy]) (by simp [results, Try.results40, go_sem, c0, c1]) rfl ⟨rfl, K.out⟩
end Go.Proofs.Ytlbgpfddmkpakaa.Nu
