/- Numeric: awake, whole. -/
import Derived.Test.YtlbgpfddmkpakaaFc
namespace Go.Proofs.Ytlbgpfddmkpakaa.Nu
open Go.RowKit
set_option linter.unusedVariables false
set_option linter.unusedSimpArgs false
attribute [local go_sem high] eqn26 eqn57

theorem rd4 (W : World) (e : TypeId) (a0 b0 a1 b1 a2 b2 a3 b3 : Nat) : Rd (W.alloc (Obj.cells #[.int .u32 a0, .int .u32 b0, .int .u32 a1, .int .u32 b1, .int .u32 a2, .int .u32 b2, .int .u32 a3, .int .u32 b3] e)) W.heap.size 0 [(a0, b0), (a1, b1), (a2, b2), (a3, b3)] := by
  refine ⟨by simp, fun k x h => ?_⟩
  have hb := (MapKept.heap_alloc W (Obj.cells #[.int .u32 (a0 : Nat), .int .u32 (b0 : Nat), .int .u32 (a1 : Nat), .int .u32 (b1 : Nat), .int .u32 (a2 : Nat), .int .u32 (b2 : Nat), .int .u32 (a3 : Nat), .int .u32 (b3 : Nat)] e)).1
  match k with
  | 0 => simp at h; subst h; exact ⟨cell_blk hb 0, cell_blk hb 1⟩
  | 1 => simp at h; subst h; exact ⟨cell_blk hb 2, cell_blk hb 3⟩
  | 2 => simp at h; subst h; exact ⟨cell_blk hb 4, cell_blk hb 5⟩
  | 3 => simp at h; subst h; exact ⟨cell_blk hb 6, cell_blk hb 7⟩
  | k + 4 => simp at h
theorem Rd.row {W : World} {g : Nat} {l : List (Nat × Nat)} (h : Rd W g 0 l) {n cap : Nat} (hn : n = l.length) (hc : n ≤ cap) : Row W (.slice (some ⟨g, 0, none⟩) n cap) l := by
  subst hn
  exact ⟨_, cap, rfl, hc, .inr ⟨g, 0, rfl, h.1, h.2⟩⟩
def exIn : List (Nat × Nat) := [(0, 0), (1065353216, 0), (0, 0), (0, 0)]
def exOut : List (Nat × Nat) := [(1065353216, 0), (0, 3212836864), (3212836864, 0), (0, 1065353216)]
set_option maxRecDepth 100000 in
theorem ex_fft : fft 2 exIn = exOut := by decide +kernel
theorem ex_cmp : ∀ j, j < 4 → (Ieee.single.order (cc (el exOut j).1) (el exOut j).1 != some Ordering.eq) = false ∧ (Ieee.single.order (cc (el exOut j).2) (el exOut j).2 != some Ordering.eq) = false := by
  intro j hj
  match j, hj with
  | 0, _ => exact ⟨by kernel_rfl, by kernel_rfl⟩
  | 1, _ => exact ⟨by kernel_rfl, by kernel_rfl⟩
  | 2, _ => exact ⟨by kernel_rfl, by kernel_rfl⟩
  | 3, _ => exact ⟨by kernel_rfl, by kernel_rfl⟩
  | k + 4, h => omega
set_option maxRecDepth 100000 in
set_option maxHeartbeats 4000000 in
theorem awake_at (w : World) : Calls Try.prog 17 #[] w fun e w' => e = .returned (.bool true) ∧ Below w.heap.size w w' := by
  have kc : ∀ (z : Int) (b : Nat), (∀ w, (convert 3 31 (.int .i64 z)).run Try.prog w = .ok (.float .f32 b) w) → (∀ w, (convert 3 31 (.int .i64 z)).run Try.prog w = .ok (.float .f32 b) w) := fun _ _ h => h
  have K0 : Hid (∀ w, (convert 3 31 (.int .i64 0)).run Try.prog w = .ok (.float .f32 0) w) := fun w => by kernel_rfl
  have K1 : Hid (∀ w, (convert 3 31 (.int .i64 1)).run Try.prog w = .ok (.float .f32 1065353216) w) := fun w => by kernel_rfl
  have K2 : Hid (∀ w, (convert 3 31 (.int .i64 2)).run Try.prog w = .ok (.float .f32 1073741824) w) := fun w => by kernel_rfl
  have K3 : Hid (∀ w, (convert 3 31 (.int .i64 3)).run Try.prog w = .ok (.float .f32 1077936128) w) := fun w => by kernel_rfl
  have K4 : Hid (∀ w, (convert 3 31 (.int .i64 4)).run Try.prog w = .ok (.float .f32 1082130432) w) := fun w => by kernel_rfl
  have K5 : Hid (∀ w, (convert 3 31 (.int .i64 5)).run Try.prog w = .ok (.float .f32 1084227584) w) := fun w => by kernel_rfl
  have KM : Hid (∀ w, (convert 3 31 (.int .i64 (-1))).run Try.prog w = .ok (.float .f32 3212836864) w) := fun w => by kernel_rfl
  have C0 : Hid (cc 0 = 0) := by show _ = _; kernel_rfl
  have C1 : Hid (cc 1065353216 = 1065353216) := by show _ = _; kernel_rfl
  have C2 : Hid (cc 1073741824 = 1073741824) := by show _ = _; kernel_rfl
  have C3 : Hid (cc 1077936128 = 1077936128) := by show _ = _; kernel_rfl
  have C4 : Hid (cc 1082130432 = 1082130432) := by show _ = _; kernel_rfl
  have C5 : Hid (cc 1084227584 = 1084227584) := by show _ = _; kernel_rfl
  have CM : Hid (cc 3212836864 = 3212836864) := by show _ = _; kernel_rfl
  clear kc
  go_enter Try.func17, Try.ntmps17
  go_wp2_with fail
  refine (ofi_at 0 0 0 0 K0.out K0.out _).mono ?_
  rintro e W1 ⟨rfl, hb⟩
  rw [C0.out]
  have H1 := Lib.hid hb
  clear hb
  go_wp2_with fail
  refine (ofi_at 1 0 1065353216 0 K1.out K0.out _).mono ?_
  rintro e W2 ⟨rfl, hb⟩
  rw [C0.out, C1.out]
  have H2 := Lib.hid (H1.out.trans (hb.mono H1.out.size))
  clear hb
  go_wp2_with fail
  refine (ofi_at 0 0 0 0 K0.out K0.out _).mono ?_
  rintro e W3 ⟨rfl, hb⟩
  rw [C0.out]
  have H3 := Lib.hid (H2.out.trans (hb.mono H2.out.size))
  clear hb
  go_wp2_with fail
  refine (ofi_at 0 0 0 0 K0.out K0.out _).mono ?_
  rintro e W4 ⟨rfl, hb⟩
  rw [C0.out]
  have H4 := Lib.hid (H3.out.trans (hb.mono H3.out.size))
  clear hb
  go_wp2_with fail
  have hr4 : Rd (W4.alloc (Obj.cells #[.int .u32 0, .int .u32 0, .int .u32 1065353216, .int .u32 0, .int .u32 0, .int .u32 0, .int .u32 0, .int .u32 0] 26)) W4.heap.size 0 exIn := rd4 W4 26 0 0 1065353216 0 0 0 0 0
  have H5 := Lib.hid (H4.out.alloc H4.out.size (Obj.cells #[.int .u32 0, .int .u32 0, .int .u32 1065353216, .int .u32 0, .int .u32 0, .int .u32 0, .int .u32 0, .int .u32 0] 26))
  generalize W4.alloc (Obj.cells #[.int .u32 0, .int .u32 0, .int .u32 1065353216, .int .u32 0, .int .u32 0, .int .u32 0, .int .u32 0, .int .u32 0] 26) = W5 at *
  refine (ptransform_fwd 2 (by decide) _ exIn _ (hr4.row rfl (Nat.le_refl _)) rfl).mono ?_
  clear hr4
  rintro e W6 ⟨v', rfl, ho, hb⟩
  rw [ex_fft] at ho
  have H6 := Lib.hid (H5.out.trans (hb.mono H5.out.size))
  obtain ⟨ge, ce, e1, l1, _, _⟩ := Own.rd ho (by unfold exOut; simp)
  have e2 : v' = .slice (some ⟨ge, 0, none⟩) 4 ce := e1
  subst e2
  have HO := Lib.hid ho
  clear e1 ho hb
  have l1 : 4 ≤ ce := l1
  go_wp2_with fail
  refine (rof_at _ _ _).mono ?_
  rintro e W7 ⟨rfl, hb⟩
  rw [show cb (canon 1065353216) = 1065353216 from C1.out, show cb (canon 0) = 0 from C0.out]
  have H7 := Lib.hid (H6.out.trans (hb.mono H6.out.size))
  have HO := Lib.hid (own_step HO.out hb : Own 26 W5.heap.size W7 (.slice (some ⟨ge, 0, none⟩) 4 ce) exOut)
  clear hb
  go_wp2_with fail
  refine (rof_at _ _ _).mono ?_
  rintro e W8 ⟨rfl, hb⟩
  rw [show cb (canon 0) = 0 from C0.out, show cb (canon 3212836864) = 3212836864 from CM.out]
  have H8 := Lib.hid (H7.out.trans (hb.mono H7.out.size))
  have HO := Lib.hid (own_step HO.out hb : Own 26 W5.heap.size W8 (.slice (some ⟨ge, 0, none⟩) 4 ce) exOut)
  clear hb
  go_wp2_with fail
  refine (rof_at _ _ _).mono ?_
  rintro e W9 ⟨rfl, hb⟩
  rw [show cb (canon 3212836864) = 3212836864 from CM.out, show cb (canon 0) = 0 from C0.out]
  have H9 := Lib.hid (H8.out.trans (hb.mono H8.out.size))
  have HO := Lib.hid (own_step HO.out hb : Own 26 W5.heap.size W9 (.slice (some ⟨ge, 0, none⟩) 4 ce) exOut)
  clear hb
  go_wp2_with fail
  refine (rof_at _ _ _).mono ?_
  rintro e W10 ⟨rfl, hb⟩
  rw [show cb (canon 0) = 0 from C0.out, show cb (canon 1065353216) = 1065353216 from C1.out]
  have H10 := Lib.hid (H9.out.trans (hb.mono H9.out.size))
  have HO := Lib.hid (own_step HO.out hb : Own 26 W5.heap.size W10 (.slice (some ⟨ge, 0, none⟩) 4 ce) exOut)
  clear hb
  go_upto_region 3 with fail
  have hr4 : Rd (W10.alloc (Obj.cells #[.int .u32 1065353216, .int .u32 0, .int .u32 0, .int .u32 3212836864, .int .u32 3212836864, .int .u32 0, .int .u32 0, .int .u32 1065353216] 57)) W10.heap.size 0 exOut := rd4 W10 57 1065353216 0 0 3212836864 3212836864 0 0 1065353216
  have hal : Below W10.heap.size W10 (W10.alloc (Obj.cells #[.int .u32 1065353216, .int .u32 0, .int .u32 0, .int .u32 3212836864, .int .u32 3212836864, .int .u32 0, .int .u32 0, .int .u32 1065353216] 57)) := (Below.refl _ _).alloc (Nat.le_refl _) _
  have H11 := Lib.hid (H10.out.trans (hal.mono H10.out.size))
  have ho11 : Own 26 W5.heap.size (W10.alloc (Obj.cells #[.int .u32 1065353216, .int .u32 0, .int .u32 0, .int .u32 3212836864, .int .u32 3212836864, .int .u32 0, .int .u32 0, .int .u32 1065353216] 57)) (.slice (some ⟨ge, 0, none⟩) 4 ce) exOut := own_step HO.out hal
  obtain ⟨ge', ce', e1, _, _, r1⟩ := Own.rd ho11 (by unfold exOut; simp)
  have eg : ge = ge' := by
    injection e1 with e1 _ _
    injection e1 with e1
    injection e1 with e1
  clear e1
  subst eg
  have R1 := Lib.hid r1
  have R2 := Lib.hid hr4
  clear hr4 hal ho11 r1 HO
  generalize W10.alloc (Obj.cells #[.int .u32 1065353216, .int .u32 0, .int .u32 0, .int .u32 3212836864, .int .u32 3212836864, .int .u32 0, .int .u32 0, .int .u32 1065353216] 57) = W11 at *
  generalize W10.heap.size = gr at *
  have CMP : Hid (∀ j, j < 4 → (Ieee.single.order (cc (el exOut j).1) (el exOut j).1 != some Ordering.eq) = false ∧ (Ieee.single.order (cc (el exOut j).2) (el exOut j).2 != some Ordering.eq) = false) := ex_cmp
  have EG : Hid (∀ j, j < 4 → exOut[j]? = some (el exOut j)) := fun j hj => el_get hj
  generalize exOut = E at *
  go_wp2_with fail
  go_loopw [4, 5, 6, 7, 8, 32] (fun _ _ _ _ _ s32 wr => ∃ j : Nat, j ≤ 4 ∧ s32 = .int .i64 j ∧ Below W11.heap.size W11 wr) (fun _ _ _ _ _ s32 _ => 4 - (intOf s32).toNat)
  case atStart => exact ⟨0, by omega, rfl, Below.refl _ _⟩
  case round =>
    obtain ⟨j, hj, rfl, hbw⟩ := hrel
    have HBW := Lib.hid hbw
    clear hbw
    by_cases hlt : j < 4
    · have tl : decide ((j : Int) < 4) = true := decide_eq_true (by omega)
      have ek1 : wrap64 ((j : Int) + 1) = ((j + 1 : Nat) : Int) := by unfold wrap64; omega
      have bi : (j : Int) < 4 := by omega
      obtain ⟨q1, q2⟩ := CMP.out j hlt
      have hx := EG.out j hlt
      generalize el E j = a at *
      obtain ⟨a0, a1⟩ := a
      obtain ⟨c0, c1⟩ := (R1.out.step HBW.out R1.out.1).get0 hx
      have HX := Lib.hid hx
      have Q := Lib.hid (And.intro q1 q2)
      have HLT := Lib.hid hlt
      clear q1 q2 hx hj
      go_wp2_with fail
      refine (parts_at a0 a1 _).mono ?_
      rintro e W12 ⟨rfl, hb⟩
      have HB2 := Lib.hid (HBW.out.trans (hb.mono HBW.out.size))
      clear hb c0 c1
      obtain ⟨c0, c1⟩ := (R2.out.step HB2.out R2.out.1).get0 HX.out
      have h38 : ∀ (n : Nat) (w : World), (callFunc 38 #[.int .u32 (n : Int)]).run Try.prog w = .ok (.value (.float .f32 n)) w := fun n w => by rw [run38]; rfl
      go_upto_region 9 with fail
      go_quiet (fail)
      have HB3 := Lib.hid (below_drewN HB2.out nq)
      generalize W12.drewN nq = W13 at *
      clear c0 c1 h38 HB2
      have q1 : (FloatKind.f32.format.order (cc a0) a0 != some Ordering.eq) = false := Q.out.1
      have q2 : (FloatKind.f32.format.order (cc a1) a1 != some Ordering.eq) = false := Q.out.2
      go_wp2_with fail
      try rw [ek1]
      go_roundw
      case rel => exact ⟨j + 1, HLT.out, rfl, HB3.out⟩
      case measure =>
        have := HLT.out
        show 4 - ((j + 1 : Nat) : Int).toNat < 4 - (j : Int).toNat
        omega
    · have hj4 : j = 4 := by omega
      have tl : decide ((j : Int) < 4) = false := decide_eq_false (by omega)
      have H12 := Lib.hid (H11.out.trans (HBW.out.mono H11.out.size))
      have hm1 : mulc (1065353216, 1073741824) (1077936128, 3212836864) = (1084227584, 1084227584) := by decide +kernel
      have HM1 := Lib.hid hm1
      clear hj4 hlt hj hm1
      go_wp2_with fail
      refine (ofi_at 1 2 1065353216 1073741824 K1.out K2.out _).mono ?_
      rintro e V1 ⟨rfl, hb⟩
      rw [C1.out, C2.out]
      have G1 := Lib.hid (H12.out.trans (hb.mono H12.out.size))
      clear hb
      go_wp2_with fail
      refine (ofi_at 3 (-1) 1077936128 3212836864 K3.out KM.out _).mono ?_
      rintro e V2 ⟨rfl, hb⟩
      rw [C3.out, CM.out]
      have G2 := Lib.hid (G1.out.trans (hb.mono G1.out.size))
      clear hb
      go_wp2_with fail
      refine (mulc_at 1065353216 1073741824 1077936128 3212836864 _).mono ?_
      rintro e V3 ⟨pa, pb, rfl, hpq, hb⟩
      have hpq' := hpq.trans HM1.out
      injection hpq' with e1 e2
      subst e1
      subst e2
      have G3 := Lib.hid (G2.out.trans (hb.mono G2.out.size))
      clear hb hpq
      go_wp2_with fail
      refine (ofi_at 5 5 1084227584 1084227584 K5.out K5.out _).mono ?_
      rintro e V4 ⟨rfl, hb⟩
      rw [C5.out]
      have G4 := Lib.hid (G3.out.trans (hb.mono G3.out.size))
      clear hb
      go_wp2_with fail
      refine (ofi_at 3 4 1077936128 1082130432 K3.out K4.out _).mono ?_
      rintro e V5 ⟨rfl, hb⟩
      rw [C3.out, C4.out]
      have G5 := Lib.hid (G4.out.trans (hb.mono G4.out.size))
      clear hb
      go_wp2_with fail
      refine (abs34 _).mono ?_
      rintro e V6 ⟨rfl, hb⟩
      have G6 := Lib.hid (G5.out.trans (hb.mono G5.out.size))
      clear hb
      have h35 := fun b w => run35 b w
      go_wp2_with fail
      go_ret
      exact ⟨rfl, G6.out⟩
end Go.Proofs.Ytlbgpfddmkpakaa.Nu
