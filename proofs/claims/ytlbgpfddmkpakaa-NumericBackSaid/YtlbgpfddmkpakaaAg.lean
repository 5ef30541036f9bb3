/- Numeric: the reference's numbers. -/
import Derived.Test.YtlbgpfddmkpakaaAf
namespace Go.Proofs.Ytlbgpfddmkpakaa.Nu
open Go.RowKit
set_option linter.unusedVariables false
set_option linter.unusedSimpArgs false

set_option maxRecDepth 100000 in
set_option maxHeartbeats 1000000 in
theorem rf_at (n : Nat) (w : World) : Calls Try.prog 52 #[.int .u32 n] w fun e w' => e = .returned (.float .f32 n) ∧ Below w.heap.size w w' := by
  have h38 : ∀ (n : Nat) (w : World), (callFunc 38 #[.int .u32 (n : Int)]).run Try.prog w = .ok (.value (.float .f32 n)) w := fun n w => by rw [run38]; rfl
  go_enter Try.func52, Try.ntmps52
  go_wp2_with fail
  go_ret
  exact ⟨rfl, Below.refl _ _⟩
set_option maxRecDepth 100000 in
set_option maxHeartbeats 1000000 in
theorem rbits_at (r : Nat) (w : World) : Calls Try.prog 53 #[.float .f32 r] w fun e w' => e = .returned (.int .u32 (cb (canon r))) ∧ Below w.heap.size w w' := by
  have h1 := neq_self r
  have h2 := fun w => run35 r w
  cases hc : canon r with
  | none =>
    rw [hc] at h1
    simp only [Option.isNone_none, Option.isNone_some] at h1
    go_enter Try.func53, Try.ntmps53
    go_wp2_with fail
    go_ret
    exact ⟨rfl, Below.refl _ _⟩
  | some x =>
    have hx : x = r := by
      unfold canon at hc
      split at hc
      · cases hc
      · injection hc with hc; exact hc.symm
    subst hx
    rw [hc] at h1
    simp only [Option.isNone_none, Option.isNone_some] at h1
    go_enter Try.func53, Try.ntmps53
    go_wp2_with fail
    go_ret
    exact ⟨rfl, Below.refl _ _⟩
set_option maxRecDepth 100000 in
set_option maxHeartbeats 1000000 in
theorem rplus_at (x y : Nat) (w : World) : Calls Try.prog 54 #[.float .f32 x, .float .f32 y] w fun e w' => ∃ r, e = .returned (.float .f32 r) ∧ r < 2 ^ 32 ∧ canon r = fop .add (canon x) (canon y) ∧ Below w.heap.size w w' := by
  obtain ⟨r, w', hr, h1, h2, h3⟩ := fop_run (op := .add) (.inl rfl) 31 x y w
  go_enter Try.func54, Try.ntmps54
  go_wp2_with fail
  go_ret
  exact ⟨_, rfl, h1, h2, one_drew h3⟩
set_option maxRecDepth 100000 in
set_option maxHeartbeats 1000000 in
theorem rtimes_at (x y : Nat) (w : World) : Calls Try.prog 55 #[.float .f32 x, .float .f32 y] w fun e w' => ∃ r, e = .returned (.float .f32 r) ∧ r < 2 ^ 32 ∧ canon r = fop .mul (canon x) (canon y) ∧ Below w.heap.size w w' := by
  obtain ⟨r, w', hr, h1, h2, h3⟩ := fop_run (op := .mul) (.inr (.inr (.inl rfl))) 31 x y w
  go_enter Try.func55, Try.ntmps55
  go_wp2_with fail
  go_ret
  exact ⟨_, rfl, h1, h2, one_drew h3⟩
set_option maxRecDepth 100000 in
set_option maxHeartbeats 1000000 in
theorem rminus_at (x y : Nat) (w : World) : Calls Try.prog 61 #[.float .f32 x, .float .f32 y] w fun e w' => ∃ r, e = .returned (.float .f32 r) ∧ r < 2 ^ 32 ∧ canon r = fop .sub (canon x) (canon y) ∧ Below w.heap.size w w' := by
  obtain ⟨r, w', hr, h1, h2, h3⟩ := fop_run (op := .sub) (.inr (.inl rfl)) 31 x y w
  go_enter Try.func61, Try.ntmps61
  go_wp2_with fail
  go_ret
  exact ⟨_, rfl, h1, h2, one_drew h3⟩
set_option maxRecDepth 100000 in
set_option maxHeartbeats 2000000 in
theorem rof_at (x y : Nat) (w : World) : Calls Try.prog 42 #[.float .f32 x, .float .f32 y] w fun e w' => e = .returned (.agg #[.int .u32 (cb (canon x)), .int .u32 (cb (canon y))]) ∧ Below w.heap.size w w' := by
  have h0 : Hid (Below w.heap.size w (w.alloc (Obj.cells #[.int .u32 0, .int .u32 0] 57))) := (Below.refl _ _).alloc (Nat.le_refl _) _
  have hm := Lib.hid (B2.made w (.int .u32 0) (.int .u32 0) 57)
  generalize hcx : cb (canon x) = cx
  generalize hcy : cb (canon y) = cy
  have HX := Lib.hid hcx
  have HY := Lib.hid hcy
  clear hcx hcy
  go_enter Try.func42, Try.ntmps42
  go_upto_region 1 with fail
  generalize w.alloc (Obj.cells #[.int .u32 0, .int .u32 0] 57) = W0 at *
  go_wp2_with fail
  refine (rbits_at x W0).mono ?_
  rintro e W1 ⟨rfl, hb1⟩
  rw [HX.out]
  have H1 := Lib.hid (h0.out.trans (hb1.mono h0.out.size))
  have M1 := Lib.hid (hm.out.step hb1)
  clear hb1
  go_wp2_with fail
  refine (rbits_at y W1).mono ?_
  rintro e W2 ⟨rfl, hb2⟩
  rw [HY.out]
  have H2 := Lib.hid (H1.out.trans (hb2.mono H1.out.size))
  have M2 := Lib.hid (M1.out.step hb2)
  clear hb2
  obtain ⟨c0, c1⟩ := M2.out.cells
  obtain ⟨f0, f1⟩ := M2.out.frz
  go_wp2_with fail
  obtain ⟨W3, hW3⟩ : ∃ W3, W3 = (W2.setCell ⟨w.heap.size, 0, none⟩ (.int .u32 cx)).setCell ⟨w.heap.size, 1, none⟩ (.int .u32 cy) := ⟨_, rfl⟩
  rw [← hW3]
  obtain ⟨p1, p2, _⟩ := B2.put M2.out hW3
  have K := Lib.hid (p2 _ _ (Nat.le_refl _) H2.out)
  clear c0 c1 f0 f1 hW3
  obtain ⟨c0, c1⟩ := p1.cells
  refine bodyPost_ret (v := .agg #[.int .u32 cx, .int .u32 cy]) (by simp [results, Try.results42, go_sem, c0, c1]) rfl ⟨rfl, K.out⟩
/-- The reference's boxes. -/
structure R2 (w : World) (a b c d : Value) (W : World) : Prop where
  below : Below w.heap.size w W
  x : B2 W w.heap.size 57 a b
  y : B2 W (w.heap.size + 1) 57 c d
  z : B2 W (w.heap.size + 1 + 1) 57 (.int .u32 0) (.int .u32 0)
theorem R2.step {w W W' : World} {a b c d : Value} (h : R2 w a b c d W) (hb : Below W.heap.size W W') : R2 w a b c d W' := ⟨h.below.trans (hb.mono h.below.size), h.x.step hb, h.y.step hb, h.z.step hb⟩
theorem R2.mk' (w : World) (a b c d : Value) : R2 w a b c d (((w.alloc (Obj.cells #[a, b] 57)).alloc (Obj.cells #[c, d] 57)).alloc (Obj.cells #[.int .u32 0, .int .u32 0] 57)) := by
  have s0 : Below w.heap.size w (w.alloc (Obj.cells #[a, b] 57)) := (Below.refl _ _).alloc (Nat.le_refl _) _
  have m0 := B2.made w a b 57
  have z0 : (w.alloc (Obj.cells #[a, b] 57)).heap.size = w.heap.size + 1 := by simp
  generalize w.alloc (Obj.cells #[a, b] 57) = V1 at *
  have s1 : Below V1.heap.size V1 (V1.alloc (Obj.cells #[c, d] 57)) := (Below.refl _ _).alloc (Nat.le_refl _) _
  have m1 := B2.made V1 c d 57
  have z1 : (V1.alloc (Obj.cells #[c, d] 57)).heap.size = V1.heap.size + 1 := by simp
  generalize V1.alloc (Obj.cells #[c, d] 57) = V2 at *
  have s2 : Below V2.heap.size V2 (V2.alloc (Obj.cells #[.int .u32 0, .int .u32 0] 57)) := (Below.refl _ _).alloc (Nat.le_refl _) _
  have m2 := B2.made V2 (.int .u32 0) (.int .u32 0) 57
  rw [z0] at m1
  rw [z1, z0] at m2
  exact ⟨(s0.trans (s1.mono s0.size)).trans (s2.mono (Nat.le_trans s0.size s1.size)), (m0.step s1).step s2, m1.step s2, m2⟩
theorem R2.facts {w W : World} {a b c d : Value} (h : R2 w a b c d W) : W.cell? ⟨w.heap.size, 0, none⟩ = some a ∧ W.cell? ⟨w.heap.size, 1, none⟩ = some b ∧ W.cell? ⟨w.heap.size + 1, 0, none⟩ = some c ∧ W.cell? ⟨w.heap.size + 1, 1, none⟩ = some d :=
  ⟨cell_blk h.x 0, cell_blk h.x 1, cell_blk h.y 0, cell_blk h.y 1⟩
theorem R2.facts_put {w W : World} {a b c d u0 u1 : Value} (h : R2 w a b c d W) : ((W.setCell ⟨w.heap.size + 1 + 1, 0, none⟩ u0).setCell ⟨w.heap.size + 1 + 1, 1, none⟩ u1).cell? ⟨w.heap.size, 0, none⟩ = some a ∧ ((W.setCell ⟨w.heap.size + 1 + 1, 0, none⟩ u0).setCell ⟨w.heap.size + 1 + 1, 1, none⟩ u1).cell? ⟨w.heap.size, 1, none⟩ = some b ∧ ((W.setCell ⟨w.heap.size + 1 + 1, 0, none⟩ u0).setCell ⟨w.heap.size + 1 + 1, 1, none⟩ u1).cell? ⟨w.heap.size + 1, 0, none⟩ = some c ∧ ((W.setCell ⟨w.heap.size + 1 + 1, 0, none⟩ u0).setCell ⟨w.heap.size + 1 + 1, 1, none⟩ u1).cell? ⟨w.heap.size + 1, 1, none⟩ = some d := by
  obtain ⟨_, _, p⟩ := B2.put (u0 := u0) (u1 := u1) h.z rfl
  have h1 := p _ _ _ _ (by omega) h.x
  have h2 := p _ _ _ _ (by omega) h.y
  exact ⟨cell_blk h1 0, cell_blk h1 1, cell_blk h2 0, cell_blk h2 1⟩
structure R1 (w : World) (a b : Value) (W : World) : Prop where
  below : Below w.heap.size w W
  x : B2 W w.heap.size 57 a b
  z : B2 W (w.heap.size + 1) 57 (.int .u32 0) (.int .u32 0)
theorem R1.step {w W W' : World} {a b : Value} (h : R1 w a b W) (hb : Below W.heap.size W W') : R1 w a b W' := ⟨h.below.trans (hb.mono h.below.size), h.x.step hb, h.z.step hb⟩
theorem R1.mk' (w : World) (a b : Value) : R1 w a b ((w.alloc (Obj.cells #[a, b] 57)).alloc (Obj.cells #[.int .u32 0, .int .u32 0] 57)) := by
  have s0 : Below w.heap.size w (w.alloc (Obj.cells #[a, b] 57)) := (Below.refl _ _).alloc (Nat.le_refl _) _
  have m0 := B2.made w a b 57
  have z0 : (w.alloc (Obj.cells #[a, b] 57)).heap.size = w.heap.size + 1 := by simp
  generalize w.alloc (Obj.cells #[a, b] 57) = V1 at *
  have s1 : Below V1.heap.size V1 (V1.alloc (Obj.cells #[.int .u32 0, .int .u32 0] 57)) := (Below.refl _ _).alloc (Nat.le_refl _) _
  have m1 := B2.made V1 (.int .u32 0) (.int .u32 0) 57
  rw [z0] at m1
  exact ⟨s0.trans (s1.mono s0.size), m0.step s1, m1⟩
theorem R1.facts {w W : World} {a b : Value} (h : R1 w a b W) : W.cell? ⟨w.heap.size, 0, none⟩ = some a ∧ W.cell? ⟨w.heap.size, 1, none⟩ = some b :=
  ⟨cell_blk h.x 0, cell_blk h.x 1⟩
theorem R1.facts_put {w W : World} {a b u0 u1 : Value} (h : R1 w a b W) : ((W.setCell ⟨w.heap.size + 1, 0, none⟩ u0).setCell ⟨w.heap.size + 1, 1, none⟩ u1).cell? ⟨w.heap.size, 0, none⟩ = some a ∧ ((W.setCell ⟨w.heap.size + 1, 0, none⟩ u0).setCell ⟨w.heap.size + 1, 1, none⟩ u1).cell? ⟨w.heap.size, 1, none⟩ = some b := by
  obtain ⟨_, _, p⟩ := B2.put (u0 := u0) (u1 := u1) h.z rfl
  have h1 := p _ _ _ _ (by omega) h.x
  exact ⟨cell_blk h1 0, cell_blk h1 1⟩

set_option maxRecDepth 100000 in
set_option maxHeartbeats 8000000 in
theorem radd_at (a b c d : Nat) (w : World) : Calls Try.prog 58 #[.agg #[.int .u32 a, .int .u32 b], .agg #[.int .u32 c, .int .u32 d]] w fun e w' => e = .returned (.agg #[.int .u32 (nop .add a c), .int .u32 (nop .add b d)]) ∧ Below w.heap.size w w' := by
  have hm := R2.mk' w (.int .u32 a) (.int .u32 b) (.int .u32 c) (.int .u32 d)
  go_enter Try.func58, Try.ntmps58
  go_upto_region 1 with fail
  generalize (((w.alloc (Obj.cells #[.int .u32 a, .int .u32 b] 57)).alloc (Obj.cells #[.int .u32 c, .int .u32 d] 57)).alloc (Obj.cells #[.int .u32 0, .int .u32 0] 57)) = V0 at *
  have H0 := Lib.hid hm
  clear hm
  have HD : Hid (Below V0.heap.size V0 V0.drew) := (Below.refl _ _).drew
  go_region_held3 (fun W => W.cell? ⟨w.heap.size, 0, none⟩ = some (.int .u32 a) ∧ W.cell? ⟨w.heap.size, 1, none⟩ = some (.int .u32 b) ∧ W.cell? ⟨w.heap.size + 1, 0, none⟩ = some (.int .u32 c) ∧ W.cell? ⟨w.heap.size + 1, 1, none⟩ = some (.int .u32 d))
    (first | with_reducible exact (H0.out.step HD.out).facts | with_reducible exact H1.out.facts | with_reducible exact H2.out.facts | with_reducible exact H3.out.facts | with_reducible exact H4.out.facts | with_reducible exact H5.out.facts | with_reducible exact H6.out.facts | with_reducible exact H7.out.facts | with_reducible exact H7.out.facts_put | (trace_state; fail))
    (first
      | (go_at_call 52; refine (rf_at a V0.drew).mono ?_; rintro en V1 ⟨rfl, hb⟩; have H1 := Lib.hid ((H0.out.step HD.out).step hb); clear hb)
      | (go_at_call 52; refine (rf_at c V1).mono ?_; rintro en V2 ⟨rfl, hb⟩; have H2 := Lib.hid (H1.out.step hb); clear hb)
      | (go_at_call 54; refine (rplus_at a c V2).mono ?_; rintro en V3 ⟨r, rfl, _, hr, hb⟩; have H3 := Lib.hid (H2.out.step hb); clear hb; have Hr := Lib.hid hr; clear hr)
      | (go_at_call 52; refine (rf_at b V3).mono ?_; rintro en V4 ⟨rfl, hb⟩; have H4 := Lib.hid (H3.out.step hb); clear hb)
      | (go_at_call 52; refine (rf_at d V4).mono ?_; rintro en V5 ⟨rfl, hb⟩; have H5 := Lib.hid (H4.out.step hb); clear hb)
      | (go_at_call 54; refine (rplus_at b d V5).mono ?_; rintro en V6 ⟨i, rfl, _, hi, hb⟩; have H6 := Lib.hid (H5.out.step hb); clear hb; have Hi := Lib.hid hi; clear hi)
      | (go_at_call 42; refine (rof_at r i V6).mono ?_; rintro en V7 ⟨rfl, hb⟩; have H7 := Lib.hid (H6.out.step hb); clear hb; obtain ⟨g0, g1⟩ := H7.out.z.cells; obtain ⟨f0, f1⟩ := H7.out.z.frz))
  all_goals
    obtain ⟨re, hre⟩ : ∃ re, re = cb (canon r) := ⟨_, rfl⟩
    obtain ⟨im, him⟩ : ∃ im, im = cb (canon i) := ⟨_, rfl⟩
    rw [← hre, ← him]
    have HRE : Hid (re = nop .add a c) := by show _ = _; rw [hre, Hr.out]; rfl
    have HIM : Hid (im = nop .add b d) := by show _ = _; rw [him, Hi.out]; rfl
    clear hre him
    obtain ⟨W9, hW9⟩ : ∃ W9, W9 = (V7.setCell ⟨w.heap.size + 1 + 1, 0, none⟩ (.int .u32 re)).setCell ⟨w.heap.size + 1 + 1, 1, none⟩ (.int .u32 im) := ⟨_, rfl⟩
    rw [← hW9]
    obtain ⟨p1, p2, _⟩ := B2.put H7.out.z hW9
    have K := Lib.hid (p2 w.heap.size w (by omega) H7.out.below)
    clear g0 g1 f0 f1 hW9
    obtain ⟨c0, c1⟩ := p1.cells
    go_wp2_with fail
    refine bodyPost_ret (v := .agg #[.int .u32 re, .int .u32 im]) (by simp [results, Try.results58, go_sem, c0, c1]) rfl ⟨by rw [HRE.out, HIM.out], K.out⟩

set_option maxRecDepth 100000 in
set_option maxHeartbeats 8000000 in
theorem rsub_at (a b c d : Nat) (w : World) : Calls Try.prog 64 #[.agg #[.int .u32 a, .int .u32 b], .agg #[.int .u32 c, .int .u32 d]] w fun e w' => e = .returned (.agg #[.int .u32 (nop .sub a c), .int .u32 (nop .sub b d)]) ∧ Below w.heap.size w w' := by
  have hm := R2.mk' w (.int .u32 a) (.int .u32 b) (.int .u32 c) (.int .u32 d)
  go_enter Try.func64, Try.ntmps64
  go_upto_region 1 with fail
  generalize (((w.alloc (Obj.cells #[.int .u32 a, .int .u32 b] 57)).alloc (Obj.cells #[.int .u32 c, .int .u32 d] 57)).alloc (Obj.cells #[.int .u32 0, .int .u32 0] 57)) = V0 at *
  have H0 := Lib.hid hm
  clear hm
  have HD : Hid (Below V0.heap.size V0 V0.drew) := (Below.refl _ _).drew
  go_region_held3 (fun W => W.cell? ⟨w.heap.size, 0, none⟩ = some (.int .u32 a) ∧ W.cell? ⟨w.heap.size, 1, none⟩ = some (.int .u32 b) ∧ W.cell? ⟨w.heap.size + 1, 0, none⟩ = some (.int .u32 c) ∧ W.cell? ⟨w.heap.size + 1, 1, none⟩ = some (.int .u32 d))
    (first | with_reducible exact (H0.out.step HD.out).facts | with_reducible exact H1.out.facts | with_reducible exact H2.out.facts | with_reducible exact H3.out.facts | with_reducible exact H4.out.facts | with_reducible exact H5.out.facts | with_reducible exact H6.out.facts | with_reducible exact H7.out.facts | with_reducible exact H7.out.facts_put | (trace_state; fail))
    (first
      | (go_at_call 52; refine (rf_at a V0.drew).mono ?_; rintro en V1 ⟨rfl, hb⟩; have H1 := Lib.hid ((H0.out.step HD.out).step hb); clear hb)
      | (go_at_call 52; refine (rf_at c V1).mono ?_; rintro en V2 ⟨rfl, hb⟩; have H2 := Lib.hid (H1.out.step hb); clear hb)
      | (go_at_call 61; refine (rminus_at a c V2).mono ?_; rintro en V3 ⟨r, rfl, _, hr, hb⟩; have H3 := Lib.hid (H2.out.step hb); clear hb; have Hr := Lib.hid hr; clear hr)
      | (go_at_call 52; refine (rf_at b V3).mono ?_; rintro en V4 ⟨rfl, hb⟩; have H4 := Lib.hid (H3.out.step hb); clear hb)
      | (go_at_call 52; refine (rf_at d V4).mono ?_; rintro en V5 ⟨rfl, hb⟩; have H5 := Lib.hid (H4.out.step hb); clear hb)
      | (go_at_call 61; refine (rminus_at b d V5).mono ?_; rintro en V6 ⟨i, rfl, _, hi, hb⟩; have H6 := Lib.hid (H5.out.step hb); clear hb; have Hi := Lib.hid hi; clear hi)
      | (go_at_call 42; refine (rof_at r i V6).mono ?_; rintro en V7 ⟨rfl, hb⟩; have H7 := Lib.hid (H6.out.step hb); clear hb; obtain ⟨g0, g1⟩ := H7.out.z.cells; obtain ⟨f0, f1⟩ := H7.out.z.frz))
  all_goals
    obtain ⟨re, hre⟩ : ∃ re, re = cb (canon r) := ⟨_, rfl⟩
    obtain ⟨im, him⟩ : ∃ im, im = cb (canon i) := ⟨_, rfl⟩
    rw [← hre, ← him]
    have HRE : Hid (re = nop .sub a c) := by show _ = _; rw [hre, Hr.out]; rfl
    have HIM : Hid (im = nop .sub b d) := by show _ = _; rw [him, Hi.out]; rfl
    clear hre him
    obtain ⟨W9, hW9⟩ : ∃ W9, W9 = (V7.setCell ⟨w.heap.size + 1 + 1, 0, none⟩ (.int .u32 re)).setCell ⟨w.heap.size + 1 + 1, 1, none⟩ (.int .u32 im) := ⟨_, rfl⟩
    rw [← hW9]
    obtain ⟨p1, p2, _⟩ := B2.put H7.out.z hW9
    have K := Lib.hid (p2 w.heap.size w (by omega) H7.out.below)
    clear g0 g1 f0 f1 hW9
    obtain ⟨c0, c1⟩ := p1.cells
    go_wp2_with fail
    refine bodyPost_ret (v := .agg #[.int .u32 re, .int .u32 im]) (by simp [results, Try.results64, go_sem, c0, c1]) rfl ⟨by rw [HRE.out, HIM.out], K.out⟩

set_option maxRecDepth 100000 in
set_option maxHeartbeats 8000000 in
theorem rconj_at (a b : Nat) (w : World) : Calls Try.prog 51 #[.agg #[.int .u32 a, .int .u32 b]] w fun e w' => e = .returned (.agg #[.int .u32 (cc a), .int .u32 (cc (neg32 b))]) ∧ Below w.heap.size w w' := by
  have hm := R1.mk' w (.int .u32 a) (.int .u32 b)
  go_enter Try.func51, Try.ntmps51
  go_upto_region 1 with fail
  generalize ((w.alloc (Obj.cells #[.int .u32 a, .int .u32 b] 57)).alloc (Obj.cells #[.int .u32 0, .int .u32 0] 57)) = V0 at *
  have H0 := Lib.hid hm
  clear hm
  have HD : Hid (Below V0.heap.size V0 V0.drew) := (Below.refl _ _).drew
  have hng : ∀ (x : Nat) (w : World), (Op.unary .neg (.float .f32 x)).run Try.prog w = .ok (.float .f32 (neg32 x)) w := fun x w => rfl
  go_region_held3 (fun W => W.cell? ⟨w.heap.size, 0, none⟩ = some (.int .u32 a) ∧ W.cell? ⟨w.heap.size, 1, none⟩ = some (.int .u32 b))
    (first | with_reducible exact (H0.out.step HD.out).facts | with_reducible exact H1.out.facts | with_reducible exact H2.out.facts | with_reducible exact H3.out.facts | with_reducible exact H3.out.facts_put | (trace_state; fail))
    (first
      | (go_at_call 52; refine (rf_at a V0.drew).mono ?_; rintro en V1 ⟨rfl, hb⟩; have H1 := Lib.hid ((H0.out.step HD.out).step hb); clear hb)
      | (go_at_call 52; refine (rf_at b V1).mono ?_; rintro en V2 ⟨rfl, hb⟩; have H2 := Lib.hid (H1.out.step hb); clear hb)
      | (go_at_call 42; refine (rof_at a (neg32 b) V2).mono ?_; rintro en V3 ⟨rfl, hb⟩; have H3 := Lib.hid (H2.out.step hb); clear hb; obtain ⟨g0, g1⟩ := H3.out.z.cells; obtain ⟨f0, f1⟩ := H3.out.z.frz))
  all_goals
    obtain ⟨re, hre⟩ : ∃ re, re = cb (canon a) := ⟨_, rfl⟩
    obtain ⟨im, him⟩ : ∃ im, im = cb (canon (neg32 b)) := ⟨_, rfl⟩
    rw [← hre, ← him]
    have HRE : Hid (re = cc a) := by show _ = _; rw [hre]; rfl
    have HIM : Hid (im = cc (neg32 b)) := by show _ = _; rw [him]; rfl
    clear hre him
    obtain ⟨W9, hW9⟩ : ∃ W9, W9 = (V3.setCell ⟨w.heap.size + 1, 0, none⟩ (.int .u32 re)).setCell ⟨w.heap.size + 1, 1, none⟩ (.int .u32 im) := ⟨_, rfl⟩
    rw [← hW9]
    obtain ⟨p1, p2, _⟩ := B2.put H3.out.z hW9
    have K := Lib.hid (p2 w.heap.size w (by omega) H3.out.below)
    clear g0 g1 f0 f1 hW9
    obtain ⟨c0, c1⟩ := p1.cells
    go_wp2_with fail
    refine bodyPost_ret (v := .agg #[.int .u32 re, .int .u32 im]) (by simp [results, Try.results51, go_sem, c0, c1]) rfl ⟨by rw [HRE.out, HIM.out], K.out⟩

set_option maxRecDepth 100000 in
set_option maxHeartbeats 8000000 in
theorem rmul_at (a b c d : Nat) (w : World) : Calls Try.prog 48 #[.agg #[.int .u32 a, .int .u32 b], .agg #[.int .u32 c, .int .u32 d]] w fun e w' => e = .returned (.agg #[.int .u32 (cb (mulRe a b c d)), .int .u32 (cb (mulIm a b c d))]) ∧ Below w.heap.size w w' := by
  have hm := R2.mk' w (.int .u32 a) (.int .u32 b) (.int .u32 c) (.int .u32 d)
  go_enter Try.func48, Try.ntmps48
  go_upto_region 1 with fail
  generalize (((w.alloc (Obj.cells #[.int .u32 a, .int .u32 b] 57)).alloc (Obj.cells #[.int .u32 c, .int .u32 d] 57)).alloc (Obj.cells #[.int .u32 0, .int .u32 0] 57)) = V0 at *
  have H0 := Lib.hid hm
  clear hm
  have HD : Hid (Below V0.heap.size V0 V0.drew) := (Below.refl _ _).drew
  go_region_held3 (fun W => W.cell? ⟨w.heap.size, 0, none⟩ = some (.int .u32 a) ∧ W.cell? ⟨w.heap.size, 1, none⟩ = some (.int .u32 b) ∧ W.cell? ⟨w.heap.size + 1, 0, none⟩ = some (.int .u32 c) ∧ W.cell? ⟨w.heap.size + 1, 1, none⟩ = some (.int .u32 d))
    (first | with_reducible exact (H0.out.step HD.out).facts | with_reducible exact H1.out.facts | with_reducible exact H2.out.facts | with_reducible exact H3.out.facts | with_reducible exact H4.out.facts | (trace_state; fail))
    (first
      | (go_at_call 52; refine (rf_at a V0.drew).mono ?_; rintro en V1 ⟨rfl, hb⟩; have H1 := Lib.hid ((H0.out.step HD.out).step hb); clear hb)
      | (go_at_call 52; refine (rf_at b V1).mono ?_; rintro en V2 ⟨rfl, hb⟩; have H2 := Lib.hid (H1.out.step hb); clear hb)
      | (go_at_call 52; refine (rf_at c V2).mono ?_; rintro en V3 ⟨rfl, hb⟩; have H3 := Lib.hid (H2.out.step hb); clear hb)
      | (go_at_call 52; refine (rf_at d V3).mono ?_; rintro en V4 ⟨rfl, hb⟩; have H4 := Lib.hid (H3.out.step hb); clear hb))
  all_goals
    go_wp2_with fail
    refine (rtimes_at a c V4).mono ?_
    rintro e V5 ⟨p, rfl, _, hp, hb⟩
    have H5 := Lib.hid (H4.out.step hb)
    clear hb
    have Hp := Lib.hid hp
    clear hp
    go_wp2_with fail
    refine (rtimes_at b d V5).mono ?_
    rintro e V6 ⟨q, rfl, _, hq, hb⟩
    have H6 := Lib.hid (H5.out.step hb)
    clear hb
    have Hq := Lib.hid hq
    clear hq
    go_wp2_with fail
    refine (rminus_at p q V6).mono ?_
    rintro e V7 ⟨u, rfl, _, hu, hb⟩
    have H7 := Lib.hid (H6.out.step hb)
    clear hb
    have Hu := Lib.hid hu
    clear hu
    go_wp2_with fail
    refine (rtimes_at a d V7).mono ?_
    rintro e V8 ⟨s, rfl, _, hs, hb⟩
    have H8 := Lib.hid (H7.out.step hb)
    clear hb
    have Hs := Lib.hid hs
    clear hs
    go_wp2_with fail
    refine (rtimes_at b c V8).mono ?_
    rintro e V9 ⟨t, rfl, _, ht, hb⟩
    have H9 := Lib.hid (H8.out.step hb)
    clear hb
    have Ht := Lib.hid ht
    clear ht
    go_wp2_with fail
    refine (rplus_at s t V9).mono ?_
    rintro e V10 ⟨v, rfl, _, hv, hb⟩
    have H10 := Lib.hid (H9.out.step hb)
    clear hb
    have Hv := Lib.hid hv
    clear hv
    go_wp2_with fail
    refine (rof_at u v V10).mono ?_
    rintro e V11 ⟨rfl, hb⟩
    have H11 := Lib.hid (H10.out.step hb)
    clear hb
    obtain ⟨g0, g1⟩ := H11.out.z.cells
    obtain ⟨f0, f1⟩ := H11.out.z.frz
    go_wp2_with fail
    obtain ⟨re, hre⟩ : ∃ re, re = cb (canon u) := ⟨_, rfl⟩
    obtain ⟨im, him⟩ : ∃ im, im = cb (canon v) := ⟨_, rfl⟩
    rw [← hre, ← him]
    have HRE : Hid (re = cb (mulRe a b c d)) := by show _ = _; rw [hre, Hu.out, Hp.out, Hq.out]; rfl
    have HIM : Hid (im = cb (mulIm a b c d)) := by show _ = _; rw [him, Hv.out, Hs.out, Ht.out]; rfl
    clear hre him
    obtain ⟨W9, hW9⟩ : ∃ W9, W9 = (V11.setCell ⟨w.heap.size + 1 + 1, 0, none⟩ (.int .u32 re)).setCell ⟨w.heap.size + 1 + 1, 1, none⟩ (.int .u32 im) := ⟨_, rfl⟩
    rw [← hW9]
    obtain ⟨p1, p2, _⟩ := B2.put H11.out.z hW9
    have K := Lib.hid (p2 w.heap.size w (by omega) H11.out.below)
    clear g0 g1 f0 f1 hW9
    obtain ⟨c0, c1⟩ := p1.cells
    refine bodyPost_ret (v := .agg #[.int .u32 re, .int .u32 im]) (by simp [results, Try.results48, go_sem, c0, c1]) rfl ⟨by rw [HRE.out, HIM.out], K.out⟩
end Go.Proofs.Ytlbgpfddmkpakaa.Nu
