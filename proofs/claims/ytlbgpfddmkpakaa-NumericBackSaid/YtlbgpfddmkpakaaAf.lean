/- Numeric: clean, Conj, Mul, Div. -/
import Derived.Test.YtlbgpfddmkpakaaAe
namespace Go.Proofs.Ytlbgpfddmkpakaa.Nu
open Go.RowKit
set_option linter.unusedVariables false
set_option linter.unusedSimpArgs false

/-- The memory of an operation on numbers: one box, and the result's. -/
structure M1 (w : World) (a b : Value) (W : World) : Prop where
  below : Below w.heap.size w W
  x : B2 W w.heap.size 26 a b
  z : B2 W (w.heap.size + 1) 26 (.int .u32 0) (.int .u32 0)
theorem M1.step {w W W' : World} {a b : Value} (h : M1 w a b W) (hb : Below W.heap.size W W') : M1 w a b W' := ⟨h.below.trans (hb.mono h.below.size), h.x.step hb, h.z.step hb⟩
theorem M1.mk' (w : World) (a b : Value) : M1 w a b ((w.alloc (Obj.cells #[a, b] 26)).alloc (Obj.cells #[.int .u32 0, .int .u32 0] 26)) := by
  have s0 : Below w.heap.size w (w.alloc (Obj.cells #[a, b] 26)) := (Below.refl _ _).alloc (Nat.le_refl _) _
  have m0 := B2.made w a b 26
  have z0 : (w.alloc (Obj.cells #[a, b] 26)).heap.size = w.heap.size + 1 := by simp
  generalize w.alloc (Obj.cells #[a, b] 26) = V1 at *
  have s1 : Below V1.heap.size V1 (V1.alloc (Obj.cells #[.int .u32 0, .int .u32 0] 26)) := (Below.refl _ _).alloc (Nat.le_refl _) _
  have m1 := B2.made V1 (.int .u32 0) (.int .u32 0) 26
  rw [z0] at m1
  exact ⟨s0.trans (s1.mono s0.size), m0.step s1, m1⟩
/-- Two boxes, and the result's. -/
structure M2 (w : World) (a b c d : Value) (W : World) : Prop where
  below : Below w.heap.size w W
  x : B2 W w.heap.size 26 a b
  y : B2 W (w.heap.size + 1) 26 c d
  z : B2 W (w.heap.size + 1 + 1) 26 (.int .u32 0) (.int .u32 0)
theorem M2.step {w W W' : World} {a b c d : Value} (h : M2 w a b c d W) (hb : Below W.heap.size W W') : M2 w a b c d W' := ⟨h.below.trans (hb.mono h.below.size), h.x.step hb, h.y.step hb, h.z.step hb⟩
theorem M2.mk' (w : World) (a b c d : Value) : M2 w a b c d (((w.alloc (Obj.cells #[a, b] 26)).alloc (Obj.cells #[c, d] 26)).alloc (Obj.cells #[.int .u32 0, .int .u32 0] 26)) := by
  have s0 : Below w.heap.size w (w.alloc (Obj.cells #[a, b] 26)) := (Below.refl _ _).alloc (Nat.le_refl _) _
  have m0 := B2.made w a b 26
  have z0 : (w.alloc (Obj.cells #[a, b] 26)).heap.size = w.heap.size + 1 := by simp
  generalize w.alloc (Obj.cells #[a, b] 26) = V1 at *
  have s1 : Below V1.heap.size V1 (V1.alloc (Obj.cells #[c, d] 26)) := (Below.refl _ _).alloc (Nat.le_refl _) _
  have m1 := B2.made V1 c d 26
  have z1 : (V1.alloc (Obj.cells #[c, d] 26)).heap.size = V1.heap.size + 1 := by simp
  generalize V1.alloc (Obj.cells #[c, d] 26) = V2 at *
  have s2 : Below V2.heap.size V2 (V2.alloc (Obj.cells #[.int .u32 0, .int .u32 0] 26)) := (Below.refl _ _).alloc (Nat.le_refl _) _
  have m2 := B2.made V2 (.int .u32 0) (.int .u32 0) 26
  rw [z0] at m1
  rw [z1, z0] at m2
  exact ⟨(s0.trans (s1.mono s0.size)).trans (s2.mono (Nat.le_trans s0.size s1.size)), (m0.step s1).step s2, m1.step s2, m2⟩
/-- What one drawn number more does. -/
theorem one_drew {w w' : World} (h : w' = w ∨ w' = w.drew) : Below w.heap.size w w' := by
  rcases h with rfl | rfl
  · exact Below.refl _ _
  · exact (Below.refl _ _).drew
/-- Multiplication of numbers, plainly. -/
def mulRe (a b c d : Nat) : Option Nat := fop .sub (fop .mul (canon a) (canon c)) (fop .mul (canon b) (canon d))
def mulIm (a b c d : Nat) : Option Nat := fop .add (fop .mul (canon a) (canon d)) (fop .mul (canon b) (canon c))
/-- Division. -/
def divN (c d : Nat) : Option Nat := fop .add (fop .mul (canon c) (canon c)) (fop .mul (canon d) (canon d))
def divRe (a b c d : Nat) : Option Nat := fop .quo (fop .add (fop .mul (canon a) (canon c)) (fop .mul (canon b) (canon d))) (divN c d)
def divIm (a b c d : Nat) : Option Nat := fop .quo (fop .sub (fop .mul (canon b) (canon c)) (fop .mul (canon a) (canon d))) (divN c d)
def neg32 (x : Nat) : Nat := Op.negFloat .f32 x

set_option maxRecDepth 100000 in
set_option maxHeartbeats 4000000 in
theorem clean_at (a b : Nat) (w : World) : Calls Try.prog 56 #[.agg #[.int .u32 a, .int .u32 b]] w fun e w' => e = .returned (.agg #[.int .u32 (cc a), .int .u32 (cc b)]) ∧ Below w.heap.size w w' := by
  have hm := M1.mk' w (.int .u32 a) (.int .u32 b)
  go_enter Try.func56, Try.ntmps56
  go_upto_region 1 with fail
  generalize ((w.alloc (Obj.cells #[.int .u32 a, .int .u32 b] 26)).alloc (Obj.cells #[.int .u32 0, .int .u32 0] 26)) = W0 at *
  have HM := Lib.hid hm
  clear hm
  obtain ⟨c0, c1⟩ := HM.out.x.cells
  go_wp2_with fail
  refine (value_at a b W0).mono ?_
  rintro e V1 ⟨rfl, hb⟩
  have HM := Lib.hid (HM.out.step hb)
  clear hb
  clear c0 c1
  go_wp2_with fail
  refine (ofc_at (cc a) (cc b) V1).mono ?_
  rintro e V2 ⟨rfl, hb⟩
  have HM := Lib.hid (HM.out.step hb)
  clear hb
  obtain ⟨re, hre⟩ : ∃ re, re = cc (cc a) := ⟨_, rfl⟩
  obtain ⟨im, him⟩ : ∃ im, im = cc (cc b) := ⟨_, rfl⟩
  rw [← hre, ← him]
  have HRE : Hid (re = cc a) := by show _ = _; rw [hre]; unfold cc; rw [canon_cb rfl]
  have HIM : Hid (im = cc b) := by show _ = _; rw [him]; unfold cc; rw [canon_cb rfl]
  clear hre him
  obtain ⟨z0, z1⟩ := HM.out.z.cells
  obtain ⟨f0, f1⟩ := HM.out.z.frz
  go_wp2_with fail
  obtain ⟨W9, hW9⟩ : ∃ W9, W9 = (V2.setCell ⟨w.heap.size + 1, 0, none⟩ (.int .u32 re)).setCell ⟨w.heap.size + 1, 1, none⟩ (.int .u32 im) := ⟨_, rfl⟩
  rw [← hW9]
  obtain ⟨p1, p2, _⟩ := B2.put HM.out.z hW9
  have K := Lib.hid (p2 w.heap.size w (by omega) HM.out.below)
  clear z0 z1 f0 f1 hW9
  obtain ⟨c0, c1⟩ := p1.cells
  refine bodyPost_ret (v := .agg #[.int .u32 re, .int .u32 im]) (by simp [results, Try.results56, go_sem, c0, c1]) rfl ⟨by rw [HRE.out, HIM.out], K.out⟩

set_option maxRecDepth 100000 in
set_option maxHeartbeats 4000000 in
theorem conj_at (a b : Nat) (w : World) : Calls Try.prog 11 #[.agg #[.int .u32 a, .int .u32 b]] w fun e w' => e = .returned (.agg #[.int .u32 (cc a), .int .u32 (cc (neg32 (cc b)))]) ∧ Below w.heap.size w w' := by
  have hm := M1.mk' w (.int .u32 a) (.int .u32 b)
  go_enter Try.func11, Try.ntmps11
  go_upto_region 1 with fail
  generalize ((w.alloc (Obj.cells #[.int .u32 a, .int .u32 b] 26)).alloc (Obj.cells #[.int .u32 0, .int .u32 0] 26)) = W0 at *
  have HM := Lib.hid hm
  clear hm
  obtain ⟨c0, c1⟩ := HM.out.x.cells
  go_wp2_with fail
  refine (parts_at a b W0).mono ?_
  rintro e V3 ⟨rfl, hb⟩
  have HM := Lib.hid (HM.out.step hb)
  clear hb
  clear c0 c1
  have hng : ∀ (x : Nat) (w : World), (Op.unary .neg (.float .f32 x)).run Try.prog w = .ok (.float .f32 (neg32 x)) w := fun x w => rfl
  go_wp2_with fail
  clear hng
  refine (of_at (cc a) (neg32 (cc b)) V3).mono ?_
  rintro e V4 ⟨rfl, hb⟩
  have HM := Lib.hid (HM.out.step hb)
  clear hb
  obtain ⟨re, hre⟩ : ∃ re, re = cb (canon (cc a)) := ⟨_, rfl⟩
  obtain ⟨im, him⟩ : ∃ im, im = cb (canon (neg32 (cc b))) := ⟨_, rfl⟩
  rw [← hre, ← him]
  have HRE : Hid (re = cc a) := by show _ = _; rw [hre, canon_cc]; rfl
  have HIM : Hid (im = cc (neg32 (cc b))) := him
  clear hre him
  obtain ⟨z0, z1⟩ := HM.out.z.cells
  obtain ⟨f0, f1⟩ := HM.out.z.frz
  go_wp2_with fail
  obtain ⟨W9, hW9⟩ : ∃ W9, W9 = (V4.setCell ⟨w.heap.size + 1, 0, none⟩ (.int .u32 re)).setCell ⟨w.heap.size + 1, 1, none⟩ (.int .u32 im) := ⟨_, rfl⟩
  rw [← hW9]
  obtain ⟨p1, p2, _⟩ := B2.put HM.out.z hW9
  have K := Lib.hid (p2 w.heap.size w (by omega) HM.out.below)
  clear z0 z1 f0 f1 hW9
  obtain ⟨c0, c1⟩ := p1.cells
  refine bodyPost_ret (v := .agg #[.int .u32 re, .int .u32 im]) (by simp [results, Try.results11, go_sem, c0, c1]) rfl ⟨by rw [HRE.out, HIM.out], K.out⟩

set_option maxRecDepth 100000 in
set_option maxHeartbeats 4000000 in
theorem mul_at (a b c d : Nat) (w : World) : Calls Try.prog 10 #[.agg #[.int .u32 a, .int .u32 b], .agg #[.int .u32 c, .int .u32 d]] w fun e w' => e = .returned (.agg #[.int .u32 (cb (mulRe a b c d)), .int .u32 (cb (mulIm a b c d))]) ∧ Below w.heap.size w w' := by
  have hm := M2.mk' w (.int .u32 a) (.int .u32 b) (.int .u32 c) (.int .u32 d)
  go_enter Try.func10, Try.ntmps10
  go_upto_region 1 with fail
  generalize (((w.alloc (Obj.cells #[.int .u32 a, .int .u32 b] 26)).alloc (Obj.cells #[.int .u32 c, .int .u32 d] 26)).alloc (Obj.cells #[.int .u32 0, .int .u32 0] 26)) = W0 at *
  have HM := Lib.hid hm
  clear hm
  obtain ⟨c0, c1⟩ := HM.out.x.cells
  go_wp2_with fail
  refine (parts_at a b W0).mono ?_
  rintro e V5 ⟨rfl, hb⟩
  have HM := Lib.hid (HM.out.step hb)
  clear hb
  clear c0 c1
  obtain ⟨c0, c1⟩ := HM.out.y.cells
  go_wp2_with fail
  refine (parts_at c d V5).mono ?_
  rintro e V6 ⟨rfl, hb⟩
  have HM := Lib.hid (HM.out.step hb)
  clear hb
  clear c0 c1
  go_wp2_with fail
  refine (times_at (cc a) (cc c) V6).mono ?_
  rintro e V7 ⟨p, rfl, _, hp, hb⟩
  have HM := Lib.hid (HM.out.step hb)
  have Hp := Lib.hid hp
  clear hb hp
  go_wp2_with fail
  refine (times_at (cc b) (cc d) V7).mono ?_
  rintro e V8 ⟨q, rfl, _, hq, hb⟩
  have HM := Lib.hid (HM.out.step hb)
  have Hq := Lib.hid hq
  clear hb hq
  obtain ⟨u, V9, ru, _, hu, hb⟩ := fop_run (op := .sub) (.inr (.inl rfl)) 31 p q V8
  have HM := Lib.hid (HM.out.step (one_drew hb))
  have Hu := Lib.hid hu
  clear hb hu
  go_wp2_with fail
  refine (times_at (cc a) (cc d) V9).mono ?_
  rintro e V10 ⟨s, rfl, _, hs, hb⟩
  have HM := Lib.hid (HM.out.step hb)
  have Hs := Lib.hid hs
  clear hb hs
  clear ru
  go_wp2_with fail
  refine (times_at (cc b) (cc c) V10).mono ?_
  rintro e V11 ⟨t, rfl, _, ht, hb⟩
  have HM := Lib.hid (HM.out.step hb)
  have Ht := Lib.hid ht
  clear hb ht
  obtain ⟨v, V12, rv, _, hv, hb⟩ := fop_run (op := .add) (.inl rfl) 31 s t V11
  have HM := Lib.hid (HM.out.step (one_drew hb))
  have Hv := Lib.hid hv
  clear hb hv
  go_wp2_with fail
  refine (of_at u v V12).mono ?_
  rintro e V13 ⟨rfl, hb⟩
  have HM := Lib.hid (HM.out.step hb)
  clear hb
  obtain ⟨re, hre⟩ : ∃ re, re = cb (canon u) := ⟨_, rfl⟩
  obtain ⟨im, him⟩ : ∃ im, im = cb (canon v) := ⟨_, rfl⟩
  rw [← hre, ← him]
  have HRE : Hid (re = cb (mulRe a b c d)) := by show _ = _; rw [hre, Hu.out, Hp.out, Hq.out, canon_cc, canon_cc, canon_cc, canon_cc]; rfl
  have HIM : Hid (im = cb (mulIm a b c d)) := by show _ = _; rw [him, Hv.out, Hs.out, Ht.out, canon_cc, canon_cc, canon_cc, canon_cc]; rfl
  clear hre him
  clear rv
  obtain ⟨z0, z1⟩ := HM.out.z.cells
  obtain ⟨f0, f1⟩ := HM.out.z.frz
  go_wp2_with fail
  obtain ⟨W9, hW9⟩ : ∃ W9, W9 = (V13.setCell ⟨w.heap.size + 1 + 1, 0, none⟩ (.int .u32 re)).setCell ⟨w.heap.size + 1 + 1, 1, none⟩ (.int .u32 im) := ⟨_, rfl⟩
  rw [← hW9]
  obtain ⟨p1, p2, _⟩ := B2.put HM.out.z hW9
  have K := Lib.hid (p2 w.heap.size w (by omega) HM.out.below)
  clear z0 z1 f0 f1 hW9
  obtain ⟨c0, c1⟩ := p1.cells
  refine bodyPost_ret (v := .agg #[.int .u32 re, .int .u32 im]) (by simp [results, Try.results10, go_sem, c0, c1]) rfl ⟨by rw [HRE.out, HIM.out], K.out⟩

set_option maxRecDepth 100000 in
set_option maxHeartbeats 4000000 in
theorem div_at (a b c d : Nat) (w : World) : Calls Try.prog 16 #[.agg #[.int .u32 a, .int .u32 b], .agg #[.int .u32 c, .int .u32 d]] w fun e w' => e = .returned (.agg #[.int .u32 (cb (divRe a b c d)), .int .u32 (cb (divIm a b c d))]) ∧ Below w.heap.size w w' := by
  have hm := M2.mk' w (.int .u32 a) (.int .u32 b) (.int .u32 c) (.int .u32 d)
  go_enter Try.func16, Try.ntmps16
  go_upto_region 1 with fail
  generalize (((w.alloc (Obj.cells #[.int .u32 a, .int .u32 b] 26)).alloc (Obj.cells #[.int .u32 c, .int .u32 d] 26)).alloc (Obj.cells #[.int .u32 0, .int .u32 0] 26)) = W0 at *
  have HM := Lib.hid hm
  clear hm
  obtain ⟨c0, c1⟩ := HM.out.x.cells
  go_wp2_with fail
  refine (parts_at a b W0).mono ?_
  rintro e V14 ⟨rfl, hb⟩
  have HM := Lib.hid (HM.out.step hb)
  clear hb
  clear c0 c1
  obtain ⟨c0, c1⟩ := HM.out.y.cells
  go_wp2_with fail
  refine (parts_at c d V14).mono ?_
  rintro e V15 ⟨rfl, hb⟩
  have HM := Lib.hid (HM.out.step hb)
  clear hb
  clear c0 c1
  go_wp2_with fail
  refine (times_at (cc c) (cc c) V15).mono ?_
  rintro e V16 ⟨p, rfl, _, hp, hb⟩
  have HM := Lib.hid (HM.out.step hb)
  have Hp := Lib.hid hp
  clear hb hp
  go_wp2_with fail
  refine (times_at (cc d) (cc d) V16).mono ?_
  rintro e V17 ⟨q, rfl, _, hq, hb⟩
  have HM := Lib.hid (HM.out.step hb)
  have Hq := Lib.hid hq
  clear hb hq
  obtain ⟨n, V18, rn, _, hn, hb⟩ := fop_run (op := .add) (.inl rfl) 31 p q V17
  have HM := Lib.hid (HM.out.step (one_drew hb))
  have Hn := Lib.hid hn
  clear hb hn
  go_wp2_with fail
  refine (times_at (cc a) (cc c) V18).mono ?_
  rintro e V19 ⟨s, rfl, _, hs, hb⟩
  have HM := Lib.hid (HM.out.step hb)
  have Hs := Lib.hid hs
  clear hb hs
  clear rn
  go_wp2_with fail
  refine (times_at (cc b) (cc d) V19).mono ?_
  rintro e V20 ⟨t, rfl, _, ht, hb⟩
  have HM := Lib.hid (HM.out.step hb)
  have Ht := Lib.hid ht
  clear hb ht
  obtain ⟨u, V21, ru, _, hu, hb⟩ := fop_run (op := .add) (.inl rfl) 31 s t V20
  have HM := Lib.hid (HM.out.step (one_drew hb))
  have Hu := Lib.hid hu
  clear hb hu
  go_wp2_with fail
  refine (times_at (cc b) (cc c) V21).mono ?_
  rintro e V22 ⟨g, rfl, _, hg, hb⟩
  have HM := Lib.hid (HM.out.step hb)
  have Hg := Lib.hid hg
  clear hb hg
  clear ru
  go_wp2_with fail
  refine (times_at (cc a) (cc d) V22).mono ?_
  rintro e V23 ⟨h, rfl, _, hh, hb⟩
  have HM := Lib.hid (HM.out.step hb)
  have Hh := Lib.hid hh
  clear hb hh
  obtain ⟨v, V24, rv, _, hv, hb⟩ := fop_run (op := .sub) (.inr (.inl rfl)) 31 g h V23
  have HM := Lib.hid (HM.out.step (one_drew hb))
  have Hv := Lib.hid hv
  clear hb hv
  go_upto_region 5 with fail
  clear rv
  obtain ⟨re0, V25, rre0, _, hre0, hb⟩ := fop_run (op := .quo) (.inr (.inr (.inr rfl))) 31 u n V24
  have HM := Lib.hid (HM.out.step (one_drew hb))
  have Hre0 := Lib.hid hre0
  clear hb hre0
  obtain ⟨im0, V26, rim0, _, him0, hb⟩ := fop_run (op := .quo) (.inr (.inr (.inr rfl))) 31 v n V25
  have HM := Lib.hid (HM.out.step (one_drew hb))
  have Him0 := Lib.hid him0
  clear hb him0
  go_wp2_with fail
  refine (of_at re0 im0 V26).mono ?_
  rintro e V27 ⟨rfl, hb⟩
  have HM := Lib.hid (HM.out.step hb)
  clear hb
  obtain ⟨re, hre⟩ : ∃ re, re = cb (canon re0) := ⟨_, rfl⟩
  obtain ⟨im, him⟩ : ∃ im, im = cb (canon im0) := ⟨_, rfl⟩
  rw [← hre, ← him]
  have HRE : Hid (re = cb (divRe a b c d)) := by show _ = _; rw [hre, Hre0.out, Hu.out, Hn.out, Hs.out, Ht.out, Hp.out, Hq.out, canon_cc, canon_cc, canon_cc, canon_cc]; rfl
  have HIM : Hid (im = cb (divIm a b c d)) := by show _ = _; rw [him, Him0.out, Hv.out, Hn.out, Hg.out, Hh.out, Hp.out, Hq.out, canon_cc, canon_cc, canon_cc, canon_cc]; rfl
  clear hre him
  clear rre0 rim0
  obtain ⟨z0, z1⟩ := HM.out.z.cells
  obtain ⟨f0, f1⟩ := HM.out.z.frz
  go_wp2_with fail
  obtain ⟨W9, hW9⟩ : ∃ W9, W9 = (V27.setCell ⟨w.heap.size + 1 + 1, 0, none⟩ (.int .u32 re)).setCell ⟨w.heap.size + 1 + 1, 1, none⟩ (.int .u32 im) := ⟨_, rfl⟩
  rw [← hW9]
  obtain ⟨p1, p2, _⟩ := B2.put HM.out.z hW9
  have K := Lib.hid (p2 w.heap.size w (by omega) HM.out.below)
  clear z0 z1 f0 f1 hW9
  obtain ⟨c0, c1⟩ := p1.cells
  refine bodyPost_ret (v := .agg #[.int .u32 re, .int .u32 im]) (by simp [results, Try.results16, go_sem, c0, c1]) rfl ⟨by rw [HRE.out, HIM.out], K.out⟩
end Go.Proofs.Ytlbgpfddmkpakaa.Nu
