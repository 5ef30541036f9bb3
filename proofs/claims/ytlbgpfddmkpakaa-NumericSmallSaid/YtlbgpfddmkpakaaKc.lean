/- Numeric: NumericSmall, the walk. -/
import Derived.Test.YtlbgpfddmkpakaaKb
import Derived.Test.YtlbgpfddmkpakaaLb
import Derived.Test.YtlbgpfddmkpakaaFd
namespace Go.Proofs.Ytlbgpfddmkpakaa.Nu
open Go.RowKit
set_option linter.unusedVariables false
set_option linter.unusedSimpArgs false
/-- Five numbers in memory. -/
structure S5 (w0 : World) (A : Nat) (a : Nat × Nat) (B : Nat) (b : Nat × Nat) (C : Nat) (c : Nat × Nat) (D : Nat) (d : Nat × Nat) (F : Nat) (f : Nat × Nat) (W : World) : Prop where
  below : Below w0.heap.size w0 W
  a : Pt W A 26 a
  b : Pt W B 26 b
  c : Pt W C 26 c
  d : Pt W D 26 d
  f : Pt W F 26 f
theorem S5.step {w0 W W' : World} {A B C D F : Nat} {a b c d f : Nat × Nat} (h : S5 w0 A a B b C c D d F f W) (hb : Below W.heap.size W W') : S5 w0 A a B b C c D d F f W' :=
  ⟨h.below.trans (hb.mono h.below.size), B2.step h.a hb, B2.step h.b hb, B2.step h.c hb, B2.step h.d hb, B2.step h.f hb⟩
theorem S5.cells {w0 W : World} {A B C D F : Nat} {a0 a1 b0 b1 c0 c1 d0 d1 f0 f1 : Nat} (h : S5 w0 A (a0, a1) B (b0, b1) C (c0, c1) D (d0, d1) F (f0, f1) W) :
    W.cell? ⟨A, 0, none⟩ = some (.int .u32 a0) ∧ W.cell? ⟨A, 1, none⟩ = some (.int .u32 a1) ∧ W.cell? ⟨B, 0, none⟩ = some (.int .u32 b0) ∧ W.cell? ⟨B, 1, none⟩ = some (.int .u32 b1) ∧ W.cell? ⟨C, 0, none⟩ = some (.int .u32 c0) ∧ W.cell? ⟨C, 1, none⟩ = some (.int .u32 c1) ∧
      W.cell? ⟨D, 0, none⟩ = some (.int .u32 d0) ∧ W.cell? ⟨D, 1, none⟩ = some (.int .u32 d1) ∧ W.cell? ⟨F, 0, none⟩ = some (.int .u32 f0) ∧ W.cell? ⟨F, 1, none⟩ = some (.int .u32 f1) :=
  ⟨(B2.cells h.a).1, (B2.cells h.a).2, (B2.cells h.b).1, (B2.cells h.b).2, (B2.cells h.c).1, (B2.cells h.c).2, (B2.cells h.d).1, (B2.cells h.d).2, (B2.cells h.f).1, (B2.cells h.f).2⟩
theorem shl_at (s : Int) (hs : (Lit.int .u8 s).wf = true) : ∃ k : Nat, k ≤ 7 ∧ ∀ w, (Op.shift BinOp.shl IntKind.i64 1 IntKind.u8 (s.tmod 8)).run Try.prog w = .ok (.int .i64 ((2 ^ k : Nat) : Int)) w := by
  have hb : 0 ≤ s ∧ s ≤ 255 := by
    have h1 : IntKind.u8.min = 0 := by kernel_rfl
    have h2 : IntKind.u8.max = 255 := by kernel_rfl
    simp [Lit.wf] at hs
    rw [h1, h2] at hs
    exact hs
  have h3 : s.tmod 8 = s % 8 := Int.tmod_eq_emod_of_nonneg hb.1
  rw [h3]
  have h4 : s % 8 = 0 ∨ s % 8 = 1 ∨ s % 8 = 2 ∨ s % 8 = 3 ∨ s % 8 = 4 ∨ s % 8 = 5 ∨ s % 8 = 6 ∨ s % 8 = 7 := by omega
  rcases h4 with h | h | h | h | h | h | h | h <;> rw [h]
  · exact ⟨0, by decide, fun w => by first | rfl | kernel_rfl⟩
  · exact ⟨1, by decide, fun w => by first | rfl | kernel_rfl⟩
  · exact ⟨2, by decide, fun w => by first | rfl | kernel_rfl⟩
  · exact ⟨3, by decide, fun w => by first | rfl | kernel_rfl⟩
  · exact ⟨4, by decide, fun w => by first | rfl | kernel_rfl⟩
  · exact ⟨5, by decide, fun w => by first | rfl | kernel_rfl⟩
  · exact ⟨6, by decide, fun w => by first | rfl | kernel_rfl⟩
  · exact ⟨7, by decide, fun w => by first | rfl | kernel_rfl⟩
set_option maxRecDepth 100000 in
set_option maxHeartbeats 8000000 in
theorem small_walk (a0 a1 b0 b1 c0 c1 s : Int) (ha0 : (Lit.int .i16 a0).wf = true) (ha1 : (Lit.int .i16 a1).wf = true) (hb0 : (Lit.int .i16 b0).wf = true) (hb1 : (Lit.int .i16 b1).wf = true) (hc0 : (Lit.int .i16 c0).wf = true) (hc1 : (Lit.int .i16 c1).wf = true) (hs : (Lit.int .u8 s).wf = true) (w : World) :
    Calls Try.prog 3 #[.agg #[.int .i16 a0, .int .i16 a1], .agg #[.int .i16 b0, .int .i16 b1], .agg #[.int .i16 c0, .int .i16 c1], .int .u8 s] w fun e w' => e = .returned (.bool true) ∧ Below w.heap.size w w' := by
  have A0 := Lib.hid ha0
  have A1 := Lib.hid ha1
  have B0 := Lib.hid hb0
  have B1 := Lib.hid hb1
  have C0 := Lib.hid hc0
  have C1 := Lib.hid hc1
  have HS := Lib.hid hs
  clear ha0 ha1 hb0 hb1 hc0 hc1 hs
  go_enter Try.func3, Try.ntmps3
  go_upto_region 1 with fail
  have u0 : Below w.heap.size w (w.alloc (Obj.cells #[.int .i16 a0, .int .i16 a1] 23)) := (Below.refl _ _).alloc (Nat.le_refl _) _
  have m0 := B2.made w (.int .i16 a0) (.int .i16 a1) 23
  generalize hw1 : w.alloc (Obj.cells #[.int .i16 a0, .int .i16 a1] 23) = W1 at *
  have hz1 : W1.heap.size = w.heap.size + 1 := by rw [← hw1]; simp
  have u1 : Below W1.heap.size W1 (W1.alloc (Obj.cells #[.int .i16 b0, .int .i16 b1] 23)) := (Below.refl _ _).alloc (Nat.le_refl _) _
  have m1 := B2.made W1 (.int .i16 b0) (.int .i16 b1) 23
  generalize hw2 : W1.alloc (Obj.cells #[.int .i16 b0, .int .i16 b1] 23) = W2 at *
  have hz2 : W2.heap.size = w.heap.size + 1 + 1 := by rw [← hw2, ← hz1]; simp
  have u2 : Below W2.heap.size W2 (W2.alloc (Obj.cells #[.int .i16 c0, .int .i16 c1] 23)) := (Below.refl _ _).alloc (Nat.le_refl _) _
  have m2 := B2.made W2 (.int .i16 c0) (.int .i16 c1) 23
  have HXA := Lib.hid (B2.step (B2.step m0 u1) u2)
  have HXB := Lib.hid (B2.step m1 u2)
  have HXC := Lib.hid m2
  have HB0 := Lib.hid ((u0.trans (u1.mono u0.size)).trans (u2.mono (Nat.le_trans u0.size u1.size)))
  rw [hz1] at HXB
  rw [hz2] at HXC
  generalize W2.alloc (Obj.cells #[.int .i16 c0, .int .i16 c1] 23) = W0 at *
  clear hw1 hw2 u0 u1 u2 m0 m1 m2 hz1 hz2
  generalize w.heap.size + 1 + 1 = XC at *
  generalize w.heap.size + 1 = XB at *
  obtain ⟨XA, hXA⟩ : ∃ XA, XA = w.heap.size := ⟨_, rfl⟩
  rw [← hXA]
  rw [← hXA] at HXA
  clear hXA
  obtain ⟨V, hV⟩ : ∃ V : Nat → Value, V = fun i => ([.pointer (some ⟨XA, 0, none⟩), .int .i16 a0, .int .i64 (sm a0), .pointer (some ⟨XA, 1, none⟩), .int .i16 a1, .int .i64 (sm a1), num (nw (sm a0) (sm a1)), .pointer (some ⟨XB, 0, none⟩), .int .i16 b0, .int .i64 (sm b0), .pointer (some ⟨XB, 1, none⟩), .int .i16 b1, .int .i64 (sm b1), num (nw (sm b0) (sm b1)), .pointer (some ⟨XC, 0, none⟩), .int .i16 c0, .int .i64 (sm c0), .pointer (some ⟨XC, 1, none⟩), .int .i16 c1, .int .i64 (sm c1), num (nw (sm c0) (sm c1))] : List Value).getD i undef := ⟨_, rfl⟩
  obtain ⟨P, hP⟩ : ∃ P : Nat → Nat × Nat, P = fun i => ([nw (sm a0) (sm a1), nw (sm b0) (sm b1), nw (sm c0) (sm c1)] : List (Nat × Nat)).getD i (0, 0) := ⟨_, rfl⟩
  have v0 : V 0 = .pointer (some ⟨XA, 0, none⟩) := by rw [hV]; rfl
  have v1 : V 1 = .int .i16 a0 := by rw [hV]; rfl
  have v2 : V 2 = .int .i64 (sm a0) := by rw [hV]; rfl
  have v3 : V 3 = .pointer (some ⟨XA, 1, none⟩) := by rw [hV]; rfl
  have v4 : V 4 = .int .i16 a1 := by rw [hV]; rfl
  have v5 : V 5 = .int .i64 (sm a1) := by rw [hV]; rfl
  have v6 : V 6 = num (nw (sm a0) (sm a1)) := by rw [hV]; rfl
  have v7 : V 7 = .pointer (some ⟨XB, 0, none⟩) := by rw [hV]; rfl
  have v8 : V 8 = .int .i16 b0 := by rw [hV]; rfl
  have v9 : V 9 = .int .i64 (sm b0) := by rw [hV]; rfl
  have v10 : V 10 = .pointer (some ⟨XB, 1, none⟩) := by rw [hV]; rfl
  have v11 : V 11 = .int .i16 b1 := by rw [hV]; rfl
  have v12 : V 12 = .int .i64 (sm b1) := by rw [hV]; rfl
  have v13 : V 13 = num (nw (sm b0) (sm b1)) := by rw [hV]; rfl
  have v14 : V 14 = .pointer (some ⟨XC, 0, none⟩) := by rw [hV]; rfl
  have v15 : V 15 = .int .i16 c0 := by rw [hV]; rfl
  have v16 : V 16 = .int .i64 (sm c0) := by rw [hV]; rfl
  have v17 : V 17 = .pointer (some ⟨XC, 1, none⟩) := by rw [hV]; rfl
  have v18 : V 18 = .int .i16 c1 := by rw [hV]; rfl
  have v19 : V 19 = .int .i64 (sm c1) := by rw [hV]; rfl
  have v20 : V 20 = num (nw (sm c0) (sm c1)) := by rw [hV]; rfl
  have p0 : P 0 = nw (sm a0) (sm a1) := by rw [hP]; rfl
  have p1 : P 1 = nw (sm b0) (sm b1) := by rw [hP]; rfl
  have p2 : P 2 = nw (sm c0) (sm c1) := by rw [hP]; rfl
  clear hV hP
  refine (wpIn_wide (n := 20)).1 ?_
  refine wpIn_region_inv (by kernel_rfl) (back_of (by kernel_rfl)) (fun d act Wx => ∃ y : Nat → Value, act = { tmps := #[.agg #[.int .i16 a0, .int .i16 a1], .agg #[.int .i16 b0, .int .i16 b1], .agg #[.int .i16 c0, .int .i16 c1], .int .u8 s, .pointer (some ⟨XA, 0, none⟩), .pointer (some ⟨XB, 0, none⟩), .pointer (some ⟨XC, 0, none⟩), undef, .bool false, y 21, y 22, y 23, undef, undef, undef, undef, undef, undef, undef, undef, y 0, y 1, y 2, y 3, y 4, y 5, y 6, y 7, y 8, y 9, y 10, y 11, y 12, y 13, y 14, y 15, y 16, y 17, y 18, y 19, y 20, undef, undef, undef, undef, undef, undef, undef, undef, undef, undef, undef, undef, undef, undef, undef, undef, undef, undef, undef, undef, undef, undef, undef, undef, undef, undef, undef, undef, undef, undef, undef, undef, undef, undef, undef, undef, undef, undef, undef, undef, undef, undef, undef, undef, undef, undef, undef, undef, undef, undef, undef, undef, undef, undef, undef, undef, undef, undef, undef, undef, undef, undef, undef, undef, undef, undef, undef, undef, undef, undef, undef, undef, undef, undef, undef, undef, undef, undef, undef, undef, undef, undef, undef, undef, undef, undef, undef, undef, undef, undef, undef, undef, undef, undef, undef, undef, undef, undef, undef, undef, undef, undef, undef, undef, undef, undef, undef, undef, undef, undef, undef, undef, undef, undef, undef, undef, undef, undef, undef, undef, undef, undef, undef, undef, undef, undef], defers := [] } ∧ QA W0 V 21 3 P d y Wx) ?r1 ?s1 ?f1
  case r1 => exact fun d hd => ⟨fun _ => undef, rfl, QA.start 27 (by omega) hd⟩
  case s1 =>
    rintro i oi hop d act Wx ⟨y, rfl, hR⟩ hSi hdep
    have hi : i < 27 := (Array.getElem?_eq_some_iff.1 hop).1
    have HQ := Lib.hid hR
    have HD := Lib.hid hdep
    have HSI := Lib.hid hSi
    clear hR hdep hSi
    obtain rfl | rfl | rfl | rfl | rfl | rfl | rfl | rfl | rfl | rfl | rfl | rfl | rfl | rfl | rfl | rfl | rfl | rfl | rfl | rfl | rfl | rfl | rfl | rfl | rfl | rfl | rfl : i = 0 ∨ i = 1 ∨ i = 2 ∨ i = 3 ∨ i = 4 ∨ i = 5 ∨ i = 6 ∨ i = 7 ∨ i = 8 ∨ i = 9 ∨ i = 10 ∨ i = 11 ∨ i = 12 ∨ i = 13 ∨ i = 14 ∨ i = 15 ∨ i = 16 ∨ i = 17 ∨ i = 18 ∨ i = 19 ∨ i = 20 ∨ i = 21 ∨ i = 22 ∨ i = 23 ∨ i = 24 ∨ i = 25 ∨ i = 26 := by omega
    · have hoo := hop
      obtain rfl := Option.some.inj hop
      clear HD
      refine wpOpIn_step hoo fun K hK => ?_
      clear hoo
      go_simp
      exact hK _ _ ⟨upd y 0 (V 0), by rw [v0]; rfl, HQ.out.pure (i := 0) (by omega)⟩
    · have hoo := hop
      obtain rfl := Option.some.inj hop
      have t0 : d 0 = true := HD.out ⟨0, .data⟩ (by simp) rfl
      have e0 : y 0 = .pointer (some ⟨XA, 0, none⟩) := (HQ.out.val 0 (by omega) t0).trans v0
      obtain ⟨k0, k1⟩ := B2.cells ((HQ.out.bu.block _ (blk_lt HXA.out)).trans HXA.out)
      clear HD t0
      rw [e0]
      refine wpOpIn_step hoo fun K hK => ?_
      clear hoo
      go_simp
      exact hK _ _ ⟨upd y 1 (V 1), by rw [v1, ← e0]; rfl, HQ.out.pure (i := 1) (by omega)⟩
    · have hoo := hop
      obtain rfl := Option.some.inj hop
      have t1 : d 1 = true := HD.out ⟨1, .data⟩ (by simp) rfl
      have e1 : y 1 = .int .i16 a0 := (HQ.out.val 1 (by omega) t1).trans v1
      clear HD t1
      rw [e1]
      refine wpOpIn_step hoo fun K hK => ?_
      clear hoo
      go_simp
      refine ⟨trivial, ?_⟩
      refine (callsIn_wide.2 (small_at a0 A0.out _)).mono ?_
      rintro e Wn ⟨rfl, hw⟩
      rw [hw]
      exact hK _ _ ⟨upd y 2 (V 2), by rw [v2, ← e1]; rfl, HQ.out.pure (i := 2) (by omega)⟩
    · have hoo := hop
      obtain rfl := Option.some.inj hop
      clear HD
      refine wpOpIn_step hoo fun K hK => ?_
      clear hoo
      go_simp
      exact hK _ _ ⟨upd y 3 (V 3), by rw [v3]; rfl, HQ.out.pure (i := 3) (by omega)⟩
    · have hoo := hop
      obtain rfl := Option.some.inj hop
      have t3 : d 3 = true := HD.out ⟨3, .data⟩ (by simp) rfl
      have e3 : y 3 = .pointer (some ⟨XA, 1, none⟩) := (HQ.out.val 3 (by omega) t3).trans v3
      obtain ⟨k0, k1⟩ := B2.cells ((HQ.out.bu.block _ (blk_lt HXA.out)).trans HXA.out)
      clear HD t3
      rw [e3]
      refine wpOpIn_step hoo fun K hK => ?_
      clear hoo
      go_simp
      exact hK _ _ ⟨upd y 4 (V 4), by rw [v4, ← e3]; rfl, HQ.out.pure (i := 4) (by omega)⟩
    · have hoo := hop
      obtain rfl := Option.some.inj hop
      have t4 : d 4 = true := HD.out ⟨4, .data⟩ (by simp) rfl
      have e4 : y 4 = .int .i16 a1 := (HQ.out.val 4 (by omega) t4).trans v4
      clear HD t4
      rw [e4]
      refine wpOpIn_step hoo fun K hK => ?_
      clear hoo
      go_simp
      refine ⟨trivial, ?_⟩
      refine (callsIn_wide.2 (small_at a1 A1.out _)).mono ?_
      rintro e Wn ⟨rfl, hw⟩
      rw [hw]
      exact hK _ _ ⟨upd y 5 (V 5), by rw [v5, ← e4]; rfl, HQ.out.pure (i := 5) (by omega)⟩
    · have hoo := hop
      obtain rfl := Option.some.inj hop
      have t2 : d 2 = true := HD.out ⟨2, .data⟩ (by simp) rfl
      have e2 : y 2 = .int .i64 (sm a0) := (HQ.out.val 2 (by omega) t2).trans v2
      have t5 : d 5 = true := HD.out ⟨5, .data⟩ (by simp) rfl
      have e5 : y 5 = .int .i64 (sm a1) := (HQ.out.val 5 (by omega) t5).trans v5
      clear HD t2 t5
      rw [e2, e5]
      refine wpOpIn_step hoo fun K hK => ?_
      clear hoo
      go_simp
      refine ⟨trivial, ?_⟩
      refine (callsIn_wide.2 (nw_at (sm a0) (sm a1) _)).mono ?_
      rintro e Wn ⟨rfl, hb⟩
      exact hK _ _ ⟨upd y 6 (V 6), by rw [v6, ← e2, ← e5]; rfl, (HQ.out.walk hb).pure (i := 6) (by omega)⟩
    · have hoo := hop
      obtain rfl := Option.some.inj hop
      clear HD
      refine wpOpIn_step hoo fun K hK => ?_
      clear hoo
      go_simp
      exact hK _ _ ⟨upd y 7 (V 7), by rw [v7]; rfl, HQ.out.pure (i := 7) (by omega)⟩
    · have hoo := hop
      obtain rfl := Option.some.inj hop
      have t7 : d 7 = true := HD.out ⟨7, .data⟩ (by simp) rfl
      have e7 : y 7 = .pointer (some ⟨XB, 0, none⟩) := (HQ.out.val 7 (by omega) t7).trans v7
      obtain ⟨k0, k1⟩ := B2.cells ((HQ.out.bu.block _ (blk_lt HXB.out)).trans HXB.out)
      clear HD t7
      rw [e7]
      refine wpOpIn_step hoo fun K hK => ?_
      clear hoo
      go_simp
      exact hK _ _ ⟨upd y 8 (V 8), by rw [v8, ← e7]; rfl, HQ.out.pure (i := 8) (by omega)⟩
    · have hoo := hop
      obtain rfl := Option.some.inj hop
      have t8 : d 8 = true := HD.out ⟨8, .data⟩ (by simp) rfl
      have e8 : y 8 = .int .i16 b0 := (HQ.out.val 8 (by omega) t8).trans v8
      clear HD t8
      rw [e8]
      refine wpOpIn_step hoo fun K hK => ?_
      clear hoo
      go_simp
      refine ⟨trivial, ?_⟩
      refine (callsIn_wide.2 (small_at b0 B0.out _)).mono ?_
      rintro e Wn ⟨rfl, hw⟩
      rw [hw]
      exact hK _ _ ⟨upd y 9 (V 9), by rw [v9, ← e8]; rfl, HQ.out.pure (i := 9) (by omega)⟩
    · have hoo := hop
      obtain rfl := Option.some.inj hop
      clear HD
      refine wpOpIn_step hoo fun K hK => ?_
      clear hoo
      go_simp
      exact hK _ _ ⟨upd y 10 (V 10), by rw [v10]; rfl, HQ.out.pure (i := 10) (by omega)⟩
    · have hoo := hop
      obtain rfl := Option.some.inj hop
      have t10 : d 10 = true := HD.out ⟨10, .data⟩ (by simp) rfl
      have e10 : y 10 = .pointer (some ⟨XB, 1, none⟩) := (HQ.out.val 10 (by omega) t10).trans v10
      obtain ⟨k0, k1⟩ := B2.cells ((HQ.out.bu.block _ (blk_lt HXB.out)).trans HXB.out)
      clear HD t10
      rw [e10]
      refine wpOpIn_step hoo fun K hK => ?_
      clear hoo
      go_simp
      exact hK _ _ ⟨upd y 11 (V 11), by rw [v11, ← e10]; rfl, HQ.out.pure (i := 11) (by omega)⟩
    · have hoo := hop
      obtain rfl := Option.some.inj hop
      have t11 : d 11 = true := HD.out ⟨11, .data⟩ (by simp) rfl
      have e11 : y 11 = .int .i16 b1 := (HQ.out.val 11 (by omega) t11).trans v11
      clear HD t11
      rw [e11]
      refine wpOpIn_step hoo fun K hK => ?_
      clear hoo
      go_simp
      refine ⟨trivial, ?_⟩
      refine (callsIn_wide.2 (small_at b1 B1.out _)).mono ?_
      rintro e Wn ⟨rfl, hw⟩
      rw [hw]
      exact hK _ _ ⟨upd y 12 (V 12), by rw [v12, ← e11]; rfl, HQ.out.pure (i := 12) (by omega)⟩
    · have hoo := hop
      obtain rfl := Option.some.inj hop
      have t9 : d 9 = true := HD.out ⟨9, .data⟩ (by simp) rfl
      have e9 : y 9 = .int .i64 (sm b0) := (HQ.out.val 9 (by omega) t9).trans v9
      have t12 : d 12 = true := HD.out ⟨12, .data⟩ (by simp) rfl
      have e12 : y 12 = .int .i64 (sm b1) := (HQ.out.val 12 (by omega) t12).trans v12
      clear HD t9 t12
      rw [e9, e12]
      refine wpOpIn_step hoo fun K hK => ?_
      clear hoo
      go_simp
      refine ⟨trivial, ?_⟩
      refine (callsIn_wide.2 (nw_at (sm b0) (sm b1) _)).mono ?_
      rintro e Wn ⟨rfl, hb⟩
      exact hK _ _ ⟨upd y 13 (V 13), by rw [v13, ← e9, ← e12]; rfl, (HQ.out.walk hb).pure (i := 13) (by omega)⟩
    · have hoo := hop
      obtain rfl := Option.some.inj hop
      clear HD
      refine wpOpIn_step hoo fun K hK => ?_
      clear hoo
      go_simp
      exact hK _ _ ⟨upd y 14 (V 14), by rw [v14]; rfl, HQ.out.pure (i := 14) (by omega)⟩
    · have hoo := hop
      obtain rfl := Option.some.inj hop
      have t14 : d 14 = true := HD.out ⟨14, .data⟩ (by simp) rfl
      have e14 : y 14 = .pointer (some ⟨XC, 0, none⟩) := (HQ.out.val 14 (by omega) t14).trans v14
      obtain ⟨k0, k1⟩ := B2.cells ((HQ.out.bu.block _ (blk_lt HXC.out)).trans HXC.out)
      clear HD t14
      rw [e14]
      refine wpOpIn_step hoo fun K hK => ?_
      clear hoo
      go_simp
      exact hK _ _ ⟨upd y 15 (V 15), by rw [v15, ← e14]; rfl, HQ.out.pure (i := 15) (by omega)⟩
    · have hoo := hop
      obtain rfl := Option.some.inj hop
      have t15 : d 15 = true := HD.out ⟨15, .data⟩ (by simp) rfl
      have e15 : y 15 = .int .i16 c0 := (HQ.out.val 15 (by omega) t15).trans v15
      clear HD t15
      rw [e15]
      refine wpOpIn_step hoo fun K hK => ?_
      clear hoo
      go_simp
      refine ⟨trivial, ?_⟩
      refine (callsIn_wide.2 (small_at c0 C0.out _)).mono ?_
      rintro e Wn ⟨rfl, hw⟩
      rw [hw]
      exact hK _ _ ⟨upd y 16 (V 16), by rw [v16, ← e15]; rfl, HQ.out.pure (i := 16) (by omega)⟩
    · have hoo := hop
      obtain rfl := Option.some.inj hop
      clear HD
      refine wpOpIn_step hoo fun K hK => ?_
      clear hoo
      go_simp
      exact hK _ _ ⟨upd y 17 (V 17), by rw [v17]; rfl, HQ.out.pure (i := 17) (by omega)⟩
    · have hoo := hop
      obtain rfl := Option.some.inj hop
      have t17 : d 17 = true := HD.out ⟨17, .data⟩ (by simp) rfl
      have e17 : y 17 = .pointer (some ⟨XC, 1, none⟩) := (HQ.out.val 17 (by omega) t17).trans v17
      obtain ⟨k0, k1⟩ := B2.cells ((HQ.out.bu.block _ (blk_lt HXC.out)).trans HXC.out)
      clear HD t17
      rw [e17]
      refine wpOpIn_step hoo fun K hK => ?_
      clear hoo
      go_simp
      exact hK _ _ ⟨upd y 18 (V 18), by rw [v18, ← e17]; rfl, HQ.out.pure (i := 18) (by omega)⟩
    · have hoo := hop
      obtain rfl := Option.some.inj hop
      have t18 : d 18 = true := HD.out ⟨18, .data⟩ (by simp) rfl
      have e18 : y 18 = .int .i16 c1 := (HQ.out.val 18 (by omega) t18).trans v18
      clear HD t18
      rw [e18]
      refine wpOpIn_step hoo fun K hK => ?_
      clear hoo
      go_simp
      refine ⟨trivial, ?_⟩
      refine (callsIn_wide.2 (small_at c1 C1.out _)).mono ?_
      rintro e Wn ⟨rfl, hw⟩
      rw [hw]
      exact hK _ _ ⟨upd y 19 (V 19), by rw [v19, ← e18]; rfl, HQ.out.pure (i := 19) (by omega)⟩
    · have hoo := hop
      obtain rfl := Option.some.inj hop
      have t16 : d 16 = true := HD.out ⟨16, .data⟩ (by simp) rfl
      have e16 : y 16 = .int .i64 (sm c0) := (HQ.out.val 16 (by omega) t16).trans v16
      have t19 : d 19 = true := HD.out ⟨19, .data⟩ (by simp) rfl
      have e19 : y 19 = .int .i64 (sm c1) := (HQ.out.val 19 (by omega) t19).trans v19
      clear HD t16 t19
      rw [e16, e19]
      refine wpOpIn_step hoo fun K hK => ?_
      clear hoo
      go_simp
      refine ⟨trivial, ?_⟩
      refine (callsIn_wide.2 (nw_at (sm c0) (sm c1) _)).mono ?_
      rintro e Wn ⟨rfl, hb⟩
      exact hK _ _ ⟨upd y 20 (V 20), by rw [v20, ← e16, ← e19]; rfl, (HQ.out.walk hb).pure (i := 20) (by omega)⟩
    · have hoo := hop
      obtain rfl := Option.some.inj hop
      clear HD
      refine wpOpIn_step hoo fun K hK => ?_
      clear hoo
      go_simp
      exact hK _ _ ⟨upd y 21 (.pointer (some ⟨Wx.heap.size, 0, none⟩)), rfl, QA.make (A := 21) (g := 0) HQ.out (by omega) HSI.out⟩
    · have hoo := hop
      obtain rfl := Option.some.inj hop
      clear HD
      refine wpOpIn_step hoo fun K hK => ?_
      clear hoo
      go_simp
      exact hK _ _ ⟨upd y 22 (.pointer (some ⟨Wx.heap.size, 0, none⟩)), rfl, QA.make (A := 21) (g := 1) HQ.out (by omega) HSI.out⟩
    · have hoo := hop
      obtain rfl := Option.some.inj hop
      clear HD
      refine wpOpIn_step hoo fun K hK => ?_
      clear hoo
      go_simp
      exact hK _ _ ⟨upd y 23 (.pointer (some ⟨Wx.heap.size, 0, none⟩)), rfl, QA.make (A := 21) (g := 2) HQ.out (by omega) HSI.out⟩
    · have hoo := hop
      obtain rfl := Option.some.inj hop
      have t21 : d 21 = true := HD.out ⟨21, .data⟩ (by simp) rfl
      have t6 : d 6 = true := HD.out ⟨6, .data⟩ (by simp) rfl
      have e6 : y 6 = num (nw (sm a0) (sm a1)) := (HQ.out.val 6 (by omega) t6).trans v6
      obtain ⟨Y, eY, hY, hPt⟩ := HQ.out.find (g := 0) (by omega) t21 HSI.out
      have eY : y 21 = .pointer (some ⟨Y, 0, none⟩) := eY
      obtain ⟨ra, rb, hab⟩ : ∃ ra rb, (ra, rb) = nw (sm a0) (sm a1) := ⟨_, _, rfl⟩
      have f6 : y 6 = .agg #[.int .u32 (ra : Int), .int .u32 (rb : Int)] := by rw [e6, ← hab]
      clear e6
      obtain ⟨k0, k1⟩ := hPt.cells
      obtain ⟨z0, z1⟩ := hPt.frz
      have T := Lib.hid t21
      have HAB := Lib.hid hab
      clear hab hPt hY
      clear HD t21 t6
      rw [eY, f6]
      refine wpOpIn_step hoo fun K hK => ?_
      clear hoo
      go_simp
      exact hK _ _ ⟨y, by rw [← eY, ← f6], QA.store (g := 0) HQ.out (by omega) T.out eY (HAB.out.trans p0.symm) rfl⟩
    · have hoo := hop
      obtain rfl := Option.some.inj hop
      have t22 : d 22 = true := HD.out ⟨22, .data⟩ (by simp) rfl
      have t13 : d 13 = true := HD.out ⟨13, .data⟩ (by simp) rfl
      have e13 : y 13 = num (nw (sm b0) (sm b1)) := (HQ.out.val 13 (by omega) t13).trans v13
      obtain ⟨Y, eY, hY, hPt⟩ := HQ.out.find (g := 1) (by omega) t22 HSI.out
      have eY : y 22 = .pointer (some ⟨Y, 0, none⟩) := eY
      obtain ⟨ra, rb, hab⟩ : ∃ ra rb, (ra, rb) = nw (sm b0) (sm b1) := ⟨_, _, rfl⟩
      have f13 : y 13 = .agg #[.int .u32 (ra : Int), .int .u32 (rb : Int)] := by rw [e13, ← hab]
      clear e13
      obtain ⟨k0, k1⟩ := hPt.cells
      obtain ⟨z0, z1⟩ := hPt.frz
      have T := Lib.hid t22
      have HAB := Lib.hid hab
      clear hab hPt hY
      clear HD t22 t13
      rw [eY, f13]
      refine wpOpIn_step hoo fun K hK => ?_
      clear hoo
      go_simp
      exact hK _ _ ⟨y, by rw [← eY, ← f13], QA.store (g := 1) HQ.out (by omega) T.out eY (HAB.out.trans p1.symm) rfl⟩
    · have hoo := hop
      obtain rfl := Option.some.inj hop
      have t23 : d 23 = true := HD.out ⟨23, .data⟩ (by simp) rfl
      have t20 : d 20 = true := HD.out ⟨20, .data⟩ (by simp) rfl
      have e20 : y 20 = num (nw (sm c0) (sm c1)) := (HQ.out.val 20 (by omega) t20).trans v20
      obtain ⟨Y, eY, hY, hPt⟩ := HQ.out.find (g := 2) (by omega) t23 HSI.out
      have eY : y 23 = .pointer (some ⟨Y, 0, none⟩) := eY
      obtain ⟨ra, rb, hab⟩ : ∃ ra rb, (ra, rb) = nw (sm c0) (sm c1) := ⟨_, _, rfl⟩
      have f20 : y 20 = .agg #[.int .u32 (ra : Int), .int .u32 (rb : Int)] := by rw [e20, ← hab]
      clear e20
      obtain ⟨k0, k1⟩ := hPt.cells
      obtain ⟨z0, z1⟩ := hPt.frz
      have T := Lib.hid t23
      have HAB := Lib.hid hab
      clear hab hPt hY
      clear HD t23 t20
      rw [eY, f20]
      refine wpOpIn_step hoo fun K hK => ?_
      clear hoo
      go_simp
      exact hK _ _ ⟨y, by rw [← eY, ← f20], QA.store (g := 2) HQ.out (by omega) T.out eY (HAB.out.trans p2.symm) rfl⟩
  case f1 =>
    rintro d act Wx ⟨y, rfl, hR⟩ hall
    obtain ⟨Y0, q0, _, hP0⟩ := hR.done 27 (by omega) (fun i hi => hall i hi) (g := 0) (by omega)
    obtain ⟨Y1, q1, _, hP1⟩ := hR.done 27 (by omega) (fun i hi => hall i hi) (g := 1) (by omega)
    obtain ⟨Y2, q2, _, hP2⟩ := hR.done 27 (by omega) (fun i hi => hall i hi) (g := 2) (by omega)
    have q0' : y 21 = _ := q0
    have q1' : y 22 = _ := q1
    have q2' : y 23 = _ := q2
    rw [q0', q1', q2']
    rw [p0] at hP0
    rw [p1] at hP1
    rw [p2] at hP2
    have HP0 : Hid (Pt Wx Y0 26 (nw (sm a0) (sm a1))) := hP0
    have HP1 : Hid (Pt Wx Y1 26 (nw (sm b0) (sm b1))) := hP1
    have HP2 : Hid (Pt Wx Y2 26 (nw (sm c0) (sm c1))) := hP2
    have HB1 := Lib.hid (HB0.out.trans (hR.bu.mono HB0.out.size))
    have HXA1 := Lib.hid ((hR.bu.block _ (blk_lt HXA.out)).trans HXA.out)
    have HXB1 := Lib.hid ((hR.bu.block _ (blk_lt HXB.out)).trans HXB.out)
    clear hR hall hP0 hP1 hP2 q0 q1 q2 q0' q1' q2' HB0 HXA HXB HXC
    clear v0 v1 v2 v3 v4 v5 v6 v7 v8 v9 v10 v11 v12 v13 v14 v15 v16 v17 v18 v19 v20 p0 p1 p2
    clear V P d
    dsimp only
    go_wp2_with fail
    obtain ⟨V, hV⟩ : ∃ V : Nat → Value, V = fun i => ([.pointer (some ⟨XA, 0, none⟩), .int .i16 a0, .int .i64 (sm a0), .pointer (some ⟨XA, 1, none⟩), .int .i16 a1, .int .i64 (sm a1), .pointer (some ⟨XB, 0, none⟩), .int .i16 b0, .int .i64 (sm b0), .pointer (some ⟨XB, 1, none⟩), .int .i16 b1, .int .i64 (sm b1), .int .i64 (sm a0), .int .i64 (sm a1), .int .i64 (sm b0), .int .i64 (sm b1)] : List Value).getD i undef := ⟨_, rfl⟩
    have v0 : V 0 = .pointer (some ⟨XA, 0, none⟩) := by rw [hV]; rfl
    have v1 : V 1 = .int .i16 a0 := by rw [hV]; rfl
    have v2 : V 2 = .int .i64 (sm a0) := by rw [hV]; rfl
    have v3 : V 3 = .pointer (some ⟨XA, 1, none⟩) := by rw [hV]; rfl
    have v4 : V 4 = .int .i16 a1 := by rw [hV]; rfl
    have v5 : V 5 = .int .i64 (sm a1) := by rw [hV]; rfl
    have v6 : V 6 = .pointer (some ⟨XB, 0, none⟩) := by rw [hV]; rfl
    have v7 : V 7 = .int .i16 b0 := by rw [hV]; rfl
    have v8 : V 8 = .int .i64 (sm b0) := by rw [hV]; rfl
    have v9 : V 9 = .pointer (some ⟨XB, 1, none⟩) := by rw [hV]; rfl
    have v10 : V 10 = .int .i16 b1 := by rw [hV]; rfl
    have v11 : V 11 = .int .i64 (sm b1) := by rw [hV]; rfl
    have v12 : V 12 = .int .i64 (sm a0) := by rw [hV]; rfl
    have v13 : V 13 = .int .i64 (sm a1) := by rw [hV]; rfl
    have v14 : V 14 = .int .i64 (sm b0) := by rw [hV]; rfl
    have v15 : V 15 = .int .i64 (sm b1) := by rw [hV]; rfl
    clear hV
    refine (wpIn_wide (n := 20)).1 ?_
    refine wpIn_region_inv (by kernel_rfl) (back_of (by kernel_rfl)) (fun d act Wy => ∃ z : Nat → Value, act = { tmps := #[.agg #[.int .i16 a0, .int .i16 a1], .agg #[.int .i16 b0, .int .i16 b1], .agg #[.int .i16 c0, .int .i16 c1], .int .u8 s, .pointer (some ⟨XA, 0, none⟩), .pointer (some ⟨XB, 0, none⟩), .pointer (some ⟨XC, 0, none⟩), undef, .bool false, .pointer (some ⟨Y0, 0, none⟩), .pointer (some ⟨Y1, 0, none⟩), .pointer (some ⟨Y2, 0, none⟩), z 12, z 13, z 14, z 15, undef, undef, undef, undef, y 0, y 1, y 2, y 3, y 4, y 5, y 6, y 7, y 8, y 9, y 10, y 11, y 12, y 13, y 14, y 15, y 16, y 17, y 18, y 19, y 20, z 0, z 1, z 2, z 3, z 4, z 5, z 6, z 7, z 8, z 9, z 10, z 11, undef, undef, undef, undef, undef, undef, undef, undef, undef, undef, undef, undef, undef, undef, undef, undef, undef, undef, undef, undef, undef, undef, undef, undef, undef, undef, undef, undef, undef, undef, undef, undef, undef, undef, undef, undef, undef, undef, undef, undef, undef, undef, undef, undef, undef, undef, undef, undef, undef, undef, undef, undef, undef, undef, undef, undef, undef, undef, undef, undef, undef, undef, undef, undef, undef, undef, undef, undef, undef, undef, undef, undef, undef, undef, undef, undef, undef, undef, undef, undef, undef, undef, undef, undef, undef, undef, undef, undef, undef, undef, undef, undef, undef, undef, undef, undef, undef, undef, undef, undef, undef, undef, undef, undef, undef, undef, undef, undef, undef, undef, undef, undef, undef, undef], defers := [] } ∧ QA Wx V 16 0 (fun _ => (0, 0)) d z Wy) ?r2 ?s2 ?f2
    case r2 => exact fun d hd => ⟨fun _ => undef, rfl, QA.start 16 (by omega) hd⟩
    case s2 =>
      rintro i oi hop d act Wy ⟨z, rfl, hR⟩ hSi hdep
      have hi : i < 16 := (Array.getElem?_eq_some_iff.1 hop).1
      have HQ := Lib.hid hR
      have HD := Lib.hid hdep
      clear hR hdep hSi
      obtain rfl | rfl | rfl | rfl | rfl | rfl | rfl | rfl | rfl | rfl | rfl | rfl | rfl | rfl | rfl | rfl : i = 0 ∨ i = 1 ∨ i = 2 ∨ i = 3 ∨ i = 4 ∨ i = 5 ∨ i = 6 ∨ i = 7 ∨ i = 8 ∨ i = 9 ∨ i = 10 ∨ i = 11 ∨ i = 12 ∨ i = 13 ∨ i = 14 ∨ i = 15 := by omega
      · have hoo := hop
        obtain rfl := Option.some.inj hop
        clear HD
        refine wpOpIn_step hoo fun K hK => ?_
        clear hoo
        go_simp
        exact hK _ _ ⟨upd z 0 (V 0), by rw [v0]; rfl, HQ.out.pure (i := 0) (by omega)⟩
      · have hoo := hop
        obtain rfl := Option.some.inj hop
        have t0 : d 0 = true := HD.out ⟨0, .data⟩ (by simp) rfl
        have e0 : z 0 = .pointer (some ⟨XA, 0, none⟩) := (HQ.out.val 0 (by omega) t0).trans v0
        obtain ⟨k0, k1⟩ := B2.cells ((HQ.out.bu.block _ (blk_lt HXA1.out)).trans HXA1.out)
        clear HD t0
        rw [e0]
        refine wpOpIn_step hoo fun K hK => ?_
        clear hoo
        go_simp
        exact hK _ _ ⟨upd z 1 (V 1), by rw [v1, ← e0]; rfl, HQ.out.pure (i := 1) (by omega)⟩
      · have hoo := hop
        obtain rfl := Option.some.inj hop
        have t1 : d 1 = true := HD.out ⟨1, .data⟩ (by simp) rfl
        have e1 : z 1 = .int .i16 a0 := (HQ.out.val 1 (by omega) t1).trans v1
        clear HD t1
        rw [e1]
        refine wpOpIn_step hoo fun K hK => ?_
        clear hoo
        go_simp
        refine ⟨trivial, ?_⟩
        refine (callsIn_wide.2 (small_at a0 A0.out _)).mono ?_
        rintro e Wn ⟨rfl, hw⟩
        rw [hw]
        exact hK _ _ ⟨upd z 2 (V 2), by rw [v2, ← e1]; rfl, HQ.out.pure (i := 2) (by omega)⟩
      · have hoo := hop
        obtain rfl := Option.some.inj hop
        clear HD
        refine wpOpIn_step hoo fun K hK => ?_
        clear hoo
        go_simp
        exact hK _ _ ⟨upd z 3 (V 3), by rw [v3]; rfl, HQ.out.pure (i := 3) (by omega)⟩
      · have hoo := hop
        obtain rfl := Option.some.inj hop
        have t3 : d 3 = true := HD.out ⟨3, .data⟩ (by simp) rfl
        have e3 : z 3 = .pointer (some ⟨XA, 1, none⟩) := (HQ.out.val 3 (by omega) t3).trans v3
        obtain ⟨k0, k1⟩ := B2.cells ((HQ.out.bu.block _ (blk_lt HXA1.out)).trans HXA1.out)
        clear HD t3
        rw [e3]
        refine wpOpIn_step hoo fun K hK => ?_
        clear hoo
        go_simp
        exact hK _ _ ⟨upd z 4 (V 4), by rw [v4, ← e3]; rfl, HQ.out.pure (i := 4) (by omega)⟩
      · have hoo := hop
        obtain rfl := Option.some.inj hop
        have t4 : d 4 = true := HD.out ⟨4, .data⟩ (by simp) rfl
        have e4 : z 4 = .int .i16 a1 := (HQ.out.val 4 (by omega) t4).trans v4
        clear HD t4
        rw [e4]
        refine wpOpIn_step hoo fun K hK => ?_
        clear hoo
        go_simp
        refine ⟨trivial, ?_⟩
        refine (callsIn_wide.2 (small_at a1 A1.out _)).mono ?_
        rintro e Wn ⟨rfl, hw⟩
        rw [hw]
        exact hK _ _ ⟨upd z 5 (V 5), by rw [v5, ← e4]; rfl, HQ.out.pure (i := 5) (by omega)⟩
      · have hoo := hop
        obtain rfl := Option.some.inj hop
        clear HD
        refine wpOpIn_step hoo fun K hK => ?_
        clear hoo
        go_simp
        exact hK _ _ ⟨upd z 6 (V 6), by rw [v6]; rfl, HQ.out.pure (i := 6) (by omega)⟩
      · have hoo := hop
        obtain rfl := Option.some.inj hop
        have t6 : d 6 = true := HD.out ⟨6, .data⟩ (by simp) rfl
        have e6 : z 6 = .pointer (some ⟨XB, 0, none⟩) := (HQ.out.val 6 (by omega) t6).trans v6
        obtain ⟨k0, k1⟩ := B2.cells ((HQ.out.bu.block _ (blk_lt HXB1.out)).trans HXB1.out)
        clear HD t6
        rw [e6]
        refine wpOpIn_step hoo fun K hK => ?_
        clear hoo
        go_simp
        exact hK _ _ ⟨upd z 7 (V 7), by rw [v7, ← e6]; rfl, HQ.out.pure (i := 7) (by omega)⟩
      · have hoo := hop
        obtain rfl := Option.some.inj hop
        have t7 : d 7 = true := HD.out ⟨7, .data⟩ (by simp) rfl
        have e7 : z 7 = .int .i16 b0 := (HQ.out.val 7 (by omega) t7).trans v7
        clear HD t7
        rw [e7]
        refine wpOpIn_step hoo fun K hK => ?_
        clear hoo
        go_simp
        refine ⟨trivial, ?_⟩
        refine (callsIn_wide.2 (small_at b0 B0.out _)).mono ?_
        rintro e Wn ⟨rfl, hw⟩
        rw [hw]
        exact hK _ _ ⟨upd z 8 (V 8), by rw [v8, ← e7]; rfl, HQ.out.pure (i := 8) (by omega)⟩
      · have hoo := hop
        obtain rfl := Option.some.inj hop
        clear HD
        refine wpOpIn_step hoo fun K hK => ?_
        clear hoo
        go_simp
        exact hK _ _ ⟨upd z 9 (V 9), by rw [v9]; rfl, HQ.out.pure (i := 9) (by omega)⟩
      · have hoo := hop
        obtain rfl := Option.some.inj hop
        have t9 : d 9 = true := HD.out ⟨9, .data⟩ (by simp) rfl
        have e9 : z 9 = .pointer (some ⟨XB, 1, none⟩) := (HQ.out.val 9 (by omega) t9).trans v9
        obtain ⟨k0, k1⟩ := B2.cells ((HQ.out.bu.block _ (blk_lt HXB1.out)).trans HXB1.out)
        clear HD t9
        rw [e9]
        refine wpOpIn_step hoo fun K hK => ?_
        clear hoo
        go_simp
        exact hK _ _ ⟨upd z 10 (V 10), by rw [v10, ← e9]; rfl, HQ.out.pure (i := 10) (by omega)⟩
      · have hoo := hop
        obtain rfl := Option.some.inj hop
        have t10 : d 10 = true := HD.out ⟨10, .data⟩ (by simp) rfl
        have e10 : z 10 = .int .i16 b1 := (HQ.out.val 10 (by omega) t10).trans v10
        clear HD t10
        rw [e10]
        refine wpOpIn_step hoo fun K hK => ?_
        clear hoo
        go_simp
        refine ⟨trivial, ?_⟩
        refine (callsIn_wide.2 (small_at b1 B1.out _)).mono ?_
        rintro e Wn ⟨rfl, hw⟩
        rw [hw]
        exact hK _ _ ⟨upd z 11 (V 11), by rw [v11, ← e10]; rfl, HQ.out.pure (i := 11) (by omega)⟩
      · have hoo := hop
        obtain rfl := Option.some.inj hop
        have t2 : d 2 = true := HD.out ⟨2, .data⟩ (by simp) rfl
        have e2 : z 2 = .int .i64 (sm a0) := (HQ.out.val 2 (by omega) t2).trans v2
        clear HD t2
        rw [e2]
        refine wpOpIn_step hoo fun K hK => ?_
        clear hoo
        go_simp
        exact hK _ _ ⟨upd z 12 (V 12), by rw [v12, ← e2]; rfl, HQ.out.pure (i := 12) (by omega)⟩
      · have hoo := hop
        obtain rfl := Option.some.inj hop
        have t5 : d 5 = true := HD.out ⟨5, .data⟩ (by simp) rfl
        have e5 : z 5 = .int .i64 (sm a1) := (HQ.out.val 5 (by omega) t5).trans v5
        clear HD t5
        rw [e5]
        refine wpOpIn_step hoo fun K hK => ?_
        clear hoo
        go_simp
        exact hK _ _ ⟨upd z 13 (V 13), by rw [v13, ← e5]; rfl, HQ.out.pure (i := 13) (by omega)⟩
      · have hoo := hop
        obtain rfl := Option.some.inj hop
        have t8 : d 8 = true := HD.out ⟨8, .data⟩ (by simp) rfl
        have e8 : z 8 = .int .i64 (sm b0) := (HQ.out.val 8 (by omega) t8).trans v8
        clear HD t8
        rw [e8]
        refine wpOpIn_step hoo fun K hK => ?_
        clear hoo
        go_simp
        exact hK _ _ ⟨upd z 14 (V 14), by rw [v14, ← e8]; rfl, HQ.out.pure (i := 14) (by omega)⟩
      · have hoo := hop
        obtain rfl := Option.some.inj hop
        have t11 : d 11 = true := HD.out ⟨11, .data⟩ (by simp) rfl
        have e11 : z 11 = .int .i64 (sm b1) := (HQ.out.val 11 (by omega) t11).trans v11
        clear HD t11
        rw [e11]
        refine wpOpIn_step hoo fun K hK => ?_
        clear hoo
        go_simp
        exact hK _ _ ⟨upd z 15 (V 15), by rw [v15, ← e11]; rfl, HQ.out.pure (i := 15) (by omega)⟩
    case f2 =>
      rintro d act Wy ⟨z, rfl, hR⟩ hall
      have q12 := (hR.val 12 (by omega) (hall 12 (by decide))).trans v12
      have q13 := (hR.val 13 (by omega) (hall 13 (by decide))).trans v13
      have q14 := (hR.val 14 (by omega) (hall 14 (by decide))).trans v14
      have q15 := (hR.val 15 (by omega) (hall 15 (by decide))).trans v15
      rw [q12, q13, q14, q15]
      have HP0a : Hid (Pt Wy Y0 26 (nw (sm a0) (sm a1))) := (hR.bu.block _ (blk_lt HP0.out)).trans HP0.out
      have HP1a : Hid (Pt Wy Y1 26 (nw (sm b0) (sm b1))) := (hR.bu.block _ (blk_lt HP1.out)).trans HP1.out
      have HP2a : Hid (Pt Wy Y2 26 (nw (sm c0) (sm c1))) := (hR.bu.block _ (blk_lt HP2.out)).trans HP2.out
      have HB2 := Lib.hid (HB1.out.trans (hR.bu.mono HB1.out.size))
      clear hR hall q12 q13 q14 q15 HB1 HXA1 HXB1 HP0 HP1 HP2
      clear v0 v1 v2 v3 v4 v5 v6 v7 v8 v9 v10 v11 v12 v13 v14 v15
      clear V d
      obtain ⟨k, hk, hsh⟩ := shl_at s HS.out
      have HK := Lib.hid hk
      clear hk
      dsimp only
      go_wp2_with fail
      refine (nw_at _ 0 _).mono ?_
      rintro e Wz ⟨rfl, hb⟩
      have HB3 := Lib.hid (HB2.out.trans (hb.mono HB2.out.size))
      have HP0b : Hid (Pt Wz Y0 26 (nw (sm a0) (sm a1))) := B2.step HP0a.out hb
      have HP1b : Hid (Pt Wz Y1 26 (nw (sm b0) (sm b1))) := B2.step HP1a.out hb
      have HP2b : Hid (Pt Wz Y2 26 (nw (sm c0) (sm c1))) := B2.step HP2a.out hb
      clear hb hsh HB2 HP0a HP1a HP2a
      go_wp2_with fail
      have hbz : Below Wz.heap.size Wz (Wz.alloc (Obj.cells #[.int .u32 ((nw (2 ^ k) 0).1 : Nat), .int .u32 ((nw (2 ^ k) 0).2 : Nat)] 26)) := (Below.refl _ _).alloc (Nat.le_refl _) _
      have HPS : Hid (Pt _ Wz.heap.size 26 (nw (2 ^ k) 0)) := B2.made Wz (.int .u32 ((nw (2 ^ k) 0).1 : Nat)) (.int .u32 ((nw (2 ^ k) 0).2 : Nat)) 26
      have HB4 := Lib.hid (HB3.out.trans (hbz.mono HB3.out.size))
      have HP0c : Hid (Pt _ Y0 26 (nw (sm a0) (sm a1))) := B2.step HP0b.out hbz
      have HP1c : Hid (Pt _ Y1 26 (nw (sm b0) (sm b1))) := B2.step HP1b.out hbz
      have HP2c : Hid (Pt _ Y2 26 (nw (sm c0) (sm c1))) := B2.step HP2b.out hbz
      clear hbz HB3 HP0b HP1b HP2b
      generalize Wz.alloc (Obj.cells #[.int .u32 ((nw (2 ^ k) 0).1 : Nat), .int .u32 ((nw (2 ^ k) 0).2 : Nat)] 26) = Wq at *
      generalize Wz.heap.size = YS at *
      generalize hna : nw (sm a0) (sm a1) = na at *
      obtain ⟨na0, na1⟩ := na
      have HNA := Lib.hid hna
      clear hna
      obtain ⟨cj0, cj1, hcj⟩ : ∃ p q, (p, q) = conjc (na0, na1) := ⟨_, _, rfl⟩
      have HCJ := Lib.hid hcj
      clear hcj
      obtain ⟨mu0, mu1, hmu⟩ : ∃ p q, (p, q) = mulc (na0, na1) (cj0, cj1) := ⟨_, _, rfl⟩
      have HMU := Lib.hid hmu
      clear hmu
      obtain ⟨V, hV⟩ : ∃ V : Nat → Value, V = fun i => ([num (na0, na1), num (na0, na1), num (cj0, cj1), num (mu0, mu1)] : List Value).getD i undef := ⟨_, rfl⟩
      have v0 : V 0 = num (na0, na1) := by rw [hV]; rfl
      have v1 : V 1 = num (na0, na1) := by rw [hV]; rfl
      have v2 : V 2 = num (cj0, cj1) := by rw [hV]; rfl
      have v3 : V 3 = num (mu0, mu1) := by rw [hV]; rfl
      clear hV
      generalize Value.int IntKind.u8 (s.tmod 8) = t54 at *
      refine (wpIn_wide (n := 20)).1 ?_
      refine wpIn_region_inv (by kernel_rfl) (back_of (by kernel_rfl)) (fun d act Wr => ∃ u : Nat → Value, act = { tmps := #[.agg #[.int .i16 a0, .int .i16 a1], .agg #[.int .i16 b0, .int .i16 b1], .agg #[.int .i16 c0, .int .i16 c1], .int .u8 s, .pointer (some ⟨XA, 0, none⟩), .pointer (some ⟨XB, 0, none⟩), .pointer (some ⟨XC, 0, none⟩), undef, .bool false, .pointer (some ⟨Y0, 0, none⟩), .pointer (some ⟨Y1, 0, none⟩), .pointer (some ⟨Y2, 0, none⟩), .int .i64 (sm a0), .int .i64 (sm a1), .int .i64 (sm b0), .int .i64 (sm b1), .pointer (some ⟨YS, 0, none⟩), u 4, undef, undef, y 0, y 1, y 2, y 3, y 4, y 5, y 6, y 7, y 8, y 9, y 10, y 11, y 12, y 13, y 14, y 15, y 16, y 17, y 18, y 19, y 20, z 0, z 1, z 2, z 3, z 4, z 5, z 6, z 7, z 8, z 9, z 10, z 11, .int .u8 s, t54, .int .i64 ((2 ^ k : Nat) : Int), num (nw ((2 ^ k : Nat) : Int) 0), u 0, u 1, u 2, u 3, undef, undef, undef, undef, undef, undef, undef, undef, undef, undef, undef, undef, undef, undef, undef, undef, undef, undef, undef, undef, undef, undef, undef, undef, undef, undef, undef, undef, undef, undef, undef, undef, undef, undef, undef, undef, undef, undef, undef, undef, undef, undef, undef, undef, undef, undef, undef, undef, undef, undef, undef, undef, undef, undef, undef, undef, undef, undef, undef, undef, undef, undef, undef, undef, undef, undef, undef, undef, undef, undef, undef, undef, undef, undef, undef, undef, undef, undef, undef, undef, undef, undef, undef, undef, undef, undef, undef, undef, undef, undef, undef, undef, undef, undef, undef, undef, undef, undef, undef, undef, undef, undef, undef, undef, undef, undef], defers := [] } ∧ QA Wq V 4 1 (fun _ => (mu0, mu1)) d u Wr) ?r4 ?s4 ?f4
      case r4 => exact fun d hd => ⟨fun _ => undef, rfl, QA.start 6 (by omega) hd⟩
      case s4 =>
        rintro i oi hop d act Wr ⟨u, rfl, hR⟩ hSi hdep
        have hi : i < 6 := (Array.getElem?_eq_some_iff.1 hop).1
        have HQ := Lib.hid hR
        have HD := Lib.hid hdep
        have HSI := Lib.hid hSi
        clear hR hdep hSi
        obtain rfl | rfl | rfl | rfl | rfl | rfl : i = 0 ∨ i = 1 ∨ i = 2 ∨ i = 3 ∨ i = 4 ∨ i = 5 := by omega
        · have hoo := hop
          obtain rfl := Option.some.inj hop
          obtain ⟨k0, k1⟩ := B2.cells ((HQ.out.bu.block _ (blk_lt HP0c.out)).trans HP0c.out)
          clear HD
          refine wpOpIn_step hoo fun K hK => ?_
          clear hoo
          go_simp
          exact hK _ _ ⟨upd u 0 (V 0), by rw [v0]; rfl, HQ.out.pure (i := 0) (by omega)⟩
        · have hoo := hop
          obtain rfl := Option.some.inj hop
          obtain ⟨k0, k1⟩ := B2.cells ((HQ.out.bu.block _ (blk_lt HP0c.out)).trans HP0c.out)
          clear HD
          refine wpOpIn_step hoo fun K hK => ?_
          clear hoo
          go_simp
          exact hK _ _ ⟨upd u 1 (V 1), by rw [v1]; rfl, HQ.out.pure (i := 1) (by omega)⟩
        · have hoo := hop
          obtain rfl := Option.some.inj hop
          have t1 : d 1 = true := HD.out ⟨1, .data⟩ (by simp) rfl
          have e1 : u 1 = num (na0, na1) := (HQ.out.val 1 (by omega) t1).trans v1
          clear HD t1
          rw [e1]
          refine wpOpIn_step hoo fun K hK => ?_
          clear hoo
          go_simp
          refine ⟨trivial, ?_⟩
          refine (callsIn_wide.2 (conjc_at na0 na1 _)).mono ?_
          rintro e Wn ⟨pa, pb, rfl, hpq, hb⟩
          rw [← HCJ.out] at hpq
          obtain ⟨rfl, rfl⟩ := Prod.mk.inj hpq
          exact hK _ _ ⟨upd u 2 (V 2), by rw [v2, ← e1]; rfl, (HQ.out.walk hb).pure (i := 2) (by omega)⟩
        · have hoo := hop
          obtain rfl := Option.some.inj hop
          have t0 : d 0 = true := HD.out ⟨0, .data⟩ (by simp) rfl
          have e0 : u 0 = num (na0, na1) := (HQ.out.val 0 (by omega) t0).trans v0
          have t2 : d 2 = true := HD.out ⟨2, .data⟩ (by simp) rfl
          have e2 : u 2 = num (cj0, cj1) := (HQ.out.val 2 (by omega) t2).trans v2
          clear HD t0 t2
          rw [e0, e2]
          refine wpOpIn_step hoo fun K hK => ?_
          clear hoo
          go_simp
          refine ⟨trivial, ?_⟩
          refine (callsIn_wide.2 (pmulc_at na0 na1 cj0 cj1 _)).mono ?_
          rintro e Wn ⟨pa, pb, rfl, hpq, hb⟩
          rw [← HMU.out] at hpq
          obtain ⟨rfl, rfl⟩ := Prod.mk.inj hpq
          exact hK _ _ ⟨upd u 3 (V 3), by rw [v3, ← e0, ← e2]; rfl, (HQ.out.walk hb).pure (i := 3) (by omega)⟩
        · have hoo := hop
          obtain rfl := Option.some.inj hop
          clear HD
          refine wpOpIn_step hoo fun K hK => ?_
          clear hoo
          go_simp
          exact hK _ _ ⟨upd u 4 (.pointer (some ⟨Wr.heap.size, 0, none⟩)), rfl, QA.make (A := 4) (g := 0) HQ.out (by omega) HSI.out⟩
        · have hoo := hop
          obtain rfl := Option.some.inj hop
          have t3 : d 3 = true := HD.out ⟨3, .data⟩ (by simp) rfl
          have e3 : u 3 = num (mu0, mu1) := (HQ.out.val 3 (by omega) t3).trans v3
          have t4 : d 4 = true := HD.out ⟨4, .data⟩ (by simp) rfl
          obtain ⟨Y, eY, hY, hPt⟩ := HQ.out.find (g := 0) (by omega) t4 HSI.out
          have eY : u 4 = .pointer (some ⟨Y, 0, none⟩) := eY
          obtain ⟨k0, k1⟩ := hPt.cells
          obtain ⟨z0, z1⟩ := hPt.frz
          have T := Lib.hid t4
          clear hPt hY t4
          clear HD t3
          rw [eY, e3]
          refine wpOpIn_step hoo fun K hK => ?_
          clear hoo
          go_simp
          exact hK _ _ ⟨u, by rw [← eY, ← e3]; rfl, QA.store (g := 0) HQ.out (by omega) T.out eY rfl rfl⟩
      case f4 =>
        rintro d act Wr ⟨u, rfl, hR⟩ hall
        obtain ⟨Y, q4, _, hPt⟩ := hR.done 6 (by omega) (fun i hi => hall i hi) (g := 0) (by omega)
        have q4' : u 4 = _ := q4
        rw [q4']
        generalize hnb : nw (sm b0) (sm b1) = nb at *
        obtain ⟨nb0, nb1⟩ := nb
        generalize hnc : nw (sm c0) (sm c1) = nc at *
        obtain ⟨nc0, nc1⟩ := nc
        have e2k : (2 : Int) ^ k = ((2 ^ k : Nat) : Int) := by rw [Int.natCast_pow]; rfl
        rw [e2k] at HPS
        clear e2k
        generalize hns : nw ((2 ^ k : Nat) : Int) 0 = ns at *
        obtain ⟨ns0, ns1⟩ := ns
        have S0 : Hid (S5 w Y0 (na0, na1) Y1 (nb0, nb1) Y2 (nc0, nc1) YS (ns0, ns1) Y (mu0, mu1) Wr) :=
          Lib.hid ⟨HB4.out.trans (hR.bu.mono HB4.out.size), B2.step HP0c.out hR.bu, B2.step HP1c.out hR.bu, B2.step HP2c.out hR.bu, B2.step HPS.out hR.bu, hPt⟩
        have BA0 := Lib.hid (sm_le a0)
        have BA1 := Lib.hid (sm_le a1)
        have BB0 := Lib.hid (sm_le b0)
        have BB1 := Lib.hid (sm_le b1)
        have BC0 := Lib.hid (sm_le c0)
        have BC1 := Lib.hid (sm_le c1)
        have NA : Hid (Nb (na0, na1) (sm a0) (sm a1)) := Lib.hid (HNA.out ▸ nw_nb (by have := BA0.out; omega) (by have := BA1.out; omega))
        have NB : Hid (Nb (nb0, nb1) (sm b0) (sm b1)) := Lib.hid (hnb ▸ nw_nb (by have := BB0.out; omega) (by have := BB1.out; omega))
        have NC : Hid (Nb (nc0, nc1) (sm c0) (sm c1)) := Lib.hid (hnc ▸ nw_nb (by have := BC0.out; omega) (by have := BC1.out; omega))
        have HNS := Lib.hid hns
        have NM : Hid (Nb (mu0, mu1) (sm a0 * sm a0 + sm a1 * sm a1) 0) := by
          have h1 := NA.out.conj
          rw [← HCJ.out] at h1
          have h2 := NA.out.mulB (A := 1000) (B := 1000) h1 BA0.out BA1.out BA0.out (by rw [Int.natAbs_neg]; exact BA1.out) (by decide) (x := sm a0 * sm a0 + sm a1 * sm a1) (y := 0) (by rw [Int.mul_neg, Int.sub_neg]) (by rw [Int.mul_neg, Int.mul_comm (sm a1) (sm a0)]; omega)
          rw [← HMU.out] at h2
          exact Lib.hid h2
        clear hR hall hPt q4 q4' hnb hnc hns HNA HCJ HMU HB4 HP0c HP1c HP2c HPS
        have k2 : (2 : Nat) ^ k ≤ 128 := Nat.le_trans (Nat.pow_le_pow_right (by decide) HK.out) (by decide)
        have HT : Hid (Nb (ns0, ns1) ((2 ^ k : Nat) : Int) 0) := Lib.hid (HNS.out ▸ nw_nb (by rw [Int.natAbs_natCast]; omega) (by decide))
        have HK2 := Lib.hid k2
        clear k2
        generalize sm a0 = p at *
        generalize sm a1 = q at *
        generalize sm b0 = r at *
        generalize sm b1 = s' at *
        generalize sm c0 = t at *
        generalize sm c1 = v at *
        have M00 := Lib.hid (abs_mul BA0.out BA0.out)
        have M11 := Lib.hid (abs_mul BA1.out BA1.out)
        have M02 := Lib.hid (abs_mul BA0.out BB0.out)
        have M13 := Lib.hid (abs_mul BA1.out BB1.out)
        have M03 := Lib.hid (abs_mul BA0.out BB1.out)
        have M12 := Lib.hid (abs_mul BA1.out BB0.out)
        have wr1 : Hid (IntKind.i64.wrap (p + r) = p + r) := Lib.hid (IntWalk.i64_in _ (by have := BA0.out; have := BB0.out; omega))
        have wr2 : Hid (IntKind.i64.wrap (q + s') = q + s') := Lib.hid (IntWalk.i64_in _ (by have := BA1.out; have := BB1.out; omega))
        have wr3 : Hid (IntKind.i64.wrap (p - r) = p - r) := Lib.hid (IntWalk.i64_in _ (by have := BA0.out; have := BB0.out; omega))
        have wr4 : Hid (IntKind.i64.wrap (q - s') = q - s') := Lib.hid (IntWalk.i64_in _ (by have := BA1.out; have := BB1.out; omega))
        have wr5 : Hid (IntKind.i64.wrap (p * r) = p * r) := Lib.hid (IntWalk.i64_in _ (by have := M02.out; omega))
        have wr6 : Hid (IntKind.i64.wrap (q * s') = q * s') := Lib.hid (IntWalk.i64_in _ (by have := M13.out; omega))
        have wr7 : Hid (IntKind.i64.wrap (p * s') = p * s') := Lib.hid (IntWalk.i64_in _ (by have := M03.out; omega))
        have wr8 : Hid (IntKind.i64.wrap (q * r) = q * r) := Lib.hid (IntWalk.i64_in _ (by have := M12.out; omega))
        have wr9 : Hid (IntKind.i64.wrap (p * r - q * s') = p * r - q * s') := Lib.hid (IntWalk.i64_in _ (by have := M02.out; have := M13.out; omega))
        have wr10 : Hid (IntKind.i64.wrap (p * s' + q * r) = p * s' + q * r) := Lib.hid (IntWalk.i64_in _ (by have := M03.out; have := M12.out; omega))
        have wr11 : Hid (IntKind.i64.wrap (p * p) = p * p) := Lib.hid (IntWalk.i64_in _ (by have := M00.out; omega))
        have wr12 : Hid (IntKind.i64.wrap (q * q) = q * q) := Lib.hid (IntWalk.i64_in _ (by have := M11.out; omega))
        have wr13 : Hid (IntKind.i64.wrap (p * p + q * q) = p * p + q * q) := Lib.hid (IntWalk.i64_in _ (by have := M00.out; have := M11.out; omega))
        have Z := Lib.hid (zero_eq NM.out.2)
        obtain ⟨l0, l1, l2, l3, l4, l5, l6, l7, l8, l9⟩ := S0.out.cells
        dsimp only
        go_wp2_with fail
        refine (parts_at mu0 mu1 _).mono ?_
        rintro e W1 ⟨rfl, hb⟩
        have S1 := Lib.hid (S0.out.step hb)
        clear hb S0 l0 l1 l2 l3 l4 l5 l6 l7 l8 l9
        obtain ⟨l0, l1, l2, l3, l4, l5, l6, l7, l8, l9⟩ := S1.out.cells
        go_wp2_with fail
        clear l0 l1 l2 l3 l4 l5 l6 l7 l8 l9
        obtain ⟨x0a, x0b, hx⟩ : ∃ u v, (u, v) = addc (na0, na1) (nb0, nb1) := ⟨_, _, rfl⟩
        have X0 := Lib.hid hx
        clear hx
        have NX0 := Lib.hid (is_add X0.out NA.out NB.out rfl rfl (by have := BA0.out; have := BB0.out; omega) (by have := BA1.out; have := BB1.out; omega))
        obtain ⟨x1a, x1b, hx⟩ : ∃ u v, (u, v) = nw ((p + r)) ((q + s')) := ⟨_, _, rfl⟩
        have X1 := Lib.hid hx
        clear hx
        have NX1 := Lib.hid (is_of X1.out (by have := BA0.out; have := BB0.out; omega) (by have := BA1.out; have := BB1.out; omega))
        have C2 := Lib.hid (det_eq NX0.out NX1.out)
        obtain ⟨x3a, x3b, hx⟩ : ∃ u v, (u, v) = subc (na0, na1) (nb0, nb1) := ⟨_, _, rfl⟩
        have X3 := Lib.hid hx
        clear hx
        have NX3 := Lib.hid (is_sub X3.out NA.out NB.out rfl rfl (by have := BA0.out; have := BB0.out; omega) (by have := BA1.out; have := BB1.out; omega))
        obtain ⟨x4a, x4b, hx⟩ : ∃ u v, (u, v) = nw ((p - r)) ((q - s')) := ⟨_, _, rfl⟩
        have X4 := Lib.hid hx
        clear hx
        have NX4 := Lib.hid (is_of X4.out (by have := BA0.out; have := BB0.out; omega) (by have := BA1.out; have := BB1.out; omega))
        have C5 := Lib.hid (det_eq NX3.out NX4.out)
        obtain ⟨x6a, x6b, hx⟩ : ∃ u v, (u, v) = mulc (na0, na1) (nb0, nb1) := ⟨_, _, rfl⟩
        have X6 := Lib.hid hx
        clear hx
        have NX6 := Lib.hid (is_mul 1000 1000 X6.out NA.out NB.out ⟨BA0.out, BA1.out⟩ ⟨BB0.out, BB1.out⟩ (by decide) rfl rfl)
        obtain ⟨x7a, x7b, hx⟩ : ∃ u v, (u, v) = nw (((p * r) - (q * s'))) (((p * s') + (q * r))) := ⟨_, _, rfl⟩
        have X7 := Lib.hid hx
        clear hx
        have NX7 := Lib.hid (is_of X7.out (by have := M02.out; have := M13.out; omega) (by have := M03.out; have := M12.out; omega))
        have C8 := Lib.hid (det_eq NX6.out NX7.out)
        obtain ⟨x9a, x9b, hx⟩ : ∃ u v, (u, v) = addc (na0, na1) (nb0, nb1) := ⟨_, _, rfl⟩
        have X9 := Lib.hid hx
        clear hx
        have NX9 := Lib.hid (is_add X9.out NA.out NB.out rfl rfl (by have := BA0.out; have := BB0.out; omega) (by have := BA1.out; have := BB1.out; omega))
        obtain ⟨x10a, x10b, hx⟩ : ∃ u v, (u, v) = addc (x9a, x9b) (nc0, nc1) := ⟨_, _, rfl⟩
        have X10 := Lib.hid hx
        clear hx
        have NX10 := Lib.hid (is_add X10.out NX9.out NC.out rfl rfl (by have := BA0.out; have := BB0.out; have := BC0.out; omega) (by have := BA1.out; have := BB1.out; have := BC1.out; omega))
        obtain ⟨x11a, x11b, hx⟩ : ∃ u v, (u, v) = addc (nb0, nb1) (nc0, nc1) := ⟨_, _, rfl⟩
        have X11 := Lib.hid hx
        clear hx
        have NX11 := Lib.hid (is_add X11.out NB.out NC.out rfl rfl (by have := BB0.out; have := BC0.out; omega) (by have := BB1.out; have := BC1.out; omega))
        obtain ⟨x12a, x12b, hx⟩ : ∃ u v, (u, v) = addc (na0, na1) (x11a, x11b) := ⟨_, _, rfl⟩
        have X12 := Lib.hid hx
        clear hx
        have NX12 := Lib.hid (is_add X12.out NA.out NX11.out (Int.add_assoc _ _ _).symm (Int.add_assoc _ _ _).symm (by have := BA0.out; have := BB0.out; have := BC0.out; omega) (by have := BA1.out; have := BB1.out; have := BC1.out; omega))
        have C13 := Lib.hid (det_eq NX10.out NX12.out)
        obtain ⟨x14a, x14b, hx⟩ : ∃ u v, (u, v) = addc (nb0, nb1) (nc0, nc1) := ⟨_, _, rfl⟩
        have X14 := Lib.hid hx
        clear hx
        have NX14 := Lib.hid (is_add X14.out NB.out NC.out rfl rfl (by have := BB0.out; have := BC0.out; omega) (by have := BB1.out; have := BC1.out; omega))
        obtain ⟨x15a, x15b, hx⟩ : ∃ u v, (u, v) = mulc (na0, na1) (x14a, x14b) := ⟨_, _, rfl⟩
        have X15 := Lib.hid hx
        clear hx
        have NX15 := Lib.hid (is_mul 1000 2000 X15.out NA.out NX14.out ⟨BA0.out, BA1.out⟩ ⟨(by have := BB0.out; have := BC0.out; omega), (by have := BB1.out; have := BC1.out; omega)⟩ (by decide) rfl rfl)
        obtain ⟨x16a, x16b, hx⟩ : ∃ u v, (u, v) = mulc (na0, na1) (nb0, nb1) := ⟨_, _, rfl⟩
        have X16 := Lib.hid hx
        clear hx
        have NX16 := Lib.hid (is_mul 1000 1000 X16.out NA.out NB.out ⟨BA0.out, BA1.out⟩ ⟨BB0.out, BB1.out⟩ (by decide) rfl rfl)
        obtain ⟨x17a, x17b, hx⟩ : ∃ u v, (u, v) = mulc (na0, na1) (nc0, nc1) := ⟨_, _, rfl⟩
        have X17 := Lib.hid hx
        clear hx
        have NX17 := Lib.hid (is_mul 1000 1000 X17.out NA.out NC.out ⟨BA0.out, BA1.out⟩ ⟨BC0.out, BC1.out⟩ (by decide) rfl rfl)
        obtain ⟨x18a, x18b, hx⟩ : ∃ u v, (u, v) = addc (x16a, x16b) (x17a, x17b) := ⟨_, _, rfl⟩
        have X18 := Lib.hid hx
        clear hx
        have NX18 := Lib.hid (is_add X18.out NX16.out NX17.out (x := p * (r + t) - q * (s' + v)) (y := p * (s' + v) + q * (r + t)) (by rw [Int.mul_add, Int.mul_add]; omega) (by rw [Int.mul_add, Int.mul_add]; omega) (by have := M02.out; have := M13.out; have := abs_mul BA0.out BC0.out; have := abs_mul BA1.out BC1.out; rw [Int.mul_add, Int.mul_add]; omega) (by have := M03.out; have := M12.out; have := abs_mul BA0.out BC1.out; have := abs_mul BA1.out BC0.out; rw [Int.mul_add, Int.mul_add]; omega))
        have C19 := Lib.hid (det_eq NX15.out NX18.out)
        obtain ⟨x20a, x20b, hx⟩ : ∃ u v, (u, v) = nw (((p * p) + (q * q))) (0) := ⟨_, _, rfl⟩
        have X20 := Lib.hid hx
        clear hx
        have NX20 := Lib.hid (is_of X20.out (by have := M00.out; have := M11.out; omega) (by decide))
        have C21 := Lib.hid (det_eq NM.out NX20.out)
        obtain ⟨x22a, x22b, hx⟩ : ∃ u v, (u, v) = mulc (na0, na1) (ns0, ns1) := ⟨_, _, rfl⟩
        have X22 := Lib.hid hx
        clear hx
        have NX22 := Lib.hid (is_mul 1000 128 X22.out NA.out HT.out ⟨BA0.out, BA1.out⟩ ⟨by rw [Int.natAbs_natCast]; exact HK2.out, by decide⟩ (by decide) (x := p * 2 ^ k) (y := q * 2 ^ k) (by rw [Int.mul_zero, Int.sub_zero, Int.natCast_pow]; rfl) (by rw [Int.mul_zero, Int.zero_add, Int.natCast_pow]; rfl))
        obtain ⟨x23a, x23b, hx⟩ : ∃ u v, (u, v) = dvc (x22a, x22b) (ns0, ns1) := ⟨_, _, rfl⟩
        have X23 := Lib.hid hx
        clear hx
        have NX23 := Lib.hid (is_div X23.out HK.out HNS.out NX22.out ⟨BA0.out, BA1.out⟩)
        have C24 := Lib.hid (det_eq NX23.out NA.out)
        obtain ⟨V, hV⟩ : ∃ V : Nat → Value, V = fun i => ([.agg #[.int .u32 na0, .int .u32 na1], .agg #[.int .u32 nb0, .int .u32 nb1], .agg #[.int .u32 x0a, .int .u32 x0b], .int .i64 p, .int .i64 r, .int .i64 (p + r), .int .i64 q, .int .i64 s', .int .i64 (q + s'), .agg #[.int .u32 x1a, .int .u32 x1b], .bool true, .bool true, .agg #[.int .u32 na0, .int .u32 na1], .agg #[.int .u32 nb0, .int .u32 nb1], .agg #[.int .u32 x3a, .int .u32 x3b], .int .i64 p, .int .i64 r, .int .i64 (p - r), .int .i64 q, .int .i64 s', .int .i64 (q - s'), .agg #[.int .u32 x4a, .int .u32 x4b], .bool true, .bool true, .bool true, .agg #[.int .u32 na0, .int .u32 na1], .agg #[.int .u32 nb0, .int .u32 nb1], .agg #[.int .u32 x6a, .int .u32 x6b], .int .i64 p, .int .i64 r, .int .i64 (p * r), .int .i64 q, .int .i64 s', .int .i64 (q * s'), .int .i64 ((p * r) - (q * s')), .int .i64 p, .int .i64 s', .int .i64 (p * s'), .int .i64 q, .int .i64 r, .int .i64 (q * r), .int .i64 ((p * s') + (q * r)), .agg #[.int .u32 x7a, .int .u32 x7b], .bool true, .bool true, .bool true, .agg #[.int .u32 na0, .int .u32 na1], .agg #[.int .u32 nb0, .int .u32 nb1], .agg #[.int .u32 x9a, .int .u32 x9b], .agg #[.int .u32 nc0, .int .u32 nc1], .agg #[.int .u32 x10a, .int .u32 x10b], .agg #[.int .u32 na0, .int .u32 na1], .agg #[.int .u32 nb0, .int .u32 nb1], .agg #[.int .u32 nc0, .int .u32 nc1], .agg #[.int .u32 x11a, .int .u32 x11b], .agg #[.int .u32 x12a, .int .u32 x12b], .bool true, .bool true, .bool true, .agg #[.int .u32 na0, .int .u32 na1], .agg #[.int .u32 nb0, .int .u32 nb1], .agg #[.int .u32 nc0, .int .u32 nc1], .agg #[.int .u32 x14a, .int .u32 x14b], .agg #[.int .u32 x15a, .int .u32 x15b], .agg #[.int .u32 na0, .int .u32 na1], .agg #[.int .u32 nb0, .int .u32 nb1], .agg #[.int .u32 x16a, .int .u32 x16b], .agg #[.int .u32 na0, .int .u32 na1], .agg #[.int .u32 nc0, .int .u32 nc1], .agg #[.int .u32 x17a, .int .u32 x17b], .agg #[.int .u32 x18a, .int .u32 x18b], .bool true, .bool true, .bool true, .float .f32 (cc mu1), .bool true, .bool true, .bool true, .agg #[.int .u32 mu0, .int .u32 mu1], .int .i64 p, .int .i64 p, .int .i64 (p * p), .int .i64 q, .int .i64 q, .int .i64 (q * q), .int .i64 ((p * p) + (q * q)), .agg #[.int .u32 x20a, .int .u32 x20b], .bool true, .bool true, .bool true, .agg #[.int .u32 na0, .int .u32 na1], .agg #[.int .u32 ns0, .int .u32 ns1], .agg #[.int .u32 x22a, .int .u32 x22b], .agg #[.int .u32 ns0, .int .u32 ns1], .agg #[.int .u32 x23a, .int .u32 x23b], .agg #[.int .u32 na0, .int .u32 na1], .bool true, .bool true, .bool true, .bool true, .bool true, .bool true] : List Value).getD i undef := ⟨_, rfl⟩
        have v0 : Hid (V 0 = .agg #[.int .u32 na0, .int .u32 na1]) := Lib.hid (by rw [hV]; rfl)
        have v1 : Hid (V 1 = .agg #[.int .u32 nb0, .int .u32 nb1]) := Lib.hid (by rw [hV]; rfl)
        have v2 : Hid (V 2 = .agg #[.int .u32 x0a, .int .u32 x0b]) := Lib.hid (by rw [hV]; rfl)
        have v3 : Hid (V 3 = .int .i64 p) := Lib.hid (by rw [hV]; rfl)
        have v4 : Hid (V 4 = .int .i64 r) := Lib.hid (by rw [hV]; rfl)
        have v5 : Hid (V 5 = .int .i64 (p + r)) := Lib.hid (by rw [hV]; rfl)
        have v6 : Hid (V 6 = .int .i64 q) := Lib.hid (by rw [hV]; rfl)
        have v7 : Hid (V 7 = .int .i64 s') := Lib.hid (by rw [hV]; rfl)
        have v8 : Hid (V 8 = .int .i64 (q + s')) := Lib.hid (by rw [hV]; rfl)
        have v9 : Hid (V 9 = .agg #[.int .u32 x1a, .int .u32 x1b]) := Lib.hid (by rw [hV]; rfl)
        have v10 : Hid (V 10 = .bool true) := Lib.hid (by rw [hV]; rfl)
        have v11 : Hid (V 11 = .bool true) := Lib.hid (by rw [hV]; rfl)
        have v12 : Hid (V 12 = .agg #[.int .u32 na0, .int .u32 na1]) := Lib.hid (by rw [hV]; rfl)
        have v13 : Hid (V 13 = .agg #[.int .u32 nb0, .int .u32 nb1]) := Lib.hid (by rw [hV]; rfl)
        have v14 : Hid (V 14 = .agg #[.int .u32 x3a, .int .u32 x3b]) := Lib.hid (by rw [hV]; rfl)
        have v15 : Hid (V 15 = .int .i64 p) := Lib.hid (by rw [hV]; rfl)
        have v16 : Hid (V 16 = .int .i64 r) := Lib.hid (by rw [hV]; rfl)
        have v17 : Hid (V 17 = .int .i64 (p - r)) := Lib.hid (by rw [hV]; rfl)
        have v18 : Hid (V 18 = .int .i64 q) := Lib.hid (by rw [hV]; rfl)
        have v19 : Hid (V 19 = .int .i64 s') := Lib.hid (by rw [hV]; rfl)
        have v20 : Hid (V 20 = .int .i64 (q - s')) := Lib.hid (by rw [hV]; rfl)
        have v21 : Hid (V 21 = .agg #[.int .u32 x4a, .int .u32 x4b]) := Lib.hid (by rw [hV]; rfl)
        have v22 : Hid (V 22 = .bool true) := Lib.hid (by rw [hV]; rfl)
        have v23 : Hid (V 23 = .bool true) := Lib.hid (by rw [hV]; rfl)
        have v24 : Hid (V 24 = .bool true) := Lib.hid (by rw [hV]; rfl)
        have v25 : Hid (V 25 = .agg #[.int .u32 na0, .int .u32 na1]) := Lib.hid (by rw [hV]; rfl)
        have v26 : Hid (V 26 = .agg #[.int .u32 nb0, .int .u32 nb1]) := Lib.hid (by rw [hV]; rfl)
        have v27 : Hid (V 27 = .agg #[.int .u32 x6a, .int .u32 x6b]) := Lib.hid (by rw [hV]; rfl)
        have v28 : Hid (V 28 = .int .i64 p) := Lib.hid (by rw [hV]; rfl)
        have v29 : Hid (V 29 = .int .i64 r) := Lib.hid (by rw [hV]; rfl)
        have v30 : Hid (V 30 = .int .i64 (p * r)) := Lib.hid (by rw [hV]; rfl)
        have v31 : Hid (V 31 = .int .i64 q) := Lib.hid (by rw [hV]; rfl)
        have v32 : Hid (V 32 = .int .i64 s') := Lib.hid (by rw [hV]; rfl)
        have v33 : Hid (V 33 = .int .i64 (q * s')) := Lib.hid (by rw [hV]; rfl)
        have v34 : Hid (V 34 = .int .i64 ((p * r) - (q * s'))) := Lib.hid (by rw [hV]; rfl)
        have v35 : Hid (V 35 = .int .i64 p) := Lib.hid (by rw [hV]; rfl)
        have v36 : Hid (V 36 = .int .i64 s') := Lib.hid (by rw [hV]; rfl)
        have v37 : Hid (V 37 = .int .i64 (p * s')) := Lib.hid (by rw [hV]; rfl)
        have v38 : Hid (V 38 = .int .i64 q) := Lib.hid (by rw [hV]; rfl)
        have v39 : Hid (V 39 = .int .i64 r) := Lib.hid (by rw [hV]; rfl)
        have v40 : Hid (V 40 = .int .i64 (q * r)) := Lib.hid (by rw [hV]; rfl)
        have v41 : Hid (V 41 = .int .i64 ((p * s') + (q * r))) := Lib.hid (by rw [hV]; rfl)
        have v42 : Hid (V 42 = .agg #[.int .u32 x7a, .int .u32 x7b]) := Lib.hid (by rw [hV]; rfl)
        have v43 : Hid (V 43 = .bool true) := Lib.hid (by rw [hV]; rfl)
        have v44 : Hid (V 44 = .bool true) := Lib.hid (by rw [hV]; rfl)
        have v45 : Hid (V 45 = .bool true) := Lib.hid (by rw [hV]; rfl)
        have v46 : Hid (V 46 = .agg #[.int .u32 na0, .int .u32 na1]) := Lib.hid (by rw [hV]; rfl)
        have v47 : Hid (V 47 = .agg #[.int .u32 nb0, .int .u32 nb1]) := Lib.hid (by rw [hV]; rfl)
        have v48 : Hid (V 48 = .agg #[.int .u32 x9a, .int .u32 x9b]) := Lib.hid (by rw [hV]; rfl)
        have v49 : Hid (V 49 = .agg #[.int .u32 nc0, .int .u32 nc1]) := Lib.hid (by rw [hV]; rfl)
        have v50 : Hid (V 50 = .agg #[.int .u32 x10a, .int .u32 x10b]) := Lib.hid (by rw [hV]; rfl)
        have v51 : Hid (V 51 = .agg #[.int .u32 na0, .int .u32 na1]) := Lib.hid (by rw [hV]; rfl)
        have v52 : Hid (V 52 = .agg #[.int .u32 nb0, .int .u32 nb1]) := Lib.hid (by rw [hV]; rfl)
        have v53 : Hid (V 53 = .agg #[.int .u32 nc0, .int .u32 nc1]) := Lib.hid (by rw [hV]; rfl)
        have v54 : Hid (V 54 = .agg #[.int .u32 x11a, .int .u32 x11b]) := Lib.hid (by rw [hV]; rfl)
        have v55 : Hid (V 55 = .agg #[.int .u32 x12a, .int .u32 x12b]) := Lib.hid (by rw [hV]; rfl)
        have v56 : Hid (V 56 = .bool true) := Lib.hid (by rw [hV]; rfl)
        have v57 : Hid (V 57 = .bool true) := Lib.hid (by rw [hV]; rfl)
        have v58 : Hid (V 58 = .bool true) := Lib.hid (by rw [hV]; rfl)
        have v59 : Hid (V 59 = .agg #[.int .u32 na0, .int .u32 na1]) := Lib.hid (by rw [hV]; rfl)
        have v60 : Hid (V 60 = .agg #[.int .u32 nb0, .int .u32 nb1]) := Lib.hid (by rw [hV]; rfl)
        have v61 : Hid (V 61 = .agg #[.int .u32 nc0, .int .u32 nc1]) := Lib.hid (by rw [hV]; rfl)
        have v62 : Hid (V 62 = .agg #[.int .u32 x14a, .int .u32 x14b]) := Lib.hid (by rw [hV]; rfl)
        have v63 : Hid (V 63 = .agg #[.int .u32 x15a, .int .u32 x15b]) := Lib.hid (by rw [hV]; rfl)
        have v64 : Hid (V 64 = .agg #[.int .u32 na0, .int .u32 na1]) := Lib.hid (by rw [hV]; rfl)
        have v65 : Hid (V 65 = .agg #[.int .u32 nb0, .int .u32 nb1]) := Lib.hid (by rw [hV]; rfl)
        have v66 : Hid (V 66 = .agg #[.int .u32 x16a, .int .u32 x16b]) := Lib.hid (by rw [hV]; rfl)
        have v67 : Hid (V 67 = .agg #[.int .u32 na0, .int .u32 na1]) := Lib.hid (by rw [hV]; rfl)
        have v68 : Hid (V 68 = .agg #[.int .u32 nc0, .int .u32 nc1]) := Lib.hid (by rw [hV]; rfl)
        have v69 : Hid (V 69 = .agg #[.int .u32 x17a, .int .u32 x17b]) := Lib.hid (by rw [hV]; rfl)
        have v70 : Hid (V 70 = .agg #[.int .u32 x18a, .int .u32 x18b]) := Lib.hid (by rw [hV]; rfl)
        have v71 : Hid (V 71 = .bool true) := Lib.hid (by rw [hV]; rfl)
        have v72 : Hid (V 72 = .bool true) := Lib.hid (by rw [hV]; rfl)
        have v73 : Hid (V 73 = .bool true) := Lib.hid (by rw [hV]; rfl)
        have v74 : Hid (V 74 = .float .f32 (cc mu1)) := Lib.hid (by rw [hV]; rfl)
        have v75 : Hid (V 75 = .bool true) := Lib.hid (by rw [hV]; rfl)
        have v76 : Hid (V 76 = .bool true) := Lib.hid (by rw [hV]; rfl)
        have v77 : Hid (V 77 = .bool true) := Lib.hid (by rw [hV]; rfl)
        have v78 : Hid (V 78 = .agg #[.int .u32 mu0, .int .u32 mu1]) := Lib.hid (by rw [hV]; rfl)
        have v79 : Hid (V 79 = .int .i64 p) := Lib.hid (by rw [hV]; rfl)
        have v80 : Hid (V 80 = .int .i64 p) := Lib.hid (by rw [hV]; rfl)
        have v81 : Hid (V 81 = .int .i64 (p * p)) := Lib.hid (by rw [hV]; rfl)
        have v82 : Hid (V 82 = .int .i64 q) := Lib.hid (by rw [hV]; rfl)
        have v83 : Hid (V 83 = .int .i64 q) := Lib.hid (by rw [hV]; rfl)
        have v84 : Hid (V 84 = .int .i64 (q * q)) := Lib.hid (by rw [hV]; rfl)
        have v85 : Hid (V 85 = .int .i64 ((p * p) + (q * q))) := Lib.hid (by rw [hV]; rfl)
        have v86 : Hid (V 86 = .agg #[.int .u32 x20a, .int .u32 x20b]) := Lib.hid (by rw [hV]; rfl)
        have v87 : Hid (V 87 = .bool true) := Lib.hid (by rw [hV]; rfl)
        have v88 : Hid (V 88 = .bool true) := Lib.hid (by rw [hV]; rfl)
        have v89 : Hid (V 89 = .bool true) := Lib.hid (by rw [hV]; rfl)
        have v90 : Hid (V 90 = .agg #[.int .u32 na0, .int .u32 na1]) := Lib.hid (by rw [hV]; rfl)
        have v91 : Hid (V 91 = .agg #[.int .u32 ns0, .int .u32 ns1]) := Lib.hid (by rw [hV]; rfl)
        have v92 : Hid (V 92 = .agg #[.int .u32 x22a, .int .u32 x22b]) := Lib.hid (by rw [hV]; rfl)
        have v93 : Hid (V 93 = .agg #[.int .u32 ns0, .int .u32 ns1]) := Lib.hid (by rw [hV]; rfl)
        have v94 : Hid (V 94 = .agg #[.int .u32 x23a, .int .u32 x23b]) := Lib.hid (by rw [hV]; rfl)
        have v95 : Hid (V 95 = .agg #[.int .u32 na0, .int .u32 na1]) := Lib.hid (by rw [hV]; rfl)
        have v96 : Hid (V 96 = .bool true) := Lib.hid (by rw [hV]; rfl)
        have v97 : Hid (V 97 = .bool true) := Lib.hid (by rw [hV]; rfl)
        have v98 : Hid (V 98 = .bool true) := Lib.hid (by rw [hV]; rfl)
        have v99 : Hid (V 99 = .bool true) := Lib.hid (by rw [hV]; rfl)
        have v100 : Hid (V 100 = .bool true) := Lib.hid (by rw [hV]; rfl)
        have v101 : Hid (V 101 = .bool true) := Lib.hid (by rw [hV]; rfl)
        clear hV
        refine (wpIn_wide (n := 20)).1 ?_
        refine wpIn_region_inv (by kernel_rfl) (back_of (by kernel_rfl)) (fun d act Wn => ∃ g : Nat → Value, act = { tmps := #[.agg #[.int .i16 a0, .int .i16 a1], .agg #[.int .i16 b0, .int .i16 b1], .agg #[.int .i16 c0, .int .i16 c1], .int .u8 s, .pointer (some ⟨XA, 0, none⟩), .pointer (some ⟨XB, 0, none⟩), .pointer (some ⟨XC, 0, none⟩), undef, g 101, .pointer (some ⟨Y0, 0, none⟩), .pointer (some ⟨Y1, 0, none⟩), .pointer (some ⟨Y2, 0, none⟩), .int .i64 p, .int .i64 q, .int .i64 r, .int .i64 s', .pointer (some ⟨YS, 0, none⟩), .pointer (some ⟨Y, 0, none⟩), .float .f32 (cc mu0), .float .f32 (cc mu1), y 0, y 1, y 2, y 3, y 4, y 5, y 6, y 7, y 8, y 9, y 10, y 11, y 12, y 13, y 14, y 15, y 16, y 17, y 18, y 19, y 20, z 0, z 1, z 2, z 3, z 4, z 5, z 6, z 7, z 8, z 9, z 10, z 11, .int .u8 s, t54, .int .i64 ((2 : Int) ^ k), .agg #[.int .u32 ns0, .int .u32 ns1], u 0, u 1, u 2, u 3, .tuple #[.float .f32 (cc mu0), .float .f32 (cc mu1)], .agg #[.int .u32 mu0, .int .u32 mu1], .tuple #[.float .f32 (cc mu0), .float .f32 (cc mu1)], .float .f32 (cc mu0), .float .f32 (cc mu1), g 0, g 1, g 2, g 3, g 4, g 5, g 6, g 7, g 8, g 9, g 10, g 11, g 12, g 13, g 14, g 15, g 16, g 17, g 18, g 19, g 20, g 21, g 22, g 23, g 24, g 25, g 26, g 27, g 28, g 29, g 30, g 31, g 32, g 33, g 34, g 35, g 36, g 37, g 38, g 39, g 40, g 41, g 42, g 43, g 44, g 45, g 46, g 47, g 48, g 49, g 50, g 51, g 52, g 53, g 54, g 55, g 56, g 57, g 58, g 59, g 60, g 61, g 62, g 63, g 64, g 65, g 66, g 67, g 68, g 69, g 70, g 71, g 72, g 73, g 74, g 75, g 76, g 77, g 78, g 79, g 80, g 81, g 82, g 83, g 84, g 85, g 86, g 87, g 88, g 89, g 90, g 91, g 92, g 93, g 94, g 95, g 96, g 97, g 98, g 99, g 100], defers := [] } ∧ QA W1 V 102 0 (fun _ => (0, 0)) d g Wn) ?r6 ?s6 ?f6
        case r6 => exact fun d hd => ⟨(upd (fun _ => undef) 101 (.bool false)), rfl, QA.start 102 (by omega) hd⟩
        case s6 =>
          rintro i oi hop d act Wt ⟨g, rfl, hR⟩ hSi hdep
          have hi : i < 102 := (Array.getElem?_eq_some_iff.1 hop).1
          have HQ := Lib.hid hR
          have HD := Lib.hid hdep
          clear hR hdep hSi
          obtain rfl | rfl | rfl | rfl | rfl | rfl | rfl | rfl | rfl | rfl | rfl | rfl | rfl | rfl | rfl | rfl | rfl | rfl | rfl | rfl | rfl | rfl | rfl | rfl | rfl | rfl | rfl | rfl | rfl | rfl | rfl | rfl | rfl | rfl | rfl | rfl | rfl | rfl | rfl | rfl | rfl | rfl | rfl | rfl | rfl | rfl | rfl | rfl | rfl | rfl | rfl | rfl | rfl | rfl | rfl | rfl | rfl | rfl | rfl | rfl | rfl | rfl | rfl | rfl | rfl | rfl | rfl | rfl | rfl | rfl | rfl | rfl | rfl | rfl | rfl | rfl | rfl | rfl | rfl | rfl | rfl | rfl | rfl | rfl | rfl | rfl | rfl | rfl | rfl | rfl | rfl | rfl | rfl | rfl | rfl | rfl | rfl | rfl | rfl | rfl | rfl | rfl : i = 0 ∨ i = 1 ∨ i = 2 ∨ i = 3 ∨ i = 4 ∨ i = 5 ∨ i = 6 ∨ i = 7 ∨ i = 8 ∨ i = 9 ∨ i = 10 ∨ i = 11 ∨ i = 12 ∨ i = 13 ∨ i = 14 ∨ i = 15 ∨ i = 16 ∨ i = 17 ∨ i = 18 ∨ i = 19 ∨ i = 20 ∨ i = 21 ∨ i = 22 ∨ i = 23 ∨ i = 24 ∨ i = 25 ∨ i = 26 ∨ i = 27 ∨ i = 28 ∨ i = 29 ∨ i = 30 ∨ i = 31 ∨ i = 32 ∨ i = 33 ∨ i = 34 ∨ i = 35 ∨ i = 36 ∨ i = 37 ∨ i = 38 ∨ i = 39 ∨ i = 40 ∨ i = 41 ∨ i = 42 ∨ i = 43 ∨ i = 44 ∨ i = 45 ∨ i = 46 ∨ i = 47 ∨ i = 48 ∨ i = 49 ∨ i = 50 ∨ i = 51 ∨ i = 52 ∨ i = 53 ∨ i = 54 ∨ i = 55 ∨ i = 56 ∨ i = 57 ∨ i = 58 ∨ i = 59 ∨ i = 60 ∨ i = 61 ∨ i = 62 ∨ i = 63 ∨ i = 64 ∨ i = 65 ∨ i = 66 ∨ i = 67 ∨ i = 68 ∨ i = 69 ∨ i = 70 ∨ i = 71 ∨ i = 72 ∨ i = 73 ∨ i = 74 ∨ i = 75 ∨ i = 76 ∨ i = 77 ∨ i = 78 ∨ i = 79 ∨ i = 80 ∨ i = 81 ∨ i = 82 ∨ i = 83 ∨ i = 84 ∨ i = 85 ∨ i = 86 ∨ i = 87 ∨ i = 88 ∨ i = 89 ∨ i = 90 ∨ i = 91 ∨ i = 92 ∨ i = 93 ∨ i = 94 ∨ i = 95 ∨ i = 96 ∨ i = 97 ∨ i = 98 ∨ i = 99 ∨ i = 100 ∨ i = 101 := by omega
          · have hoo := hop
            obtain rfl := Option.some.inj hop
            obtain ⟨k0, k1⟩ := B2.cells (HQ.out.bu.block _ (blk_lt S1.out.a) |>.trans S1.out.a)
            clear HD
            refine op_wanted hoo (by kernel_rfl) fun K hK => ?_
            clear hoo
            refine wpIn_val (v := .agg #[.int .u32 na0, .int .u32 na1]) (fun _ _ => trivial) (by go_simp) ?_
            exact hK _ _ ⟨upd g 0 (V 0), by rw [v0.out]; kernel_rfl, HQ.out.pure (i := 0) (by omega)⟩
          · have hoo := hop
            obtain rfl := Option.some.inj hop
            obtain ⟨k0, k1⟩ := B2.cells (HQ.out.bu.block _ (blk_lt S1.out.b) |>.trans S1.out.b)
            clear HD
            refine op_wanted hoo (by kernel_rfl) fun K hK => ?_
            clear hoo
            refine wpIn_val (v := .agg #[.int .u32 nb0, .int .u32 nb1]) (fun _ _ => trivial) (by go_simp) ?_
            exact hK _ _ ⟨upd g 1 (V 1), by rw [v1.out]; kernel_rfl, HQ.out.pure (i := 1) (by omega)⟩
          · have hoo := hop
            obtain rfl := Option.some.inj hop
            have t0 : d 0 = true := HD.out ⟨0, .data⟩ (by simp) rfl
            have e0 : g 0 = .agg #[.int .u32 na0, .int .u32 na1] := (HQ.out.val 0 (by omega) t0).trans v0.out
            have t1 : d 1 = true := HD.out ⟨1, .data⟩ (by simp) rfl
            have e1 : g 1 = .agg #[.int .u32 nb0, .int .u32 nb1] := (HQ.out.val 1 (by omega) t1).trans v1.out
            clear HD t0 t1
            refine op_wanted hoo (by kernel_rfl) fun K hK => ?_
            clear hoo
            refine wpIn_det (v := .agg #[.int .u32 x0a, .int .u32 x0b]) (by go_simp) (det_add X0.out) fun Wn hb => ?_
            exact hK _ _ ⟨upd g 2 (V 2), by rw [v2.out]; kernel_rfl, (HQ.out.walk hb).pure (i := 2) (by omega)⟩
          · have hoo := hop
            obtain rfl := Option.some.inj hop
            clear HD
            refine op_wanted hoo (by kernel_rfl) fun K hK => ?_
            clear hoo
            refine wpIn_val (v := .int .i64 p) (fun _ _ => trivial) (by go_simp) ?_
            exact hK _ _ ⟨upd g 3 (V 3), by rw [v3.out]; kernel_rfl, HQ.out.pure (i := 3) (by omega)⟩
          · have hoo := hop
            obtain rfl := Option.some.inj hop
            clear HD
            refine op_wanted hoo (by kernel_rfl) fun K hK => ?_
            clear hoo
            refine wpIn_val (v := .int .i64 r) (fun _ _ => trivial) (by go_simp) ?_
            exact hK _ _ ⟨upd g 4 (V 4), by rw [v4.out]; kernel_rfl, HQ.out.pure (i := 4) (by omega)⟩
          · have hoo := hop
            obtain rfl := Option.some.inj hop
            have t3 : d 3 = true := HD.out ⟨3, .data⟩ (by simp) rfl
            have e3 : g 3 = .int .i64 p := (HQ.out.val 3 (by omega) t3).trans v3.out
            have t4 : d 4 = true := HD.out ⟨4, .data⟩ (by simp) rfl
            have e4 : g 4 = .int .i64 r := (HQ.out.val 4 (by omega) t4).trans v4.out
            clear HD t3 t4
            refine op_wanted hoo (by kernel_rfl) fun K hK => ?_
            clear hoo
            refine wpIn_val (v := .int .i64 (p + r)) (fun _ _ => trivial) (by go_simp; exact wr1.out) ?_
            exact hK _ _ ⟨upd g 5 (V 5), by rw [v5.out]; kernel_rfl, HQ.out.pure (i := 5) (by omega)⟩
          · have hoo := hop
            obtain rfl := Option.some.inj hop
            clear HD
            refine op_wanted hoo (by kernel_rfl) fun K hK => ?_
            clear hoo
            refine wpIn_val (v := .int .i64 q) (fun _ _ => trivial) (by go_simp) ?_
            exact hK _ _ ⟨upd g 6 (V 6), by rw [v6.out]; kernel_rfl, HQ.out.pure (i := 6) (by omega)⟩
          · have hoo := hop
            obtain rfl := Option.some.inj hop
            clear HD
            refine op_wanted hoo (by kernel_rfl) fun K hK => ?_
            clear hoo
            refine wpIn_val (v := .int .i64 s') (fun _ _ => trivial) (by go_simp) ?_
            exact hK _ _ ⟨upd g 7 (V 7), by rw [v7.out]; kernel_rfl, HQ.out.pure (i := 7) (by omega)⟩
          · have hoo := hop
            obtain rfl := Option.some.inj hop
            have t6 : d 6 = true := HD.out ⟨6, .data⟩ (by simp) rfl
            have e6 : g 6 = .int .i64 q := (HQ.out.val 6 (by omega) t6).trans v6.out
            have t7 : d 7 = true := HD.out ⟨7, .data⟩ (by simp) rfl
            have e7 : g 7 = .int .i64 s' := (HQ.out.val 7 (by omega) t7).trans v7.out
            clear HD t6 t7
            refine op_wanted hoo (by kernel_rfl) fun K hK => ?_
            clear hoo
            refine wpIn_val (v := .int .i64 (q + s')) (fun _ _ => trivial) (by go_simp; exact wr2.out) ?_
            exact hK _ _ ⟨upd g 8 (V 8), by rw [v8.out]; kernel_rfl, HQ.out.pure (i := 8) (by omega)⟩
          · have hoo := hop
            obtain rfl := Option.some.inj hop
            have t5 : d 5 = true := HD.out ⟨5, .data⟩ (by simp) rfl
            have e5 : g 5 = .int .i64 (p + r) := (HQ.out.val 5 (by omega) t5).trans v5.out
            have t8 : d 8 = true := HD.out ⟨8, .data⟩ (by simp) rfl
            have e8 : g 8 = .int .i64 (q + s') := (HQ.out.val 8 (by omega) t8).trans v8.out
            clear HD t5 t8
            refine op_wanted hoo (by kernel_rfl) fun K hK => ?_
            clear hoo
            refine wpIn_det (v := .agg #[.int .u32 x1a, .int .u32 x1b]) (by go_simp) (det_of X1.out) fun Wn hb => ?_
            exact hK _ _ ⟨upd g 9 (V 9), by rw [v9.out]; kernel_rfl, (HQ.out.walk hb).pure (i := 9) (by omega)⟩
          · have hoo := hop
            obtain rfl := Option.some.inj hop
            have t2 : d 2 = true := HD.out ⟨2, .data⟩ (by simp) rfl
            have e2 : g 2 = .agg #[.int .u32 x0a, .int .u32 x0b] := (HQ.out.val 2 (by omega) t2).trans v2.out
            have t9 : d 9 = true := HD.out ⟨9, .data⟩ (by simp) rfl
            have e9 : g 9 = .agg #[.int .u32 x1a, .int .u32 x1b] := (HQ.out.val 9 (by omega) t9).trans v9.out
            clear HD t2 t9
            refine op_wanted hoo (by kernel_rfl) fun K hK => ?_
            clear hoo
            refine wpIn_det (v := .bool true) (by go_simp) (C2.out) fun Wn hb => ?_
            exact hK _ _ ⟨upd g 10 (V 10), by rw [v10.out]; kernel_rfl, (HQ.out.walk hb).pure (i := 10) (by omega)⟩
          · have hoo := hop
            obtain rfl := Option.some.inj hop
            have t10 : d 10 = true := HD.out ⟨10, .data⟩ (by simp) rfl
            have e10 : g 10 = .bool true := (HQ.out.val 10 (by omega) t10).trans v10.out
            clear HD t10
            refine op_wanted hoo (by kernel_rfl) fun K hK => ?_
            clear hoo
            refine wpIn_val (v := .bool true) (fun _ _ => trivial) (by go_simp) ?_
            exact hK _ _ ⟨upd g 11 (V 11), by rw [v11.out]; kernel_rfl, HQ.out.pure (i := 11) (by omega)⟩
          · have hoo := hop
            obtain rfl := Option.some.inj hop
            have t11 : d 11 = true := HD.out ⟨11, .guard⟩ (by simp) rfl
            have e11 : g 11 = .bool true := (HQ.out.val 11 (by omega) t11).trans v11.out
            obtain ⟨k0, k1⟩ := B2.cells (HQ.out.bu.block _ (blk_lt S1.out.a) |>.trans S1.out.a)
            clear HD t11
            refine op_wanted hoo (by rw [e11]; kernel_rfl) fun K hK => ?_
            clear hoo
            refine wpIn_val (v := .agg #[.int .u32 na0, .int .u32 na1]) (fun _ _ => trivial) (by go_simp) ?_
            exact hK _ _ ⟨upd g 12 (V 12), by rw [v12.out]; kernel_rfl, HQ.out.pure (i := 12) (by omega)⟩
          · have hoo := hop
            obtain rfl := Option.some.inj hop
            have t11 : d 11 = true := HD.out ⟨11, .guard⟩ (by simp) rfl
            have e11 : g 11 = .bool true := (HQ.out.val 11 (by omega) t11).trans v11.out
            obtain ⟨k0, k1⟩ := B2.cells (HQ.out.bu.block _ (blk_lt S1.out.b) |>.trans S1.out.b)
            clear HD t11
            refine op_wanted hoo (by rw [e11]; kernel_rfl) fun K hK => ?_
            clear hoo
            refine wpIn_val (v := .agg #[.int .u32 nb0, .int .u32 nb1]) (fun _ _ => trivial) (by go_simp) ?_
            exact hK _ _ ⟨upd g 13 (V 13), by rw [v13.out]; kernel_rfl, HQ.out.pure (i := 13) (by omega)⟩
          · have hoo := hop
            obtain rfl := Option.some.inj hop
            have t12 : d 12 = true := HD.out ⟨12, .data⟩ (by simp) rfl
            have e12 : g 12 = .agg #[.int .u32 na0, .int .u32 na1] := (HQ.out.val 12 (by omega) t12).trans v12.out
            have t13 : d 13 = true := HD.out ⟨13, .data⟩ (by simp) rfl
            have e13 : g 13 = .agg #[.int .u32 nb0, .int .u32 nb1] := (HQ.out.val 13 (by omega) t13).trans v13.out
            have t11 : d 11 = true := HD.out ⟨11, .guard⟩ (by simp) rfl
            have e11 : g 11 = .bool true := (HQ.out.val 11 (by omega) t11).trans v11.out
            clear HD t12 t13 t11
            refine op_wanted hoo (by rw [e11]; kernel_rfl) fun K hK => ?_
            clear hoo
            refine wpIn_det (v := .agg #[.int .u32 x3a, .int .u32 x3b]) (by go_simp) (det_sub X3.out) fun Wn hb => ?_
            exact hK _ _ ⟨upd g 14 (V 14), by rw [v14.out]; kernel_rfl, (HQ.out.walk hb).pure (i := 14) (by omega)⟩
          · have hoo := hop
            obtain rfl := Option.some.inj hop
            have t11 : d 11 = true := HD.out ⟨11, .guard⟩ (by simp) rfl
            have e11 : g 11 = .bool true := (HQ.out.val 11 (by omega) t11).trans v11.out
            clear HD t11
            refine op_wanted hoo (by rw [e11]; kernel_rfl) fun K hK => ?_
            clear hoo
            refine wpIn_val (v := .int .i64 p) (fun _ _ => trivial) (by go_simp) ?_
            exact hK _ _ ⟨upd g 15 (V 15), by rw [v15.out]; kernel_rfl, HQ.out.pure (i := 15) (by omega)⟩
          · have hoo := hop
            obtain rfl := Option.some.inj hop
            have t11 : d 11 = true := HD.out ⟨11, .guard⟩ (by simp) rfl
            have e11 : g 11 = .bool true := (HQ.out.val 11 (by omega) t11).trans v11.out
            clear HD t11
            refine op_wanted hoo (by rw [e11]; kernel_rfl) fun K hK => ?_
            clear hoo
            refine wpIn_val (v := .int .i64 r) (fun _ _ => trivial) (by go_simp) ?_
            exact hK _ _ ⟨upd g 16 (V 16), by rw [v16.out]; kernel_rfl, HQ.out.pure (i := 16) (by omega)⟩
          · have hoo := hop
            obtain rfl := Option.some.inj hop
            have t15 : d 15 = true := HD.out ⟨15, .data⟩ (by simp) rfl
            have e15 : g 15 = .int .i64 p := (HQ.out.val 15 (by omega) t15).trans v15.out
            have t16 : d 16 = true := HD.out ⟨16, .data⟩ (by simp) rfl
            have e16 : g 16 = .int .i64 r := (HQ.out.val 16 (by omega) t16).trans v16.out
            have t11 : d 11 = true := HD.out ⟨11, .guard⟩ (by simp) rfl
            have e11 : g 11 = .bool true := (HQ.out.val 11 (by omega) t11).trans v11.out
            clear HD t15 t16 t11
            refine op_wanted hoo (by rw [e11]; kernel_rfl) fun K hK => ?_
            clear hoo
            refine wpIn_val (v := .int .i64 (p - r)) (fun _ _ => trivial) (by go_simp; exact wr3.out) ?_
            exact hK _ _ ⟨upd g 17 (V 17), by rw [v17.out]; kernel_rfl, HQ.out.pure (i := 17) (by omega)⟩
          · have hoo := hop
            obtain rfl := Option.some.inj hop
            have t11 : d 11 = true := HD.out ⟨11, .guard⟩ (by simp) rfl
            have e11 : g 11 = .bool true := (HQ.out.val 11 (by omega) t11).trans v11.out
            clear HD t11
            refine op_wanted hoo (by rw [e11]; kernel_rfl) fun K hK => ?_
            clear hoo
            refine wpIn_val (v := .int .i64 q) (fun _ _ => trivial) (by go_simp) ?_
            exact hK _ _ ⟨upd g 18 (V 18), by rw [v18.out]; kernel_rfl, HQ.out.pure (i := 18) (by omega)⟩
          · have hoo := hop
            obtain rfl := Option.some.inj hop
            have t11 : d 11 = true := HD.out ⟨11, .guard⟩ (by simp) rfl
            have e11 : g 11 = .bool true := (HQ.out.val 11 (by omega) t11).trans v11.out
            clear HD t11
            refine op_wanted hoo (by rw [e11]; kernel_rfl) fun K hK => ?_
            clear hoo
            refine wpIn_val (v := .int .i64 s') (fun _ _ => trivial) (by go_simp) ?_
            exact hK _ _ ⟨upd g 19 (V 19), by rw [v19.out]; kernel_rfl, HQ.out.pure (i := 19) (by omega)⟩
          · have hoo := hop
            obtain rfl := Option.some.inj hop
            have t18 : d 18 = true := HD.out ⟨18, .data⟩ (by simp) rfl
            have e18 : g 18 = .int .i64 q := (HQ.out.val 18 (by omega) t18).trans v18.out
            have t19 : d 19 = true := HD.out ⟨19, .data⟩ (by simp) rfl
            have e19 : g 19 = .int .i64 s' := (HQ.out.val 19 (by omega) t19).trans v19.out
            have t11 : d 11 = true := HD.out ⟨11, .guard⟩ (by simp) rfl
            have e11 : g 11 = .bool true := (HQ.out.val 11 (by omega) t11).trans v11.out
            clear HD t18 t19 t11
            refine op_wanted hoo (by rw [e11]; kernel_rfl) fun K hK => ?_
            clear hoo
            refine wpIn_val (v := .int .i64 (q - s')) (fun _ _ => trivial) (by go_simp; exact wr4.out) ?_
            exact hK _ _ ⟨upd g 20 (V 20), by rw [v20.out]; kernel_rfl, HQ.out.pure (i := 20) (by omega)⟩
          · have hoo := hop
            obtain rfl := Option.some.inj hop
            have t17 : d 17 = true := HD.out ⟨17, .data⟩ (by simp) rfl
            have e17 : g 17 = .int .i64 (p - r) := (HQ.out.val 17 (by omega) t17).trans v17.out
            have t20 : d 20 = true := HD.out ⟨20, .data⟩ (by simp) rfl
            have e20 : g 20 = .int .i64 (q - s') := (HQ.out.val 20 (by omega) t20).trans v20.out
            have t11 : d 11 = true := HD.out ⟨11, .guard⟩ (by simp) rfl
            have e11 : g 11 = .bool true := (HQ.out.val 11 (by omega) t11).trans v11.out
            clear HD t17 t20 t11
            refine op_wanted hoo (by rw [e11]; kernel_rfl) fun K hK => ?_
            clear hoo
            refine wpIn_det (v := .agg #[.int .u32 x4a, .int .u32 x4b]) (by go_simp) (det_of X4.out) fun Wn hb => ?_
            exact hK _ _ ⟨upd g 21 (V 21), by rw [v21.out]; kernel_rfl, (HQ.out.walk hb).pure (i := 21) (by omega)⟩
          · have hoo := hop
            obtain rfl := Option.some.inj hop
            have t14 : d 14 = true := HD.out ⟨14, .data⟩ (by simp) rfl
            have e14 : g 14 = .agg #[.int .u32 x3a, .int .u32 x3b] := (HQ.out.val 14 (by omega) t14).trans v14.out
            have t21 : d 21 = true := HD.out ⟨21, .data⟩ (by simp) rfl
            have e21 : g 21 = .agg #[.int .u32 x4a, .int .u32 x4b] := (HQ.out.val 21 (by omega) t21).trans v21.out
            have t11 : d 11 = true := HD.out ⟨11, .guard⟩ (by simp) rfl
            have e11 : g 11 = .bool true := (HQ.out.val 11 (by omega) t11).trans v11.out
            clear HD t14 t21 t11
            refine op_wanted hoo (by rw [e11]; kernel_rfl) fun K hK => ?_
            clear hoo
            refine wpIn_det (v := .bool true) (by go_simp) (C5.out) fun Wn hb => ?_
            exact hK _ _ ⟨upd g 22 (V 22), by rw [v22.out]; kernel_rfl, (HQ.out.walk hb).pure (i := 22) (by omega)⟩
          · have hoo := hop
            obtain rfl := Option.some.inj hop
            have t11 : d 11 = true := HD.out ⟨11, .data⟩ (by simp) rfl
            have e11 : g 11 = .bool true := (HQ.out.val 11 (by omega) t11).trans v11.out
            have t22 : d 22 = true := HD.out ⟨22, .data⟩ (by simp) rfl
            have e22 : g 22 = .bool true := (HQ.out.val 22 (by omega) t22).trans v22.out
            clear HD t11 t22
            refine op_wanted hoo (by kernel_rfl) fun K hK => ?_
            clear hoo
            refine wpIn_val (v := .bool true) (fun _ _ => trivial) (by go_simp) ?_
            exact hK _ _ ⟨upd g 23 (V 23), by rw [v23.out]; kernel_rfl, HQ.out.pure (i := 23) (by omega)⟩
          · have hoo := hop
            obtain rfl := Option.some.inj hop
            have t23 : d 23 = true := HD.out ⟨23, .data⟩ (by simp) rfl
            have e23 : g 23 = .bool true := (HQ.out.val 23 (by omega) t23).trans v23.out
            clear HD t23
            refine op_wanted hoo (by kernel_rfl) fun K hK => ?_
            clear hoo
            refine wpIn_val (v := .bool true) (fun _ _ => trivial) (by go_simp) ?_
            exact hK _ _ ⟨upd g 24 (V 24), by rw [v24.out]; kernel_rfl, HQ.out.pure (i := 24) (by omega)⟩
          · have hoo := hop
            obtain rfl := Option.some.inj hop
            have t24 : d 24 = true := HD.out ⟨24, .guard⟩ (by simp) rfl
            have e24 : g 24 = .bool true := (HQ.out.val 24 (by omega) t24).trans v24.out
            obtain ⟨k0, k1⟩ := B2.cells (HQ.out.bu.block _ (blk_lt S1.out.a) |>.trans S1.out.a)
            clear HD t24
            refine op_wanted hoo (by rw [e24]; kernel_rfl) fun K hK => ?_
            clear hoo
            refine wpIn_val (v := .agg #[.int .u32 na0, .int .u32 na1]) (fun _ _ => trivial) (by go_simp) ?_
            exact hK _ _ ⟨upd g 25 (V 25), by rw [v25.out]; kernel_rfl, HQ.out.pure (i := 25) (by omega)⟩
          · have hoo := hop
            obtain rfl := Option.some.inj hop
            have t24 : d 24 = true := HD.out ⟨24, .guard⟩ (by simp) rfl
            have e24 : g 24 = .bool true := (HQ.out.val 24 (by omega) t24).trans v24.out
            obtain ⟨k0, k1⟩ := B2.cells (HQ.out.bu.block _ (blk_lt S1.out.b) |>.trans S1.out.b)
            clear HD t24
            refine op_wanted hoo (by rw [e24]; kernel_rfl) fun K hK => ?_
            clear hoo
            refine wpIn_val (v := .agg #[.int .u32 nb0, .int .u32 nb1]) (fun _ _ => trivial) (by go_simp) ?_
            exact hK _ _ ⟨upd g 26 (V 26), by rw [v26.out]; kernel_rfl, HQ.out.pure (i := 26) (by omega)⟩
          · have hoo := hop
            obtain rfl := Option.some.inj hop
            have t25 : d 25 = true := HD.out ⟨25, .data⟩ (by simp) rfl
            have e25 : g 25 = .agg #[.int .u32 na0, .int .u32 na1] := (HQ.out.val 25 (by omega) t25).trans v25.out
            have t26 : d 26 = true := HD.out ⟨26, .data⟩ (by simp) rfl
            have e26 : g 26 = .agg #[.int .u32 nb0, .int .u32 nb1] := (HQ.out.val 26 (by omega) t26).trans v26.out
            have t24 : d 24 = true := HD.out ⟨24, .guard⟩ (by simp) rfl
            have e24 : g 24 = .bool true := (HQ.out.val 24 (by omega) t24).trans v24.out
            clear HD t25 t26 t24
            refine op_wanted hoo (by rw [e24]; kernel_rfl) fun K hK => ?_
            clear hoo
            refine wpIn_det (v := .agg #[.int .u32 x6a, .int .u32 x6b]) (by go_simp) (det_mul X6.out) fun Wn hb => ?_
            exact hK _ _ ⟨upd g 27 (V 27), by rw [v27.out]; kernel_rfl, (HQ.out.walk hb).pure (i := 27) (by omega)⟩
          · have hoo := hop
            obtain rfl := Option.some.inj hop
            have t24 : d 24 = true := HD.out ⟨24, .guard⟩ (by simp) rfl
            have e24 : g 24 = .bool true := (HQ.out.val 24 (by omega) t24).trans v24.out
            clear HD t24
            refine op_wanted hoo (by rw [e24]; kernel_rfl) fun K hK => ?_
            clear hoo
            refine wpIn_val (v := .int .i64 p) (fun _ _ => trivial) (by go_simp) ?_
            exact hK _ _ ⟨upd g 28 (V 28), by rw [v28.out]; kernel_rfl, HQ.out.pure (i := 28) (by omega)⟩
          · have hoo := hop
            obtain rfl := Option.some.inj hop
            have t24 : d 24 = true := HD.out ⟨24, .guard⟩ (by simp) rfl
            have e24 : g 24 = .bool true := (HQ.out.val 24 (by omega) t24).trans v24.out
            clear HD t24
            refine op_wanted hoo (by rw [e24]; kernel_rfl) fun K hK => ?_
            clear hoo
            refine wpIn_val (v := .int .i64 r) (fun _ _ => trivial) (by go_simp) ?_
            exact hK _ _ ⟨upd g 29 (V 29), by rw [v29.out]; kernel_rfl, HQ.out.pure (i := 29) (by omega)⟩
          · have hoo := hop
            obtain rfl := Option.some.inj hop
            have t28 : d 28 = true := HD.out ⟨28, .data⟩ (by simp) rfl
            have e28 : g 28 = .int .i64 p := (HQ.out.val 28 (by omega) t28).trans v28.out
            have t29 : d 29 = true := HD.out ⟨29, .data⟩ (by simp) rfl
            have e29 : g 29 = .int .i64 r := (HQ.out.val 29 (by omega) t29).trans v29.out
            have t24 : d 24 = true := HD.out ⟨24, .guard⟩ (by simp) rfl
            have e24 : g 24 = .bool true := (HQ.out.val 24 (by omega) t24).trans v24.out
            clear HD t28 t29 t24
            refine op_wanted hoo (by rw [e24]; kernel_rfl) fun K hK => ?_
            clear hoo
            refine wpIn_val (v := .int .i64 (p * r)) (fun _ _ => trivial) (by go_simp; exact wr5.out) ?_
            exact hK _ _ ⟨upd g 30 (V 30), by rw [v30.out]; kernel_rfl, HQ.out.pure (i := 30) (by omega)⟩
          · have hoo := hop
            obtain rfl := Option.some.inj hop
            have t24 : d 24 = true := HD.out ⟨24, .guard⟩ (by simp) rfl
            have e24 : g 24 = .bool true := (HQ.out.val 24 (by omega) t24).trans v24.out
            clear HD t24
            refine op_wanted hoo (by rw [e24]; kernel_rfl) fun K hK => ?_
            clear hoo
            refine wpIn_val (v := .int .i64 q) (fun _ _ => trivial) (by go_simp) ?_
            exact hK _ _ ⟨upd g 31 (V 31), by rw [v31.out]; kernel_rfl, HQ.out.pure (i := 31) (by omega)⟩
          · have hoo := hop
            obtain rfl := Option.some.inj hop
            have t24 : d 24 = true := HD.out ⟨24, .guard⟩ (by simp) rfl
            have e24 : g 24 = .bool true := (HQ.out.val 24 (by omega) t24).trans v24.out
            clear HD t24
            refine op_wanted hoo (by rw [e24]; kernel_rfl) fun K hK => ?_
            clear hoo
            refine wpIn_val (v := .int .i64 s') (fun _ _ => trivial) (by go_simp) ?_
            exact hK _ _ ⟨upd g 32 (V 32), by rw [v32.out]; kernel_rfl, HQ.out.pure (i := 32) (by omega)⟩
          · have hoo := hop
            obtain rfl := Option.some.inj hop
            have t31 : d 31 = true := HD.out ⟨31, .data⟩ (by simp) rfl
            have e31 : g 31 = .int .i64 q := (HQ.out.val 31 (by omega) t31).trans v31.out
            have t32 : d 32 = true := HD.out ⟨32, .data⟩ (by simp) rfl
            have e32 : g 32 = .int .i64 s' := (HQ.out.val 32 (by omega) t32).trans v32.out
            have t24 : d 24 = true := HD.out ⟨24, .guard⟩ (by simp) rfl
            have e24 : g 24 = .bool true := (HQ.out.val 24 (by omega) t24).trans v24.out
            clear HD t31 t32 t24
            refine op_wanted hoo (by rw [e24]; kernel_rfl) fun K hK => ?_
            clear hoo
            refine wpIn_val (v := .int .i64 (q * s')) (fun _ _ => trivial) (by go_simp; exact wr6.out) ?_
            exact hK _ _ ⟨upd g 33 (V 33), by rw [v33.out]; kernel_rfl, HQ.out.pure (i := 33) (by omega)⟩
          · have hoo := hop
            obtain rfl := Option.some.inj hop
            have t30 : d 30 = true := HD.out ⟨30, .data⟩ (by simp) rfl
            have e30 : g 30 = .int .i64 (p * r) := (HQ.out.val 30 (by omega) t30).trans v30.out
            have t33 : d 33 = true := HD.out ⟨33, .data⟩ (by simp) rfl
            have e33 : g 33 = .int .i64 (q * s') := (HQ.out.val 33 (by omega) t33).trans v33.out
            have t24 : d 24 = true := HD.out ⟨24, .guard⟩ (by simp) rfl
            have e24 : g 24 = .bool true := (HQ.out.val 24 (by omega) t24).trans v24.out
            clear HD t30 t33 t24
            refine op_wanted hoo (by rw [e24]; kernel_rfl) fun K hK => ?_
            clear hoo
            refine wpIn_val (v := .int .i64 ((p * r) - (q * s'))) (fun _ _ => trivial) (by go_simp; exact wr9.out) ?_
            exact hK _ _ ⟨upd g 34 (V 34), by rw [v34.out]; kernel_rfl, HQ.out.pure (i := 34) (by omega)⟩
          · have hoo := hop
            obtain rfl := Option.some.inj hop
            have t24 : d 24 = true := HD.out ⟨24, .guard⟩ (by simp) rfl
            have e24 : g 24 = .bool true := (HQ.out.val 24 (by omega) t24).trans v24.out
            clear HD t24
            refine op_wanted hoo (by rw [e24]; kernel_rfl) fun K hK => ?_
            clear hoo
            refine wpIn_val (v := .int .i64 p) (fun _ _ => trivial) (by go_simp) ?_
            exact hK _ _ ⟨upd g 35 (V 35), by rw [v35.out]; kernel_rfl, HQ.out.pure (i := 35) (by omega)⟩
          · have hoo := hop
            obtain rfl := Option.some.inj hop
            have t24 : d 24 = true := HD.out ⟨24, .guard⟩ (by simp) rfl
            have e24 : g 24 = .bool true := (HQ.out.val 24 (by omega) t24).trans v24.out
            clear HD t24
            refine op_wanted hoo (by rw [e24]; kernel_rfl) fun K hK => ?_
            clear hoo
            refine wpIn_val (v := .int .i64 s') (fun _ _ => trivial) (by go_simp) ?_
            exact hK _ _ ⟨upd g 36 (V 36), by rw [v36.out]; kernel_rfl, HQ.out.pure (i := 36) (by omega)⟩
          · have hoo := hop
            obtain rfl := Option.some.inj hop
            have t35 : d 35 = true := HD.out ⟨35, .data⟩ (by simp) rfl
            have e35 : g 35 = .int .i64 p := (HQ.out.val 35 (by omega) t35).trans v35.out
            have t36 : d 36 = true := HD.out ⟨36, .data⟩ (by simp) rfl
            have e36 : g 36 = .int .i64 s' := (HQ.out.val 36 (by omega) t36).trans v36.out
            have t24 : d 24 = true := HD.out ⟨24, .guard⟩ (by simp) rfl
            have e24 : g 24 = .bool true := (HQ.out.val 24 (by omega) t24).trans v24.out
            clear HD t35 t36 t24
            refine op_wanted hoo (by rw [e24]; kernel_rfl) fun K hK => ?_
            clear hoo
            refine wpIn_val (v := .int .i64 (p * s')) (fun _ _ => trivial) (by go_simp; exact wr7.out) ?_
            exact hK _ _ ⟨upd g 37 (V 37), by rw [v37.out]; kernel_rfl, HQ.out.pure (i := 37) (by omega)⟩
          · have hoo := hop
            obtain rfl := Option.some.inj hop
            have t24 : d 24 = true := HD.out ⟨24, .guard⟩ (by simp) rfl
            have e24 : g 24 = .bool true := (HQ.out.val 24 (by omega) t24).trans v24.out
            clear HD t24
            refine op_wanted hoo (by rw [e24]; kernel_rfl) fun K hK => ?_
            clear hoo
            refine wpIn_val (v := .int .i64 q) (fun _ _ => trivial) (by go_simp) ?_
            exact hK _ _ ⟨upd g 38 (V 38), by rw [v38.out]; kernel_rfl, HQ.out.pure (i := 38) (by omega)⟩
          · have hoo := hop
            obtain rfl := Option.some.inj hop
            have t24 : d 24 = true := HD.out ⟨24, .guard⟩ (by simp) rfl
            have e24 : g 24 = .bool true := (HQ.out.val 24 (by omega) t24).trans v24.out
            clear HD t24
            refine op_wanted hoo (by rw [e24]; kernel_rfl) fun K hK => ?_
            clear hoo
            refine wpIn_val (v := .int .i64 r) (fun _ _ => trivial) (by go_simp) ?_
            exact hK _ _ ⟨upd g 39 (V 39), by rw [v39.out]; kernel_rfl, HQ.out.pure (i := 39) (by omega)⟩
          · have hoo := hop
            obtain rfl := Option.some.inj hop
            have t38 : d 38 = true := HD.out ⟨38, .data⟩ (by simp) rfl
            have e38 : g 38 = .int .i64 q := (HQ.out.val 38 (by omega) t38).trans v38.out
            have t39 : d 39 = true := HD.out ⟨39, .data⟩ (by simp) rfl
            have e39 : g 39 = .int .i64 r := (HQ.out.val 39 (by omega) t39).trans v39.out
            have t24 : d 24 = true := HD.out ⟨24, .guard⟩ (by simp) rfl
            have e24 : g 24 = .bool true := (HQ.out.val 24 (by omega) t24).trans v24.out
            clear HD t38 t39 t24
            refine op_wanted hoo (by rw [e24]; kernel_rfl) fun K hK => ?_
            clear hoo
            refine wpIn_val (v := .int .i64 (q * r)) (fun _ _ => trivial) (by go_simp; exact wr8.out) ?_
            exact hK _ _ ⟨upd g 40 (V 40), by rw [v40.out]; kernel_rfl, HQ.out.pure (i := 40) (by omega)⟩
          · have hoo := hop
            obtain rfl := Option.some.inj hop
            have t37 : d 37 = true := HD.out ⟨37, .data⟩ (by simp) rfl
            have e37 : g 37 = .int .i64 (p * s') := (HQ.out.val 37 (by omega) t37).trans v37.out
            have t40 : d 40 = true := HD.out ⟨40, .data⟩ (by simp) rfl
            have e40 : g 40 = .int .i64 (q * r) := (HQ.out.val 40 (by omega) t40).trans v40.out
            have t24 : d 24 = true := HD.out ⟨24, .guard⟩ (by simp) rfl
            have e24 : g 24 = .bool true := (HQ.out.val 24 (by omega) t24).trans v24.out
            clear HD t37 t40 t24
            refine op_wanted hoo (by rw [e24]; kernel_rfl) fun K hK => ?_
            clear hoo
            refine wpIn_val (v := .int .i64 ((p * s') + (q * r))) (fun _ _ => trivial) (by go_simp; exact wr10.out) ?_
            exact hK _ _ ⟨upd g 41 (V 41), by rw [v41.out]; kernel_rfl, HQ.out.pure (i := 41) (by omega)⟩
          · have hoo := hop
            obtain rfl := Option.some.inj hop
            have t34 : d 34 = true := HD.out ⟨34, .data⟩ (by simp) rfl
            have e34 : g 34 = .int .i64 ((p * r) - (q * s')) := (HQ.out.val 34 (by omega) t34).trans v34.out
            have t41 : d 41 = true := HD.out ⟨41, .data⟩ (by simp) rfl
            have e41 : g 41 = .int .i64 ((p * s') + (q * r)) := (HQ.out.val 41 (by omega) t41).trans v41.out
            have t24 : d 24 = true := HD.out ⟨24, .guard⟩ (by simp) rfl
            have e24 : g 24 = .bool true := (HQ.out.val 24 (by omega) t24).trans v24.out
            clear HD t34 t41 t24
            refine op_wanted hoo (by rw [e24]; kernel_rfl) fun K hK => ?_
            clear hoo
            refine wpIn_det (v := .agg #[.int .u32 x7a, .int .u32 x7b]) (by go_simp) (det_of X7.out) fun Wn hb => ?_
            exact hK _ _ ⟨upd g 42 (V 42), by rw [v42.out]; kernel_rfl, (HQ.out.walk hb).pure (i := 42) (by omega)⟩
          · have hoo := hop
            obtain rfl := Option.some.inj hop
            have t27 : d 27 = true := HD.out ⟨27, .data⟩ (by simp) rfl
            have e27 : g 27 = .agg #[.int .u32 x6a, .int .u32 x6b] := (HQ.out.val 27 (by omega) t27).trans v27.out
            have t42 : d 42 = true := HD.out ⟨42, .data⟩ (by simp) rfl
            have e42 : g 42 = .agg #[.int .u32 x7a, .int .u32 x7b] := (HQ.out.val 42 (by omega) t42).trans v42.out
            have t24 : d 24 = true := HD.out ⟨24, .guard⟩ (by simp) rfl
            have e24 : g 24 = .bool true := (HQ.out.val 24 (by omega) t24).trans v24.out
            clear HD t27 t42 t24
            refine op_wanted hoo (by rw [e24]; kernel_rfl) fun K hK => ?_
            clear hoo
            refine wpIn_det (v := .bool true) (by go_simp) (C8.out) fun Wn hb => ?_
            exact hK _ _ ⟨upd g 43 (V 43), by rw [v43.out]; kernel_rfl, (HQ.out.walk hb).pure (i := 43) (by omega)⟩
          · have hoo := hop
            obtain rfl := Option.some.inj hop
            have t24 : d 24 = true := HD.out ⟨24, .data⟩ (by simp) rfl
            have e24 : g 24 = .bool true := (HQ.out.val 24 (by omega) t24).trans v24.out
            have t43 : d 43 = true := HD.out ⟨43, .data⟩ (by simp) rfl
            have e43 : g 43 = .bool true := (HQ.out.val 43 (by omega) t43).trans v43.out
            clear HD t24 t43
            refine op_wanted hoo (by kernel_rfl) fun K hK => ?_
            clear hoo
            refine wpIn_val (v := .bool true) (fun _ _ => trivial) (by go_simp) ?_
            exact hK _ _ ⟨upd g 44 (V 44), by rw [v44.out]; kernel_rfl, HQ.out.pure (i := 44) (by omega)⟩
          · have hoo := hop
            obtain rfl := Option.some.inj hop
            have t44 : d 44 = true := HD.out ⟨44, .data⟩ (by simp) rfl
            have e44 : g 44 = .bool true := (HQ.out.val 44 (by omega) t44).trans v44.out
            clear HD t44
            refine op_wanted hoo (by kernel_rfl) fun K hK => ?_
            clear hoo
            refine wpIn_val (v := .bool true) (fun _ _ => trivial) (by go_simp) ?_
            exact hK _ _ ⟨upd g 45 (V 45), by rw [v45.out]; kernel_rfl, HQ.out.pure (i := 45) (by omega)⟩
          · have hoo := hop
            obtain rfl := Option.some.inj hop
            have t45 : d 45 = true := HD.out ⟨45, .guard⟩ (by simp) rfl
            have e45 : g 45 = .bool true := (HQ.out.val 45 (by omega) t45).trans v45.out
            obtain ⟨k0, k1⟩ := B2.cells (HQ.out.bu.block _ (blk_lt S1.out.a) |>.trans S1.out.a)
            clear HD t45
            refine op_wanted hoo (by rw [e45]; kernel_rfl) fun K hK => ?_
            clear hoo
            refine wpIn_val (v := .agg #[.int .u32 na0, .int .u32 na1]) (fun _ _ => trivial) (by go_simp) ?_
            exact hK _ _ ⟨upd g 46 (V 46), by rw [v46.out]; kernel_rfl, HQ.out.pure (i := 46) (by omega)⟩
          · have hoo := hop
            obtain rfl := Option.some.inj hop
            have t45 : d 45 = true := HD.out ⟨45, .guard⟩ (by simp) rfl
            have e45 : g 45 = .bool true := (HQ.out.val 45 (by omega) t45).trans v45.out
            obtain ⟨k0, k1⟩ := B2.cells (HQ.out.bu.block _ (blk_lt S1.out.b) |>.trans S1.out.b)
            clear HD t45
            refine op_wanted hoo (by rw [e45]; kernel_rfl) fun K hK => ?_
            clear hoo
            refine wpIn_val (v := .agg #[.int .u32 nb0, .int .u32 nb1]) (fun _ _ => trivial) (by go_simp) ?_
            exact hK _ _ ⟨upd g 47 (V 47), by rw [v47.out]; kernel_rfl, HQ.out.pure (i := 47) (by omega)⟩
          · have hoo := hop
            obtain rfl := Option.some.inj hop
            have t46 : d 46 = true := HD.out ⟨46, .data⟩ (by simp) rfl
            have e46 : g 46 = .agg #[.int .u32 na0, .int .u32 na1] := (HQ.out.val 46 (by omega) t46).trans v46.out
            have t47 : d 47 = true := HD.out ⟨47, .data⟩ (by simp) rfl
            have e47 : g 47 = .agg #[.int .u32 nb0, .int .u32 nb1] := (HQ.out.val 47 (by omega) t47).trans v47.out
            have t45 : d 45 = true := HD.out ⟨45, .guard⟩ (by simp) rfl
            have e45 : g 45 = .bool true := (HQ.out.val 45 (by omega) t45).trans v45.out
            clear HD t46 t47 t45
            refine op_wanted hoo (by rw [e45]; kernel_rfl) fun K hK => ?_
            clear hoo
            refine wpIn_det (v := .agg #[.int .u32 x9a, .int .u32 x9b]) (by go_simp) (det_add X9.out) fun Wn hb => ?_
            exact hK _ _ ⟨upd g 48 (V 48), by rw [v48.out]; kernel_rfl, (HQ.out.walk hb).pure (i := 48) (by omega)⟩
          · have hoo := hop
            obtain rfl := Option.some.inj hop
            have t45 : d 45 = true := HD.out ⟨45, .guard⟩ (by simp) rfl
            have e45 : g 45 = .bool true := (HQ.out.val 45 (by omega) t45).trans v45.out
            obtain ⟨k0, k1⟩ := B2.cells (HQ.out.bu.block _ (blk_lt S1.out.c) |>.trans S1.out.c)
            clear HD t45
            refine op_wanted hoo (by rw [e45]; kernel_rfl) fun K hK => ?_
            clear hoo
            refine wpIn_val (v := .agg #[.int .u32 nc0, .int .u32 nc1]) (fun _ _ => trivial) (by go_simp) ?_
            exact hK _ _ ⟨upd g 49 (V 49), by rw [v49.out]; kernel_rfl, HQ.out.pure (i := 49) (by omega)⟩
          · have hoo := hop
            obtain rfl := Option.some.inj hop
            have t48 : d 48 = true := HD.out ⟨48, .data⟩ (by simp) rfl
            have e48 : g 48 = .agg #[.int .u32 x9a, .int .u32 x9b] := (HQ.out.val 48 (by omega) t48).trans v48.out
            have t49 : d 49 = true := HD.out ⟨49, .data⟩ (by simp) rfl
            have e49 : g 49 = .agg #[.int .u32 nc0, .int .u32 nc1] := (HQ.out.val 49 (by omega) t49).trans v49.out
            have t45 : d 45 = true := HD.out ⟨45, .guard⟩ (by simp) rfl
            have e45 : g 45 = .bool true := (HQ.out.val 45 (by omega) t45).trans v45.out
            clear HD t48 t49 t45
            refine op_wanted hoo (by rw [e45]; kernel_rfl) fun K hK => ?_
            clear hoo
            refine wpIn_det (v := .agg #[.int .u32 x10a, .int .u32 x10b]) (by go_simp) (det_add X10.out) fun Wn hb => ?_
            exact hK _ _ ⟨upd g 50 (V 50), by rw [v50.out]; kernel_rfl, (HQ.out.walk hb).pure (i := 50) (by omega)⟩
          · have hoo := hop
            obtain rfl := Option.some.inj hop
            have t45 : d 45 = true := HD.out ⟨45, .guard⟩ (by simp) rfl
            have e45 : g 45 = .bool true := (HQ.out.val 45 (by omega) t45).trans v45.out
            obtain ⟨k0, k1⟩ := B2.cells (HQ.out.bu.block _ (blk_lt S1.out.a) |>.trans S1.out.a)
            clear HD t45
            refine op_wanted hoo (by rw [e45]; kernel_rfl) fun K hK => ?_
            clear hoo
            refine wpIn_val (v := .agg #[.int .u32 na0, .int .u32 na1]) (fun _ _ => trivial) (by go_simp) ?_
            exact hK _ _ ⟨upd g 51 (V 51), by rw [v51.out]; kernel_rfl, HQ.out.pure (i := 51) (by omega)⟩
          · have hoo := hop
            obtain rfl := Option.some.inj hop
            have t45 : d 45 = true := HD.out ⟨45, .guard⟩ (by simp) rfl
            have e45 : g 45 = .bool true := (HQ.out.val 45 (by omega) t45).trans v45.out
            obtain ⟨k0, k1⟩ := B2.cells (HQ.out.bu.block _ (blk_lt S1.out.b) |>.trans S1.out.b)
            clear HD t45
            refine op_wanted hoo (by rw [e45]; kernel_rfl) fun K hK => ?_
            clear hoo
            refine wpIn_val (v := .agg #[.int .u32 nb0, .int .u32 nb1]) (fun _ _ => trivial) (by go_simp) ?_
            exact hK _ _ ⟨upd g 52 (V 52), by rw [v52.out]; kernel_rfl, HQ.out.pure (i := 52) (by omega)⟩
          · have hoo := hop
            obtain rfl := Option.some.inj hop
            have t45 : d 45 = true := HD.out ⟨45, .guard⟩ (by simp) rfl
            have e45 : g 45 = .bool true := (HQ.out.val 45 (by omega) t45).trans v45.out
            obtain ⟨k0, k1⟩ := B2.cells (HQ.out.bu.block _ (blk_lt S1.out.c) |>.trans S1.out.c)
            clear HD t45
            refine op_wanted hoo (by rw [e45]; kernel_rfl) fun K hK => ?_
            clear hoo
            refine wpIn_val (v := .agg #[.int .u32 nc0, .int .u32 nc1]) (fun _ _ => trivial) (by go_simp) ?_
            exact hK _ _ ⟨upd g 53 (V 53), by rw [v53.out]; kernel_rfl, HQ.out.pure (i := 53) (by omega)⟩
          · have hoo := hop
            obtain rfl := Option.some.inj hop
            have t52 : d 52 = true := HD.out ⟨52, .data⟩ (by simp) rfl
            have e52 : g 52 = .agg #[.int .u32 nb0, .int .u32 nb1] := (HQ.out.val 52 (by omega) t52).trans v52.out
            have t53 : d 53 = true := HD.out ⟨53, .data⟩ (by simp) rfl
            have e53 : g 53 = .agg #[.int .u32 nc0, .int .u32 nc1] := (HQ.out.val 53 (by omega) t53).trans v53.out
            have t45 : d 45 = true := HD.out ⟨45, .guard⟩ (by simp) rfl
            have e45 : g 45 = .bool true := (HQ.out.val 45 (by omega) t45).trans v45.out
            clear HD t52 t53 t45
            refine op_wanted hoo (by rw [e45]; kernel_rfl) fun K hK => ?_
            clear hoo
            refine wpIn_det (v := .agg #[.int .u32 x11a, .int .u32 x11b]) (by go_simp) (det_add X11.out) fun Wn hb => ?_
            exact hK _ _ ⟨upd g 54 (V 54), by rw [v54.out]; kernel_rfl, (HQ.out.walk hb).pure (i := 54) (by omega)⟩
          · have hoo := hop
            obtain rfl := Option.some.inj hop
            have t51 : d 51 = true := HD.out ⟨51, .data⟩ (by simp) rfl
            have e51 : g 51 = .agg #[.int .u32 na0, .int .u32 na1] := (HQ.out.val 51 (by omega) t51).trans v51.out
            have t54 : d 54 = true := HD.out ⟨54, .data⟩ (by simp) rfl
            have e54 : g 54 = .agg #[.int .u32 x11a, .int .u32 x11b] := (HQ.out.val 54 (by omega) t54).trans v54.out
            have t45 : d 45 = true := HD.out ⟨45, .guard⟩ (by simp) rfl
            have e45 : g 45 = .bool true := (HQ.out.val 45 (by omega) t45).trans v45.out
            clear HD t51 t54 t45
            refine op_wanted hoo (by rw [e45]; kernel_rfl) fun K hK => ?_
            clear hoo
            refine wpIn_det (v := .agg #[.int .u32 x12a, .int .u32 x12b]) (by go_simp) (det_add X12.out) fun Wn hb => ?_
            exact hK _ _ ⟨upd g 55 (V 55), by rw [v55.out]; kernel_rfl, (HQ.out.walk hb).pure (i := 55) (by omega)⟩
          · have hoo := hop
            obtain rfl := Option.some.inj hop
            have t50 : d 50 = true := HD.out ⟨50, .data⟩ (by simp) rfl
            have e50 : g 50 = .agg #[.int .u32 x10a, .int .u32 x10b] := (HQ.out.val 50 (by omega) t50).trans v50.out
            have t55 : d 55 = true := HD.out ⟨55, .data⟩ (by simp) rfl
            have e55 : g 55 = .agg #[.int .u32 x12a, .int .u32 x12b] := (HQ.out.val 55 (by omega) t55).trans v55.out
            have t45 : d 45 = true := HD.out ⟨45, .guard⟩ (by simp) rfl
            have e45 : g 45 = .bool true := (HQ.out.val 45 (by omega) t45).trans v45.out
            clear HD t50 t55 t45
            refine op_wanted hoo (by rw [e45]; kernel_rfl) fun K hK => ?_
            clear hoo
            refine wpIn_det (v := .bool true) (by go_simp) (C13.out) fun Wn hb => ?_
            exact hK _ _ ⟨upd g 56 (V 56), by rw [v56.out]; kernel_rfl, (HQ.out.walk hb).pure (i := 56) (by omega)⟩
          · have hoo := hop
            obtain rfl := Option.some.inj hop
            have t45 : d 45 = true := HD.out ⟨45, .data⟩ (by simp) rfl
            have e45 : g 45 = .bool true := (HQ.out.val 45 (by omega) t45).trans v45.out
            have t56 : d 56 = true := HD.out ⟨56, .data⟩ (by simp) rfl
            have e56 : g 56 = .bool true := (HQ.out.val 56 (by omega) t56).trans v56.out
            clear HD t45 t56
            refine op_wanted hoo (by kernel_rfl) fun K hK => ?_
            clear hoo
            refine wpIn_val (v := .bool true) (fun _ _ => trivial) (by go_simp) ?_
            exact hK _ _ ⟨upd g 57 (V 57), by rw [v57.out]; kernel_rfl, HQ.out.pure (i := 57) (by omega)⟩
          · have hoo := hop
            obtain rfl := Option.some.inj hop
            have t57 : d 57 = true := HD.out ⟨57, .data⟩ (by simp) rfl
            have e57 : g 57 = .bool true := (HQ.out.val 57 (by omega) t57).trans v57.out
            clear HD t57
            refine op_wanted hoo (by kernel_rfl) fun K hK => ?_
            clear hoo
            refine wpIn_val (v := .bool true) (fun _ _ => trivial) (by go_simp) ?_
            exact hK _ _ ⟨upd g 58 (V 58), by rw [v58.out]; kernel_rfl, HQ.out.pure (i := 58) (by omega)⟩
          · have hoo := hop
            obtain rfl := Option.some.inj hop
            have t58 : d 58 = true := HD.out ⟨58, .guard⟩ (by simp) rfl
            have e58 : g 58 = .bool true := (HQ.out.val 58 (by omega) t58).trans v58.out
            obtain ⟨k0, k1⟩ := B2.cells (HQ.out.bu.block _ (blk_lt S1.out.a) |>.trans S1.out.a)
            clear HD t58
            refine op_wanted hoo (by rw [e58]; kernel_rfl) fun K hK => ?_
            clear hoo
            refine wpIn_val (v := .agg #[.int .u32 na0, .int .u32 na1]) (fun _ _ => trivial) (by go_simp) ?_
            exact hK _ _ ⟨upd g 59 (V 59), by rw [v59.out]; kernel_rfl, HQ.out.pure (i := 59) (by omega)⟩
          · have hoo := hop
            obtain rfl := Option.some.inj hop
            have t58 : d 58 = true := HD.out ⟨58, .guard⟩ (by simp) rfl
            have e58 : g 58 = .bool true := (HQ.out.val 58 (by omega) t58).trans v58.out
            obtain ⟨k0, k1⟩ := B2.cells (HQ.out.bu.block _ (blk_lt S1.out.b) |>.trans S1.out.b)
            clear HD t58
            refine op_wanted hoo (by rw [e58]; kernel_rfl) fun K hK => ?_
            clear hoo
            refine wpIn_val (v := .agg #[.int .u32 nb0, .int .u32 nb1]) (fun _ _ => trivial) (by go_simp) ?_
            exact hK _ _ ⟨upd g 60 (V 60), by rw [v60.out]; kernel_rfl, HQ.out.pure (i := 60) (by omega)⟩
          · have hoo := hop
            obtain rfl := Option.some.inj hop
            have t58 : d 58 = true := HD.out ⟨58, .guard⟩ (by simp) rfl
            have e58 : g 58 = .bool true := (HQ.out.val 58 (by omega) t58).trans v58.out
            obtain ⟨k0, k1⟩ := B2.cells (HQ.out.bu.block _ (blk_lt S1.out.c) |>.trans S1.out.c)
            clear HD t58
            refine op_wanted hoo (by rw [e58]; kernel_rfl) fun K hK => ?_
            clear hoo
            refine wpIn_val (v := .agg #[.int .u32 nc0, .int .u32 nc1]) (fun _ _ => trivial) (by go_simp) ?_
            exact hK _ _ ⟨upd g 61 (V 61), by rw [v61.out]; kernel_rfl, HQ.out.pure (i := 61) (by omega)⟩
          · have hoo := hop
            obtain rfl := Option.some.inj hop
            have t60 : d 60 = true := HD.out ⟨60, .data⟩ (by simp) rfl
            have e60 : g 60 = .agg #[.int .u32 nb0, .int .u32 nb1] := (HQ.out.val 60 (by omega) t60).trans v60.out
            have t61 : d 61 = true := HD.out ⟨61, .data⟩ (by simp) rfl
            have e61 : g 61 = .agg #[.int .u32 nc0, .int .u32 nc1] := (HQ.out.val 61 (by omega) t61).trans v61.out
            have t58 : d 58 = true := HD.out ⟨58, .guard⟩ (by simp) rfl
            have e58 : g 58 = .bool true := (HQ.out.val 58 (by omega) t58).trans v58.out
            clear HD t60 t61 t58
            refine op_wanted hoo (by rw [e58]; kernel_rfl) fun K hK => ?_
            clear hoo
            refine wpIn_det (v := .agg #[.int .u32 x14a, .int .u32 x14b]) (by go_simp) (det_add X14.out) fun Wn hb => ?_
            exact hK _ _ ⟨upd g 62 (V 62), by rw [v62.out]; kernel_rfl, (HQ.out.walk hb).pure (i := 62) (by omega)⟩
          · have hoo := hop
            obtain rfl := Option.some.inj hop
            have t59 : d 59 = true := HD.out ⟨59, .data⟩ (by simp) rfl
            have e59 : g 59 = .agg #[.int .u32 na0, .int .u32 na1] := (HQ.out.val 59 (by omega) t59).trans v59.out
            have t62 : d 62 = true := HD.out ⟨62, .data⟩ (by simp) rfl
            have e62 : g 62 = .agg #[.int .u32 x14a, .int .u32 x14b] := (HQ.out.val 62 (by omega) t62).trans v62.out
            have t58 : d 58 = true := HD.out ⟨58, .guard⟩ (by simp) rfl
            have e58 : g 58 = .bool true := (HQ.out.val 58 (by omega) t58).trans v58.out
            clear HD t59 t62 t58
            refine op_wanted hoo (by rw [e58]; kernel_rfl) fun K hK => ?_
            clear hoo
            refine wpIn_det (v := .agg #[.int .u32 x15a, .int .u32 x15b]) (by go_simp) (det_mul X15.out) fun Wn hb => ?_
            exact hK _ _ ⟨upd g 63 (V 63), by rw [v63.out]; kernel_rfl, (HQ.out.walk hb).pure (i := 63) (by omega)⟩
          · have hoo := hop
            obtain rfl := Option.some.inj hop
            have t58 : d 58 = true := HD.out ⟨58, .guard⟩ (by simp) rfl
            have e58 : g 58 = .bool true := (HQ.out.val 58 (by omega) t58).trans v58.out
            obtain ⟨k0, k1⟩ := B2.cells (HQ.out.bu.block _ (blk_lt S1.out.a) |>.trans S1.out.a)
            clear HD t58
            refine op_wanted hoo (by rw [e58]; kernel_rfl) fun K hK => ?_
            clear hoo
            refine wpIn_val (v := .agg #[.int .u32 na0, .int .u32 na1]) (fun _ _ => trivial) (by go_simp) ?_
            exact hK _ _ ⟨upd g 64 (V 64), by rw [v64.out]; kernel_rfl, HQ.out.pure (i := 64) (by omega)⟩
          · have hoo := hop
            obtain rfl := Option.some.inj hop
            have t58 : d 58 = true := HD.out ⟨58, .guard⟩ (by simp) rfl
            have e58 : g 58 = .bool true := (HQ.out.val 58 (by omega) t58).trans v58.out
            obtain ⟨k0, k1⟩ := B2.cells (HQ.out.bu.block _ (blk_lt S1.out.b) |>.trans S1.out.b)
            clear HD t58
            refine op_wanted hoo (by rw [e58]; kernel_rfl) fun K hK => ?_
            clear hoo
            refine wpIn_val (v := .agg #[.int .u32 nb0, .int .u32 nb1]) (fun _ _ => trivial) (by go_simp) ?_
            exact hK _ _ ⟨upd g 65 (V 65), by rw [v65.out]; kernel_rfl, HQ.out.pure (i := 65) (by omega)⟩
          · have hoo := hop
            obtain rfl := Option.some.inj hop
            have t64 : d 64 = true := HD.out ⟨64, .data⟩ (by simp) rfl
            have e64 : g 64 = .agg #[.int .u32 na0, .int .u32 na1] := (HQ.out.val 64 (by omega) t64).trans v64.out
            have t65 : d 65 = true := HD.out ⟨65, .data⟩ (by simp) rfl
            have e65 : g 65 = .agg #[.int .u32 nb0, .int .u32 nb1] := (HQ.out.val 65 (by omega) t65).trans v65.out
            have t58 : d 58 = true := HD.out ⟨58, .guard⟩ (by simp) rfl
            have e58 : g 58 = .bool true := (HQ.out.val 58 (by omega) t58).trans v58.out
            clear HD t64 t65 t58
            refine op_wanted hoo (by rw [e58]; kernel_rfl) fun K hK => ?_
            clear hoo
            refine wpIn_det (v := .agg #[.int .u32 x16a, .int .u32 x16b]) (by go_simp) (det_mul X16.out) fun Wn hb => ?_
            exact hK _ _ ⟨upd g 66 (V 66), by rw [v66.out]; kernel_rfl, (HQ.out.walk hb).pure (i := 66) (by omega)⟩
          · have hoo := hop
            obtain rfl := Option.some.inj hop
            have t58 : d 58 = true := HD.out ⟨58, .guard⟩ (by simp) rfl
            have e58 : g 58 = .bool true := (HQ.out.val 58 (by omega) t58).trans v58.out
            obtain ⟨k0, k1⟩ := B2.cells (HQ.out.bu.block _ (blk_lt S1.out.a) |>.trans S1.out.a)
            clear HD t58
            refine op_wanted hoo (by rw [e58]; kernel_rfl) fun K hK => ?_
            clear hoo
            refine wpIn_val (v := .agg #[.int .u32 na0, .int .u32 na1]) (fun _ _ => trivial) (by go_simp) ?_
            exact hK _ _ ⟨upd g 67 (V 67), by rw [v67.out]; kernel_rfl, HQ.out.pure (i := 67) (by omega)⟩
          · have hoo := hop
            obtain rfl := Option.some.inj hop
            have t58 : d 58 = true := HD.out ⟨58, .guard⟩ (by simp) rfl
            have e58 : g 58 = .bool true := (HQ.out.val 58 (by omega) t58).trans v58.out
            obtain ⟨k0, k1⟩ := B2.cells (HQ.out.bu.block _ (blk_lt S1.out.c) |>.trans S1.out.c)
            clear HD t58
            refine op_wanted hoo (by rw [e58]; kernel_rfl) fun K hK => ?_
            clear hoo
            refine wpIn_val (v := .agg #[.int .u32 nc0, .int .u32 nc1]) (fun _ _ => trivial) (by go_simp) ?_
            exact hK _ _ ⟨upd g 68 (V 68), by rw [v68.out]; kernel_rfl, HQ.out.pure (i := 68) (by omega)⟩
          · have hoo := hop
            obtain rfl := Option.some.inj hop
            have t67 : d 67 = true := HD.out ⟨67, .data⟩ (by simp) rfl
            have e67 : g 67 = .agg #[.int .u32 na0, .int .u32 na1] := (HQ.out.val 67 (by omega) t67).trans v67.out
            have t68 : d 68 = true := HD.out ⟨68, .data⟩ (by simp) rfl
            have e68 : g 68 = .agg #[.int .u32 nc0, .int .u32 nc1] := (HQ.out.val 68 (by omega) t68).trans v68.out
            have t58 : d 58 = true := HD.out ⟨58, .guard⟩ (by simp) rfl
            have e58 : g 58 = .bool true := (HQ.out.val 58 (by omega) t58).trans v58.out
            clear HD t67 t68 t58
            refine op_wanted hoo (by rw [e58]; kernel_rfl) fun K hK => ?_
            clear hoo
            refine wpIn_det (v := .agg #[.int .u32 x17a, .int .u32 x17b]) (by go_simp) (det_mul X17.out) fun Wn hb => ?_
            exact hK _ _ ⟨upd g 69 (V 69), by rw [v69.out]; kernel_rfl, (HQ.out.walk hb).pure (i := 69) (by omega)⟩
          · have hoo := hop
            obtain rfl := Option.some.inj hop
            have t66 : d 66 = true := HD.out ⟨66, .data⟩ (by simp) rfl
            have e66 : g 66 = .agg #[.int .u32 x16a, .int .u32 x16b] := (HQ.out.val 66 (by omega) t66).trans v66.out
            have t69 : d 69 = true := HD.out ⟨69, .data⟩ (by simp) rfl
            have e69 : g 69 = .agg #[.int .u32 x17a, .int .u32 x17b] := (HQ.out.val 69 (by omega) t69).trans v69.out
            have t58 : d 58 = true := HD.out ⟨58, .guard⟩ (by simp) rfl
            have e58 : g 58 = .bool true := (HQ.out.val 58 (by omega) t58).trans v58.out
            clear HD t66 t69 t58
            refine op_wanted hoo (by rw [e58]; kernel_rfl) fun K hK => ?_
            clear hoo
            refine wpIn_det (v := .agg #[.int .u32 x18a, .int .u32 x18b]) (by go_simp) (det_add X18.out) fun Wn hb => ?_
            exact hK _ _ ⟨upd g 70 (V 70), by rw [v70.out]; kernel_rfl, (HQ.out.walk hb).pure (i := 70) (by omega)⟩
          · have hoo := hop
            obtain rfl := Option.some.inj hop
            have t63 : d 63 = true := HD.out ⟨63, .data⟩ (by simp) rfl
            have e63 : g 63 = .agg #[.int .u32 x15a, .int .u32 x15b] := (HQ.out.val 63 (by omega) t63).trans v63.out
            have t70 : d 70 = true := HD.out ⟨70, .data⟩ (by simp) rfl
            have e70 : g 70 = .agg #[.int .u32 x18a, .int .u32 x18b] := (HQ.out.val 70 (by omega) t70).trans v70.out
            have t58 : d 58 = true := HD.out ⟨58, .guard⟩ (by simp) rfl
            have e58 : g 58 = .bool true := (HQ.out.val 58 (by omega) t58).trans v58.out
            clear HD t63 t70 t58
            refine op_wanted hoo (by rw [e58]; kernel_rfl) fun K hK => ?_
            clear hoo
            refine wpIn_det (v := .bool true) (by go_simp) (C19.out) fun Wn hb => ?_
            exact hK _ _ ⟨upd g 71 (V 71), by rw [v71.out]; kernel_rfl, (HQ.out.walk hb).pure (i := 71) (by omega)⟩
          · have hoo := hop
            obtain rfl := Option.some.inj hop
            have t58 : d 58 = true := HD.out ⟨58, .data⟩ (by simp) rfl
            have e58 : g 58 = .bool true := (HQ.out.val 58 (by omega) t58).trans v58.out
            have t71 : d 71 = true := HD.out ⟨71, .data⟩ (by simp) rfl
            have e71 : g 71 = .bool true := (HQ.out.val 71 (by omega) t71).trans v71.out
            clear HD t58 t71
            refine op_wanted hoo (by kernel_rfl) fun K hK => ?_
            clear hoo
            refine wpIn_val (v := .bool true) (fun _ _ => trivial) (by go_simp) ?_
            exact hK _ _ ⟨upd g 72 (V 72), by rw [v72.out]; kernel_rfl, HQ.out.pure (i := 72) (by omega)⟩
          · have hoo := hop
            obtain rfl := Option.some.inj hop
            have t72 : d 72 = true := HD.out ⟨72, .data⟩ (by simp) rfl
            have e72 : g 72 = .bool true := (HQ.out.val 72 (by omega) t72).trans v72.out
            clear HD t72
            refine op_wanted hoo (by kernel_rfl) fun K hK => ?_
            clear hoo
            refine wpIn_val (v := .bool true) (fun _ _ => trivial) (by go_simp) ?_
            exact hK _ _ ⟨upd g 73 (V 73), by rw [v73.out]; kernel_rfl, HQ.out.pure (i := 73) (by omega)⟩
          · have hoo := hop
            obtain rfl := Option.some.inj hop
            have t73 : d 73 = true := HD.out ⟨73, .guard⟩ (by simp) rfl
            have e73 : g 73 = .bool true := (HQ.out.val 73 (by omega) t73).trans v73.out
            clear HD t73
            refine op_wanted hoo (by rw [e73]; kernel_rfl) fun K hK => ?_
            clear hoo
            refine wpIn_val (v := .float .f32 (cc mu1)) (fun _ _ => trivial) (by go_simp) ?_
            exact hK _ _ ⟨upd g 74 (V 74), by rw [v74.out]; kernel_rfl, HQ.out.pure (i := 74) (by omega)⟩
          · have hoo := hop
            obtain rfl := Option.some.inj hop
            have t74 : d 74 = true := HD.out ⟨74, .data⟩ (by simp) rfl
            have e74 : g 74 = .float .f32 (cc mu1) := (HQ.out.val 74 (by omega) t74).trans v74.out
            have t73 : d 73 = true := HD.out ⟨73, .guard⟩ (by simp) rfl
            have e73 : g 73 = .bool true := (HQ.out.val 73 (by omega) t73).trans v73.out
            clear HD t74 t73
            refine op_wanted hoo (by rw [e73]; kernel_rfl) fun K hK => ?_
            clear hoo
            refine wpIn_val (v := .bool true) (fun _ _ => trivial) (by go_simp; exact eq_of_beq Z.out) ?_
            exact hK _ _ ⟨upd g 75 (V 75), by rw [v75.out]; kernel_rfl, HQ.out.pure (i := 75) (by omega)⟩
          · have hoo := hop
            obtain rfl := Option.some.inj hop
            have t73 : d 73 = true := HD.out ⟨73, .data⟩ (by simp) rfl
            have e73 : g 73 = .bool true := (HQ.out.val 73 (by omega) t73).trans v73.out
            have t75 : d 75 = true := HD.out ⟨75, .data⟩ (by simp) rfl
            have e75 : g 75 = .bool true := (HQ.out.val 75 (by omega) t75).trans v75.out
            clear HD t73 t75
            refine op_wanted hoo (by kernel_rfl) fun K hK => ?_
            clear hoo
            refine wpIn_val (v := .bool true) (fun _ _ => trivial) (by go_simp) ?_
            exact hK _ _ ⟨upd g 76 (V 76), by rw [v76.out]; kernel_rfl, HQ.out.pure (i := 76) (by omega)⟩
          · have hoo := hop
            obtain rfl := Option.some.inj hop
            have t76 : d 76 = true := HD.out ⟨76, .data⟩ (by simp) rfl
            have e76 : g 76 = .bool true := (HQ.out.val 76 (by omega) t76).trans v76.out
            clear HD t76
            refine op_wanted hoo (by kernel_rfl) fun K hK => ?_
            clear hoo
            refine wpIn_val (v := .bool true) (fun _ _ => trivial) (by go_simp) ?_
            exact hK _ _ ⟨upd g 77 (V 77), by rw [v77.out]; kernel_rfl, HQ.out.pure (i := 77) (by omega)⟩
          · have hoo := hop
            obtain rfl := Option.some.inj hop
            have t77 : d 77 = true := HD.out ⟨77, .guard⟩ (by simp) rfl
            have e77 : g 77 = .bool true := (HQ.out.val 77 (by omega) t77).trans v77.out
            obtain ⟨k0, k1⟩ := B2.cells (HQ.out.bu.block _ (blk_lt S1.out.f) |>.trans S1.out.f)
            clear HD t77
            refine op_wanted hoo (by rw [e77]; kernel_rfl) fun K hK => ?_
            clear hoo
            refine wpIn_val (v := .agg #[.int .u32 mu0, .int .u32 mu1]) (fun _ _ => trivial) (by go_simp) ?_
            exact hK _ _ ⟨upd g 78 (V 78), by rw [v78.out]; kernel_rfl, HQ.out.pure (i := 78) (by omega)⟩
          · have hoo := hop
            obtain rfl := Option.some.inj hop
            have t77 : d 77 = true := HD.out ⟨77, .guard⟩ (by simp) rfl
            have e77 : g 77 = .bool true := (HQ.out.val 77 (by omega) t77).trans v77.out
            clear HD t77
            refine op_wanted hoo (by rw [e77]; kernel_rfl) fun K hK => ?_
            clear hoo
            refine wpIn_val (v := .int .i64 p) (fun _ _ => trivial) (by go_simp) ?_
            exact hK _ _ ⟨upd g 79 (V 79), by rw [v79.out]; kernel_rfl, HQ.out.pure (i := 79) (by omega)⟩
          · have hoo := hop
            obtain rfl := Option.some.inj hop
            have t77 : d 77 = true := HD.out ⟨77, .guard⟩ (by simp) rfl
            have e77 : g 77 = .bool true := (HQ.out.val 77 (by omega) t77).trans v77.out
            clear HD t77
            refine op_wanted hoo (by rw [e77]; kernel_rfl) fun K hK => ?_
            clear hoo
            refine wpIn_val (v := .int .i64 p) (fun _ _ => trivial) (by go_simp) ?_
            exact hK _ _ ⟨upd g 80 (V 80), by rw [v80.out]; kernel_rfl, HQ.out.pure (i := 80) (by omega)⟩
          · have hoo := hop
            obtain rfl := Option.some.inj hop
            have t79 : d 79 = true := HD.out ⟨79, .data⟩ (by simp) rfl
            have e79 : g 79 = .int .i64 p := (HQ.out.val 79 (by omega) t79).trans v79.out
            have t80 : d 80 = true := HD.out ⟨80, .data⟩ (by simp) rfl
            have e80 : g 80 = .int .i64 p := (HQ.out.val 80 (by omega) t80).trans v80.out
            have t77 : d 77 = true := HD.out ⟨77, .guard⟩ (by simp) rfl
            have e77 : g 77 = .bool true := (HQ.out.val 77 (by omega) t77).trans v77.out
            clear HD t79 t80 t77
            refine op_wanted hoo (by rw [e77]; kernel_rfl) fun K hK => ?_
            clear hoo
            refine wpIn_val (v := .int .i64 (p * p)) (fun _ _ => trivial) (by go_simp; exact wr11.out) ?_
            exact hK _ _ ⟨upd g 81 (V 81), by rw [v81.out]; kernel_rfl, HQ.out.pure (i := 81) (by omega)⟩
          · have hoo := hop
            obtain rfl := Option.some.inj hop
            have t77 : d 77 = true := HD.out ⟨77, .guard⟩ (by simp) rfl
            have e77 : g 77 = .bool true := (HQ.out.val 77 (by omega) t77).trans v77.out
            clear HD t77
            refine op_wanted hoo (by rw [e77]; kernel_rfl) fun K hK => ?_
            clear hoo
            refine wpIn_val (v := .int .i64 q) (fun _ _ => trivial) (by go_simp) ?_
            exact hK _ _ ⟨upd g 82 (V 82), by rw [v82.out]; kernel_rfl, HQ.out.pure (i := 82) (by omega)⟩
          · have hoo := hop
            obtain rfl := Option.some.inj hop
            have t77 : d 77 = true := HD.out ⟨77, .guard⟩ (by simp) rfl
            have e77 : g 77 = .bool true := (HQ.out.val 77 (by omega) t77).trans v77.out
            clear HD t77
            refine op_wanted hoo (by rw [e77]; kernel_rfl) fun K hK => ?_
            clear hoo
            refine wpIn_val (v := .int .i64 q) (fun _ _ => trivial) (by go_simp) ?_
            exact hK _ _ ⟨upd g 83 (V 83), by rw [v83.out]; kernel_rfl, HQ.out.pure (i := 83) (by omega)⟩
          · have hoo := hop
            obtain rfl := Option.some.inj hop
            have t82 : d 82 = true := HD.out ⟨82, .data⟩ (by simp) rfl
            have e82 : g 82 = .int .i64 q := (HQ.out.val 82 (by omega) t82).trans v82.out
            have t83 : d 83 = true := HD.out ⟨83, .data⟩ (by simp) rfl
            have e83 : g 83 = .int .i64 q := (HQ.out.val 83 (by omega) t83).trans v83.out
            have t77 : d 77 = true := HD.out ⟨77, .guard⟩ (by simp) rfl
            have e77 : g 77 = .bool true := (HQ.out.val 77 (by omega) t77).trans v77.out
            clear HD t82 t83 t77
            refine op_wanted hoo (by rw [e77]; kernel_rfl) fun K hK => ?_
            clear hoo
            refine wpIn_val (v := .int .i64 (q * q)) (fun _ _ => trivial) (by go_simp; exact wr12.out) ?_
            exact hK _ _ ⟨upd g 84 (V 84), by rw [v84.out]; kernel_rfl, HQ.out.pure (i := 84) (by omega)⟩
          · have hoo := hop
            obtain rfl := Option.some.inj hop
            have t81 : d 81 = true := HD.out ⟨81, .data⟩ (by simp) rfl
            have e81 : g 81 = .int .i64 (p * p) := (HQ.out.val 81 (by omega) t81).trans v81.out
            have t84 : d 84 = true := HD.out ⟨84, .data⟩ (by simp) rfl
            have e84 : g 84 = .int .i64 (q * q) := (HQ.out.val 84 (by omega) t84).trans v84.out
            have t77 : d 77 = true := HD.out ⟨77, .guard⟩ (by simp) rfl
            have e77 : g 77 = .bool true := (HQ.out.val 77 (by omega) t77).trans v77.out
            clear HD t81 t84 t77
            refine op_wanted hoo (by rw [e77]; kernel_rfl) fun K hK => ?_
            clear hoo
            refine wpIn_val (v := .int .i64 ((p * p) + (q * q))) (fun _ _ => trivial) (by go_simp; exact wr13.out) ?_
            exact hK _ _ ⟨upd g 85 (V 85), by rw [v85.out]; kernel_rfl, HQ.out.pure (i := 85) (by omega)⟩
          · have hoo := hop
            obtain rfl := Option.some.inj hop
            have t85 : d 85 = true := HD.out ⟨85, .data⟩ (by simp) rfl
            have e85 : g 85 = .int .i64 ((p * p) + (q * q)) := (HQ.out.val 85 (by omega) t85).trans v85.out
            have t77 : d 77 = true := HD.out ⟨77, .guard⟩ (by simp) rfl
            have e77 : g 77 = .bool true := (HQ.out.val 77 (by omega) t77).trans v77.out
            clear HD t85 t77
            refine op_wanted hoo (by rw [e77]; kernel_rfl) fun K hK => ?_
            clear hoo
            refine wpIn_det (v := .agg #[.int .u32 x20a, .int .u32 x20b]) (by go_simp) (det_of X20.out) fun Wn hb => ?_
            exact hK _ _ ⟨upd g 86 (V 86), by rw [v86.out]; kernel_rfl, (HQ.out.walk hb).pure (i := 86) (by omega)⟩
          · have hoo := hop
            obtain rfl := Option.some.inj hop
            have t78 : d 78 = true := HD.out ⟨78, .data⟩ (by simp) rfl
            have e78 : g 78 = .agg #[.int .u32 mu0, .int .u32 mu1] := (HQ.out.val 78 (by omega) t78).trans v78.out
            have t86 : d 86 = true := HD.out ⟨86, .data⟩ (by simp) rfl
            have e86 : g 86 = .agg #[.int .u32 x20a, .int .u32 x20b] := (HQ.out.val 86 (by omega) t86).trans v86.out
            have t77 : d 77 = true := HD.out ⟨77, .guard⟩ (by simp) rfl
            have e77 : g 77 = .bool true := (HQ.out.val 77 (by omega) t77).trans v77.out
            clear HD t78 t86 t77
            refine op_wanted hoo (by rw [e77]; kernel_rfl) fun K hK => ?_
            clear hoo
            refine wpIn_det (v := .bool true) (by go_simp) (C21.out) fun Wn hb => ?_
            exact hK _ _ ⟨upd g 87 (V 87), by rw [v87.out]; kernel_rfl, (HQ.out.walk hb).pure (i := 87) (by omega)⟩
          · have hoo := hop
            obtain rfl := Option.some.inj hop
            have t77 : d 77 = true := HD.out ⟨77, .data⟩ (by simp) rfl
            have e77 : g 77 = .bool true := (HQ.out.val 77 (by omega) t77).trans v77.out
            have t87 : d 87 = true := HD.out ⟨87, .data⟩ (by simp) rfl
            have e87 : g 87 = .bool true := (HQ.out.val 87 (by omega) t87).trans v87.out
            clear HD t77 t87
            refine op_wanted hoo (by kernel_rfl) fun K hK => ?_
            clear hoo
            refine wpIn_val (v := .bool true) (fun _ _ => trivial) (by go_simp) ?_
            exact hK _ _ ⟨upd g 88 (V 88), by rw [v88.out]; kernel_rfl, HQ.out.pure (i := 88) (by omega)⟩
          · have hoo := hop
            obtain rfl := Option.some.inj hop
            have t88 : d 88 = true := HD.out ⟨88, .data⟩ (by simp) rfl
            have e88 : g 88 = .bool true := (HQ.out.val 88 (by omega) t88).trans v88.out
            clear HD t88
            refine op_wanted hoo (by kernel_rfl) fun K hK => ?_
            clear hoo
            refine wpIn_val (v := .bool true) (fun _ _ => trivial) (by go_simp) ?_
            exact hK _ _ ⟨upd g 89 (V 89), by rw [v89.out]; kernel_rfl, HQ.out.pure (i := 89) (by omega)⟩
          · have hoo := hop
            obtain rfl := Option.some.inj hop
            have t89 : d 89 = true := HD.out ⟨89, .guard⟩ (by simp) rfl
            have e89 : g 89 = .bool true := (HQ.out.val 89 (by omega) t89).trans v89.out
            obtain ⟨k0, k1⟩ := B2.cells (HQ.out.bu.block _ (blk_lt S1.out.a) |>.trans S1.out.a)
            clear HD t89
            refine op_wanted hoo (by rw [e89]; kernel_rfl) fun K hK => ?_
            clear hoo
            refine wpIn_val (v := .agg #[.int .u32 na0, .int .u32 na1]) (fun _ _ => trivial) (by go_simp) ?_
            exact hK _ _ ⟨upd g 90 (V 90), by rw [v90.out]; kernel_rfl, HQ.out.pure (i := 90) (by omega)⟩
          · have hoo := hop
            obtain rfl := Option.some.inj hop
            have t89 : d 89 = true := HD.out ⟨89, .guard⟩ (by simp) rfl
            have e89 : g 89 = .bool true := (HQ.out.val 89 (by omega) t89).trans v89.out
            obtain ⟨k0, k1⟩ := B2.cells (HQ.out.bu.block _ (blk_lt S1.out.d) |>.trans S1.out.d)
            clear HD t89
            refine op_wanted hoo (by rw [e89]; kernel_rfl) fun K hK => ?_
            clear hoo
            refine wpIn_val (v := .agg #[.int .u32 ns0, .int .u32 ns1]) (fun _ _ => trivial) (by go_simp) ?_
            exact hK _ _ ⟨upd g 91 (V 91), by rw [v91.out]; kernel_rfl, HQ.out.pure (i := 91) (by omega)⟩
          · have hoo := hop
            obtain rfl := Option.some.inj hop
            have t90 : d 90 = true := HD.out ⟨90, .data⟩ (by simp) rfl
            have e90 : g 90 = .agg #[.int .u32 na0, .int .u32 na1] := (HQ.out.val 90 (by omega) t90).trans v90.out
            have t91 : d 91 = true := HD.out ⟨91, .data⟩ (by simp) rfl
            have e91 : g 91 = .agg #[.int .u32 ns0, .int .u32 ns1] := (HQ.out.val 91 (by omega) t91).trans v91.out
            have t89 : d 89 = true := HD.out ⟨89, .guard⟩ (by simp) rfl
            have e89 : g 89 = .bool true := (HQ.out.val 89 (by omega) t89).trans v89.out
            clear HD t90 t91 t89
            refine op_wanted hoo (by rw [e89]; kernel_rfl) fun K hK => ?_
            clear hoo
            refine wpIn_det (v := .agg #[.int .u32 x22a, .int .u32 x22b]) (by go_simp) (det_mul X22.out) fun Wn hb => ?_
            exact hK _ _ ⟨upd g 92 (V 92), by rw [v92.out]; kernel_rfl, (HQ.out.walk hb).pure (i := 92) (by omega)⟩
          · have hoo := hop
            obtain rfl := Option.some.inj hop
            have t89 : d 89 = true := HD.out ⟨89, .guard⟩ (by simp) rfl
            have e89 : g 89 = .bool true := (HQ.out.val 89 (by omega) t89).trans v89.out
            obtain ⟨k0, k1⟩ := B2.cells (HQ.out.bu.block _ (blk_lt S1.out.d) |>.trans S1.out.d)
            clear HD t89
            refine op_wanted hoo (by rw [e89]; kernel_rfl) fun K hK => ?_
            clear hoo
            refine wpIn_val (v := .agg #[.int .u32 ns0, .int .u32 ns1]) (fun _ _ => trivial) (by go_simp) ?_
            exact hK _ _ ⟨upd g 93 (V 93), by rw [v93.out]; kernel_rfl, HQ.out.pure (i := 93) (by omega)⟩
          · have hoo := hop
            obtain rfl := Option.some.inj hop
            have t92 : d 92 = true := HD.out ⟨92, .data⟩ (by simp) rfl
            have e92 : g 92 = .agg #[.int .u32 x22a, .int .u32 x22b] := (HQ.out.val 92 (by omega) t92).trans v92.out
            have t93 : d 93 = true := HD.out ⟨93, .data⟩ (by simp) rfl
            have e93 : g 93 = .agg #[.int .u32 ns0, .int .u32 ns1] := (HQ.out.val 93 (by omega) t93).trans v93.out
            have t89 : d 89 = true := HD.out ⟨89, .guard⟩ (by simp) rfl
            have e89 : g 89 = .bool true := (HQ.out.val 89 (by omega) t89).trans v89.out
            clear HD t92 t93 t89
            refine op_wanted hoo (by rw [e89]; kernel_rfl) fun K hK => ?_
            clear hoo
            refine wpIn_det (v := .agg #[.int .u32 x23a, .int .u32 x23b]) (by go_simp) (det_div X23.out) fun Wn hb => ?_
            exact hK _ _ ⟨upd g 94 (V 94), by rw [v94.out]; kernel_rfl, (HQ.out.walk hb).pure (i := 94) (by omega)⟩
          · have hoo := hop
            obtain rfl := Option.some.inj hop
            have t89 : d 89 = true := HD.out ⟨89, .guard⟩ (by simp) rfl
            have e89 : g 89 = .bool true := (HQ.out.val 89 (by omega) t89).trans v89.out
            obtain ⟨k0, k1⟩ := B2.cells (HQ.out.bu.block _ (blk_lt S1.out.a) |>.trans S1.out.a)
            clear HD t89
            refine op_wanted hoo (by rw [e89]; kernel_rfl) fun K hK => ?_
            clear hoo
            refine wpIn_val (v := .agg #[.int .u32 na0, .int .u32 na1]) (fun _ _ => trivial) (by go_simp) ?_
            exact hK _ _ ⟨upd g 95 (V 95), by rw [v95.out]; kernel_rfl, HQ.out.pure (i := 95) (by omega)⟩
          · have hoo := hop
            obtain rfl := Option.some.inj hop
            have t94 : d 94 = true := HD.out ⟨94, .data⟩ (by simp) rfl
            have e94 : g 94 = .agg #[.int .u32 x23a, .int .u32 x23b] := (HQ.out.val 94 (by omega) t94).trans v94.out
            have t95 : d 95 = true := HD.out ⟨95, .data⟩ (by simp) rfl
            have e95 : g 95 = .agg #[.int .u32 na0, .int .u32 na1] := (HQ.out.val 95 (by omega) t95).trans v95.out
            have t89 : d 89 = true := HD.out ⟨89, .guard⟩ (by simp) rfl
            have e89 : g 89 = .bool true := (HQ.out.val 89 (by omega) t89).trans v89.out
            clear HD t94 t95 t89
            refine op_wanted hoo (by rw [e89]; kernel_rfl) fun K hK => ?_
            clear hoo
            refine wpIn_det (v := .bool true) (by go_simp) (C24.out) fun Wn hb => ?_
            exact hK _ _ ⟨upd g 96 (V 96), by rw [v96.out]; kernel_rfl, (HQ.out.walk hb).pure (i := 96) (by omega)⟩
          · have hoo := hop
            obtain rfl := Option.some.inj hop
            have t89 : d 89 = true := HD.out ⟨89, .data⟩ (by simp) rfl
            have e89 : g 89 = .bool true := (HQ.out.val 89 (by omega) t89).trans v89.out
            have t96 : d 96 = true := HD.out ⟨96, .data⟩ (by simp) rfl
            have e96 : g 96 = .bool true := (HQ.out.val 96 (by omega) t96).trans v96.out
            clear HD t89 t96
            refine op_wanted hoo (by kernel_rfl) fun K hK => ?_
            clear hoo
            refine wpIn_val (v := .bool true) (fun _ _ => trivial) (by go_simp) ?_
            exact hK _ _ ⟨upd g 97 (V 97), by rw [v97.out]; kernel_rfl, HQ.out.pure (i := 97) (by omega)⟩
          · have hoo := hop
            obtain rfl := Option.some.inj hop
            have t97 : d 97 = true := HD.out ⟨97, .data⟩ (by simp) rfl
            have e97 : g 97 = .bool true := (HQ.out.val 97 (by omega) t97).trans v97.out
            clear HD t97
            refine op_wanted hoo (by kernel_rfl) fun K hK => ?_
            clear hoo
            refine wpIn_val (v := .bool true) (fun _ _ => trivial) (by go_simp) ?_
            exact hK _ _ ⟨upd g 98 (V 98), by rw [v98.out]; kernel_rfl, HQ.out.pure (i := 98) (by omega)⟩
          · have hoo := hop
            obtain rfl := Option.some.inj hop
            have t98 : d 98 = true := HD.out ⟨98, .guard⟩ (by simp) rfl
            have e98 : g 98 = .bool true := (HQ.out.val 98 (by omega) t98).trans v98.out
            clear HD t98
            refine op_wanted hoo (by rw [e98]; kernel_rfl) fun K hK => ?_
            clear hoo
            refine wpIn_det (v := .bool true) (by go_simp) (det_awake) fun Wn hb => ?_
            exact hK _ _ ⟨upd g 99 (V 99), by rw [v99.out]; kernel_rfl, (HQ.out.walk hb).pure (i := 99) (by omega)⟩
          · have hoo := hop
            obtain rfl := Option.some.inj hop
            have t98 : d 98 = true := HD.out ⟨98, .data⟩ (by simp) rfl
            have e98 : g 98 = .bool true := (HQ.out.val 98 (by omega) t98).trans v98.out
            have t99 : d 99 = true := HD.out ⟨99, .data⟩ (by simp) rfl
            have e99 : g 99 = .bool true := (HQ.out.val 99 (by omega) t99).trans v99.out
            clear HD t98 t99
            refine op_wanted hoo (by kernel_rfl) fun K hK => ?_
            clear hoo
            refine wpIn_val (v := .bool true) (fun _ _ => trivial) (by go_simp) ?_
            exact hK _ _ ⟨upd g 100 (V 100), by rw [v100.out]; kernel_rfl, HQ.out.pure (i := 100) (by omega)⟩
          · have hoo := hop
            obtain rfl := Option.some.inj hop
            have t100 : d 100 = true := HD.out ⟨100, .data⟩ (by simp) rfl
            have e100 : g 100 = .bool true := (HQ.out.val 100 (by omega) t100).trans v100.out
            clear HD t100
            refine op_wanted hoo (by kernel_rfl) fun K hK => ?_
            clear hoo
            refine wpIn_val (v := .bool true) (fun _ _ => trivial) (by go_simp) ?_
            exact hK _ _ ⟨upd g 101 (V 101), by rw [v101.out]; kernel_rfl, HQ.out.pure (i := 101) (by omega)⟩
        case f6 =>
          rintro d act Wt ⟨g, rfl, hR⟩ hall
          have q101 := (hR.val 101 (by omega) (hall 101 (by decide))).trans v101.out
          have q101' : g 101 = .bool true := q101
          rw [q101']
          have HBE := Lib.hid (S1.out.below.trans (hR.bu.mono S1.out.below.size))
          clear hR hall
          dsimp only
          go_wp2_with fail
          go_ret
          exact ⟨rfl, HBE.out⟩
end Go.Proofs.Ytlbgpfddmkpakaa.Nu
