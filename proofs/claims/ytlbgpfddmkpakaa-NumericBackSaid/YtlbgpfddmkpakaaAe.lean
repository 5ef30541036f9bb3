/- Numeric: Add, Sub. -/
import Derived.Test.YtlbgpfddmkpakaaAd
namespace Go.Proofs.Ytlbgpfddmkpakaa.Nu
open Go.RowKit
set_option linter.unusedVariables false
set_option linter.unusedSimpArgs false

/-- A sum of complex numbers, part by part. -/
theorem cop_run {op : BinOp} (hop : op = .add ∨ op = .sub) (t : TypeId) (a b c d : Nat) (w : World) :
    ∃ r i w', (binOp op t (.complex .f32 a b) (.complex .f32 c d)).run Try.prog w = .ok (.complex .f32 r i) w' ∧ r < 2 ^ 32 ∧ i < 2 ^ 32 ∧ canon r = fop op (canon a) (canon c) ∧ canon i = fop op (canon b) (canon d) ∧ Below w.heap.size w w' := by
  have hop' : op = .add ∨ op = .sub ∨ op = .mul ∨ op = .quo := by rcases hop with h | h; exact .inl h; exact .inr (.inl h)
  have key : ∀ x y w, ∃ r w', (Op.Complex.arith op .f32 x y).run Try.prog w = .ok r w' ∧ r < 2 ^ 32 ∧ canon r = fop op (canon x) (canon y) ∧ (w' = w ∨ w' = w.drew) := by
    intro x y w
    obtain ⟨r, w', h1, h2, h3, h4⟩ := fop_run hop' 31 x y w
    refine ⟨r, w', ?_, h2, h3, h4⟩
    have h5 : (Op.floatArith op .f32 x y).run Try.prog w = .ok (.float .f32 r) w' := by
      rcases hop with rfl | rfl <;> simpa [binOp] using h1
    simp [Op.Complex.arith, h5]
  obtain ⟨r, w1, h1, h2, h3, h4⟩ := key a c w
  obtain ⟨i, w2, k1, k2, k3, k4⟩ := key b d w1
  refine ⟨r, i, w2, ?_, h2, k2, h3, k3, ?_⟩
  · rcases hop with rfl | rfl <;> simp [binOp, Op.complexOp, h1, k1]
  · have e1 : Below w.heap.size w w1 := by rcases h4 with rfl | rfl; exact Below.refl _ _; exact (Below.refl _ _).drew
    rcases k4 with rfl | rfl
    · exact e1
    · exact e1.drew
theorem keepN {W : World} {k1 k2 : Nat} {a b c d : Value} (h1 : B2 W k1 26 a b) (h2 : B2 W k2 26 c d) : W.cell? ⟨k1, 0, none⟩ = some a ∧ W.cell? ⟨k1, 1, none⟩ = some b ∧ W.cell? ⟨k2, 0, none⟩ = some c ∧ W.cell? ⟨k2, 1, none⟩ = some d :=
  ⟨cell_blk h1 0, cell_blk h1 1, cell_blk h2 0, cell_blk h2 1⟩
theorem keepN_put {W : World} {k k1 k2 : Nat} {a b c d u0 u1 z0 z1 : Value} (hz : B2 W k 26 z0 z1) (n1 : k1 ≠ k) (n2 : k2 ≠ k) (h1 : B2 W k1 26 a b) (h2 : B2 W k2 26 c d) : ((W.setCell ⟨k, 0, none⟩ u0).setCell ⟨k, 1, none⟩ u1).cell? ⟨k1, 0, none⟩ = some a ∧ ((W.setCell ⟨k, 0, none⟩ u0).setCell ⟨k, 1, none⟩ u1).cell? ⟨k1, 1, none⟩ = some b ∧ ((W.setCell ⟨k, 0, none⟩ u0).setCell ⟨k, 1, none⟩ u1).cell? ⟨k2, 0, none⟩ = some c ∧ ((W.setCell ⟨k, 0, none⟩ u0).setCell ⟨k, 1, none⟩ u1).cell? ⟨k2, 1, none⟩ = some d := by
  obtain ⟨_, _, p⟩ := B2.put (u0 := u0) (u1 := u1) hz rfl
  exact keepN (p _ _ _ _ n1 h1) (p _ _ _ _ n2 h2)
/-- The parts of a number that an operation makes. -/
def nop (op : BinOp) (x y : Nat) : Nat := cb (fop op (canon x) (canon y))

set_option maxRecDepth 100000 in
set_option maxHeartbeats 4000000 in
theorem add_at (a b c d : Nat) (w : World) : Calls Try.prog 14 #[.agg #[.int .u32 a, .int .u32 b], .agg #[.int .u32 c, .int .u32 d]] w fun e w' => e = .returned (.agg #[.int .u32 (nop .add a c), .int .u32 (nop .add b d)]) ∧ Below w.heap.size w w' := by
  have s0 : Below w.heap.size w (w.alloc (Obj.cells #[.int .u32 a, .int .u32 b] 26)) := (Below.refl _ _).alloc (Nat.le_refl _) _
  have m0 := B2.made w (.int .u32 a) (.int .u32 b) 26
  have z0 : (w.alloc (Obj.cells #[.int .u32 a, .int .u32 b] 26)).heap.size = w.heap.size + 1 := by simp
  obtain ⟨V1, hV1⟩ : ∃ V, V = w.alloc (Obj.cells #[.int .u32 a, .int .u32 b] 26) := ⟨_, rfl⟩
  rw [← hV1] at s0 m0 z0
  have s1 : Below V1.heap.size V1 (V1.alloc (Obj.cells #[.int .u32 c, .int .u32 d] 26)) := (Below.refl _ _).alloc (Nat.le_refl _) _
  have m1 := B2.made V1 (.int .u32 c) (.int .u32 d) 26
  have z1 : (V1.alloc (Obj.cells #[.int .u32 c, .int .u32 d] 26)).heap.size = V1.heap.size + 1 := by simp
  obtain ⟨V2, hV2⟩ : ∃ V, V = V1.alloc (Obj.cells #[.int .u32 c, .int .u32 d] 26) := ⟨_, rfl⟩
  rw [← hV2] at s1 m1 z1
  have s2 : Below V2.heap.size V2 (V2.alloc (Obj.cells #[.int .u32 0, .int .u32 0] 26)) := (Below.refl _ _).alloc (Nat.le_refl _) _
  have m2 := B2.made V2 (.int .u32 0) (.int .u32 0) 26
  obtain ⟨V3, hV3⟩ : ∃ V, V = V2.alloc (Obj.cells #[.int .u32 0, .int .u32 0] 26) := ⟨_, rfl⟩
  rw [← hV3] at s2 m2
  rw [z0] at m1
  rw [z1, z0] at m2
  have HB0 : Hid (Below w.heap.size w V3 ∧ B2 V3 w.heap.size 26 (.int .u32 a) (.int .u32 b) ∧ B2 V3 (w.heap.size + 1) 26 (.int .u32 c) (.int .u32 d) ∧ B2 V3 (w.heap.size + 1 + 1) 26 (.int .u32 0) (.int .u32 0)) :=
    ⟨(s0.trans (s1.mono s0.size)).trans (s2.mono (Nat.le_trans s0.size s1.size)), (m0.step s1).step s2, m1.step s2, m2⟩
  go_enter Try.func14, Try.ntmps14
  go_upto_region 1 with fail
  rw [← hV1, ← hV2, ← hV3]
  clear hV1 hV2 hV3 s0 s1 s2 m0 m1 m2 z0 z1
  have HNE : Hid (w.heap.size ≠ w.heap.size + 1 + 1 ∧ w.heap.size + 1 ≠ w.heap.size + 1 + 1) := by show _ ∧ _; omega
  have HD : Hid (Below V3.heap.size V3 V3.drew) := (Below.refl _ _).drew
  go_region_held (fun W => W.cell? ⟨w.heap.size, 0, none⟩ = some (.int .u32 a) ∧ W.cell? ⟨w.heap.size, 1, none⟩ = some (.int .u32 b) ∧ W.cell? ⟨w.heap.size + 1, 0, none⟩ = some (.int .u32 c) ∧ W.cell? ⟨w.heap.size + 1, 1, none⟩ = some (.int .u32 d))
    (first | with_reducible exact keepN (HB0.out.2.1.step HD.out) (HB0.out.2.2.1.step HD.out) | with_reducible exact keepN HB1.out.2.1 HB1.out.2.2.1 | with_reducible exact keepN HB2.out.2.1 HB2.out.2.2.1 | with_reducible exact keepN HB3.out.2.1 HB3.out.2.2.1 | with_reducible exact keepN HB4.out.2.1 HB4.out.2.2.1 | with_reducible exact keepN_put HB4.out.2.2.2 HNE.out.1 HNE.out.2 HB4.out.2.1 HB4.out.2.2.1 | (trace_state; fail))
    (first
      | (go_at_call 41; refine (value_at a b V3.drew).mono ?_; rintro en W1 ⟨rfl, hb⟩; have hbb := HD.out.trans (hb.mono HD.out.size); have HB1 : Hid (Below w.heap.size w W1 ∧ B2 W1 w.heap.size 26 (.int .u32 a) (.int .u32 b) ∧ B2 W1 (w.heap.size + 1) 26 (.int .u32 c) (.int .u32 d) ∧ B2 W1 (w.heap.size + 1 + 1) 26 (.int .u32 0) (.int .u32 0)) := ⟨HB0.out.1.trans (hbb.mono HB0.out.1.size), HB0.out.2.1.step hbb, HB0.out.2.2.1.step hbb, HB0.out.2.2.2.step hbb⟩; clear hb hbb)
      | (go_at_call 41; refine (value_at c d W1).mono ?_; rintro en W2 ⟨rfl, hb⟩; obtain ⟨r, i, W3, hr, hr1, hr2, hr3, hr4, hb3⟩ := cop_run (op := .add) (.inl rfl) 78 (cc a) (cc b) (cc c) (cc d) W2; have HRR := Lib.hid (And.intro hr3 hr4); have HB2 : Hid (Below w.heap.size w W2 ∧ B2 W2 w.heap.size 26 (.int .u32 a) (.int .u32 b) ∧ B2 W2 (w.heap.size + 1) 26 (.int .u32 c) (.int .u32 d) ∧ B2 W2 (w.heap.size + 1 + 1) 26 (.int .u32 0) (.int .u32 0)) := ⟨HB1.out.1.trans (hb.mono HB1.out.1.size), HB1.out.2.1.step hb, HB1.out.2.2.1.step hb, HB1.out.2.2.2.step hb⟩; have HB3 : Hid (Below w.heap.size w W3 ∧ B2 W3 w.heap.size 26 (.int .u32 a) (.int .u32 b) ∧ B2 W3 (w.heap.size + 1) 26 (.int .u32 c) (.int .u32 d) ∧ B2 W3 (w.heap.size + 1 + 1) 26 (.int .u32 0) (.int .u32 0)) := ⟨HB2.out.1.trans (hb3.mono HB2.out.1.size), HB2.out.2.1.step hb3, HB2.out.2.2.1.step hb3, HB2.out.2.2.2.step hb3⟩; clear hb hb3 hr1 hr2 hr3 hr4)
      | (go_at_call 40; refine (ofc_at r i W3).mono ?_; rintro en W4 ⟨rfl, hb⟩; have HB4 : Hid (Below w.heap.size w W4 ∧ B2 W4 w.heap.size 26 (.int .u32 a) (.int .u32 b) ∧ B2 W4 (w.heap.size + 1) 26 (.int .u32 c) (.int .u32 d) ∧ B2 W4 (w.heap.size + 1 + 1) 26 (.int .u32 0) (.int .u32 0)) := ⟨HB3.out.1.trans (hb.mono HB3.out.1.size), HB3.out.2.1.step hb, HB3.out.2.2.1.step hb, HB3.out.2.2.2.step hb⟩; clear hb; obtain ⟨g0, g1⟩ := HB4.out.2.2.2.cells; obtain ⟨f0, f1⟩ := HB4.out.2.2.2.frz))
  all_goals
    obtain ⟨W5, hW5⟩ : ∃ W5, W5 = (W4.setCell ⟨w.heap.size + 1 + 1, 0, none⟩ (.int .u32 (cc r))).setCell ⟨w.heap.size + 1 + 1, 1, none⟩ (.int .u32 (cc i)) := ⟨_, rfl⟩
    rw [← hW5]
    obtain ⟨p1, p2, _⟩ := B2.put HB4.out.2.2.2 hW5
    have K := Lib.hid (p2 w.heap.size w (by omega) HB4.out.1)
    clear g0 g1 f0 f1 hW5 hr
    obtain ⟨c0, c1⟩ := p1.cells
    have er : cc r = nop .add a c := by unfold cc nop; rw [HRR.out.1, canon_cc, canon_cc]
    have ei : cc i = nop .add b d := by unfold cc nop; rw [HRR.out.2, canon_cc, canon_cc]
    rw [er] at c0
    rw [ei] at c1
    go_wp2_with fail
    refine bodyPost_ret (v := .agg #[.int .u32 (nop .add a c), .int .u32 (nop .add b d)]) (by simp [results, Try.results14, go_sem, c0, c1]) rfl ⟨rfl, K.out⟩

set_option maxRecDepth 100000 in
set_option maxHeartbeats 4000000 in
theorem sub_at (a b c d : Nat) (w : World) : Calls Try.prog 15 #[.agg #[.int .u32 a, .int .u32 b], .agg #[.int .u32 c, .int .u32 d]] w fun e w' => e = .returned (.agg #[.int .u32 (nop .sub a c), .int .u32 (nop .sub b d)]) ∧ Below w.heap.size w w' := by
  have s0 : Below w.heap.size w (w.alloc (Obj.cells #[.int .u32 a, .int .u32 b] 26)) := (Below.refl _ _).alloc (Nat.le_refl _) _
  have m0 := B2.made w (.int .u32 a) (.int .u32 b) 26
  have z0 : (w.alloc (Obj.cells #[.int .u32 a, .int .u32 b] 26)).heap.size = w.heap.size + 1 := by simp
  obtain ⟨V1, hV1⟩ : ∃ V, V = w.alloc (Obj.cells #[.int .u32 a, .int .u32 b] 26) := ⟨_, rfl⟩
  rw [← hV1] at s0 m0 z0
  have s1 : Below V1.heap.size V1 (V1.alloc (Obj.cells #[.int .u32 c, .int .u32 d] 26)) := (Below.refl _ _).alloc (Nat.le_refl _) _
  have m1 := B2.made V1 (.int .u32 c) (.int .u32 d) 26
  have z1 : (V1.alloc (Obj.cells #[.int .u32 c, .int .u32 d] 26)).heap.size = V1.heap.size + 1 := by simp
  obtain ⟨V2, hV2⟩ : ∃ V, V = V1.alloc (Obj.cells #[.int .u32 c, .int .u32 d] 26) := ⟨_, rfl⟩
  rw [← hV2] at s1 m1 z1
  have s2 : Below V2.heap.size V2 (V2.alloc (Obj.cells #[.int .u32 0, .int .u32 0] 26)) := (Below.refl _ _).alloc (Nat.le_refl _) _
  have m2 := B2.made V2 (.int .u32 0) (.int .u32 0) 26
  obtain ⟨V3, hV3⟩ : ∃ V, V = V2.alloc (Obj.cells #[.int .u32 0, .int .u32 0] 26) := ⟨_, rfl⟩
  rw [← hV3] at s2 m2
  rw [z0] at m1
  rw [z1, z0] at m2
  have HB0 : Hid (Below w.heap.size w V3 ∧ B2 V3 w.heap.size 26 (.int .u32 a) (.int .u32 b) ∧ B2 V3 (w.heap.size + 1) 26 (.int .u32 c) (.int .u32 d) ∧ B2 V3 (w.heap.size + 1 + 1) 26 (.int .u32 0) (.int .u32 0)) :=
    ⟨(s0.trans (s1.mono s0.size)).trans (s2.mono (Nat.le_trans s0.size s1.size)), (m0.step s1).step s2, m1.step s2, m2⟩
  go_enter Try.func15, Try.ntmps15
  go_upto_region 1 with fail
  rw [← hV1, ← hV2, ← hV3]
  clear hV1 hV2 hV3 s0 s1 s2 m0 m1 m2 z0 z1
  have HNE : Hid (w.heap.size ≠ w.heap.size + 1 + 1 ∧ w.heap.size + 1 ≠ w.heap.size + 1 + 1) := by show _ ∧ _; omega
  have HD : Hid (Below V3.heap.size V3 V3.drew) := (Below.refl _ _).drew
  go_region_held (fun W => W.cell? ⟨w.heap.size, 0, none⟩ = some (.int .u32 a) ∧ W.cell? ⟨w.heap.size, 1, none⟩ = some (.int .u32 b) ∧ W.cell? ⟨w.heap.size + 1, 0, none⟩ = some (.int .u32 c) ∧ W.cell? ⟨w.heap.size + 1, 1, none⟩ = some (.int .u32 d))
    (first | with_reducible exact keepN (HB0.out.2.1.step HD.out) (HB0.out.2.2.1.step HD.out) | with_reducible exact keepN HB1.out.2.1 HB1.out.2.2.1 | with_reducible exact keepN HB2.out.2.1 HB2.out.2.2.1 | with_reducible exact keepN HB3.out.2.1 HB3.out.2.2.1 | with_reducible exact keepN HB4.out.2.1 HB4.out.2.2.1 | with_reducible exact keepN_put HB4.out.2.2.2 HNE.out.1 HNE.out.2 HB4.out.2.1 HB4.out.2.2.1 | (trace_state; fail))
    (first
      | (go_at_call 41; refine (value_at a b V3.drew).mono ?_; rintro en W1 ⟨rfl, hb⟩; have hbb := HD.out.trans (hb.mono HD.out.size); have HB1 : Hid (Below w.heap.size w W1 ∧ B2 W1 w.heap.size 26 (.int .u32 a) (.int .u32 b) ∧ B2 W1 (w.heap.size + 1) 26 (.int .u32 c) (.int .u32 d) ∧ B2 W1 (w.heap.size + 1 + 1) 26 (.int .u32 0) (.int .u32 0)) := ⟨HB0.out.1.trans (hbb.mono HB0.out.1.size), HB0.out.2.1.step hbb, HB0.out.2.2.1.step hbb, HB0.out.2.2.2.step hbb⟩; clear hb hbb)
      | (go_at_call 41; refine (value_at c d W1).mono ?_; rintro en W2 ⟨rfl, hb⟩; obtain ⟨r, i, W3, hr, hr1, hr2, hr3, hr4, hb3⟩ := cop_run (op := .sub) (.inr rfl) 78 (cc a) (cc b) (cc c) (cc d) W2; have HRR := Lib.hid (And.intro hr3 hr4); have HB2 : Hid (Below w.heap.size w W2 ∧ B2 W2 w.heap.size 26 (.int .u32 a) (.int .u32 b) ∧ B2 W2 (w.heap.size + 1) 26 (.int .u32 c) (.int .u32 d) ∧ B2 W2 (w.heap.size + 1 + 1) 26 (.int .u32 0) (.int .u32 0)) := ⟨HB1.out.1.trans (hb.mono HB1.out.1.size), HB1.out.2.1.step hb, HB1.out.2.2.1.step hb, HB1.out.2.2.2.step hb⟩; have HB3 : Hid (Below w.heap.size w W3 ∧ B2 W3 w.heap.size 26 (.int .u32 a) (.int .u32 b) ∧ B2 W3 (w.heap.size + 1) 26 (.int .u32 c) (.int .u32 d) ∧ B2 W3 (w.heap.size + 1 + 1) 26 (.int .u32 0) (.int .u32 0)) := ⟨HB2.out.1.trans (hb3.mono HB2.out.1.size), HB2.out.2.1.step hb3, HB2.out.2.2.1.step hb3, HB2.out.2.2.2.step hb3⟩; clear hb hb3 hr1 hr2 hr3 hr4)
      | (go_at_call 40; refine (ofc_at r i W3).mono ?_; rintro en W4 ⟨rfl, hb⟩; have HB4 : Hid (Below w.heap.size w W4 ∧ B2 W4 w.heap.size 26 (.int .u32 a) (.int .u32 b) ∧ B2 W4 (w.heap.size + 1) 26 (.int .u32 c) (.int .u32 d) ∧ B2 W4 (w.heap.size + 1 + 1) 26 (.int .u32 0) (.int .u32 0)) := ⟨HB3.out.1.trans (hb.mono HB3.out.1.size), HB3.out.2.1.step hb, HB3.out.2.2.1.step hb, HB3.out.2.2.2.step hb⟩; clear hb; obtain ⟨g0, g1⟩ := HB4.out.2.2.2.cells; obtain ⟨f0, f1⟩ := HB4.out.2.2.2.frz))
  all_goals
    obtain ⟨W5, hW5⟩ : ∃ W5, W5 = (W4.setCell ⟨w.heap.size + 1 + 1, 0, none⟩ (.int .u32 (cc r))).setCell ⟨w.heap.size + 1 + 1, 1, none⟩ (.int .u32 (cc i)) := ⟨_, rfl⟩
    rw [← hW5]
    obtain ⟨p1, p2, _⟩ := B2.put HB4.out.2.2.2 hW5
    have K := Lib.hid (p2 w.heap.size w (by omega) HB4.out.1)
    clear g0 g1 f0 f1 hW5 hr
    obtain ⟨c0, c1⟩ := p1.cells
    have er : cc r = nop .sub a c := by unfold cc nop; rw [HRR.out.1, canon_cc, canon_cc]
    have ei : cc i = nop .sub b d := by unfold cc nop; rw [HRR.out.2, canon_cc, canon_cc]
    rw [er] at c0
    rw [ei] at c1
    go_wp2_with fail
    refine bodyPost_ret (v := .agg #[.int .u32 (nop .sub a c), .int .u32 (nop .sub b d)]) (by simp [results, Try.results15, go_sem, c0, c1]) rfl ⟨rfl, K.out⟩
end Go.Proofs.Ytlbgpfddmkpakaa.Nu
