/- Numeric: Of and equal at whole numbers. -/
import Derived.Test.YtlbgpfddmkpakaaHb
import Derived.Test.YtlbgpfddmkpakaaFc
namespace Go.Proofs.Ytlbgpfddmkpakaa.Nu
open Go.RowKit
set_option linter.unusedVariables false
set_option linter.unusedSimpArgs false
theorem conv_whole (z : Int) (hz : z.natAbs ≤ 2 ^ 24) : ∃ x, (∀ w, (convert 3 31 (.int .i64 z)).run Try.prog w = .ok (.float .f32 x) w) ∧ Wh (canon x) z :=
  have h : Va 149 (Ieee.single.read (FloatKind.f32.nearest z)) z := nearest_whole z hz
  ⟨FloatKind.f32.nearest z, fun w => by go_simp; rfl, _, canon_some h.num, h⟩
theorem of_whole (re im : Int) (h1 : re.natAbs ≤ 2 ^ 24) (h2 : im.natAbs ≤ 2 ^ 24) (w : World) :
    Calls Try.prog 8 #[.int .i64 re, .int .i64 im] w fun e w' => ∃ a b : Nat, e = .returned (.agg #[.int .u32 a, .int .u32 b]) ∧ Nb (a, b) re im ∧ Below w.heap.size w w' := by
  obtain ⟨x, k1, n1⟩ := conv_whole re h1
  obtain ⟨y, k2, n2⟩ := conv_whole im h2
  exact (ofi_at re im x y k1 k2 w).mono fun e w' ⟨a, b⟩ => ⟨_, _, a, ⟨n1.cc, n2.cc⟩, b⟩
set_option maxRecDepth 100000 in
set_option maxHeartbeats 2000000 in
theorem equal_at (a b c d : Nat) (x y : Int) (hp : Nb (a, b) x y) (hq : Nb (c, d) x y) (w : World) :
    Calls Try.prog 13 #[.agg #[.int .u32 a, .int .u32 b], .agg #[.int .u32 c, .int .u32 d]] w fun e w' => e = .returned (.bool true) ∧ Below w.heap.size w w' := by
  obtain ⟨o1, o2⟩ := Nb.eq hp hq
  have o1' : (FloatKind.f32.format.order (cc a) (cc c) == some Ordering.eq) = true := by show (Ieee.single.order (cc a) (cc c) == some Ordering.eq) = true; rw [show Ieee.single.order (cc a) (cc c) = some .eq from o1]; rfl
  have o2' : (FloatKind.f32.format.order (cc b) (cc d) == some Ordering.eq) = true := by show (Ieee.single.order (cc b) (cc d) == some Ordering.eq) = true; rw [show Ieee.single.order (cc b) (cc d) = some .eq from o2]; rfl
  have O2 := Lib.hid o2'
  have h := ((TN.start w 26).alloc a b).alloc c d
  rw [show (w.alloc (Obj.cells #[.int .u32 a, .int .u32 b] 26)).heap.size = w.heap.size + 1 by simp] at h
  have HB := Lib.hid h.below
  have HX : Hid (Pt _ w.heap.size 26 (a, b)) := (h.fresh _ (List.mem_cons_of_mem _ List.mem_cons_self)).1
  have HR : Hid (Pt _ (w.heap.size + 1) 26 (c, d)) := (h.fresh _ List.mem_cons_self).1
  clear h hp hq o1 o2
  obtain ⟨c0, c1⟩ := HX.out.cells
  go_enter Try.func13, Try.ntmps13
  go_upto_region 1 with fail
  generalize (w.alloc (Obj.cells #[.int .u32 a, .int .u32 b] 26)).alloc (Obj.cells #[.int .u32 c, .int .u32 d] 26) = W0 at *
  go_wp2_with fail
  refine (parts_at a b _).mono ?_
  rintro e W1 ⟨rfl, hb⟩
  have HB1 := Lib.hid (HB.out.trans (hb.mono HB.out.size))
  have HR1 : Hid (Pt W1 (w.heap.size + 1) 26 (c, d)) := B2.step HR.out hb
  clear c0 c1 hb HB HR HX
  obtain ⟨c0, c1⟩ := HR1.out.cells
  go_wp2_with fail
  refine (parts_at c d _).mono ?_
  rintro e W2 ⟨rfl, hb⟩
  have HB2 := Lib.hid (HB1.out.trans (hb.mono HB1.out.size))
  clear c0 c1 hb HB1 HR1
  go_wp2_with fail
  try rw [O2.out]
  go_ret
  exact ⟨rfl, HB2.out⟩
end Go.Proofs.Ytlbgpfddmkpakaa.Nu
