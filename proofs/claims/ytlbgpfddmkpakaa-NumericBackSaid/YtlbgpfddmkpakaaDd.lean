/- Numeric: the reference's forward, whole; Transform. -/
import Derived.Test.YtlbgpfddmkpakaaDc
namespace Go.Proofs.Ytlbgpfddmkpakaa.Nu
open Go.RowKit
set_option linter.unusedVariables false
set_option linter.unusedSimpArgs false

theorem keep2 {w W : World} {p q : Addr} {x y : Value} (h : w.cell? p = some x ∧ w.cell? q = some y) (hb : Below w.heap.size w W) (hp : p.block < w.heap.size) (hq : q.block < w.heap.size) : W.cell? p = some x ∧ W.cell? q = some y :=
  ⟨(hb.cell hp).trans h.1, (hb.cell hq).trans h.2⟩
set_option maxRecDepth 100000 in
set_option maxHeartbeats 4000000 in
theorem forward_zero (v : Value) (l : List (Nat × Nat)) (w : World) (hr : Row w v l) (hl : l.length = 1) : FwdAt 0 v l w := by
  obtain ⟨g, off, cap, rfl, hcap, hrd⟩ := hr.rd (by intro e; rw [e] at hl; cases hl)
  have hx := hrd.2 0 _ (el_get (by omega))
  rw [hl]
  have HE : Hid (fft 0 l = [(cc (el l 0).1, cc (el l 0).2)]) := rfl
  obtain ⟨c0, c1⟩ := hx
  simp only [Nat.zero_mul, Nat.add_zero] at c0 c1
  generalize el l 0 = a at *
  obtain ⟨a0, a1⟩ := a
  dsimp only at c0 c1 HE
  clear hl hrd hr
  go_enter Try.func50, Try.ntmps50
  go_upto_region 3 with fail
  have C := Lib.hid (And.intro c0 c1)
  have G : Hid (g < w.heap.size) := cell_lt c0
  have HBc : Hid (Below w.heap.size w w.drew) := (Below.refl _ _).drew
  have HB0 : Hid (Below w.heap.size w w) := Below.refl _ _
  go_region_held3 (fun W => W.cell? ⟨g, off, none⟩ = some (.int .u32 a0) ∧ W.cell? ⟨g, off + 1, none⟩ = some (.int .u32 a1))
    (first | with_reducible exact keep2 C.out HBc.out G.out G.out | with_reducible exact keep2 C.out HB0.out G.out G.out | with_reducible exact keep2 C.out (HBc.out.alloc HBc.out.size _) G.out G.out | (trace_state; fail))
    (first
      | (with_reducible refine (rf_at a0 _).mono ?_; rintro e Wn ⟨rfl, hb⟩; have HBn := Lib.hid (HBc.out.trans (hb.mono HBc.out.size)); clear hb HBc; have HBc := HBn; clear HBn)
      | (with_reducible refine (rf_at a1 _).mono ?_; rintro e Wn ⟨rfl, hb⟩; have HBn := Lib.hid (HBc.out.trans (hb.mono HBc.out.size)); clear hb HBc; have HBc := HBn; clear HBn)
      | (with_reducible refine (rof_at a0 a1 _).mono ?_; rintro e Wn ⟨rfl, hb⟩; have HBn := Lib.hid (HBc.out.trans (hb.mono HBc.out.size)); clear hb HBc; have HBc := HBn; clear HBn))
  all_goals
    go_wp2_with fail
    go_ret
    refine ⟨_, rfl, ?_, HBc.out.alloc HBc.out.size _⟩
    rw [HE.out]
    exact R.own_one (w := Wn) w.heap.size (.int .u32 (cc a0)) (.int .u32 (cc a1)) HBc.out.size
theorem forward_at (k : Nat) (hk : k ≤ 6) : ∀ (v : Value) (l : List (Nat × Nat)) (w : World), Row w v l → l.length = 2 ^ k → FwdAt k v l w := by
  induction k with
  | zero => exact fun v l w hr hl => forward_zero v l w hr hl
  | succ k ih => exact fun v l w hr hl => forward_step k (ih (by omega)) v l w (by omega) hr hl
end Go.Proofs.Ytlbgpfddmkpakaa.Nu
