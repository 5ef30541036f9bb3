/- Numeric: the program's Polynomial at every list. -/
import Derived.Test.YtlbgpfddmkpakaaJf
namespace Go.Proofs.Ytlbgpfddmkpakaa.Nu
open Go.RowKit Go.Shelf
set_option linter.unusedVariables false
set_option linter.unusedSimpArgs false
section
attribute [local go_sem] Oper.semAt_some
set_option maxRecDepth 100000 in
set_option maxHeartbeats 4000000 in
theorem ppoly_nil (p : Option Addr) (cap x0 x1 : Nat) (w : World) :
    Calls Try.prog 28 #[.slice p 0 cap, .agg #[.int .u32 x0, .int .u32 x1]] w fun e w' => e = .returned (.agg #[.int .u32 0, .int .u32 0]) ∧ Below w.heap.size w w' := by
  refine (callsIn_wide (n := 12)).1 ?_
  refine callsIn_of_wp_marks Try.func28 rfl trivial ?_ rfl
  simp only [Try.ntmps28, List.size_toArray, List.length_cons, List.length_nil, Nat.reduceAdd, Nat.reduceSub, Array.replicate_succ, Array.replicate_zero, List.push_toArray, List.append_toArray, List.nil_append, List.cons_append]
  have h := ((TN.start w 26).alloc x0 x1).alloc 0 0
  rw [show (w.alloc (Obj.cells #[.int .u32 x0, .int .u32 x1] 26)).heap.size = w.heap.size + 1 by simp] at h
  have HB := Lib.hid h.below
  have HR : Hid (Pt _ (w.heap.size + 1) 26 (0, 0)) := (h.fresh _ List.mem_cons_self).1
  clear h
  obtain ⟨c0, c1⟩ := HR.out.cells
  obtain ⟨z0, z1⟩ := HR.out.frz
  gi_wp2_with fail
  generalize (w.alloc (Obj.cells #[.int .u32 x0, .int .u32 x1] 26)).alloc (Obj.cells #[.int .u32 0, .int .u32 0] 26) = W0 at *
  refine ⟨.agg #[.int .u32 0, .int .u32 0], ?_, rfl, HB.out⟩
  simp [results, Try.results28, go_sem, c0, c1]
end
theorem ppoly_all (v : Value) (cs : List (Nat × Nat)) (x0 x1 : Nat) (w : World) (hr : Row w v cs) (h70 : cs.length ≤ 1000) :
    Calls Try.prog 28 #[v, .agg #[.int .u32 x0, .int .u32 x1]] w fun e w' => ∃ a b : Nat, e = .returned (.agg #[.int .u32 a, .int .u32 b]) ∧ (a, b) = ho (x0, x1) cs ∧ Below w.heap.size w w' := by
  by_cases h : cs = []
  · subst h
    obtain ⟨p, cap, rfl, _⟩ := hr
    exact (ppoly_nil p cap x0 x1 w).mono fun _ _ ⟨h1, h2⟩ => ⟨0, 0, h1, rfl, h2⟩
  · exact ppoly_at v cs x0 x1 w hr h h70
end Go.Proofs.Ytlbgpfddmkpakaa.Nu
