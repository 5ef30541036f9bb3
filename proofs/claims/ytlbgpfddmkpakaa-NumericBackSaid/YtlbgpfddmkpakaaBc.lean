/- Numeric: slices.Collect. -/
import Derived.Test.YtlbgpfddmkpakaaBb
namespace Go.Proofs.Ytlbgpfddmkpakaa.Nu
open Go.RowKit Go.Shelf
attribute [local go_sem] Oper.semAt_some
set_option linter.unusedVariables false
set_option linter.unusedSimpArgs false

theorem cell_lt {w : World} {b o : Nat} {v : Value} (h : w.cell? ⟨b, o, none⟩ = some v) : b < w.heap.size := by
  rcases Nat.lt_or_ge b w.heap.size with hlt | hge
  · exact hlt
  · simp [World.cell?, Array.getElem?_eq_none hge] at h
theorem append_at (Bf Bs a : Nat) {v : Value} {l : List (Nat × Nat)} (hne : l ≠ []) (hlen : l.length ≤ 1000) (ha : a ≤ 1) (w : World) (hr : Row w v l) (hf : w.cell? ⟨Bf, 0, none⟩ = some (.int .i64 a)) (hs : w.cell? ⟨Bs, 0, none⟩ = some v) :
    Calls Try.prog 66 #[.slice none 0 0, .func (.func 67) #[] #[.pointer (some ⟨Bf, 0, none⟩), .pointer (some ⟨Bs, 0, none⟩)]] w fun e W' => ∃ v, e = .returned v ∧ W'.ownsRow w.heap.size 26 2 v (halfOf l a).length (cellsN (halfOf l a)) ∧ Below w.heap.size w W' := by
  obtain ⟨p, cap, rfl, hcap, hr⟩ := hr
  rcases hr with hr | ⟨g, off, rfl, hg, hc⟩
  · exact absurd hr hne
  exact callsIn_wide.1 (append_in Fence.wide 6 trivial trivial rfl (Nat.le_refl _) Bf Bs a g off cap l hlen ha w hg (cell_lt hs) (cell_lt hf) hf hs hc)
set_option maxRecDepth 100000 in
set_option maxHeartbeats 1000000 in
theorem collect_at (Bf Bs a : Nat) {v : Value} {l : List (Nat × Nat)} (hne : l ≠ []) (hlen : l.length ≤ 1000) (ha : a ≤ 1) (w : World) (hr : Row w v l) (hf : w.cell? ⟨Bf, 0, none⟩ = some (.int .i64 a)) (hs : w.cell? ⟨Bs, 0, none⟩ = some v) :
    Calls Try.prog 62 #[.func (.func 67) #[] #[.pointer (some ⟨Bf, 0, none⟩), .pointer (some ⟨Bs, 0, none⟩)]] w fun e W' => ∃ v, e = .returned v ∧ W'.ownsRow w.heap.size 26 2 v (halfOf l a).length (cellsN (halfOf l a)) ∧ Below w.heap.size w W' := by
  have HA := Lib.hid (append_at Bf Bs a hne hlen ha w hr hf hs)
  clear hr hf hs
  refine (callsIn_wide (n := 9)).1 ?_
  refine callsIn_of_wp Try.func62 rfl trivial ?_ rfl
  simp only [Try.ntmps62, List.size_toArray, List.length_cons, List.length_nil, Nat.reduceAdd, Nat.reduceSub, Array.replicate_succ, Array.replicate_zero, List.push_toArray, List.append_toArray, List.nil_append, List.cons_append]
  gi_wp2_with ((refine ⟨trivial, ?_⟩; gi_at_call 66; refine (callsIn_wide.2 HA.out).mono ?_; clear HA; rintro e w' ⟨v', rfl, ho, hb⟩))
  go_ret
  exact ⟨_, rfl, ho, hb⟩
end Go.Proofs.Ytlbgpfddmkpakaa.Nu
