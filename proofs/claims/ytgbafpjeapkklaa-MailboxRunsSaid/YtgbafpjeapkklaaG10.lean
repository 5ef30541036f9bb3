/- Parts Sf, Sg, Sh, Si, Sj, Sk, Sl, Sm, So, Sn, Mu, Ni, Sp of the proof. -/
import Derived.ProofKit
import Derived.OpenShut
import Derived.Carry
import Derived.Deep.Grids
import Derived.Deep.SlicePairs
import Derived.Test.YtgbafpjeapkklaaG0
import Derived.Test.YtgbafpjeapkklaaG1
import Derived.Test.YtgbafpjeapkklaaG9
namespace Go.Proofs.Ytgbafpjeapkklaa.Mb
open Go.RowKit
set_option linter.unusedVariables false
set_option linter.unusedSimpArgs false
structure R2 (w : World) (ns ps : Value) (m d : Int) (b : Bool) (W : World) : Prop where
  below : Below w.heap.size w W
  box : W.heap[w.heap.size]? = some (.cells #[ns, .int .i64 m, .int .i64 d, ps, .bool b] 46 (0, 0))
  out : W.heap[w.heap.size + 1]? = some (.cells #[.slice none 0 0, .int .i64 0, .int .i64 0, .slice none 0 0, .bool false] 46 (0, 0))
section
variable {w : World} {ns ps : Value} {m d : Int} {b : Bool} {W W' : World}
theorem R2.step (h : R2 w ns ps m d b W) (hb : Below W.heap.size W W') : R2 w ns ps m d b W' :=
  ⟨h.below.trans (hb.mono h.below.size), (hb.block _ (blk_lt h.box)).trans h.box, (hb.block _ (blk_lt h.out)).trans h.out⟩
theorem R2.mk' (w : World) (ns ps : Value) (m d : Int) (b : Bool) : R2 w ns ps m d b ((w.alloc (Obj.cells #[ns, .int .i64 m, .int .i64 d, ps, .bool b] 46)).alloc (Obj.cells #[.slice none 0 0, .int .i64 0, .int .i64 0, .slice none 0 0, .bool false] 46)) := by
  have h1 : Below w.heap.size w (w.alloc (Obj.cells #[ns, .int .i64 m, .int .i64 d, ps, .bool b] 46)) := (Below.refl _ _).alloc (Nat.le_refl _) _
  have h2 := (Below.refl (w.alloc (Obj.cells #[ns, .int .i64 m, .int .i64 d, ps, .bool b] 46)).heap.size (w.alloc (Obj.cells #[ns, .int .i64 m, .int .i64 d, ps, .bool b] 46))).alloc (Nat.le_refl _) (Obj.cells #[.slice none 0 0, .int .i64 0, .int .i64 0, .slice none 0 0, .bool false] 46)
  have h3 := (MapKept.heap_alloc w (Obj.cells #[ns, .int .i64 m, .int .i64 d, ps, .bool b] 46)).1
  refine ⟨h1.trans (h2.mono h1.size), (h2.block _ (blk_lt h3)).trans h3, ?_⟩
  have h4 := (MapKept.heap_alloc (w.alloc (Obj.cells #[ns, .int .i64 m, .int .i64 d, ps, .bool b] 46)) (Obj.cells #[.slice none 0 0, .int .i64 0, .int .i64 0, .slice none 0 0, .bool false] 46)).1
  simpa using h4
theorem R2.facts (h : R2 w ns ps m d b W) :
    W.cell? ⟨w.heap.size, 0, none⟩ = some ns ∧ W.cell? ⟨w.heap.size, 1, none⟩ = some (.int .i64 m) ∧ W.cell? ⟨w.heap.size, 2, none⟩ = some (.int .i64 d) ∧ W.cell? ⟨w.heap.size, 3, none⟩ = some ps ∧ W.cell? ⟨w.heap.size, 4, none⟩ = some (.bool b) :=
  ⟨cell_blk h.box 0, cell_blk h.box 1, cell_blk h.box 2, cell_blk h.box 3, cell_blk h.box 4⟩
theorem R2.zero (h : R2 w ns ps m d b W) :
    W.cell? ⟨w.heap.size + 1, 0, none⟩ = some (.slice none 0 0) ∧ W.cell? ⟨w.heap.size + 1, 1, none⟩ = some (.int .i64 0) ∧ W.cell? ⟨w.heap.size + 1, 2, none⟩ = some (.int .i64 0) ∧ W.cell? ⟨w.heap.size + 1, 3, none⟩ = some (.slice none 0 0) ∧ W.cell? ⟨w.heap.size + 1, 4, none⟩ = some (.bool false) :=
  ⟨cell_blk h.out 0, cell_blk h.out 1, cell_blk h.out 2, cell_blk h.out 3, cell_blk h.out 4⟩
theorem R2.frz (h : R2 w ns ps m d b W) (o : Nat) : W.frozen? ⟨w.heap.size, o, none⟩ = false ∧ W.frozen? ⟨w.heap.size + 1, o, none⟩ = false := ⟨frozen_blk h.box o, frozen_blk h.out o⟩
theorem R2.set4 (h : R2 w ns ps m d b W) (c : Bool) : R2 w ns ps m d c (W.setCell ⟨w.heap.size, 4, none⟩ (.bool c)) :=
  ⟨h.below.setCell (p := ⟨w.heap.size, 4, none⟩) (Nat.le_refl _) _, blk_set h.box 4 _, blk_set_ne h.out ⟨w.heap.size, 4, none⟩ (by show w.heap.size + 1 ≠ w.heap.size; omega) _⟩
theorem R2.set2 (h : R2 w ns ps m d b W) (c : Int) : R2 w ns ps m c b (W.setCell ⟨w.heap.size, 2, none⟩ (.int .i64 c)) :=
  ⟨h.below.setCell (p := ⟨w.heap.size, 2, none⟩) (Nat.le_refl _) _, blk_set h.box 2 _, blk_set_ne h.out ⟨w.heap.size, 2, none⟩ (by show w.heap.size + 1 ≠ w.heap.size; omega) _⟩
theorem R2.fin (h : R2 w ns ps m d b W) {v0 v1 v2 v3 v4 : Value}
    (hW : W' = (((((W.setCell ⟨w.heap.size + 1, 0, none⟩ v0).setCell ⟨w.heap.size + 1, 1, none⟩ v1).setCell ⟨w.heap.size + 1, 2, none⟩ v2).setCell ⟨w.heap.size + 1, 3, none⟩ v3).setCell ⟨w.heap.size + 1, 4, none⟩ v4)) :
    Below w.heap.size w W' ∧ W'.cell? ⟨w.heap.size + 1, 0, none⟩ = some v0 ∧ W'.cell? ⟨w.heap.size + 1, 1, none⟩ = some v1 ∧ W'.cell? ⟨w.heap.size + 1, 2, none⟩ = some v2 ∧ W'.cell? ⟨w.heap.size + 1, 3, none⟩ = some v3 ∧ W'.cell? ⟨w.heap.size + 1, 4, none⟩ = some v4 := by
  subst hW
  obtain ⟨f1, f2, _⟩ := five h.out v0 v1 v2 v3 v4
  exact ⟨f2 _ _ (Nat.le_succ _) h.below, cell_blk f1 0, cell_blk f1 1, cell_blk f1 2, cell_blk f1 3, cell_blk f1 4⟩
end
set_option maxRecDepth 100000 in
set_option maxHeartbeats 4000000 in
theorem rmark_at {q : Q} (hq : WF q) {v : Value} (w : World) (hv : StR w v q) :
    Calls Try.prog 51 #[v] w fun e w' => ∃ v', e = .returned (.tuple #[v', .bool (decide (q.done = q.m)), .int .i64 0]) ∧ StR w' v' { q with empty := decide (q.done = q.m) } ∧ Below w.heap.size w w' := by
  have HCK : Hid (∀ W, Below w.heap.size w W → Calls Try.prog 20 #[v] W fun e w' => e = .returned (.int .i64 0) ∧ Below W.heap.size W w') := fun W h => rcheck_at hq W (hv.below h)
  obtain ⟨ns, ps, rfl, hn, hp⟩ := hv
  have HST : Hid (∀ W c, Below w.heap.size w W → StR W (.agg #[ns, .int .i64 q.m, .int .i64 q.done, ps, .bool c]) { q with empty := c }) := fun W c h => ⟨ns, ps, rfl, hn.below h, hp.below h⟩
  obtain ⟨pn, cn, hA⟩ := hn.slice
  obtain ⟨pp, cp, hB⟩ := hp.slice
  subst hA
  subst hB
  have HB0 : Hid (R2 w (.slice pn q.nodes.length cn) (.slice pp q.pushes.length cp) q.m q.done q.empty ((w.alloc (Obj.cells #[.slice pn q.nodes.length cn, .int .i64 q.m, .int .i64 q.done, .slice pp q.pushes.length cp, .bool q.empty] 46)).alloc (Obj.cells #[.slice none 0 0, .int .i64 0, .int .i64 0, .slice none 0 0, .bool false] 46))) := R2.mk' w _ _ _ _ _
  obtain ⟨t, ht⟩ : ∃ t : Bool, t = decide (q.done = q.m) := ⟨_, rfl⟩
  have et : ((q.done : Int) == (q.m : Int)) = t := by
    rw [ht]
    by_cases h : q.done = q.m
    · simp [h]
    · simp [h]; omega
  rw [← ht]
  clear hn hp ht hq
  generalize hM : q.m = M at *
  generalize hD : q.done = D at *
  clear hM hD
  go_enter Try.func51, Try.ntmps51
  go_upto_region 1 with fail
  generalize ((w.alloc (Obj.cells #[.slice pn q.nodes.length cn, .int .i64 M, .int .i64 D, .slice pp q.pushes.length cp, .bool q.empty] 46)).alloc (Obj.cells #[.slice none 0 0, .int .i64 0, .int .i64 0, .slice none 0 0, .bool false] 46)) = W0 at *
  obtain ⟨c0, c1, c2, c3, c4⟩ := HB0.out.facts
  go_wp2_with fail
  refine (HCK.out _ HB0.out.below).mono ?_
  rintro e W1 ⟨rfl, hb1⟩
  have HB1 := Lib.hid (HB0.out.step hb1)
  clear hb1 c0 c1 c2 c3 c4
  obtain ⟨c0, c1, c2, c3, c4⟩ := HB1.out.facts
  have f4 := (HB1.out.frz 4).1
  go_upto_region 5 with fail
  clear c0 c1 c2 c3 c4 f4
  have HB2 := Lib.hid (HB1.out.set4 t)
  generalize W1.setCell ⟨w.heap.size, 4, none⟩ (.bool t) = W2 at *
  obtain ⟨c0, c1, c2, c3, c4⟩ := HB2.out.facts
  obtain ⟨z0, z1, z2, z3, z4⟩ := HB2.out.zero
  have f0 := (HB2.out.frz 0).2
  have f1 := (HB2.out.frz 1).2
  have f2 := (HB2.out.frz 2).2
  have f3 := (HB2.out.frz 3).2
  have f4 := (HB2.out.frz 4).2
  go_region
  obtain ⟨W5, hW5⟩ : ∃ W5, W5 = (((((W2.setCell ⟨w.heap.size + 1, 0, none⟩ (.slice pn q.nodes.length cn)).setCell ⟨w.heap.size + 1, 1, none⟩ (.int .i64 M)).setCell ⟨w.heap.size + 1, 2, none⟩ (.int .i64 D)).setCell ⟨w.heap.size + 1, 3, none⟩ (.slice pp q.pushes.length cp)).setCell ⟨w.heap.size + 1, 4, none⟩ (.bool t)) := ⟨_, rfl⟩
  rw [← hW5]
  obtain ⟨k1, k2⟩ := HB2.out.fin hW5
  have K1 := Lib.hid k1
  clear c0 c1 c2 c3 c4 z0 z1 z2 z3 z4 f0 f1 f2 f3 f4 k1 hW5
  obtain ⟨c0, c1, c2, c3, c4⟩ := k2
  go_wp2_with fail
  refine bodyPost_ret (v := .tuple #[.agg #[.slice pn q.nodes.length cn, .int .i64 M, .int .i64 D, .slice pp q.pushes.length cp, .bool t], .bool t, .int .i64 0]) (by simp [results, Try.results51, go_sem, c0, c1, c2, c3, c4]) rfl ⟨_, rfl, ?_, ?_⟩
  · exact HST.out _ _ K1.out.drew
  · exact K1.out.drew
end Go.Proofs.Ytgbafpjeapkklaa.Mb
namespace Go.Proofs.Ytgbafpjeapkklaa.Mb
open Go.RowKit
set_option linter.unusedVariables false
set_option linter.unusedSimpArgs false
set_option maxRecDepth 100000 in
set_option maxHeartbeats 4000000 in
theorem rpop_no {q : Q} (hq : WF q) {ns ps : Value} (hc : q.can q.done = false) (w : World) (hn : TriT w 105 ns q.nodes) (hp : TriT w 122 ps q.pushes) :
    Calls Try.prog 49 #[.agg #[ns, .int .i64 q.m, .int .i64 q.done, ps, .bool q.empty]] w fun e w' => e = .returned (.tuple #[.agg #[ns, .int .i64 q.m, .int .i64 q.done, ps, .bool q.empty], .int .i64 0, .bool false, .int .i64 0]) ∧ Below w.heap.size w w' := by
  have HCK : Hid (∀ W, Below w.heap.size w W → Calls Try.prog 20 #[.agg #[ns, .int .i64 q.m, .int .i64 q.done, ps, .bool q.empty]] W fun e w' => e = .returned (.int .i64 0) ∧ Below W.heap.size W w') := fun W h => rcheck_at hq W ⟨ns, ps, rfl, hn.below h, hp.below h⟩
  have hdm := hq.done
  have hfew := hq.few
  have HNS : Hid (∃ g off c, ns = .slice (some ⟨g, off, none⟩) (q.m + 1) c ∧ g < w.heap.size ∧ ∀ k, k ≤ q.m → w.cell? ⟨g, off + k * 3, none⟩ = some (.int .i64 (q.node k).1) ∧ w.cell? ⟨g, off + k * 3 + 2, none⟩ = some (.int .i64 (q.node k).2.2)) := by
    obtain ⟨⟨p, c, e, _, h1⟩, _⟩ := hn
    rcases h1 with h1 | ⟨g, off, rfl, h2, h3⟩
    · have := nodes_len q; rw [h1] at this; simp at this
    · exact ⟨g, off, c, by rw [e, nodes_len], h2, fun k hk => ⟨(h3 k _ (nodes_get hk)).1, (h3 k _ (nodes_get hk)).2.2⟩⟩
  obtain ⟨gn, offn, cn, rfl, hgn, hcn⟩ := HNS.out
  obtain ⟨pp, cp, hB⟩ := hp.slice
  subst hB
  have HB0 : Hid (R2 w (.slice (some ⟨gn, offn, none⟩) (q.m + 1) cn) (.slice pp q.pushes.length cp) q.m q.done q.empty ((w.alloc (Obj.cells #[.slice (some ⟨gn, offn, none⟩) (q.m + 1) cn, .int .i64 q.m, .int .i64 q.done, .slice pp q.pushes.length cp, .bool q.empty] 46)).alloc (Obj.cells #[.slice none 0 0, .int .i64 0, .int .i64 0, .slice none 0 0, .bool false] 46))) := R2.mk' w _ _ _ _ _
  have hd2 := (hcn q.done hdm).2
  rw [node_nxt, hc] at hd2
  rw [if_neg (by simp)] at hd2
  clear hn hp hq HNS hcn hc
  generalize hM : q.m = M at *
  generalize hD : q.done = D at *
  have e0 : ∀ W, Below w.heap.size w W → W.cell? ⟨gn, offn + D * 3 + 2, none⟩ = some (.int .i64 (-1)) := fun W h => (h.cell (p := ⟨gn, offn + D * 3 + 2, none⟩) hgn).trans hd2
  have E0 := Lib.hid e0
  have t1 : decide ((D : Int) < (M : Int) + 1) = true := decide_eq_true (by omega)
  have t2 : (D : Int) < (M : Int) + 1 := by omega
  clear hM hD hd2 e0 hfew hdm
  go_enter Try.func49, Try.ntmps49
  go_upto_region 1 with fail
  generalize ((w.alloc (Obj.cells #[.slice (some ⟨gn, offn, none⟩) (M + 1) cn, .int .i64 M, .int .i64 D, .slice pp q.pushes.length cp, .bool q.empty] 46)).alloc (Obj.cells #[.slice none 0 0, .int .i64 0, .int .i64 0, .slice none 0 0, .bool false] 46)) = W0 at *
  obtain ⟨c0, c1, c2, c3, c4⟩ := HB0.out.facts
  go_wp2_with fail
  refine (HCK.out _ HB0.out.below).mono ?_
  rintro e W1 ⟨rfl, hb1⟩
  have HB1 := Lib.hid (HB0.out.step hb1)
  clear hb1 c0 c1 c2 c3 c4
  obtain ⟨c0, c1, c2, c3, c4⟩ := HB1.out.facts
  have g0 := E0.out _ HB1.out.below
  obtain ⟨z0, z1, z2, z3, z4⟩ := HB1.out.zero
  have f0 := (HB1.out.frz 0).2
  have f1 := (HB1.out.frz 1).2
  have f2 := (HB1.out.frz 2).2
  have f3 := (HB1.out.frz 3).2
  have f4 := (HB1.out.frz 4).2
  go_wp2_with fail
  obtain ⟨W5, hW5⟩ : ∃ W5, W5 = (((((W1.setCell ⟨w.heap.size + 1, 0, none⟩ (.slice (some ⟨gn, offn, none⟩) (M + 1) cn)).setCell ⟨w.heap.size + 1, 1, none⟩ (.int .i64 M)).setCell ⟨w.heap.size + 1, 2, none⟩ (.int .i64 D)).setCell ⟨w.heap.size + 1, 3, none⟩ (.slice pp q.pushes.length cp)).setCell ⟨w.heap.size + 1, 4, none⟩ (.bool q.empty)) := ⟨_, rfl⟩
  rw [← hW5]
  obtain ⟨k1, k2⟩ := HB1.out.fin hW5
  have K1 := Lib.hid k1
  clear c0 c1 c2 c3 c4 z0 z1 z2 z3 z4 f0 f1 f2 f3 f4 k1 hW5
  obtain ⟨c0, c1, c2, c3, c4⟩ := k2
  refine bodyPost_ret (v := .tuple #[.agg #[.slice (some ⟨gn, offn, none⟩) (M + 1) cn, .int .i64 M, .int .i64 D, .slice pp q.pushes.length cp, .bool q.empty], .int .i64 0, .bool false, .int .i64 0]) (by simp [results, Try.results49, go_sem, c0, c1, c2, c3, c4]) rfl ⟨rfl, K1.out⟩
set_option maxRecDepth 100000 in
set_option maxHeartbeats 4000000 in
theorem rpop_yes {q : Q} (hq : WF q) {ns ps : Value} (hc : q.can q.done = true) (w : World) (hn : TriT w 105 ns q.nodes) (hp : TriT w 122 ps q.pushes) :
    Calls Try.prog 49 #[.agg #[ns, .int .i64 q.m, .int .i64 q.done, ps, .bool q.empty]] w fun e w' => e = .returned (.tuple #[.agg #[ns, .int .i64 q.m, .int .i64 ((q.done + 1 : Nat) : Int), ps, .bool q.empty], .int .i64 (q.val q.done), .bool true, .int .i64 0]) ∧ Below w.heap.size w w' := by
  have HCK : Hid (∀ W, Below w.heap.size w W → Calls Try.prog 20 #[.agg #[ns, .int .i64 q.m, .int .i64 q.done, ps, .bool q.empty]] W fun e w' => e = .returned (.int .i64 0) ∧ Below W.heap.size W w') := fun W h => rcheck_at hq W ⟨ns, ps, rfl, hn.below h, hp.below h⟩
  have hdm := hq.done
  have hfew := hq.few
  have HNS : Hid (∃ g off c, ns = .slice (some ⟨g, off, none⟩) (q.m + 1) c ∧ g < w.heap.size ∧ ∀ k, k ≤ q.m → w.cell? ⟨g, off + k * 3, none⟩ = some (.int .i64 (q.node k).1) ∧ w.cell? ⟨g, off + k * 3 + 2, none⟩ = some (.int .i64 (q.node k).2.2)) := by
    obtain ⟨⟨p, c, e, _, h1⟩, _⟩ := hn
    rcases h1 with h1 | ⟨g, off, rfl, h2, h3⟩
    · have := nodes_len q; rw [h1] at this; simp at this
    · exact ⟨g, off, c, by rw [e, nodes_len], h2, fun k hk => ⟨(h3 k _ (nodes_get hk)).1, (h3 k _ (nodes_get hk)).2.2⟩⟩
  obtain ⟨gn, offn, cn, rfl, hgn, hcn⟩ := HNS.out
  obtain ⟨pp, cp, hB⟩ := hp.slice
  subst hB
  have HB0 : Hid (R2 w (.slice (some ⟨gn, offn, none⟩) (q.m + 1) cn) (.slice pp q.pushes.length cp) q.m q.done q.empty ((w.alloc (Obj.cells #[.slice (some ⟨gn, offn, none⟩) (q.m + 1) cn, .int .i64 q.m, .int .i64 q.done, .slice pp q.pushes.length cp, .bool q.empty] 46)).alloc (Obj.cells #[.slice none 0 0, .int .i64 0, .int .i64 0, .slice none 0 0, .bool false] 46))) := R2.mk' w _ _ _ _ _
  have hd2 := (hcn q.done hdm).2
  rw [node_nxt, hc] at hd2
  have hlt : q.done < q.m := by
    unfold Q.can at hc
    simp at hc
    exact hc.1
  have hd0 := (hcn (q.done + 1) (by omega)).1
  rw [node_val] at hd0
  rw [if_pos rfl] at hd2
  obtain ⟨vv, hvv⟩ : ∃ vv, vv = q.val q.done := ⟨_, rfl⟩
  rw [← hvv] at hd0 ⊢
  obtain ⟨D', hD'⟩ : ∃ D' : Nat, D' = q.done + 1 := ⟨_, rfl⟩
  have hDi : (q.done : Int) + 1 = (D' : Int) := by omega
  rw [hDi] at hd2
  rw [← hD'] at hd0 ⊢
  clear hvv
  clear hn hp hq HNS hcn hc
  generalize hM : q.m = M at *
  generalize hD : q.done = D at *
  have e0 : ∀ W, Below w.heap.size w W → W.cell? ⟨gn, offn + D * 3 + 2, none⟩ = some (.int .i64 (D' : Int)) := fun W h => (h.cell (p := ⟨gn, offn + D * 3 + 2, none⟩) hgn).trans hd2
  have e1 : ∀ W, Below w.heap.size w W → W.cell? ⟨gn, offn + D' * 3, none⟩ = some (.int .i64 vv) := fun W h => (h.cell (p := ⟨gn, offn + D' * 3, none⟩) hgn).trans hd0
  have E1 := Lib.hid e1
  have t3 : decide ((D' : Int) < 0) = false := decide_eq_false (by omega)
  have t4 : decide ((0 : Int) ≤ (D' : Int)) = true := decide_eq_true (by omega)
  have t5 : decide ((D' : Int) < (M : Int) + 1) = true := decide_eq_true (by omega)
  have t6 : (D' : Int) < (M : Int) + 1 := by omega
  clear e1 hd0 hD' hDi
  have E0 := Lib.hid e0
  have t1 : decide ((D : Int) < (M : Int) + 1) = true := decide_eq_true (by omega)
  have t2 : (D : Int) < (M : Int) + 1 := by omega
  clear hM hD hd2 e0 hfew hdm hlt
  go_enter Try.func49, Try.ntmps49
  go_upto_region 1 with fail
  generalize ((w.alloc (Obj.cells #[.slice (some ⟨gn, offn, none⟩) (M + 1) cn, .int .i64 M, .int .i64 D, .slice pp q.pushes.length cp, .bool q.empty] 46)).alloc (Obj.cells #[.slice none 0 0, .int .i64 0, .int .i64 0, .slice none 0 0, .bool false] 46)) = W0 at *
  obtain ⟨c0, c1, c2, c3, c4⟩ := HB0.out.facts
  go_wp2_with fail
  refine (HCK.out _ HB0.out.below).mono ?_
  rintro e W1 ⟨rfl, hb1⟩
  have HB1 := Lib.hid (HB0.out.step hb1)
  clear hb1 c0 c1 c2 c3 c4
  obtain ⟨c0, c1, c2, c3, c4⟩ := HB1.out.facts
  have g0 := E0.out _ HB1.out.below
  have f2' := (HB1.out.frz 2).1
  go_upto_region 8 with fail
  clear c0 c1 c2 c3 c4 f2' g0
  have HB2 := Lib.hid (HB1.out.set2 D')
  generalize W1.setCell ⟨w.heap.size, 2, none⟩ (.int .i64 (D' : Int)) = W2 at *
  obtain ⟨c0, c1, c2, c3, c4⟩ := HB2.out.facts
  have g1 := E1.out _ HB2.out.below
  obtain ⟨z0, z1, z2, z3, z4⟩ := HB2.out.zero
  have f0 := (HB2.out.frz 0).2
  have f1 := (HB2.out.frz 1).2
  have f2 := (HB2.out.frz 2).2
  have f3 := (HB2.out.frz 3).2
  have f4 := (HB2.out.frz 4).2
  go_region
  obtain ⟨W5, hW5⟩ : ∃ W5, W5 = (((((W2.setCell ⟨w.heap.size + 1, 0, none⟩ (.slice (some ⟨gn, offn, none⟩) (M + 1) cn)).setCell ⟨w.heap.size + 1, 1, none⟩ (.int .i64 M)).setCell ⟨w.heap.size + 1, 2, none⟩ (.int .i64 D')).setCell ⟨w.heap.size + 1, 3, none⟩ (.slice pp q.pushes.length cp)).setCell ⟨w.heap.size + 1, 4, none⟩ (.bool q.empty)) := ⟨_, rfl⟩
  rw [← hW5]
  obtain ⟨k1, k2⟩ := HB2.out.fin hW5
  have K1 := Lib.hid k1
  clear c0 c1 c2 c3 c4 z0 z1 z2 z3 z4 f0 f1 f2 f3 f4 k1 hW5
  obtain ⟨c0, c1, c2, c3, c4⟩ := k2
  go_wp2_with fail
  refine bodyPost_ret (v := .tuple #[.agg #[.slice (some ⟨gn, offn, none⟩) (M + 1) cn, .int .i64 M, .int .i64 D', .slice pp q.pushes.length cp, .bool q.empty], .int .i64 vv, .bool true, .int .i64 0]) (by simp [results, Try.results49, go_sem, c0, c1, c2, c3, c4]) rfl ⟨rfl, K1.out.drew⟩
end Go.Proofs.Ytgbafpjeapkklaa.Mb
namespace Go.Proofs.Ytgbafpjeapkklaa.Mb
open Go.RowKit
set_option linter.unusedVariables false
set_option linter.unusedSimpArgs false
theorem R2.put {w : World} {ns ps : Value} {m d : Int} {b : Bool} {W W' : World} (h : R2 w ns ps m d b W) {d' : Int}
    (hW : W' = (((((W.setCell ⟨w.heap.size, 0, none⟩ ns).setCell ⟨w.heap.size, 1, none⟩ (.int .i64 m)).setCell ⟨w.heap.size, 2, none⟩ (.int .i64 d')).setCell ⟨w.heap.size, 3, none⟩ ps).setCell ⟨w.heap.size, 4, none⟩ (.bool b))) : R2 w ns ps m d' b W' := by
  subst hW
  obtain ⟨f1, f2, _⟩ := five h.box ns (.int .i64 m) (.int .i64 d') ps (.bool b)
  refine ⟨f2 _ _ (Nat.le_refl _) h.below, f1, ?_⟩
  have hne : ∀ o, w.heap.size + 1 ≠ (⟨w.heap.size, o, none⟩ : Addr).block := fun o => by show w.heap.size + 1 ≠ w.heap.size; omega
  exact blk_set_ne (blk_set_ne (blk_set_ne (blk_set_ne (blk_set_ne h.out _ (hne 0) _) _ (hne 1) _) _ (hne 2) _) _ (hne 3) _) _ (hne 4) _
theorem R2.grown {w : World} {ns ps : Value} {m d : Int} {b : Bool} {W W' : World} (h : R2 w ns ps m d b W) {v : Value} {n : Nat} {xs : List Value}
    (hv : W.ownsRow w.heap.size 3 1 v n xs) (hg : W.grownBy W' v.ownBlock) : R2 w ns ps m d b W' := by
  have hne : ∀ (k : Nat) (C : Array Value) (t : TypeId) (f : Nat × Nat), W.heap[k]? = some (.cells C t f) → t ≠ 3 → some k ≠ v.ownBlock := by
    intro k C t f hk ht e
    rcases hv.2 with ⟨rfl, _⟩ | ⟨g', cap, cur, rfl, _, hgg, _⟩
    · simp [Value.ownBlock] at e
    · simp [Value.ownBlock] at e
      subst e
      rw [hk] at hgg
      injection hgg with hgg
      injection hgg with _ h2 _
      exact ht h2
  have hk : ∀ (k : Nat) (C : Array Value) (t : TypeId) (f : Nat × Nat), W.heap[k]? = some (.cells C t f) → t ≠ 3 → W'.heap[k]? = some (.cells C t f) := fun k C t f h1 h2 => (hg.block k (blk_lt h1) (hne k C t f h1 h2)).trans h1
  exact ⟨h.below.grown hg h.below.size (fun k hk => by have := hv.lt k hk; omega), hk _ _ _ _ h.box (by decide), hk _ _ _ _ h.out (by decide)⟩
set_option maxRecDepth 100000 in
set_option maxHeartbeats 8000000 in
theorem rbatch_at {q : Q} (hq : WF q) {v : Value} (most : Nat) (w : World) (hv : StR w v q) :
    Calls Try.prog 50 #[v, .int .i64 most] w fun e w' => ∃ v' u, e = .returned (.tuple #[v', u, .int .i64 0]) ∧ StR w' v' { q with done := q.done + q.pops most q.done } ∧
      w'.ownsRow w.heap.size 3 1 u (q.pops most q.done) (ints (q.took q.done (q.pops most q.done))) ∧ Below w.heap.size w w' := by
  have HCK : Hid (∀ W, Below w.heap.size w W → Calls Try.prog 20 #[v] W fun e w' => e = .returned (.int .i64 0) ∧ Below W.heap.size W w') := fun W h => rcheck_at hq W (hv.below h)
  obtain ⟨ns, ps, rfl, hn, hp⟩ := hv
  have HST : Hid (∀ W (d : Nat), Below w.heap.size w W → StR W (.agg #[ns, .int .i64 q.m, .int .i64 d, ps, .bool q.empty]) { q with done := d }) := fun W d h => ⟨ns, ps, rfl, hn.below h, hp.below h⟩
  have HNO : Hid (∀ W (d : Nat), WF { q with done := d } → q.can d = false → Below w.heap.size w W → Calls Try.prog 49 #[.agg #[ns, .int .i64 q.m, .int .i64 d, ps, .bool q.empty]] W fun e w' => e = .returned (.tuple #[.agg #[ns, .int .i64 q.m, .int .i64 d, ps, .bool q.empty], .int .i64 0, .bool false, .int .i64 0]) ∧ Below W.heap.size W w') := fun W d h1 h2 h3 => rpop_no h1 h2 W (hn.below h3) (hp.below h3)
  have HYES : Hid (∀ W (d : Nat), WF { q with done := d } → q.can d = true → Below w.heap.size w W → Calls Try.prog 49 #[.agg #[ns, .int .i64 q.m, .int .i64 d, ps, .bool q.empty]] W fun e w' => e = .returned (.tuple #[.agg #[ns, .int .i64 q.m, .int .i64 ((d + 1 : Nat) : Int), ps, .bool q.empty], .int .i64 (q.val d), .bool true, .int .i64 0]) ∧ Below W.heap.size W w') := fun W d h1 h2 h3 => rpop_yes h1 h2 W (hn.below h3) (hp.below h3)
  have HWF : Hid (∀ d, WF { q with done := d } → q.can d = true → WF { q with done := d + 1 }) := fun d h1 h2 => pop_wf h1 h2
  have HW0 : Hid (WF { q with done := q.done }) := hq
  obtain ⟨pn, cn, hA⟩ := hn.slice
  obtain ⟨pp, cp, hB⟩ := hp.slice
  subst hA
  subst hB
  have HB0 : Hid (R2 w (.slice pn q.nodes.length cn) (.slice pp q.pushes.length cp) q.m q.done q.empty ((w.alloc (Obj.cells #[.slice pn q.nodes.length cn, .int .i64 q.m, .int .i64 q.done, .slice pp q.pushes.length cp, .bool q.empty] 46)).alloc (Obj.cells #[.slice none 0 0, .int .i64 0, .int .i64 0, .slice none 0 0, .bool false] 46))) := R2.mk' w _ _ _ _ _
  have HF := Lib.hid hq.few
  have HDM := Lib.hid hq.done
  obtain ⟨i0, hi, hz0, hz1, hz2⟩ := info_parts info3
  have HI := Lib.hid hi; clear hi
  have HZ0 := Lib.hid hz0; clear hz0
  have HZ1 := Lib.hid hz1; clear hz1
  have HZ2 := Lib.hid hz2; clear hz2
  have tm : decide ((most : Int) < 0) = false := decide_eq_false (by omega)
  clear hn hp hq
  generalize hNL : q.nodes.length = NL at *
  generalize hPL : q.pushes.length = PL at *
  generalize hM : q.m = M at *
  generalize hD : q.done = D at *
  have HM := Lib.hid hM
  have HD := Lib.hid hD
  clear hM hD hNL hPL
  go_enter Try.func50, Try.ntmps50
  go_upto_region 1 with fail
  generalize ((w.alloc (Obj.cells #[.slice pn NL cn, .int .i64 M, .int .i64 D, .slice pp PL cp, .bool q.empty] 46)).alloc (Obj.cells #[.slice none 0 0, .int .i64 0, .int .i64 0, .slice none 0 0, .bool false] 46)) = W0 at *
  obtain ⟨c0, c1, c2, c3, c4⟩ := HB0.out.facts
  go_wp2_with fail
  refine (HCK.out _ HB0.out.below).mono ?_
  rintro e W1 ⟨rfl, hb1⟩
  have HB1 := Lib.hid (HB0.out.step hb1)
  clear hb1 c0 c1 c2 c3 c4
  have hmade := World.ownsRow_made W1 (e := 3) (size := 1) (base := w.heap.size) #[] 0 (by have := HB1.out.below.size; omega) (by decide) rfl
  have hal : Below W1.heap.size W1 (W1.alloc (Obj.cells #[] 3)) := (Below.refl _ _).alloc (Nat.le_refl _) _
  have HB2 := Lib.hid (HB1.out.step hal)
  have HU0 : Hid ((W1.alloc (Obj.cells #[] 3)).ownsRow w.heap.size 3 1 (.slice (some ⟨W1.heap.size, 0, none⟩) 0 0) 0 (ints (q.took D 0))) := hmade
  clear hmade hal
  go_upto_region 7 with fail
  generalize hW2 : W1.alloc (Obj.cells #[] 3) = W2 at *
  clear hW2
  go_loopw [8] (fun s8 wr => ∃ k : Nat, k ≤ most ∧ D + k ≤ M ∧ q.pops most D = k + q.pops (most - k) (D + k) ∧ WF { q with done := D + k } ∧ R2 w (.slice pn NL cn) (.slice pp PL cp) M ((D + k : Nat) : Int) q.empty wr ∧
    (∃ pu cu, s8 = .slice pu k cu ∧ wr.ownsRow w.heap.size 3 1 (.slice pu k cu) k (ints (q.took D k)))) (fun s8 _ => most - (lenOf s8))
  case atStart => exact ⟨0, by omega, by have := HDM.out; omega, by simp, by rw [Nat.add_zero, ← HD.out]; exact HW0.out, HB2.out, _, _, rfl, HU0.out⟩
  case round =>
    obtain ⟨k, hk, hkM, hpk, hwf, hco, pu, cu, rfl, hu⟩ := hrel
    obtain ⟨E, hE⟩ : ∃ E, E = D + k := ⟨_, rfl⟩
    rw [← hE] at hco hpk hkM hwf
    have HE := Lib.hid hE; clear hE
    have HCO := Lib.hid hco; clear hco
    have HU := Lib.hid hu; clear hu
    have HWE := Lib.hid hwf; clear hwf
    have HPKS := Lib.hid hpk; clear hpk
    by_cases hlt : k < most
    · have tl : decide ((k : Int) < (most : Int)) = true := decide_eq_true (by omega)
      obtain ⟨c0, c1, c2, c3, c4⟩ := HCO.out.facts
      cases hcan : q.can E with
      | false =>
        have HPK : Hid (q.pops most D = k) := by have h1 := HPKS.out; rw [pops_zero hcan] at h1; exact h1
        go_wp2_with fail
        refine (HNO.out _ E HWE.out hcan HCO.out.below).mono ?_
        rintro e WP ⟨rfl, hbx⟩
        have hbx2 := hbx.alloc hbx.size (Obj.cells #[.slice pn NL cn, .int .i64 M, .int .i64 (E : Int), .slice pp PL cp, .bool q.empty] 46)
        obtain ⟨WX, hWX⟩ : ∃ WX, WX = WP.alloc (Obj.cells #[.slice pn NL cn, .int .i64 M, .int .i64 (E : Int), .slice pp PL cp, .bool q.empty] 46) := ⟨_, rfl⟩
        rw [← hWX] at hbx2
        have HX := Lib.hid (HCO.out.step hbx2)
        have HUX : Hid (WX.ownsRow w.heap.size 3 1 (.slice pu k cu) k (ints (q.took D k))) := own1_below HU.out hbx2
        clear hbx hbx2 c0 c1 c2 c3 c4
        go_upto_region 12 with fail
        rw [← hWX]
        clear hWX
        obtain ⟨c0, c1, c2, c3, c4⟩ := HX.out.facts
        obtain ⟨z0, z1, z2, z3, z4⟩ := HX.out.zero
        have f0 := (HX.out.frz 0).2
        have f1 := (HX.out.frz 1).2
        have f2 := (HX.out.frz 2).2
        have f3 := (HX.out.frz 3).2
        have f4 := (HX.out.frz 4).2
        go_wp2_with fail
        obtain ⟨W5, hW5⟩ : ∃ W5, W5 = (((((WX.setCell ⟨w.heap.size + 1, 0, none⟩ (.slice pn NL cn)).setCell ⟨w.heap.size + 1, 1, none⟩ (.int .i64 M)).setCell ⟨w.heap.size + 1, 2, none⟩ (.int .i64 (E : Int))).setCell ⟨w.heap.size + 1, 3, none⟩ (.slice pp PL cp)).setCell ⟨w.heap.size + 1, 4, none⟩ (.bool q.empty)) := ⟨_, rfl⟩
        rw [← hW5]
        have HOX := Lib.hid (own5 HUX.out HX.out.out (by decide) (.slice pn NL cn) (.int .i64 M) (.int .i64 (E : Int)) (.slice pp PL cp) (.bool q.empty))
        rw [← hW5] at HOX
        obtain ⟨k1, k2⟩ := HX.out.fin hW5
        have K1 := Lib.hid k1
        clear c0 c1 c2 c3 c4 z0 z1 z2 z3 z4 f0 f1 f2 f3 f4 k1 hW5
        obtain ⟨c0, c1, c2, c3, c4⟩ := k2
        refine bodyPost_ret (v := .tuple #[.agg #[.slice pn NL cn, .int .i64 M, .int .i64 (E : Int), .slice pp PL cp, .bool q.empty], .slice pu k cu, .int .i64 0]) (by simp [results, Try.results50, go_sem, c0, c1, c2, c3, c4]) rfl ⟨_, .slice pu k cu, rfl, ?_, ?_, ?_⟩
        · rw [HPK.out, ← HE.out]; exact HST.out _ _ K1.out
        · rw [HPK.out]; exact HOX.out
        · exact K1.out
      | true =>
        go_wp2_with fail
        refine (HYES.out _ E HWE.out hcan HCO.out.below).mono ?_
        rintro e WP ⟨rfl, hbx⟩
        obtain ⟨x, hx⟩ : ∃ x, x = q.val E := ⟨_, rfl⟩
        rw [← hx]
        have HX := Lib.hid hx; clear hx
        obtain ⟨E', hE'⟩ : ∃ E' : Nat, E' = E + 1 := ⟨_, rfl⟩
        rw [← hE']
        have HE' := Lib.hid hE'; clear hE'
        have hbx2 := hbx.alloc hbx.size (Obj.cells #[.slice pn NL cn, .int .i64 M, .int .i64 (E' : Int), .slice pp PL cp, .bool q.empty] 46)
        obtain ⟨WQ, hWQ⟩ : ∃ WQ, WQ = WP.alloc (Obj.cells #[.slice pn NL cn, .int .i64 M, .int .i64 (E' : Int), .slice pp PL cp, .bool q.empty] 46) := ⟨_, rfl⟩
        obtain ⟨Y, hY⟩ : ∃ Y, Y = WP.heap.size := ⟨_, rfl⟩
        have hnb : WQ.heap[Y]? = some (.cells #[.slice pn NL cn, .int .i64 M, .int .i64 (E' : Int), .slice pp PL cp, .bool q.empty] 46 (0, 0)) := by rw [hWQ, hY]; exact (MapKept.heap_alloc _ _).1
        rw [← hWQ] at hbx2
        have HQ2 := Lib.hid (HCO.out.step hbx2)
        have HU2 : Hid (WQ.ownsRow w.heap.size 3 1 (.slice pu k cu) k (ints (q.took D k))) := own1_below HU.out hbx2
        clear hbx hbx2 c0 c1 c2 c3 c4
        go_upto_region 10 with fail
        rw [← hWQ, ← hY]
        clear hWQ hY
        obtain ⟨z0, z1, z2, z3, z4⟩ := HQ2.out.facts
        have c0 : WQ.cell? ⟨Y, 0, none⟩ = some (.slice pn NL cn) := cell_blk hnb 0
        have c1 : WQ.cell? ⟨Y, 1, none⟩ = some (.int .i64 M) := cell_blk hnb 1
        have c2 : WQ.cell? ⟨Y, 2, none⟩ = some (.int .i64 (E' : Int)) := cell_blk hnb 2
        have c3 : WQ.cell? ⟨Y, 3, none⟩ = some (.slice pp PL cp) := cell_blk hnb 3
        have c4 : WQ.cell? ⟨Y, 4, none⟩ = some (.bool q.empty) := cell_blk hnb 4
        have f0 := (HQ2.out.frz 0).1
        have f1 := (HQ2.out.frz 1).1
        have f2 := (HQ2.out.frz 2).1
        have f3 := (HQ2.out.frz 3).1
        have f4 := (HQ2.out.frz 4).1
        clear hnb
        go_upto_region 11 with fail
        obtain ⟨W6, hW6⟩ : ∃ W6, W6 = (((((WQ.setCell ⟨w.heap.size, 0, none⟩ (.slice pn NL cn)).setCell ⟨w.heap.size, 1, none⟩ (.int .i64 M)).setCell ⟨w.heap.size, 2, none⟩ (.int .i64 (E' : Int))).setCell ⟨w.heap.size, 3, none⟩ (.slice pp PL cp)).setCell ⟨w.heap.size, 4, none⟩ (.bool q.empty)) := ⟨_, rfl⟩
        rw [← hW6]
        have HU6 := Lib.hid (own5 HU2.out HQ2.out.box (by decide) (.slice pn NL cn) (.int .i64 M) (.int .i64 (E' : Int)) (.slice pp PL cp) (.bool q.empty))
        rw [← hW6] at HU6
        have HC6 := Lib.hid (HQ2.out.put hW6)
        clear c0 c1 c2 c3 c4 z0 z1 z2 z3 z4 f0 f1 f2 f3 f4 hW6
        have ha : Below W6.heap.size W6 (W6.alloc (Obj.cells #[.int .i64 x] 3)) := (Below.refl _ _).alloc (Nat.le_refl _) _
        have hnew := (MapKept.heap_alloc W6 (Obj.cells #[.int .i64 x] 3)).1
        have HC7 := Lib.hid (HC6.out.step ha)
        have HU7 := Lib.hid (HU6.out.alloc (Obj.cells #[.int .i64 x] 3))
        have HSRC : Hid (∀ j u, [Value.int .i64 x][j]? = some u → (W6.alloc (Obj.cells #[.int .i64 x] 3)).cell? ((⟨W6.heap.size, 0, none⟩ : Addr).add j) = some u) := by
          intro j u hj
          cases j with
          | zero => simp at hj; subst hj; exact cell_blk hnew 0
          | succ j => simp at hj
        clear ha hnew
        go_wp2_with (at_builtin; refine wpList_append_own _ rfl _ _ 30 rfl w.heap.size 3 i0 (.int .i64 0) 1 8 Try.underlying30 HI.out HZ0.out HZ1.out HZ2.out rfl (by decide) _ _ _ rfl HU7.out ⟨W6.heap.size, 0, none⟩ 1 1 [.int .i64 x] rfl rfl ?c1 ?c2 ?c3 ?c4 ?c5 ?_)
        case c1 => exact HSRC.out
        case c2 => exact ints_one [x]
        case c3 => have := HE.out; have := HF.out; unfold maxLen; omega
        case c4 => have := HE.out; have := HF.out; omega
        case c5 => have := HC7.out.below.size; omega
        intro v8 W8 hown8 hgr8 _
        obtain ⟨pu8, cu8, e8⟩ := own1_slice hown8
        subst e8
        have HU8 := Lib.hid hown8; clear hown8
        have HC8 := Lib.hid (R2.grown HC7.out HU7.out hgr8)
        clear hgr8
        go_wp2_with fail
        go_roundw
        case rel =>
          have hDk : D + (k + 1) = E' := by have := HE.out; have := HE'.out; omega
          refine ⟨k + 1, by omega, ?_, ?_, ?_, ?_, pu8, cu8, rfl, ?_⟩
          · have h1 : q.can E = true := hcan
            unfold Q.can at h1
            rw [HM.out] at h1
            simp at h1
            have := HE.out
            omega
          · have h1 := HPKS.out
            obtain ⟨j, hj⟩ : ∃ j, most - k = j + 1 := ⟨most - k - 1, by omega⟩
            rw [hj] at h1
            rw [show most - (k + 1) = j by omega, h1, hDk, HE'.out]
            simp [Q.pops, hcan]
            omega
          · rw [hDk, HE'.out]
            exact HWF.out E HWE.out hcan
          · rw [hDk]
            exact HC8.out
          · have := HU8.out
            rw [← took_snoc, ← HE.out]
            rw [HX.out] at this
            simpa [ints] using this
        case measure => simp [lenOf]; omega
    · have HPK : Hid (q.pops most D = k) := by
        have h1 := HPKS.out
        rw [show most - k = 0 by omega] at h1
        exact h1
      have tl : decide ((k : Int) < (most : Int)) = false := decide_eq_false (by omega)
      have HX := HCO
      have HUX := HU
      generalize hwx : wr = WX at *
      clear hwx
      obtain ⟨c0, c1, c2, c3, c4⟩ := HX.out.facts
      obtain ⟨z0, z1, z2, z3, z4⟩ := HX.out.zero
      have f0 := (HX.out.frz 0).2
      have f1 := (HX.out.frz 1).2
      have f2 := (HX.out.frz 2).2
      have f3 := (HX.out.frz 3).2
      have f4 := (HX.out.frz 4).2
      go_wp2_with fail
      obtain ⟨W5, hW5⟩ : ∃ W5, W5 = (((((WX.setCell ⟨w.heap.size + 1, 0, none⟩ (.slice pn NL cn)).setCell ⟨w.heap.size + 1, 1, none⟩ (.int .i64 M)).setCell ⟨w.heap.size + 1, 2, none⟩ (.int .i64 (E : Int))).setCell ⟨w.heap.size + 1, 3, none⟩ (.slice pp PL cp)).setCell ⟨w.heap.size + 1, 4, none⟩ (.bool q.empty)) := ⟨_, rfl⟩
      rw [← hW5]
      have HOX := Lib.hid (own5 HUX.out HX.out.out (by decide) (.slice pn NL cn) (.int .i64 M) (.int .i64 (E : Int)) (.slice pp PL cp) (.bool q.empty))
      rw [← hW5] at HOX
      obtain ⟨k1, k2⟩ := HX.out.fin hW5
      have K1 := Lib.hid k1
      clear c0 c1 c2 c3 c4 z0 z1 z2 z3 z4 f0 f1 f2 f3 f4 k1 hW5
      obtain ⟨c0, c1, c2, c3, c4⟩ := k2
      refine bodyPost_ret (v := .tuple #[.agg #[.slice pn NL cn, .int .i64 M, .int .i64 (E : Int), .slice pp PL cp, .bool q.empty], .slice pu k cu, .int .i64 0]) (by simp [results, Try.results50, go_sem, c0, c1, c2, c3, c4]) rfl ⟨_, .slice pu k cu, rfl, ?_, ?_, ?_⟩
      · rw [HPK.out, ← HE.out]; exact HST.out _ _ K1.out
      · rw [HPK.out]; exact HOX.out
      · exact K1.out
end Go.Proofs.Ytgbafpjeapkklaa.Mb
namespace Go.Proofs.Ytgbafpjeapkklaa.Mb
open Go.RowKit
set_option linter.unusedVariables false
set_option linter.unusedSimpArgs false
set_option maxRecDepth 100000 in
set_option maxHeartbeats 4000000 in
theorem batch_neg {q : Q} (hq : WF q) {v : Value} {p : Int} (hneg : p < 0) (w : World) (hv : St w v q) :
    Calls Try.prog 12 #[v, .int .i64 p] w fun e w' => e = .returned (.tuple #[zv, .slice none 0 0, .int .i64 1]) ∧ Below w.heap.size w w' := by
  obtain ⟨ns, ps, rfl, hn, hp'⟩ := hv
  have hfew := hq.few
  have hfo := hq.fewo
  have HCK : Hid (∀ W, Below w.heap.size w W → Calls Try.prog 18 #[.agg #[ns, .int .i64 q.m, .int .i64 q.done, ps, .bool q.empty]] W fun e w' => e = .returned (.int .i64 0) ∧ Below W.heap.size W w') := fun W h => check_at hq ns ps W (hn.below h).1 (hp'.below h).1
  have HB0 : Hid (CB w ns ps q.m q.done q.empty ((w.alloc (Obj.cells #[ns, .int .i64 q.m, .int .i64 q.done, ps, .bool q.empty] 28)).alloc (Obj.cells #[.slice none 0 0, .int .i64 0, .int .i64 0, .slice none 0 0, .bool false] 28))) := CB.mk w ns ps q.m q.done q.empty
  obtain ⟨pn, cn, hA⟩ := hn.slice
  obtain ⟨pp, cp, hB⟩ := hp'.slice
  subst hA
  subst hB
  clear hn hp'
  have tp : decide (p < 0) = true := decide_eq_true hneg
  clear hq hfew hfo
  generalize hM : q.m = M at *
  generalize hD : q.done = D at *
  clear hM hD
  go_enter Try.func12, Try.ntmps12
  go_upto_region 1 with fail
  generalize ((w.alloc (Obj.cells #[.slice pn q.nodes.length cn, .int .i64 M, .int .i64 D, .slice pp q.pushes.length cp, .bool q.empty] 28)).alloc (Obj.cells #[.slice none 0 0, .int .i64 0, .int .i64 0, .slice none 0 0, .bool false] 28)) = W0 at *
  obtain ⟨c0, c1, c2, c3, c4⟩ := HB0.out.facts
  go_wp2_with fail
  refine (HCK.out _ HB0.out.1).mono ?_
  rintro e W1 ⟨rfl, hb1⟩
  have HB1 := Lib.hid (HB0.out.step hb1)
  clear hb1 c0 c1 c2 c3 c4
  obtain ⟨z0, z1, z2, z3, z4⟩ := HB1.out.zero
  obtain ⟨f0, f1, f2, f3, f4⟩ := HB1.out.frz
  go_wp2_with fail
  obtain ⟨W5, hW5⟩ : ∃ W5, W5 = (((((W1.setCell ⟨w.heap.size + 1, 0, none⟩ (.slice none 0 0)).setCell ⟨w.heap.size + 1, 1, none⟩ (.int .i64 0)).setCell ⟨w.heap.size + 1, 2, none⟩ (.int .i64 0)).setCell ⟨w.heap.size + 1, 3, none⟩ (.slice none 0 0)).setCell ⟨w.heap.size + 1, 4, none⟩ (.bool false)) := ⟨_, rfl⟩
  rw [← hW5]
  obtain ⟨k1, k2⟩ := HB1.out.out hW5
  have K1 := Lib.hid k1
  clear z0 z1 z2 z3 z4 f0 f1 f2 f3 f4 k1 hW5
  obtain ⟨c0, c1, c2, c3, c4⟩ := z_cells k2
  refine bodyPost_ret (v := .tuple #[.agg #[.slice none 0 0, .int .i64 0, .int .i64 0, .slice none 0 0, .bool false], .slice none 0 0, .int .i64 1]) (by simp [results, Try.results12, go_sem, c0, c1, c2, c3, c4]) rfl ⟨rfl, K1.out⟩
set_option maxRecDepth 100000 in
set_option maxHeartbeats 4000000 in
theorem rbatch_neg {q : Q} (hq : WF q) {v : Value} {p : Int} (hneg : p < 0) (w : World) (hv : StR w v q) :
    Calls Try.prog 50 #[v, .int .i64 p] w fun e w' => e = .returned (.tuple #[zv, .slice none 0 0, .int .i64 1]) ∧ Below w.heap.size w w' := by
  have HCK : Hid (∀ W, Below w.heap.size w W → Calls Try.prog 20 #[v] W fun e w' => e = .returned (.int .i64 0) ∧ Below W.heap.size W w') := fun W h => rcheck_at hq W (hv.below h)
  obtain ⟨ns, ps, rfl, hn, hp⟩ := hv
  obtain ⟨pn, cn, hA⟩ := hn.slice
  obtain ⟨pp, cp, hB⟩ := hp.slice
  subst hA
  subst hB
  have HB0 : Hid (R2 w (.slice pn q.nodes.length cn) (.slice pp q.pushes.length cp) q.m q.done q.empty ((w.alloc (Obj.cells #[.slice pn q.nodes.length cn, .int .i64 q.m, .int .i64 q.done, .slice pp q.pushes.length cp, .bool q.empty] 46)).alloc (Obj.cells #[.slice none 0 0, .int .i64 0, .int .i64 0, .slice none 0 0, .bool false] 46))) := R2.mk' w _ _ _ _ _
  have tp : decide (p < 0) = true := decide_eq_true hneg
  clear hn hp hq
  generalize hM : q.m = M at *
  generalize hD : q.done = D at *
  clear hM hD
  go_enter Try.func50, Try.ntmps50
  go_upto_region 1 with fail
  generalize ((w.alloc (Obj.cells #[.slice pn q.nodes.length cn, .int .i64 M, .int .i64 D, .slice pp q.pushes.length cp, .bool q.empty] 46)).alloc (Obj.cells #[.slice none 0 0, .int .i64 0, .int .i64 0, .slice none 0 0, .bool false] 46)) = W0 at *
  obtain ⟨c0, c1, c2, c3, c4⟩ := HB0.out.facts
  go_wp2_with fail
  refine (HCK.out _ HB0.out.below).mono ?_
  rintro e W1 ⟨rfl, hb1⟩
  have HB1 := Lib.hid (HB0.out.step hb1)
  clear hb1 c0 c1 c2 c3 c4
  obtain ⟨z0, z1, z2, z3, z4⟩ := HB1.out.zero
  have f0 := (HB1.out.frz 0).2
  have f1 := (HB1.out.frz 1).2
  have f2 := (HB1.out.frz 2).2
  have f3 := (HB1.out.frz 3).2
  have f4 := (HB1.out.frz 4).2
  go_wp2_with fail
  obtain ⟨W5, hW5⟩ : ∃ W5, W5 = (((((W1.setCell ⟨w.heap.size + 1, 0, none⟩ (.slice none 0 0)).setCell ⟨w.heap.size + 1, 1, none⟩ (.int .i64 0)).setCell ⟨w.heap.size + 1, 2, none⟩ (.int .i64 0)).setCell ⟨w.heap.size + 1, 3, none⟩ (.slice none 0 0)).setCell ⟨w.heap.size + 1, 4, none⟩ (.bool false)) := ⟨_, rfl⟩
  rw [← hW5]
  obtain ⟨k1, k2⟩ := HB1.out.fin hW5
  have K1 := Lib.hid k1
  clear z0 z1 z2 z3 z4 f0 f1 f2 f3 f4 k1 hW5
  obtain ⟨c0, c1, c2, c3, c4⟩ := k2
  refine bodyPost_ret (v := .tuple #[.agg #[.slice none 0 0, .int .i64 0, .int .i64 0, .slice none 0 0, .bool false], .slice none 0 0, .int .i64 1]) (by simp [results, Try.results50, go_sem, c0, c1, c2, c3, c4]) rfl ⟨rfl, K1.out⟩
def Shape (v : Value) : Prop := ∃ p n c m d p' n' c' b, v = .agg #[.slice p n c, .int .i64 m, .int .i64 d, .slice p' n' c', .bool b]
theorem St.shape {w : World} {v : Value} {q : Q} (h : St w v q) : Shape v := by
  obtain ⟨ns, ps, rfl, hn, hp⟩ := h
  obtain ⟨p, c, rfl⟩ := hn.slice
  obtain ⟨p', c', rfl⟩ := hp.slice
  exact ⟨_, _, _, _, _, _, _, _, _, rfl⟩
theorem StR.shape {w : World} {v : Value} {q : Q} (h : StR w v q) : Shape v := by
  obtain ⟨ns, ps, rfl, hn, hp⟩ := h
  obtain ⟨p, c, rfl⟩ := hn.slice
  obtain ⟨p', c', rfl⟩ := hp.slice
  exact ⟨_, _, _, _, _, _, _, _, _, rfl⟩
theorem StZ.shape {w : World} {v : Value} (h : StZ w v) : Shape v := by
  obtain ⟨ns, ps, rfl, hn, hp⟩ := h
  obtain ⟨p, c, rfl⟩ := hn.slice
  obtain ⟨p', c', rfl⟩ := hp.slice
  exact ⟨_, _, _, _, _, _, _, _, _, rfl⟩
theorem zv_shape : Shape zv := ⟨_, _, _, _, _, _, _, _, _, rfl⟩
def B5 (W : World) (k : Nat) (t : TypeId) (v0 v1 v2 v3 v4 : Value) : Prop := W.heap[k]? = some (.cells #[v0, v1, v2, v3, v4] t (0, 0))
theorem B5.cells {W : World} {k : Nat} {t : TypeId} {v0 v1 v2 v3 v4 : Value} (h : B5 W k t v0 v1 v2 v3 v4) :
    W.cell? ⟨k, 0, none⟩ = some v0 ∧ W.cell? ⟨k, 1, none⟩ = some v1 ∧ W.cell? ⟨k, 2, none⟩ = some v2 ∧ W.cell? ⟨k, 3, none⟩ = some v3 ∧ W.cell? ⟨k, 4, none⟩ = some v4 :=
  ⟨cell_blk h 0, cell_blk h 1, cell_blk h 2, cell_blk h 3, cell_blk h 4⟩
theorem B5.frz {W : World} {k : Nat} {t : TypeId} {v0 v1 v2 v3 v4 : Value} (h : B5 W k t v0 v1 v2 v3 v4) :
    W.frozen? ⟨k, 0, none⟩ = false ∧ W.frozen? ⟨k, 1, none⟩ = false ∧ W.frozen? ⟨k, 2, none⟩ = false ∧ W.frozen? ⟨k, 3, none⟩ = false ∧ W.frozen? ⟨k, 4, none⟩ = false :=
  ⟨frozen_blk h 0, frozen_blk h 1, frozen_blk h 2, frozen_blk h 3, frozen_blk h 4⟩
theorem B5.step {W W' : World} {k : Nat} {t : TypeId} {v0 v1 v2 v3 v4 : Value} (h : B5 W k t v0 v1 v2 v3 v4) (hb : Below W.heap.size W W') : B5 W' k t v0 v1 v2 v3 v4 := (hb.block _ (blk_lt h)).trans h
theorem B5.put {W W' : World} {k : Nat} {t : TypeId} {v0 v1 v2 v3 v4 u0 u1 u2 u3 u4 : Value} (h : B5 W k t v0 v1 v2 v3 v4)
    (hW : W' = (((((W.setCell ⟨k, 0, none⟩ u0).setCell ⟨k, 1, none⟩ u1).setCell ⟨k, 2, none⟩ u2).setCell ⟨k, 3, none⟩ u3).setCell ⟨k, 4, none⟩ u4)) :
    B5 W' k t u0 u1 u2 u3 u4 ∧ (∀ B w0, B ≤ k → Below B w0 W → Below B w0 W') ∧ (∀ j t v0 v1 v2 v3 v4, j ≠ k → B5 W j t v0 v1 v2 v3 v4 → B5 W' j t v0 v1 v2 v3 v4) := by
  subst hW
  obtain ⟨f1, f2, _⟩ := five h u0 u1 u2 u3 u4
  refine ⟨f1, fun B w0 h1 h2 => f2 B w0 h1 h2, fun j t v0 v1 v2 v3 v4 hj hB => ?_⟩
  exact blk_set_ne (blk_set_ne (blk_set_ne (blk_set_ne (blk_set_ne hB ⟨k, 0, none⟩ hj _) ⟨k, 1, none⟩ hj _) ⟨k, 2, none⟩ hj _) ⟨k, 3, none⟩ hj _) ⟨k, 4, none⟩ hj _
theorem B5.made {W : World} (v0 v1 v2 v3 v4 : Value) (t : TypeId) : B5 (W.alloc (Obj.cells #[v0, v1, v2, v3, v4] t)) W.heap.size t v0 v1 v2 v3 v4 := (MapKept.heap_alloc _ _).1
set_option maxRecDepth 100000 in
set_option maxHeartbeats 8000000 in
theorem keep_yes {a b x y : Value} {w : World} (ha : Shape a) (hb : Shape b) (hx : Shape x) (hy : Shape y) (hal : ∀ W, Below w.heap.size w W → Calls Try.prog 16 #[x, y] W fun e w' => e = .returned (.bool true) ∧ Below W.heap.size W w') :
    Calls Try.prog 47 #[a, b, x, y, .int .i64 0, .bool true] w fun e w' => e = .returned (.tuple #[x, y, .bool true]) ∧ Below w.heap.size w w' := by
  obtain ⟨ap, an, ac, am, ad, ap2, an2, ac2, ab, rfl⟩ := ha
  obtain ⟨bp, bn, bc, bm, bd, bp2, bn2, bc2, bb, rfl⟩ := hb
  obtain ⟨xp, xn, xc, xm, xd, xp2, xn2, xc2, xb, rfl⟩ := hx
  obtain ⟨yp, yn, yc, ym, yd, yp2, yn2, yc2, yb, rfl⟩ := hy
  have HAL := Lib.hid hal
  clear hal
  obtain ⟨G, hG⟩ : ∃ G, G = w.heap.size := ⟨_, rfl⟩
  obtain ⟨W0, hW0⟩ : ∃ W0, W0 = ((((((w.alloc (Obj.cells #[.slice ap an ac, .int .i64 am, .int .i64 ad, .slice ap2 an2 ac2, .bool ab] 28)).alloc (Obj.cells #[.slice bp bn bc, .int .i64 bm, .int .i64 bd, .slice bp2 bn2 bc2, .bool bb] 46)).alloc (Obj.cells #[.slice xp xn xc, .int .i64 xm, .int .i64 xd, .slice xp2 xn2 xc2, .bool xb] 28)).alloc (Obj.cells #[.slice yp yn yc, .int .i64 ym, .int .i64 yd, .slice yp2 yn2 yc2, .bool yb] 46)).alloc (Obj.cells #[.slice none 0 0, .int .i64 0, .int .i64 0, .slice none 0 0, .bool false] 28)).alloc (Obj.cells #[.slice none 0 0, .int .i64 0, .int .i64 0, .slice none 0 0, .bool false] 46)) := ⟨_, rfl⟩
  have HB : Hid (Below w.heap.size w W0 ∧ B5 W0 (w.heap.size) 28 (.slice ap an ac) (.int .i64 am) (.int .i64 ad) (.slice ap2 an2 ac2) (.bool ab) ∧ B5 W0 (w.heap.size + 1) 46 (.slice bp bn bc) (.int .i64 bm) (.int .i64 bd) (.slice bp2 bn2 bc2) (.bool bb) ∧ B5 W0 (w.heap.size + 2) 28 (.slice xp xn xc) (.int .i64 xm) (.int .i64 xd) (.slice xp2 xn2 xc2) (.bool xb) ∧ B5 W0 (w.heap.size + 3) 46 (.slice yp yn yc) (.int .i64 ym) (.int .i64 yd) (.slice yp2 yn2 yc2) (.bool yb) ∧ B5 W0 (w.heap.size + 4) 28 (.slice none 0 0) (.int .i64 0) (.int .i64 0) (.slice none 0 0) (.bool false) ∧ B5 W0 (w.heap.size + 5) 46 (.slice none 0 0) (.int .i64 0) (.int .i64 0) (.slice none 0 0) (.bool false)) := by
    rw [hW0]
    have m0 := B5.made (W := w) (.slice ap an ac) (.int .i64 am) (.int .i64 ad) (.slice ap2 an2 ac2) (.bool ab) 28
    have s0 : Below (w).heap.size (w) (w.alloc (Obj.cells #[.slice ap an ac, .int .i64 am, .int .i64 ad, .slice ap2 an2 ac2, .bool ab] 28)) := (Below.refl _ _).alloc (Nat.le_refl _) _
    have m1 := B5.made (W := (w.alloc (Obj.cells #[.slice ap an ac, .int .i64 am, .int .i64 ad, .slice ap2 an2 ac2, .bool ab] 28))) (.slice bp bn bc) (.int .i64 bm) (.int .i64 bd) (.slice bp2 bn2 bc2) (.bool bb) 46
    have s1 : Below ((w.alloc (Obj.cells #[.slice ap an ac, .int .i64 am, .int .i64 ad, .slice ap2 an2 ac2, .bool ab] 28))).heap.size ((w.alloc (Obj.cells #[.slice ap an ac, .int .i64 am, .int .i64 ad, .slice ap2 an2 ac2, .bool ab] 28))) ((w.alloc (Obj.cells #[.slice ap an ac, .int .i64 am, .int .i64 ad, .slice ap2 an2 ac2, .bool ab] 28)).alloc (Obj.cells #[.slice bp bn bc, .int .i64 bm, .int .i64 bd, .slice bp2 bn2 bc2, .bool bb] 46)) := (Below.refl _ _).alloc (Nat.le_refl _) _
    have m2 := B5.made (W := ((w.alloc (Obj.cells #[.slice ap an ac, .int .i64 am, .int .i64 ad, .slice ap2 an2 ac2, .bool ab] 28)).alloc (Obj.cells #[.slice bp bn bc, .int .i64 bm, .int .i64 bd, .slice bp2 bn2 bc2, .bool bb] 46))) (.slice xp xn xc) (.int .i64 xm) (.int .i64 xd) (.slice xp2 xn2 xc2) (.bool xb) 28
    have s2 : Below (((w.alloc (Obj.cells #[.slice ap an ac, .int .i64 am, .int .i64 ad, .slice ap2 an2 ac2, .bool ab] 28)).alloc (Obj.cells #[.slice bp bn bc, .int .i64 bm, .int .i64 bd, .slice bp2 bn2 bc2, .bool bb] 46))).heap.size (((w.alloc (Obj.cells #[.slice ap an ac, .int .i64 am, .int .i64 ad, .slice ap2 an2 ac2, .bool ab] 28)).alloc (Obj.cells #[.slice bp bn bc, .int .i64 bm, .int .i64 bd, .slice bp2 bn2 bc2, .bool bb] 46))) (((w.alloc (Obj.cells #[.slice ap an ac, .int .i64 am, .int .i64 ad, .slice ap2 an2 ac2, .bool ab] 28)).alloc (Obj.cells #[.slice bp bn bc, .int .i64 bm, .int .i64 bd, .slice bp2 bn2 bc2, .bool bb] 46)).alloc (Obj.cells #[.slice xp xn xc, .int .i64 xm, .int .i64 xd, .slice xp2 xn2 xc2, .bool xb] 28)) := (Below.refl _ _).alloc (Nat.le_refl _) _
    have m3 := B5.made (W := (((w.alloc (Obj.cells #[.slice ap an ac, .int .i64 am, .int .i64 ad, .slice ap2 an2 ac2, .bool ab] 28)).alloc (Obj.cells #[.slice bp bn bc, .int .i64 bm, .int .i64 bd, .slice bp2 bn2 bc2, .bool bb] 46)).alloc (Obj.cells #[.slice xp xn xc, .int .i64 xm, .int .i64 xd, .slice xp2 xn2 xc2, .bool xb] 28))) (.slice yp yn yc) (.int .i64 ym) (.int .i64 yd) (.slice yp2 yn2 yc2) (.bool yb) 46
    have s3 : Below ((((w.alloc (Obj.cells #[.slice ap an ac, .int .i64 am, .int .i64 ad, .slice ap2 an2 ac2, .bool ab] 28)).alloc (Obj.cells #[.slice bp bn bc, .int .i64 bm, .int .i64 bd, .slice bp2 bn2 bc2, .bool bb] 46)).alloc (Obj.cells #[.slice xp xn xc, .int .i64 xm, .int .i64 xd, .slice xp2 xn2 xc2, .bool xb] 28))).heap.size ((((w.alloc (Obj.cells #[.slice ap an ac, .int .i64 am, .int .i64 ad, .slice ap2 an2 ac2, .bool ab] 28)).alloc (Obj.cells #[.slice bp bn bc, .int .i64 bm, .int .i64 bd, .slice bp2 bn2 bc2, .bool bb] 46)).alloc (Obj.cells #[.slice xp xn xc, .int .i64 xm, .int .i64 xd, .slice xp2 xn2 xc2, .bool xb] 28))) ((((w.alloc (Obj.cells #[.slice ap an ac, .int .i64 am, .int .i64 ad, .slice ap2 an2 ac2, .bool ab] 28)).alloc (Obj.cells #[.slice bp bn bc, .int .i64 bm, .int .i64 bd, .slice bp2 bn2 bc2, .bool bb] 46)).alloc (Obj.cells #[.slice xp xn xc, .int .i64 xm, .int .i64 xd, .slice xp2 xn2 xc2, .bool xb] 28)).alloc (Obj.cells #[.slice yp yn yc, .int .i64 ym, .int .i64 yd, .slice yp2 yn2 yc2, .bool yb] 46)) := (Below.refl _ _).alloc (Nat.le_refl _) _
    have m4 := B5.made (W := ((((w.alloc (Obj.cells #[.slice ap an ac, .int .i64 am, .int .i64 ad, .slice ap2 an2 ac2, .bool ab] 28)).alloc (Obj.cells #[.slice bp bn bc, .int .i64 bm, .int .i64 bd, .slice bp2 bn2 bc2, .bool bb] 46)).alloc (Obj.cells #[.slice xp xn xc, .int .i64 xm, .int .i64 xd, .slice xp2 xn2 xc2, .bool xb] 28)).alloc (Obj.cells #[.slice yp yn yc, .int .i64 ym, .int .i64 yd, .slice yp2 yn2 yc2, .bool yb] 46))) (.slice none 0 0) (.int .i64 0) (.int .i64 0) (.slice none 0 0) (.bool false) 28
    have s4 : Below (((((w.alloc (Obj.cells #[.slice ap an ac, .int .i64 am, .int .i64 ad, .slice ap2 an2 ac2, .bool ab] 28)).alloc (Obj.cells #[.slice bp bn bc, .int .i64 bm, .int .i64 bd, .slice bp2 bn2 bc2, .bool bb] 46)).alloc (Obj.cells #[.slice xp xn xc, .int .i64 xm, .int .i64 xd, .slice xp2 xn2 xc2, .bool xb] 28)).alloc (Obj.cells #[.slice yp yn yc, .int .i64 ym, .int .i64 yd, .slice yp2 yn2 yc2, .bool yb] 46))).heap.size (((((w.alloc (Obj.cells #[.slice ap an ac, .int .i64 am, .int .i64 ad, .slice ap2 an2 ac2, .bool ab] 28)).alloc (Obj.cells #[.slice bp bn bc, .int .i64 bm, .int .i64 bd, .slice bp2 bn2 bc2, .bool bb] 46)).alloc (Obj.cells #[.slice xp xn xc, .int .i64 xm, .int .i64 xd, .slice xp2 xn2 xc2, .bool xb] 28)).alloc (Obj.cells #[.slice yp yn yc, .int .i64 ym, .int .i64 yd, .slice yp2 yn2 yc2, .bool yb] 46))) (((((w.alloc (Obj.cells #[.slice ap an ac, .int .i64 am, .int .i64 ad, .slice ap2 an2 ac2, .bool ab] 28)).alloc (Obj.cells #[.slice bp bn bc, .int .i64 bm, .int .i64 bd, .slice bp2 bn2 bc2, .bool bb] 46)).alloc (Obj.cells #[.slice xp xn xc, .int .i64 xm, .int .i64 xd, .slice xp2 xn2 xc2, .bool xb] 28)).alloc (Obj.cells #[.slice yp yn yc, .int .i64 ym, .int .i64 yd, .slice yp2 yn2 yc2, .bool yb] 46)).alloc (Obj.cells #[.slice none 0 0, .int .i64 0, .int .i64 0, .slice none 0 0, .bool false] 28)) := (Below.refl _ _).alloc (Nat.le_refl _) _
    have m5 := B5.made (W := (((((w.alloc (Obj.cells #[.slice ap an ac, .int .i64 am, .int .i64 ad, .slice ap2 an2 ac2, .bool ab] 28)).alloc (Obj.cells #[.slice bp bn bc, .int .i64 bm, .int .i64 bd, .slice bp2 bn2 bc2, .bool bb] 46)).alloc (Obj.cells #[.slice xp xn xc, .int .i64 xm, .int .i64 xd, .slice xp2 xn2 xc2, .bool xb] 28)).alloc (Obj.cells #[.slice yp yn yc, .int .i64 ym, .int .i64 yd, .slice yp2 yn2 yc2, .bool yb] 46)).alloc (Obj.cells #[.slice none 0 0, .int .i64 0, .int .i64 0, .slice none 0 0, .bool false] 28))) (.slice none 0 0) (.int .i64 0) (.int .i64 0) (.slice none 0 0) (.bool false) 46
    have s5 : Below ((((((w.alloc (Obj.cells #[.slice ap an ac, .int .i64 am, .int .i64 ad, .slice ap2 an2 ac2, .bool ab] 28)).alloc (Obj.cells #[.slice bp bn bc, .int .i64 bm, .int .i64 bd, .slice bp2 bn2 bc2, .bool bb] 46)).alloc (Obj.cells #[.slice xp xn xc, .int .i64 xm, .int .i64 xd, .slice xp2 xn2 xc2, .bool xb] 28)).alloc (Obj.cells #[.slice yp yn yc, .int .i64 ym, .int .i64 yd, .slice yp2 yn2 yc2, .bool yb] 46)).alloc (Obj.cells #[.slice none 0 0, .int .i64 0, .int .i64 0, .slice none 0 0, .bool false] 28))).heap.size ((((((w.alloc (Obj.cells #[.slice ap an ac, .int .i64 am, .int .i64 ad, .slice ap2 an2 ac2, .bool ab] 28)).alloc (Obj.cells #[.slice bp bn bc, .int .i64 bm, .int .i64 bd, .slice bp2 bn2 bc2, .bool bb] 46)).alloc (Obj.cells #[.slice xp xn xc, .int .i64 xm, .int .i64 xd, .slice xp2 xn2 xc2, .bool xb] 28)).alloc (Obj.cells #[.slice yp yn yc, .int .i64 ym, .int .i64 yd, .slice yp2 yn2 yc2, .bool yb] 46)).alloc (Obj.cells #[.slice none 0 0, .int .i64 0, .int .i64 0, .slice none 0 0, .bool false] 28))) ((((((w.alloc (Obj.cells #[.slice ap an ac, .int .i64 am, .int .i64 ad, .slice ap2 an2 ac2, .bool ab] 28)).alloc (Obj.cells #[.slice bp bn bc, .int .i64 bm, .int .i64 bd, .slice bp2 bn2 bc2, .bool bb] 46)).alloc (Obj.cells #[.slice xp xn xc, .int .i64 xm, .int .i64 xd, .slice xp2 xn2 xc2, .bool xb] 28)).alloc (Obj.cells #[.slice yp yn yc, .int .i64 ym, .int .i64 yd, .slice yp2 yn2 yc2, .bool yb] 46)).alloc (Obj.cells #[.slice none 0 0, .int .i64 0, .int .i64 0, .slice none 0 0, .bool false] 28)).alloc (Obj.cells #[.slice none 0 0, .int .i64 0, .int .i64 0, .slice none 0 0, .bool false] 46)) := (Below.refl _ _).alloc (Nat.le_refl _) _
    have z1 : w.heap.size ≤ _ := s0.size
    refine ⟨((((((s0).trans (s1.mono s0.size)).trans (s2.mono (by simp; omega))).trans (s3.mono (by simp; omega))).trans (s4.mono (by simp; omega))).trans (s5.mono (by simp; omega))), ?_, ?_, ?_, ?_, ?_, ?_⟩
    · simpa using (((((m0).step s1).step s2).step s3).step s4).step s5
    · simpa using ((((m1).step s2).step s3).step s4).step s5
    · simpa using (((m2).step s3).step s4).step s5
    · simpa using ((m3).step s4).step s5
    · simpa using (m4).step s5
    · simpa using m5
  go_enter Try.func47, Try.ntmps47
  go_upto_region 1 with fail
  rw [← hW0]
  clear hW0
  obtain ⟨cx0, cx1, cx2, cx3, cx4⟩ := HB.out.2.2.2.1.cells
  obtain ⟨cy0, cy1, cy2, cy3, cy4⟩ := HB.out.2.2.2.2.1.cells
  go_wp2_with fail
  refine (HAL.out _ HB.out.1).mono ?_
  rintro e' W1 ⟨rfl, hb1⟩
  have HB1 : Hid (Below w.heap.size w W1 ∧ B5 W1 (w.heap.size) 28 (.slice ap an ac) (.int .i64 am) (.int .i64 ad) (.slice ap2 an2 ac2) (.bool ab) ∧ B5 W1 (w.heap.size + 1) 46 (.slice bp bn bc) (.int .i64 bm) (.int .i64 bd) (.slice bp2 bn2 bc2) (.bool bb) ∧ B5 W1 (w.heap.size + 2) 28 (.slice xp xn xc) (.int .i64 xm) (.int .i64 xd) (.slice xp2 xn2 xc2) (.bool xb) ∧ B5 W1 (w.heap.size + 3) 46 (.slice yp yn yc) (.int .i64 ym) (.int .i64 yd) (.slice yp2 yn2 yc2) (.bool yb) ∧ B5 W1 (w.heap.size + 4) 28 (.slice none 0 0) (.int .i64 0) (.int .i64 0) (.slice none 0 0) (.bool false) ∧ B5 W1 (w.heap.size + 5) 46 (.slice none 0 0) (.int .i64 0) (.int .i64 0) (.slice none 0 0) (.bool false)) := ⟨HB.out.1.trans (hb1.mono HB.out.1.size), HB.out.2.1.step hb1, HB.out.2.2.1.step hb1, HB.out.2.2.2.1.step hb1, HB.out.2.2.2.2.1.step hb1, HB.out.2.2.2.2.2.1.step hb1, HB.out.2.2.2.2.2.2.step hb1⟩
  clear hb1 cx0 cx1 cx2 cx3 cx4 cy0 cy1 cy2 cy3 cy4
  obtain ⟨cx0, cx1, cx2, cx3, cx4⟩ := HB1.out.2.2.2.1.cells
  obtain ⟨cy0, cy1, cy2, cy3, cy4⟩ := HB1.out.2.2.2.2.1.cells
  obtain ⟨z0, z1, z2, z3, z4⟩ := HB1.out.2.2.2.2.2.1.cells
  obtain ⟨y0, y1, y2, y3, y4⟩ := HB1.out.2.2.2.2.2.2.cells
  obtain ⟨f0, f1, f2, f3, f4⟩ := HB1.out.2.2.2.2.2.1.frz
  obtain ⟨g0, g1, g2, g3, g4⟩ := HB1.out.2.2.2.2.2.2.frz
  go_wp2_with fail
  go_region
  obtain ⟨W4, hW4⟩ : ∃ W4, W4 = (((((W1.setCell ⟨w.heap.size + 1 + 1 + 1 + 1, 0, none⟩ (.slice xp xn xc)).setCell ⟨w.heap.size + 1 + 1 + 1 + 1, 1, none⟩ (.int .i64 xm)).setCell ⟨w.heap.size + 1 + 1 + 1 + 1, 2, none⟩ (.int .i64 xd)).setCell ⟨w.heap.size + 1 + 1 + 1 + 1, 3, none⟩ (.slice xp2 xn2 xc2)).setCell ⟨w.heap.size + 1 + 1 + 1 + 1, 4, none⟩ (.bool xb)) := ⟨_, rfl⟩
  rw [← hW4]
  obtain ⟨W5, hW5⟩ : ∃ W5, W5 = (((((W4.setCell ⟨w.heap.size + 1 + 1 + 1 + 1 + 1, 0, none⟩ (.slice yp yn yc)).setCell ⟨w.heap.size + 1 + 1 + 1 + 1 + 1, 1, none⟩ (.int .i64 ym)).setCell ⟨w.heap.size + 1 + 1 + 1 + 1 + 1, 2, none⟩ (.int .i64 yd)).setCell ⟨w.heap.size + 1 + 1 + 1 + 1 + 1, 3, none⟩ (.slice yp2 yn2 yc2)).setCell ⟨w.heap.size + 1 + 1 + 1 + 1 + 1, 4, none⟩ (.bool yb)) := ⟨_, rfl⟩
  rw [← hW5]
  obtain ⟨p1, p2, p3⟩ := B5.put (k := w.heap.size + 1 + 1 + 1 + 1) HB1.out.2.2.2.2.2.1 hW4
  obtain ⟨r1, r2, r3⟩ := B5.put (k := w.heap.size + 1 + 1 + 1 + 1 + 1) (p3 _ _ _ _ _ _ _ (by omega) HB1.out.2.2.2.2.2.2) hW5
  have K1 := Lib.hid (r2 w.heap.size w (by omega) (p2 w.heap.size w (by omega) HB1.out.1))
  have p4 := r3 _ _ _ _ _ _ _ (by omega) p1
  clear cx0 cx1 cx2 cx3 cx4 cy0 cy1 cy2 cy3 cy4 z0 z1 z2 z3 z4 y0 y1 y2 y3 y4 f0 f1 f2 f3 f4 g0 g1 g2 g3 g4 hW4 hW5
  obtain ⟨c0, c1, c2, c3, c4⟩ := p4.cells
  obtain ⟨d0, d1, d2, d3, d4⟩ := r1.cells
  go_wp2_with fail
  refine bodyPost_ret (v := .tuple #[.agg #[.slice xp xn xc, .int .i64 xm, .int .i64 xd, .slice xp2 xn2 xc2, .bool xb], .agg #[.slice yp yn yc, .int .i64 ym, .int .i64 yd, .slice yp2 yn2 yc2, .bool yb], .bool true]) (by simp [results, Try.results47, go_sem, c0, c1, c2, c3, c4, d0, d1, d2, d3, d4]) rfl ⟨rfl, K1.out.drew⟩
set_option maxRecDepth 100000 in
set_option maxHeartbeats 8000000 in
theorem keep_no {a b x y : Value} {w : World} (ha : Shape a) (hb : Shape b) (hx : Shape x) (hy : Shape y) (hal : ∀ W, Below w.heap.size w W → Calls Try.prog 16 #[x, y] W fun e w' => e = .returned (.bool true) ∧ Below W.heap.size W w') {e : Int} (he : e ≠ 0) :
    Calls Try.prog 47 #[a, b, x, y, .int .i64 e, .bool true] w fun e w' => e = .returned (.tuple #[a, b, .bool true]) ∧ Below w.heap.size w w' := by
  obtain ⟨ap, an, ac, am, ad, ap2, an2, ac2, ab, rfl⟩ := ha
  obtain ⟨bp, bn, bc, bm, bd, bp2, bn2, bc2, bb, rfl⟩ := hb
  obtain ⟨xp, xn, xc, xm, xd, xp2, xn2, xc2, xb, rfl⟩ := hx
  obtain ⟨yp, yn, yc, ym, yd, yp2, yn2, yc2, yb, rfl⟩ := hy
  have te : (e != 0) = true := by simpa using he
  clear he
  have HAL := Lib.hid hal
  clear hal
  obtain ⟨G, hG⟩ : ∃ G, G = w.heap.size := ⟨_, rfl⟩
  obtain ⟨W0, hW0⟩ : ∃ W0, W0 = ((((((w.alloc (Obj.cells #[.slice ap an ac, .int .i64 am, .int .i64 ad, .slice ap2 an2 ac2, .bool ab] 28)).alloc (Obj.cells #[.slice bp bn bc, .int .i64 bm, .int .i64 bd, .slice bp2 bn2 bc2, .bool bb] 46)).alloc (Obj.cells #[.slice xp xn xc, .int .i64 xm, .int .i64 xd, .slice xp2 xn2 xc2, .bool xb] 28)).alloc (Obj.cells #[.slice yp yn yc, .int .i64 ym, .int .i64 yd, .slice yp2 yn2 yc2, .bool yb] 46)).alloc (Obj.cells #[.slice none 0 0, .int .i64 0, .int .i64 0, .slice none 0 0, .bool false] 28)).alloc (Obj.cells #[.slice none 0 0, .int .i64 0, .int .i64 0, .slice none 0 0, .bool false] 46)) := ⟨_, rfl⟩
  have HB : Hid (Below w.heap.size w W0 ∧ B5 W0 (w.heap.size) 28 (.slice ap an ac) (.int .i64 am) (.int .i64 ad) (.slice ap2 an2 ac2) (.bool ab) ∧ B5 W0 (w.heap.size + 1) 46 (.slice bp bn bc) (.int .i64 bm) (.int .i64 bd) (.slice bp2 bn2 bc2) (.bool bb) ∧ B5 W0 (w.heap.size + 2) 28 (.slice xp xn xc) (.int .i64 xm) (.int .i64 xd) (.slice xp2 xn2 xc2) (.bool xb) ∧ B5 W0 (w.heap.size + 3) 46 (.slice yp yn yc) (.int .i64 ym) (.int .i64 yd) (.slice yp2 yn2 yc2) (.bool yb) ∧ B5 W0 (w.heap.size + 4) 28 (.slice none 0 0) (.int .i64 0) (.int .i64 0) (.slice none 0 0) (.bool false) ∧ B5 W0 (w.heap.size + 5) 46 (.slice none 0 0) (.int .i64 0) (.int .i64 0) (.slice none 0 0) (.bool false)) := by
    rw [hW0]
    have m0 := B5.made (W := w) (.slice ap an ac) (.int .i64 am) (.int .i64 ad) (.slice ap2 an2 ac2) (.bool ab) 28
    have s0 : Below (w).heap.size (w) (w.alloc (Obj.cells #[.slice ap an ac, .int .i64 am, .int .i64 ad, .slice ap2 an2 ac2, .bool ab] 28)) := (Below.refl _ _).alloc (Nat.le_refl _) _
    have m1 := B5.made (W := (w.alloc (Obj.cells #[.slice ap an ac, .int .i64 am, .int .i64 ad, .slice ap2 an2 ac2, .bool ab] 28))) (.slice bp bn bc) (.int .i64 bm) (.int .i64 bd) (.slice bp2 bn2 bc2) (.bool bb) 46
    have s1 : Below ((w.alloc (Obj.cells #[.slice ap an ac, .int .i64 am, .int .i64 ad, .slice ap2 an2 ac2, .bool ab] 28))).heap.size ((w.alloc (Obj.cells #[.slice ap an ac, .int .i64 am, .int .i64 ad, .slice ap2 an2 ac2, .bool ab] 28))) ((w.alloc (Obj.cells #[.slice ap an ac, .int .i64 am, .int .i64 ad, .slice ap2 an2 ac2, .bool ab] 28)).alloc (Obj.cells #[.slice bp bn bc, .int .i64 bm, .int .i64 bd, .slice bp2 bn2 bc2, .bool bb] 46)) := (Below.refl _ _).alloc (Nat.le_refl _) _
    have m2 := B5.made (W := ((w.alloc (Obj.cells #[.slice ap an ac, .int .i64 am, .int .i64 ad, .slice ap2 an2 ac2, .bool ab] 28)).alloc (Obj.cells #[.slice bp bn bc, .int .i64 bm, .int .i64 bd, .slice bp2 bn2 bc2, .bool bb] 46))) (.slice xp xn xc) (.int .i64 xm) (.int .i64 xd) (.slice xp2 xn2 xc2) (.bool xb) 28
    have s2 : Below (((w.alloc (Obj.cells #[.slice ap an ac, .int .i64 am, .int .i64 ad, .slice ap2 an2 ac2, .bool ab] 28)).alloc (Obj.cells #[.slice bp bn bc, .int .i64 bm, .int .i64 bd, .slice bp2 bn2 bc2, .bool bb] 46))).heap.size (((w.alloc (Obj.cells #[.slice ap an ac, .int .i64 am, .int .i64 ad, .slice ap2 an2 ac2, .bool ab] 28)).alloc (Obj.cells #[.slice bp bn bc, .int .i64 bm, .int .i64 bd, .slice bp2 bn2 bc2, .bool bb] 46))) (((w.alloc (Obj.cells #[.slice ap an ac, .int .i64 am, .int .i64 ad, .slice ap2 an2 ac2, .bool ab] 28)).alloc (Obj.cells #[.slice bp bn bc, .int .i64 bm, .int .i64 bd, .slice bp2 bn2 bc2, .bool bb] 46)).alloc (Obj.cells #[.slice xp xn xc, .int .i64 xm, .int .i64 xd, .slice xp2 xn2 xc2, .bool xb] 28)) := (Below.refl _ _).alloc (Nat.le_refl _) _
    have m3 := B5.made (W := (((w.alloc (Obj.cells #[.slice ap an ac, .int .i64 am, .int .i64 ad, .slice ap2 an2 ac2, .bool ab] 28)).alloc (Obj.cells #[.slice bp bn bc, .int .i64 bm, .int .i64 bd, .slice bp2 bn2 bc2, .bool bb] 46)).alloc (Obj.cells #[.slice xp xn xc, .int .i64 xm, .int .i64 xd, .slice xp2 xn2 xc2, .bool xb] 28))) (.slice yp yn yc) (.int .i64 ym) (.int .i64 yd) (.slice yp2 yn2 yc2) (.bool yb) 46
    have s3 : Below ((((w.alloc (Obj.cells #[.slice ap an ac, .int .i64 am, .int .i64 ad, .slice ap2 an2 ac2, .bool ab] 28)).alloc (Obj.cells #[.slice bp bn bc, .int .i64 bm, .int .i64 bd, .slice bp2 bn2 bc2, .bool bb] 46)).alloc (Obj.cells #[.slice xp xn xc, .int .i64 xm, .int .i64 xd, .slice xp2 xn2 xc2, .bool xb] 28))).heap.size ((((w.alloc (Obj.cells #[.slice ap an ac, .int .i64 am, .int .i64 ad, .slice ap2 an2 ac2, .bool ab] 28)).alloc (Obj.cells #[.slice bp bn bc, .int .i64 bm, .int .i64 bd, .slice bp2 bn2 bc2, .bool bb] 46)).alloc (Obj.cells #[.slice xp xn xc, .int .i64 xm, .int .i64 xd, .slice xp2 xn2 xc2, .bool xb] 28))) ((((w.alloc (Obj.cells #[.slice ap an ac, .int .i64 am, .int .i64 ad, .slice ap2 an2 ac2, .bool ab] 28)).alloc (Obj.cells #[.slice bp bn bc, .int .i64 bm, .int .i64 bd, .slice bp2 bn2 bc2, .bool bb] 46)).alloc (Obj.cells #[.slice xp xn xc, .int .i64 xm, .int .i64 xd, .slice xp2 xn2 xc2, .bool xb] 28)).alloc (Obj.cells #[.slice yp yn yc, .int .i64 ym, .int .i64 yd, .slice yp2 yn2 yc2, .bool yb] 46)) := (Below.refl _ _).alloc (Nat.le_refl _) _
    have m4 := B5.made (W := ((((w.alloc (Obj.cells #[.slice ap an ac, .int .i64 am, .int .i64 ad, .slice ap2 an2 ac2, .bool ab] 28)).alloc (Obj.cells #[.slice bp bn bc, .int .i64 bm, .int .i64 bd, .slice bp2 bn2 bc2, .bool bb] 46)).alloc (Obj.cells #[.slice xp xn xc, .int .i64 xm, .int .i64 xd, .slice xp2 xn2 xc2, .bool xb] 28)).alloc (Obj.cells #[.slice yp yn yc, .int .i64 ym, .int .i64 yd, .slice yp2 yn2 yc2, .bool yb] 46))) (.slice none 0 0) (.int .i64 0) (.int .i64 0) (.slice none 0 0) (.bool false) 28
    have s4 : Below (((((w.alloc (Obj.cells #[.slice ap an ac, .int .i64 am, .int .i64 ad, .slice ap2 an2 ac2, .bool ab] 28)).alloc (Obj.cells #[.slice bp bn bc, .int .i64 bm, .int .i64 bd, .slice bp2 bn2 bc2, .bool bb] 46)).alloc (Obj.cells #[.slice xp xn xc, .int .i64 xm, .int .i64 xd, .slice xp2 xn2 xc2, .bool xb] 28)).alloc (Obj.cells #[.slice yp yn yc, .int .i64 ym, .int .i64 yd, .slice yp2 yn2 yc2, .bool yb] 46))).heap.size (((((w.alloc (Obj.cells #[.slice ap an ac, .int .i64 am, .int .i64 ad, .slice ap2 an2 ac2, .bool ab] 28)).alloc (Obj.cells #[.slice bp bn bc, .int .i64 bm, .int .i64 bd, .slice bp2 bn2 bc2, .bool bb] 46)).alloc (Obj.cells #[.slice xp xn xc, .int .i64 xm, .int .i64 xd, .slice xp2 xn2 xc2, .bool xb] 28)).alloc (Obj.cells #[.slice yp yn yc, .int .i64 ym, .int .i64 yd, .slice yp2 yn2 yc2, .bool yb] 46))) (((((w.alloc (Obj.cells #[.slice ap an ac, .int .i64 am, .int .i64 ad, .slice ap2 an2 ac2, .bool ab] 28)).alloc (Obj.cells #[.slice bp bn bc, .int .i64 bm, .int .i64 bd, .slice bp2 bn2 bc2, .bool bb] 46)).alloc (Obj.cells #[.slice xp xn xc, .int .i64 xm, .int .i64 xd, .slice xp2 xn2 xc2, .bool xb] 28)).alloc (Obj.cells #[.slice yp yn yc, .int .i64 ym, .int .i64 yd, .slice yp2 yn2 yc2, .bool yb] 46)).alloc (Obj.cells #[.slice none 0 0, .int .i64 0, .int .i64 0, .slice none 0 0, .bool false] 28)) := (Below.refl _ _).alloc (Nat.le_refl _) _
    have m5 := B5.made (W := (((((w.alloc (Obj.cells #[.slice ap an ac, .int .i64 am, .int .i64 ad, .slice ap2 an2 ac2, .bool ab] 28)).alloc (Obj.cells #[.slice bp bn bc, .int .i64 bm, .int .i64 bd, .slice bp2 bn2 bc2, .bool bb] 46)).alloc (Obj.cells #[.slice xp xn xc, .int .i64 xm, .int .i64 xd, .slice xp2 xn2 xc2, .bool xb] 28)).alloc (Obj.cells #[.slice yp yn yc, .int .i64 ym, .int .i64 yd, .slice yp2 yn2 yc2, .bool yb] 46)).alloc (Obj.cells #[.slice none 0 0, .int .i64 0, .int .i64 0, .slice none 0 0, .bool false] 28))) (.slice none 0 0) (.int .i64 0) (.int .i64 0) (.slice none 0 0) (.bool false) 46
    have s5 : Below ((((((w.alloc (Obj.cells #[.slice ap an ac, .int .i64 am, .int .i64 ad, .slice ap2 an2 ac2, .bool ab] 28)).alloc (Obj.cells #[.slice bp bn bc, .int .i64 bm, .int .i64 bd, .slice bp2 bn2 bc2, .bool bb] 46)).alloc (Obj.cells #[.slice xp xn xc, .int .i64 xm, .int .i64 xd, .slice xp2 xn2 xc2, .bool xb] 28)).alloc (Obj.cells #[.slice yp yn yc, .int .i64 ym, .int .i64 yd, .slice yp2 yn2 yc2, .bool yb] 46)).alloc (Obj.cells #[.slice none 0 0, .int .i64 0, .int .i64 0, .slice none 0 0, .bool false] 28))).heap.size ((((((w.alloc (Obj.cells #[.slice ap an ac, .int .i64 am, .int .i64 ad, .slice ap2 an2 ac2, .bool ab] 28)).alloc (Obj.cells #[.slice bp bn bc, .int .i64 bm, .int .i64 bd, .slice bp2 bn2 bc2, .bool bb] 46)).alloc (Obj.cells #[.slice xp xn xc, .int .i64 xm, .int .i64 xd, .slice xp2 xn2 xc2, .bool xb] 28)).alloc (Obj.cells #[.slice yp yn yc, .int .i64 ym, .int .i64 yd, .slice yp2 yn2 yc2, .bool yb] 46)).alloc (Obj.cells #[.slice none 0 0, .int .i64 0, .int .i64 0, .slice none 0 0, .bool false] 28))) ((((((w.alloc (Obj.cells #[.slice ap an ac, .int .i64 am, .int .i64 ad, .slice ap2 an2 ac2, .bool ab] 28)).alloc (Obj.cells #[.slice bp bn bc, .int .i64 bm, .int .i64 bd, .slice bp2 bn2 bc2, .bool bb] 46)).alloc (Obj.cells #[.slice xp xn xc, .int .i64 xm, .int .i64 xd, .slice xp2 xn2 xc2, .bool xb] 28)).alloc (Obj.cells #[.slice yp yn yc, .int .i64 ym, .int .i64 yd, .slice yp2 yn2 yc2, .bool yb] 46)).alloc (Obj.cells #[.slice none 0 0, .int .i64 0, .int .i64 0, .slice none 0 0, .bool false] 28)).alloc (Obj.cells #[.slice none 0 0, .int .i64 0, .int .i64 0, .slice none 0 0, .bool false] 46)) := (Below.refl _ _).alloc (Nat.le_refl _) _
    have z1 : w.heap.size ≤ _ := s0.size
    refine ⟨((((((s0).trans (s1.mono s0.size)).trans (s2.mono (by simp; omega))).trans (s3.mono (by simp; omega))).trans (s4.mono (by simp; omega))).trans (s5.mono (by simp; omega))), ?_, ?_, ?_, ?_, ?_, ?_⟩
    · simpa using (((((m0).step s1).step s2).step s3).step s4).step s5
    · simpa using ((((m1).step s2).step s3).step s4).step s5
    · simpa using (((m2).step s3).step s4).step s5
    · simpa using ((m3).step s4).step s5
    · simpa using (m4).step s5
    · simpa using m5
  go_enter Try.func47, Try.ntmps47
  go_upto_region 1 with fail
  rw [← hW0]
  clear hW0
  obtain ⟨cx0, cx1, cx2, cx3, cx4⟩ := HB.out.2.2.2.1.cells
  obtain ⟨cy0, cy1, cy2, cy3, cy4⟩ := HB.out.2.2.2.2.1.cells
  go_wp2_with fail
  refine (HAL.out _ HB.out.1).mono ?_
  rintro e' W1 ⟨rfl, hb1⟩
  have HB1 : Hid (Below w.heap.size w W1 ∧ B5 W1 (w.heap.size) 28 (.slice ap an ac) (.int .i64 am) (.int .i64 ad) (.slice ap2 an2 ac2) (.bool ab) ∧ B5 W1 (w.heap.size + 1) 46 (.slice bp bn bc) (.int .i64 bm) (.int .i64 bd) (.slice bp2 bn2 bc2) (.bool bb) ∧ B5 W1 (w.heap.size + 2) 28 (.slice xp xn xc) (.int .i64 xm) (.int .i64 xd) (.slice xp2 xn2 xc2) (.bool xb) ∧ B5 W1 (w.heap.size + 3) 46 (.slice yp yn yc) (.int .i64 ym) (.int .i64 yd) (.slice yp2 yn2 yc2) (.bool yb) ∧ B5 W1 (w.heap.size + 4) 28 (.slice none 0 0) (.int .i64 0) (.int .i64 0) (.slice none 0 0) (.bool false) ∧ B5 W1 (w.heap.size + 5) 46 (.slice none 0 0) (.int .i64 0) (.int .i64 0) (.slice none 0 0) (.bool false)) := ⟨HB.out.1.trans (hb1.mono HB.out.1.size), HB.out.2.1.step hb1, HB.out.2.2.1.step hb1, HB.out.2.2.2.1.step hb1, HB.out.2.2.2.2.1.step hb1, HB.out.2.2.2.2.2.1.step hb1, HB.out.2.2.2.2.2.2.step hb1⟩
  clear hb1 cx0 cx1 cx2 cx3 cx4 cy0 cy1 cy2 cy3 cy4
  obtain ⟨cx0, cx1, cx2, cx3, cx4⟩ := HB1.out.2.1.cells
  obtain ⟨cy0, cy1, cy2, cy3, cy4⟩ := HB1.out.2.2.1.cells
  obtain ⟨z0, z1, z2, z3, z4⟩ := HB1.out.2.2.2.2.2.1.cells
  obtain ⟨y0, y1, y2, y3, y4⟩ := HB1.out.2.2.2.2.2.2.cells
  obtain ⟨f0, f1, f2, f3, f4⟩ := HB1.out.2.2.2.2.2.1.frz
  obtain ⟨g0, g1, g2, g3, g4⟩ := HB1.out.2.2.2.2.2.2.frz
  go_wp2_with fail
  go_region
  obtain ⟨W4, hW4⟩ : ∃ W4, W4 = (((((W1.setCell ⟨w.heap.size + 1 + 1 + 1 + 1, 0, none⟩ (.slice ap an ac)).setCell ⟨w.heap.size + 1 + 1 + 1 + 1, 1, none⟩ (.int .i64 am)).setCell ⟨w.heap.size + 1 + 1 + 1 + 1, 2, none⟩ (.int .i64 ad)).setCell ⟨w.heap.size + 1 + 1 + 1 + 1, 3, none⟩ (.slice ap2 an2 ac2)).setCell ⟨w.heap.size + 1 + 1 + 1 + 1, 4, none⟩ (.bool ab)) := ⟨_, rfl⟩
  rw [← hW4]
  obtain ⟨W5, hW5⟩ : ∃ W5, W5 = (((((W4.setCell ⟨w.heap.size + 1 + 1 + 1 + 1 + 1, 0, none⟩ (.slice bp bn bc)).setCell ⟨w.heap.size + 1 + 1 + 1 + 1 + 1, 1, none⟩ (.int .i64 bm)).setCell ⟨w.heap.size + 1 + 1 + 1 + 1 + 1, 2, none⟩ (.int .i64 bd)).setCell ⟨w.heap.size + 1 + 1 + 1 + 1 + 1, 3, none⟩ (.slice bp2 bn2 bc2)).setCell ⟨w.heap.size + 1 + 1 + 1 + 1 + 1, 4, none⟩ (.bool bb)) := ⟨_, rfl⟩
  rw [← hW5]
  obtain ⟨p1, p2, p3⟩ := B5.put (k := w.heap.size + 1 + 1 + 1 + 1) HB1.out.2.2.2.2.2.1 hW4
  obtain ⟨r1, r2, r3⟩ := B5.put (k := w.heap.size + 1 + 1 + 1 + 1 + 1) (p3 _ _ _ _ _ _ _ (by omega) HB1.out.2.2.2.2.2.2) hW5
  have K1 := Lib.hid (r2 w.heap.size w (by omega) (p2 w.heap.size w (by omega) HB1.out.1))
  have p4 := r3 _ _ _ _ _ _ _ (by omega) p1
  clear cx0 cx1 cx2 cx3 cx4 cy0 cy1 cy2 cy3 cy4 z0 z1 z2 z3 z4 y0 y1 y2 y3 y4 f0 f1 f2 f3 f4 g0 g1 g2 g3 g4 hW4 hW5
  obtain ⟨c0, c1, c2, c3, c4⟩ := p4.cells
  obtain ⟨d0, d1, d2, d3, d4⟩ := r1.cells
  go_wp2_with fail
  refine bodyPost_ret (v := .tuple #[.agg #[.slice ap an ac, .int .i64 am, .int .i64 ad, .slice ap2 an2 ac2, .bool ab], .agg #[.slice bp bn bc, .int .i64 bm, .int .i64 bd, .slice bp2 bn2 bc2, .bool bb], .bool true]) (by simp [results, Try.results47, go_sem, c0, c1, c2, c3, c4, d0, d1, d2, d3, d4]) rfl ⟨rfl, K1.out.drew⟩
end Go.Proofs.Ytgbafpjeapkklaa.Mb
namespace Go.Proofs.Ytgbafpjeapkklaa.Mb
open Go.RowKit
set_option linter.unusedVariables false
set_option linter.unusedSimpArgs false
def pickS (e : Int) (x a : Value) : Value := if e = 0 then x else a
theorem pick_shape {e : Int} {x a : Value} (hx : Shape x) (ha : Shape a) : Shape (pickS e x a) := by
  unfold pickS
  split <;> assumption
theorem keep_any {a b x y : Value} {w : World} (ha : Shape a) (hb : Shape b) (hx : Shape x) (hy : Shape y) (hal : ∀ W, Below w.heap.size w W → Calls Try.prog 16 #[x, y] W fun e w' => e = .returned (.bool true) ∧ Below W.heap.size W w') (e : Int) :
    Calls Try.prog 47 #[a, b, x, y, .int .i64 e, .bool true] w fun en w' => en = .returned (.tuple #[pickS e x a, pickS e y b, .bool true]) ∧ Below w.heap.size w w' := by
  by_cases he : e = 0
  · subst he
    exact keep_yes ha hb hx hy hal
  · have h1 : pickS e x a = a := if_neg he
    have h2 : pickS e y b = b := if_neg he
    rw [h1, h2]
    exact keep_no ha hb hx hy hal he
def Keeps (W W' : World) : Prop := W.heap.size ≤ W'.heap.size ∧ ∀ (k : Nat) (C : Array Value) (e : TypeId) (f : Nat × Nat), e ≠ 28 → e ≠ 46 → W.heap[k]? = some (.cells C e f) → W'.heap[k]? = W.heap[k]?
theorem Keeps.tri {W W' : World} (h : Keeps W W') {e : TypeId} (h1 : e ≠ 28) (h2 : e ≠ 46) {v : Value} {l : List (Int × Int × Int)} (ht : TriT W e v l) : TriT W' e v l := ht.keep h.1 (fun k C f hk => h.2 k C e f h1 h2 hk)
theorem Keeps.st {W W' : World} (h : Keeps W W') {v : Value} {q : Q} (ht : St W v q) : St W' v q := by
  obtain ⟨ns, ps, e, h1, h2⟩ := ht
  exact ⟨ns, ps, e, h.tri (by decide) (by decide) h1, h.tri (by decide) (by decide) h2⟩
theorem Keeps.str {W W' : World} (h : Keeps W W') {v : Value} {q : Q} (ht : StR W v q) : StR W' v q := by
  obtain ⟨ns, ps, e, h1, h2⟩ := ht
  exact ⟨ns, ps, e, h.tri (by decide) (by decide) h1, h.tri (by decide) (by decide) h2⟩
theorem Keeps.stz {W W' : World} (h : Keeps W W') {v : Value} (ht : StZ W v) : StZ W' v := by
  obtain ⟨ns, ps, e, h1, h2⟩ := ht
  exact ⟨ns, ps, e, h.tri (by decide) (by decide) h1, h.tri (by decide) (by decide) h2⟩
theorem Keeps.put {W W' : World} {k : Nat} {t : TypeId} {v0 v1 v2 v3 v4 u0 u1 u2 u3 u4 : Value} (ht : t = 28 ∨ t = 46) (h : B5 W k t v0 v1 v2 v3 v4)
    (hW : W' = (((((W.setCell ⟨k, 0, none⟩ u0).setCell ⟨k, 1, none⟩ u1).setCell ⟨k, 2, none⟩ u2).setCell ⟨k, 3, none⟩ u3).setCell ⟨k, 4, none⟩ u4)) : Keeps W W' := by
  subst hW
  refine ⟨by simp [World.setCell], fun j C e f h1 h2 hj => ?_⟩
  have hne : j ≠ k := by
    rintro rfl
    rw [h] at hj
    injection hj with hj
    injection hj with _ h3 _
    subst h3
    rcases ht with h | h
    · exact h1 h
    · exact h2 h
  rw [Below.heap_setCell _ _ _ _ hne, Below.heap_setCell _ _ _ _ hne, Below.heap_setCell _ _ _ _ hne, Below.heap_setCell _ _ _ _ hne, Below.heap_setCell _ _ _ _ hne]
structure Both (RX RY : World → Value → Prop) : Prop where
  sx : ∀ W x, RX W x → Shape x
  sy : ∀ W y, RY W y → Shape y
  bx : ∀ W W' x, RX W x → Below W.heap.size W W' → RX W' x
  bY : ∀ W W' y, RY W y → Below W.heap.size W W' → RY W' y
  kx : ∀ W W' x, RX W x → Keeps W W' → RX W' x
  ky : ∀ W W' y, RY W y → Keeps W W' → RY W' y
  al : ∀ W x y, RX W x → RY W y → Calls Try.prog 16 #[x, y] W fun e w' => e = .returned (.bool true) ∧ Below W.heap.size W w'
def kindOf (x : Int) : Int := (x.tmod 6 + 6).tmod 6
structure SK (w : World) (a0 a1 a2 a3 a4 b0 b1 b2 b3 b4 : Value) (ki p v : Int) (W : World) : Prop where
  below : Below w.heap.size w W
  a : B5 W w.heap.size 28 a0 a1 a2 a3 a4
  b : B5 W (w.heap.size + 1) 46 b0 b1 b2 b3 b4
  o : W.heap[w.heap.size + 1 + 1]? = some (.cells #[.int .i8 ki, .int .i8 p, .int .i8 v] 51 (0, 0))
  z : B5 W (w.heap.size + 1 + 1 + 1) 28 (.slice none 0 0) (.int .i64 0) (.int .i64 0) (.slice none 0 0) (.bool false)
  zz : B5 W (w.heap.size + 1 + 1 + 1 + 1) 46 (.slice none 0 0) (.int .i64 0) (.int .i64 0) (.slice none 0 0) (.bool false)
section
variable {w : World} {a0 a1 a2 a3 a4 b0 b1 b2 b3 b4 : Value} {ki p v : Int} {W W' : World}
theorem SK.step (h : SK w a0 a1 a2 a3 a4 b0 b1 b2 b3 b4 ki p v W) (hb : Below W.heap.size W W') : SK w a0 a1 a2 a3 a4 b0 b1 b2 b3 b4 ki p v W' :=
  ⟨h.below.trans (hb.mono h.below.size), h.a.step hb, h.b.step hb, (hb.block _ (blk_lt h.o)).trans h.o, h.z.step hb, h.zz.step hb⟩
theorem SK.mk' (w : World) (a0 a1 a2 a3 a4 b0 b1 b2 b3 b4 : Value) (ki p v : Int) : SK w a0 a1 a2 a3 a4 b0 b1 b2 b3 b4 ki p v
    (((((w.alloc (Obj.cells #[a0, a1, a2, a3, a4] 28)).alloc (Obj.cells #[b0, b1, b2, b3, b4] 46)).alloc (Obj.cells #[.int .i8 ki, .int .i8 p, .int .i8 v] 51)).alloc (Obj.cells #[.slice none 0 0, .int .i64 0, .int .i64 0, .slice none 0 0, .bool false] 28)).alloc (Obj.cells #[.slice none 0 0, .int .i64 0, .int .i64 0, .slice none 0 0, .bool false] 46)) := by
  have m0 := B5.made (W := w) a0 a1 a2 a3 a4 28
  have s0 : Below w.heap.size w (w.alloc (Obj.cells #[a0, a1, a2, a3, a4] 28)) := (Below.refl _ _).alloc (Nat.le_refl _) _
  have z0 : (w.alloc (Obj.cells #[a0, a1, a2, a3, a4] 28)).heap.size = w.heap.size + 1 := by simp
  generalize w.alloc (Obj.cells #[a0, a1, a2, a3, a4] 28) = W1 at *
  have m1 := B5.made (W := W1) b0 b1 b2 b3 b4 46
  have s1 : Below W1.heap.size W1 (W1.alloc (Obj.cells #[b0, b1, b2, b3, b4] 46)) := (Below.refl _ _).alloc (Nat.le_refl _) _
  have z1 : (W1.alloc (Obj.cells #[b0, b1, b2, b3, b4] 46)).heap.size = W1.heap.size + 1 := by simp
  generalize W1.alloc (Obj.cells #[b0, b1, b2, b3, b4] 46) = W2 at *
  have m2 := (MapKept.heap_alloc W2 (Obj.cells #[.int .i8 ki, .int .i8 p, .int .i8 v] 51)).1
  have s2 : Below W2.heap.size W2 (W2.alloc (Obj.cells #[.int .i8 ki, .int .i8 p, .int .i8 v] 51)) := (Below.refl _ _).alloc (Nat.le_refl _) _
  have z2 : (W2.alloc (Obj.cells #[.int .i8 ki, .int .i8 p, .int .i8 v] 51)).heap.size = W2.heap.size + 1 := by simp
  generalize W2.alloc (Obj.cells #[.int .i8 ki, .int .i8 p, .int .i8 v] 51) = W3 at *
  have m3 := B5.made (W := W3) (.slice none 0 0) (.int .i64 0) (.int .i64 0) (.slice none 0 0) (.bool false) 28
  have s3 : Below W3.heap.size W3 (W3.alloc (Obj.cells #[.slice none 0 0, .int .i64 0, .int .i64 0, .slice none 0 0, .bool false] 28)) := (Below.refl _ _).alloc (Nat.le_refl _) _
  have z3 : (W3.alloc (Obj.cells #[.slice none 0 0, .int .i64 0, .int .i64 0, .slice none 0 0, .bool false] 28)).heap.size = W3.heap.size + 1 := by simp
  generalize W3.alloc (Obj.cells #[.slice none 0 0, .int .i64 0, .int .i64 0, .slice none 0 0, .bool false] 28) = W4 at *
  have m4 := B5.made (W := W4) (.slice none 0 0) (.int .i64 0) (.int .i64 0) (.slice none 0 0) (.bool false) 46
  have s4 : Below W4.heap.size W4 (W4.alloc (Obj.cells #[.slice none 0 0, .int .i64 0, .int .i64 0, .slice none 0 0, .bool false] 46)) := (Below.refl _ _).alloc (Nat.le_refl _) _
  generalize W4.alloc (Obj.cells #[.slice none 0 0, .int .i64 0, .int .i64 0, .slice none 0 0, .bool false] 46) = W5 at *
  rw [z0] at m1
  rw [z1, z0] at m2
  rw [z2, z1, z0] at m3
  rw [z3, z2, z1, z0] at m4
  refine ⟨(((s0.trans (s1.mono s0.size)).trans (s2.mono (by omega))).trans (s3.mono (by omega))).trans (s4.mono (by omega)), ?_, ?_, ?_, ?_, m4⟩
  · exact (((m0.step s1).step s2).step s3).step s4
  · exact ((m1.step s2).step s3).step s4
  · exact (s4.block _ (blk_lt ((s3.block _ (blk_lt m2)).trans m2))).trans ((s3.block _ (blk_lt m2)).trans m2)
  · exact m3.step s4
theorem SK.ocells (h : SK w a0 a1 a2 a3 a4 b0 b1 b2 b3 b4 ki p v W) : W.cell? ⟨w.heap.size + 1 + 1, 0, none⟩ = some (.int .i8 ki) ∧ W.cell? ⟨w.heap.size + 1 + 1, 1, none⟩ = some (.int .i8 p) ∧ W.cell? ⟨w.heap.size + 1 + 1, 2, none⟩ = some (.int .i8 v) :=
  ⟨cell_blk h.o 0, cell_blk h.o 1, cell_blk h.o 2⟩
end
set_option maxRecDepth 100000 in
set_option maxHeartbeats 16000000 in
theorem step_0 {RX RY : World → Value → Prop} (hc : Both RX RY) {a b : Value} {ki p v : Int} {w : World} (ha : Shape a) (hb : Shape b) (g1 : -128 ≤ ki) (g2 : ki ≤ 127) (g3 : -128 ≤ p) (g4 : p ≤ 127) (g5 : -128 ≤ v) (g6 : v ≤ 127) (hk : kindOf ki = 0)
    (was : Bool) (e : Int)
    (hA : ∀ W, Below w.heap.size w W → Calls Try.prog 10 #[a, .int .i64 p, .int .i64 v] W fun en w' => ∃ x, en = .returned (.tuple #[x, .bool was, .int .i64 e]) ∧ RX w' x ∧ Below W.heap.size W w')
    (hB : ∀ W, Below w.heap.size w W → Calls Try.prog 46 #[b, .int .i64 p, .int .i64 v] W fun en w' => ∃ x, en = .returned (.tuple #[x, .bool was, .int .i64 e]) ∧ RY w' x ∧ Below W.heap.size W w') :
    Calls Try.prog 17 #[a, b, .agg #[.int .i8 ki, .int .i8 p, .int .i8 v]] w fun en w' => ∃ x y, en = .returned (.tuple #[pickS e x a, pickS e y b, .bool true]) ∧ RX w' x ∧ RY w' y ∧ Below w.heap.size w w' := by
  obtain ⟨ap, an, ac, am, ad, ap2, an2, ac2, ab, rfl⟩ := ha
  obtain ⟨bp, bn, bc, bm, bd, bp2, bn2, bc2, bb, rfl⟩ := hb
  have HC := Lib.hid hc
  have HAA := Lib.hid hA
  have HBB := Lib.hid hB
  have HAS : Hid (Shape (.agg #[.slice ap an ac, .int .i64 am, .int .i64 ad, .slice ap2 an2 ac2, .bool ab])) := ⟨_, _, _, _, _, _, _, _, _, rfl⟩
  have HBS : Hid (Shape (.agg #[.slice bp bn bc, .int .i64 bm, .int .i64 bd, .slice bp2 bn2 bc2, .bool bb])) := ⟨_, _, _, _, _, _, _, _, _, rfl⟩
  obtain ⟨r, kk, er, hr1, hr2, ek, hkk⟩ := kind_of ki g1 g2
  obtain rfl : kk = 0 := by
    unfold kindOf at hk
    rw [er, ek] at hk
    omega
  have f0 : wrap64 ki = ki := by unfold wrap64; omega
  have f1 : wrap64 p = p := by unfold wrap64; omega
  have f2 : wrap64 v = v := by unfold wrap64; omega
  have f0' : IntKind.i64.wrap ki = ki := (Go.IntWalk.i64_left _).trans f0
  have f1' : IntKind.i64.wrap p = p := (Go.IntWalk.i64_left _).trans f1
  have f2' : IntKind.i64.wrap v = v := (Go.IntWalk.i64_left _).trans f2
  have fr : wrap64 r = r := by unfold wrap64; omega
  have fr' : IntKind.i64.wrap r = r := (Go.IntWalk.i64_left _).trans fr
  have fs : wrap64 (r + 6) = r + 6 := by unfold wrap64; omega
  have fs' : IntKind.i64.wrap (r + 6) = r + 6 := (Go.IntWalk.i64_left _).trans fs
  clear hc hA hB hk g1 g2 g3 g4 g5 g6 hr1 hr2 hkk
  have HK : Hid (SK w (.slice ap an ac) (.int .i64 am) (.int .i64 ad) (.slice ap2 an2 ac2) (.bool ab) (.slice bp bn bc) (.int .i64 bm) (.int .i64 bd) (.slice bp2 bn2 bc2) (.bool bb) ki p v _) := SK.mk' w _ _ _ _ _ _ _ _ _ _ ki p v
  go_enter Try.func17, Try.ntmps17
  go_upto_region 1 with fail
  generalize (((((w.alloc (Obj.cells #[.slice ap an ac, .int .i64 am, .int .i64 ad, .slice ap2 an2 ac2, .bool ab] 28)).alloc (Obj.cells #[.slice bp bn bc, .int .i64 bm, .int .i64 bd, .slice bp2 bn2 bc2, .bool bb] 46)).alloc (Obj.cells #[.int .i8 ki, .int .i8 p, .int .i8 v] 51)).alloc (Obj.cells #[.slice none 0 0, .int .i64 0, .int .i64 0, .slice none 0 0, .bool false] 28)).alloc (Obj.cells #[.slice none 0 0, .int .i64 0, .int .i64 0, .slice none 0 0, .bool false] 46)) = W0 at *
  obtain ⟨o0, o1, o2⟩ := HK.out.ocells
  go_quiet (fail)
  go_upto_region 5 with fail
  have HK1 := Lib.hid (HK.out.step (below_drewN (Below.refl _ _) nq))
  generalize W0.drewN nq = W1 at *
  clear o0 o1 o2 f0 f0' fr fr' fs fs' er ek f1 f1' f2 f2'
  obtain ⟨c0, c1, c2, c3, c4⟩ := HK1.out.a.cells
  go_wp2_with fail
  refine (HAA.out _ HK1.out.below).mono ?_
  rintro en W2 ⟨x, rfl, hx, hb2⟩
  obtain ⟨xp, xn, xc, xm, xd, xp2, xn2, xc2, xb, rfl⟩ := HC.out.sx _ _ hx
  have HK2 := Lib.hid (HK1.out.step hb2)
  have hm3 := B5.made (W := W2) (.slice xp xn xc) (.int .i64 xm) (.int .i64 xd) (.slice xp2 xn2 xc2) (.bool xb) 28
  obtain ⟨X, hX⟩ : ∃ X, X = W2.heap.size := ⟨_, rfl⟩
  have hal3 : Below W2.heap.size W2 (W2.alloc (Obj.cells #[.slice xp xn xc, .int .i64 xm, .int .i64 xd, .slice xp2 xn2 xc2, .bool xb] 28)) := (Below.refl _ _).alloc (Nat.le_refl _) _
  have HX3 := Lib.hid (HC.out.bx _ _ _ hx hal3)
  have HK3 := Lib.hid (HK2.out.step hal3)
  clear hx hb2 c0 c1 c2 c3 c4 hal3
  go_upto_region 6 with fail
  rw [← hX] at hm3 ⊢
  have HM3 := Lib.hid hm3
  clear hX hm3
  generalize W2.alloc (Obj.cells #[.slice xp xn xc, .int .i64 xm, .int .i64 xd, .slice xp2 xn2 xc2, .bool xb] 28) = W3 at *
  obtain ⟨c0, c1, c2, c3, c4⟩ := HK3.out.b.cells
  go_wp2_with fail
  refine (HBB.out _ HK3.out.below).mono ?_
  rintro en W4 ⟨y, rfl, hy, hb4⟩
  obtain ⟨yp, yn, yc, ym, yd, yp2, yn2, yc2, yb, rfl⟩ := HC.out.sy _ _ hy
  have HK4 := Lib.hid (HK3.out.step hb4)
  have HX4 := Lib.hid (HC.out.bx _ _ _ HX3.out hb4)
  have hm5 := B5.made (W := W4) (.slice yp yn yc) (.int .i64 ym) (.int .i64 yd) (.slice yp2 yn2 yc2) (.bool yb) 46
  obtain ⟨Y, hY⟩ : ∃ Y, Y = W4.heap.size := ⟨_, rfl⟩
  have hal5 : Below W4.heap.size W4 (W4.alloc (Obj.cells #[.slice yp yn yc, .int .i64 ym, .int .i64 yd, .slice yp2 yn2 yc2, .bool yb] 46)) := (Below.refl _ _).alloc (Nat.le_refl _) _
  have HY5 := Lib.hid (HC.out.bY _ _ _ hy hal5)
  have HX5 := Lib.hid (HC.out.bx _ _ _ HX4.out hal5)
  have HK5 := Lib.hid (HK4.out.step hal5)
  have HM5 := Lib.hid ((HM3.out.step hb4).step hal5)
  clear hy hb4 c0 c1 c2 c3 c4 hal5
  go_upto_region 7 with fail
  rw [← hY] at hm5 ⊢
  have HN5 := Lib.hid hm5
  clear hY hm5
  generalize W4.alloc (Obj.cells #[.slice yp yn yc, .int .i64 ym, .int .i64 yd, .slice yp2 yn2 yc2, .bool yb] 46) = W5 at *
  obtain ⟨a0, a1, a2, a3, a4⟩ := HK5.out.a.cells
  obtain ⟨b0, b1, b2, b3, b4⟩ := HK5.out.b.cells
  obtain ⟨c0, c1, c2, c3, c4⟩ := HM5.out.cells
  obtain ⟨d0, d1, d2, d3, d4⟩ := HN5.out.cells
  go_wp2_with fail
  refine (keep_any HAS.out HBS.out ⟨_, _, _, _, _, _, _, _, _, rfl⟩ ⟨_, _, _, _, _, _, _, _, _, rfl⟩ (fun W h => HC.out.al W _ _ (HC.out.bx _ _ _ HX5.out h) (HC.out.bY _ _ _ HY5.out h)) e).mono ?_
  rintro en W6 ⟨rfl, hb6⟩
  obtain ⟨up, un, uc, um, ud, up2, un2, uc2, ub, eu⟩ := pick_shape (e := e) (x := .agg #[.slice xp xn xc, .int .i64 xm, .int .i64 xd, .slice xp2 xn2 xc2, .bool xb]) (a := .agg #[.slice ap an ac, .int .i64 am, .int .i64 ad, .slice ap2 an2 ac2, .bool ab]) ⟨_, _, _, _, _, _, _, _, _, rfl⟩ HAS.out
  obtain ⟨vp, vn, vc, vm, vd, vp2, vn2, vc2, vb, ev⟩ := pick_shape (e := e) (x := .agg #[.slice yp yn yc, .int .i64 ym, .int .i64 yd, .slice yp2 yn2 yc2, .bool yb]) (a := .agg #[.slice bp bn bc, .int .i64 bm, .int .i64 bd, .slice bp2 bn2 bc2, .bool bb]) ⟨_, _, _, _, _, _, _, _, _, rfl⟩ HBS.out
  have HK6 := Lib.hid (HK5.out.step hb6)
  have HX6 := Lib.hid (HC.out.bx _ _ _ HX5.out hb6)
  have HY6 := Lib.hid (HC.out.bY _ _ _ HY5.out hb6)
  clear hb6 a0 a1 a2 a3 a4 b0 b1 b2 b3 b4 c0 c1 c2 c3 c4 d0 d1 d2 d3 d4
  have HEU := Lib.hid eu
  have HEV := Lib.hid ev
  rw [eu, ev]
  clear eu ev
  obtain ⟨z0, z1, z2, z3, z4⟩ := HK6.out.z.cells
  obtain ⟨y0, y1, y2, y3, y4⟩ := HK6.out.zz.cells
  obtain ⟨f0, f1, f2, f3, f4⟩ := HK6.out.z.frz
  obtain ⟨g0, g1, g2, g3, g4⟩ := HK6.out.zz.frz
  go_wp2_with fail
  obtain ⟨W7, hW7⟩ : ∃ W7, W7 = (((((W6.setCell ⟨w.heap.size + 1 + 1 + 1, 0, none⟩ (.slice up un uc)).setCell ⟨w.heap.size + 1 + 1 + 1, 1, none⟩ (.int .i64 um)).setCell ⟨w.heap.size + 1 + 1 + 1, 2, none⟩ (.int .i64 ud)).setCell ⟨w.heap.size + 1 + 1 + 1, 3, none⟩ (.slice up2 un2 uc2)).setCell ⟨w.heap.size + 1 + 1 + 1, 4, none⟩ (.bool ub)) := ⟨_, rfl⟩
  rw [← hW7]
  obtain ⟨W8, hW8⟩ : ∃ W8, W8 = (((((W7.setCell ⟨w.heap.size + 1 + 1 + 1 + 1, 0, none⟩ (.slice vp vn vc)).setCell ⟨w.heap.size + 1 + 1 + 1 + 1, 1, none⟩ (.int .i64 vm)).setCell ⟨w.heap.size + 1 + 1 + 1 + 1, 2, none⟩ (.int .i64 vd)).setCell ⟨w.heap.size + 1 + 1 + 1 + 1, 3, none⟩ (.slice vp2 vn2 vc2)).setCell ⟨w.heap.size + 1 + 1 + 1 + 1, 4, none⟩ (.bool vb)) := ⟨_, rfl⟩
  rw [← hW8]
  obtain ⟨p1, p2, p3⟩ := B5.put HK6.out.z hW7
  have hzz := p3 _ _ _ _ _ _ _ (by omega) HK6.out.zz
  obtain ⟨r1, r2, r3⟩ := B5.put hzz hW8
  have kp7 := Keeps.put (.inl rfl) HK6.out.z hW7
  have kp8 := Keeps.put (.inr rfl) hzz hW8
  have K1 := Lib.hid (r2 w.heap.size w (by omega) (p2 w.heap.size w (by omega) HK6.out.below))
  have HX8 := Lib.hid (HC.out.kx _ _ _ (HC.out.kx _ _ _ HX6.out kp7) kp8)
  have HY8 := Lib.hid (HC.out.ky _ _ _ (HC.out.ky _ _ _ HY6.out kp7) kp8)
  have p4 := r3 _ _ _ _ _ _ _ (by omega) p1
  clear z0 z1 z2 z3 z4 y0 y1 y2 y3 y4 f0 f1 f2 f3 f4 g0 g1 g2 g3 g4 hW7 hW8 kp7 kp8 hzz
  obtain ⟨c0, c1, c2, c3, c4⟩ := p4.cells
  obtain ⟨d0, d1, d2, d3, d4⟩ := r1.cells
  refine bodyPost_ret (v := .tuple #[.agg #[.slice up un uc, .int .i64 um, .int .i64 ud, .slice up2 un2 uc2, .bool ub], .agg #[.slice vp vn vc, .int .i64 vm, .int .i64 vd, .slice vp2 vn2 vc2, .bool vb], .bool true]) (by simp [results, Try.results17, go_sem, c0, c1, c2, c3, c4, d0, d1, d2, d3, d4]) rfl ⟨_, _, ?_, HX8.out, HY8.out, K1.out⟩
  rw [HEU.out, HEV.out]
set_option maxRecDepth 100000 in
set_option maxHeartbeats 16000000 in
theorem step_1 {RX RY : World → Value → Prop} (hc : Both RX RY) {a b : Value} {ki p v : Int} {w : World} (ha : Shape a) (hb : Shape b) (g1 : -128 ≤ ki) (g2 : ki ≤ 127) (g3 : -128 ≤ p) (g4 : p ≤ 127) (g5 : -128 ≤ v) (g6 : v ≤ 127) (hk : kindOf ki = 1)
    (e : Int)
    (hA : ∀ W, Below w.heap.size w W → Calls Try.prog 11 #[a, .int .i64 p] W fun en w' => ∃ x, en = .returned (.tuple #[x, .int .i64 e]) ∧ RX w' x ∧ Below W.heap.size W w')
    (hB : ∀ W, Below w.heap.size w W → Calls Try.prog 48 #[b, .int .i64 p] W fun en w' => ∃ x, en = .returned (.tuple #[x, .int .i64 e]) ∧ RY w' x ∧ Below W.heap.size W w') :
    Calls Try.prog 17 #[a, b, .agg #[.int .i8 ki, .int .i8 p, .int .i8 v]] w fun en w' => ∃ x y, en = .returned (.tuple #[pickS e x a, pickS e y b, .bool true]) ∧ RX w' x ∧ RY w' y ∧ Below w.heap.size w w' := by
  obtain ⟨ap, an, ac, am, ad, ap2, an2, ac2, ab, rfl⟩ := ha
  obtain ⟨bp, bn, bc, bm, bd, bp2, bn2, bc2, bb, rfl⟩ := hb
  have HC := Lib.hid hc
  have HAA := Lib.hid hA
  have HBB := Lib.hid hB
  have HAS : Hid (Shape (.agg #[.slice ap an ac, .int .i64 am, .int .i64 ad, .slice ap2 an2 ac2, .bool ab])) := ⟨_, _, _, _, _, _, _, _, _, rfl⟩
  have HBS : Hid (Shape (.agg #[.slice bp bn bc, .int .i64 bm, .int .i64 bd, .slice bp2 bn2 bc2, .bool bb])) := ⟨_, _, _, _, _, _, _, _, _, rfl⟩
  obtain ⟨r, kk, er, hr1, hr2, ek, hkk⟩ := kind_of ki g1 g2
  obtain rfl : kk = 1 := by
    unfold kindOf at hk
    rw [er, ek] at hk
    omega
  have f0 : wrap64 ki = ki := by unfold wrap64; omega
  have f1 : wrap64 p = p := by unfold wrap64; omega
  have f2 : wrap64 v = v := by unfold wrap64; omega
  have f0' : IntKind.i64.wrap ki = ki := (Go.IntWalk.i64_left _).trans f0
  have f1' : IntKind.i64.wrap p = p := (Go.IntWalk.i64_left _).trans f1
  have f2' : IntKind.i64.wrap v = v := (Go.IntWalk.i64_left _).trans f2
  have fr : wrap64 r = r := by unfold wrap64; omega
  have fr' : IntKind.i64.wrap r = r := (Go.IntWalk.i64_left _).trans fr
  have fs : wrap64 (r + 6) = r + 6 := by unfold wrap64; omega
  have fs' : IntKind.i64.wrap (r + 6) = r + 6 := (Go.IntWalk.i64_left _).trans fs
  clear hc hA hB hk g1 g2 g3 g4 g5 g6 hr1 hr2 hkk
  have HK : Hid (SK w (.slice ap an ac) (.int .i64 am) (.int .i64 ad) (.slice ap2 an2 ac2) (.bool ab) (.slice bp bn bc) (.int .i64 bm) (.int .i64 bd) (.slice bp2 bn2 bc2) (.bool bb) ki p v _) := SK.mk' w _ _ _ _ _ _ _ _ _ _ ki p v
  go_enter Try.func17, Try.ntmps17
  go_upto_region 1 with fail
  generalize (((((w.alloc (Obj.cells #[.slice ap an ac, .int .i64 am, .int .i64 ad, .slice ap2 an2 ac2, .bool ab] 28)).alloc (Obj.cells #[.slice bp bn bc, .int .i64 bm, .int .i64 bd, .slice bp2 bn2 bc2, .bool bb] 46)).alloc (Obj.cells #[.int .i8 ki, .int .i8 p, .int .i8 v] 51)).alloc (Obj.cells #[.slice none 0 0, .int .i64 0, .int .i64 0, .slice none 0 0, .bool false] 28)).alloc (Obj.cells #[.slice none 0 0, .int .i64 0, .int .i64 0, .slice none 0 0, .bool false] 46)) = W0 at *
  obtain ⟨o0, o1, o2⟩ := HK.out.ocells
  go_quiet (fail)
  go_upto_region 9 with fail
  have HK1 := Lib.hid (HK.out.step (below_drewN (Below.refl _ _) nq))
  generalize W0.drewN nq = W1 at *
  clear o0 o1 o2 f0 f0' fr fr' fs fs' er ek f1 f1' f2 f2'
  obtain ⟨c0, c1, c2, c3, c4⟩ := HK1.out.a.cells
  go_wp2_with fail
  refine (HAA.out _ HK1.out.below).mono ?_
  rintro en W2 ⟨x, rfl, hx, hb2⟩
  obtain ⟨xp, xn, xc, xm, xd, xp2, xn2, xc2, xb, rfl⟩ := HC.out.sx _ _ hx
  have HK2 := Lib.hid (HK1.out.step hb2)
  have hm3 := B5.made (W := W2) (.slice xp xn xc) (.int .i64 xm) (.int .i64 xd) (.slice xp2 xn2 xc2) (.bool xb) 28
  obtain ⟨X, hX⟩ : ∃ X, X = W2.heap.size := ⟨_, rfl⟩
  have hal3 : Below W2.heap.size W2 (W2.alloc (Obj.cells #[.slice xp xn xc, .int .i64 xm, .int .i64 xd, .slice xp2 xn2 xc2, .bool xb] 28)) := (Below.refl _ _).alloc (Nat.le_refl _) _
  have HX3 := Lib.hid (HC.out.bx _ _ _ hx hal3)
  have HK3 := Lib.hid (HK2.out.step hal3)
  clear hx hb2 c0 c1 c2 c3 c4 hal3
  go_upto_region 10 with fail
  rw [← hX] at hm3 ⊢
  have HM3 := Lib.hid hm3
  clear hX hm3
  generalize W2.alloc (Obj.cells #[.slice xp xn xc, .int .i64 xm, .int .i64 xd, .slice xp2 xn2 xc2, .bool xb] 28) = W3 at *
  obtain ⟨c0, c1, c2, c3, c4⟩ := HK3.out.b.cells
  go_wp2_with fail
  refine (HBB.out _ HK3.out.below).mono ?_
  rintro en W4 ⟨y, rfl, hy, hb4⟩
  obtain ⟨yp, yn, yc, ym, yd, yp2, yn2, yc2, yb, rfl⟩ := HC.out.sy _ _ hy
  have HK4 := Lib.hid (HK3.out.step hb4)
  have HX4 := Lib.hid (HC.out.bx _ _ _ HX3.out hb4)
  have hm5 := B5.made (W := W4) (.slice yp yn yc) (.int .i64 ym) (.int .i64 yd) (.slice yp2 yn2 yc2) (.bool yb) 46
  obtain ⟨Y, hY⟩ : ∃ Y, Y = W4.heap.size := ⟨_, rfl⟩
  have hal5 : Below W4.heap.size W4 (W4.alloc (Obj.cells #[.slice yp yn yc, .int .i64 ym, .int .i64 yd, .slice yp2 yn2 yc2, .bool yb] 46)) := (Below.refl _ _).alloc (Nat.le_refl _) _
  have HY5 := Lib.hid (HC.out.bY _ _ _ hy hal5)
  have HX5 := Lib.hid (HC.out.bx _ _ _ HX4.out hal5)
  have HK5 := Lib.hid (HK4.out.step hal5)
  have HM5 := Lib.hid ((HM3.out.step hb4).step hal5)
  clear hy hb4 c0 c1 c2 c3 c4 hal5
  go_upto_region 11 with fail
  rw [← hY] at hm5 ⊢
  have HN5 := Lib.hid hm5
  clear hY hm5
  generalize W4.alloc (Obj.cells #[.slice yp yn yc, .int .i64 ym, .int .i64 yd, .slice yp2 yn2 yc2, .bool yb] 46) = W5 at *
  obtain ⟨a0, a1, a2, a3, a4⟩ := HK5.out.a.cells
  obtain ⟨b0, b1, b2, b3, b4⟩ := HK5.out.b.cells
  obtain ⟨c0, c1, c2, c3, c4⟩ := HM5.out.cells
  obtain ⟨d0, d1, d2, d3, d4⟩ := HN5.out.cells
  go_wp2_with fail
  refine (keep_any HAS.out HBS.out ⟨_, _, _, _, _, _, _, _, _, rfl⟩ ⟨_, _, _, _, _, _, _, _, _, rfl⟩ (fun W h => HC.out.al W _ _ (HC.out.bx _ _ _ HX5.out h) (HC.out.bY _ _ _ HY5.out h)) e).mono ?_
  rintro en W6 ⟨rfl, hb6⟩
  obtain ⟨up, un, uc, um, ud, up2, un2, uc2, ub, eu⟩ := pick_shape (e := e) (x := .agg #[.slice xp xn xc, .int .i64 xm, .int .i64 xd, .slice xp2 xn2 xc2, .bool xb]) (a := .agg #[.slice ap an ac, .int .i64 am, .int .i64 ad, .slice ap2 an2 ac2, .bool ab]) ⟨_, _, _, _, _, _, _, _, _, rfl⟩ HAS.out
  obtain ⟨vp, vn, vc, vm, vd, vp2, vn2, vc2, vb, ev⟩ := pick_shape (e := e) (x := .agg #[.slice yp yn yc, .int .i64 ym, .int .i64 yd, .slice yp2 yn2 yc2, .bool yb]) (a := .agg #[.slice bp bn bc, .int .i64 bm, .int .i64 bd, .slice bp2 bn2 bc2, .bool bb]) ⟨_, _, _, _, _, _, _, _, _, rfl⟩ HBS.out
  have HK6 := Lib.hid (HK5.out.step hb6)
  have HX6 := Lib.hid (HC.out.bx _ _ _ HX5.out hb6)
  have HY6 := Lib.hid (HC.out.bY _ _ _ HY5.out hb6)
  clear hb6 a0 a1 a2 a3 a4 b0 b1 b2 b3 b4 c0 c1 c2 c3 c4 d0 d1 d2 d3 d4
  have HEU := Lib.hid eu
  have HEV := Lib.hid ev
  rw [eu, ev]
  clear eu ev
  obtain ⟨z0, z1, z2, z3, z4⟩ := HK6.out.z.cells
  obtain ⟨y0, y1, y2, y3, y4⟩ := HK6.out.zz.cells
  obtain ⟨f0, f1, f2, f3, f4⟩ := HK6.out.z.frz
  obtain ⟨g0, g1, g2, g3, g4⟩ := HK6.out.zz.frz
  go_wp2_with fail
  obtain ⟨W7, hW7⟩ : ∃ W7, W7 = (((((W6.setCell ⟨w.heap.size + 1 + 1 + 1, 0, none⟩ (.slice up un uc)).setCell ⟨w.heap.size + 1 + 1 + 1, 1, none⟩ (.int .i64 um)).setCell ⟨w.heap.size + 1 + 1 + 1, 2, none⟩ (.int .i64 ud)).setCell ⟨w.heap.size + 1 + 1 + 1, 3, none⟩ (.slice up2 un2 uc2)).setCell ⟨w.heap.size + 1 + 1 + 1, 4, none⟩ (.bool ub)) := ⟨_, rfl⟩
  rw [← hW7]
  obtain ⟨W8, hW8⟩ : ∃ W8, W8 = (((((W7.setCell ⟨w.heap.size + 1 + 1 + 1 + 1, 0, none⟩ (.slice vp vn vc)).setCell ⟨w.heap.size + 1 + 1 + 1 + 1, 1, none⟩ (.int .i64 vm)).setCell ⟨w.heap.size + 1 + 1 + 1 + 1, 2, none⟩ (.int .i64 vd)).setCell ⟨w.heap.size + 1 + 1 + 1 + 1, 3, none⟩ (.slice vp2 vn2 vc2)).setCell ⟨w.heap.size + 1 + 1 + 1 + 1, 4, none⟩ (.bool vb)) := ⟨_, rfl⟩
  rw [← hW8]
  obtain ⟨p1, p2, p3⟩ := B5.put HK6.out.z hW7
  have hzz := p3 _ _ _ _ _ _ _ (by omega) HK6.out.zz
  obtain ⟨r1, r2, r3⟩ := B5.put hzz hW8
  have kp7 := Keeps.put (.inl rfl) HK6.out.z hW7
  have kp8 := Keeps.put (.inr rfl) hzz hW8
  have K1 := Lib.hid (r2 w.heap.size w (by omega) (p2 w.heap.size w (by omega) HK6.out.below))
  have HX8 := Lib.hid (HC.out.kx _ _ _ (HC.out.kx _ _ _ HX6.out kp7) kp8)
  have HY8 := Lib.hid (HC.out.ky _ _ _ (HC.out.ky _ _ _ HY6.out kp7) kp8)
  have p4 := r3 _ _ _ _ _ _ _ (by omega) p1
  clear z0 z1 z2 z3 z4 y0 y1 y2 y3 y4 f0 f1 f2 f3 f4 g0 g1 g2 g3 g4 hW7 hW8 kp7 kp8 hzz
  obtain ⟨c0, c1, c2, c3, c4⟩ := p4.cells
  obtain ⟨d0, d1, d2, d3, d4⟩ := r1.cells
  refine bodyPost_ret (v := .tuple #[.agg #[.slice up un uc, .int .i64 um, .int .i64 ud, .slice up2 un2 uc2, .bool ub], .agg #[.slice vp vn vc, .int .i64 vm, .int .i64 vd, .slice vp2 vn2 vc2, .bool vb], .bool true]) (by simp [results, Try.results17, go_sem, c0, c1, c2, c3, c4, d0, d1, d2, d3, d4]) rfl ⟨_, _, ?_, HX8.out, HY8.out, K1.out⟩
  rw [HEU.out, HEV.out]
set_option maxRecDepth 100000 in
set_option maxHeartbeats 16000000 in
theorem step_2 {RX RY : World → Value → Prop} (hc : Both RX RY) {a b : Value} {ki p v : Int} {w : World} (ha : Shape a) (hb : Shape b) (g1 : -128 ≤ ki) (g2 : ki ≤ 127) (g3 : -128 ≤ p) (g4 : p ≤ 127) (g5 : -128 ≤ v) (g6 : v ≤ 127) (hk : kindOf ki = 2)
    (n : Int) (ok : Bool) (e : Int)
    (hA : ∀ W, Below w.heap.size w W → Calls Try.prog 21 #[a] W fun en w' => ∃ x, en = .returned (.tuple #[x, .int .i64 n, .bool ok, .int .i64 e]) ∧ RX w' x ∧ Below W.heap.size W w')
    (hB : ∀ W, Below w.heap.size w W → Calls Try.prog 49 #[b] W fun en w' => ∃ x, en = .returned (.tuple #[x, .int .i64 n, .bool ok, .int .i64 e]) ∧ RY w' x ∧ Below W.heap.size W w') :
    Calls Try.prog 17 #[a, b, .agg #[.int .i8 ki, .int .i8 p, .int .i8 v]] w fun en w' => ∃ x y, en = .returned (.tuple #[pickS e x a, pickS e y b, .bool true]) ∧ RX w' x ∧ RY w' y ∧ Below w.heap.size w w' := by
  obtain ⟨ap, an, ac, am, ad, ap2, an2, ac2, ab, rfl⟩ := ha
  obtain ⟨bp, bn, bc, bm, bd, bp2, bn2, bc2, bb, rfl⟩ := hb
  have HC := Lib.hid hc
  have HAA := Lib.hid hA
  have HBB := Lib.hid hB
  have HAS : Hid (Shape (.agg #[.slice ap an ac, .int .i64 am, .int .i64 ad, .slice ap2 an2 ac2, .bool ab])) := ⟨_, _, _, _, _, _, _, _, _, rfl⟩
  have HBS : Hid (Shape (.agg #[.slice bp bn bc, .int .i64 bm, .int .i64 bd, .slice bp2 bn2 bc2, .bool bb])) := ⟨_, _, _, _, _, _, _, _, _, rfl⟩
  obtain ⟨r, kk, er, hr1, hr2, ek, hkk⟩ := kind_of ki g1 g2
  obtain rfl : kk = 2 := by
    unfold kindOf at hk
    rw [er, ek] at hk
    omega
  have f0 : wrap64 ki = ki := by unfold wrap64; omega
  have f1 : wrap64 p = p := by unfold wrap64; omega
  have f2 : wrap64 v = v := by unfold wrap64; omega
  have f0' : IntKind.i64.wrap ki = ki := (Go.IntWalk.i64_left _).trans f0
  have f1' : IntKind.i64.wrap p = p := (Go.IntWalk.i64_left _).trans f1
  have f2' : IntKind.i64.wrap v = v := (Go.IntWalk.i64_left _).trans f2
  have fr : wrap64 r = r := by unfold wrap64; omega
  have fr' : IntKind.i64.wrap r = r := (Go.IntWalk.i64_left _).trans fr
  have fs : wrap64 (r + 6) = r + 6 := by unfold wrap64; omega
  have fs' : IntKind.i64.wrap (r + 6) = r + 6 := (Go.IntWalk.i64_left _).trans fs
  clear hc hA hB hk g1 g2 g3 g4 g5 g6 hr1 hr2 hkk
  have HK : Hid (SK w (.slice ap an ac) (.int .i64 am) (.int .i64 ad) (.slice ap2 an2 ac2) (.bool ab) (.slice bp bn bc) (.int .i64 bm) (.int .i64 bd) (.slice bp2 bn2 bc2) (.bool bb) ki p v _) := SK.mk' w _ _ _ _ _ _ _ _ _ _ ki p v
  go_enter Try.func17, Try.ntmps17
  go_upto_region 1 with fail
  generalize (((((w.alloc (Obj.cells #[.slice ap an ac, .int .i64 am, .int .i64 ad, .slice ap2 an2 ac2, .bool ab] 28)).alloc (Obj.cells #[.slice bp bn bc, .int .i64 bm, .int .i64 bd, .slice bp2 bn2 bc2, .bool bb] 46)).alloc (Obj.cells #[.int .i8 ki, .int .i8 p, .int .i8 v] 51)).alloc (Obj.cells #[.slice none 0 0, .int .i64 0, .int .i64 0, .slice none 0 0, .bool false] 28)).alloc (Obj.cells #[.slice none 0 0, .int .i64 0, .int .i64 0, .slice none 0 0, .bool false] 46)) = W0 at *
  obtain ⟨o0, o1, o2⟩ := HK.out.ocells
  go_quiet (fail)
  go_upto_region 13 with fail
  have HK1 := Lib.hid (HK.out.step (below_drewN (Below.refl _ _) nq))
  generalize W0.drewN nq = W1 at *
  clear o0 o1 o2 f0 f0' fr fr' fs fs' er ek f1 f1' f2 f2'
  obtain ⟨c0, c1, c2, c3, c4⟩ := HK1.out.a.cells
  go_wp2_with fail
  refine (HAA.out _ HK1.out.below).mono ?_
  rintro en W2 ⟨x, rfl, hx, hb2⟩
  obtain ⟨xp, xn, xc, xm, xd, xp2, xn2, xc2, xb, rfl⟩ := HC.out.sx _ _ hx
  have HK2 := Lib.hid (HK1.out.step hb2)
  have hm3 := B5.made (W := W2) (.slice xp xn xc) (.int .i64 xm) (.int .i64 xd) (.slice xp2 xn2 xc2) (.bool xb) 28
  obtain ⟨X, hX⟩ : ∃ X, X = W2.heap.size := ⟨_, rfl⟩
  have hal3 : Below W2.heap.size W2 (W2.alloc (Obj.cells #[.slice xp xn xc, .int .i64 xm, .int .i64 xd, .slice xp2 xn2 xc2, .bool xb] 28)) := (Below.refl _ _).alloc (Nat.le_refl _) _
  have HX3 := Lib.hid (HC.out.bx _ _ _ hx hal3)
  have HK3 := Lib.hid (HK2.out.step hal3)
  clear hx hb2 c0 c1 c2 c3 c4 hal3
  go_upto_region 14 with fail
  rw [← hX] at hm3 ⊢
  have HM3 := Lib.hid hm3
  clear hX hm3
  generalize W2.alloc (Obj.cells #[.slice xp xn xc, .int .i64 xm, .int .i64 xd, .slice xp2 xn2 xc2, .bool xb] 28) = W3 at *
  obtain ⟨c0, c1, c2, c3, c4⟩ := HK3.out.b.cells
  go_wp2_with fail
  refine (HBB.out _ HK3.out.below).mono ?_
  rintro en W4 ⟨y, rfl, hy, hb4⟩
  obtain ⟨yp, yn, yc, ym, yd, yp2, yn2, yc2, yb, rfl⟩ := HC.out.sy _ _ hy
  have HK4 := Lib.hid (HK3.out.step hb4)
  have HX4 := Lib.hid (HC.out.bx _ _ _ HX3.out hb4)
  have hm5 := B5.made (W := W4) (.slice yp yn yc) (.int .i64 ym) (.int .i64 yd) (.slice yp2 yn2 yc2) (.bool yb) 46
  obtain ⟨Y, hY⟩ : ∃ Y, Y = W4.heap.size := ⟨_, rfl⟩
  have hal5 : Below W4.heap.size W4 (W4.alloc (Obj.cells #[.slice yp yn yc, .int .i64 ym, .int .i64 yd, .slice yp2 yn2 yc2, .bool yb] 46)) := (Below.refl _ _).alloc (Nat.le_refl _) _
  have HY5 := Lib.hid (HC.out.bY _ _ _ hy hal5)
  have HX5 := Lib.hid (HC.out.bx _ _ _ HX4.out hal5)
  have HK5 := Lib.hid (HK4.out.step hal5)
  have HM5 := Lib.hid ((HM3.out.step hb4).step hal5)
  clear hy hb4 c0 c1 c2 c3 c4 hal5
  go_upto_region 15 with fail
  rw [← hY] at hm5 ⊢
  have HN5 := Lib.hid hm5
  clear hY hm5
  generalize W4.alloc (Obj.cells #[.slice yp yn yc, .int .i64 ym, .int .i64 yd, .slice yp2 yn2 yc2, .bool yb] 46) = W5 at *
  obtain ⟨a0, a1, a2, a3, a4⟩ := HK5.out.a.cells
  obtain ⟨b0, b1, b2, b3, b4⟩ := HK5.out.b.cells
  obtain ⟨c0, c1, c2, c3, c4⟩ := HM5.out.cells
  obtain ⟨d0, d1, d2, d3, d4⟩ := HN5.out.cells
  go_wp2_with fail
  refine (keep_any HAS.out HBS.out ⟨_, _, _, _, _, _, _, _, _, rfl⟩ ⟨_, _, _, _, _, _, _, _, _, rfl⟩ (fun W h => HC.out.al W _ _ (HC.out.bx _ _ _ HX5.out h) (HC.out.bY _ _ _ HY5.out h)) e).mono ?_
  rintro en W6 ⟨rfl, hb6⟩
  obtain ⟨up, un, uc, um, ud, up2, un2, uc2, ub, eu⟩ := pick_shape (e := e) (x := .agg #[.slice xp xn xc, .int .i64 xm, .int .i64 xd, .slice xp2 xn2 xc2, .bool xb]) (a := .agg #[.slice ap an ac, .int .i64 am, .int .i64 ad, .slice ap2 an2 ac2, .bool ab]) ⟨_, _, _, _, _, _, _, _, _, rfl⟩ HAS.out
  obtain ⟨vp, vn, vc, vm, vd, vp2, vn2, vc2, vb, ev⟩ := pick_shape (e := e) (x := .agg #[.slice yp yn yc, .int .i64 ym, .int .i64 yd, .slice yp2 yn2 yc2, .bool yb]) (a := .agg #[.slice bp bn bc, .int .i64 bm, .int .i64 bd, .slice bp2 bn2 bc2, .bool bb]) ⟨_, _, _, _, _, _, _, _, _, rfl⟩ HBS.out
  have HK6 := Lib.hid (HK5.out.step hb6)
  have HX6 := Lib.hid (HC.out.bx _ _ _ HX5.out hb6)
  have HY6 := Lib.hid (HC.out.bY _ _ _ HY5.out hb6)
  clear hb6 a0 a1 a2 a3 a4 b0 b1 b2 b3 b4 c0 c1 c2 c3 c4 d0 d1 d2 d3 d4
  have HEU := Lib.hid eu
  have HEV := Lib.hid ev
  rw [eu, ev]
  clear eu ev
  obtain ⟨z0, z1, z2, z3, z4⟩ := HK6.out.z.cells
  obtain ⟨y0, y1, y2, y3, y4⟩ := HK6.out.zz.cells
  obtain ⟨f0, f1, f2, f3, f4⟩ := HK6.out.z.frz
  obtain ⟨g0, g1, g2, g3, g4⟩ := HK6.out.zz.frz
  go_wp2_with fail
  obtain ⟨W7, hW7⟩ : ∃ W7, W7 = (((((W6.setCell ⟨w.heap.size + 1 + 1 + 1, 0, none⟩ (.slice up un uc)).setCell ⟨w.heap.size + 1 + 1 + 1, 1, none⟩ (.int .i64 um)).setCell ⟨w.heap.size + 1 + 1 + 1, 2, none⟩ (.int .i64 ud)).setCell ⟨w.heap.size + 1 + 1 + 1, 3, none⟩ (.slice up2 un2 uc2)).setCell ⟨w.heap.size + 1 + 1 + 1, 4, none⟩ (.bool ub)) := ⟨_, rfl⟩
  rw [← hW7]
  obtain ⟨W8, hW8⟩ : ∃ W8, W8 = (((((W7.setCell ⟨w.heap.size + 1 + 1 + 1 + 1, 0, none⟩ (.slice vp vn vc)).setCell ⟨w.heap.size + 1 + 1 + 1 + 1, 1, none⟩ (.int .i64 vm)).setCell ⟨w.heap.size + 1 + 1 + 1 + 1, 2, none⟩ (.int .i64 vd)).setCell ⟨w.heap.size + 1 + 1 + 1 + 1, 3, none⟩ (.slice vp2 vn2 vc2)).setCell ⟨w.heap.size + 1 + 1 + 1 + 1, 4, none⟩ (.bool vb)) := ⟨_, rfl⟩
  rw [← hW8]
  obtain ⟨p1, p2, p3⟩ := B5.put HK6.out.z hW7
  have hzz := p3 _ _ _ _ _ _ _ (by omega) HK6.out.zz
  obtain ⟨r1, r2, r3⟩ := B5.put hzz hW8
  have kp7 := Keeps.put (.inl rfl) HK6.out.z hW7
  have kp8 := Keeps.put (.inr rfl) hzz hW8
  have K1 := Lib.hid (r2 w.heap.size w (by omega) (p2 w.heap.size w (by omega) HK6.out.below))
  have HX8 := Lib.hid (HC.out.kx _ _ _ (HC.out.kx _ _ _ HX6.out kp7) kp8)
  have HY8 := Lib.hid (HC.out.ky _ _ _ (HC.out.ky _ _ _ HY6.out kp7) kp8)
  have p4 := r3 _ _ _ _ _ _ _ (by omega) p1
  clear z0 z1 z2 z3 z4 y0 y1 y2 y3 y4 f0 f1 f2 f3 f4 g0 g1 g2 g3 g4 hW7 hW8 kp7 kp8 hzz
  obtain ⟨c0, c1, c2, c3, c4⟩ := p4.cells
  obtain ⟨d0, d1, d2, d3, d4⟩ := r1.cells
  refine bodyPost_ret (v := .tuple #[.agg #[.slice up un uc, .int .i64 um, .int .i64 ud, .slice up2 un2 uc2, .bool ub], .agg #[.slice vp vn vc, .int .i64 vm, .int .i64 vd, .slice vp2 vn2 vc2, .bool vb], .bool true]) (by simp [results, Try.results17, go_sem, c0, c1, c2, c3, c4, d0, d1, d2, d3, d4]) rfl ⟨_, _, ?_, HX8.out, HY8.out, K1.out⟩
  rw [HEU.out, HEV.out]
set_option maxRecDepth 100000 in
set_option maxHeartbeats 16000000 in
theorem step_4 {RX RY : World → Value → Prop} (hc : Both RX RY) {a b : Value} {ki p v : Int} {w : World} (ha : Shape a) (hb : Shape b) (g1 : -128 ≤ ki) (g2 : ki ≤ 127) (g3 : -128 ≤ p) (g4 : p ≤ 127) (g5 : -128 ≤ v) (g6 : v ≤ 127) (hk : kindOf ki = 4)
    (ok : Bool) (e : Int)
    (hA : ∀ W, Below w.heap.size w W → Calls Try.prog 13 #[a] W fun en w' => ∃ x, en = .returned (.tuple #[x, .bool ok, .int .i64 e]) ∧ RX w' x ∧ Below W.heap.size W w')
    (hB : ∀ W, Below w.heap.size w W → Calls Try.prog 51 #[b] W fun en w' => ∃ x, en = .returned (.tuple #[x, .bool ok, .int .i64 e]) ∧ RY w' x ∧ Below W.heap.size W w') :
    Calls Try.prog 17 #[a, b, .agg #[.int .i8 ki, .int .i8 p, .int .i8 v]] w fun en w' => ∃ x y, en = .returned (.tuple #[pickS e x a, pickS e y b, .bool true]) ∧ RX w' x ∧ RY w' y ∧ Below w.heap.size w w' := by
  obtain ⟨ap, an, ac, am, ad, ap2, an2, ac2, ab, rfl⟩ := ha
  obtain ⟨bp, bn, bc, bm, bd, bp2, bn2, bc2, bb, rfl⟩ := hb
  have HC := Lib.hid hc
  have HAA := Lib.hid hA
  have HBB := Lib.hid hB
  have HAS : Hid (Shape (.agg #[.slice ap an ac, .int .i64 am, .int .i64 ad, .slice ap2 an2 ac2, .bool ab])) := ⟨_, _, _, _, _, _, _, _, _, rfl⟩
  have HBS : Hid (Shape (.agg #[.slice bp bn bc, .int .i64 bm, .int .i64 bd, .slice bp2 bn2 bc2, .bool bb])) := ⟨_, _, _, _, _, _, _, _, _, rfl⟩
  obtain ⟨r, kk, er, hr1, hr2, ek, hkk⟩ := kind_of ki g1 g2
  obtain rfl : kk = 4 := by
    unfold kindOf at hk
    rw [er, ek] at hk
    omega
  have f0 : wrap64 ki = ki := by unfold wrap64; omega
  have f1 : wrap64 p = p := by unfold wrap64; omega
  have f2 : wrap64 v = v := by unfold wrap64; omega
  have f0' : IntKind.i64.wrap ki = ki := (Go.IntWalk.i64_left _).trans f0
  have f1' : IntKind.i64.wrap p = p := (Go.IntWalk.i64_left _).trans f1
  have f2' : IntKind.i64.wrap v = v := (Go.IntWalk.i64_left _).trans f2
  have fr : wrap64 r = r := by unfold wrap64; omega
  have fr' : IntKind.i64.wrap r = r := (Go.IntWalk.i64_left _).trans fr
  have fs : wrap64 (r + 6) = r + 6 := by unfold wrap64; omega
  have fs' : IntKind.i64.wrap (r + 6) = r + 6 := (Go.IntWalk.i64_left _).trans fs
  clear hc hA hB hk g1 g2 g3 g4 g5 g6 hr1 hr2 hkk
  have HK : Hid (SK w (.slice ap an ac) (.int .i64 am) (.int .i64 ad) (.slice ap2 an2 ac2) (.bool ab) (.slice bp bn bc) (.int .i64 bm) (.int .i64 bd) (.slice bp2 bn2 bc2) (.bool bb) ki p v _) := SK.mk' w _ _ _ _ _ _ _ _ _ _ ki p v
  go_enter Try.func17, Try.ntmps17
  go_upto_region 1 with fail
  generalize (((((w.alloc (Obj.cells #[.slice ap an ac, .int .i64 am, .int .i64 ad, .slice ap2 an2 ac2, .bool ab] 28)).alloc (Obj.cells #[.slice bp bn bc, .int .i64 bm, .int .i64 bd, .slice bp2 bn2 bc2, .bool bb] 46)).alloc (Obj.cells #[.int .i8 ki, .int .i8 p, .int .i8 v] 51)).alloc (Obj.cells #[.slice none 0 0, .int .i64 0, .int .i64 0, .slice none 0 0, .bool false] 28)).alloc (Obj.cells #[.slice none 0 0, .int .i64 0, .int .i64 0, .slice none 0 0, .bool false] 46)) = W0 at *
  obtain ⟨o0, o1, o2⟩ := HK.out.ocells
  go_quiet (fail)
  go_upto_region 21 with fail
  have HK1 := Lib.hid (HK.out.step (below_drewN (Below.refl _ _) nq))
  generalize W0.drewN nq = W1 at *
  clear o0 o1 o2 f0 f0' fr fr' fs fs' er ek f1 f1' f2 f2'
  obtain ⟨c0, c1, c2, c3, c4⟩ := HK1.out.a.cells
  go_wp2_with fail
  refine (HAA.out _ HK1.out.below).mono ?_
  rintro en W2 ⟨x, rfl, hx, hb2⟩
  obtain ⟨xp, xn, xc, xm, xd, xp2, xn2, xc2, xb, rfl⟩ := HC.out.sx _ _ hx
  have HK2 := Lib.hid (HK1.out.step hb2)
  have hm3 := B5.made (W := W2) (.slice xp xn xc) (.int .i64 xm) (.int .i64 xd) (.slice xp2 xn2 xc2) (.bool xb) 28
  obtain ⟨X, hX⟩ : ∃ X, X = W2.heap.size := ⟨_, rfl⟩
  have hal3 : Below W2.heap.size W2 (W2.alloc (Obj.cells #[.slice xp xn xc, .int .i64 xm, .int .i64 xd, .slice xp2 xn2 xc2, .bool xb] 28)) := (Below.refl _ _).alloc (Nat.le_refl _) _
  have HX3 := Lib.hid (HC.out.bx _ _ _ hx hal3)
  have HK3 := Lib.hid (HK2.out.step hal3)
  clear hx hb2 c0 c1 c2 c3 c4 hal3
  go_upto_region 22 with fail
  rw [← hX] at hm3 ⊢
  have HM3 := Lib.hid hm3
  clear hX hm3
  generalize W2.alloc (Obj.cells #[.slice xp xn xc, .int .i64 xm, .int .i64 xd, .slice xp2 xn2 xc2, .bool xb] 28) = W3 at *
  obtain ⟨c0, c1, c2, c3, c4⟩ := HK3.out.b.cells
  go_wp2_with fail
  refine (HBB.out _ HK3.out.below).mono ?_
  rintro en W4 ⟨y, rfl, hy, hb4⟩
  obtain ⟨yp, yn, yc, ym, yd, yp2, yn2, yc2, yb, rfl⟩ := HC.out.sy _ _ hy
  have HK4 := Lib.hid (HK3.out.step hb4)
  have HX4 := Lib.hid (HC.out.bx _ _ _ HX3.out hb4)
  have hm5 := B5.made (W := W4) (.slice yp yn yc) (.int .i64 ym) (.int .i64 yd) (.slice yp2 yn2 yc2) (.bool yb) 46
  obtain ⟨Y, hY⟩ : ∃ Y, Y = W4.heap.size := ⟨_, rfl⟩
  have hal5 : Below W4.heap.size W4 (W4.alloc (Obj.cells #[.slice yp yn yc, .int .i64 ym, .int .i64 yd, .slice yp2 yn2 yc2, .bool yb] 46)) := (Below.refl _ _).alloc (Nat.le_refl _) _
  have HY5 := Lib.hid (HC.out.bY _ _ _ hy hal5)
  have HX5 := Lib.hid (HC.out.bx _ _ _ HX4.out hal5)
  have HK5 := Lib.hid (HK4.out.step hal5)
  have HM5 := Lib.hid ((HM3.out.step hb4).step hal5)
  clear hy hb4 c0 c1 c2 c3 c4 hal5
  go_upto_region 23 with fail
  rw [← hY] at hm5 ⊢
  have HN5 := Lib.hid hm5
  clear hY hm5
  generalize W4.alloc (Obj.cells #[.slice yp yn yc, .int .i64 ym, .int .i64 yd, .slice yp2 yn2 yc2, .bool yb] 46) = W5 at *
  obtain ⟨a0, a1, a2, a3, a4⟩ := HK5.out.a.cells
  obtain ⟨b0, b1, b2, b3, b4⟩ := HK5.out.b.cells
  obtain ⟨c0, c1, c2, c3, c4⟩ := HM5.out.cells
  obtain ⟨d0, d1, d2, d3, d4⟩ := HN5.out.cells
  go_wp2_with fail
  refine (keep_any HAS.out HBS.out ⟨_, _, _, _, _, _, _, _, _, rfl⟩ ⟨_, _, _, _, _, _, _, _, _, rfl⟩ (fun W h => HC.out.al W _ _ (HC.out.bx _ _ _ HX5.out h) (HC.out.bY _ _ _ HY5.out h)) e).mono ?_
  rintro en W6 ⟨rfl, hb6⟩
  obtain ⟨up, un, uc, um, ud, up2, un2, uc2, ub, eu⟩ := pick_shape (e := e) (x := .agg #[.slice xp xn xc, .int .i64 xm, .int .i64 xd, .slice xp2 xn2 xc2, .bool xb]) (a := .agg #[.slice ap an ac, .int .i64 am, .int .i64 ad, .slice ap2 an2 ac2, .bool ab]) ⟨_, _, _, _, _, _, _, _, _, rfl⟩ HAS.out
  obtain ⟨vp, vn, vc, vm, vd, vp2, vn2, vc2, vb, ev⟩ := pick_shape (e := e) (x := .agg #[.slice yp yn yc, .int .i64 ym, .int .i64 yd, .slice yp2 yn2 yc2, .bool yb]) (a := .agg #[.slice bp bn bc, .int .i64 bm, .int .i64 bd, .slice bp2 bn2 bc2, .bool bb]) ⟨_, _, _, _, _, _, _, _, _, rfl⟩ HBS.out
  have HK6 := Lib.hid (HK5.out.step hb6)
  have HX6 := Lib.hid (HC.out.bx _ _ _ HX5.out hb6)
  have HY6 := Lib.hid (HC.out.bY _ _ _ HY5.out hb6)
  clear hb6 a0 a1 a2 a3 a4 b0 b1 b2 b3 b4 c0 c1 c2 c3 c4 d0 d1 d2 d3 d4
  have HEU := Lib.hid eu
  have HEV := Lib.hid ev
  rw [eu, ev]
  clear eu ev
  obtain ⟨z0, z1, z2, z3, z4⟩ := HK6.out.z.cells
  obtain ⟨y0, y1, y2, y3, y4⟩ := HK6.out.zz.cells
  obtain ⟨f0, f1, f2, f3, f4⟩ := HK6.out.z.frz
  obtain ⟨g0, g1, g2, g3, g4⟩ := HK6.out.zz.frz
  go_wp2_with fail
  obtain ⟨W7, hW7⟩ : ∃ W7, W7 = (((((W6.setCell ⟨w.heap.size + 1 + 1 + 1, 0, none⟩ (.slice up un uc)).setCell ⟨w.heap.size + 1 + 1 + 1, 1, none⟩ (.int .i64 um)).setCell ⟨w.heap.size + 1 + 1 + 1, 2, none⟩ (.int .i64 ud)).setCell ⟨w.heap.size + 1 + 1 + 1, 3, none⟩ (.slice up2 un2 uc2)).setCell ⟨w.heap.size + 1 + 1 + 1, 4, none⟩ (.bool ub)) := ⟨_, rfl⟩
  rw [← hW7]
  obtain ⟨W8, hW8⟩ : ∃ W8, W8 = (((((W7.setCell ⟨w.heap.size + 1 + 1 + 1 + 1, 0, none⟩ (.slice vp vn vc)).setCell ⟨w.heap.size + 1 + 1 + 1 + 1, 1, none⟩ (.int .i64 vm)).setCell ⟨w.heap.size + 1 + 1 + 1 + 1, 2, none⟩ (.int .i64 vd)).setCell ⟨w.heap.size + 1 + 1 + 1 + 1, 3, none⟩ (.slice vp2 vn2 vc2)).setCell ⟨w.heap.size + 1 + 1 + 1 + 1, 4, none⟩ (.bool vb)) := ⟨_, rfl⟩
  rw [← hW8]
  obtain ⟨p1, p2, p3⟩ := B5.put HK6.out.z hW7
  have hzz := p3 _ _ _ _ _ _ _ (by omega) HK6.out.zz
  obtain ⟨r1, r2, r3⟩ := B5.put hzz hW8
  have kp7 := Keeps.put (.inl rfl) HK6.out.z hW7
  have kp8 := Keeps.put (.inr rfl) hzz hW8
  have K1 := Lib.hid (r2 w.heap.size w (by omega) (p2 w.heap.size w (by omega) HK6.out.below))
  have HX8 := Lib.hid (HC.out.kx _ _ _ (HC.out.kx _ _ _ HX6.out kp7) kp8)
  have HY8 := Lib.hid (HC.out.ky _ _ _ (HC.out.ky _ _ _ HY6.out kp7) kp8)
  have p4 := r3 _ _ _ _ _ _ _ (by omega) p1
  clear z0 z1 z2 z3 z4 y0 y1 y2 y3 y4 f0 f1 f2 f3 f4 g0 g1 g2 g3 g4 hW7 hW8 kp7 kp8 hzz
  obtain ⟨c0, c1, c2, c3, c4⟩ := p4.cells
  obtain ⟨d0, d1, d2, d3, d4⟩ := r1.cells
  refine bodyPost_ret (v := .tuple #[.agg #[.slice up un uc, .int .i64 um, .int .i64 ud, .slice up2 un2 uc2, .bool ub], .agg #[.slice vp vn vc, .int .i64 vm, .int .i64 vd, .slice vp2 vn2 vc2, .bool vb], .bool true]) (by simp [results, Try.results17, go_sem, c0, c1, c2, c3, c4, d0, d1, d2, d3, d4]) rfl ⟨_, _, ?_, HX8.out, HY8.out, K1.out⟩
  rw [HEU.out, HEV.out]
end Go.Proofs.Ytgbafpjeapkklaa.Mb
namespace Go.Proofs.Ytgbafpjeapkklaa.Mb
open Go.RowKit
set_option linter.unusedVariables false
set_option linter.unusedSimpArgs false
theorem Both.facts4 {W : World} {k1 k2 k3 k4 : Nat} {a0 a1 a2 a3 a4 b0 b1 b2 b3 b4 c0 c1 c2 c3 c4 d0 d1 d2 d3 d4 : Value} (h1 : B5 W k1 28 a0 a1 a2 a3 a4) (h2 : B5 W k2 46 b0 b1 b2 b3 b4) (h3 : B5 W k3 28 c0 c1 c2 c3 c4) (h4 : B5 W k4 46 d0 d1 d2 d3 d4) :
    W.cell? ⟨k1, 0, none⟩ = some a0 ∧ W.cell? ⟨k1, 1, none⟩ = some a1 ∧ W.cell? ⟨k1, 2, none⟩ = some a2 ∧ W.cell? ⟨k1, 3, none⟩ = some a3 ∧ W.cell? ⟨k1, 4, none⟩ = some a4 ∧
    W.cell? ⟨k2, 0, none⟩ = some b0 ∧ W.cell? ⟨k2, 1, none⟩ = some b1 ∧ W.cell? ⟨k2, 2, none⟩ = some b2 ∧ W.cell? ⟨k2, 3, none⟩ = some b3 ∧ W.cell? ⟨k2, 4, none⟩ = some b4 ∧
    W.cell? ⟨k3, 0, none⟩ = some c0 ∧ W.cell? ⟨k3, 1, none⟩ = some c1 ∧ W.cell? ⟨k3, 2, none⟩ = some c2 ∧ W.cell? ⟨k3, 3, none⟩ = some c3 ∧ W.cell? ⟨k3, 4, none⟩ = some c4 ∧
    W.cell? ⟨k4, 0, none⟩ = some d0 ∧ W.cell? ⟨k4, 1, none⟩ = some d1 ∧ W.cell? ⟨k4, 2, none⟩ = some d2 ∧ W.cell? ⟨k4, 3, none⟩ = some d3 ∧ W.cell? ⟨k4, 4, none⟩ = some d4 :=
  ⟨cell_blk h1 0, cell_blk h1 1, cell_blk h1 2, cell_blk h1 3, cell_blk h1 4, cell_blk h2 0, cell_blk h2 1, cell_blk h2 2, cell_blk h2 3, cell_blk h2 4, cell_blk h3 0, cell_blk h3 1, cell_blk h3 2, cell_blk h3 3, cell_blk h3 4, cell_blk h4 0, cell_blk h4 1, cell_blk h4 2, cell_blk h4 3, cell_blk h4 4⟩
theorem Both.put1 {W : World} {k k' k1 k2 k3 k4 : Nat} {z0 z1 z2 z3 z4 y0 y1 y2 y3 y4 a0 a1 a2 a3 a4 b0 b1 b2 b3 b4 c0 c1 c2 c3 c4 d0 d1 d2 d3 d4 u0 u1 u2 u3 u4 : Value} (hz : B5 W k 28 z0 z1 z2 z3 z4) (hy : B5 W k' 46 y0 y1 y2 y3 y4) (n0 : k' ≠ k) (n1 : k1 ≠ k ∧ k1 ≠ k') (n2 : k2 ≠ k ∧ k2 ≠ k') (n3 : k3 ≠ k ∧ k3 ≠ k') (n4 : k4 ≠ k ∧ k4 ≠ k') (h1 : B5 W k1 28 a0 a1 a2 a3 a4) (h2 : B5 W k2 46 b0 b1 b2 b3 b4) (h3 : B5 W k3 28 c0 c1 c2 c3 c4) (h4 : B5 W k4 46 d0 d1 d2 d3 d4) :
    (((((W.setCell ⟨k, 0, none⟩ u0).setCell ⟨k, 1, none⟩ u1).setCell ⟨k, 2, none⟩ u2).setCell ⟨k, 3, none⟩ u3).setCell ⟨k, 4, none⟩ u4).cell? ⟨k1, 0, none⟩ = some a0 ∧ (((((W.setCell ⟨k, 0, none⟩ u0).setCell ⟨k, 1, none⟩ u1).setCell ⟨k, 2, none⟩ u2).setCell ⟨k, 3, none⟩ u3).setCell ⟨k, 4, none⟩ u4).cell? ⟨k1, 1, none⟩ = some a1 ∧ (((((W.setCell ⟨k, 0, none⟩ u0).setCell ⟨k, 1, none⟩ u1).setCell ⟨k, 2, none⟩ u2).setCell ⟨k, 3, none⟩ u3).setCell ⟨k, 4, none⟩ u4).cell? ⟨k1, 2, none⟩ = some a2 ∧ (((((W.setCell ⟨k, 0, none⟩ u0).setCell ⟨k, 1, none⟩ u1).setCell ⟨k, 2, none⟩ u2).setCell ⟨k, 3, none⟩ u3).setCell ⟨k, 4, none⟩ u4).cell? ⟨k1, 3, none⟩ = some a3 ∧ (((((W.setCell ⟨k, 0, none⟩ u0).setCell ⟨k, 1, none⟩ u1).setCell ⟨k, 2, none⟩ u2).setCell ⟨k, 3, none⟩ u3).setCell ⟨k, 4, none⟩ u4).cell? ⟨k1, 4, none⟩ = some a4 ∧
    (((((W.setCell ⟨k, 0, none⟩ u0).setCell ⟨k, 1, none⟩ u1).setCell ⟨k, 2, none⟩ u2).setCell ⟨k, 3, none⟩ u3).setCell ⟨k, 4, none⟩ u4).cell? ⟨k2, 0, none⟩ = some b0 ∧ (((((W.setCell ⟨k, 0, none⟩ u0).setCell ⟨k, 1, none⟩ u1).setCell ⟨k, 2, none⟩ u2).setCell ⟨k, 3, none⟩ u3).setCell ⟨k, 4, none⟩ u4).cell? ⟨k2, 1, none⟩ = some b1 ∧ (((((W.setCell ⟨k, 0, none⟩ u0).setCell ⟨k, 1, none⟩ u1).setCell ⟨k, 2, none⟩ u2).setCell ⟨k, 3, none⟩ u3).setCell ⟨k, 4, none⟩ u4).cell? ⟨k2, 2, none⟩ = some b2 ∧ (((((W.setCell ⟨k, 0, none⟩ u0).setCell ⟨k, 1, none⟩ u1).setCell ⟨k, 2, none⟩ u2).setCell ⟨k, 3, none⟩ u3).setCell ⟨k, 4, none⟩ u4).cell? ⟨k2, 3, none⟩ = some b3 ∧ (((((W.setCell ⟨k, 0, none⟩ u0).setCell ⟨k, 1, none⟩ u1).setCell ⟨k, 2, none⟩ u2).setCell ⟨k, 3, none⟩ u3).setCell ⟨k, 4, none⟩ u4).cell? ⟨k2, 4, none⟩ = some b4 ∧
    (((((W.setCell ⟨k, 0, none⟩ u0).setCell ⟨k, 1, none⟩ u1).setCell ⟨k, 2, none⟩ u2).setCell ⟨k, 3, none⟩ u3).setCell ⟨k, 4, none⟩ u4).cell? ⟨k3, 0, none⟩ = some c0 ∧ (((((W.setCell ⟨k, 0, none⟩ u0).setCell ⟨k, 1, none⟩ u1).setCell ⟨k, 2, none⟩ u2).setCell ⟨k, 3, none⟩ u3).setCell ⟨k, 4, none⟩ u4).cell? ⟨k3, 1, none⟩ = some c1 ∧ (((((W.setCell ⟨k, 0, none⟩ u0).setCell ⟨k, 1, none⟩ u1).setCell ⟨k, 2, none⟩ u2).setCell ⟨k, 3, none⟩ u3).setCell ⟨k, 4, none⟩ u4).cell? ⟨k3, 2, none⟩ = some c2 ∧ (((((W.setCell ⟨k, 0, none⟩ u0).setCell ⟨k, 1, none⟩ u1).setCell ⟨k, 2, none⟩ u2).setCell ⟨k, 3, none⟩ u3).setCell ⟨k, 4, none⟩ u4).cell? ⟨k3, 3, none⟩ = some c3 ∧ (((((W.setCell ⟨k, 0, none⟩ u0).setCell ⟨k, 1, none⟩ u1).setCell ⟨k, 2, none⟩ u2).setCell ⟨k, 3, none⟩ u3).setCell ⟨k, 4, none⟩ u4).cell? ⟨k3, 4, none⟩ = some c4 ∧
    (((((W.setCell ⟨k, 0, none⟩ u0).setCell ⟨k, 1, none⟩ u1).setCell ⟨k, 2, none⟩ u2).setCell ⟨k, 3, none⟩ u3).setCell ⟨k, 4, none⟩ u4).cell? ⟨k4, 0, none⟩ = some d0 ∧ (((((W.setCell ⟨k, 0, none⟩ u0).setCell ⟨k, 1, none⟩ u1).setCell ⟨k, 2, none⟩ u2).setCell ⟨k, 3, none⟩ u3).setCell ⟨k, 4, none⟩ u4).cell? ⟨k4, 1, none⟩ = some d1 ∧ (((((W.setCell ⟨k, 0, none⟩ u0).setCell ⟨k, 1, none⟩ u1).setCell ⟨k, 2, none⟩ u2).setCell ⟨k, 3, none⟩ u3).setCell ⟨k, 4, none⟩ u4).cell? ⟨k4, 2, none⟩ = some d2 ∧ (((((W.setCell ⟨k, 0, none⟩ u0).setCell ⟨k, 1, none⟩ u1).setCell ⟨k, 2, none⟩ u2).setCell ⟨k, 3, none⟩ u3).setCell ⟨k, 4, none⟩ u4).cell? ⟨k4, 3, none⟩ = some d3 ∧ (((((W.setCell ⟨k, 0, none⟩ u0).setCell ⟨k, 1, none⟩ u1).setCell ⟨k, 2, none⟩ u2).setCell ⟨k, 3, none⟩ u3).setCell ⟨k, 4, none⟩ u4).cell? ⟨k4, 4, none⟩ = some d4 := by
  obtain ⟨_, _, p⟩ := B5.put (u0 := u0) (u1 := u1) (u2 := u2) (u3 := u3) (u4 := u4) hz rfl
  exact Both.facts4 (p _ _ _ _ _ _ _ n1.1 h1) (p _ _ _ _ _ _ _ n2.1 h2) (p _ _ _ _ _ _ _ n3.1 h3) (p _ _ _ _ _ _ _ n4.1 h4)
theorem Both.put2 {W : World} {k k' k1 k2 k3 k4 : Nat} {z0 z1 z2 z3 z4 y0 y1 y2 y3 y4 a0 a1 a2 a3 a4 b0 b1 b2 b3 b4 c0 c1 c2 c3 c4 d0 d1 d2 d3 d4 u0 u1 u2 u3 u4 v0 v1 v2 v3 v4 : Value} (hz : B5 W k 28 z0 z1 z2 z3 z4) (hy : B5 W k' 46 y0 y1 y2 y3 y4) (n0 : k' ≠ k) (n1 : k1 ≠ k ∧ k1 ≠ k') (n2 : k2 ≠ k ∧ k2 ≠ k') (n3 : k3 ≠ k ∧ k3 ≠ k') (n4 : k4 ≠ k ∧ k4 ≠ k') (h1 : B5 W k1 28 a0 a1 a2 a3 a4) (h2 : B5 W k2 46 b0 b1 b2 b3 b4) (h3 : B5 W k3 28 c0 c1 c2 c3 c4) (h4 : B5 W k4 46 d0 d1 d2 d3 d4) :
    ((((((((((W.setCell ⟨k, 0, none⟩ u0).setCell ⟨k, 1, none⟩ u1).setCell ⟨k, 2, none⟩ u2).setCell ⟨k, 3, none⟩ u3).setCell ⟨k, 4, none⟩ u4).setCell ⟨k', 0, none⟩ v0).setCell ⟨k', 1, none⟩ v1).setCell ⟨k', 2, none⟩ v2).setCell ⟨k', 3, none⟩ v3).setCell ⟨k', 4, none⟩ v4).cell? ⟨k1, 0, none⟩ = some a0 ∧ ((((((((((W.setCell ⟨k, 0, none⟩ u0).setCell ⟨k, 1, none⟩ u1).setCell ⟨k, 2, none⟩ u2).setCell ⟨k, 3, none⟩ u3).setCell ⟨k, 4, none⟩ u4).setCell ⟨k', 0, none⟩ v0).setCell ⟨k', 1, none⟩ v1).setCell ⟨k', 2, none⟩ v2).setCell ⟨k', 3, none⟩ v3).setCell ⟨k', 4, none⟩ v4).cell? ⟨k1, 1, none⟩ = some a1 ∧ ((((((((((W.setCell ⟨k, 0, none⟩ u0).setCell ⟨k, 1, none⟩ u1).setCell ⟨k, 2, none⟩ u2).setCell ⟨k, 3, none⟩ u3).setCell ⟨k, 4, none⟩ u4).setCell ⟨k', 0, none⟩ v0).setCell ⟨k', 1, none⟩ v1).setCell ⟨k', 2, none⟩ v2).setCell ⟨k', 3, none⟩ v3).setCell ⟨k', 4, none⟩ v4).cell? ⟨k1, 2, none⟩ = some a2 ∧ ((((((((((W.setCell ⟨k, 0, none⟩ u0).setCell ⟨k, 1, none⟩ u1).setCell ⟨k, 2, none⟩ u2).setCell ⟨k, 3, none⟩ u3).setCell ⟨k, 4, none⟩ u4).setCell ⟨k', 0, none⟩ v0).setCell ⟨k', 1, none⟩ v1).setCell ⟨k', 2, none⟩ v2).setCell ⟨k', 3, none⟩ v3).setCell ⟨k', 4, none⟩ v4).cell? ⟨k1, 3, none⟩ = some a3 ∧ ((((((((((W.setCell ⟨k, 0, none⟩ u0).setCell ⟨k, 1, none⟩ u1).setCell ⟨k, 2, none⟩ u2).setCell ⟨k, 3, none⟩ u3).setCell ⟨k, 4, none⟩ u4).setCell ⟨k', 0, none⟩ v0).setCell ⟨k', 1, none⟩ v1).setCell ⟨k', 2, none⟩ v2).setCell ⟨k', 3, none⟩ v3).setCell ⟨k', 4, none⟩ v4).cell? ⟨k1, 4, none⟩ = some a4 ∧
    ((((((((((W.setCell ⟨k, 0, none⟩ u0).setCell ⟨k, 1, none⟩ u1).setCell ⟨k, 2, none⟩ u2).setCell ⟨k, 3, none⟩ u3).setCell ⟨k, 4, none⟩ u4).setCell ⟨k', 0, none⟩ v0).setCell ⟨k', 1, none⟩ v1).setCell ⟨k', 2, none⟩ v2).setCell ⟨k', 3, none⟩ v3).setCell ⟨k', 4, none⟩ v4).cell? ⟨k2, 0, none⟩ = some b0 ∧ ((((((((((W.setCell ⟨k, 0, none⟩ u0).setCell ⟨k, 1, none⟩ u1).setCell ⟨k, 2, none⟩ u2).setCell ⟨k, 3, none⟩ u3).setCell ⟨k, 4, none⟩ u4).setCell ⟨k', 0, none⟩ v0).setCell ⟨k', 1, none⟩ v1).setCell ⟨k', 2, none⟩ v2).setCell ⟨k', 3, none⟩ v3).setCell ⟨k', 4, none⟩ v4).cell? ⟨k2, 1, none⟩ = some b1 ∧ ((((((((((W.setCell ⟨k, 0, none⟩ u0).setCell ⟨k, 1, none⟩ u1).setCell ⟨k, 2, none⟩ u2).setCell ⟨k, 3, none⟩ u3).setCell ⟨k, 4, none⟩ u4).setCell ⟨k', 0, none⟩ v0).setCell ⟨k', 1, none⟩ v1).setCell ⟨k', 2, none⟩ v2).setCell ⟨k', 3, none⟩ v3).setCell ⟨k', 4, none⟩ v4).cell? ⟨k2, 2, none⟩ = some b2 ∧ ((((((((((W.setCell ⟨k, 0, none⟩ u0).setCell ⟨k, 1, none⟩ u1).setCell ⟨k, 2, none⟩ u2).setCell ⟨k, 3, none⟩ u3).setCell ⟨k, 4, none⟩ u4).setCell ⟨k', 0, none⟩ v0).setCell ⟨k', 1, none⟩ v1).setCell ⟨k', 2, none⟩ v2).setCell ⟨k', 3, none⟩ v3).setCell ⟨k', 4, none⟩ v4).cell? ⟨k2, 3, none⟩ = some b3 ∧ ((((((((((W.setCell ⟨k, 0, none⟩ u0).setCell ⟨k, 1, none⟩ u1).setCell ⟨k, 2, none⟩ u2).setCell ⟨k, 3, none⟩ u3).setCell ⟨k, 4, none⟩ u4).setCell ⟨k', 0, none⟩ v0).setCell ⟨k', 1, none⟩ v1).setCell ⟨k', 2, none⟩ v2).setCell ⟨k', 3, none⟩ v3).setCell ⟨k', 4, none⟩ v4).cell? ⟨k2, 4, none⟩ = some b4 ∧
    ((((((((((W.setCell ⟨k, 0, none⟩ u0).setCell ⟨k, 1, none⟩ u1).setCell ⟨k, 2, none⟩ u2).setCell ⟨k, 3, none⟩ u3).setCell ⟨k, 4, none⟩ u4).setCell ⟨k', 0, none⟩ v0).setCell ⟨k', 1, none⟩ v1).setCell ⟨k', 2, none⟩ v2).setCell ⟨k', 3, none⟩ v3).setCell ⟨k', 4, none⟩ v4).cell? ⟨k3, 0, none⟩ = some c0 ∧ ((((((((((W.setCell ⟨k, 0, none⟩ u0).setCell ⟨k, 1, none⟩ u1).setCell ⟨k, 2, none⟩ u2).setCell ⟨k, 3, none⟩ u3).setCell ⟨k, 4, none⟩ u4).setCell ⟨k', 0, none⟩ v0).setCell ⟨k', 1, none⟩ v1).setCell ⟨k', 2, none⟩ v2).setCell ⟨k', 3, none⟩ v3).setCell ⟨k', 4, none⟩ v4).cell? ⟨k3, 1, none⟩ = some c1 ∧ ((((((((((W.setCell ⟨k, 0, none⟩ u0).setCell ⟨k, 1, none⟩ u1).setCell ⟨k, 2, none⟩ u2).setCell ⟨k, 3, none⟩ u3).setCell ⟨k, 4, none⟩ u4).setCell ⟨k', 0, none⟩ v0).setCell ⟨k', 1, none⟩ v1).setCell ⟨k', 2, none⟩ v2).setCell ⟨k', 3, none⟩ v3).setCell ⟨k', 4, none⟩ v4).cell? ⟨k3, 2, none⟩ = some c2 ∧ ((((((((((W.setCell ⟨k, 0, none⟩ u0).setCell ⟨k, 1, none⟩ u1).setCell ⟨k, 2, none⟩ u2).setCell ⟨k, 3, none⟩ u3).setCell ⟨k, 4, none⟩ u4).setCell ⟨k', 0, none⟩ v0).setCell ⟨k', 1, none⟩ v1).setCell ⟨k', 2, none⟩ v2).setCell ⟨k', 3, none⟩ v3).setCell ⟨k', 4, none⟩ v4).cell? ⟨k3, 3, none⟩ = some c3 ∧ ((((((((((W.setCell ⟨k, 0, none⟩ u0).setCell ⟨k, 1, none⟩ u1).setCell ⟨k, 2, none⟩ u2).setCell ⟨k, 3, none⟩ u3).setCell ⟨k, 4, none⟩ u4).setCell ⟨k', 0, none⟩ v0).setCell ⟨k', 1, none⟩ v1).setCell ⟨k', 2, none⟩ v2).setCell ⟨k', 3, none⟩ v3).setCell ⟨k', 4, none⟩ v4).cell? ⟨k3, 4, none⟩ = some c4 ∧
    ((((((((((W.setCell ⟨k, 0, none⟩ u0).setCell ⟨k, 1, none⟩ u1).setCell ⟨k, 2, none⟩ u2).setCell ⟨k, 3, none⟩ u3).setCell ⟨k, 4, none⟩ u4).setCell ⟨k', 0, none⟩ v0).setCell ⟨k', 1, none⟩ v1).setCell ⟨k', 2, none⟩ v2).setCell ⟨k', 3, none⟩ v3).setCell ⟨k', 4, none⟩ v4).cell? ⟨k4, 0, none⟩ = some d0 ∧ ((((((((((W.setCell ⟨k, 0, none⟩ u0).setCell ⟨k, 1, none⟩ u1).setCell ⟨k, 2, none⟩ u2).setCell ⟨k, 3, none⟩ u3).setCell ⟨k, 4, none⟩ u4).setCell ⟨k', 0, none⟩ v0).setCell ⟨k', 1, none⟩ v1).setCell ⟨k', 2, none⟩ v2).setCell ⟨k', 3, none⟩ v3).setCell ⟨k', 4, none⟩ v4).cell? ⟨k4, 1, none⟩ = some d1 ∧ ((((((((((W.setCell ⟨k, 0, none⟩ u0).setCell ⟨k, 1, none⟩ u1).setCell ⟨k, 2, none⟩ u2).setCell ⟨k, 3, none⟩ u3).setCell ⟨k, 4, none⟩ u4).setCell ⟨k', 0, none⟩ v0).setCell ⟨k', 1, none⟩ v1).setCell ⟨k', 2, none⟩ v2).setCell ⟨k', 3, none⟩ v3).setCell ⟨k', 4, none⟩ v4).cell? ⟨k4, 2, none⟩ = some d2 ∧ ((((((((((W.setCell ⟨k, 0, none⟩ u0).setCell ⟨k, 1, none⟩ u1).setCell ⟨k, 2, none⟩ u2).setCell ⟨k, 3, none⟩ u3).setCell ⟨k, 4, none⟩ u4).setCell ⟨k', 0, none⟩ v0).setCell ⟨k', 1, none⟩ v1).setCell ⟨k', 2, none⟩ v2).setCell ⟨k', 3, none⟩ v3).setCell ⟨k', 4, none⟩ v4).cell? ⟨k4, 3, none⟩ = some d3 ∧ ((((((((((W.setCell ⟨k, 0, none⟩ u0).setCell ⟨k, 1, none⟩ u1).setCell ⟨k, 2, none⟩ u2).setCell ⟨k, 3, none⟩ u3).setCell ⟨k, 4, none⟩ u4).setCell ⟨k', 0, none⟩ v0).setCell ⟨k', 1, none⟩ v1).setCell ⟨k', 2, none⟩ v2).setCell ⟨k', 3, none⟩ v3).setCell ⟨k', 4, none⟩ v4).cell? ⟨k4, 4, none⟩ = some d4 := by
  obtain ⟨_, _, p⟩ := B5.put (u0 := u0) (u1 := u1) (u2 := u2) (u3 := u3) (u4 := u4) hz rfl
  obtain ⟨_, _, r⟩ := B5.put (u0 := v0) (u1 := v1) (u2 := v2) (u3 := v3) (u4 := v4) (p _ _ _ _ _ _ _ n0 hy) rfl
  exact Both.facts4 (r _ _ _ _ _ _ _ n1.2 (p _ _ _ _ _ _ _ n1.1 h1)) (r _ _ _ _ _ _ _ n2.2 (p _ _ _ _ _ _ _ n2.1 h2)) (r _ _ _ _ _ _ _ n3.2 (p _ _ _ _ _ _ _ n3.1 h3)) (r _ _ _ _ _ _ _ n4.2 (p _ _ _ _ _ _ _ n4.1 h4))
set_option maxRecDepth 100000 in
set_option maxHeartbeats 32000000 in
theorem step_3 {RX RY : World → Value → Prop} (hc : Both RX RY) {a b : Value} {ki p v : Int} {w : World} (ha : Shape a) (hb : Shape b) (g1 : -128 ≤ ki) (g2 : ki ≤ 127) (g3 : -128 ≤ p) (g4 : p ≤ 127) (g5 : -128 ≤ v) (g6 : v ≤ 127) (hk : kindOf ki = 3)
    {n : Nat} {l : List Int} (hn : n ≤ 100000) (e : Int)
    (hA : ∀ W, Below w.heap.size w W → Calls Try.prog 12 #[a, .int .i64 v] W fun en w' => ∃ x u, en = .returned (.tuple #[x, u, .int .i64 e]) ∧ RX w' x ∧ w'.ownsRow W.heap.size 3 1 u n (ints l) ∧ Below W.heap.size W w')
    (hB : ∀ W, Below w.heap.size w W → Calls Try.prog 50 #[b, .int .i64 v] W fun en w' => ∃ x u, en = .returned (.tuple #[x, u, .int .i64 e]) ∧ RY w' x ∧ w'.ownsRow W.heap.size 3 1 u n (ints l) ∧ Below W.heap.size W w') :
    Calls Try.prog 17 #[a, b, .agg #[.int .i8 ki, .int .i8 p, .int .i8 v]] w fun en w' => ∃ x y, en = .returned (.tuple #[pickS e x a, pickS e y b, .bool true]) ∧ RX w' x ∧ RY w' y ∧ Below w.heap.size w w' := by
  have HNN := Lib.hid hn
  clear hn
  obtain ⟨ap, an, ac, am, ad, ap2, an2, ac2, ab, rfl⟩ := ha
  obtain ⟨bp, bn, bc, bm, bd, bp2, bn2, bc2, bb, rfl⟩ := hb
  have HC := Lib.hid hc
  have HAA := Lib.hid hA
  have HBB := Lib.hid hB
  have HAS : Hid (Shape (.agg #[.slice ap an ac, .int .i64 am, .int .i64 ad, .slice ap2 an2 ac2, .bool ab])) := ⟨_, _, _, _, _, _, _, _, _, rfl⟩
  have HBS : Hid (Shape (.agg #[.slice bp bn bc, .int .i64 bm, .int .i64 bd, .slice bp2 bn2 bc2, .bool bb])) := ⟨_, _, _, _, _, _, _, _, _, rfl⟩
  obtain ⟨r, kk, er, hr1, hr2, ek, hkk⟩ := kind_of ki g1 g2
  obtain rfl : kk = 3 := by
    unfold kindOf at hk
    rw [er, ek] at hk
    omega
  have f0 : wrap64 ki = ki := by unfold wrap64; omega
  have f1 : wrap64 p = p := by unfold wrap64; omega
  have f2 : wrap64 v = v := by unfold wrap64; omega
  have f0' : IntKind.i64.wrap ki = ki := (Go.IntWalk.i64_left _).trans f0
  have f1' : IntKind.i64.wrap p = p := (Go.IntWalk.i64_left _).trans f1
  have f2' : IntKind.i64.wrap v = v := (Go.IntWalk.i64_left _).trans f2
  have fr : wrap64 r = r := by unfold wrap64; omega
  have fr' : IntKind.i64.wrap r = r := (Go.IntWalk.i64_left _).trans fr
  have fs : wrap64 (r + 6) = r + 6 := by unfold wrap64; omega
  have fs' : IntKind.i64.wrap (r + 6) = r + 6 := (Go.IntWalk.i64_left _).trans fs
  clear hc hA hB hk g1 g2 g3 g4 g5 g6 hr1 hr2 hkk
  have HK : Hid (SK w (.slice ap an ac) (.int .i64 am) (.int .i64 ad) (.slice ap2 an2 ac2) (.bool ab) (.slice bp bn bc) (.int .i64 bm) (.int .i64 bd) (.slice bp2 bn2 bc2) (.bool bb) ki p v _) := SK.mk' w _ _ _ _ _ _ _ _ _ _ ki p v
  go_enter Try.func17, Try.ntmps17
  go_upto_region 1 with fail
  generalize (((((w.alloc (Obj.cells #[.slice ap an ac, .int .i64 am, .int .i64 ad, .slice ap2 an2 ac2, .bool ab] 28)).alloc (Obj.cells #[.slice bp bn bc, .int .i64 bm, .int .i64 bd, .slice bp2 bn2 bc2, .bool bb] 46)).alloc (Obj.cells #[.int .i8 ki, .int .i8 p, .int .i8 v] 51)).alloc (Obj.cells #[.slice none 0 0, .int .i64 0, .int .i64 0, .slice none 0 0, .bool false] 28)).alloc (Obj.cells #[.slice none 0 0, .int .i64 0, .int .i64 0, .slice none 0 0, .bool false] 46)) = W0 at *
  obtain ⟨o0, o1, o2⟩ := HK.out.ocells
  go_quiet (fail)
  go_upto_region 17 with fail
  have HK1 := Lib.hid (HK.out.step (below_drewN (Below.refl _ _) nq))
  generalize W0.drewN nq = W1 at *
  clear o0 o1 o2 f0 f0' fr fr' fs fs' er ek f1 f1' f2 f2'
  obtain ⟨c0, c1, c2, c3, c4⟩ := HK1.out.a.cells
  go_wp2_with fail
  refine (HAA.out _ HK1.out.below).mono ?_
  rintro en W2 ⟨x, u, rfl, hx, hu, hb2⟩
  obtain ⟨xp, xn, xc, xm, xd, xp2, xn2, xc2, xb, rfl⟩ := HC.out.sx _ _ hx
  obtain ⟨rp, rc, er⟩ := own1_slice hu
  subst er
  have HK2 := Lib.hid (HK1.out.step hb2)
  have hm3 := B5.made (W := W2) (.slice xp xn xc) (.int .i64 xm) (.int .i64 xd) (.slice xp2 xn2 xc2) (.bool xb) 28
  obtain ⟨X, hX⟩ : ∃ X, X = W2.heap.size := ⟨_, rfl⟩
  have hal3 : Below W2.heap.size W2 (W2.alloc (Obj.cells #[.slice xp xn xc, .int .i64 xm, .int .i64 xd, .slice xp2 xn2 xc2, .bool xb] 28)) := (Below.refl _ _).alloc (Nat.le_refl _) _
  have HX3 := Lib.hid (HC.out.bx _ _ _ hx hal3)
  have HU3 := Lib.hid (own1_below hu hal3)
  have HK3 := Lib.hid (HK2.out.step hal3)
  clear hx hu hb2 c0 c1 c2 c3 c4 hal3
  go_upto_region 18 with fail
  have HXL : Hid (w.heap.size + 1 + 1 + 1 + 1 < X) := by show _ < _; rw [hX]; exact blk_lt HK2.out.zz
  rw [← hX] at hm3 ⊢
  have HM3 := Lib.hid hm3
  clear hX hm3
  generalize W2.alloc (Obj.cells #[.slice xp xn xc, .int .i64 xm, .int .i64 xd, .slice xp2 xn2 xc2, .bool xb] 28) = W3 at *
  obtain ⟨c0, c1, c2, c3, c4⟩ := HK3.out.b.cells
  go_wp2_with fail
  refine (HBB.out _ HK3.out.below).mono ?_
  rintro en W4 ⟨y, u, rfl, hy, hu, hb4⟩
  obtain ⟨yp, yn, yc, ym, yd, yp2, yn2, yc2, yb, rfl⟩ := HC.out.sy _ _ hy
  obtain ⟨tp, tc, er⟩ := own1_slice hu
  subst er
  have HK4 := Lib.hid (HK3.out.step hb4)
  have HX4 := Lib.hid (HC.out.bx _ _ _ HX3.out hb4)
  have HU4 := Lib.hid (own1_below HU3.out hb4)
  have hm5 := B5.made (W := W4) (.slice yp yn yc) (.int .i64 ym) (.int .i64 yd) (.slice yp2 yn2 yc2) (.bool yb) 46
  obtain ⟨Y, hY⟩ : ∃ Y, Y = W4.heap.size := ⟨_, rfl⟩
  have hal5 : Below W4.heap.size W4 (W4.alloc (Obj.cells #[.slice yp yn yc, .int .i64 ym, .int .i64 yd, .slice yp2 yn2 yc2, .bool yb] 46)) := (Below.refl _ _).alloc (Nat.le_refl _) _
  have HY5 := Lib.hid (HC.out.bY _ _ _ hy hal5)
  have HX5 := Lib.hid (HC.out.bx _ _ _ HX4.out hal5)
  have HU5 := Lib.hid (own1_below HU4.out hal5)
  have HV5 := Lib.hid (own1_below hu hal5)
  have HK5 := Lib.hid (HK4.out.step hal5)
  have HM5 := Lib.hid ((HM3.out.step hb4).step hal5)
  clear hy hu hb4 c0 c1 c2 c3 c4 hal5
  go_upto_region 19 with fail
  have HYL : Hid (w.heap.size + 1 + 1 + 1 + 1 < Y) := by show _ < _; rw [hY]; exact blk_lt HK4.out.zz
  rw [← hY] at hm5 ⊢
  have HN5 := Lib.hid hm5
  clear hY hm5
  generalize W4.alloc (Obj.cells #[.slice yp yn yc, .int .i64 ym, .int .i64 yd, .slice yp2 yn2 yc2, .bool yb] 46) = W5 at *
  have HNE0 : Hid (w.heap.size + 1 + 1 + 1 + 1 ≠ w.heap.size + 1 + 1 + 1) := by show _ ≠ _; omega
  have HNE1 : Hid (w.heap.size ≠ w.heap.size + 1 + 1 + 1 ∧ w.heap.size ≠ w.heap.size + 1 + 1 + 1 + 1) := by show _ ∧ _; omega
  have HNE2 : Hid (w.heap.size + 1 ≠ w.heap.size + 1 + 1 + 1 ∧ w.heap.size + 1 ≠ w.heap.size + 1 + 1 + 1 + 1) := by show _ ∧ _; omega
  have HNE3 : Hid (X ≠ w.heap.size + 1 + 1 + 1 ∧ X ≠ w.heap.size + 1 + 1 + 1 + 1) := by show _ ∧ _; have := HXL.out; omega
  have HNE4 : Hid (Y ≠ w.heap.size + 1 + 1 + 1 ∧ Y ≠ w.heap.size + 1 + 1 + 1 + 1) := by show _ ∧ _; have := HYL.out; omega
  have HD5 : Hid (Below W5.heap.size W5 W5.drew) := (Below.refl _ _).drew
  go_region_held3 (fun W => W.cell? ⟨w.heap.size, 0, none⟩ = some (.slice ap an ac) ∧ W.cell? ⟨w.heap.size, 1, none⟩ = some (.int .i64 am) ∧ W.cell? ⟨w.heap.size, 2, none⟩ = some (.int .i64 ad) ∧ W.cell? ⟨w.heap.size, 3, none⟩ = some (.slice ap2 an2 ac2) ∧ W.cell? ⟨w.heap.size, 4, none⟩ = some (.bool ab) ∧ W.cell? ⟨w.heap.size + 1, 0, none⟩ = some (.slice bp bn bc) ∧ W.cell? ⟨w.heap.size + 1, 1, none⟩ = some (.int .i64 bm) ∧ W.cell? ⟨w.heap.size + 1, 2, none⟩ = some (.int .i64 bd) ∧ W.cell? ⟨w.heap.size + 1, 3, none⟩ = some (.slice bp2 bn2 bc2) ∧ W.cell? ⟨w.heap.size + 1, 4, none⟩ = some (.bool bb) ∧ W.cell? ⟨X, 0, none⟩ = some (.slice xp xn xc) ∧ W.cell? ⟨X, 1, none⟩ = some (.int .i64 xm) ∧ W.cell? ⟨X, 2, none⟩ = some (.int .i64 xd) ∧ W.cell? ⟨X, 3, none⟩ = some (.slice xp2 xn2 xc2) ∧ W.cell? ⟨X, 4, none⟩ = some (.bool xb) ∧ W.cell? ⟨Y, 0, none⟩ = some (.slice yp yn yc) ∧ W.cell? ⟨Y, 1, none⟩ = some (.int .i64 ym) ∧ W.cell? ⟨Y, 2, none⟩ = some (.int .i64 yd) ∧ W.cell? ⟨Y, 3, none⟩ = some (.slice yp2 yn2 yc2) ∧ W.cell? ⟨Y, 4, none⟩ = some (.bool yb))
    (first | with_reducible exact Both.facts4 HK5.out.a HK5.out.b HM5.out HN5.out | with_reducible exact Both.facts4 (HK5.out.step HD5.out).a (HK5.out.step HD5.out).b (HM5.out.step HD5.out) (HN5.out.step HD5.out) | with_reducible exact Both.facts4 HK6.out.a HK6.out.b HM6.out HN6.out | with_reducible exact Both.facts4 HK7.out.a HK7.out.b HM7.out HN7.out | with_reducible exact Both.put1 HK7.out.z HK7.out.zz HNE0.out HNE1.out HNE2.out HNE3.out HNE4.out HK7.out.a HK7.out.b HM7.out HN7.out | with_reducible exact Both.put2 HK7.out.z HK7.out.zz HNE0.out HNE1.out HNE2.out HNE3.out HNE4.out HK7.out.a HK7.out.b HM7.out HN7.out | (trace_state; fail))
    (first
      | (go_at_call 14; refine (equal_at (own1_below HU5.out HD5.out) (own1_below HV5.out HD5.out) HNN.out).mono ?_; rintro en W6 ⟨rfl, hb⟩; have hbb := HD5.out.trans (hb.mono HD5.out.size); have HK6 := Lib.hid (HK5.out.step hbb); have HM6 := Lib.hid (HM5.out.step hbb); have HN6 := Lib.hid (HN5.out.step hbb); have HX6 := Lib.hid (HC.out.bx _ _ _ HX5.out hbb); have HY6 := Lib.hid (HC.out.bY _ _ _ HY5.out hbb); clear hb hbb)
      | (go_at_call 47; refine (keep_any HAS.out HBS.out ⟨_, _, _, _, _, _, _, _, _, rfl⟩ ⟨_, _, _, _, _, _, _, _, _, rfl⟩ (fun W h => HC.out.al W _ _ (HC.out.bx _ _ _ HX6.out h) (HC.out.bY _ _ _ HY6.out h)) e).mono ?_; rintro en W7 ⟨rfl, hb⟩; have HK7 := Lib.hid (HK6.out.step hb); have HM7 := Lib.hid (HM6.out.step hb); have HN7 := Lib.hid (HN6.out.step hb); have HX7 := Lib.hid (HC.out.bx _ _ _ HX6.out hb); have HY7 := Lib.hid (HC.out.bY _ _ _ HY6.out hb); clear hb; obtain ⟨up, un, uc, um, ud, up2, un2, uc2, ub, eu⟩ := pick_shape (e := e) (x := .agg #[.slice xp xn xc, .int .i64 xm, .int .i64 xd, .slice xp2 xn2 xc2, .bool xb]) (a := .agg #[.slice ap an ac, .int .i64 am, .int .i64 ad, .slice ap2 an2 ac2, .bool ab]) ⟨_, _, _, _, _, _, _, _, _, rfl⟩ HAS.out; obtain ⟨vp, vn, vc, vm, vd, vp2, vn2, vc2, vb, ev⟩ := pick_shape (e := e) (x := .agg #[.slice yp yn yc, .int .i64 ym, .int .i64 yd, .slice yp2 yn2 yc2, .bool yb]) (a := .agg #[.slice bp bn bc, .int .i64 bm, .int .i64 bd, .slice bp2 bn2 bc2, .bool bb]) ⟨_, _, _, _, _, _, _, _, _, rfl⟩ HBS.out; have HEU := Lib.hid eu; have HEV := Lib.hid ev; rw [eu, ev]; clear eu ev; obtain ⟨z0, z1, z2, z3, z4⟩ := HK7.out.z.cells; obtain ⟨y0, y1, y2, y3, y4⟩ := HK7.out.zz.cells; obtain ⟨f0, f1, f2, f3, f4⟩ := HK7.out.z.frz; obtain ⟨g0, g1, g2, g3, g4⟩ := HK7.out.zz.frz))
  obtain ⟨W8, hW8⟩ : ∃ W8, W8 = (((((W7.setCell ⟨w.heap.size + 1 + 1 + 1, 0, none⟩ (.slice up un uc)).setCell ⟨w.heap.size + 1 + 1 + 1, 1, none⟩ (.int .i64 um)).setCell ⟨w.heap.size + 1 + 1 + 1, 2, none⟩ (.int .i64 ud)).setCell ⟨w.heap.size + 1 + 1 + 1, 3, none⟩ (.slice up2 un2 uc2)).setCell ⟨w.heap.size + 1 + 1 + 1, 4, none⟩ (.bool ub)) := ⟨_, rfl⟩
  rw [← hW8]
  obtain ⟨W9, hW9⟩ : ∃ W9, W9 = (((((W8.setCell ⟨w.heap.size + 1 + 1 + 1 + 1, 0, none⟩ (.slice vp vn vc)).setCell ⟨w.heap.size + 1 + 1 + 1 + 1, 1, none⟩ (.int .i64 vm)).setCell ⟨w.heap.size + 1 + 1 + 1 + 1, 2, none⟩ (.int .i64 vd)).setCell ⟨w.heap.size + 1 + 1 + 1 + 1, 3, none⟩ (.slice vp2 vn2 vc2)).setCell ⟨w.heap.size + 1 + 1 + 1 + 1, 4, none⟩ (.bool vb)) := ⟨_, rfl⟩
  rw [← hW9]
  obtain ⟨p1, p2, p3⟩ := B5.put HK7.out.z hW8
  have hzz := p3 _ _ _ _ _ _ _ (by omega) HK7.out.zz
  obtain ⟨r1, r2, r3⟩ := B5.put hzz hW9
  have kp7 := Keeps.put (.inl rfl) HK7.out.z hW8
  have kp8 := Keeps.put (.inr rfl) hzz hW9
  have K1 := Lib.hid (r2 w.heap.size w (by omega) (p2 w.heap.size w (by omega) HK7.out.below))
  have HX8 := Lib.hid (HC.out.kx _ _ _ (HC.out.kx _ _ _ HX7.out kp7) kp8)
  have HY8 := Lib.hid (HC.out.ky _ _ _ (HC.out.ky _ _ _ HY7.out kp7) kp8)
  have p4 := r3 _ _ _ _ _ _ _ (by omega) p1
  clear z0 z1 z2 z3 z4 y0 y1 y2 y3 y4 f0 f1 f2 f3 f4 g0 g1 g2 g3 g4 hW8 hW9 kp7 kp8 hzz
  obtain ⟨c0, c1, c2, c3, c4⟩ := p4.cells
  obtain ⟨d0, d1, d2, d3, d4⟩ := r1.cells
  go_wp2_with fail
  refine bodyPost_ret (v := .tuple #[.agg #[.slice up un uc, .int .i64 um, .int .i64 ud, .slice up2 un2 uc2, .bool ub], .agg #[.slice vp vn vc, .int .i64 vm, .int .i64 vd, .slice vp2 vn2 vc2, .bool vb], .bool true]) (by simp [results, Try.results17, go_sem, c0, c1, c2, c3, c4, d0, d1, d2, d3, d4]) rfl ⟨_, _, ?_, HX8.out, HY8.out, K1.out⟩
  rw [HEU.out, HEV.out]
end Go.Proofs.Ytgbafpjeapkklaa.Mb
namespace Go.Proofs.Ytgbafpjeapkklaa.Mb
open Go.RowKit
set_option linter.unusedVariables false
set_option linter.unusedSimpArgs false
theorem Both.facts2 {W : World} {k1 k2 : Nat} {a0 a1 a2 a3 a4 b0 b1 b2 b3 b4 : Value} (h1 : B5 W k1 28 a0 a1 a2 a3 a4) (h2 : B5 W k2 46 b0 b1 b2 b3 b4) :
    W.cell? ⟨k1, 0, none⟩ = some a0 ∧ W.cell? ⟨k1, 1, none⟩ = some a1 ∧ W.cell? ⟨k1, 2, none⟩ = some a2 ∧ W.cell? ⟨k1, 3, none⟩ = some a3 ∧ W.cell? ⟨k1, 4, none⟩ = some a4 ∧
    W.cell? ⟨k2, 0, none⟩ = some b0 ∧ W.cell? ⟨k2, 1, none⟩ = some b1 ∧ W.cell? ⟨k2, 2, none⟩ = some b2 ∧ W.cell? ⟨k2, 3, none⟩ = some b3 ∧ W.cell? ⟨k2, 4, none⟩ = some b4 :=
  ⟨cell_blk h1 0, cell_blk h1 1, cell_blk h1 2, cell_blk h1 3, cell_blk h1 4, cell_blk h2 0, cell_blk h2 1, cell_blk h2 2, cell_blk h2 3, cell_blk h2 4⟩
theorem Both.put21 {W : World} {k k' k1 k2 : Nat} {z0 z1 z2 z3 z4 y0 y1 y2 y3 y4 a0 a1 a2 a3 a4 b0 b1 b2 b3 b4 u0 u1 u2 u3 u4 : Value} (hz : B5 W k 28 z0 z1 z2 z3 z4) (hy : B5 W k' 46 y0 y1 y2 y3 y4) (n0 : k' ≠ k) (n1 : k1 ≠ k ∧ k1 ≠ k') (n2 : k2 ≠ k ∧ k2 ≠ k') (h1 : B5 W k1 28 a0 a1 a2 a3 a4) (h2 : B5 W k2 46 b0 b1 b2 b3 b4) :
    (((((W.setCell ⟨k, 0, none⟩ u0).setCell ⟨k, 1, none⟩ u1).setCell ⟨k, 2, none⟩ u2).setCell ⟨k, 3, none⟩ u3).setCell ⟨k, 4, none⟩ u4).cell? ⟨k1, 0, none⟩ = some a0 ∧ (((((W.setCell ⟨k, 0, none⟩ u0).setCell ⟨k, 1, none⟩ u1).setCell ⟨k, 2, none⟩ u2).setCell ⟨k, 3, none⟩ u3).setCell ⟨k, 4, none⟩ u4).cell? ⟨k1, 1, none⟩ = some a1 ∧ (((((W.setCell ⟨k, 0, none⟩ u0).setCell ⟨k, 1, none⟩ u1).setCell ⟨k, 2, none⟩ u2).setCell ⟨k, 3, none⟩ u3).setCell ⟨k, 4, none⟩ u4).cell? ⟨k1, 2, none⟩ = some a2 ∧ (((((W.setCell ⟨k, 0, none⟩ u0).setCell ⟨k, 1, none⟩ u1).setCell ⟨k, 2, none⟩ u2).setCell ⟨k, 3, none⟩ u3).setCell ⟨k, 4, none⟩ u4).cell? ⟨k1, 3, none⟩ = some a3 ∧ (((((W.setCell ⟨k, 0, none⟩ u0).setCell ⟨k, 1, none⟩ u1).setCell ⟨k, 2, none⟩ u2).setCell ⟨k, 3, none⟩ u3).setCell ⟨k, 4, none⟩ u4).cell? ⟨k1, 4, none⟩ = some a4 ∧
    (((((W.setCell ⟨k, 0, none⟩ u0).setCell ⟨k, 1, none⟩ u1).setCell ⟨k, 2, none⟩ u2).setCell ⟨k, 3, none⟩ u3).setCell ⟨k, 4, none⟩ u4).cell? ⟨k2, 0, none⟩ = some b0 ∧ (((((W.setCell ⟨k, 0, none⟩ u0).setCell ⟨k, 1, none⟩ u1).setCell ⟨k, 2, none⟩ u2).setCell ⟨k, 3, none⟩ u3).setCell ⟨k, 4, none⟩ u4).cell? ⟨k2, 1, none⟩ = some b1 ∧ (((((W.setCell ⟨k, 0, none⟩ u0).setCell ⟨k, 1, none⟩ u1).setCell ⟨k, 2, none⟩ u2).setCell ⟨k, 3, none⟩ u3).setCell ⟨k, 4, none⟩ u4).cell? ⟨k2, 2, none⟩ = some b2 ∧ (((((W.setCell ⟨k, 0, none⟩ u0).setCell ⟨k, 1, none⟩ u1).setCell ⟨k, 2, none⟩ u2).setCell ⟨k, 3, none⟩ u3).setCell ⟨k, 4, none⟩ u4).cell? ⟨k2, 3, none⟩ = some b3 ∧ (((((W.setCell ⟨k, 0, none⟩ u0).setCell ⟨k, 1, none⟩ u1).setCell ⟨k, 2, none⟩ u2).setCell ⟨k, 3, none⟩ u3).setCell ⟨k, 4, none⟩ u4).cell? ⟨k2, 4, none⟩ = some b4 := by
  obtain ⟨_, _, p⟩ := B5.put (u0 := u0) (u1 := u1) (u2 := u2) (u3 := u3) (u4 := u4) hz rfl
  exact Both.facts2 (p _ _ _ _ _ _ _ n1.1 h1) (p _ _ _ _ _ _ _ n2.1 h2)
theorem Both.put22 {W : World} {k k' k1 k2 : Nat} {z0 z1 z2 z3 z4 y0 y1 y2 y3 y4 a0 a1 a2 a3 a4 b0 b1 b2 b3 b4 u0 u1 u2 u3 u4 v0 v1 v2 v3 v4 : Value} (hz : B5 W k 28 z0 z1 z2 z3 z4) (hy : B5 W k' 46 y0 y1 y2 y3 y4) (n0 : k' ≠ k) (n1 : k1 ≠ k ∧ k1 ≠ k') (n2 : k2 ≠ k ∧ k2 ≠ k') (h1 : B5 W k1 28 a0 a1 a2 a3 a4) (h2 : B5 W k2 46 b0 b1 b2 b3 b4) :
    ((((((((((W.setCell ⟨k, 0, none⟩ u0).setCell ⟨k, 1, none⟩ u1).setCell ⟨k, 2, none⟩ u2).setCell ⟨k, 3, none⟩ u3).setCell ⟨k, 4, none⟩ u4).setCell ⟨k', 0, none⟩ v0).setCell ⟨k', 1, none⟩ v1).setCell ⟨k', 2, none⟩ v2).setCell ⟨k', 3, none⟩ v3).setCell ⟨k', 4, none⟩ v4).cell? ⟨k1, 0, none⟩ = some a0 ∧ ((((((((((W.setCell ⟨k, 0, none⟩ u0).setCell ⟨k, 1, none⟩ u1).setCell ⟨k, 2, none⟩ u2).setCell ⟨k, 3, none⟩ u3).setCell ⟨k, 4, none⟩ u4).setCell ⟨k', 0, none⟩ v0).setCell ⟨k', 1, none⟩ v1).setCell ⟨k', 2, none⟩ v2).setCell ⟨k', 3, none⟩ v3).setCell ⟨k', 4, none⟩ v4).cell? ⟨k1, 1, none⟩ = some a1 ∧ ((((((((((W.setCell ⟨k, 0, none⟩ u0).setCell ⟨k, 1, none⟩ u1).setCell ⟨k, 2, none⟩ u2).setCell ⟨k, 3, none⟩ u3).setCell ⟨k, 4, none⟩ u4).setCell ⟨k', 0, none⟩ v0).setCell ⟨k', 1, none⟩ v1).setCell ⟨k', 2, none⟩ v2).setCell ⟨k', 3, none⟩ v3).setCell ⟨k', 4, none⟩ v4).cell? ⟨k1, 2, none⟩ = some a2 ∧ ((((((((((W.setCell ⟨k, 0, none⟩ u0).setCell ⟨k, 1, none⟩ u1).setCell ⟨k, 2, none⟩ u2).setCell ⟨k, 3, none⟩ u3).setCell ⟨k, 4, none⟩ u4).setCell ⟨k', 0, none⟩ v0).setCell ⟨k', 1, none⟩ v1).setCell ⟨k', 2, none⟩ v2).setCell ⟨k', 3, none⟩ v3).setCell ⟨k', 4, none⟩ v4).cell? ⟨k1, 3, none⟩ = some a3 ∧ ((((((((((W.setCell ⟨k, 0, none⟩ u0).setCell ⟨k, 1, none⟩ u1).setCell ⟨k, 2, none⟩ u2).setCell ⟨k, 3, none⟩ u3).setCell ⟨k, 4, none⟩ u4).setCell ⟨k', 0, none⟩ v0).setCell ⟨k', 1, none⟩ v1).setCell ⟨k', 2, none⟩ v2).setCell ⟨k', 3, none⟩ v3).setCell ⟨k', 4, none⟩ v4).cell? ⟨k1, 4, none⟩ = some a4 ∧
    ((((((((((W.setCell ⟨k, 0, none⟩ u0).setCell ⟨k, 1, none⟩ u1).setCell ⟨k, 2, none⟩ u2).setCell ⟨k, 3, none⟩ u3).setCell ⟨k, 4, none⟩ u4).setCell ⟨k', 0, none⟩ v0).setCell ⟨k', 1, none⟩ v1).setCell ⟨k', 2, none⟩ v2).setCell ⟨k', 3, none⟩ v3).setCell ⟨k', 4, none⟩ v4).cell? ⟨k2, 0, none⟩ = some b0 ∧ ((((((((((W.setCell ⟨k, 0, none⟩ u0).setCell ⟨k, 1, none⟩ u1).setCell ⟨k, 2, none⟩ u2).setCell ⟨k, 3, none⟩ u3).setCell ⟨k, 4, none⟩ u4).setCell ⟨k', 0, none⟩ v0).setCell ⟨k', 1, none⟩ v1).setCell ⟨k', 2, none⟩ v2).setCell ⟨k', 3, none⟩ v3).setCell ⟨k', 4, none⟩ v4).cell? ⟨k2, 1, none⟩ = some b1 ∧ ((((((((((W.setCell ⟨k, 0, none⟩ u0).setCell ⟨k, 1, none⟩ u1).setCell ⟨k, 2, none⟩ u2).setCell ⟨k, 3, none⟩ u3).setCell ⟨k, 4, none⟩ u4).setCell ⟨k', 0, none⟩ v0).setCell ⟨k', 1, none⟩ v1).setCell ⟨k', 2, none⟩ v2).setCell ⟨k', 3, none⟩ v3).setCell ⟨k', 4, none⟩ v4).cell? ⟨k2, 2, none⟩ = some b2 ∧ ((((((((((W.setCell ⟨k, 0, none⟩ u0).setCell ⟨k, 1, none⟩ u1).setCell ⟨k, 2, none⟩ u2).setCell ⟨k, 3, none⟩ u3).setCell ⟨k, 4, none⟩ u4).setCell ⟨k', 0, none⟩ v0).setCell ⟨k', 1, none⟩ v1).setCell ⟨k', 2, none⟩ v2).setCell ⟨k', 3, none⟩ v3).setCell ⟨k', 4, none⟩ v4).cell? ⟨k2, 3, none⟩ = some b3 ∧ ((((((((((W.setCell ⟨k, 0, none⟩ u0).setCell ⟨k, 1, none⟩ u1).setCell ⟨k, 2, none⟩ u2).setCell ⟨k, 3, none⟩ u3).setCell ⟨k, 4, none⟩ u4).setCell ⟨k', 0, none⟩ v0).setCell ⟨k', 1, none⟩ v1).setCell ⟨k', 2, none⟩ v2).setCell ⟨k', 3, none⟩ v3).setCell ⟨k', 4, none⟩ v4).cell? ⟨k2, 4, none⟩ = some b4 := by
  obtain ⟨_, _, p⟩ := B5.put (u0 := u0) (u1 := u1) (u2 := u2) (u3 := u3) (u4 := u4) hz rfl
  obtain ⟨_, _, r⟩ := B5.put (u0 := v0) (u1 := v1) (u2 := v2) (u3 := v3) (u4 := v4) (p _ _ _ _ _ _ _ n0 hy) rfl
  exact Both.facts2 (r _ _ _ _ _ _ _ n1.2 (p _ _ _ _ _ _ _ n1.1 h1)) (r _ _ _ _ _ _ _ n2.2 (p _ _ _ _ _ _ _ n2.1 h2))
set_option maxRecDepth 100000 in
set_option maxHeartbeats 32000000 in
theorem step_5 {a b : Value} {ki p v : Int} {w : World} (ha : Shape a) (hb : Shape b) (g1 : -128 ≤ ki) (g2 : ki ≤ 127) (g3 : -128 ≤ p) (g4 : p ≤ 127) (g5 : -128 ≤ v) (g6 : v ≤ 127) (hk : kindOf ki = 5)
    {n : Nat} {l : List Int} (hn : n ≤ 100000)
    (hA : ∀ W, Below w.heap.size w W → Calls Try.prog 22 #[a] W fun en w' => ∃ u, en = .returned (.tuple #[u, .int .i64 0]) ∧ w'.ownsRow W.heap.size 3 1 u n (ints l) ∧ Below W.heap.size W w')
    (hB : ∀ W, Below w.heap.size w W → Calls Try.prog 52 #[b] W fun en w' => ∃ u, en = .returned (.tuple #[u, .int .i64 0]) ∧ w'.ownsRow W.heap.size 3 1 u n (ints l) ∧ Below W.heap.size W w')
    (hC : ∀ W, Below w.heap.size w W → Calls Try.prog 18 #[a] W fun en w' => en = .returned (.int .i64 0) ∧ Below W.heap.size W w')
    (hD : ∀ W, Below w.heap.size w W → Calls Try.prog 20 #[b] W fun en w' => en = .returned (.int .i64 0) ∧ Below W.heap.size W w') :
    Calls Try.prog 17 #[a, b, .agg #[.int .i8 ki, .int .i8 p, .int .i8 v]] w fun en w' => en = .returned (.tuple #[a, b, .bool true]) ∧ Below w.heap.size w w' := by
  have HNN := Lib.hid hn
  have HCC := Lib.hid hC
  have HDD := Lib.hid hD
  have hc : True := trivial
  clear hn hC hD
  obtain ⟨ap, an, ac, am, ad, ap2, an2, ac2, ab, rfl⟩ := ha
  obtain ⟨bp, bn, bc, bm, bd, bp2, bn2, bc2, bb, rfl⟩ := hb
  have HC := Lib.hid hc
  have HAA := Lib.hid hA
  have HBB := Lib.hid hB
  have HAS : Hid (Shape (.agg #[.slice ap an ac, .int .i64 am, .int .i64 ad, .slice ap2 an2 ac2, .bool ab])) := ⟨_, _, _, _, _, _, _, _, _, rfl⟩
  have HBS : Hid (Shape (.agg #[.slice bp bn bc, .int .i64 bm, .int .i64 bd, .slice bp2 bn2 bc2, .bool bb])) := ⟨_, _, _, _, _, _, _, _, _, rfl⟩
  obtain ⟨r, kk, er, hr1, hr2, ek, hkk⟩ := kind_of ki g1 g2
  obtain rfl : kk = 5 := by
    unfold kindOf at hk
    rw [er, ek] at hk
    omega
  have f0 : wrap64 ki = ki := by unfold wrap64; omega
  have f1 : wrap64 p = p := by unfold wrap64; omega
  have f2 : wrap64 v = v := by unfold wrap64; omega
  have f0' : IntKind.i64.wrap ki = ki := (Go.IntWalk.i64_left _).trans f0
  have f1' : IntKind.i64.wrap p = p := (Go.IntWalk.i64_left _).trans f1
  have f2' : IntKind.i64.wrap v = v := (Go.IntWalk.i64_left _).trans f2
  have fr : wrap64 r = r := by unfold wrap64; omega
  have fr' : IntKind.i64.wrap r = r := (Go.IntWalk.i64_left _).trans fr
  have fs : wrap64 (r + 6) = r + 6 := by unfold wrap64; omega
  have fs' : IntKind.i64.wrap (r + 6) = r + 6 := (Go.IntWalk.i64_left _).trans fs
  clear hc hA hB hk g1 g2 g3 g4 g5 g6 hr1 hr2 hkk
  have HK : Hid (SK w (.slice ap an ac) (.int .i64 am) (.int .i64 ad) (.slice ap2 an2 ac2) (.bool ab) (.slice bp bn bc) (.int .i64 bm) (.int .i64 bd) (.slice bp2 bn2 bc2) (.bool bb) ki p v _) := SK.mk' w _ _ _ _ _ _ _ _ _ _ ki p v
  go_enter Try.func17, Try.ntmps17
  go_upto_region 1 with fail
  generalize (((((w.alloc (Obj.cells #[.slice ap an ac, .int .i64 am, .int .i64 ad, .slice ap2 an2 ac2, .bool ab] 28)).alloc (Obj.cells #[.slice bp bn bc, .int .i64 bm, .int .i64 bd, .slice bp2 bn2 bc2, .bool bb] 46)).alloc (Obj.cells #[.int .i8 ki, .int .i8 p, .int .i8 v] 51)).alloc (Obj.cells #[.slice none 0 0, .int .i64 0, .int .i64 0, .slice none 0 0, .bool false] 28)).alloc (Obj.cells #[.slice none 0 0, .int .i64 0, .int .i64 0, .slice none 0 0, .bool false] 46)) = W0 at *
  obtain ⟨o0, o1, o2⟩ := HK.out.ocells
  go_quiet (fail)
  go_upto_region 24 with fail
  have HK1 := Lib.hid (HK.out.step (below_drewN (Below.refl _ _) nq))
  generalize W0.drewN nq = W1 at *
  clear o0 o1 o2 f0 f0' fr fr' fs fs' er ek f1 f1' f2 f2'
  obtain ⟨c0, c1, c2, c3, c4⟩ := HK1.out.a.cells
  go_wp2_with fail
  refine (HAA.out _ HK1.out.below).mono ?_
  rintro en W2 ⟨u, rfl, hu, hb2⟩
  obtain ⟨rp, rc, er⟩ := own1_slice hu
  subst er
  have HK2 := Lib.hid (HK1.out.step hb2)
  have HU2 := Lib.hid hu
  clear hu hb2 c0 c1 c2 c3 c4
  go_upto_region 25 with fail
  obtain ⟨c0, c1, c2, c3, c4⟩ := HK2.out.b.cells
  go_wp2_with fail
  refine (HBB.out _ HK2.out.below).mono ?_
  rintro en W4 ⟨u, rfl, hu, hb4⟩
  obtain ⟨tp, tc, er⟩ := own1_slice hu
  subst er
  have HK5 := Lib.hid (HK2.out.step hb4)
  have HU5 := Lib.hid (own1_below HU2.out hb4)
  have HV5 := Lib.hid hu
  clear hu hb4 c0 c1 c2 c3 c4
  go_upto_region 26 with fail
  generalize hw5 : W4 = W5 at *
  clear hw5
  have HNE0 : Hid (w.heap.size + 1 + 1 + 1 + 1 ≠ w.heap.size + 1 + 1 + 1) := by show _ ≠ _; omega
  have HNE1 : Hid (w.heap.size ≠ w.heap.size + 1 + 1 + 1 ∧ w.heap.size ≠ w.heap.size + 1 + 1 + 1 + 1) := by show _ ∧ _; omega
  have HNE2 : Hid (w.heap.size + 1 ≠ w.heap.size + 1 + 1 + 1 ∧ w.heap.size + 1 ≠ w.heap.size + 1 + 1 + 1 + 1) := by show _ ∧ _; omega
  have HD5 : Hid (Below W5.heap.size W5 W5.drew) := (Below.refl _ _).drew
  go_region_held3 (fun W => W.cell? ⟨w.heap.size, 0, none⟩ = some (.slice ap an ac) ∧ W.cell? ⟨w.heap.size, 1, none⟩ = some (.int .i64 am) ∧ W.cell? ⟨w.heap.size, 2, none⟩ = some (.int .i64 ad) ∧ W.cell? ⟨w.heap.size, 3, none⟩ = some (.slice ap2 an2 ac2) ∧ W.cell? ⟨w.heap.size, 4, none⟩ = some (.bool ab) ∧ W.cell? ⟨w.heap.size + 1, 0, none⟩ = some (.slice bp bn bc) ∧ W.cell? ⟨w.heap.size + 1, 1, none⟩ = some (.int .i64 bm) ∧ W.cell? ⟨w.heap.size + 1, 2, none⟩ = some (.int .i64 bd) ∧ W.cell? ⟨w.heap.size + 1, 3, none⟩ = some (.slice bp2 bn2 bc2) ∧ W.cell? ⟨w.heap.size + 1, 4, none⟩ = some (.bool bb))
    (first | with_reducible exact Both.facts2 HK5.out.a HK5.out.b | with_reducible exact Both.facts2 (HK5.out.step HD5.out).a (HK5.out.step HD5.out).b | with_reducible exact Both.facts2 HK6.out.a HK6.out.b | with_reducible exact Both.facts2 HK7.out.a HK7.out.b | with_reducible exact Both.facts2 HK8.out.a HK8.out.b | with_reducible exact Both.put21 HK8.out.z HK8.out.zz HNE0.out HNE1.out HNE2.out HK8.out.a HK8.out.b | with_reducible exact Both.put22 HK8.out.z HK8.out.zz HNE0.out HNE1.out HNE2.out HK8.out.a HK8.out.b | (trace_state; fail))
    (first
      | (go_at_call 14; refine (equal_at (own1_below HU5.out HD5.out) (own1_below HV5.out HD5.out) HNN.out).mono ?_; rintro en W6 ⟨rfl, hb⟩; have hbb := HD5.out.trans (hb.mono HD5.out.size); have HK6 := Lib.hid (HK5.out.step hbb); clear hb hbb)
      | (go_at_call 18; refine (HCC.out _ HK6.out.below).mono ?_; rintro en W7 ⟨rfl, hb⟩; have HK7 := Lib.hid (HK6.out.step hb); clear hb)
      | (go_at_call 20; refine (HDD.out _ HK7.out.below).mono ?_; rintro en W8 ⟨rfl, hb⟩; have HK8 := Lib.hid (HK7.out.step hb); clear hb; obtain ⟨z0, z1, z2, z3, z4⟩ := HK8.out.z.cells; obtain ⟨y0, y1, y2, y3, y4⟩ := HK8.out.zz.cells; obtain ⟨f0, f1, f2, f3, f4⟩ := HK8.out.z.frz; obtain ⟨g0, g1, g2, g3, g4⟩ := HK8.out.zz.frz))
  all_goals
    obtain ⟨W9, hW9⟩ : ∃ W9, W9 = (((((W8.setCell ⟨w.heap.size + 1 + 1 + 1, 0, none⟩ (.slice ap an ac)).setCell ⟨w.heap.size + 1 + 1 + 1, 1, none⟩ (.int .i64 am)).setCell ⟨w.heap.size + 1 + 1 + 1, 2, none⟩ (.int .i64 ad)).setCell ⟨w.heap.size + 1 + 1 + 1, 3, none⟩ (.slice ap2 an2 ac2)).setCell ⟨w.heap.size + 1 + 1 + 1, 4, none⟩ (.bool ab)) := ⟨_, rfl⟩
    rw [← hW9]
    obtain ⟨WA, hWA⟩ : ∃ WA, WA = (((((W9.setCell ⟨w.heap.size + 1 + 1 + 1 + 1, 0, none⟩ (.slice bp bn bc)).setCell ⟨w.heap.size + 1 + 1 + 1 + 1, 1, none⟩ (.int .i64 bm)).setCell ⟨w.heap.size + 1 + 1 + 1 + 1, 2, none⟩ (.int .i64 bd)).setCell ⟨w.heap.size + 1 + 1 + 1 + 1, 3, none⟩ (.slice bp2 bn2 bc2)).setCell ⟨w.heap.size + 1 + 1 + 1 + 1, 4, none⟩ (.bool bb)) := ⟨_, rfl⟩
    rw [← hWA]
    obtain ⟨p1, p2, p3⟩ := B5.put HK8.out.z hW9
    have hzz := p3 _ _ _ _ _ _ _ (by omega) HK8.out.zz
    obtain ⟨r1, r2, r3⟩ := B5.put hzz hWA
    have K1 := Lib.hid (r2 w.heap.size w (by omega) (p2 w.heap.size w (by omega) HK8.out.below))
    have p4 := r3 _ _ _ _ _ _ _ (by omega) p1
    clear z0 z1 z2 z3 z4 y0 y1 y2 y3 y4 f0 f1 f2 f3 f4 g0 g1 g2 g3 g4 hW9 hWA hzz
    obtain ⟨c0, c1, c2, c3, c4⟩ := p4.cells
    obtain ⟨d0, d1, d2, d3, d4⟩ := r1.cells
    go_wp2_with fail
    refine bodyPost_ret (v := .tuple #[.agg #[.slice ap an ac, .int .i64 am, .int .i64 ad, .slice ap2 an2 ac2, .bool ab], .agg #[.slice bp bn bc, .int .i64 bm, .int .i64 bd, .slice bp2 bn2 bc2, .bool bb], .bool true]) (by simp [results, Try.results17, go_sem, c0, c1, c2, c3, c4, d0, d1, d2, d3, d4]) rfl ⟨rfl, K1.out⟩
end Go.Proofs.Ytgbafpjeapkklaa.Mb
namespace Go.Proofs.Ytgbafpjeapkklaa.Mb
open Go.RowKit
set_option linter.unusedVariables false
set_option linter.unusedSimpArgs false
theorem Both.ok {q : Q} (hq : WF q) : Both (fun W x => St W x q) (fun W y => StR W y q) where
  sx := fun W x h => h.shape
  sy := fun W x h => h.shape
  bx := fun W W' x h hb => h.below hb
  bY := fun W W' x h hb => h.below hb
  kx := fun W W' x h hb => hb.st h
  ky := fun W W' x h hb => hb.str h
  al := fun W x y h1 h2 => alike_st hq h1 h2
theorem Both.err : Both (fun _ x => x = zv) StZ where
  sx := fun W x h => by rw [h]; exact zv_shape
  sy := fun W x h => h.shape
  bx := fun W W' x h hb => h
  bY := fun W W' x h hb => h.below hb
  kx := fun W W' x h hb => h
  ky := fun W W' x h hb => hb.stz h
  al := fun W x y h1 h2 => by rw [h1]; exact alike_zero h2
theorem zv_stz (W : World) : StZ W zv := ⟨_, _, rfl, ⟨⟨none, 0, rfl, Nat.le_refl _, .inl rfl⟩, fun g hg => by simp [Value.ownBlock] at hg⟩, ⟨⟨none, 0, rfl, Nat.le_refl _, .inl rfl⟩, fun g hg => by simp [Value.ownBlock] at hg⟩⟩
theorem pick_err {e : Int} (h : e ≠ 0) (x a : Value) : pickS e x a = a := if_neg h
def StepTo (w : World) (q : Q) (a b : Value) (en : Ending) (w' : World) : Prop :=
  ∃ a' b' q', en = .returned (.tuple #[a', b', .bool true]) ∧ WF q' ∧ q'.m ≤ q.m + 1 ∧ St w' a' q' ∧ StR w' b' q' ∧ Below w.heap.size w w'
section
variable {q : Q} {a b : Value} {ki p v : Int} {w : World}
theorem to_ok {q' : Q} (hq' : WF q') (hm : q'.m ≤ q.m + 1) {en : Ending} {w' : World}
    (h : ∃ x y, en = .returned (.tuple #[pickS 0 x a, pickS 0 y b, .bool true]) ∧ St w' x q' ∧ StR w' y q' ∧ Below w.heap.size w w') : StepTo w q a b en w' := by
  obtain ⟨x, y, rfl, h1, h2, h3⟩ := h
  exact ⟨x, y, q', rfl, hq', hm, h1, h2, h3⟩
theorem to_err (hq : WF q) (ha : St w a q) (hb : StR w b q) {e : Int} (he : e ≠ 0) {RX RY : World → Value → Prop} {en : Ending} {w' : World}
    (h : ∃ x y, en = .returned (.tuple #[pickS e x a, pickS e y b, .bool true]) ∧ RX w' x ∧ RY w' y ∧ Below w.heap.size w w') : StepTo w q a b en w' := by
  obtain ⟨x, y, rfl, h1, h2, h3⟩ := h
  exact ⟨a, b, q, by rw [pick_err he, pick_err he], hq, by omega, ha.below h3, hb.below h3, h3⟩
theorem step_any (hq : WF q) (hm : q.m + 1 < 2000) (ha : St w a q) (hb : StR w b q) (g1 : -128 ≤ ki) (g2 : ki ≤ 127) (g3 : -128 ≤ p) (g4 : p ≤ 127) (g5 : -128 ≤ v) (g6 : v ≤ 127) :
    Calls Try.prog 17 #[a, b, .agg #[.int .i8 ki, .int .i8 p, .int .i8 v]] w fun en w' => StepTo w q a b en w' := by
  obtain ⟨r, kk, er, hr1, hr2, ek, hkk⟩ := kind_of ki g1 g2
  have hk : kindOf ki = (kk : Int) := by unfold kindOf; rw [er, ek]
  have hfew := hq.few
  have hc : kk = 0 ∨ kk = 1 ∨ kk = 2 ∨ kk = 3 ∨ kk = 4 ∨ kk = 5 := by omega
  rcases hc with rfl | rfl | rfl | rfl | rfl | rfl
  · by_cases hp : p < 0
    · refine (step_0 Both.err ha.shape hb.shape g1 g2 g3 g4 g5 g6 hk false 1 (fun W h => (begin_neg hq hp W (ha.below h)).mono ?_) (fun W h => rbegin_neg hq hp W (hb.below h))).mono fun en w' h => to_err hq ha hb (RX := fun _ x => x = zv) (RY := StZ) (e := 1) (by decide) h
      rintro en w' ⟨rfl, hbl⟩
      exact ⟨_, rfl, rfl, hbl⟩
    · by_cases hex : ∃ o ∈ q.opn, o.1 = p
      · obtain ⟨o, ho, hop⟩ := hex
        obtain ⟨i, j, hij⟩ := done_free ho hop
        refine (step_0 Both.err ha.shape hb.shape g1 g2 g3 g4 g5 g6 hk false 300 (fun W h => (begin_busy hq (by omega) hij W (ha.below h)).mono ?_) (fun W h => rbegin_busy hq (by omega) hij W (hb.below h))).mono fun en w' h => to_err hq ha hb (RX := fun _ x => x = zv) (RY := StZ) (e := 300) (by decide) h
        rintro en w' ⟨rfl, hbl⟩
        exact ⟨_, rfl, rfl, hbl⟩
      · have hno : ∀ o ∈ q.opn, o.1 ≠ p := fun o ho he => hex ⟨o, ho, he⟩
        have hw := beg_wf (x := v) hq hm (by omega) hno
        refine (step_0 (Both.ok hw) ha.shape hb.shape g1 g2 g3 g4 g5 g6 hk q.empty 0 (fun W h => ?_) (fun W h => rbegin_at hq (by omega) hno hm W (hb.below h))).mono fun en w' h => to_ok hw (by rw [beg_m]; omega) h
        exact begin_at hq (by omega) hno hm (insert_any (by rw [pushes_len]; exact pos_le q p) (wf_p hq) _) W (ha.below h)
  · by_cases hex : ∃ o ∈ q.opn, o.1 = p
    · obtain ⟨o, ho, hop⟩ := hex
      obtain ⟨i, j, hij⟩ := done_free ho hop
      have hw := fin_wf hq hij
      refine (step_1 (Both.ok hw) ha.shape hb.shape g1 g2 g3 g4 g5 g6 hk 0 (fun W h => finish_at hq hij W (ha.below h)) (fun W h => rfinish_at hq hij W (hb.below h))).mono fun en w' h => to_ok hw (by rw [fin_m]; omega) h
    · have hno : ∀ o ∈ q.opn, o.1 ≠ p := fun o ho he => hex ⟨o, ho, he⟩
      refine (step_1 Both.err ha.shape hb.shape g1 g2 g3 g4 g5 g6 hk 301 (fun W h => (finish_none hq hno W (ha.below h)).mono ?_) (fun W h => rfinish_none hq hno W (hb.below h))).mono fun en w' h => to_err hq ha hb (RX := fun _ x => x = zv) (RY := StZ) (e := 301) (by decide) h
      rintro en w' ⟨rfl, hbl⟩
      exact ⟨_, rfl, rfl, hbl⟩
  · cases hcan : q.can q.done with
    | false =>
      refine (step_2 (Both.ok hq) ha.shape hb.shape g1 g2 g3 g4 g5 g6 hk 0 false 0 (fun W h => PopNo_at hq hcan W (ha.below h)) (fun W h => ?_)).mono fun en w' h => to_ok hq (by omega) h
      obtain ⟨ns, ps, rfl, h1, h2⟩ := hb
      refine (rpop_no hq hcan W (h1.below h) (h2.below h)).mono ?_
      rintro en w' ⟨rfl, hbl⟩
      exact ⟨_, rfl, ⟨ns, ps, rfl, (h1.below h).below hbl, (h2.below h).below hbl⟩, hbl⟩
    | true =>
      have hw := pop_wf hq hcan
      refine (step_2 (Both.ok hw) ha.shape hb.shape g1 g2 g3 g4 g5 g6 hk (q.val q.done) true 0 (fun W h => PopYes_at hq hcan W (ha.below h)) (fun W h => ?_)).mono fun en w' h => to_ok hw (by show q.m ≤ _; omega) h
      obtain ⟨ns, ps, rfl, h1, h2⟩ := hb
      refine (rpop_yes hq hcan W (h1.below h) (h2.below h)).mono ?_
      rintro en w' ⟨rfl, hbl⟩
      exact ⟨_, rfl, ⟨ns, ps, rfl, (h1.below h).below hbl, (h2.below h).below hbl⟩, hbl⟩
  · by_cases hv : v < 0
    · refine (step_3 Both.err ha.shape hb.shape g1 g2 g3 g4 g5 g6 hk (n := 0) (l := []) (by omega) 1 (fun W h => (batch_neg hq hv W (ha.below h)).mono ?_) (fun W h => (rbatch_neg hq hv W (hb.below h)).mono ?_)).mono fun en w' h => to_err hq ha hb (RX := fun _ x => x = zv) (RY := StZ) (e := 1) (by decide) h
      · rintro en w' ⟨rfl, hbl⟩
        exact ⟨_, _, rfl, rfl, World.ownsRow_nil _ _ _ _, hbl⟩
      · rintro en w' ⟨rfl, hbl⟩
        exact ⟨_, _, rfl, zv_stz _, World.ownsRow_nil _ _ _ _, hbl⟩
    · obtain ⟨most, rfl⟩ : ∃ most : Nat, v = (most : Int) := ⟨v.toNat, by omega⟩
      have hw := batch_wf' hq most
      refine (step_3 (Both.ok hw) ha.shape hb.shape g1 g2 g3 g4 g5 g6 hk (n := q.pops most q.done) (l := q.took q.done (q.pops most q.done)) (by have := hw.done; have h3 : q.done + q.pops most q.done ≤ q.m := this; omega) 0 (fun W h => batch_at hq most W (ha.below h)) (fun W h => rbatch_at hq most W (hb.below h))).mono fun en w' h => to_ok hw (by show q.m ≤ _; omega) h
  · have hw := mark_wf hq
    refine (step_4 (Both.ok hw) ha.shape hb.shape g1 g2 g3 g4 g5 g6 hk (decide (q.done = q.m)) 0 (fun W h => mark_at hq W (ha.below h)) (fun W h => rmark_at hq W (hb.below h))).mono fun en w' h => to_ok hw (by show q.m ≤ _; omega) h
  · refine (step_5 ha.shape hb.shape g1 g2 g3 g4 g5 g6 hk (n := q.m - q.done) (l := q.took q.done (q.m - q.done)) (by omega) (fun W h => waiting_at hq W (ha.below h)) (fun W h => rwaiting_at hq W (hb.below h)) (fun W h => ?_) (fun W h => rcheck_at hq W (hb.below h))).mono ?_
    · obtain ⟨ns, ps, rfl, h1, h2⟩ := ha
      exact check_at hq ns ps W (h1.below h).1 (h2.below h).1
    · rintro en w' ⟨rfl, h3⟩
      exact ⟨a, b, q, rfl, hq, by omega, ha.below h3, hb.below h3, h3⟩
end
end Go.Proofs.Ytgbafpjeapkklaa.Mb
namespace Go.Proofs.Ytgbafpjeapkklaa.Mb
open Go.RowKit
set_option linter.unusedVariables false
set_option linter.unusedSimpArgs false
set_option maxRecDepth 100000 in
set_option maxHeartbeats 1000000 in
theorem rnew_at (w : World) : Calls Try.prog 15 #[] w fun e w' => ∃ v, e = .returned v ∧ StR w' v q0 ∧ Below w.heap.size w w' := by
  have h1 : Below w.heap.size w (w.alloc (Obj.cells #[.slice (some ⟨w.heap.size + 1, 0, none⟩) 1 1, .int .i64 0, .int .i64 0, .slice none 0 0, .bool true] 46)) := (Below.refl _ _).alloc (Nat.le_refl _) _
  have h2 := (Below.refl (w.alloc (Obj.cells #[.slice (some ⟨w.heap.size + 1, 0, none⟩) 1 1, .int .i64 0, .int .i64 0, .slice none 0 0, .bool true] 46)).heap.size (w.alloc (Obj.cells #[.slice (some ⟨w.heap.size + 1, 0, none⟩) 1 1, .int .i64 0, .int .i64 0, .slice none 0 0, .bool true] 46))).alloc (Nat.le_refl _) (Obj.cells #[.int .i64 0, .int .i64 (-1), .int .i64 (-1)] 105)
  have h3 := (MapKept.heap_alloc w (Obj.cells #[.slice (some ⟨w.heap.size + 1, 0, none⟩) 1 1, .int .i64 0, .int .i64 0, .slice none 0 0, .bool true] 46)).1
  have h4 := (MapKept.heap_alloc (w.alloc (Obj.cells #[.slice (some ⟨w.heap.size + 1, 0, none⟩) 1 1, .int .i64 0, .int .i64 0, .slice none 0 0, .bool true] 46)) (Obj.cells #[.int .i64 0, .int .i64 (-1), .int .i64 (-1)] 105)).1
  have hsz : (w.alloc (Obj.cells #[.slice (some ⟨w.heap.size + 1, 0, none⟩) 1 1, .int .i64 0, .int .i64 0, .slice none 0 0, .bool true] 46)).heap.size = w.heap.size + 1 := by simp
  have h5 := (h2.block _ (blk_lt h3)).trans h3
  have h6 := h1.trans (h2.mono h1.size)
  rw [hsz] at h4
  obtain ⟨W, hW⟩ : ∃ W, W = ((w.alloc (Obj.cells #[.slice (some ⟨w.heap.size + 1, 0, none⟩) 1 1, .int .i64 0, .int .i64 0, .slice none 0 0, .bool true] 46)).alloc (Obj.cells #[.int .i64 0, .int .i64 (-1), .int .i64 (-1)] 105)) := ⟨_, rfl⟩
  rw [← hW] at h4 h5 h6
  have H4 := Lib.hid h4
  have H6 := Lib.hid h6
  clear h1 h2 h3 hsz h4 h6
  go_enter Try.func15, Try.ntmps15
  go_wp2_with fail
  rw [← hW]
  clear hW
  have c0 : W.cell? ⟨w.heap.size, 0, none⟩ = some (.slice (some ⟨w.heap.size + 1, 0, none⟩) 1 1) := cell_blk h5 0
  have c1 : W.cell? ⟨w.heap.size, 1, none⟩ = some (.int .i64 0) := cell_blk h5 1
  have c2 : W.cell? ⟨w.heap.size, 2, none⟩ = some (.int .i64 0) := cell_blk h5 2
  have c3 : W.cell? ⟨w.heap.size, 3, none⟩ = some (.slice none 0 0) := cell_blk h5 3
  have c4 : W.cell? ⟨w.heap.size, 4, none⟩ = some (.bool true) := cell_blk h5 4
  refine bodyPost_ret (v := .agg #[.slice (some ⟨w.heap.size + 1, 0, none⟩) 1 1, .int .i64 0, .int .i64 0, .slice none 0 0, .bool true]) (by simp [results, Try.results15, go_sem, c0, c1, c2, c3, c4]) rfl ⟨_, rfl, ⟨_, _, rfl, ?_, ?_⟩, ?_⟩
  · refine ⟨⟨_, _, rfl, Nat.le_refl _, .inr ⟨_, _, rfl, blk_lt H4.out, fun k x hx => ?_⟩⟩, fun g hg => by simp [Value.ownBlock] at hg; subst hg; exact ⟨_, _, H4.out⟩⟩
    have e : q0.nodes = [(0, -1, -1)] := by decide
    rw [e] at hx
    cases k with
    | zero =>
      simp at hx; subst hx
      exact ⟨cell_blk H4.out 0, cell_blk H4.out 1, cell_blk H4.out 2⟩
    | succ k => simp at hx
  · exact ⟨⟨none, 0, rfl, Nat.le_refl _, .inl rfl⟩, fun g hg => by simp [Value.ownBlock] at hg⟩
  · exact H6.out
end Go.Proofs.Ytgbafpjeapkklaa.Mb
namespace Go.Proofs.Ytgbafpjeapkklaa.Mb
open Go.RowKit
set_option linter.unusedVariables false
set_option linter.unusedSimpArgs false
theorem keepAB {W W' : World} {k1 k2 : Nat} {a0 a1 a2 a3 a4 b0 b1 b2 b3 b4 : Value} (h1 : B5 W k1 28 a0 a1 a2 a3 a4) (h2 : B5 W k2 46 b0 b1 b2 b3 b4) (hb : Below W.heap.size W W') :
    W'.cell? ⟨k1, 0, none⟩ = some a0 ∧ W'.cell? ⟨k1, 1, none⟩ = some a1 ∧ W'.cell? ⟨k1, 2, none⟩ = some a2 ∧ W'.cell? ⟨k1, 3, none⟩ = some a3 ∧ W'.cell? ⟨k1, 4, none⟩ = some a4 ∧
    W'.cell? ⟨k2, 0, none⟩ = some b0 ∧ W'.cell? ⟨k2, 1, none⟩ = some b1 ∧ W'.cell? ⟨k2, 2, none⟩ = some b2 ∧ W'.cell? ⟨k2, 3, none⟩ = some b3 ∧ W'.cell? ⟨k2, 4, none⟩ = some b4 := Both.facts2 (h1.step hb) (h2.step hb)
structure LR (w : World) (X Y : Nat) (q : Q) (a b : Value) (W : World) : Prop where
  below : Below w.heap.size w W
  low : w.heap.size ≤ X
  lowY : w.heap.size ≤ Y
  ne : X ≠ Y
  wf : WF q
  st : St W a q
  str : StR W b q
theorem LR.step {w : World} {X Y : Nat} {q : Q} {a b : Value} {W W' : World} (h : LR w X Y q a b W) (hb : Below W.heap.size W W') : LR w X Y q a b W' :=
  ⟨h.below.trans (hb.mono h.below.size), h.low, h.lowY, h.ne, h.wf, h.st.below hb, h.str.below hb⟩
set_option maxRecDepth 100000 in
set_option maxHeartbeats 16000000 in
theorem runs_walk (v : Value) (l : List (Int × Int × Int)) (w : World) (hv : OpsS w v l) (hb : ∀ x ∈ l, (-128 ≤ x.1 ∧ x.1 ≤ 127) ∧ (-128 ≤ x.2.1 ∧ x.2.1 ≤ 127) ∧ (-128 ≤ x.2.2 ∧ x.2.2 ≤ 127)) :
    Calls Try.prog 4 #[v] w fun e w' => e = .returned (.bool true) ∧ Below w.heap.size w w' := by
  have HLB := Lib.hid hb; clear hb
  obtain ⟨pv, cv, rfl, hv⟩ := hv
  have HV := Lib.hid hv; clear hv
  generalize hN : l.length = N at *
  have HN := Lib.hid hN; clear hN
  by_cases hg : 60 < N
  · have t1 : decide ((60 : Int) < (N : Int)) = true := decide_eq_true (by omega)
    have t1' : decide (60 < N) = true := decide_eq_true (by omega)
    go_enter Try.func4, Try.ntmps4
    go_wp2_with fail
    refine (awake_at w).mono ?_
    rintro e w' ⟨rfl, hb⟩
    have HB := Lib.hid hb; clear hb
    go_wp2_with fail
    go_ret
    exact ⟨rfl, HB.out⟩
  have t1 : decide ((60 : Int) < (N : Int)) = false := decide_eq_false (by omega)
  have t1' : decide (60 < N) = false := decide_eq_false (by omega)
  have HGN : Hid (N ≤ 60) := by show _ ≤ _; omega
  clear hg
  go_enter Try.func4, Try.ntmps4
  go_wp2_with fail
  refine (new_at w).mono ?_
  rintro e W1 ⟨a, rfl, ha, hb1⟩
  obtain ⟨ap, an, ac, am, ad, ap2, an2, ac2, ab, rfl⟩ := ha.shape
  go_wp2_with fail
  refine (rnew_at W1).mono ?_
  rintro e W2 ⟨b, rfl, hb, hb2⟩
  obtain ⟨bp, bn, bc, bm, bd, bp2, bn2, bc2, bb, rfl⟩ := hb.shape
  have hbw := hb1.trans (hb2.mono hb1.size)
  have s3 : Below W2.heap.size W2 (W2.alloc (Obj.cells #[.slice ap an ac, .int .i64 am, .int .i64 ad, .slice ap2 an2 ac2, .bool ab] 28)) := (Below.refl _ _).alloc (Nat.le_refl _) _
  have m3 := B5.made (W := W2) (.slice ap an ac) (.int .i64 am) (.int .i64 ad) (.slice ap2 an2 ac2) (.bool ab) 28
  obtain ⟨X, hX⟩ : ∃ X, X = W2.heap.size := ⟨_, rfl⟩
  obtain ⟨W3, hW3⟩ : ∃ W3, W3 = W2.alloc (Obj.cells #[.slice ap an ac, .int .i64 am, .int .i64 ad, .slice ap2 an2 ac2, .bool ab] 28) := ⟨_, rfl⟩
  have z3 : W3.heap.size = X + 1 := by rw [hW3, hX]; simp
  rw [← hW3, ← hX] at m3
  rw [← hW3] at s3
  have s4 : Below W3.heap.size W3 (W3.alloc (Obj.cells #[.slice bp bn bc, .int .i64 bm, .int .i64 bd, .slice bp2 bn2 bc2, .bool bb] 46)) := (Below.refl _ _).alloc (Nat.le_refl _) _
  have m4 := B5.made (W := W3) (.slice bp bn bc) (.int .i64 bm) (.int .i64 bd) (.slice bp2 bn2 bc2) (.bool bb) 46
  obtain ⟨W4, hW4⟩ : ∃ W4, W4 = W3.alloc (Obj.cells #[.slice bp bn bc, .int .i64 bm, .int .i64 bd, .slice bp2 bn2 bc2, .bool bb] 46) := ⟨_, rfl⟩
  rw [← hW4, z3] at m4
  rw [← hW4] at s4
  have hs := s3.trans (s4.mono s3.size)
  have hL2 : LR w X (X + 1) q0 (.agg #[.slice ap an ac, .int .i64 am, .int .i64 ad, .slice ap2 an2 ac2, .bool ab]) (.agg #[.slice bp bn bc, .int .i64 bm, .int .i64 bd, .slice bp2 bn2 bc2, .bool bb]) W4 := ⟨hbw.trans (hs.mono hbw.size), by rw [hX]; exact hbw.size, by rw [hX]; have := hbw.size; omega, by omega, q0_wf, (ha.below hb2).below hs, hb.below hs⟩
  have HL4 := Lib.hid hL2
  have HA4 := Lib.hid (m3.step s4)
  have HB4 := Lib.hid m4
  clear ha hb hb1 hb2 hbw hL2 s3 s4 m3 m4 z3 hs
  go_upto_region 4 with fail
  rw [← hW3, ← hW4, ← hX]
  clear hW3 hW4 hX
  obtain ⟨a0, a1, a2, a3, a4⟩ := HA4.out.cells
  obtain ⟨b0, b1, b2, b3, b4⟩ := HB4.out.cells
  go_wp2_with fail
  refine (alike_st HL4.out.wf HL4.out.st HL4.out.str).mono ?_
  rintro e W5 ⟨rfl, hb5⟩
  have HL5 := Lib.hid (HL4.out.step hb5)
  have HA5 := Lib.hid (HA4.out.step hb5)
  have HB5 := Lib.hid (HB4.out.step hb5)
  clear hb5 a0 a1 a2 a3 a4 b0 b1 b2 b3 b4
  go_upto_region 6 with fail
  generalize hY : X + 1 = Y at *
  clear hY t1 t1'
  go_loopw [21] (fun s21 wr => ∃ i : Nat, i ≤ N ∧ s21 = .int .i64 i ∧ ∃ q a b, q.m ≤ i ∧ LR w X Y q a b wr ∧ (∃ a0 a1 a2 a3 a4, a = .agg #[a0, a1, a2, a3, a4] ∧ B5 wr X 28 a0 a1 a2 a3 a4) ∧ (∃ b0 b1 b2 b3 b4, b = .agg #[b0, b1, b2, b3, b4] ∧ B5 wr Y 46 b0 b1 b2 b3 b4)) (fun s21 _ => N - (intOf s21).toNat)
  case atStart => exact ⟨0, by omega, rfl, q0, _, _, by decide, HL5.out, ⟨_, _, _, _, _, rfl, HA5.out⟩, ⟨_, _, _, _, _, rfl, HB5.out⟩⟩
  case round =>
    clear HL5 HA5 HB5 HL4 HA4 HB4
    obtain ⟨i, hi, rfl, q, a, b, hqi, hl, ⟨a0, a1, a2, a3, a4, rfl, hA⟩, ⟨b0, b1, b2, b3, b4, rfl, hB⟩⟩ := hrel
    obtain ⟨gp, gn, gc, gm, gd, gp2, gn2, gc2, gb, ea⟩ := hl.st.shape
    obtain ⟨rfl, rfl, rfl, rfl, rfl⟩ : a0 = .slice gp gn gc ∧ a1 = .int .i64 gm ∧ a2 = .int .i64 gd ∧ a3 = .slice gp2 gn2 gc2 ∧ a4 = .bool gb := by simpa using ea
    obtain ⟨hp, hn, hc, hm, hd, hp2, hn2, hc2, hb, eb⟩ := hl.str.shape
    obtain ⟨rfl, rfl, rfl, rfl, rfl⟩ : b0 = .slice hp hn hc ∧ b1 = .int .i64 hm ∧ b2 = .int .i64 hd ∧ b3 = .slice hp2 hn2 hc2 ∧ b4 = .bool hb := by simpa using eb
    clear ea eb
    have HL := Lib.hid hl
    have HA := Lib.hid hA
    have HB := Lib.hid hB
    have HQI := Lib.hid hqi
    clear hl hA hB hqi
    by_cases hlt : i < N
    · have tl : decide ((i : Int) < (N : Int)) = true := decide_eq_true (by omega)
      have tl' : (i : Int) < (N : Int) := by omega
      obtain ⟨⟨x0, x1, x2⟩, hx⟩ : ∃ x, l[i]? = some x := ⟨l[i]'(by rw [HN.out]; exact hlt), by simp⟩
      obtain ⟨⟨g1, g2⟩, ⟨g3, g4⟩, ⟨g5, g6⟩⟩ := HLB.out _ (List.mem_of_getElem? hx)
      obtain ⟨gv, ov, rfl, hgv, hcv⟩ : ∃ g off, pv = some ⟨g, off, none⟩ ∧ g < w.heap.size ∧ ∀ (k : Nat) (x : Int × Int × Int), l[k]? = some x → w.cell? ⟨g, off + k * 3, none⟩ = some (.int .i8 x.1) ∧ w.cell? ⟨g, off + k * 3 + 1, none⟩ = some (.int .i8 x.2.1) ∧ w.cell? ⟨g, off + k * 3 + 2, none⟩ = some (.int .i8 x.2.2) := by
        rcases HV.out with h | h
        · rw [h] at hx; simp at hx
        · exact h
      obtain ⟨y0, y1, y2⟩ := hcv i _ hx
      simp only at y0 y1 y2 g1 g2 g3 g4 g5 g6
      have c0 : wr.cell? ⟨gv, ov + i * 3, none⟩ = some (.int .i8 x0) := (HL.out.below.cell (p := ⟨gv, ov + i * 3, none⟩) hgv).trans y0
      have c1 : wr.cell? ⟨gv, ov + i * 3 + 1, none⟩ = some (.int .i8 x1) := (HL.out.below.cell (p := ⟨gv, ov + i * 3 + 1, none⟩) hgv).trans y1
      have c2 : wr.cell? ⟨gv, ov + i * 3 + 2, none⟩ = some (.int .i8 x2) := (HL.out.below.cell (p := ⟨gv, ov + i * 3 + 2, none⟩) hgv).trans y2
      have HX0 : Hid (-128 ≤ x0 ∧ x0 ≤ 127) := ⟨g1, g2⟩
      have HX1 : Hid (-128 ≤ x1 ∧ x1 ≤ 127) := ⟨g3, g4⟩
      have HX2 : Hid (-128 ≤ x2 ∧ x2 ≤ 127) := ⟨g5, g6⟩
      clear g1 g2 g3 g4 g5 g6 hx hcv y0 y1 y2
      obtain ⟨Z, hZ⟩ : ∃ Z, Z = wr.heap.size := ⟨_, rfl⟩
      obtain ⟨W6, hW6⟩ : ∃ W6, W6 = wr.alloc (Obj.cells #[.int .i8 x0, .int .i8 x1, .int .i8 x2] 51) := ⟨_, rfl⟩
      have hz : W6.heap[Z]? = some (.cells #[.int .i8 x0, .int .i8 x1, .int .i8 x2] 51 (0, 0)) := by rw [hW6, hZ]; exact (MapKept.heap_alloc _ _).1
      have s6 : Below wr.heap.size wr W6 := by rw [hW6]; exact (Below.refl _ _).alloc (Nat.le_refl _) _
      have HL6 := Lib.hid (HL.out.step s6)
      have HA6 := Lib.hid (HA.out.step s6)
      have HB6 := Lib.hid (HB.out.step s6)
      have HZ6 := Lib.hid hz
      clear hz s6
      go_upto_region 8 with fail
      rw [← hW6, ← hZ]
      clear hW6 hZ c0 c1 c2 tl tl'
      obtain ⟨a0, a1, a2, a3, a4⟩ := HA6.out.cells
      obtain ⟨b0, b1, b2, b3, b4⟩ := HB6.out.cells
      clear a0 a1 a2 a3 a4 b0 b1 b2 b3 b4
      go_region_held3 (fun W => W.cell? ⟨X, 0, none⟩ = some (.slice gp gn gc) ∧ W.cell? ⟨X, 1, none⟩ = some (.int .i64 gm) ∧ W.cell? ⟨X, 2, none⟩ = some (.int .i64 gd) ∧ W.cell? ⟨X, 3, none⟩ = some (.slice gp2 gn2 gc2) ∧ W.cell? ⟨X, 4, none⟩ = some (.bool gb) ∧ W.cell? ⟨Y, 0, none⟩ = some (.slice hp hn hc) ∧ W.cell? ⟨Y, 1, none⟩ = some (.int .i64 hm) ∧ W.cell? ⟨Y, 2, none⟩ = some (.int .i64 hd) ∧ W.cell? ⟨Y, 3, none⟩ = some (.slice hp2 hn2 hc2) ∧ W.cell? ⟨Y, 4, none⟩ = some (.bool hb))
        (first | (focus (refine keepAB HA6.out HB6.out ?_; (repeat' (first | with_reducible exact Below.refl _ _ | with_reducible refine Below.drew ?_ | with_reducible refine Below.alloc ?_ ?_ _ | with_reducible refine Below.setCell ?_ ?_ _)); all_goals (simp <;> omega))) | (trace_state; fail))
        (fail)
      · obtain ⟨P, hP⟩ : ∃ P, P = W6.heap.size := ⟨_, rfl⟩
        obtain ⟨R, hR⟩ : ∃ R, R = W6.heap.size + 1 := ⟨_, rfl⟩
        obtain ⟨W7, hW7⟩ : ∃ W7, W7 = ((W6.alloc (Obj.cells #[.slice gp gn gc, .int .i64 gm, .int .i64 gd, .slice gp2 gn2 gc2, .bool gb] 28)).alloc (Obj.cells #[.slice hp hn hc, .int .i64 hm, .int .i64 hd, .slice hp2 hn2 hc2, .bool hb] 46)).drew := ⟨_, rfl⟩
        have HS7 : Hid (Below W6.heap.size W6 W7 ∧ B5 W7 P 28 (.slice gp gn gc) (.int .i64 gm) (.int .i64 gd) (.slice gp2 gn2 gc2) (.bool gb) ∧ B5 W7 R 46 (.slice hp hn hc) (.int .i64 hm) (.int .i64 hd) (.slice hp2 hn2 hc2) (.bool hb) ∧ W6.heap.size ≤ P ∧ W6.heap.size ≤ R ∧ P ≠ R) := by
          rw [hW7, hP, hR]
          have t1 : Below W6.heap.size W6 (W6.alloc (Obj.cells #[.slice gp gn gc, .int .i64 gm, .int .i64 gd, .slice gp2 gn2 gc2, .bool gb] 28)) := (Below.refl _ _).alloc (Nat.le_refl _) _
          have n1 := B5.made (W := W6) (.slice gp gn gc) (.int .i64 gm) (.int .i64 gd) (.slice gp2 gn2 gc2) (.bool gb) 28
          have e1 : (W6.alloc (Obj.cells #[.slice gp gn gc, .int .i64 gm, .int .i64 gd, .slice gp2 gn2 gc2, .bool gb] 28)).heap.size = W6.heap.size + 1 := by simp
          generalize W6.alloc (Obj.cells #[.slice gp gn gc, .int .i64 gm, .int .i64 gd, .slice gp2 gn2 gc2, .bool gb] 28) = V at *
          have t2 : Below V.heap.size V (V.alloc (Obj.cells #[.slice hp hn hc, .int .i64 hm, .int .i64 hd, .slice hp2 hn2 hc2, .bool hb] 46)).drew := ((Below.refl _ _).alloc (Nat.le_refl _) _).drew
          have n2 : B5 (V.alloc (Obj.cells #[.slice hp hn hc, .int .i64 hm, .int .i64 hd, .slice hp2 hn2 hc2, .bool hb] 46)).drew V.heap.size 46 (.slice hp hn hc) (.int .i64 hm) (.int .i64 hd) (.slice hp2 hn2 hc2) (.bool hb) := B5.made (W := V) (.slice hp hn hc) (.int .i64 hm) (.int .i64 hd) (.slice hp2 hn2 hc2) (.bool hb) 46
          rw [e1] at n2
          exact ⟨t1.trans (t2.mono t1.size), n1.step t2, n2, by omega, by omega, by omega⟩
        have HXL : Hid (X < W6.heap.size) := blk_lt HA6.out
        have HYL : Hid (Y < W6.heap.size) := blk_lt HB6.out
        have HL7 := Lib.hid (HL6.out.step HS7.out.1)
        have HA7 := Lib.hid (HA6.out.step HS7.out.1)
        have HB7 := Lib.hid (HB6.out.step HS7.out.1)
        have HZ7 : Hid (W7.heap[Z]? = some (.cells #[.int .i8 x0, .int .i8 x1, .int .i8 x2] 51 (0, 0))) := (HS7.out.1.block _ (blk_lt HZ6.out)).trans HZ6.out
        rw [← hW7, ← hR, ← hP]
        clear hW7 hP hR
        obtain ⟨a0, a1, a2, a3, a4⟩ := HA7.out.cells
        obtain ⟨b0, b1, b2, b3, b4⟩ := HB7.out.cells
        have z0 : W7.cell? ⟨Z, 0, none⟩ = some (.int .i8 x0) := cell_blk HZ7.out 0
        have z1 : W7.cell? ⟨Z, 1, none⟩ = some (.int .i8 x1) := cell_blk HZ7.out 1
        have z2 : W7.cell? ⟨Z, 2, none⟩ = some (.int .i8 x2) := cell_blk HZ7.out 2
        go_wp2_with fail
        refine (step_any HL7.out.wf (by have := HGN.out; have := HQI.out; omega) HL7.out.st HL7.out.str HX0.out.1 HX0.out.2 HX1.out.1 HX1.out.2 HX2.out.1 HX2.out.2).mono ?_
        rintro en W8 ⟨xa, xb, q', rfl, hwf', hqm', hst', hstr', hb8⟩
        obtain ⟨up, un, uc, um, ud, up2, un2, uc2, ub, rfl⟩ := hst'.shape
        obtain ⟨vp, vn, vc, vm, vd, vp2, vn2, vc2, vb, rfl⟩ := hstr'.shape
        have HL8 := Lib.hid (HL7.out.step hb8)
        have HA8 := Lib.hid (HA7.out.step hb8)
        have HB8 := Lib.hid (HB7.out.step hb8)
        have HP8 := Lib.hid (HS7.out.2.1.step hb8)
        have HR8 := Lib.hid (HS7.out.2.2.1.step hb8)
        have HST8 := Lib.hid hst'
        have HSR8 := Lib.hid hstr'
        have HWF8 := Lib.hid hwf'
        have HQM8 := Lib.hid hqm'
        clear hst' hstr' hwf' hqm' hb8 a0 a1 a2 a3 a4 b0 b1 b2 b3 b4 z0 z1 z2
        obtain ⟨a0, a1, a2, a3, a4⟩ := HA8.out.cells
        obtain ⟨b0, b1, b2, b3, b4⟩ := HB8.out.cells
        obtain ⟨f0, f1, f2, f3, f4⟩ := HA8.out.frz
        obtain ⟨g0, g1, g2, g3, g4⟩ := HB8.out.frz
        have hne : ¬ X = Y := HL8.out.ne
        have hne' : ¬ Y = X := fun e => HL8.out.ne e.symm
        go_upto_region 10 with fail
        clear hne hne'
        obtain ⟨W9, hW9⟩ : ∃ W9, W9 = (((((W8.setCell ⟨X, 0, none⟩ (.slice up un uc)).setCell ⟨X, 1, none⟩ (.int .i64 um)).setCell ⟨X, 2, none⟩ (.int .i64 ud)).setCell ⟨X, 3, none⟩ (.slice up2 un2 uc2)).setCell ⟨X, 4, none⟩ (.bool ub)) := ⟨_, rfl⟩
        rw [← hW9]
        obtain ⟨WA, hWA⟩ : ∃ WA, WA = (((((W9.setCell ⟨Y, 0, none⟩ (.slice vp vn vc)).setCell ⟨Y, 1, none⟩ (.int .i64 vm)).setCell ⟨Y, 2, none⟩ (.int .i64 vd)).setCell ⟨Y, 3, none⟩ (.slice vp2 vn2 vc2)).setCell ⟨Y, 4, none⟩ (.bool vb)) := ⟨_, rfl⟩
        rw [← hWA]
        obtain ⟨p1, p2, p3⟩ := B5.put HA8.out hW9
        have hyy := p3 _ _ _ _ _ _ _ HL8.out.ne.symm HB8.out
        obtain ⟨r1, r2, r3⟩ := B5.put hyy hWA
        have kp9 := Keeps.put (.inl rfl) HA8.out hW9
        have kpA := Keeps.put (.inr rfl) hyy hWA
        have HBA := Lib.hid (r2 w.heap.size w HL8.out.lowY (p2 w.heap.size w HL8.out.low HL8.out.below))
        have HLA : Hid (LR w X Y q' (.agg #[.slice up un uc, .int .i64 um, .int .i64 ud, .slice up2 un2 uc2, .bool ub]) (.agg #[.slice vp vn vc, .int .i64 vm, .int .i64 vd, .slice vp2 vn2 vc2, .bool vb]) WA) := ⟨HBA.out, HL8.out.low, HL8.out.lowY, HL8.out.ne, HWF8.out, kpA.st (kp9.st HST8.out), kpA.str (kp9.str HSR8.out)⟩
        have HOS := Lib.hid (kpA.st (kp9.st HL8.out.st))
        have HOR := Lib.hid (kpA.str (kp9.str HL8.out.str))
        have HPA := Lib.hid (r3 _ _ _ _ _ _ _ (by have := HYL.out; have := HS7.out.2.2.2.1; omega) (p3 _ _ _ _ _ _ _ (by have := HXL.out; have := HS7.out.2.2.2.1; omega) HP8.out))
        have HRA := Lib.hid (r3 _ _ _ _ _ _ _ (by have := HYL.out; have := HS7.out.2.2.2.2.1; omega) (p3 _ _ _ _ _ _ _ (by have := HXL.out; have := HS7.out.2.2.2.2.1; omega) HR8.out))
        have HAA := Lib.hid (r3 _ _ _ _ _ _ _ HL8.out.ne p1)
        have HBB := Lib.hid r1
        clear a0 a1 a2 a3 a4 b0 b1 b2 b3 b4 f0 f1 f2 f3 f4 g0 g1 g2 g3 g4 p1 p2 p3 r1 r2 r3 kp9 kpA hyy hW9 hWA
        obtain ⟨a0, a1, a2, a3, a4⟩ := HPA.out.cells
        obtain ⟨b0, b1, b2, b3, b4⟩ := HRA.out.cells
        go_wp2_with fail
        refine (alike_st HL8.out.wf HOS.out HOR.out).mono ?_
        rintro e WB ⟨rfl, hbB⟩
        have HLB9 := Lib.hid (HLA.out.step hbB)
        have HAB := Lib.hid (HAA.out.step hbB)
        have HBBB := Lib.hid (HBB.out.step hbB)
        clear hbB a0 a1 a2 a3 a4 b0 b1 b2 b3 b4
        go_wp2_with fail
        have ei : wrap64 ((i : Int) + 1) = (i : Int) + 1 := by have := HGN.out; unfold wrap64; omega
        try rw [ei]
        go_roundw
        case rel => exact ⟨i + 1, by omega, by go_num, q', _, _, by have := HQM8.out; have := HQI.out; omega, HLB9.out, ⟨_, _, _, _, _, rfl, HAB.out⟩, ⟨_, _, _, _, _, rfl, HBBB.out⟩⟩
        case measure => simp [intOf]; omega
      · obtain ⟨P, hP⟩ : ∃ P, P = W6.heap.size + 1 := ⟨_, rfl⟩
        obtain ⟨R, hR⟩ : ∃ R, R = W6.heap.size := ⟨_, rfl⟩
        obtain ⟨W7, hW7⟩ : ∃ W7, W7 = ((W6.alloc (Obj.cells #[.slice hp hn hc, .int .i64 hm, .int .i64 hd, .slice hp2 hn2 hc2, .bool hb] 46)).alloc (Obj.cells #[.slice gp gn gc, .int .i64 gm, .int .i64 gd, .slice gp2 gn2 gc2, .bool gb] 28)).drew := ⟨_, rfl⟩
        have HS7 : Hid (Below W6.heap.size W6 W7 ∧ B5 W7 P 28 (.slice gp gn gc) (.int .i64 gm) (.int .i64 gd) (.slice gp2 gn2 gc2) (.bool gb) ∧ B5 W7 R 46 (.slice hp hn hc) (.int .i64 hm) (.int .i64 hd) (.slice hp2 hn2 hc2) (.bool hb) ∧ W6.heap.size ≤ P ∧ W6.heap.size ≤ R ∧ P ≠ R) := by
          rw [hW7, hP, hR]
          have t1 : Below W6.heap.size W6 (W6.alloc (Obj.cells #[.slice hp hn hc, .int .i64 hm, .int .i64 hd, .slice hp2 hn2 hc2, .bool hb] 46)) := (Below.refl _ _).alloc (Nat.le_refl _) _
          have n1 := B5.made (W := W6) (.slice hp hn hc) (.int .i64 hm) (.int .i64 hd) (.slice hp2 hn2 hc2) (.bool hb) 46
          have e1 : (W6.alloc (Obj.cells #[.slice hp hn hc, .int .i64 hm, .int .i64 hd, .slice hp2 hn2 hc2, .bool hb] 46)).heap.size = W6.heap.size + 1 := by simp
          generalize W6.alloc (Obj.cells #[.slice hp hn hc, .int .i64 hm, .int .i64 hd, .slice hp2 hn2 hc2, .bool hb] 46) = V at *
          have t2 : Below V.heap.size V (V.alloc (Obj.cells #[.slice gp gn gc, .int .i64 gm, .int .i64 gd, .slice gp2 gn2 gc2, .bool gb] 28)).drew := ((Below.refl _ _).alloc (Nat.le_refl _) _).drew
          have n2 : B5 (V.alloc (Obj.cells #[.slice gp gn gc, .int .i64 gm, .int .i64 gd, .slice gp2 gn2 gc2, .bool gb] 28)).drew V.heap.size 28 (.slice gp gn gc) (.int .i64 gm) (.int .i64 gd) (.slice gp2 gn2 gc2) (.bool gb) := B5.made (W := V) (.slice gp gn gc) (.int .i64 gm) (.int .i64 gd) (.slice gp2 gn2 gc2) (.bool gb) 28
          rw [e1] at n2
          exact ⟨t1.trans (t2.mono t1.size), n2, n1.step t2, by omega, by omega, by omega⟩
        have HXL : Hid (X < W6.heap.size) := blk_lt HA6.out
        have HYL : Hid (Y < W6.heap.size) := blk_lt HB6.out
        have HL7 := Lib.hid (HL6.out.step HS7.out.1)
        have HA7 := Lib.hid (HA6.out.step HS7.out.1)
        have HB7 := Lib.hid (HB6.out.step HS7.out.1)
        have HZ7 : Hid (W7.heap[Z]? = some (.cells #[.int .i8 x0, .int .i8 x1, .int .i8 x2] 51 (0, 0))) := (HS7.out.1.block _ (blk_lt HZ6.out)).trans HZ6.out
        rw [← hW7, ← hP, ← hR]
        clear hW7 hP hR
        obtain ⟨a0, a1, a2, a3, a4⟩ := HA7.out.cells
        obtain ⟨b0, b1, b2, b3, b4⟩ := HB7.out.cells
        have z0 : W7.cell? ⟨Z, 0, none⟩ = some (.int .i8 x0) := cell_blk HZ7.out 0
        have z1 : W7.cell? ⟨Z, 1, none⟩ = some (.int .i8 x1) := cell_blk HZ7.out 1
        have z2 : W7.cell? ⟨Z, 2, none⟩ = some (.int .i8 x2) := cell_blk HZ7.out 2
        go_wp2_with fail
        refine (step_any HL7.out.wf (by have := HGN.out; have := HQI.out; omega) HL7.out.st HL7.out.str HX0.out.1 HX0.out.2 HX1.out.1 HX1.out.2 HX2.out.1 HX2.out.2).mono ?_
        rintro en W8 ⟨xa, xb, q', rfl, hwf', hqm', hst', hstr', hb8⟩
        obtain ⟨up, un, uc, um, ud, up2, un2, uc2, ub, rfl⟩ := hst'.shape
        obtain ⟨vp, vn, vc, vm, vd, vp2, vn2, vc2, vb, rfl⟩ := hstr'.shape
        have HL8 := Lib.hid (HL7.out.step hb8)
        have HA8 := Lib.hid (HA7.out.step hb8)
        have HB8 := Lib.hid (HB7.out.step hb8)
        have HP8 := Lib.hid (HS7.out.2.1.step hb8)
        have HR8 := Lib.hid (HS7.out.2.2.1.step hb8)
        have HST8 := Lib.hid hst'
        have HSR8 := Lib.hid hstr'
        have HWF8 := Lib.hid hwf'
        have HQM8 := Lib.hid hqm'
        clear hst' hstr' hwf' hqm' hb8 a0 a1 a2 a3 a4 b0 b1 b2 b3 b4 z0 z1 z2
        obtain ⟨a0, a1, a2, a3, a4⟩ := HA8.out.cells
        obtain ⟨b0, b1, b2, b3, b4⟩ := HB8.out.cells
        obtain ⟨f0, f1, f2, f3, f4⟩ := HA8.out.frz
        obtain ⟨g0, g1, g2, g3, g4⟩ := HB8.out.frz
        have hne : ¬ X = Y := HL8.out.ne
        have hne' : ¬ Y = X := fun e => HL8.out.ne e.symm
        go_upto_region 10 with fail
        clear hne hne'
        obtain ⟨W9, hW9⟩ : ∃ W9, W9 = (((((W8.setCell ⟨X, 0, none⟩ (.slice up un uc)).setCell ⟨X, 1, none⟩ (.int .i64 um)).setCell ⟨X, 2, none⟩ (.int .i64 ud)).setCell ⟨X, 3, none⟩ (.slice up2 un2 uc2)).setCell ⟨X, 4, none⟩ (.bool ub)) := ⟨_, rfl⟩
        rw [← hW9]
        obtain ⟨WA, hWA⟩ : ∃ WA, WA = (((((W9.setCell ⟨Y, 0, none⟩ (.slice vp vn vc)).setCell ⟨Y, 1, none⟩ (.int .i64 vm)).setCell ⟨Y, 2, none⟩ (.int .i64 vd)).setCell ⟨Y, 3, none⟩ (.slice vp2 vn2 vc2)).setCell ⟨Y, 4, none⟩ (.bool vb)) := ⟨_, rfl⟩
        rw [← hWA]
        obtain ⟨p1, p2, p3⟩ := B5.put HA8.out hW9
        have hyy := p3 _ _ _ _ _ _ _ HL8.out.ne.symm HB8.out
        obtain ⟨r1, r2, r3⟩ := B5.put hyy hWA
        have kp9 := Keeps.put (.inl rfl) HA8.out hW9
        have kpA := Keeps.put (.inr rfl) hyy hWA
        have HBA := Lib.hid (r2 w.heap.size w HL8.out.lowY (p2 w.heap.size w HL8.out.low HL8.out.below))
        have HLA : Hid (LR w X Y q' (.agg #[.slice up un uc, .int .i64 um, .int .i64 ud, .slice up2 un2 uc2, .bool ub]) (.agg #[.slice vp vn vc, .int .i64 vm, .int .i64 vd, .slice vp2 vn2 vc2, .bool vb]) WA) := ⟨HBA.out, HL8.out.low, HL8.out.lowY, HL8.out.ne, HWF8.out, kpA.st (kp9.st HST8.out), kpA.str (kp9.str HSR8.out)⟩
        have HOS := Lib.hid (kpA.st (kp9.st HL8.out.st))
        have HOR := Lib.hid (kpA.str (kp9.str HL8.out.str))
        have HPA := Lib.hid (r3 _ _ _ _ _ _ _ (by have := HYL.out; have := HS7.out.2.2.2.1; omega) (p3 _ _ _ _ _ _ _ (by have := HXL.out; have := HS7.out.2.2.2.1; omega) HP8.out))
        have HRA := Lib.hid (r3 _ _ _ _ _ _ _ (by have := HYL.out; have := HS7.out.2.2.2.2.1; omega) (p3 _ _ _ _ _ _ _ (by have := HXL.out; have := HS7.out.2.2.2.2.1; omega) HR8.out))
        have HAA := Lib.hid (r3 _ _ _ _ _ _ _ HL8.out.ne p1)
        have HBB := Lib.hid r1
        clear a0 a1 a2 a3 a4 b0 b1 b2 b3 b4 f0 f1 f2 f3 f4 g0 g1 g2 g3 g4 p1 p2 p3 r1 r2 r3 kp9 kpA hyy hW9 hWA
        obtain ⟨a0, a1, a2, a3, a4⟩ := HPA.out.cells
        obtain ⟨b0, b1, b2, b3, b4⟩ := HRA.out.cells
        go_wp2_with fail
        refine (alike_st HL8.out.wf HOS.out HOR.out).mono ?_
        rintro e WB ⟨rfl, hbB⟩
        have HLB9 := Lib.hid (HLA.out.step hbB)
        have HAB := Lib.hid (HAA.out.step hbB)
        have HBBB := Lib.hid (HBB.out.step hbB)
        clear hbB a0 a1 a2 a3 a4 b0 b1 b2 b3 b4
        go_wp2_with fail
        have ei : wrap64 ((i : Int) + 1) = (i : Int) + 1 := by have := HGN.out; unfold wrap64; omega
        try rw [ei]
        go_roundw
        case rel => exact ⟨i + 1, by omega, by go_num, q', _, _, by have := HQM8.out; have := HQI.out; omega, HLB9.out, ⟨_, _, _, _, _, rfl, HAB.out⟩, ⟨_, _, _, _, _, rfl, HBBB.out⟩⟩
        case measure => simp [intOf]; omega
    · obtain rfl : i = N := by omega
      have tl : decide ((i : Int) < (i : Int)) = false := decide_eq_false (by omega)
      obtain ⟨a0, a1, a2, a3, a4⟩ := HA.out.cells
      have HCK : Hid (∀ W, Below wr.heap.size wr W → Calls Try.prog 18 #[.agg #[.slice gp gn gc, .int .i64 gm, .int .i64 gd, .slice gp2 gn2 gc2, .bool gb]] W fun e w' => e = .returned (.int .i64 0) ∧ Below W.heap.size W w') := fun W h => by
        obtain ⟨ns, ps, e, h1, h2⟩ := HL.out.st
        rw [e]
        exact check_at HL.out.wf ns ps W (h1.below h).1 (h2.below h).1
      go_wp2_with fail
      refine (HCK.out _ (Below.refl _ _)).mono ?_
      rintro en W8 ⟨rfl, hb8⟩
      have HL8 := Lib.hid (HL.out.step hb8)
      clear hb8 a0 a1 a2 a3 a4
      go_wp2_with fail
      refine (awake_at W8).mono ?_
      rintro e w' ⟨rfl, hb⟩
      have HB9 : Hid (Below w.heap.size w w') := HL8.out.below.trans (hb.mono HL8.out.below.size)
      clear hb
      go_wp2_with fail
      go_ret
      exact ⟨rfl, HB9.out⟩
end Go.Proofs.Ytgbafpjeapkklaa.Mb
namespace Go.Proofs.Ytgbafpjeapkklaa.Mb
open Go.RowKit Go.ChangeShapes
set_option linter.unusedVariables false
set_option linter.unusedSimpArgs false
theorem laidOut : laidOutB Try.prog = true := by kernel_rfl
end Go.Proofs.Ytgbafpjeapkklaa.Mb
namespace Go.Proofs.Ytgbafpjeapkklaa.Mb
open Go.RowKit Go.ChangeShapes
set_option linter.unusedVariables false
set_option linter.unusedSimpArgs false
theorem cells51 : Try.prog.cellsOf 51 = 3 := by kernel_rfl
theorem cells49 : Try.prog.cellsOf 49 = 1 := by kernel_rfl
set_option maxRecDepth 100000 in
theorem ops_of {H : Type} {enc : TypeId × Value → H} {W : World} {v : Value} {d : DataW H} {ps : List MemPlace} {r : Reach} {b0 : Nat} (hval : Value.okWide Try.prog W r b0 42 v) (h : DataW.Trod enc Try.prog W 0 (fun _ => true) true 42 v d ps) :
    ∃ l, OpsS W v l ∧ ∀ x ∈ l, (-128 ≤ x.1 ∧ x.1 ≤ 127) ∧ (-128 ≤ x.2.1 ∧ x.2.1 ≤ 127) ∧ (-128 ≤ x.2.2 ∧ x.2.2 ≤ 127) := by
  obtain ⟨a0, l0, c0, rfl⟩ := Go.WideShapes.okWide_slice Try.underlying42 hval
  obtain ⟨fuel, h⟩ := h
  rcases Go.Deep.open_slice Try.underlying42 h with ⟨hv, _⟩ | ⟨a, len, cap, m, n, D, Pl, hv, hb, hl, hm, hmm, _, hx⟩
  · obtain ⟨rfl, rfl, rfl⟩ : a0 = none ∧ l0 = 0 ∧ c0 = 0 := by simpa [Value.cells] using hv
    exact ⟨[], ⟨none, 0, rfl, .inl rfl⟩, by simp⟩
  · obtain ⟨rfl, rfl, rfl⟩ : a0 = some a ∧ l0 = len ∧ c0 = cap := by simpa [Value.cells] using hv
    have hlm : l0 ≤ m := by rw [hmm]; split <;> omega
    have each : ∀ i, i < l0 → ∃ x : Int × Int × Int, W.cell? (a.add (i * 3)) = some (.int .i8 x.1) ∧ W.cell? (a.add (i * 3 + 1)) = some (.int .i8 x.2.1) ∧ W.cell? (a.add (i * 3 + 2)) = some (.int .i8 x.2.2) ∧
        (-128 ≤ x.1 ∧ x.1 ≤ 127) ∧ (-128 ≤ x.2.1 ∧ x.2.1 ≤ 127) ∧ (-128 ≤ x.2.2 ∧ x.2.2 ≤ 127) := by
      intro i hi
      obtain ⟨cs', h1, h2⟩ := hx i (by omega)
      rw [cells51] at h1
      obtain ⟨_, hlen, hcell⟩ := World.cells?_some h1
      obtain ⟨xs, k, hk, hxy, _, hxl, hf⟩ := DataW.trod_struct Try.underlying51 h2
      match xs, hxl, cs', hlen with
      | [y0, y1, y2], _, [v0, v1, v2], _ =>
        have g0 := hf 0 _ rfl
        have g1 := hf 1 _ rfl
        have g2 := hf 2 _ rfl
        simp [cells49] at g0 g1 g2
        have e0 := hcell 0 (by omega)
        have e1 := hcell 1 (by omega)
        have e2 := hcell 2 (by omega)
        rw [Go.Deep.add_add] at e0 e1 e2
        obtain ⟨z0, q0, _, w0⟩ := DataW.trod_int Try.underlying49 g0
        obtain ⟨z1, q1, _, w1⟩ := DataW.trod_int Try.underlying49 g1
        obtain ⟨z2, q2, _, w2⟩ := DataW.trod_int Try.underlying49 g2
        simp at q0 q1 q2
        subst q0 q1 q2
        exact ⟨(z0, z1, z2), by simpa using e0, by simpa using e1, by simpa using e2, bounds_i8 w0, bounds_i8 w1, bounds_i8 w2⟩
    obtain ⟨q, hq⟩ := Go.Deep.choose_lt each
    refine ⟨(List.range l0).map q, ⟨some a, c0, by simp, ?_⟩, ?_⟩
    · by_cases h0 : l0 = 0
      · left; simp [h0]
      · right
        have hp := (hq 0 (by omega)).1
        obtain ⟨b, off, mm⟩ := a
        cases mm with
        | some x => exfalso; simp [World.cell?, Addr.add] at hp; split at hp <;> cases hp
        | none =>
          refine ⟨b, off, rfl, World.block_lt_of_cell? _ _ hp, fun k x hx => ?_⟩
          have hk := (List.getElem?_eq_some_iff.1 hx).1
          simp at hk
          simp [hk] at hx
          subst hx
          obtain ⟨g0, g1, g2, _⟩ := hq k hk
          rw [show (⟨b, off, none⟩ : Addr).add (k * 3) = ⟨b, off + k * 3, none⟩ from by simp [Addr.add]] at g0
          rw [show (⟨b, off, none⟩ : Addr).add (k * 3 + 1) = ⟨b, off + k * 3 + 1, none⟩ from by simp [Addr.add, Nat.add_assoc]] at g1
          rw [show (⟨b, off, none⟩ : Addr).add (k * 3 + 2) = ⟨b, off + k * 3 + 2, none⟩ from by simp [Addr.add, Nat.add_assoc]] at g2
          exact ⟨g0, g1, g2⟩
    · intro x hx
      obtain ⟨i, hi, rfl⟩ := List.mem_map.1 hx
      exact (hq i (List.mem_range.1 hi)).2.2.2
end Go.Proofs.Ytgbafpjeapkklaa.Mb
namespace Go.Proofs.Ytgbafpjeapkklaa.Mb
open Go.RowKit
theorem law_runs (v0 : Value) (xs0 : List (Int × Int × Int)) (w : World) (h0 : OpsS w v0 xs0) (b0 : ∀ x ∈ xs0, (-128 ≤ x.1 ∧ x.1 ≤ 127) ∧ (-128 ≤ x.2.1 ∧ x.2.1 ≤ 127) ∧ (-128 ≤ x.2.2 ∧ x.2.2 ≤ 127)) :
    Calls Try.prog 4 #[v0] w fun e w' => e = .returned (.bool true) ∧ Below w.heap.size w w' := runs_walk v0 xs0 w h0 b0
end Go.Proofs.Ytgbafpjeapkklaa.Mb
