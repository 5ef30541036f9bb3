/- Mailbox: Pop, New, Equal. -/
import Derived.Test.YtgbafpjeapkklaaMn
namespace Go.Proofs.Ytgbafpjeapkklaa.Mb
open Go.RowKit
set_option linter.unusedVariables false
set_option linter.unusedSimpArgs false

set_option maxRecDepth 100000 in
set_option maxHeartbeats 4000000 in
theorem PopYes_at {q : Q} (hq : WF q) {v : Value} (hc : q.can q.done = true) (w : World) (hv : St w v q) :
    Calls Try.prog 21 #[v] w fun e w' => ∃ v', e = .returned (.tuple #[v', .int .i64 (q.val q.done), .bool true, .int .i64 0]) ∧ St w' v' { q with done := (q.done + 1) } ∧ Below w.heap.size w w' := by
  obtain ⟨ns, ps, rfl, hn, hp⟩ := hv
  have hfew := hq.few
  have hfo := hq.fewo
  have hdm := hq.done
  have HCK : Hid (∀ W, Below w.heap.size w W → Calls Try.prog 18 #[.agg #[ns, .int .i64 q.m, .int .i64 q.done, ps, .bool q.empty]] W fun e w' => e = .returned (.int .i64 0) ∧ Below W.heap.size W w') := fun W h => check_at hq ns ps W (hn.below h).1 (hp.below h).1
  have HCL : Hid (∀ W, Below w.heap.size w W → Calls Try.prog 40 #[.agg #[ns, .int .i64 q.m, .int .i64 q.done, ps, .bool q.empty]] W fun e w' => ∃ ns' ps', e = .returned (.agg #[ns', .int .i64 q.m, .int .i64 q.done, ps', .bool q.empty]) ∧
      w'.ownsRow W.heap.size 99 3 ns' q.nodes.length (cellsT q.nodes) ∧ w'.ownsRow W.heap.size 102 3 ps' q.pushes.length (cellsT q.pushes) ∧ Below W.heap.size W w') :=
    fun W h => clone_at (hn.below h).1 (hp.below h).1 (by rw [nodes_len]; omega) (by rw [pushes_len]; omega) _ _ _
  have HB0 : Hid (CB w ns ps q.m q.done q.empty ((w.alloc (Obj.cells #[ns, .int .i64 q.m, .int .i64 q.done, ps, .bool q.empty] 28)).alloc (Obj.cells #[.slice none 0 0, .int .i64 0, .int .i64 0, .slice none 0 0, .bool false] 28))) := CB.mk w ns ps q.m q.done q.empty
  obtain ⟨pn, cn, hA⟩ := hn.slice
  obtain ⟨pp, cp, hB⟩ := hp.slice
  subst hA
  subst hB
  clear hn hp
  have HDM := Lib.hid hdm
  obtain ⟨D', hD'⟩ : ∃ D' : Nat, D' = q.done + 1 := ⟨_, rfl⟩
  have HSTF : Hid (∀ (W : World) (a b : Value) , TriT W 99 a q.nodes → TriT W 102 b q.pushes → St W (.agg #[a, .int .i64 q.m, .int .i64 D', b, .bool q.empty]) { q with done := D' }) := fun W a b h1 h2 => ⟨a, b, rfl, h1, h2⟩
  rw [← hD']
  have HD' := Lib.hid hD'
  have HCAN := Lib.hid hc
  obtain ⟨vv, hvv⟩ : ∃ vv, vv = q.val q.done := ⟨_, rfl⟩
  have HVV := Lib.hid hvv
  rw [← hvv]
  clear hc hdm hfew hfo hD' hvv
  generalize hM : q.m = M at *
  generalize hD : q.done = D at *
  have HM := Lib.hid hM
  clear hM hD
  go_enter Try.func21, Try.ntmps21
  go_upto_region 1 with fail
  generalize ((w.alloc (Obj.cells #[.slice pn q.nodes.length cn, .int .i64 M, .int .i64 D, .slice pp q.pushes.length cp, .bool q.empty] 28)).alloc (Obj.cells #[.slice none 0 0, .int .i64 0, .int .i64 0, .slice none 0 0, .bool false] 28)) = W0 at *
  obtain ⟨c0, c1, c2, c3, c4⟩ := HB0.out.facts
  go_wp2_with fail
  refine (HCK.out _ HB0.out.1).mono ?_
  rintro e W1 ⟨rfl, hb1⟩
  have HB1 := Lib.hid (HB0.out.step hb1)
  clear hb1 c0 c1 c2 c3 c4
  obtain ⟨c0, c1, c2, c3, c4⟩ := HB1.out.facts
  go_wp2_with fail
  refine (HCL.out _ HB1.out.1).mono ?_
  rintro e W2 ⟨ns', ps', rfl, r1, r2, hb2⟩
  obtain ⟨pn', cn', hA⟩ := own_slice r1
  obtain ⟨pp', cp', hB⟩ := own_slice r2
  subst hA
  subst hB
  have HB2 := Lib.hid (HB1.out.step hb2)
  obtain ⟨g, W3, hg, hW3, hC3⟩ := CO.made M D q.empty HB2.out HB1.out.size hb2.size r1 r2
  have HC3 : Hid (COq w (.slice pn q.nodes.length cn) (.slice pp q.pushes.length cp) M D q.empty g W1.heap.size (.slice pn' q.nodes.length cn') (.slice pp' q.pushes.length cp') q D W3) := by unfold COq; rw [HM.out]; exact hC3
  clear hb2 r1 r2 c0 c1 c2 c3 c4 hC3
  go_upto_region 5 with fail
  rw [← hg, ← hW3]
  clear hg hW3
  go_wp2_with fail
  refine (pop_yes' HC3.out (by rw [HM.out]; exact HDM.out) HCAN.out).mono ?_
  rintro e W4 ⟨rfl, hc4, _, _⟩
  have HC4 : Hid (COq w (.slice pn q.nodes.length cn) (.slice pp q.pushes.length cp) M D q.empty g W1.heap.size (.slice pn' q.nodes.length cn') (.slice pp' q.pushes.length cp') q D' W4) := by have := HD'.out; subst this; exact hc4
  clear hc4
  obtain ⟨y0, y1, y2, y3, y4, z0, z1, z2, z3, z4⟩ := HC4.out.facts
  rw [HM.out] at y1
  have f0 := (HC4.out.frozen 0).2
  have f1 := (HC4.out.frozen 1).2
  have f2 := (HC4.out.frozen 2).2
  have f3 := (HC4.out.frozen 3).2
  have f4 := (HC4.out.frozen 4).2
  rw [← HVV.out]
  go_wp2_with fail
  obtain ⟨W5, hW5⟩ : ∃ W5, W5 = (((((W4.setCell ⟨w.heap.size + 1, 0, none⟩ (.slice pn' q.nodes.length cn')).setCell ⟨w.heap.size + 1, 1, none⟩ (.int .i64 M)).setCell ⟨w.heap.size + 1, 2, none⟩ (.int .i64 D')).setCell ⟨w.heap.size + 1, 3, none⟩ (.slice pp' q.pushes.length cp')).setCell ⟨w.heap.size + 1, 4, none⟩ (.bool q.empty)) := ⟨_, rfl⟩
  rw [← hW5]
  have hW5' := hW5
  rw [← HM.out] at hW5'
  obtain ⟨k1, k2, k3, k4⟩ := HC4.out.out hW5'
  rw [HM.out] at k2
  have K1 := Lib.hid k1
  have K3 := Lib.hid k3
  have K4 := Lib.hid k4
  clear y0 y1 y2 y3 y4 z0 z1 z2 z3 z4 f0 f1 f2 f3 f4 k1 k3 k4 hW5 hW5'
  have c0 : W5.cell? ⟨w.heap.size + 1, 0, none⟩ = some (.slice pn' q.nodes.length cn') := cell_blk k2 0
  have c1 : W5.cell? ⟨w.heap.size + 1, 1, none⟩ = some (.int .i64 M) := cell_blk k2 1
  have c2 : W5.cell? ⟨w.heap.size + 1, 2, none⟩ = some (.int .i64 D') := cell_blk k2 2
  have c3 : W5.cell? ⟨w.heap.size + 1, 3, none⟩ = some (.slice pp' q.pushes.length cp') := cell_blk k2 3
  have c4 : W5.cell? ⟨w.heap.size + 1, 4, none⟩ = some (.bool q.empty) := cell_blk k2 4
  refine bodyPost_ret (v := .tuple #[.agg #[.slice pn' q.nodes.length cn', .int .i64 M, .int .i64 D', .slice pp' q.pushes.length cp', .bool q.empty], .int .i64 vv, .bool true, .int .i64 0]) (by simp [results, Try.results21, go_sem, c0, c1, c2, c3, c4]) rfl ⟨_, rfl, HSTF.out _ _ _ ?_ ?_, ?_⟩
  · exact K3.out
  · exact K4.out
  · exact K1.out

set_option maxRecDepth 100000 in
set_option maxHeartbeats 4000000 in
theorem PopNo_at {q : Q} (hq : WF q) {v : Value} (hc : q.can q.done = false) (w : World) (hv : St w v q) :
    Calls Try.prog 21 #[v] w fun e w' => ∃ v', e = .returned (.tuple #[v', .int .i64 0, .bool false, .int .i64 0]) ∧ St w' v' { q with done := q.done } ∧ Below w.heap.size w w' := by
  obtain ⟨ns, ps, rfl, hn, hp⟩ := hv
  have hfew := hq.few
  have hfo := hq.fewo
  have hdm := hq.done
  have HCK : Hid (∀ W, Below w.heap.size w W → Calls Try.prog 18 #[.agg #[ns, .int .i64 q.m, .int .i64 q.done, ps, .bool q.empty]] W fun e w' => e = .returned (.int .i64 0) ∧ Below W.heap.size W w') := fun W h => check_at hq ns ps W (hn.below h).1 (hp.below h).1
  have HCL : Hid (∀ W, Below w.heap.size w W → Calls Try.prog 40 #[.agg #[ns, .int .i64 q.m, .int .i64 q.done, ps, .bool q.empty]] W fun e w' => ∃ ns' ps', e = .returned (.agg #[ns', .int .i64 q.m, .int .i64 q.done, ps', .bool q.empty]) ∧
      w'.ownsRow W.heap.size 99 3 ns' q.nodes.length (cellsT q.nodes) ∧ w'.ownsRow W.heap.size 102 3 ps' q.pushes.length (cellsT q.pushes) ∧ Below W.heap.size W w') :=
    fun W h => clone_at (hn.below h).1 (hp.below h).1 (by rw [nodes_len]; omega) (by rw [pushes_len]; omega) _ _ _
  have HB0 : Hid (CB w ns ps q.m q.done q.empty ((w.alloc (Obj.cells #[ns, .int .i64 q.m, .int .i64 q.done, ps, .bool q.empty] 28)).alloc (Obj.cells #[.slice none 0 0, .int .i64 0, .int .i64 0, .slice none 0 0, .bool false] 28))) := CB.mk w ns ps q.m q.done q.empty
  obtain ⟨pn, cn, hA⟩ := hn.slice
  obtain ⟨pp, cp, hB⟩ := hp.slice
  subst hA
  subst hB
  clear hn hp
  have HDM := Lib.hid hdm
  
  have HSTF : Hid (∀ (W : World) (a b : Value) , TriT W 99 a q.nodes → TriT W 102 b q.pushes → St W (.agg #[a, .int .i64 q.m, .int .i64 q.done, b, .bool q.empty]) { q with done := q.done }) := fun W a b h1 h2 => ⟨a, b, rfl, h1, h2⟩
  
  have HCAN := Lib.hid hc
  obtain ⟨vv, hvv⟩ : ∃ vv, vv = q.val q.done := ⟨_, rfl⟩
  have HVV := Lib.hid hvv
  
  clear hc hdm hfew hfo  hvv
  generalize hM : q.m = M at *
  generalize hD : q.done = D at *
  have HM := Lib.hid hM
  clear hM hD
  go_enter Try.func21, Try.ntmps21
  go_upto_region 1 with fail
  generalize ((w.alloc (Obj.cells #[.slice pn q.nodes.length cn, .int .i64 M, .int .i64 D, .slice pp q.pushes.length cp, .bool q.empty] 28)).alloc (Obj.cells #[.slice none 0 0, .int .i64 0, .int .i64 0, .slice none 0 0, .bool false] 28)) = W0 at *
  obtain ⟨c0, c1, c2, c3, c4⟩ := HB0.out.facts
  go_wp2_with fail
  refine (HCK.out _ HB0.out.1).mono ?_
  rintro e W1 ⟨rfl, hb1⟩
  have HB1 := Lib.hid (HB0.out.step hb1)
  clear hb1 c0 c1 c2 c3 c4
  obtain ⟨c0, c1, c2, c3, c4⟩ := HB1.out.facts
  go_wp2_with fail
  refine (HCL.out _ HB1.out.1).mono ?_
  rintro e W2 ⟨ns', ps', rfl, r1, r2, hb2⟩
  obtain ⟨pn', cn', hA⟩ := own_slice r1
  obtain ⟨pp', cp', hB⟩ := own_slice r2
  subst hA
  subst hB
  have HB2 := Lib.hid (HB1.out.step hb2)
  obtain ⟨g, W3, hg, hW3, hC3⟩ := CO.made M D q.empty HB2.out HB1.out.size hb2.size r1 r2
  have HC3 : Hid (COq w (.slice pn q.nodes.length cn) (.slice pp q.pushes.length cp) M D q.empty g W1.heap.size (.slice pn' q.nodes.length cn') (.slice pp' q.pushes.length cp') q D W3) := by unfold COq; rw [HM.out]; exact hC3
  clear hb2 r1 r2 c0 c1 c2 c3 c4 hC3
  go_upto_region 5 with fail
  rw [← hg, ← hW3]
  clear hg hW3
  go_wp2_with fail
  refine (pop_no' HC3.out (by rw [HM.out]; exact HDM.out) HCAN.out).mono ?_
  rintro e W4 ⟨rfl, hc4, _⟩
  have HC4 : Hid (COq w (.slice pn q.nodes.length cn) (.slice pp q.pushes.length cp) M D q.empty g W1.heap.size (.slice pn' q.nodes.length cn') (.slice pp' q.pushes.length cp') q D W4) := by  exact hc4
  clear hc4
  obtain ⟨y0, y1, y2, y3, y4, z0, z1, z2, z3, z4⟩ := HC4.out.facts
  rw [HM.out] at y1
  have f0 := (HC4.out.frozen 0).2
  have f1 := (HC4.out.frozen 1).2
  have f2 := (HC4.out.frozen 2).2
  have f3 := (HC4.out.frozen 3).2
  have f4 := (HC4.out.frozen 4).2
  
  go_wp2_with fail
  obtain ⟨W5, hW5⟩ : ∃ W5, W5 = (((((W4.setCell ⟨w.heap.size + 1, 0, none⟩ (.slice pn' q.nodes.length cn')).setCell ⟨w.heap.size + 1, 1, none⟩ (.int .i64 M)).setCell ⟨w.heap.size + 1, 2, none⟩ (.int .i64 D)).setCell ⟨w.heap.size + 1, 3, none⟩ (.slice pp' q.pushes.length cp')).setCell ⟨w.heap.size + 1, 4, none⟩ (.bool q.empty)) := ⟨_, rfl⟩
  rw [← hW5]
  have hW5' := hW5
  rw [← HM.out] at hW5'
  obtain ⟨k1, k2, k3, k4⟩ := HC4.out.out hW5'
  rw [HM.out] at k2
  have K1 := Lib.hid k1
  have K3 := Lib.hid k3
  have K4 := Lib.hid k4
  clear y0 y1 y2 y3 y4 z0 z1 z2 z3 z4 f0 f1 f2 f3 f4 k1 k3 k4 hW5 hW5'
  have c0 : W5.cell? ⟨w.heap.size + 1, 0, none⟩ = some (.slice pn' q.nodes.length cn') := cell_blk k2 0
  have c1 : W5.cell? ⟨w.heap.size + 1, 1, none⟩ = some (.int .i64 M) := cell_blk k2 1
  have c2 : W5.cell? ⟨w.heap.size + 1, 2, none⟩ = some (.int .i64 D) := cell_blk k2 2
  have c3 : W5.cell? ⟨w.heap.size + 1, 3, none⟩ = some (.slice pp' q.pushes.length cp') := cell_blk k2 3
  have c4 : W5.cell? ⟨w.heap.size + 1, 4, none⟩ = some (.bool q.empty) := cell_blk k2 4
  refine bodyPost_ret (v := .tuple #[.agg #[.slice pn' q.nodes.length cn', .int .i64 M, .int .i64 D, .slice pp' q.pushes.length cp', .bool q.empty], .int .i64 0, .bool false, .int .i64 0]) (by simp [results, Try.results21, go_sem, c0, c1, c2, c3, c4]) rfl ⟨_, rfl, HSTF.out _ _ _ ?_ ?_, ?_⟩
  · exact K3.out
  · exact K4.out
  · exact K1.out

theorem drewN_two (w : World) (a : Nat) : ∀ b, (w.drewN a).drewN b = w.drewN (a + b) := by
  intro b
  simp only [World.drewN, Nat.add_assoc]

/-- The queue that New makes. -/
def q0 : Q := { vals := [], opn := [], done := 0, empty := true }
theorem q0_wf : WF q0 where
  few := by decide
  fewo := by decide
  prod := by intro x hx; cases hx
  sorted := List.Pairwise.nil
  opn := by intro o ho; cases ho
  done := by decide
  linked := by intro j _ _; rfl
  mt := by intro _; rfl

set_option maxRecDepth 100000 in
set_option maxHeartbeats 1000000 in
theorem new_at (w : World) : Calls Try.prog 9 #[] w fun e w' => ∃ v, e = .returned v ∧ St w' v q0 ∧ Below w.heap.size w w' := by
  have h1 : Below w.heap.size w (w.alloc (Obj.cells #[.slice (some ⟨w.heap.size + 1, 0, none⟩) 1 1, .int .i64 0, .int .i64 0, .slice none 0 0, .bool true] 28)) := (Below.refl _ _).alloc (Nat.le_refl _) _
  have h2 := (Below.refl (w.alloc (Obj.cells #[.slice (some ⟨w.heap.size + 1, 0, none⟩) 1 1, .int .i64 0, .int .i64 0, .slice none 0 0, .bool true] 28)).heap.size (w.alloc (Obj.cells #[.slice (some ⟨w.heap.size + 1, 0, none⟩) 1 1, .int .i64 0, .int .i64 0, .slice none 0 0, .bool true] 28))).alloc (Nat.le_refl _) (Obj.cells #[.int .i64 0, .int .i64 (-1), .int .i64 (-1)] 99)
  have h3 := (MapKept.heap_alloc w (Obj.cells #[.slice (some ⟨w.heap.size + 1, 0, none⟩) 1 1, .int .i64 0, .int .i64 0, .slice none 0 0, .bool true] 28)).1
  have h4 := (MapKept.heap_alloc (w.alloc (Obj.cells #[.slice (some ⟨w.heap.size + 1, 0, none⟩) 1 1, .int .i64 0, .int .i64 0, .slice none 0 0, .bool true] 28)) (Obj.cells #[.int .i64 0, .int .i64 (-1), .int .i64 (-1)] 99)).1
  have hsz : (w.alloc (Obj.cells #[.slice (some ⟨w.heap.size + 1, 0, none⟩) 1 1, .int .i64 0, .int .i64 0, .slice none 0 0, .bool true] 28)).heap.size = w.heap.size + 1 := by simp
  have h5 := (h2.block _ (blk_lt h3)).trans h3
  have h6 := h1.trans (h2.mono h1.size)
  rw [hsz] at h4
  obtain ⟨W, hW⟩ : ∃ W, W = ((w.alloc (Obj.cells #[.slice (some ⟨w.heap.size + 1, 0, none⟩) 1 1, .int .i64 0, .int .i64 0, .slice none 0 0, .bool true] 28)).alloc (Obj.cells #[.int .i64 0, .int .i64 (-1), .int .i64 (-1)] 99)) := ⟨_, rfl⟩
  rw [← hW] at h4 h5 h6
  have H4 := Lib.hid h4
  have H6 := Lib.hid h6
  clear h1 h2 h3 hsz h4 h6
  go_enter Try.func9, Try.ntmps9
  go_wp2_with fail
  rw [← hW]
  clear hW
  have c0 : W.cell? ⟨w.heap.size, 0, none⟩ = some (.slice (some ⟨w.heap.size + 1, 0, none⟩) 1 1) := cell_blk h5 0
  have c1 : W.cell? ⟨w.heap.size, 1, none⟩ = some (.int .i64 0) := cell_blk h5 1
  have c2 : W.cell? ⟨w.heap.size, 2, none⟩ = some (.int .i64 0) := cell_blk h5 2
  have c3 : W.cell? ⟨w.heap.size, 3, none⟩ = some (.slice none 0 0) := cell_blk h5 3
  have c4 : W.cell? ⟨w.heap.size, 4, none⟩ = some (.bool true) := cell_blk h5 4
  refine bodyPost_ret (v := .agg #[.slice (some ⟨w.heap.size + 1, 0, none⟩) 1 1, .int .i64 0, .int .i64 0, .slice none 0 0, .bool true]) (by simp [results, Try.results9, go_sem, c0, c1, c2, c3, c4]) rfl ⟨_, rfl, ⟨_, _, rfl, ?_, ?_⟩, ?_⟩
  · refine ⟨⟨_, _, rfl, Nat.le_refl _, .inr ⟨_, _, rfl, blk_lt H4.out, fun k x hx => ?_⟩⟩, fun g hg => by simp [Value.ownBlock] at hg; subst hg; exact ⟨_, _, H4.out⟩⟩
    have e : q0.nodes = [(0, -1, -1)] := by decide
    rw [e] at hx
    cases k with
    | zero =>
      simp at hx; subst hx
      exact ⟨cell_blk H4.out 0, cell_blk H4.out 1, cell_blk H4.out 2⟩
    | succ k => simp at hx
  · exact ⟨⟨none, 0, rfl, Nat.le_refl _, .inl rfl⟩, fun g hg => by simp [Value.ownBlock] at hg⟩
  · exact H6.out

set_option maxRecDepth 100000 in
set_option maxHeartbeats 1000000 in
/-- slices.Equal of two rows that are equal. -/
theorem equal_at {w : World} {u v : Value} {n : Nat} {B B' : Nat} {l : List Int} (h1 : w.ownsRow B 3 1 u n (ints l)) (h2 : w.ownsRow B' 3 1 v n (ints l)) (hn : n ≤ 100000) :
    Calls Try.prog 14 #[u, v] w fun e w' => e = .returned (.bool true) ∧ Below w.heap.size w w' := by
  have hc1 := fun g hg => h1.cells (g := g) hg
  have hc2 := fun g hg => h2.cells (g := g) hg
  have hl : l.length = n := by have := h1.1; simpa [ints] using this
  rcases h1.2 with ⟨rfl, h0⟩ | ⟨g, cap, cur, rfl, _, hg, hcap, _⟩
  · subst h0
    obtain ⟨p2, c2, rfl⟩ := own1_slice h2
    go_enter Try.func14, Try.ntmps14
    go_wp2_with fail
    go_loop [13] (fun s => s = .int .i64 0) (fun _ => 0)
    case atStart => rfl
    case round =>
      obtain rfl := hrel
      go_wp2
      go_ret
      exact ⟨rfl, Below.refl _ _⟩
  · rcases h2.2 with ⟨rfl, h0⟩ | ⟨g', cap', cur', rfl, _, hg', hcap', _⟩
    · subst h0
      go_enter Try.func14, Try.ntmps14
      go_wp2_with fail
      go_loop [13] (fun s => s = .int .i64 0) (fun _ => 0)
      case atStart => rfl
      case round =>
        obtain rfl := hrel
        go_wp2
        go_ret
        exact ⟨rfl, Below.refl _ _⟩
    · have HC : Hid (∀ (k : Nat) (x : Int), l[k]? = some x → w.cell? ⟨g, k, none⟩ = some (.int .i64 x) ∧ w.cell? ⟨g', k, none⟩ = some (.int .i64 x)) := by
        intro k x hx
        have hi : (ints l)[k]? = some (.int .i64 x) := by simp [ints, hx]
        have a := hc1 g rfl k _ hi
        have b := hc2 g' rfl k _ hi
        rw [Addr.add_lit, Nat.zero_add] at a b
        exact ⟨a, b⟩
      have HN := Lib.hid hl
      clear h1 h2 hc1 hc2 hl hg hg' hcap hcap'
      go_enter Try.func14, Try.ntmps14
      go_wp2_with fail
      go_loopw [13] (fun s13 wr => ∃ k : Nat, k ≤ n ∧ s13 = .int .i64 k ∧ ∃ r, wr = w.drewN r) (fun s13 _ => n - (intOf s13).toNat)
      case atStart => exact ⟨0, by omega, rfl, 0, rfl⟩
      case round =>
        obtain ⟨k, hk, rfl, r, hr⟩ := hrel
        have HR := Lib.hid hr; clear hr
        by_cases hlt : k < n
        · obtain ⟨x, hx⟩ : ∃ x, l[k]? = some x := ⟨l[k]'(by rw [HN.out]; exact hlt), by simp⟩
          obtain ⟨a, b⟩ := HC.out k x hx
          have c1 : wr.cell? ⟨g, k, none⟩ = some (.int .i64 x) := by rw [HR.out]; exact a
          have c2 : wr.cell? ⟨g', k, none⟩ = some (.int .i64 x) := by rw [HR.out]; exact b
          clear a b hx
          go_wp2_with fail
          go_quiet (fail)
          go_wp2
          go_roundw
          case rel => exact ⟨k + 1, by omega, by go_num, r + nq, by rw [HR.out]; exact drewN_two w r nq⟩
          case measure => simp [intOf]; omega
        · obtain rfl : k = n := by omega
          go_wp2
          go_ret
          exact ⟨rfl, by rw [HR.out]; exact below_drewN (Below.refl _ _) r⟩
end Go.Proofs.Ytgbafpjeapkklaa.Mb
