/- Mailbox: Finish. -/
import Derived.Test.YtgbafpjeapkklaaMk
namespace Go.Proofs.Ytgbafpjeapkklaa.Mb
open Go.RowKit
set_option linter.unusedVariables false
set_option linter.unusedSimpArgs false

def Q.fin (q : Q) (i : Nat) : Q := { q with opn := q.opn.eraseIdx i }
theorem fin_isOpen {q : Q} (hq : WF q) {i : Nat} {o : Int × Nat} (ho : q.opn[i]? = some o) (k : Nat) : (q.fin i).isOpen k = (q.isOpen k && !(k == o.2)) := by
  have hm : ∀ x, x ∈ q.opn.eraseIdx i ↔ ∃ i', i' ≠ i ∧ q.opn[i']? = some x := fun x => List.mem_eraseIdx_iff_getElem?
  rw [Bool.eq_iff_iff]
  simp only [Q.isOpen, Q.fin, List.any_eq_true, Bool.and_eq_true, Bool.not_eq_true', beq_eq_false_iff_ne, beq_iff_eq, hm]
  constructor
  · rintro ⟨x, ⟨i', hne, hx⟩, rfl⟩
    refine ⟨⟨x, List.mem_of_getElem? hx, rfl⟩, fun e => hne (open_uniq hq hx ho e)⟩
  · rintro ⟨⟨x, hx, rfl⟩, hne⟩
    obtain ⟨i', hi', e⟩ := List.getElem_of_mem hx
    refine ⟨x, ⟨i', ?_, by rw [← e]; simp⟩, rfl⟩
    rintro rfl
    rw [List.getElem?_eq_getElem hi', e] at ho
    injection ho with ho
    exact hne (by rw [ho])
theorem fin_m (q : Q) (i : Nat) : (q.fin i).m = q.m := rfl
theorem fin_wf {q : Q} (hq : WF q) {i : Nat} {o : Int × Nat} (ho : q.opn[i]? = some o) : WF (q.fin i) where
  few := hq.few
  fewo := by
    have : (q.opn.eraseIdx i).length ≤ q.opn.length := List.length_eraseIdx_le ..
    exact Nat.le_trans this hq.fewo
  prod := hq.prod
  sorted := hq.sorted.sublist (List.eraseIdx_sublist ..)
  opn := fun o' ho' => hq.opn o' ((List.eraseIdx_sublist ..).subset ho')
  done := hq.done
  linked := fun j h1 h2 => by rw [fin_isOpen hq ho, hq.linked j h1 h2]; rfl
  mt := hq.mt
theorem map_erase {α β : Type} (f : α → β) (l : List α) : ∀ i, (l.eraseIdx i).map f = (l.map f).eraseIdx i := by
  induction l with
  | nil => intro i; simp
  | cons x l ih =>
    intro i
    cases i with
    | zero => simp
    | succ i => simp [ih i]
theorem fin_pushes (q : Q) (i : Nat) : (q.fin i).pushes = q.pushes.eraseIdx i := by
  simp only [Q.pushes, Q.fin]
  exact map_erase _ _ _
theorem fin_nodes {q : Q} (hq : WF q) {i b : Nat} {p : Int} (ho : q.opn[i]? = some (p, b + 1)) : (q.fin i).nodes = q.nodes.set b ((q.node b).1, (q.node b).2.1, ((b + 1 : Nat) : Int)) := by
  have hb := hq.opn _ (List.mem_of_getElem? ho)
  simp only at hb
  apply List.ext_getElem?
  intro k
  by_cases hk : k ≤ q.m
  · rw [nodes_get (q := q.fin i) (j := k) hk, List.getElem?_set]
    by_cases hkb : b = k
    · subst hkb
      rw [if_pos rfl, if_pos (by rw [nodes_len]; omega)]
      have hn : (q.fin i).nxt b = ((b + 1 : Nat) : Int) := by
        unfold Q.nxt
        rw [fin_isOpen hq ho, fin_m]
        simp
        omega
      unfold Q.node
      by_cases h0 : b = 0
      · subst h0; simp [hn]
      · simp only [Q.fin] at hn ⊢; simp [h0, hn]
    · rw [if_neg hkb, nodes_get hk]
      have hn : (q.fin i).nxt k = q.nxt k := by
        unfold Q.nxt
        rw [fin_isOpen hq ho, fin_m]
        have : (k + 1 == b + 1) = false := by simp; omega
        simp [this]
      unfold Q.node
      by_cases h0 : k = 0
      · subst h0; simp [hn]
      · simp only [Q.fin] at hn ⊢; simp [h0, hn]
  · rw [List.getElem?_eq_none (by rw [nodes_len, fin_m]; omega), List.getElem?_eq_none (by rw [List.length_set, nodes_len]; omega)]
theorem push_idx {q : Q} (hq : WF q) {i : Nat} {p : Int} {j : Nat} (ho : q.opn[i]? = some (p, j)) : idx (fun x => x.1 == p) q.pushes = i := by
  refine idx_found (pushes_get ho) (by simp) fun k y hk hy => ?_
  obtain ⟨h1, h2⟩ := List.getElem?_eq_some_iff.1 hy
  rw [pushes_len] at h1
  have h3 : q.opn[k]? = some q.opn[k] := by simp [h1]
  rw [pushes_get h3] at hy
  injection hy with hy
  subst hy
  obtain ⟨y1, y2⟩ := List.getElem?_eq_some_iff.1 ho
  have hs := List.pairwise_iff_getElem.1 hq.sorted k i h1 y1 hk
  rw [y2] at hs
  simp only at hs ⊢
  simp
  omega
theorem push_none {q : Q} {p : Int} (h : ∀ o ∈ q.opn, o.1 ≠ p) : idx (fun x => x.1 == p) q.pushes = -1 := by
  refine idx_none fun y hy => ?_
  simp only [Q.pushes, List.mem_map] at hy
  obtain ⟨o, ho, rfl⟩ := hy
  simp [h o ho]

theorem cellsT_set (l : List (Int × Int × Int)) : ∀ (k : Nat) (x : Int × Int × Int) (c : Int), l[k]? = some x → (cellsT l).set (k * 3 + 2) (.int .i64 c) = cellsT (l.set k (x.1, x.2.1, c)) := by
  induction l with
  | nil => intro k x c h; simp at h
  | cons y l ih =>
    intro k x c h
    cases k with
    | zero =>
      simp at h; subst h
      simp [cellsT, trip]
    | succ k =>
      rw [List.set_cons_succ, cellsT_cons, cellsT_cons, ← ih k x c (by simpa using h), List.set_append, if_neg (by simp [trip]; omega)]
      rw [show (k + 1) * 3 + 2 - (trip y).length = k * 3 + 2 by simp [trip]; omega]

/-- A node's link is stored. -/
theorem CO.setNode {w : World} {ns ps : Value} {m d : Int} {b : Bool} {g B gn cap : Nat} {ps' : Value} {l1 l2 : List (Int × Int × Int)} {m' d' : Int} {b' : Bool} {W : World} (h : CO w ns ps m d b g B (.slice (some ⟨gn, 0, none⟩) l1.length cap) ps' l1 l2 m' d' b' W)
    {k : Nat} {x : Int × Int × Int} (hx : l1[k]? = some x) (c : Int) : CO w ns ps m d b g B (.slice (some ⟨gn, 0, none⟩) l1.length cap) ps' (l1.set k (x.1, x.2.1, c)) l2 m' d' b' (W.setCell ⟨gn, k * 3 + 2, none⟩ (.int .i64 c)) := by
  have hk := (List.getElem?_eq_some_iff.1 hx).1
  rcases h.r1.2 with ⟨e, h0⟩ | ⟨gn', cap', cur, e, hB, hg, hc, hm, hs, ht⟩
  · cases e
  injection e with e1 _ e3
  injection e1 with e1
  injection e1 with e1
  subst e1
  subst e3
  have hlow := h.low
  have ng : g ≠ gn := by rintro rfl; rw [h.box] at hg; injection hg with hg; injection hg with _ e _; cases e
  refine ⟨⟨h.cb.1.setCell (p := ⟨gn, k * 3 + 2, none⟩) (by show w.heap.size ≤ gn; omega) _, blk_set_ne h.cb.2.1 ⟨gn, k * 3 + 2, none⟩ (by show w.heap.size ≠ gn; omega) _, blk_set_ne h.cb.2.2 ⟨gn, k * 3 + 2, none⟩ (by show w.heap.size + 1 ≠ gn; omega) _⟩,
    blk_set_ne h.box ⟨gn, k * 3 + 2, none⟩ ng _, h.low, h.lowg, ?_, own_set h.r2 hg (by decide) _ _⟩
  rw [List.length_set]
  refine ⟨?_, .inr ⟨gn, cap, _, rfl, hB, blk_set hg _ _, hc, hm, by simp [hs], ?_⟩⟩
  · rw [cellsT_len, List.length_set]
  · rw [Array.toList_setIfInBounds, List.take_set, ht, cellsT_set l1 k x c hx]
/-- The row of pushes was changed: its new value is stored. -/
theorem CO.re2 {w : World} {ns ps : Value} {m d : Int} {b : Bool} {g B : Nat} {ns' ps' : Value} {l1 l2 : List (Int × Int × Int)} {m' d' : Int} {b' : Bool} {W W' : World} (h : CO w ns ps m d b g B ns' ps' l1 l2 m' d' b' W)
    (hg : W.grownBy W' ps'.ownBlock) {ps'' : Value} {l2' : List (Int × Int × Int)} (ho : W'.ownsRow B 102 3 ps'' l2'.length (cellsT l2')) :
    W'.heap[g]? = some (.cells #[ns', .int .i64 m', .int .i64 d', ps', .bool b'] 28 (0, 0)) ∧ CB w ns ps m d b W' ∧ CO w ns ps m d b g B ns' ps'' l1 l2' m' d' b' (W'.setCell ⟨g, 3, none⟩ ps'') := by
  have hne : ∀ (k : Nat) (C : Array Value) (t : TypeId) (f : Nat × Nat), W.heap[k]? = some (.cells C t f) → t ≠ 102 → some k ≠ ps'.ownBlock := fun k C t f hk ht e => own_ne h.r2 hk (Ne.symm ht) e.symm
  have hk : ∀ (k : Nat) (C : Array Value) (t : TypeId) (f : Nat × Nat), W.heap[k]? = some (.cells C t f) → t ≠ 102 → W'.heap[k]? = some (.cells C t f) := fun k C t f h1 h2 => (hg.block k (blk_lt h1) (hne k C t f h1 h2)).trans h1
  have hlow := h.low
  have hlowg := h.lowg
  have hbox := hk _ _ _ _ h.box (by decide)
  have hcb : CB w ns ps m d b W' := ⟨h.cb.1.grown hg h.cb.1.size (fun k hk => by have := h.r2.lt k hk; omega), hk _ _ _ _ h.cb.2.1 (by decide), hk _ _ _ _ h.cb.2.2 (by decide)⟩
  have hr1 : W'.ownsRow B 99 3 ns' l1.length (cellsT l1) := by
    refine ⟨h.r1.1, ?_⟩
    rcases h.r1.2 with h0 | ⟨g', cap, cur, h1, h2, h3, h4⟩
    · exact .inl h0
    · exact .inr ⟨g', cap, cur, h1, h2, hk _ _ _ _ h3 (by decide), h4⟩
  refine ⟨hbox, hcb, ⟨hcb.1.setCell (p := ⟨g, 3, none⟩) (by show w.heap.size ≤ g; omega) _, blk_set_ne hcb.2.1 ⟨g, 3, none⟩ (by show w.heap.size ≠ g; omega) _, blk_set_ne hcb.2.2 ⟨g, 3, none⟩ (by show w.heap.size + 1 ≠ g; omega) _⟩, blk_set hbox 3 _, h.low, h.lowg, own_set hr1 hbox (by decide) _ _, own_set ho hbox (by decide) _ _⟩

set_option maxRecDepth 100000 in
set_option maxHeartbeats 4000000 in
theorem finish_at {q : Q} (hq : WF q) {v : Value} {i j : Nat} {p : Int} (ho : q.opn[i]? = some (p, j)) (w : World) (hv : St w v q) :
    Calls Try.prog 11 #[v, .int .i64 p] w fun e w' => ∃ v', e = .returned (.tuple #[v', .int .i64 0]) ∧ St w' v' (q.fin i) ∧ Below w.heap.size w w' := by
  obtain ⟨ns, ps, rfl, hn, hp⟩ := hv
  have hfew := hq.few
  have hfo := hq.fewo
  obtain ⟨hj1, hjm, _, _⟩ := hq.opn _ (List.mem_of_getElem? ho)
  simp only at hj1 hjm
  obtain ⟨bj, rfl⟩ : ∃ bj, j = bj + 1 := ⟨j - 1, by omega⟩
  have hil : i < q.opn.length := (List.getElem?_eq_some_iff.1 ho).1
  have HCK : Hid (∀ W, Below w.heap.size w W → Calls Try.prog 18 #[.agg #[ns, .int .i64 q.m, .int .i64 q.done, ps, .bool q.empty]] W fun e w' => e = .returned (.int .i64 0) ∧ Below W.heap.size W w') := fun W h => check_at hq ns ps W (hn.below h).1 (hp.below h).1
  have HPU : Hid (∀ W, Below w.heap.size w W → Calls Try.prog 39 #[.agg #[ns, .int .i64 q.m, .int .i64 q.done, ps, .bool q.empty], .int .i64 p] W fun e w' => e = .returned (.int .i64 i) ∧ Below W.heap.size W w') := fun W h => by
    rw [← push_idx hq ho]
    exact push_at (by rw [pushes_len]; omega) _ _ _ p W (hp.below h).1
  have HCL : Hid (∀ W, Below w.heap.size w W → Calls Try.prog 40 #[.agg #[ns, .int .i64 q.m, .int .i64 q.done, ps, .bool q.empty]] W fun e w' => ∃ ns' ps', e = .returned (.agg #[ns', .int .i64 q.m, .int .i64 q.done, ps', .bool q.empty]) ∧
      w'.ownsRow W.heap.size 99 3 ns' q.nodes.length (cellsT q.nodes) ∧ w'.ownsRow W.heap.size 102 3 ps' q.pushes.length (cellsT q.pushes) ∧ Below W.heap.size W w') :=
    fun W h => clone_at (hn.below h).1 (hp.below h).1 (by rw [nodes_len]; omega) (by rw [pushes_len]; omega) _ _ _
  have HB0 : Hid (CB w ns ps q.m q.done q.empty ((w.alloc (Obj.cells #[ns, .int .i64 q.m, .int .i64 q.done, ps, .bool q.empty] 28)).alloc (Obj.cells #[.slice none 0 0, .int .i64 0, .int .i64 0, .slice none 0 0, .bool false] 28))) := CB.mk w ns ps q.m q.done q.empty
  obtain ⟨pn, cn, hA⟩ := hn.slice
  obtain ⟨pp, cp, hB⟩ := hp.slice
  subst hA
  subst hB
  clear hn hp
  have HQ := Lib.hid hq
  have HO := Lib.hid ho
  have HNL := Lib.hid (nodes_len q)
  have HPL := Lib.hid (pushes_len q)
  have HSTF : Hid (∀ (W : World) (a b : Value) , TriT W 99 a (q.fin i).nodes → TriT W 102 b (q.fin i).pushes → St W (.agg #[a, .int .i64 q.m, .int .i64 q.done, b, .bool q.empty]) (q.fin i)) := fun W a b h1 h2 => ⟨a, b, rfl, h1, h2⟩
  clear hq ho
  generalize hM : q.m = M at *
  generalize hD : q.done = D at *
  have HM := Lib.hid hM
  clear hM hD
  have ti : decide ((i : Int) < 0) = false := decide_eq_false (by omega)
  go_enter Try.func11, Try.ntmps11
  go_upto_region 1 with fail
  generalize ((w.alloc (Obj.cells #[.slice pn q.nodes.length cn, .int .i64 M, .int .i64 D, .slice pp q.pushes.length cp, .bool q.empty] 28)).alloc (Obj.cells #[.slice none 0 0, .int .i64 0, .int .i64 0, .slice none 0 0, .bool false] 28)) = W0 at *
  obtain ⟨c0, c1, c2, c3, c4⟩ := HB0.out.facts
  go_wp2_with fail
  refine (HCK.out _ HB0.out.1).mono ?_
  rintro e W1 ⟨rfl, hb1⟩
  have HB1 := Lib.hid (HB0.out.step hb1)
  clear hb1 c0 c1 c2 c3 c4
  obtain ⟨c0, c1, c2, c3, c4⟩ := HB1.out.facts
  go_wp2_with fail
  refine (HPU.out _ HB1.out.1).mono ?_
  rintro e W1' ⟨rfl, hb1⟩
  have HB1' := Lib.hid (HB1.out.step hb1)
  clear hb1 c0 c1 c2 c3 c4
  obtain ⟨c0, c1, c2, c3, c4⟩ := HB1'.out.facts
  go_wp2_with fail
  refine (HCL.out _ HB1'.out.1).mono ?_
  rintro e W2 ⟨ns', ps', rfl, r1, r2, hb2⟩
  obtain ⟨gn, cn', hA, _⟩ := own_some rfl r1 (by rw [HNL.out]; omega)
  obtain ⟨gp, cp', hB, _⟩ := own_some rfl r2 (by rw [HPL.out]; omega)
  subst hA
  subst hB
  have HB2 := Lib.hid (HB1'.out.step hb2)
  obtain ⟨g, W3, hg, hW3, hC3⟩ := CO.made M D q.empty HB2.out HB1'.out.size hb2.size r1 r2
  have HC3 := Lib.hid hC3
  clear hb2 r1 r2 c0 c1 c2 c3 c4 hC3
  go_upto_region 8 with fail
  rw [← hg, ← hW3]
  clear hg hW3
  obtain ⟨gp', cp'', e, _, _, ⟨curp, hcurp⟩, hcp⟩ := own_some rfl HC3.out.r2 (by rw [HPL.out]; omega)
  injection e with e _ e3
  injection e with e
  injection e with e
  subst e
  subst e3
  obtain ⟨x0, x1, x2⟩ := hcp i _ (pushes_get HO.out)
  rw [show (((p, bj + 1) : Int × Nat).1, ((((p, bj + 1) : Int × Nat).2 : Nat) : Int) - 1, ((((p, bj + 1) : Int × Nat).2 : Nat) : Int)).2.1 = (bj : Int) by simp] at x1
  simp only at x0 x2
  obtain ⟨y0, y1, y2, y3, y4, _⟩ := HC3.out.facts
  have hip : i < q.pushes.length := by rw [HPL.out]; exact hil
  have hip' : (i : Int) < (q.pushes.length : Int) := by omega
  have hid' : decide ((i : Int) < (q.pushes.length : Int)) = true := decide_eq_true hip'
  clear hcp hcurp
  go_upto_region 9 with fail
  obtain ⟨X, hX⟩ : ∃ X, X = W3.heap.size := ⟨_, rfl⟩
  obtain ⟨W4, hW4⟩ : ∃ W4, W4 = W3.alloc (Obj.cells #[.int .i64 p, .int .i64 (bj : Int), .int .i64 ((bj : Int) + 1)] 102) := ⟨_, rfl⟩
  rw [← hW4, ← hX]
  have hb4 : Below W3.heap.size W3 W4 := by rw [hW4]; exact (Below.refl _ _).alloc (Nat.le_refl _) _
  have hx4 : W4.heap[X]? = some (.cells #[.int .i64 p, .int .i64 (bj : Int), .int .i64 ((bj : Int) + 1)] 102 (0, 0)) := by rw [hW4, hX]; exact (MapKept.heap_alloc _ _).1
  have HC4 := Lib.hid (HC3.out.step hb4)
  clear x0 x1 x2 y0 y1 y2 y3 y4 hb4 hW4 hX
  have x1 : W4.cell? ⟨X, 1, none⟩ = some (.int .i64 (bj : Int)) := cell_blk hx4 1
  have x2 : W4.cell? ⟨X, 2, none⟩ = some (.int .i64 ((bj : Int) + 1)) := cell_blk hx4 2
  clear hx4
  obtain ⟨y0, y1, y2, y3, y4, _⟩ := HC4.out.facts
  obtain ⟨gn', cn'', e, _, _, ⟨curn, hcurn⟩, hcn⟩ := own_some rfl HC4.out.r1 (by rw [HNL.out]; omega)
  injection e with e _ e3
  injection e with e
  injection e with e
  subst e
  subst e3
  have hnb : q.nodes[bj]? = some (q.node bj) := nodes_get (by rw [HM.out]; omega)
  obtain ⟨_, _, z2⟩ := hcn bj _ hnb
  have zf : W4.frozen? ⟨gn, bj * 3 + 2, none⟩ = false := frozen_blk hcurn _
  have hbn : bj < q.nodes.length := by rw [HNL.out]; omega
  have hbn' : (bj : Int) < (q.nodes.length : Int) := by omega
  have hbd : decide ((bj : Int) < (q.nodes.length : Int)) = true := decide_eq_true hbn'
  have HC5 := Lib.hid (HC4.out.setNode hnb ((bj : Int) + 1))
  clear hcn hcurn hnb
  generalize hzz : (q.node bj).2.2 = zz at z2
  go_upto_region 10 with fail
  obtain ⟨W5, hW5⟩ : ∃ W5, W5 = W4.setCell ⟨gn, bj * 3 + 2, none⟩ (.int .i64 ((bj : Int) + 1)) := ⟨_, rfl⟩
  rw [← hW5] at HC5 ⊢
  clear hW5 x1 x2 y0 y1 y2 y3 y4 z2 zf hzz hbn hbn' hbd
  obtain ⟨y0, y1, y2, y3, y4, _⟩ := HC5.out.facts
  have hiw : wrap64 ((i : Int) + 1) = (i : Int) + 1 := by unfold wrap64; omega
  have HIP := Lib.hid hip
  have HIL := Lib.hid hil
  have HSM : Hid (q.opn.length ≤ 2000) := by show _ ≤ _; omega
  clear hil hfo hfew hip hip' hid' hjm hj1 ti
  go_wp2_with fail
  refine (delete_at HC5.out.r2 (by rw [HPL.out]; exact HSM.out) i HIP.out).mono ?_
  rintro e W6 ⟨ps6, rfl, ho6, hg6⟩
  obtain ⟨pp6, cp6, e6⟩ := own_slice ho6
  subst e6
  have hl6 : q.pushes.length - 1 = (q.fin i).pushes.length := by rw [pushes_len, pushes_len, Q.fin, List.length_eraseIdx, if_pos HIL.out]
  rw [← fin_pushes] at ho6
  obtain ⟨L6, hL6⟩ : ∃ L6, L6 = (q.fin i).pushes.length := ⟨_, rfl⟩
  rw [hl6] at ho6 ⊢
  obtain ⟨k1, k2, k3⟩ := HC5.out.re2 hg6 ho6
  rw [← hL6] at k3 ⊢
  have HL6 := Lib.hid hL6
  have HC7 := Lib.hid k3
  clear hL6 hl6
  have g3 : W6.cell? ⟨g, 3, none⟩ = some (.slice (some ⟨gp, 0, none⟩) q.pushes.length cp') := cell_blk k1 3
  have f3 : W6.frozen? ⟨g, 3, none⟩ = false := frozen_blk k1 3
  clear y0 y1 y2 y3 y4 k1 k2 k3 hg6 ho6
  go_upto_region 11 with fail
  clear g3 f3
  obtain ⟨W7, hW7⟩ : ∃ W7, W7 = W6.setCell ⟨g, 3, none⟩ (.slice pp6 L6 cp6) := ⟨_, rfl⟩
  rw [← hW7] at HC7 ⊢
  clear hW7
  obtain ⟨y0, y1, y2, y3, y4, z0, z1, z2, z3, z4⟩ := HC7.out.facts
  have f0 := (HC7.out.frozen 0).2
  have f1 := (HC7.out.frozen 1).2
  have f2 := (HC7.out.frozen 2).2
  have f3 := (HC7.out.frozen 3).2
  have f4 := (HC7.out.frozen 4).2
  go_wp2_with fail
  obtain ⟨W8, hW8⟩ : ∃ W8, W8 = (((((W7.setCell ⟨w.heap.size + 1, 0, none⟩ (.slice (some ⟨gn, 0, none⟩) q.nodes.length cn')).setCell ⟨w.heap.size + 1, 1, none⟩ (.int .i64 M)).setCell ⟨w.heap.size + 1, 2, none⟩ (.int .i64 D)).setCell ⟨w.heap.size + 1, 3, none⟩ (.slice pp6 L6 cp6)).setCell ⟨w.heap.size + 1, 4, none⟩ (.bool q.empty)) := ⟨_, rfl⟩
  rw [← hW8]
  obtain ⟨k1, k2, k3, k4⟩ := HC7.out.out hW8
  have K1 := Lib.hid k1
  have K3 := Lib.hid k3
  have K4 := Lib.hid k4
  clear y0 y1 y2 y3 y4 z0 z1 z2 z3 z4 f0 f1 f2 f3 f4 k1 k3 k4 hW8
  have c0 : W8.cell? ⟨w.heap.size + 1, 0, none⟩ = some (.slice (some ⟨gn, 0, none⟩) q.nodes.length cn') := cell_blk k2 0
  have c1 : W8.cell? ⟨w.heap.size + 1, 1, none⟩ = some (.int .i64 M) := cell_blk k2 1
  have c2 : W8.cell? ⟨w.heap.size + 1, 2, none⟩ = some (.int .i64 D) := cell_blk k2 2
  have c3 : W8.cell? ⟨w.heap.size + 1, 3, none⟩ = some (.slice pp6 L6 cp6) := cell_blk k2 3
  have c4 : W8.cell? ⟨w.heap.size + 1, 4, none⟩ = some (.bool q.empty) := cell_blk k2 4
  refine bodyPost_ret (v := .tuple #[.agg #[.slice (some ⟨gn, 0, none⟩) q.nodes.length cn', .int .i64 M, .int .i64 D, .slice pp6 L6 cp6, .bool q.empty], .int .i64 0]) (by simp [results, Try.results11, go_sem, c0, c1, c2, c3, c4]) rfl ⟨_, rfl, HSTF.out _ _ _ ?_ ?_, ?_⟩
  · rw [fin_nodes HQ.out HO.out]
    exact K3.out
  · exact K4.out
  · exact K1.out
end Go.Proofs.Ytgbafpjeapkklaa.Mb
