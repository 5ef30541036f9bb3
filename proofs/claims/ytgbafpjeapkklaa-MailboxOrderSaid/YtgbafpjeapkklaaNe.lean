/- Mailbox: Waiting. -/
import Derived.Test.YtgbafpjeapkklaaNd
namespace Go.Proofs.Ytgbafpjeapkklaa.Mb
open Go.RowKit
set_option linter.unusedVariables false
set_option linter.unusedSimpArgs false

theorem wait_idx {q : Q} (hq : WF q) {k : Nat} (h : q.isOpen (k + 1) = true) : ∃ (i : Nat) (o : Int × Nat), q.opn[i]? = some o ∧ o.2 = k + 1 ∧ idx (fun x => x.2.1 == (k : Int)) q.pushes = i := by
  simp only [Q.isOpen, List.any_eq_true, beq_iff_eq] at h
  obtain ⟨o, ho, h2⟩ := h
  obtain ⟨i, hi, e⟩ := List.getElem_of_mem ho
  have hoi : q.opn[i]? = some o := by rw [← e]; simp
  refine ⟨i, o, hoi, h2, idx_found (pushes_get hoi) (by simp [h2]) fun j y hj hy => ?_⟩
  obtain ⟨g1, g2⟩ := List.getElem?_eq_some_iff.1 hy
  rw [pushes_len] at g1
  have g3 : q.opn[j]? = some q.opn[j] := by simp [g1]
  rw [pushes_get g3] at hy
  injection hy with hy
  subst hy
  have hne : q.opn[j].2 ≠ k + 1 := fun e' => by
    have := open_uniq hq g3 hoi (e'.trans h2.symm)
    omega
  have h1 := (hq.opn _ (List.getElem_mem g1)).1
  simp
  omega

/-- Waiting's memory. -/
structure WM (w : World) (q : Q) (ns ps : Value) (P k : Nat) (u : Value) (n : Nat) (W : World) : Prop where
  bx : Bx w q ns ps w.heap.size W
  cell : W.heap[P]? = some (.cells #[.int .i64 (k : Int)] 3 (0, 0))
  low : w.heap.size ≤ P
  row : W.ownsRow w.heap.size 3 1 u n (ints (q.took q.done n))
  ap : u.ownBlock ≠ some P
section
variable {w : World} {q : Q} {ns ps : Value} {P k : Nat} {u : Value} {n : Nat} {W W' : World}
theorem WM.step (h : WM w q ns ps P k u n W) (hb : Below W.heap.size W W') : WM w q ns ps P k u n W' :=
  ⟨h.bx.step hb, (hb.block _ (blk_lt h.cell)).trans h.cell, h.low, own1_below h.row hb, h.ap⟩
theorem WM.ne (h : WM w q ns ps P k u n W) : w.heap.size ≠ P := by
  intro e
  have := h.cell
  rw [← e, h.bx.box] at this
  injection this with this
  injection this with _ e' _
  cases e'
theorem WM.set (h : WM w q ns ps P k u n W) {k' : Nat} (hW : W' = W.setCell ⟨P, 0, none⟩ (.int .i64 (k' : Int))) : WM w q ns ps P k' u n W' := by
  have hne := h.ne
  subst hW
  refine ⟨⟨h.bx.below.setCell (p := ⟨P, 0, none⟩) h.low _, blk_set_ne h.bx.box ⟨P, 0, none⟩ hne _⟩, blk_set h.cell 0 _, h.low, ?_, h.ap⟩
  refine ⟨h.row.1, ?_⟩
  rcases h.row.2 with h0 | ⟨g', cap, cur, h1, h2, h3, h4⟩
  · exact .inl h0
  · refine .inr ⟨g', cap, cur, h1, h2, blk_set_ne h3 ⟨P, 0, none⟩ ?_ _, h4⟩
    rintro rfl
    exact h.ap (by rw [h1]; rfl)
theorem WM.app (h : WM w q ns ps P k u n W) {u' : Value} (hg : W.grownBy W' u.ownBlock) (ho : W'.ownsRow w.heap.size 3 1 u' (n + 1) (ints (q.took q.done (n + 1)))) (hb : u'.ownBlock = u.ownBlock ∨ u'.ownBlock = some W.heap.size) : WM w q ns ps P k u' (n + 1) W' := by
  refine ⟨⟨h.bx.below.grown hg h.bx.below.size (fun k hk => by have := h.row.lt k hk; omega), ?_⟩, (hg.block _ (blk_lt h.cell) (fun e => h.ap e.symm)).trans h.cell, h.low, ho, ?_⟩
  · refine (hg.block _ (blk_lt h.bx.box) (fun e => ?_)).trans h.bx.box
    rcases h.row.2 with ⟨rfl, _⟩ | ⟨g', cap, cur, rfl, _, hgg, _⟩
    · simp [Value.ownBlock] at e
    · simp [Value.ownBlock] at e
      subst e
      have := h.bx.box
      rw [hgg] at this
      injection this with this
      injection this with _ e' _
      cases e'
  · intro e
    rcases hb with e' | e'
    · exact h.ap (e'.symm.trans e)
    · rw [e'] at e
      injection e with e
      have := blk_lt h.cell
      omega
theorem WM.new (h : WM w q ns ps P k u n W) (hP : w.heap.size ≤ W.heap.size) : WM w q ns ps W.heap.size k u n (W.alloc (Obj.cells #[.int .i64 (k : Int)] 3)) := by
  have ha : Below W.heap.size W (W.alloc (Obj.cells #[.int .i64 (k : Int)] 3)) := (Below.refl _ _).alloc (Nat.le_refl _) _
  exact { h.step ha with cell := (MapKept.heap_alloc _ _).1, low := hP, ap := fun e => by have := h.row.lt _ e; omega }
theorem WM.facts (h : WM w q ns ps P k u n W) : W.cell? ⟨P, 0, none⟩ = some (.int .i64 (k : Int)) ∧ W.frozen? ⟨P, 0, none⟩ = false := ⟨cell_blk h.cell 0, frozen_blk h.cell 0⟩
end

set_option maxRecDepth 100000 in
set_option maxHeartbeats 4000000 in
theorem waiting_at {q : Q} (hq : WF q) {v : Value} (w : World) (hv : St w v q) :
    Calls Try.prog 22 #[v] w fun e w' => ∃ u, e = .returned (.tuple #[u, .int .i64 0]) ∧ w'.ownsRow w.heap.size 3 1 u (q.m - q.done) (ints (q.took q.done (q.m - q.done))) ∧ Below w.heap.size w w' := by
  obtain ⟨ns, ps, rfl, hn, hp⟩ := hv
  have hfew := hq.few
  have hfo := hq.fewo
  have hdn := hq.done
  have HCK : Hid (∀ W, Below w.heap.size w W → Calls Try.prog 18 #[.agg #[ns, .int .i64 q.m, .int .i64 q.done, ps, .bool q.empty]] W fun e w' => e = .returned (.int .i64 0) ∧ Below W.heap.size W w') := fun W h => check_at hq ns ps W (hn.below h).1 (hp.below h).1
  have HIX : Hid (∀ W (k : Nat) (P : Nat), Below w.heap.size w W → W.cell? ⟨P, 0, none⟩ = some (.int .i64 (k : Int)) → Calls Try.prog 57 #[ps, .func (.func 58) #[] #[.pointer (some ⟨P, 0, none⟩)]] W fun e w' => e = .returned (.int .i64 (idx (fun x => x.2.1 == (k : Int)) q.pushes)) ∧ Below W.heap.size W w') :=
    fun W k P h h2 => index58_at (by rw [pushes_len]; omega) (k : Int) P W (hp.below h).1 h2
  have HB0 : Hid (Bx w q ns ps w.heap.size (w.alloc (Obj.cells #[ns, .int .i64 q.m, .int .i64 q.done, ps, .bool q.empty] 28))) := ⟨(Below.refl _ _).alloc (Nat.le_refl _) _, (MapKept.heap_alloc _ _).1⟩
  -- the nodes and the pushes
  have HNP : Hid ((∃ g off c, ns = .slice (some ⟨g, off, none⟩) (q.m + 1) c ∧ g < w.heap.size ∧ ∀ k, k ≤ q.m → w.cell? ⟨g, off + k * 3, none⟩ = some (.int .i64 (q.node k).1) ∧ w.cell? ⟨g, off + k * 3 + 2, none⟩ = some (.int .i64 (q.node k).2.2)) ∧
      (∃ p c, ps = .slice p q.opn.length c ∧ (q.opn = [] ∨ ∃ g off, p = some ⟨g, off, none⟩ ∧ g < w.heap.size ∧ ∀ i o, q.opn[i]? = some o → w.cell? ⟨g, off + i * 3 + 2, none⟩ = some (.int .i64 (o.2 : Int))))) := by
    constructor
    · obtain ⟨⟨p, c, e, _, h1⟩, _⟩ := hn
      rcases h1 with h1 | ⟨g, off, rfl, h2, h3⟩
      · have := nodes_len q; rw [h1] at this; simp at this
      · exact ⟨g, off, c, by rw [e, nodes_len], h2, fun k hk => ⟨(h3 k _ (nodes_get hk)).1, (h3 k _ (nodes_get hk)).2.2⟩⟩
    · obtain ⟨⟨p, c, e, _, h1⟩, _⟩ := hp
      refine ⟨p, c, by rw [e, pushes_len], ?_⟩
      rcases h1 with h1 | ⟨g, off, rfl, h2, h3⟩
      · left
        have := pushes_len q
        rw [h1] at this
        exact List.eq_nil_of_length_eq_zero this.symm
      · exact .inr ⟨g, off, rfl, h2, fun i o ho => (h3 i _ (pushes_get ho)).2.2⟩
  obtain ⟨⟨gn, offn, cn, rfl, hgn, hcn⟩, ⟨pp, cp, rfl, hpp⟩⟩ := HNP.out
  have HCN := Lib.hid hcn
  have HPP := Lib.hid hpp
  have HQ := Lib.hid hq
  have HFEW := Lib.hid hfew
  clear hcn hpp hn hp hq HNP hfo hfew
  generalize hM : q.m = M at *
  generalize hD : q.done = D at *
  have HM := Lib.hid hM
  have HD := Lib.hid hD
  clear hM hD
  go_enter Try.func22, Try.ntmps22
  go_upto_region 1 with fail
  generalize (w.alloc (Obj.cells #[.slice (some ⟨gn, offn, none⟩) (M + 1) cn, .int .i64 M, .int .i64 D, .slice pp q.opn.length cp, .bool q.empty] 28)) = W0 at *
  obtain ⟨c0, c1, c2, c3, c4⟩ := HB0.out.facts
  rw [HM.out] at c1
  rw [HD.out] at c2
  go_wp2_with fail
  refine (HCK.out _ HB0.out.below).mono ?_
  rintro e W1 ⟨rfl, hb1⟩
  have HB1 := Lib.hid (HB0.out.step hb1)
  clear hb1 c0 c1 c2 c3 c4
  obtain ⟨c0, c1, c2, c3, c4⟩ := HB1.out.facts
  rw [HM.out] at c1
  rw [HD.out] at c2
  go_upto_region 6 with fail
  clear c0 c1 c2 c3 c4
  obtain ⟨P0, hP0⟩ : ∃ P0, P0 = W1.heap.size := ⟨_, rfl⟩
  obtain ⟨W2, hW2⟩ : ∃ W2, W2 = W1.alloc (Obj.cells #[.int .i64 (D : Int)] 3) := ⟨_, rfl⟩
  rw [← hW2, ← hP0]
  have HW2 : Hid (WM w q (.slice (some ⟨gn, offn, none⟩) (M + 1) cn) (.slice pp q.opn.length cp) P0 D (.slice none 0 0) 0 W2) := by
    have ha : Below W1.heap.size W1 W2 := by rw [hW2]; exact (Below.refl _ _).alloc (Nat.le_refl _) _
    exact ⟨HB1.out.step ha, by rw [hW2, hP0]; exact (MapKept.heap_alloc _ _).1, by rw [hP0]; exact HB1.out.below.size, World.ownsRow_nil _ _ _ _, by simp [Value.ownBlock]⟩
  clear hW2 hP0
  go_loopw [5, 6] (fun s5 s6 wr => ∃ n P : Nat, D + n ≤ M ∧ s6 = .pointer (some ⟨P, 0, none⟩) ∧ (∃ p c, s5 = .slice p n c) ∧ WM w q (.slice (some ⟨gn, offn, none⟩) (M + 1) cn) (.slice pp q.opn.length cp) P (D + n) s5 n wr) (fun s5 _ _ => M - (lenOf s5))
  case atStart => exact ⟨0, P0, by omega, rfl, ⟨_, _, rfl⟩, HW2.out⟩
  case round =>
    obtain ⟨n, P, hn, rfl, ⟨p5, c5, rfl⟩, hwm⟩ := hrel
    obtain ⟨E, hE⟩ : ∃ E, E = D + n := ⟨_, rfl⟩
    rw [← hE] at hwm hn
    have HE := Lib.hid hE; clear hE
    have HWM := Lib.hid hwm; clear hwm
    obtain ⟨x0, xf⟩ := HWM.out.facts
    obtain ⟨c0, c1, c2, c3, c4⟩ := HWM.out.bx.facts
    rw [HM.out] at c1
    by_cases hlt : E < M
    · have te : ((E : Int) != (M : Int)) = true := by simp; omega
      have hEm : (E : Int) < (M : Int) + 1 := by omega
      obtain ⟨E1, hE1⟩ : ∃ E1, E1 = E + 1 := ⟨_, rfl⟩
      have HE1 := Lib.hid hE1
      obtain ⟨d0, d2⟩ := HCN.out E (by omega)
      have d2' : wr.cell? ⟨gn, offn + E * 3 + 2, none⟩ = some (.int .i64 (q.node E).2.2) := (HWM.out.bx.below.cell (p := ⟨gn, offn + E * 3 + 2, none⟩) hgn).trans d2
      obtain ⟨e0, _⟩ := HCN.out E1 (by omega)
      obtain ⟨x, hx⟩ : ∃ x, x = (q.node E1).1 := ⟨_, rfl⟩
      rw [← hx] at e0
      have HX0 := Lib.hid e0
      have HVAL : Hid (x = q.val (q.done + n)) := by
        show x = _
        rw [hx, hE1, node_val, HD.out, HE.out]
      have hE1m : (E1 : Int) < (M : Int) + 1 := by omega
      clear d0 d2 e0 hx
      have e1 : (E : Int) + 1 = (E1 : Int) := by omega
      rw [node_nxt, e1] at d2'
      clear e1 hE1
      have tn : decide ((E1 : Int) < 0) = false := decide_eq_false (by omega)
      cases hcan : q.can E with
      | true =>
        rw [hcan, if_pos rfl] at d2'
        clear hcan
        go_upto_region 11 with fail
        clear d2' x0 xf c0 c1 c2 c3 c4
        have HX := HWM
        generalize hwx : wr = WX at *
        clear hwx
        obtain ⟨x0, xf⟩ := HX.out.facts
        go_upto_region 12 with fail
        obtain ⟨W7, hW7⟩ : ∃ W7, W7 = WX.setCell ⟨P, 0, none⟩ (.int .i64 (E1 : Int)) := ⟨_, rfl⟩
        rw [← hW7]
        have HW7 := Lib.hid (HX.out.set hW7)
        clear x0 xf hW7
        obtain ⟨x0, xf⟩ := HW7.out.facts
        obtain ⟨c0, c1, c2, c3, c4⟩ := HW7.out.bx.facts
        have v0 : W7.cell? ⟨gn, offn + E1 * 3, none⟩ = some (.int .i64 x) := (HW7.out.bx.below.cell (p := ⟨gn, offn + E1 * 3, none⟩) hgn).trans HX0.out
        obtain ⟨Y, hY⟩ : ∃ Y, Y = W7.heap.size := ⟨_, rfl⟩
        obtain ⟨W8, hW8⟩ : ∃ W8, W8 = W7.alloc (Obj.cells #[.int .i64 x] 3) := ⟨_, rfl⟩
        have HW8 : Hid (WM w q (.slice (some ⟨gn, offn, none⟩) (M + 1) cn) (.slice pp q.opn.length cp) P E1 (.slice p5 n c5) n W8) := HW7.out.step (by rw [hW8]; exact (Below.refl _ _).alloc (Nat.le_refl _) _)
        have HY8 : Hid (W8.heap[Y]? = some (.cells #[.int .i64 x] 3 (0, 0))) := by rw [hW8, hY]; exact (MapKept.heap_alloc _ _).1
        obtain ⟨u9, W9, hr9, ho9, hg9, hb9, p9, c9, e9⟩ := run_append_one W8 30 HW8.out.row HY8.out (by have := HE.out; have := HFEW.out; omega) HW8.out.bx.below.size
        subst e9
        rw [hW8, hY] at hr9
        have HW9 : Hid (WM w q (.slice (some ⟨gn, offn, none⟩) (M + 1) cn) (.slice pp q.opn.length cp) P E1 (.slice p9 (n + 1) c9) (n + 1) W9) := HW8.out.app hg9 (by rw [← took_snoc, ← HVAL.out]; exact ho9) hb9
        clear hW8 hY ho9 hg9 hb9
        have HR9 := Lib.hid hr9
        clear hr9
        go_upto_region 13 with (at_builtin; refine Lib.wpList_append_run _ rfl _ _ _ _ rfl _ _ rfl rfl _ _ HR9.out ?_)
        clear x0 xf c0 c1 c2 c3 c4 v0
        obtain ⟨x0, xf⟩ := HW9.out.facts
        go_wp2_with fail
        go_roundw
        case rel =>
          refine ⟨n + 1, _, by have := HE.out; have := HE1.out; omega, rfl, ⟨_, _, rfl⟩, ?_⟩
          have h := HW9.out.new HW9.out.bx.below.size
          rw [HE1.out, HE.out] at h
          rw [HE1.out, HE.out]
          exact h
        case measure => have := HE.out; simp [lenOf]; omega
      | false =>
        rw [hcan, if_neg (by simp)] at d2'
        obtain ⟨i, o, hoi, ho2, hidx⟩ := wait_idx HQ.out (k := E) (by
          unfold Q.can at hcan
          rw [HM.out] at hcan
          simpa [hlt] using hcan)
        have HIDX : Hid (idx (fun x => x.2.1 == (E : Int)) q.pushes = i) := hidx
        have hil := (List.getElem?_eq_some_iff.1 hoi).1
        have hil' : (i : Int) < (q.opn.length : Int) := by omega
        obtain ⟨gp, offp, rfl, hgp, hcp⟩ : ∃ g off, pp = some ⟨g, off, none⟩ ∧ g < w.heap.size ∧ ∀ (i : Nat) (o : Int × Nat), q.opn[i]? = some o → w.cell? ⟨g, off + i * 3 + 2, none⟩ = some (.int .i64 (o.2 : Int)) := by
          rcases HPP.out with h | h
          · rw [h] at hoi; simp at hoi
          · exact h
        have hp2 := hcp i o hoi
        rw [ho2, ← HE1.out] at hp2
        have HP2 := Lib.hid hp2
        have HX00 := Lib.hid x0
        clear hcan hoi ho2 hidx hcp hp2
        go_wp2_with fail
        refine (HIX.out _ E P HWM.out.bx.below HX00.out).mono ?_
        rw [HIDX.out]
        rintro e WX ⟨rfl, hbx⟩
        have HX := Lib.hid (HWM.out.step hbx)
        clear hbx d2' x0 xf c0 c1 c2 c3 c4
        obtain ⟨c0, c1, c2, c3, c4⟩ := HX.out.bx.facts
        have p2 : WX.cell? ⟨gp, offp + i * 3 + 2, none⟩ = some (.int .i64 (E1 : Int)) := (HX.out.bx.below.cell (p := ⟨gp, offp + i * 3 + 2, none⟩) hgp).trans HP2.out
        go_upto_region 11 with fail
        clear c0 c1 c2 c3 c4 p2
        obtain ⟨x0, xf⟩ := HX.out.facts
        go_upto_region 12 with fail
        obtain ⟨W7, hW7⟩ : ∃ W7, W7 = WX.setCell ⟨P, 0, none⟩ (.int .i64 (E1 : Int)) := ⟨_, rfl⟩
        rw [← hW7]
        have HW7 := Lib.hid (HX.out.set hW7)
        clear x0 xf hW7
        obtain ⟨x0, xf⟩ := HW7.out.facts
        obtain ⟨c0, c1, c2, c3, c4⟩ := HW7.out.bx.facts
        have v0 : W7.cell? ⟨gn, offn + E1 * 3, none⟩ = some (.int .i64 x) := (HW7.out.bx.below.cell (p := ⟨gn, offn + E1 * 3, none⟩) hgn).trans HX0.out
        obtain ⟨Y, hY⟩ : ∃ Y, Y = W7.heap.size := ⟨_, rfl⟩
        obtain ⟨W8, hW8⟩ : ∃ W8, W8 = W7.alloc (Obj.cells #[.int .i64 x] 3) := ⟨_, rfl⟩
        have HW8 : Hid (WM w q (.slice (some ⟨gn, offn, none⟩) (M + 1) cn) (.slice (some ⟨gp, offp, none⟩) q.opn.length cp) P E1 (.slice p5 n c5) n W8) := HW7.out.step (by rw [hW8]; exact (Below.refl _ _).alloc (Nat.le_refl _) _)
        have HY8 : Hid (W8.heap[Y]? = some (.cells #[.int .i64 x] 3 (0, 0))) := by rw [hW8, hY]; exact (MapKept.heap_alloc _ _).1
        obtain ⟨u9, W9, hr9, ho9, hg9, hb9, p9, c9, e9⟩ := run_append_one W8 30 HW8.out.row HY8.out (by have := HE.out; have := HFEW.out; omega) HW8.out.bx.below.size
        subst e9
        rw [hW8, hY] at hr9
        have HW9 : Hid (WM w q (.slice (some ⟨gn, offn, none⟩) (M + 1) cn) (.slice (some ⟨gp, offp, none⟩) q.opn.length cp) P E1 (.slice p9 (n + 1) c9) (n + 1) W9) := HW8.out.app hg9 (by rw [← took_snoc, ← HVAL.out]; exact ho9) hb9
        clear hW8 hY ho9 hg9 hb9
        have HR9 := Lib.hid hr9
        clear hr9
        go_upto_region 13 with (at_builtin; refine Lib.wpList_append_run _ rfl _ _ _ _ rfl _ _ rfl rfl _ _ HR9.out ?_)
        clear x0 xf c0 c1 c2 c3 c4 v0
        obtain ⟨x0, xf⟩ := HW9.out.facts
        go_wp2_with fail
        go_roundw
        case rel =>
          refine ⟨n + 1, _, by have := HE.out; have := HE1.out; omega, rfl, ⟨_, _, rfl⟩, ?_⟩
          have h := HW9.out.new HW9.out.bx.below.size
          rw [HE1.out, HE.out] at h
          rw [HE1.out, HE.out]
          exact h
        case measure => have := HE.out; simp [lenOf]; omega
    · obtain rfl : E = M := by omega
      have te : ((E : Int) != (E : Int)) = false := by simp
      go_wp2_with fail
      go_ret2
      refine ⟨_, rfl, ?_, HWM.out.bx.below⟩
      have h := HWM.out.row
      have e : n = E - D := by have := HE.out; omega
      rw [HD.out] at h
      rw [← e]
      exact h
end Go.Proofs.Ytgbafpjeapkklaa.Mb
