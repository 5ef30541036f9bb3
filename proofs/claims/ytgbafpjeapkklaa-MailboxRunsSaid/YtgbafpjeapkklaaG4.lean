/- Parts Re, Rf of the proof. -/
import Derived.Test.YtgbafpjeapkklaaG3
namespace Go.Proofs.Ytgbafpjeapkklaa.PMailboxRuns
open Go.RowKit Go.Proofs.YtgbafpjeapkklaaW.PrintWords Go.Proofs.YtgbafpjeapkklaaW.PrintLast Go.Proofs.YtgbafpjeapkklaaW.PrintMore
attribute [local go_sem] max2_int min2_int max_two min_two max_three min_three max_four min_four
set_option linter.unusedVariables false
set_option linter.unusedSimpArgs false
def hackamoreref28_chain.l0 : Nat → Int → List Int → List (S105) → Int → Int → List (S122) → Bool → Option (List Int)
 | 0, _, _, _, _, _, _, _ => none
 | k + 1, x1, x5, x187000, x187001, x187002, x187003, x187004 => if x1 = (-1) then (some x5) else (if x1 < 0 then (some ([] : List Int)) else (if x1 ≥ (x187000.length : Int) then (some ([] : List Int)) else (if (x5.length : Int) > (x187000.length : Int) then (some ([] : List Int)) else (if x5.length < 17592186044416 then (if 0 ≤ x1 then (if x1 < (x187000.length : Int) then (hackamoreref28_chain.l0 k ((rd_T105 x187000 x1).f2) (x5 ++ [x1]) x187000 x187001 x187002 x187003 x187004) else (none)) else (none)) else (none)))))
def hackamoreref28_chain.f (k : Nat) (l0_0 : List (S105)) (a0_1 : Int) (a0_2 : Int) (l0_3 : List (S122)) (a0_4 : Bool) (a1 : Int) : Option (List Int) := hackamoreref28_chain.l0 k a1 (([] : List Int)) l0_0 a0_1 a0_2 l0_3 a0_4
set_option maxHeartbeats 8000000 in
set_option maxRecDepth 100000 in
theorem hackamoreref28_chain.calls (k : Nat) (A0_0 : Option Addr) (c0_0 : Nat) (l0_0 : List (S105)) (a0_1 : Int) (a0_2 : Int) (A0_3 : Option Addr) (c0_3 : Nat) (l0_3 : List (S122)) (a0_4 : Bool) (a1 : Int) (r : List Int) (w : World) (hr0_0 : Kd.C k105 w A0_0 l0_0.length l0_0) (hc0_0 : l0_0.length ≤ c0_0) (hr0_3 : Kd.C k122 w A0_3 l0_3.length l0_3) (hc0_3 : l0_3.length ≤ c0_3) (h : hackamoreref28_chain.f k l0_0 a0_1 a0_2 l0_3 a0_4 a1 = some r) :
  Calls Try.prog 56 #[.agg #[.slice A0_0 l0_0.length c0_0, .int .i64 a0_1, .int .i64 a0_2, .slice A0_3 l0_3.length c0_3, .bool a0_4], .int .i64 a1] w fun e w' => ∃ v0_ : Value, e = .returned (v0_) ∧ Kd.R (Kd.int .i64) 3 w' w.heap.size (fun _ => True) v0_ r ∧ Below w.heap.size w w' := by
 have hu46 := Try.underlying46
 have HR0_0 := Aside0.mk hr0_0
 have HC0_0 := Aside0.mk hc0_0
 clear hr0_0 hc0_0
 have HR0_3 := Aside0.mk hr0_3
 have HC0_3 := Aside0.mk hc0_3
 clear hr0_3 hc0_3
 have HB := Aside0.mk (Below.refl w.heap.size w)
 have H : (hackamoreref28_chain.l0 k a1 (([] : List Int)) l0_0 a0_1 a0_2 l0_3 a0_4) = some r := h
 clear h
 obtain ⟨y187, hy187⟩ : ∃ y_ : List Int, y_ = (([] : List Int)) := ⟨_, rfl⟩
 replace H : (hackamoreref28_chain.l0 k a1 y187 l0_0 a0_1 a0_2 l0_3 a0_4) = some r := by first | (rw [hy187]; with_reducible exact H) | (have H2_ := (Option.bind_some _ _).symm.trans H; rw [hy187]; with_reducible exact H2_) | (have H2_ := (Option.bind_some _ _).symm.trans H; with_reducible exact H2_) | with_reducible exact H | (rw [hy187]; exact H) | exact H
 have Ny187 := Aside0.mk hy187
 clear hy187
 have H' := Aside0.mk H
 clear H
 go_enter Try.func56, Try.ntmps56
 go_wp2_with (first | ((with_reducible refine gate_dst (N := 2) rfl ?_); (try (refine gate_guard (by rfl) ?_; dsimp only)); refine box_event ?hg (N := 2) ?hd (cs := #[.slice A0_0 l0_0.length c0_0, .int .i64 a0_1, .int .i64 a0_2, .slice A0_3 l0_3.length c0_3, .bool a0_4]) (t := 46) ?hr ?_; (case hd => rfl); (case hg => rfl); (case hr => first | (go_simp; done) | (go_simp; rfl)); intro gb186 hg w3 hbox hb; have n0_ := Aside0.mk (below_step (by repeat (first | (with_reducible first | exact HB.out | apply below_alloc | apply pw_below_drewN | apply below_drew1) | exact HB.out)) hb); have n1_ := Aside0.mk (hbox); have n2_ := Aside0.mk ((by rw [hg]; exact (below_size (by repeat (first | (with_reducible first | exact HB.out | apply below_alloc | apply pw_below_drewN | apply below_drew1) | exact HB.out))) : w.heap.size ≤ gb186)); have n3_ := Aside0.mk ((by rw [hg]; exact (below_size (by repeat (first | (with_reducible first | exact HB.out | apply below_alloc | apply pw_below_drewN | apply below_drew1) | exact HB.out))) : w.heap.size ≤ gb186)); clear HB; have HB := n0_; have BK186 := n1_; have GW186 := n2_; have GE186 := n3_; clear n0_ n1_ n2_ n3_; clear hb hbox hg) | ((with_reducible refine gate_dst (N := 6) rfl ?_); (try (refine gate_guard (by rfl) ?_; dsimp only)); refine Kd.R_lit (Kd.int .i64) _ 3 ?hg (N := 6) ?hd (xs := ([] : List Int)) (inner := []) (ok := fun _ => True) (okp := fun _ => True) ?hr ?hp (fun _ hk => hk) trivial (Below.refl _ _) (Nat.le_refl _) (by simp) ?_; (case hd => rfl); (case hg => rfl); (case hr => first | (go_simp; done) | (go_simp; rfl)); (case hp => exact (Reps.none _ _)); intro v188 w4 ho5 hb hg_ hnew_; clear hg_ hnew_; (first | rw [← Ny187.out] at ho5 | (simp only [Int.reduceToNat] at ho5; rw [← Ny187.out] at ho5)); have n0_ := Aside0.mk (Kd.R_lower ho5 (below_size (by repeat (first | (with_reducible first | exact HB.out | apply below_alloc | apply pw_below_drewN | apply below_drew1 | refine below_set ?_ GE186.out) | exact HB.out)))); have n1_ := Aside0.mk (blk_below (g := gb186) (o := .cells #[.slice A0_0 l0_0.length c0_0, .int .i64 a0_1, .int .i64 a0_2, .slice A0_3 l0_3.length c0_3, .bool a0_4] 46 (0, 0)) (by (with_reducible repeat (first | refine blk_drewN ?_ _ | refine blk_drew ?_ | refine blk_alloc ?_ _)); exact BK186.out) hb); have n2_ := Aside0.mk (below_step (by repeat (first | (with_reducible first | exact HB.out | apply below_alloc | apply pw_below_drewN | apply below_drew1 | refine below_set ?_ GE186.out) | exact HB.out)) hb); clear BK186; clear HB; have HO189 := n0_; have BK186 := n1_; have HB := n2_; clear n0_ n1_ n2_; clear hb ho5))
 go_loopg [1, 5] k (fun kq v1 v5 w' => ∃ (x1_1 : Int) (x5_1 : List Int), v1 = .int .i64 x1_1 ∧ Aside0 (hackamoreref28_chain.l0 kq x1_1 x5_1 l0_0 a0_1 a0_2 l0_3 a0_4 = some r) ∧ Aside0 (kq ≤ k) ∧ Aside0 (Kd.R (Kd.int .i64) 3 w' w.heap.size (fun _ => True) v5 x5_1) ∧ Aside0 (w'.heap[gb186]? = some (.cells #[(.slice A0_0 l0_0.length c0_0), .int .i64 a0_1, .int .i64 a0_2, (.slice A0_3 l0_3.length c0_3), .bool a0_4] 46 (0, 0))) ∧ Aside0 (Below w.heap.size w w'))
 case atStart => exact ⟨(a1), (y187), (by first | rfl | (simp; done) | (simp [*]; done)), H', ⟨Nat.le_refl _⟩, ⟨by (with_reducible repeat (first | apply Kd.R_alloc | apply Kd.R_drewN | apply Kd.R_drew)); exact HO189.out⟩, ⟨by (with_reducible repeat (first | refine blk_drewN ?_ _ | refine blk_drew ?_ | refine blk_alloc ?_ _)); exact BK186.out⟩, ⟨by repeat (first | (with_reducible first | exact HB.out | apply below_alloc | apply pw_below_drewN | apply below_drew1 | refine below_set ?_ GE186.out) | exact HB.out)⟩⟩
 case round =>
  clear H'
  try clear p2
  try clear c5
  obtain ⟨x1_1, x5_1, rfl, HA, HK1, HO_5, BK186, HB⟩ := hrel
  cases gk with
  | zero => exact absurd HA.out (by simp [hackamoreref28_chain.l0])
  | succ k1 =>
   have H := HA.out
   clear HA
   simp only [hackamoreref28_chain.l0] at H
   by_cases c6 : x1_1 = (-1)
   ·rw [if_pos c6] at H
    have c6b0 : (x1_1 == (-1)) = true := beq_iff_eq.mpr c6
    have c6b1 : (x1_1 != (-1)) = false := bne_eq_false_iff_eq.mpr c6
    clear c6
    obtain rfl := Option.some.inj H
    go_wp2
    go_ret
    exact ⟨_, by first | rfl | (simp [errW_none, errW_some] <;> rfl) | (simp [*, errW_none, errW_some] <;> rfl), by (with_reducible repeat (first | apply Kd.R_alloc | apply Kd.R_drewN | apply Kd.R_drew)); exact HO_5.out, by repeat (first | (with_reducible first | exact HB.out | apply below_alloc | apply pw_below_drewN | apply below_drew1 | refine below_set ?_ GE186.out) | exact HB.out)⟩
   ·rw [if_neg c6] at H
    have c6b0 : (x1_1 == (-1)) = false := beq_eq_false_iff_ne.mpr c6
    have c6b1 : (x1_1 != (-1)) = true := bne_iff_ne.mpr c6
    by_cases c7 : x1_1 < 0
    ·rw [if_pos c7] at H
     have c7b0 : decide (x1_1 < 0) = true := decide_eq_true c7
     clear c7
     obtain rfl := Option.some.inj H
     go_wp2
     go_ret
     exact ⟨_, by first | rfl | (simp [errW_none, errW_some] <;> rfl) | (simp [*, errW_none, errW_some] <;> rfl), by first | exact Kd.R_nil _ _ _ _ _ | exact Kd.N_nil _ _ _ _ _ | exact Kd.V_nil _ _ _ _ _ | exact Kd.Q_nil _ _ _ _ _ | exact Kd.S_nil _ _ _ _ _, by repeat (first | (with_reducible first | exact HB.out | apply below_alloc | apply pw_below_drewN | apply below_drew1 | refine below_set ?_ GE186.out) | exact HB.out)⟩
    ·rw [if_neg c7] at H
     have c7b0 : decide (x1_1 < 0) = false := decide_eq_false c7
     clear c7
     by_cases c8 : x1_1 ≥ (l0_0.length : Int)
     ·rw [if_pos c8] at H
      have c8b0 : decide ((l0_0.length : Int) ≤ x1_1) = true := decide_eq_true c8
      clear c8
      obtain rfl := Option.some.inj H
      have hcz9_0 : wr.cell? ⟨gb186, 0, none⟩ = some (.slice A0_0 l0_0.length c0_0) := (blk_cell BK186.out 0).trans rfl
      have hcz9_1 : wr.cell? ⟨gb186, 1, none⟩ = some (.int .i64 a0_1) := (blk_cell BK186.out 1).trans rfl
      have hcz9_2 : wr.cell? ⟨gb186, 2, none⟩ = some (.int .i64 a0_2) := (blk_cell BK186.out 2).trans rfl
      have hcz9_3 : wr.cell? ⟨gb186, 3, none⟩ = some (.slice A0_3 l0_3.length c0_3) := (blk_cell BK186.out 3).trans rfl
      have hcz9_4 : wr.cell? ⟨gb186, 4, none⟩ = some (.bool a0_4) := (blk_cell BK186.out 4).trans rfl
      have hfz9_0 := blk_frozen BK186.out 0
      have hfz9_1 := blk_frozen BK186.out 1
      have hfz9_2 := blk_frozen BK186.out 2
      have hfz9_3 := blk_frozen BK186.out 3
      have hfz9_4 := blk_frozen BK186.out 4
      go_wp2
      go_ret
      exact ⟨_, by first | rfl | (simp [errW_none, errW_some] <;> rfl) | (simp [*, errW_none, errW_some] <;> rfl), by first | exact Kd.R_nil _ _ _ _ _ | exact Kd.N_nil _ _ _ _ _ | exact Kd.V_nil _ _ _ _ _ | exact Kd.Q_nil _ _ _ _ _ | exact Kd.S_nil _ _ _ _ _, by repeat (first | (with_reducible first | exact HB.out | apply below_alloc | apply pw_below_drewN | apply below_drew1 | refine below_set ?_ GE186.out) | exact HB.out)⟩
     ·rw [if_neg c8] at H
      have c8b0 : decide ((l0_0.length : Int) ≤ x1_1) = false := decide_eq_false c8
      clear c8
      by_cases c10 : (x5_1.length : Int) > (l0_0.length : Int)
      ·rw [if_pos c10] at H
       have c10b0 : decide ((l0_0.length : Int) < (x5_1.length : Int)) = true := decide_eq_true c10
       have c10b1 : decide (l0_0.length < x5_1.length) = true := decide_eq_true (Int.ofNat_lt.mp c10)
       clear c10
       obtain rfl := Option.some.inj H
       have hcz11_0 : wr.cell? ⟨gb186, 0, none⟩ = some (.slice A0_0 l0_0.length c0_0) := (blk_cell BK186.out 0).trans rfl
       have hcz11_1 : wr.cell? ⟨gb186, 1, none⟩ = some (.int .i64 a0_1) := (blk_cell BK186.out 1).trans rfl
       have hcz11_2 : wr.cell? ⟨gb186, 2, none⟩ = some (.int .i64 a0_2) := (blk_cell BK186.out 2).trans rfl
       have hcz11_3 : wr.cell? ⟨gb186, 3, none⟩ = some (.slice A0_3 l0_3.length c0_3) := (blk_cell BK186.out 3).trans rfl
       have hcz11_4 : wr.cell? ⟨gb186, 4, none⟩ = some (.bool a0_4) := (blk_cell BK186.out 4).trans rfl
       have hfz11_0 := blk_frozen BK186.out 0
       have hfz11_1 := blk_frozen BK186.out 1
       have hfz11_2 := blk_frozen BK186.out 2
       have hfz11_3 := blk_frozen BK186.out 3
       have hfz11_4 := blk_frozen BK186.out 4
       obtain ⟨Ao12, co12, eo12⟩ := Kd.R_slice HO_5.out
       subst eo12
       go_wp2
       go_ret
       exact ⟨_, by first | rfl | (simp [errW_none, errW_some] <;> rfl) | (simp [*, errW_none, errW_some] <;> rfl), by first | exact Kd.R_nil _ _ _ _ _ | exact Kd.N_nil _ _ _ _ _ | exact Kd.V_nil _ _ _ _ _ | exact Kd.Q_nil _ _ _ _ _ | exact Kd.S_nil _ _ _ _ _, by repeat (first | (with_reducible first | exact HB.out | apply below_alloc | apply pw_below_drewN | apply below_drew1 | refine below_set ?_ GE186.out) | exact HB.out)⟩
      ·rw [if_neg c10] at H
       have c10b0 : decide ((l0_0.length : Int) < (x5_1.length : Int)) = false := decide_eq_false c10
       have c10b1 : decide (l0_0.length < x5_1.length) = false := decide_eq_false (fun h => c10 (Int.ofNat_lt.mpr h))
       clear c10
       by_cases c13 : x5_1.length < 17592186044416
       ·rw [if_pos c13] at H
        have LMc13 := Aside0.mk c13
        clear c13
        obtain ⟨y190, hy190⟩ : ∃ y_ : List Int, y_ = (x5_1 ++ [x1_1]) := ⟨_, rfl⟩
        replace H : (if 0 ≤ x1_1 then (if x1_1 < (l0_0.length : Int) then (hackamoreref28_chain.l0 k1 ((rd_T105 l0_0 x1_1).f2) y190 l0_0 a0_1 a0_2 l0_3 a0_4) else (none)) else (none)) = some r := by first | (rw [hy190]; with_reducible exact H) | (have H2_ := (Option.bind_some _ _).symm.trans H; rw [hy190]; with_reducible exact H2_) | (have H2_ := (Option.bind_some _ _).symm.trans H; with_reducible exact H2_) | with_reducible exact H | (rw [hy190]; exact H) | exact H
        have Ny190 := Aside0.mk hy190
        clear hy190
        by_cases c14 : 0 ≤ x1_1
        ·rw [if_pos c14] at H
         have c14b0 : decide (0 ≤ x1_1) = true := decide_eq_true c14
         clear c14
         by_cases c15 : x1_1 < (l0_0.length : Int)
         ·rw [if_pos c15] at H
          have c15b0 : decide (x1_1 < (l0_0.length : Int)) = true := decide_eq_true c15
          clear c15
          have H' := Aside0.mk H
          clear H
          have hcz16_0 : wr.cell? ⟨gb186, 0, none⟩ = some (.slice A0_0 l0_0.length c0_0) := (blk_cell BK186.out 0).trans rfl
          have hcz16_1 : wr.cell? ⟨gb186, 1, none⟩ = some (.int .i64 a0_1) := (blk_cell BK186.out 1).trans rfl
          have hcz16_2 : wr.cell? ⟨gb186, 2, none⟩ = some (.int .i64 a0_2) := (blk_cell BK186.out 2).trans rfl
          have hcz16_3 : wr.cell? ⟨gb186, 3, none⟩ = some (.slice A0_3 l0_3.length c0_3) := (blk_cell BK186.out 3).trans rfl
          have hcz16_4 : wr.cell? ⟨gb186, 4, none⟩ = some (.bool a0_4) := (blk_cell BK186.out 4).trans rfl
          have hfz16_0 := blk_frozen BK186.out 0
          have hfz16_1 := blk_frozen BK186.out 1
          have hfz16_2 := blk_frozen BK186.out 2
          have hfz16_3 := blk_frozen BK186.out 3
          have hfz16_4 := blk_frozen BK186.out 4
          obtain ⟨Ao17, co17, eo17⟩ := Kd.R_slice HO_5.out
          subst eo17
          go_wp2_with (first | ((with_reducible refine gate_builtin (b := .append) (xs := #[.tmp 26, .tmp 28]) rfl ?_); (try (refine gate_guard (by rfl) ?_; dsimp only)); at_builtin; refine Kd.R_append (Kd.int .i64) (w0 := w) w.heap.size rfl (.tmp 26) (.tmp 28) 30 3 (.int .i64 0) 8 rfl Try.underlying30 info3 rfl (by decide) (by omega) (.slice Ao17 x5_1.length co17) x5_1 x1_1 [.int .i64 x1_1] (fun _ => True) (fun _ => False) rfl rfl ?aP (fun _ hk => hk.elim) ?aF ?aO ?aB ?aS ?aL ?_; (case aP => exact rfl); (case aB => exact (by repeat (first | (with_reducible first | exact HB.out | apply below_alloc | apply pw_below_drewN | apply below_drew1 | refine below_set ?_ GE186.out) | exact HB.out))); (case aF => exact (fun _ _ => trivial)); (case aO => exact (by (with_reducible repeat (first | apply Kd.R_alloc | apply Kd.R_drewN | apply Kd.R_drew)); exact HO_5.out)); (case aS => exact (below_size (by repeat (first | (with_reducible first | exact HB.out | apply below_alloc | apply pw_below_drewN | apply below_drew1 | refine below_set ?_ GE186.out) | exact HB.out)))); (case aL => have := LMc13.out; omega); intro v191 w18 ho hb hg hat; rw [← Ny190.out] at ho; have n0_ := Aside0.mk (blk_grown (g := gb186) (o := .cells #[.slice A0_0 l0_0.length c0_0, .int .i64 a0_1, .int .i64 a0_2, .slice A0_3 l0_3.length c0_3, .bool a0_4] 46 (0, 0)) (by (with_reducible repeat (first | refine blk_drewN ?_ _ | refine blk_drew ?_ | refine blk_alloc ?_ _)); exact BK186.out) hg (Kd.R_ne HO_5.out BK186.out (by decide))); have n1_ := Aside0.mk (hb); have n2_ := Aside0.mk (ho); clear BK186; clear HB; clear HO_5; have BK186 := n0_; have HB := n1_; have HO192 := n2_; clear n0_ n1_ n2_; clear ho hb hg hat; have hcz19_0 : w18.cell? ⟨gb186, 0, none⟩ = some (.slice A0_0 l0_0.length c0_0) := (blk_cell BK186.out 0).trans rfl; have hcz19_1 : w18.cell? ⟨gb186, 1, none⟩ = some (.int .i64 a0_1) := (blk_cell BK186.out 1).trans rfl; have hcz19_2 : w18.cell? ⟨gb186, 2, none⟩ = some (.int .i64 a0_2) := (blk_cell BK186.out 2).trans rfl; have hcz19_3 : w18.cell? ⟨gb186, 3, none⟩ = some (.slice A0_3 l0_3.length c0_3) := (blk_cell BK186.out 3).trans rfl; have hcz19_4 : w18.cell? ⟨gb186, 4, none⟩ = some (.bool a0_4) := (blk_cell BK186.out 4).trans rfl; have hfz19_0 := blk_frozen BK186.out 0; have hfz19_1 := blk_frozen BK186.out 1; have hfz19_2 := blk_frozen BK186.out 2; have hfz19_3 := blk_frozen BK186.out 3; have hfz19_4 := blk_frozen BK186.out 4; have p193 : 0 ≤ (x1_1 : Int) := of_decide_eq_true (by first | (with_reducible assumption) | assumption); have q193 : x1_1 < (l0_0.length : Int) := of_decide_eq_true (by first | (with_reducible assumption) | assumption); obtain ⟨ad193, e193, hx193_0, hx193_1, hx193_2⟩ := at_T105 HR0_0.out x1_1 p193 q193; cases e193; replace hx193_0 := (HB.out.cell (World.block_lt_of_cell? w _ hx193_0)).trans hx193_0; replace hx193_1 := (HB.out.cell (World.block_lt_of_cell? w _ hx193_1)).trans hx193_1; replace hx193_2 := (HB.out.cell (World.block_lt_of_cell? w _ hx193_2)).trans hx193_2; replace p193 := eq_true p193; replace q193 := eq_true q193))
          go_roundg k1
          case measure => have := HK1.out; omega
          case rel => exact ⟨((rd_T105 l0_0 x1_1).f2), (y190), (by first | rfl | (simp; done) | (simp [*]; done)), H', ⟨by have := HK1.out; omega⟩, ⟨by (with_reducible repeat (first | apply Kd.R_alloc | apply Kd.R_drewN | apply Kd.R_drew)); exact HO192.out⟩, ⟨by (with_reducible repeat (first | refine blk_drewN ?_ _ | refine blk_drew ?_ | refine blk_alloc ?_ _)); exact BK186.out⟩, ⟨by repeat (first | (with_reducible first | exact HB.out | apply below_alloc | apply pw_below_drewN | apply below_drew1 | refine below_set ?_ GE186.out) | exact HB.out)⟩⟩
         ·rw [if_neg c15] at H
          exact absurd H (by simp)
        ·rw [if_neg c14] at H
         exact absurd H (by simp)
       ·rw [if_neg c13] at H
        exact absurd H (by simp)
mutual
def hackamoreref28_distinct.l0 : Nat → List Int → Int → Option (List Int)
 | 0, _, _ => none
 | k + 1, x0, x3 => if x3 < (x0.length : Int) then (hackamoreref28_distinct.l1 k x0 x3 0) else (some x0)
def hackamoreref28_distinct.l1 : Nat → List Int → Int → Int → Option (List Int)
 | 0, _, _, _ => none
 | k + 1, x0, x3, x4 => if x4 < x3 then (if 0 ≤ x3 then (if x3 < (x0.length : Int) then (if 0 ≤ x4 then (if x4 < (x0.length : Int) then (if (rd x0 x3) = (rd x0 x4) then (some ([] : List Int)) else (hackamoreref28_distinct.l1 k x0 x3 (wrap64 (x4 + 1)))) else (none)) else (none)) else (none)) else (none)) else (hackamoreref28_distinct.l0 k x0 (wrap64 (x3 + 1)))
end
def hackamoreref28_distinct.f (k : Nat) (l0 : List Int) : Option (List Int) := hackamoreref28_distinct.l0 k l0 0
set_option maxHeartbeats 8000000 in
set_option maxRecDepth 100000 in
theorem hackamoreref28_distinct.calls (k : Nat) (P0_ : Nat → Prop) (u9000_ : Value) (l0 : List Int) (r : List Int) (w0 w : World) (hB : Below w0.heap.size w0 w) (ho0 : Kd.R (Kd.int .i64) 3 w w0.heap.size P0_ u9000_ l0) (h : hackamoreref28_distinct.f k l0 = some r) :
  Calls Try.prog 67 #[u9000_] w fun e w' => ∃ v0_ : Value, e = .returned (v0_) ∧ Kd.R (Kd.int .i64) 3 w' w0.heap.size (fun k_ => (P0_ k_ ∨ w.heap.size ≤ k_)) v0_ r ∧ Below w0.heap.size w0 w' ∧ Kept w w' (fun k_ => P0_ k_) := by
 have HO0 := Aside0.mk (show Kd.R (Kd.int .i64) 3 w w0.heap.size (fun k_ => (P0_ k_ ∨ w.heap.size ≤ k_)) u9000_ l0 from Kd.R_mono ho0 (fun k_ hk => (.inl hk)))
 have HK := Aside0.mk (Kept.refl w (fun k_ => P0_ k_))
 have HW0 := Aside0.mk hB.size
 have HB := Aside0.mk hB
 clear hB
 have H : (hackamoreref28_distinct.l0 k l0 0) = some r := h
 clear h
 have H' := Aside0.mk H
 clear H
 go_enter Try.func67, Try.ntmps67
 go_wp2
 repeat (go_quiet (fail); try go_wp2)
 go_loopg [3] k (fun kq v3 w' => ∃ (x3_1 : Int), v3 = .int .i64 x3_1 ∧ Aside0 (hackamoreref28_distinct.l0 kq l0 x3_1 = some r) ∧ Aside0 (kq ≤ k) ∧ Aside0 (Kd.R (Kd.int .i64) 3 w' w0.heap.size (fun k_ => (P0_ k_ ∨ w.heap.size ≤ k_)) u9000_ l0) ∧ Aside0 (Kept w w' (fun k_ => P0_ k_)) ∧ Aside0 (Below w0.heap.size w0 w'))
 case atStart => exact ⟨(0), (by first | rfl | (simp; done) | (simp [*]; done)), H', ⟨Nat.le_refl _⟩, ⟨by (with_reducible repeat (first | apply Kd.R_alloc | apply Kd.R_drewN | apply Kd.R_drew)); exact HO0.out⟩, ⟨by repeat (first | (with_reducible first | exact HK.out | apply Kept.alloc | apply Kept.drewN | apply Kept.drew) | exact HK.out)⟩, ⟨by repeat (first | (with_reducible first | exact HB.out | apply below_alloc | apply pw_below_drewN | apply below_drew1) | exact HB.out)⟩⟩
 case round =>
  clear H'
  obtain ⟨x3_1, rfl, HA, HK1, HO_0, HK, HB⟩ := hrel
  cases gk with
  | zero => exact absurd HA.out (by simp [hackamoreref28_distinct.l0])
  | succ k1 =>
   have H := HA.out
   clear HA
   simp only [hackamoreref28_distinct.l0] at H
   by_cases c2 : x3_1 < (l0.length : Int)
   ·rw [if_pos c2] at H
    have c2b0 : decide (x3_1 < (l0.length : Int)) = true := decide_eq_true c2
    clear c2
    have H' := Aside0.mk H
    clear H
    obtain ⟨Ao3, co3, eo3⟩ := Kd.R_slice HO_0.out
    subst eo3
    go_wp2
    repeat (go_quiet (fail); try go_wp2)
    go_loopg [4] k1 (fun kq v4 w' => ∃ (x4_2 : Int), v4 = .int .i64 x4_2 ∧ Aside0 (hackamoreref28_distinct.l1 kq l0 x3_1 x4_2 = some r) ∧ Aside0 (kq ≤ k1) ∧ Aside0 (Kd.R (Kd.int .i64) 3 w' w0.heap.size (fun k_ => (P0_ k_ ∨ w.heap.size ≤ k_)) (.slice Ao3 l0.length co3) l0) ∧ Aside0 (Kept w w' (fun k_ => P0_ k_)) ∧ Aside0 (Below w0.heap.size w0 w'))
    case atStart => exact ⟨(0), (by first | rfl | (simp; done) | (simp [*]; done)), H', ⟨Nat.le_refl _⟩, ⟨by (with_reducible repeat (first | apply Kd.R_alloc | apply Kd.R_drewN | apply Kd.R_drew)); exact HO_0.out⟩, ⟨by repeat (first | (with_reducible first | exact HK.out | apply Kept.alloc | apply Kept.drewN | apply Kept.drew) | exact HK.out)⟩, ⟨by repeat (first | (with_reducible first | exact HB.out | apply below_alloc | apply pw_below_drewN | apply below_drew1) | exact HB.out)⟩⟩
    case round =>
     clear H'
     try clear c2
     try clear c2b0
     try clear p2
     obtain ⟨x4_2, rfl, HA, HK2, HO_0, HK, HB⟩ := hrel
     cases gk with
     | zero => exact absurd HA.out (by simp [hackamoreref28_distinct.l1])
     | succ k2 =>
      have H := HA.out
      clear HA
      simp only [hackamoreref28_distinct.l1] at H
      by_cases c4 : x4_2 < x3_1
      ·rw [if_pos c4] at H
       have c4b0 : decide (x4_2 < x3_1) = true := decide_eq_true c4
       clear c4
       by_cases c5 : 0 ≤ x3_1
       ·rw [if_pos c5] at H
        have c5b0 : decide (0 ≤ x3_1) = true := decide_eq_true c5
        clear c5
        by_cases c6 : x3_1 < (l0.length : Int)
        ·rw [if_pos c6] at H
         have c6b0 : decide (x3_1 < (l0.length : Int)) = true := decide_eq_true c6
         clear c6
         by_cases c7 : 0 ≤ x4_2
         ·rw [if_pos c7] at H
          have c7b0 : decide (0 ≤ x4_2) = true := decide_eq_true c7
          clear c7
          by_cases c8 : x4_2 < (l0.length : Int)
          ·rw [if_pos c8] at H
           have c8b0 : decide (x4_2 < (l0.length : Int)) = true := decide_eq_true c8
           clear c8
           by_cases c9 : (rd l0 x3_1) = (rd l0 x4_2)
           ·rw [if_pos c9] at H
            have c9b0 : ((rd l0 x3_1) == (rd l0 x4_2)) = true := beq_iff_eq.mpr c9
            have c9b1 : ((rd l0 x3_1) != (rd l0 x4_2)) = false := bne_eq_false_iff_eq.mpr c9
            clear c9
            obtain rfl := Option.some.inj H
            have p194 : 0 ≤ (x3_1 : Int) := of_decide_eq_true (by first | (with_reducible assumption) | assumption)
            have q194 : x3_1 < (l0.length : Int) := of_decide_eq_true (by first | (with_reducible assumption) | assumption)
            obtain ⟨ad194, e194, hx194_0⟩ := Kd.at_int (Kd.R_reads' HO_0.out).2.2 x3_1 p194 q194
            cases e194
            replace p194 := eq_true p194
            replace q194 := eq_true q194
            have p195 : 0 ≤ (x4_2 : Int) := of_decide_eq_true (by first | (with_reducible assumption) | assumption)
            have q195 : x4_2 < (l0.length : Int) := of_decide_eq_true (by first | (with_reducible assumption) | assumption)
            obtain ⟨ad195, e195, hx195_0⟩ := Kd.at_int (Kd.R_reads' HO_0.out).2.2 x4_2 p195 q195
            obtain rfl : ad194 = ad195 := (by injection e195)
            replace p195 := eq_true p195
            replace q195 := eq_true q195
            go_wp2
            repeat (go_quiet (fail); try go_wp2)
            go_ret
            exact ⟨_, by first | rfl | (simp [errW_none, errW_some] <;> rfl) | (simp [*, errW_none, errW_some] <;> rfl), by first | exact Kd.R_nil _ _ _ _ _ | exact Kd.N_nil _ _ _ _ _ | exact Kd.V_nil _ _ _ _ _ | exact Kd.Q_nil _ _ _ _ _ | exact Kd.S_nil _ _ _ _ _, by repeat (first | (with_reducible first | exact HB.out | apply below_alloc | apply pw_below_drewN | apply below_drew1) | exact HB.out), by repeat (first | (with_reducible first | exact HK.out | apply Kept.alloc | apply Kept.drewN | apply Kept.drew) | exact HK.out)⟩
           ·rw [if_neg c9] at H
            have c9b0 : ((rd l0 x3_1) == (rd l0 x4_2)) = false := beq_eq_false_iff_ne.mpr c9
            have c9b1 : ((rd l0 x3_1) != (rd l0 x4_2)) = true := bne_iff_ne.mpr c9
            have H' := Aside0.mk H
            clear H
            have p194 : 0 ≤ (x3_1 : Int) := of_decide_eq_true (by first | (with_reducible assumption) | assumption)
            have q194 : x3_1 < (l0.length : Int) := of_decide_eq_true (by first | (with_reducible assumption) | assumption)
            obtain ⟨ad194, e194, hx194_0⟩ := Kd.at_int (Kd.R_reads' HO_0.out).2.2 x3_1 p194 q194
            cases e194
            replace p194 := eq_true p194
            replace q194 := eq_true q194
            have p195 : 0 ≤ (x4_2 : Int) := of_decide_eq_true (by first | (with_reducible assumption) | assumption)
            have q195 : x4_2 < (l0.length : Int) := of_decide_eq_true (by first | (with_reducible assumption) | assumption)
            obtain ⟨ad195, e195, hx195_0⟩ := Kd.at_int (Kd.R_reads' HO_0.out).2.2 x4_2 p195 q195
            obtain rfl : ad194 = ad195 := (by injection e195)
            replace p195 := eq_true p195
            replace q195 := eq_true q195
            go_wp2
            repeat (go_quiet (fail); try go_wp2)
            go_roundg k2
            case measure => have := HK1.out; have := HK2.out; omega
            case rel => exact ⟨(wrap64 (x4_2 + 1)), (by first | rfl | (simp; done) | (simp [*]; done)), H', ⟨by have := HK1.out; have := HK2.out; omega⟩, ⟨by (with_reducible repeat (first | apply Kd.R_alloc | apply Kd.R_drewN | apply Kd.R_drew)); exact HO_0.out⟩, ⟨by repeat (first | (with_reducible first | exact HK.out | apply Kept.alloc | apply Kept.drewN | apply Kept.drew) | exact HK.out)⟩, ⟨by repeat (first | (with_reducible first | exact HB.out | apply below_alloc | apply pw_below_drewN | apply below_drew1) | exact HB.out)⟩⟩
          ·rw [if_neg c8] at H
           exact absurd H (by simp)
         ·rw [if_neg c7] at H
          exact absurd H (by simp)
        ·rw [if_neg c6] at H
         exact absurd H (by simp)
       ·rw [if_neg c5] at H
        exact absurd H (by simp)
      ·rw [if_neg c4] at H
       have c4b0 : decide (x4_2 < x3_1) = false := decide_eq_false c4
       clear c4
       have H' := Aside0.mk H
       clear H
       go_wp2
       repeat (go_quiet (fail); try go_wp2)
       go_roundg k2
       case measure => have := HK1.out; have := HK2.out; omega
       case rel => exact ⟨(wrap64 (x3_1 + 1)), (by first | rfl | (simp; done) | (simp [*]; done)), H', ⟨by have := HK1.out; have := HK2.out; omega⟩, ⟨by (with_reducible repeat (first | apply Kd.R_alloc | apply Kd.R_drewN | apply Kd.R_drew)); exact HO_0.out⟩, ⟨by repeat (first | (with_reducible first | exact HK.out | apply Kept.alloc | apply Kept.drewN | apply Kept.drew) | exact HK.out)⟩, ⟨by repeat (first | (with_reducible first | exact HB.out | apply below_alloc | apply pw_below_drewN | apply below_drew1) | exact HB.out)⟩⟩
   ·rw [if_neg c2] at H
    have c2b0 : decide (x3_1 < (l0.length : Int)) = false := decide_eq_false c2
    clear c2
    obtain rfl := Option.some.inj H
    obtain ⟨Ao10, co10, eo10⟩ := Kd.R_slice HO_0.out
    subst eo10
    go_wp2
    repeat (go_quiet (fail); try go_wp2)
    go_ret
    exact ⟨_, by first | rfl | (simp [errW_none, errW_some] <;> rfl) | (simp [*, errW_none, errW_some] <;> rfl), by (with_reducible repeat (first | apply Kd.R_alloc | apply Kd.R_drewN | apply Kd.R_drew)); exact HO_0.out, by repeat (first | (with_reducible first | exact HB.out | apply below_alloc | apply pw_below_drewN | apply below_drew1) | exact HB.out), by repeat (first | (with_reducible first | exact HK.out | apply Kept.alloc | apply Kept.drewN | apply Kept.drew) | exact HK.out)⟩
end Go.Proofs.Ytgbafpjeapkklaa.PMailboxRuns
namespace Go.Proofs.Ytgbafpjeapkklaa.PMailboxRuns
open Go.RowKit Go.Proofs.YtgbafpjeapkklaaW.PrintWords Go.Proofs.YtgbafpjeapkklaaW.PrintLast Go.Proofs.YtgbafpjeapkklaaW.PrintMore
attribute [local go_sem] max2_int min2_int max_two min_two max_three min_three max_four min_four
set_option linter.unusedVariables false
set_option linter.unusedSimpArgs false
mutual
def hackamoreref28_Order.l0 : Nat → List Int → Int → Int → List (S105) → Int → Int → List (S122) → Bool → Option (List Int)
 | 0, _, _, _, _, _, _, _, _ => none
 | k + 1, x3, x4, x5, x197000, x197001, x197002, x197003, x197004 => (hackamoreref28_chain.f k x197000 x197001 x197002 x197003 x197004 x5).bind fun t200 => (if (t200.length : Int) = 0 then (some ([] : List Int)) else (if x3.length + t200.length < 17592186044416 then ((some (x3 ++ t200 : List Int)).bind fun y203 => (if (y203.length : Int) > (x197000.length : Int) then (some ([] : List Int)) else (if 0 ≤ (wrap64 ((t200.length : Int) - 1)) then (if (wrap64 ((t200.length : Int) - 1)) < (t200.length : Int) then (hackamoreref28_Order.l1 k y203 x4 (rd t200 (wrap64 ((t200.length : Int) - 1))) (-1) 0 x197000 x197001 x197002 x197003 x197004) else (none)) else (none)))) else (none)))
def hackamoreref28_Order.l1 : Nat → List Int → Int → Int → Int → Int → List (S105) → Int → Int → List (S122) → Bool → Option (List Int)
 | 0, _, _, _, _, _, _, _, _, _, _ => none
 | k + 1, x3, x4, x7, x8, x9, x197000, x197001, x197002, x197003, x197004 => if x9 < (x197003.length : Int) then (if 0 ≤ x9 then (if ((rd_T122 x197003 x9).f1) = x7 then (if x8 ≥ 0 then (some ([] : List Int)) else (hackamoreref28_Order.l1 k x3 x4 x7 x9 (wrap64 (x9 + 1)) x197000 x197001 x197002 x197003 x197004)) else (hackamoreref28_Order.l1 k x3 x4 x7 x8 (wrap64 (x9 + 1)) x197000 x197001 x197002 x197003 x197004)) else (none)) else (if x8 < 0 then (if x7 = x197001 then (if x4 = (x197003.length : Int) then (hackamoreref28_Order.j2 k x3 ((x3.length : Int) != (x197000.length : Int))) else (hackamoreref28_Order.j2 k x3 true)) else (hackamoreref28_Order.j2 k x3 true)) else (if x7 = x197001 then (some ([] : List Int)) else (if 0 ≤ x8 then (if x8 < (x197003.length : Int) then (hackamoreref28_Order.l0 k x3 (wrap64 (x4 + 1)) ((rd_T122 x197003 x8).f2) x197000 x197001 x197002 x197003 x197004) else (none)) else (none))))
def hackamoreref28_Order.j2 : Nat → List Int → Bool → Option (List Int)
 | 0, _, _ => none
 | k + 1, x3, x70 => if x70 = true then (some ([] : List Int)) else ((hackamoreref28_distinct.f k x3).bind fun t208 => (some t208))
end
def hackamoreref28_Order.f (k : Nat) (l0_0 : List (S105)) (a0_1 : Int) (a0_2 : Int) (l0_3 : List (S122)) (a0_4 : Bool) : Option (List Int) := hackamoreref28_Order.l0 k (([] : List Int)) 0 0 l0_0 a0_1 a0_2 l0_3 a0_4
set_option maxHeartbeats 8000000 in
set_option maxRecDepth 100000 in
theorem hackamoreref28_Order.calls (k : Nat) (A0_0 : Option Addr) (c0_0 : Nat) (l0_0 : List (S105)) (a0_1 : Int) (a0_2 : Int) (A0_3 : Option Addr) (c0_3 : Nat) (l0_3 : List (S122)) (a0_4 : Bool) (r : List Int) (w : World) (hr0_0 : Kd.C k105 w A0_0 l0_0.length l0_0) (hc0_0 : l0_0.length ≤ c0_0) (hr0_3 : Kd.C k122 w A0_3 l0_3.length l0_3) (hc0_3 : l0_3.length ≤ c0_3) (h : hackamoreref28_Order.f k l0_0 a0_1 a0_2 l0_3 a0_4 = some r) :
  Calls Try.prog 55 #[.agg #[.slice A0_0 l0_0.length c0_0, .int .i64 a0_1, .int .i64 a0_2, .slice A0_3 l0_3.length c0_3, .bool a0_4]] w fun e w' => ∃ v0_ : Value, e = .returned (v0_) ∧ Kd.R (Kd.int .i64) 3 w' w.heap.size (fun _ => True) v0_ r ∧ Below w.heap.size w w' := by
 have hu46 := Try.underlying46
 have HR0_0 := Aside0.mk hr0_0
 have HC0_0 := Aside0.mk hc0_0
 clear hr0_0 hc0_0
 have HR0_3 := Aside0.mk hr0_3
 have HC0_3 := Aside0.mk hc0_3
 clear hr0_3 hc0_3
 have HB := Aside0.mk (Below.refl w.heap.size w)
 have H : (hackamoreref28_Order.l0 k (([] : List Int)) 0 0 l0_0 a0_1 a0_2 l0_3 a0_4) = some r := h
 clear h
 obtain ⟨y197, hy197⟩ : ∃ y_ : List Int, y_ = (([] : List Int)) := ⟨_, rfl⟩
 replace H : (hackamoreref28_Order.l0 k y197 0 0 l0_0 a0_1 a0_2 l0_3 a0_4) = some r := by first | (rw [hy197]; with_reducible exact H) | (have H2_ := (Option.bind_some _ _).symm.trans H; rw [hy197]; with_reducible exact H2_) | (have H2_ := (Option.bind_some _ _).symm.trans H; with_reducible exact H2_) | with_reducible exact H | (rw [hy197]; exact H) | exact H
 have Ny197 := Aside0.mk hy197
 clear hy197
 have H' := Aside0.mk H
 clear H
 go_enter Try.func55, Try.ntmps55
 go_wp2_with (first | ((with_reducible refine gate_dst (N := 1) rfl ?_); (try (refine gate_guard (by rfl) ?_; dsimp only)); refine box_event ?hg (N := 1) ?hd (cs := #[.slice A0_0 l0_0.length c0_0, .int .i64 a0_1, .int .i64 a0_2, .slice A0_3 l0_3.length c0_3, .bool a0_4]) (t := 46) ?hr ?_; (case hd => rfl); (case hg => rfl); (case hr => first | (go_simp; done) | (go_simp; rfl)); intro gb196 hg w2 hbox hb; have n0_ := Aside0.mk (below_step (by repeat (first | (with_reducible first | exact HB.out | apply below_alloc | apply pw_below_drewN | apply below_drew1) | exact HB.out)) hb); have n1_ := Aside0.mk (hbox); have n2_ := Aside0.mk ((by rw [hg]; exact (below_size (by repeat (first | (with_reducible first | exact HB.out | apply below_alloc | apply pw_below_drewN | apply below_drew1) | exact HB.out))) : w.heap.size ≤ gb196)); have n3_ := Aside0.mk ((by rw [hg]; exact (below_size (by repeat (first | (with_reducible first | exact HB.out | apply below_alloc | apply pw_below_drewN | apply below_drew1) | exact HB.out))) : w.heap.size ≤ gb196)); clear HB; have HB := n0_; have BK196 := n1_; have GW196 := n2_; have GE196 := n3_; clear n0_ n1_ n2_ n3_; clear hb hbox hg) | ((with_reducible refine gate_dst (N := 10) rfl ?_); (try (refine gate_guard (by rfl) ?_; dsimp only)); refine Kd.R_lit (Kd.int .i64) _ 3 ?hg (N := 10) ?hd (xs := ([] : List Int)) (inner := []) (ok := fun _ => True) (okp := fun _ => True) ?hr ?hp (fun _ hk => hk) trivial (Below.refl _ _) (Nat.le_refl _) (by simp) ?_; (case hd => rfl); (case hg => rfl); (case hr => first | (go_simp; done) | (go_simp; rfl)); (case hp => exact (Reps.none _ _)); intro v198 w3 ho4 hb hg_ hnew_; clear hg_ hnew_; (first | rw [← Ny197.out] at ho4 | (simp only [Int.reduceToNat] at ho4; rw [← Ny197.out] at ho4)); have n0_ := Aside0.mk (Kd.R_lower ho4 (below_size (by repeat (first | (with_reducible first | exact HB.out | apply below_alloc | apply pw_below_drewN | apply below_drew1 | refine below_set ?_ GE196.out) | exact HB.out)))); have n1_ := Aside0.mk (blk_below (g := gb196) (o := .cells #[.slice A0_0 l0_0.length c0_0, .int .i64 a0_1, .int .i64 a0_2, .slice A0_3 l0_3.length c0_3, .bool a0_4] 46 (0, 0)) (by (with_reducible repeat (first | refine blk_drewN ?_ _ | refine blk_drew ?_ | refine blk_alloc ?_ _)); exact BK196.out) hb); have n2_ := Aside0.mk (below_step (by repeat (first | (with_reducible first | exact HB.out | apply below_alloc | apply pw_below_drewN | apply below_drew1 | refine below_set ?_ GE196.out) | exact HB.out)) hb); clear BK196; clear HB; have HO199 := n0_; have BK196 := n1_; have HB := n2_; clear n0_ n1_ n2_; clear hb ho4))
 go_loopg [3, 4, 5] k (fun kq v3 v4 v5 w' => ∃ (x3_1 : List Int) (x4_1 : Int) (x5_1 : Int), v4 = .int .i64 x4_1 ∧ v5 = .int .i64 x5_1 ∧ Aside0 (hackamoreref28_Order.l0 kq x3_1 x4_1 x5_1 l0_0 a0_1 a0_2 l0_3 a0_4 = some r) ∧ Aside0 (kq ≤ k) ∧ Aside0 (Kd.R (Kd.int .i64) 3 w' w.heap.size (fun _ => True) v3 x3_1) ∧ Aside0 (w'.heap[gb196]? = some (.cells #[(.slice A0_0 l0_0.length c0_0), .int .i64 a0_1, .int .i64 a0_2, (.slice A0_3 l0_3.length c0_3), .bool a0_4] 46 (0, 0))) ∧ Aside0 (Below w.heap.size w w'))
 case atStart => exact ⟨(y197), (0), (0), (by first | rfl | (simp; done) | (simp [*]; done)), (by first | rfl | (simp; done) | (simp [*]; done)), H', ⟨Nat.le_refl _⟩, ⟨by (with_reducible repeat (first | apply Kd.R_alloc | apply Kd.R_drewN | apply Kd.R_drew)); exact HO199.out⟩, ⟨by (with_reducible repeat (first | refine blk_drewN ?_ _ | refine blk_drew ?_ | refine blk_alloc ?_ _)); exact BK196.out⟩, ⟨by repeat (first | (with_reducible first | exact HB.out | apply below_alloc | apply pw_below_drewN | apply below_drew1 | refine below_set ?_ GE196.out) | exact HB.out)⟩⟩
 case round =>
  clear H'
  try clear p2
  obtain ⟨x3_1, x4_1, x5_1, rfl, rfl, HA, HK1, HO_3, BK196, HB⟩ := hrel
  cases gk with
  | zero => exact absurd HA.out (by simp [hackamoreref28_Order.l0])
  | succ k1 =>
   have H := HA.out
   clear HA
   simp only [hackamoreref28_Order.l0] at H
   replace H := Option.bind_eq_some_iff.mp H
   obtain ⟨t200, A50, H⟩ := H
   replace H : (if (t200.length : Int) = 0 then (some ([] : List Int)) else (if x3_1.length + t200.length < 17592186044416 then ((some (x3_1 ++ t200 : List Int)).bind fun y203 => (if (y203.length : Int) > (l0_0.length : Int) then (some ([] : List Int)) else (if 0 ≤ (wrap64 ((t200.length : Int) - 1)) then (if (wrap64 ((t200.length : Int) - 1)) < (t200.length : Int) then (hackamoreref28_Order.l1 k1 y203 x4_1 (rd t200 (wrap64 ((t200.length : Int) - 1))) (-1) 0 l0_0 a0_1 a0_2 l0_3 a0_4) else (none)) else (none)))) else (none))) = some r := H
   have A5 := Aside0.mk A50
   clear A50
   by_cases c6 : (t200.length : Int) = 0
   ·rw [if_pos c6] at H
    have c6b0 : ((t200.length : Int) == 0) = true := beq_iff_eq.mpr c6
    have c6b1 : ((t200.length : Int) != 0) = false := bne_eq_false_iff_eq.mpr c6
    clear c6
    obtain rfl := Option.some.inj H
    have hcz7_0 : wr.cell? ⟨gb196, 0, none⟩ = some (.slice A0_0 l0_0.length c0_0) := (blk_cell BK196.out 0).trans rfl
    have hcz7_1 : wr.cell? ⟨gb196, 1, none⟩ = some (.int .i64 a0_1) := (blk_cell BK196.out 1).trans rfl
    have hcz7_2 : wr.cell? ⟨gb196, 2, none⟩ = some (.int .i64 a0_2) := (blk_cell BK196.out 2).trans rfl
    have hcz7_3 : wr.cell? ⟨gb196, 3, none⟩ = some (.slice A0_3 l0_3.length c0_3) := (blk_cell BK196.out 3).trans rfl
    have hcz7_4 : wr.cell? ⟨gb196, 4, none⟩ = some (.bool a0_4) := (blk_cell BK196.out 4).trans rfl
    have hfz7_0 := blk_frozen BK196.out 0
    have hfz7_1 := blk_frozen BK196.out 1
    have hfz7_2 := blk_frozen BK196.out 2
    have hfz7_3 := blk_frozen BK196.out 3
    have hfz7_4 := blk_frozen BK196.out 4
    go_wp2_with (first | ((with_reducible refine gate_callee (f := 56) rfl ?_); refine goesL_ (some 13) rfl rfl Try.func56 (by kernel_rfl) rfl #[.agg #[.slice A0_0 l0_0.length c0_0, .int .i64 a0_1, .int .i64 a0_2, .slice A0_3 l0_3.length c0_3, .bool a0_4], .int .i64 x5_1] rfl (by (try simp only [List.map_toArray, List.map_cons, List.map_nil]); first | done | rfl | (simp only [List.length_drop, List.length_take]; rfl)) ?_; (with_reducible refine (hackamoreref28_chain.calls k1 _ _ l0_0 a0_1 a0_2 _ _ l0_3 a0_4 x5_1 t200 _ ?side1 ?side2 ?side3 ?side4 A5.out).mono ?_); (case side1 => repeat (first | exact (Kd.C_below HR0_0.out HB.out) | (with_reducible refine Kd.C_alloc ?_ _) | (with_reducible refine Kd.C_drewN ?_ _) | (with_reducible refine Kd.C_drew ?_))); (case side2 => exact HC0_0.out); (case side3 => repeat (first | exact (Kd.C_below HR0_3.out HB.out) | (with_reducible refine Kd.C_alloc ?_ _) | (with_reducible refine Kd.C_drewN ?_ _) | (with_reducible refine Kd.C_drew ?_))); (case side4 => exact HC0_3.out); rintro e w8 ⟨v201, rfl, ho0, hb⟩; refine ⟨_, rfl, ?_⟩; have n0_ := Aside0.mk (Kd.R_elder' (by (with_reducible repeat (first | apply Kd.R_alloc | apply Kd.R_drewN | apply Kd.R_drew)); exact HO_3.out) (Kd.R_base ho0) hb); have n1_ := Aside0.mk (Kd.R_lower (Kd.R_new' ho0 (Kd.R_lt (by (with_reducible repeat (first | apply Kd.R_alloc | apply Kd.R_drewN | apply Kd.R_drew)); exact HO_3.out))) (below_size (by repeat (first | (with_reducible first | exact HB.out | apply below_alloc | apply pw_below_drewN | apply below_drew1 | refine below_set ?_ GE196.out) | exact HB.out)))); have n2_ := Aside0.mk (blk_below (g := gb196) (o := .cells #[.slice A0_0 l0_0.length c0_0, .int .i64 a0_1, .int .i64 a0_2, .slice A0_3 l0_3.length c0_3, .bool a0_4] 46 (0, 0)) (by (with_reducible repeat (first | refine blk_drewN ?_ _ | refine blk_drew ?_ | refine blk_alloc ?_ _)); exact BK196.out) hb); have n3_ := Aside0.mk (below_step (by repeat (first | (with_reducible first | exact HB.out | apply below_alloc | apply pw_below_drewN | apply below_drew1 | refine below_set ?_ GE196.out) | exact HB.out)) hb); clear HO_3; clear BK196; clear HB; have HO_3 := n0_; have HO202 := n1_; have BK196 := n2_; have HB := n3_; clear n0_ n1_ n2_ n3_; (try clear hb); (try clear hb2); (try clear hk); (try clear hi); (try clear ho0); obtain ⟨Ao9, co9, eo9⟩ := Kd.R_slice HO202.out; subst eo9))
    go_ret
    exact ⟨_, by first | rfl | (simp [errW_none, errW_some] <;> rfl) | (simp [*, errW_none, errW_some] <;> rfl), by first | exact Kd.R_nil _ _ _ _ _ | exact Kd.N_nil _ _ _ _ _ | exact Kd.V_nil _ _ _ _ _ | exact Kd.Q_nil _ _ _ _ _ | exact Kd.S_nil _ _ _ _ _, by repeat (first | (with_reducible first | exact HB.out | apply below_alloc | apply pw_below_drewN | apply below_drew1 | refine below_set ?_ GE196.out) | exact HB.out)⟩
   ·rw [if_neg c6] at H
    have c6b0 : ((t200.length : Int) == 0) = false := beq_eq_false_iff_ne.mpr c6
    have c6b1 : ((t200.length : Int) != 0) = true := bne_iff_ne.mpr c6
    have c6b2 : ¬ (t200 = []) := fun h_ => c6 (by rw [h_]; rfl)
    by_cases c10 : x3_1.length + t200.length < 17592186044416
    ·rw [if_pos c10] at H
     have LMc10 := Aside0.mk c10
     clear c10
     obtain ⟨y203, hy203⟩ : ∃ y_ : List Int, y_ = (x3_1 ++ t200) := ⟨_, rfl⟩
     replace H : (if (y203.length : Int) > (l0_0.length : Int) then (some ([] : List Int)) else (if 0 ≤ (wrap64 ((t200.length : Int) - 1)) then (if (wrap64 ((t200.length : Int) - 1)) < (t200.length : Int) then (hackamoreref28_Order.l1 k1 y203 x4_1 (rd t200 (wrap64 ((t200.length : Int) - 1))) (-1) 0 l0_0 a0_1 a0_2 l0_3 a0_4) else (none)) else (none))) = some r := by first | (rw [hy203]; with_reducible exact H) | (have H2_ := (Option.bind_some _ _).symm.trans H; rw [hy203]; with_reducible exact H2_) | (have H2_ := (Option.bind_some _ _).symm.trans H; with_reducible exact H2_) | with_reducible exact H | (rw [hy203]; exact H) | exact H
     have Ny203 := Aside0.mk hy203
     clear hy203
     by_cases c11 : (y203.length : Int) > (l0_0.length : Int)
     ·rw [if_pos c11] at H
      have c11b0 : decide ((l0_0.length : Int) < (y203.length : Int)) = true := decide_eq_true c11
      have c11b1 : decide (l0_0.length < y203.length) = true := decide_eq_true (Int.ofNat_lt.mp c11)
      clear c11
      obtain rfl := Option.some.inj H
      have hcz12_0 : wr.cell? ⟨gb196, 0, none⟩ = some (.slice A0_0 l0_0.length c0_0) := (blk_cell BK196.out 0).trans rfl
      have hcz12_1 : wr.cell? ⟨gb196, 1, none⟩ = some (.int .i64 a0_1) := (blk_cell BK196.out 1).trans rfl
      have hcz12_2 : wr.cell? ⟨gb196, 2, none⟩ = some (.int .i64 a0_2) := (blk_cell BK196.out 2).trans rfl
      have hcz12_3 : wr.cell? ⟨gb196, 3, none⟩ = some (.slice A0_3 l0_3.length c0_3) := (blk_cell BK196.out 3).trans rfl
      have hcz12_4 : wr.cell? ⟨gb196, 4, none⟩ = some (.bool a0_4) := (blk_cell BK196.out 4).trans rfl
      have hfz12_0 := blk_frozen BK196.out 0
      have hfz12_1 := blk_frozen BK196.out 1
      have hfz12_2 := blk_frozen BK196.out 2
      have hfz12_3 := blk_frozen BK196.out 3
      have hfz12_4 := blk_frozen BK196.out 4
      go_wp2_with (first | ((with_reducible refine gate_callee (f := 56) rfl ?_); refine goesL_ (some 13) rfl rfl Try.func56 (by kernel_rfl) rfl #[.agg #[.slice A0_0 l0_0.length c0_0, .int .i64 a0_1, .int .i64 a0_2, .slice A0_3 l0_3.length c0_3, .bool a0_4], .int .i64 x5_1] rfl (by (try simp only [List.map_toArray, List.map_cons, List.map_nil]); first | done | rfl | (simp only [List.length_drop, List.length_take]; rfl)) ?_; (with_reducible refine (hackamoreref28_chain.calls k1 _ _ l0_0 a0_1 a0_2 _ _ l0_3 a0_4 x5_1 t200 _ ?side1 ?side2 ?side3 ?side4 A5.out).mono ?_); (case side1 => repeat (first | exact (Kd.C_below HR0_0.out HB.out) | (with_reducible refine Kd.C_alloc ?_ _) | (with_reducible refine Kd.C_drewN ?_ _) | (with_reducible refine Kd.C_drew ?_))); (case side2 => exact HC0_0.out); (case side3 => repeat (first | exact (Kd.C_below HR0_3.out HB.out) | (with_reducible refine Kd.C_alloc ?_ _) | (with_reducible refine Kd.C_drewN ?_ _) | (with_reducible refine Kd.C_drew ?_))); (case side4 => exact HC0_3.out); rintro e w13 ⟨v201, rfl, ho0, hb⟩; refine ⟨_, rfl, ?_⟩; have n0_ := Aside0.mk (Kd.R_elder' (by (with_reducible repeat (first | apply Kd.R_alloc | apply Kd.R_drewN | apply Kd.R_drew)); exact HO_3.out) (Kd.R_base ho0) hb); have n1_ := Aside0.mk (Kd.R_lower (Kd.R_new' ho0 (Kd.R_lt (by (with_reducible repeat (first | apply Kd.R_alloc | apply Kd.R_drewN | apply Kd.R_drew)); exact HO_3.out))) (below_size (by repeat (first | (with_reducible first | exact HB.out | apply below_alloc | apply pw_below_drewN | apply below_drew1 | refine below_set ?_ GE196.out) | exact HB.out)))); have n2_ := Aside0.mk (blk_below (g := gb196) (o := .cells #[.slice A0_0 l0_0.length c0_0, .int .i64 a0_1, .int .i64 a0_2, .slice A0_3 l0_3.length c0_3, .bool a0_4] 46 (0, 0)) (by (with_reducible repeat (first | refine blk_drewN ?_ _ | refine blk_drew ?_ | refine blk_alloc ?_ _)); exact BK196.out) hb); have n3_ := Aside0.mk (below_step (by repeat (first | (with_reducible first | exact HB.out | apply below_alloc | apply pw_below_drewN | apply below_drew1 | refine below_set ?_ GE196.out) | exact HB.out)) hb); clear HO_3; clear BK196; clear HB; have HO_3 := n0_; have HO202 := n1_; have BK196 := n2_; have HB := n3_; clear n0_ n1_ n2_ n3_; (try clear hb); (try clear hb2); (try clear hk); (try clear hi); (try clear ho0); obtain ⟨Ao14, co14, eo14⟩ := Kd.R_slice HO202.out; subst eo14) | ((with_reducible refine gate_builtin (b := .append) (xs := #[.tmp 17, .tmp 18]) rfl ?_); (try (refine gate_guard (by rfl) ?_; dsimp only)); at_builtin; refine Kd.R_append_rows (Kd.int .i64) (w0 := w) w.heap.size rfl (.tmp 17) (.tmp 18) 30 3 (.int .i64 0) 8 rfl Try.underlying30 info3 rfl (by decide) (by omega) u3 x3_1 t200 _ _ _ (fun k_ => some k_ ≠ (.slice Ao14 t200.length co14 : Value).ownBlock) (fun _ => False) rfl rfl ?aO ?aR (fun _ _ h => h) (fun _ h => h.elim) ?aF ?aB ?aS ?aL ?_; (case aR => repeat (first | exact (Kd.R_reads' HO202.out).2.2 | (with_reducible refine Kd.C_alloc ?_ _) | (with_reducible refine Kd.C_drewN ?_ _) | (with_reducible refine Kd.C_drew ?_))); (case aB => exact (by repeat (first | (with_reducible first | exact HB.out | apply below_alloc | apply pw_below_drewN | apply below_drew1 | refine below_set ?_ GE196.out) | exact HB.out))); (case aF => exact (fun k_ hk => Kd.fresh' (Kd.R_lt (by (with_reducible repeat (first | apply Kd.R_alloc | apply Kd.R_drewN | apply Kd.R_drew)); exact HO202.out)) k_ hk)); (case aO => exact (by (with_reducible repeat (first | apply Kd.R_alloc | apply Kd.R_drewN | apply Kd.R_drew)); exact Kd.R_mono HO_3.out (fun _ hk => hk.2))); (case aS => exact (below_size (by repeat (first | (with_reducible first | exact HB.out | apply below_alloc | apply pw_below_drewN | apply below_drew1 | refine below_set ?_ GE196.out) | exact HB.out)))); (case aL => have := LMc10.out; omega); intro v204 w15 ho hb hg hat; rw [← Ny203.out] at ho; have n0_ := Aside0.mk (blk_grown (g := gb196) (o := .cells #[.slice A0_0 l0_0.length c0_0, .int .i64 a0_1, .int .i64 a0_2, .slice A0_3 l0_3.length c0_3, .bool a0_4] 46 (0, 0)) (by (with_reducible repeat (first | refine blk_drewN ?_ _ | refine blk_drew ?_ | refine blk_alloc ?_ _)); exact BK196.out) hg (Kd.R_ne HO_3.out BK196.out (by decide))); have n1_ := Aside0.mk (Kd.R_after (ok := (fun _ => True)) (by (with_reducible repeat (first | apply Kd.R_alloc | apply Kd.R_drewN | apply Kd.R_drew)); exact HO202.out) hg hat); have n2_ := Aside0.mk (hb); have n3_ := Aside0.mk (ho); clear BK196; clear HO202; clear HB; clear HO_3; have BK196 := n0_; have HO202 := n1_; have HB := n2_; have HO205 := n3_; clear n0_ n1_ n2_ n3_; clear ho hb hg hat; obtain ⟨Ao16, co16, eo16⟩ := Kd.R_slice HO205.out; subst eo16; have hcz17_0 : w15.cell? ⟨gb196, 0, none⟩ = some (.slice A0_0 l0_0.length c0_0) := (blk_cell BK196.out 0).trans rfl; have hcz17_1 : w15.cell? ⟨gb196, 1, none⟩ = some (.int .i64 a0_1) := (blk_cell BK196.out 1).trans rfl; have hcz17_2 : w15.cell? ⟨gb196, 2, none⟩ = some (.int .i64 a0_2) := (blk_cell BK196.out 2).trans rfl; have hcz17_3 : w15.cell? ⟨gb196, 3, none⟩ = some (.slice A0_3 l0_3.length c0_3) := (blk_cell BK196.out 3).trans rfl; have hcz17_4 : w15.cell? ⟨gb196, 4, none⟩ = some (.bool a0_4) := (blk_cell BK196.out 4).trans rfl; have hfz17_0 := blk_frozen BK196.out 0; have hfz17_1 := blk_frozen BK196.out 1; have hfz17_2 := blk_frozen BK196.out 2; have hfz17_3 := blk_frozen BK196.out 3; have hfz17_4 := blk_frozen BK196.out 4))
      go_ret
      exact ⟨_, by first | rfl | (simp [errW_none, errW_some] <;> rfl) | (simp [*, errW_none, errW_some] <;> rfl), by first | exact Kd.R_nil _ _ _ _ _ | exact Kd.N_nil _ _ _ _ _ | exact Kd.V_nil _ _ _ _ _ | exact Kd.Q_nil _ _ _ _ _ | exact Kd.S_nil _ _ _ _ _, by repeat (first | (with_reducible first | exact HB.out | apply below_alloc | apply pw_below_drewN | apply below_drew1 | refine below_set ?_ GE196.out) | exact HB.out)⟩
     ·rw [if_neg c11] at H
      have c11b0 : decide ((l0_0.length : Int) < (y203.length : Int)) = false := decide_eq_false c11
      have c11b1 : decide (l0_0.length < y203.length) = false := decide_eq_false (fun h => c11 (Int.ofNat_lt.mpr h))
      clear c11
      obtain ⟨ji18, hji18⟩ : ∃ j_ : Int, (wrap64 ((t200.length : Int) - 1)) = j_ := ⟨_, rfl⟩
      replace H : (if 0 ≤ (ji18) then (if (ji18) < (t200.length : Int) then (hackamoreref28_Order.l1 k1 y203 x4_1 (rd t200 (ji18)) (-1) 0 l0_0 a0_1 a0_2 l0_3 a0_4) else (none)) else (none)) = some r := by first | (rw [hji18] at H; exact H) | (simp only [hji18] at H ⊢; exact H)
      (try rw [hji18] at A5)
      have hji18w : (IntKind.i64.wrap ((t200.length : Int) - 1)) = ji18 := (i64_w _).trans hji18
      by_cases c19 : 0 ≤ (ji18)
      ·rw [if_pos c19] at H
       have c19b0 : decide (0 ≤ (ji18)) = true := decide_eq_true c19
       clear c19
       by_cases c20 : (ji18) < (t200.length : Int)
       ·rw [if_pos c20] at H
        have c20b0 : decide ((ji18) < (t200.length : Int)) = true := decide_eq_true c20
        clear c20
        have H' := Aside0.mk H
        clear H
        have hcz21_0 : wr.cell? ⟨gb196, 0, none⟩ = some (.slice A0_0 l0_0.length c0_0) := (blk_cell BK196.out 0).trans rfl
        have hcz21_1 : wr.cell? ⟨gb196, 1, none⟩ = some (.int .i64 a0_1) := (blk_cell BK196.out 1).trans rfl
        have hcz21_2 : wr.cell? ⟨gb196, 2, none⟩ = some (.int .i64 a0_2) := (blk_cell BK196.out 2).trans rfl
        have hcz21_3 : wr.cell? ⟨gb196, 3, none⟩ = some (.slice A0_3 l0_3.length c0_3) := (blk_cell BK196.out 3).trans rfl
        have hcz21_4 : wr.cell? ⟨gb196, 4, none⟩ = some (.bool a0_4) := (blk_cell BK196.out 4).trans rfl
        have hfz21_0 := blk_frozen BK196.out 0
        have hfz21_1 := blk_frozen BK196.out 1
        have hfz21_2 := blk_frozen BK196.out 2
        have hfz21_3 := blk_frozen BK196.out 3
        have hfz21_4 := blk_frozen BK196.out 4
        go_wp2_with (first | ((with_reducible refine gate_callee (f := 56) rfl ?_); refine goesL_ (some 13) rfl rfl Try.func56 (by kernel_rfl) rfl #[.agg #[.slice A0_0 l0_0.length c0_0, .int .i64 a0_1, .int .i64 a0_2, .slice A0_3 l0_3.length c0_3, .bool a0_4], .int .i64 x5_1] rfl (by (try simp only [List.map_toArray, List.map_cons, List.map_nil]); first | done | rfl | (simp only [List.length_drop, List.length_take]; rfl)) ?_; (with_reducible refine (hackamoreref28_chain.calls k1 _ _ l0_0 a0_1 a0_2 _ _ l0_3 a0_4 x5_1 t200 _ ?side1 ?side2 ?side3 ?side4 A5.out).mono ?_); (case side1 => repeat (first | exact (Kd.C_below HR0_0.out HB.out) | (with_reducible refine Kd.C_alloc ?_ _) | (with_reducible refine Kd.C_drewN ?_ _) | (with_reducible refine Kd.C_drew ?_))); (case side2 => exact HC0_0.out); (case side3 => repeat (first | exact (Kd.C_below HR0_3.out HB.out) | (with_reducible refine Kd.C_alloc ?_ _) | (with_reducible refine Kd.C_drewN ?_ _) | (with_reducible refine Kd.C_drew ?_))); (case side4 => exact HC0_3.out); rintro e w22 ⟨v201, rfl, ho0, hb⟩; refine ⟨_, rfl, ?_⟩; have n0_ := Aside0.mk (Kd.R_elder' (by (with_reducible repeat (first | apply Kd.R_alloc | apply Kd.R_drewN | apply Kd.R_drew)); exact HO_3.out) (Kd.R_base ho0) hb); have n1_ := Aside0.mk (Kd.R_lower (Kd.R_new' ho0 (Kd.R_lt (by (with_reducible repeat (first | apply Kd.R_alloc | apply Kd.R_drewN | apply Kd.R_drew)); exact HO_3.out))) (below_size (by repeat (first | (with_reducible first | exact HB.out | apply below_alloc | apply pw_below_drewN | apply below_drew1 | refine below_set ?_ GE196.out) | exact HB.out)))); have n2_ := Aside0.mk (blk_below (g := gb196) (o := .cells #[.slice A0_0 l0_0.length c0_0, .int .i64 a0_1, .int .i64 a0_2, .slice A0_3 l0_3.length c0_3, .bool a0_4] 46 (0, 0)) (by (with_reducible repeat (first | refine blk_drewN ?_ _ | refine blk_drew ?_ | refine blk_alloc ?_ _)); exact BK196.out) hb); have n3_ := Aside0.mk (below_step (by repeat (first | (with_reducible first | exact HB.out | apply below_alloc | apply pw_below_drewN | apply below_drew1 | refine below_set ?_ GE196.out) | exact HB.out)) hb); clear HO_3; clear BK196; clear HB; have HO_3 := n0_; have HO202 := n1_; have BK196 := n2_; have HB := n3_; clear n0_ n1_ n2_ n3_; (try clear hb); (try clear hb2); (try clear hk); (try clear hi); (try clear ho0); obtain ⟨Ao23, co23, eo23⟩ := Kd.R_slice HO202.out; subst eo23) | ((with_reducible refine gate_builtin (b := .append) (xs := #[.tmp 17, .tmp 18]) rfl ?_); (try (refine gate_guard (by rfl) ?_; dsimp only)); at_builtin; refine Kd.R_append_rows (Kd.int .i64) (w0 := w) w.heap.size rfl (.tmp 17) (.tmp 18) 30 3 (.int .i64 0) 8 rfl Try.underlying30 info3 rfl (by decide) (by omega) u3 x3_1 t200 _ _ _ (fun k_ => some k_ ≠ (.slice Ao23 t200.length co23 : Value).ownBlock) (fun _ => False) rfl rfl ?aO ?aR (fun _ _ h => h) (fun _ h => h.elim) ?aF ?aB ?aS ?aL ?_; (case aR => repeat (first | exact (Kd.R_reads' HO202.out).2.2 | (with_reducible refine Kd.C_alloc ?_ _) | (with_reducible refine Kd.C_drewN ?_ _) | (with_reducible refine Kd.C_drew ?_))); (case aB => exact (by repeat (first | (with_reducible first | exact HB.out | apply below_alloc | apply pw_below_drewN | apply below_drew1 | refine below_set ?_ GE196.out) | exact HB.out))); (case aF => exact (fun k_ hk => Kd.fresh' (Kd.R_lt (by (with_reducible repeat (first | apply Kd.R_alloc | apply Kd.R_drewN | apply Kd.R_drew)); exact HO202.out)) k_ hk)); (case aO => exact (by (with_reducible repeat (first | apply Kd.R_alloc | apply Kd.R_drewN | apply Kd.R_drew)); exact Kd.R_mono HO_3.out (fun _ hk => hk.2))); (case aS => exact (below_size (by repeat (first | (with_reducible first | exact HB.out | apply below_alloc | apply pw_below_drewN | apply below_drew1 | refine below_set ?_ GE196.out) | exact HB.out)))); (case aL => have := LMc10.out; omega); intro v204 w24 ho hb hg hat; rw [← Ny203.out] at ho; have n0_ := Aside0.mk (blk_grown (g := gb196) (o := .cells #[.slice A0_0 l0_0.length c0_0, .int .i64 a0_1, .int .i64 a0_2, .slice A0_3 l0_3.length c0_3, .bool a0_4] 46 (0, 0)) (by (with_reducible repeat (first | refine blk_drewN ?_ _ | refine blk_drew ?_ | refine blk_alloc ?_ _)); exact BK196.out) hg (Kd.R_ne HO_3.out BK196.out (by decide))); have n1_ := Aside0.mk (Kd.R_after (ok := (fun _ => True)) (by (with_reducible repeat (first | apply Kd.R_alloc | apply Kd.R_drewN | apply Kd.R_drew)); exact HO202.out) hg hat); have n2_ := Aside0.mk (hb); have n3_ := Aside0.mk (ho); clear BK196; clear HO202; clear HB; clear HO_3; have BK196 := n0_; have HO202 := n1_; have HB := n2_; have HO205 := n3_; clear n0_ n1_ n2_ n3_; clear ho hb hg hat; obtain ⟨Ao25, co25, eo25⟩ := Kd.R_slice HO205.out; subst eo25; have hcz26_0 : w24.cell? ⟨gb196, 0, none⟩ = some (.slice A0_0 l0_0.length c0_0) := (blk_cell BK196.out 0).trans rfl; have hcz26_1 : w24.cell? ⟨gb196, 1, none⟩ = some (.int .i64 a0_1) := (blk_cell BK196.out 1).trans rfl; have hcz26_2 : w24.cell? ⟨gb196, 2, none⟩ = some (.int .i64 a0_2) := (blk_cell BK196.out 2).trans rfl; have hcz26_3 : w24.cell? ⟨gb196, 3, none⟩ = some (.slice A0_3 l0_3.length c0_3) := (blk_cell BK196.out 3).trans rfl; have hcz26_4 : w24.cell? ⟨gb196, 4, none⟩ = some (.bool a0_4) := (blk_cell BK196.out 4).trans rfl; have hfz26_0 := blk_frozen BK196.out 0; have hfz26_1 := blk_frozen BK196.out 1; have hfz26_2 := blk_frozen BK196.out 2; have hfz26_3 := blk_frozen BK196.out 3; have hfz26_4 := blk_frozen BK196.out 4; have p206 : 0 ≤ ((ji18) : Int) := of_decide_eq_true (by first | (with_reducible assumption) | assumption); have q206 : (ji18) < (t200.length : Int) := of_decide_eq_true (by first | (with_reducible assumption) | assumption); obtain ⟨ad206, e206, hx206_0⟩ := Kd.at_int (Kd.R_reads' HO202.out).2.2 (ji18) p206 q206; cases e206; replace p206 := eq_true p206; replace q206 := eq_true q206))
        go_loopg [8, 9] k1 (fun kq v8 v9 w' => ∃ (x8_2 : Int) (x9_2 : Int), v8 = .int .i64 x8_2 ∧ v9 = .int .i64 x9_2 ∧ Aside0 (hackamoreref28_Order.l1 kq y203 x4_1 (rd t200 (ji18)) x8_2 x9_2 l0_0 a0_1 a0_2 l0_3 a0_4 = some r) ∧ Aside0 (kq ≤ k1) ∧ Aside0 (Kd.R (Kd.int .i64) 3 w' w.heap.size (fun _ => True) (.slice Ao25 y203.length co25) y203) ∧ Aside0 (w'.heap[gb196]? = some (.cells #[(.slice A0_0 l0_0.length c0_0), .int .i64 a0_1, .int .i64 a0_2, (.slice A0_3 l0_3.length c0_3), .bool a0_4] 46 (0, 0))) ∧ Aside0 (Below w.heap.size w w'))
        case atStart => exact ⟨((-1)), (0), (by first | rfl | (simp; done) | (simp [*]; done)), (by first | rfl | (simp; done) | (simp [*]; done)), H', ⟨Nat.le_refl _⟩, ⟨by (with_reducible repeat (first | apply Kd.R_alloc | apply Kd.R_drewN | apply Kd.R_drew)); exact Kd.R_mono HO205.out (fun _ hk => trivial)⟩, ⟨by (with_reducible repeat (first | refine blk_drewN ?_ _ | refine blk_drew ?_ | refine blk_alloc ?_ _)); exact BK196.out⟩, ⟨by repeat (first | (with_reducible first | exact HB.out | apply below_alloc | apply pw_below_drewN | apply below_drew1 | refine below_set ?_ GE196.out) | exact HB.out)⟩⟩
        case round =>
         clear H'
         try clear c1
         try clear c2
         try clear p2
         try clear q2
         try clear hx2
         try clear c5
         try clear c6
         try clear c6b0
         try clear c6b1
         try clear c6b2
         try clear p6
         try clear c10
         try clear c11
         try clear c11b0
         try clear c11b1
         try clear c19
         try clear c19b0
         try clear c20
         try clear c20b0
         try clear p20
         try clear q20
         try clear hx20
         try clear hcz12_0
         try clear hcz12_1
         try clear hcz12_2
         try clear hcz12_3
         try clear hcz12_4
         try clear hcz17_0
         try clear hcz17_1
         try clear hcz17_2
         try clear hcz17_3
         try clear hcz17_4
         try clear hcz21_0
         try clear hcz21_1
         try clear hcz21_2
         try clear hcz21_3
         try clear hcz21_4
         try clear hcz26_0
         try clear hcz26_1
         try clear hcz26_2
         try clear hcz26_3
         try clear hcz26_4
         try clear hcz7_0
         try clear hcz7_1
         try clear hcz7_2
         try clear hcz7_3
         try clear hcz7_4
         try clear hfz12_0
         try clear hfz12_1
         try clear hfz12_2
         try clear hfz12_3
         try clear hfz12_4
         try clear hfz17_0
         try clear hfz17_1
         try clear hfz17_2
         try clear hfz17_3
         try clear hfz17_4
         try clear hfz21_0
         try clear hfz21_1
         try clear hfz21_2
         try clear hfz21_3
         try clear hfz21_4
         try clear hfz26_0
         try clear hfz26_1
         try clear hfz26_2
         try clear hfz26_3
         try clear hfz26_4
         try clear hfz7_0
         try clear hfz7_1
         try clear hfz7_2
         try clear hfz7_3
         try clear hfz7_4
         try clear hx206_0
         try clear p2
         try clear p206
         try clear q206
         obtain ⟨x8_2, x9_2, rfl, rfl, HA, HK2, HO_3, BK196, HB⟩ := hrel
         cases gk with
         | zero => exact absurd HA.out (by simp [hackamoreref28_Order.l1])
         | succ k2 =>
          have H := HA.out
          clear HA
          simp only [hackamoreref28_Order.l1] at H
          by_cases c27 : x9_2 < (l0_3.length : Int)
          ·rw [if_pos c27] at H
           have c27b0 : decide (x9_2 < (l0_3.length : Int)) = true := decide_eq_true c27
           clear c27
           by_cases c28 : 0 ≤ x9_2
           ·rw [if_pos c28] at H
            have c28b0 : decide (0 ≤ x9_2) = true := decide_eq_true c28
            clear c28
            by_cases c29 : ((rd_T122 l0_3 x9_2).f1) = (rd t200 (ji18))
            ·rw [if_pos c29] at H
             have c29b0 : (((rd_T122 l0_3 x9_2).f1) == (rd t200 (ji18))) = true := beq_iff_eq.mpr c29
             have c29b1 : (((rd_T122 l0_3 x9_2).f1) != (rd t200 (ji18))) = false := bne_eq_false_iff_eq.mpr c29
             clear c29
             by_cases c30 : x8_2 ≥ 0
             ·rw [if_pos c30] at H
              have c30b0 : decide (0 ≤ x8_2) = true := decide_eq_true c30
              clear c30
              obtain rfl := Option.some.inj H
              have hcz31_0 : wr.cell? ⟨gb196, 0, none⟩ = some (.slice A0_0 l0_0.length c0_0) := (blk_cell BK196.out 0).trans rfl
              have hcz31_1 : wr.cell? ⟨gb196, 1, none⟩ = some (.int .i64 a0_1) := (blk_cell BK196.out 1).trans rfl
              have hcz31_2 : wr.cell? ⟨gb196, 2, none⟩ = some (.int .i64 a0_2) := (blk_cell BK196.out 2).trans rfl
              have hcz31_3 : wr.cell? ⟨gb196, 3, none⟩ = some (.slice A0_3 l0_3.length c0_3) := (blk_cell BK196.out 3).trans rfl
              have hcz31_4 : wr.cell? ⟨gb196, 4, none⟩ = some (.bool a0_4) := (blk_cell BK196.out 4).trans rfl
              have hfz31_0 := blk_frozen BK196.out 0
              have hfz31_1 := blk_frozen BK196.out 1
              have hfz31_2 := blk_frozen BK196.out 2
              have hfz31_3 := blk_frozen BK196.out 3
              have hfz31_4 := blk_frozen BK196.out 4
              have p207 : 0 ≤ (x9_2 : Int) := of_decide_eq_true (by first | (with_reducible assumption) | assumption)
              have q207 : x9_2 < (l0_3.length : Int) := of_decide_eq_true (by first | (with_reducible assumption) | assumption)
              obtain ⟨ad207, e207, hx207_0, hx207_1, hx207_2⟩ := at_T122 HR0_3.out x9_2 p207 q207
              cases e207
              replace hx207_0 := (HB.out.cell (World.block_lt_of_cell? w _ hx207_0)).trans hx207_0
              replace hx207_1 := (HB.out.cell (World.block_lt_of_cell? w _ hx207_1)).trans hx207_1
              replace hx207_2 := (HB.out.cell (World.block_lt_of_cell? w _ hx207_2)).trans hx207_2
              replace p207 := eq_true p207
              replace q207 := eq_true q207
              go_wp2
              go_ret
              exact ⟨_, by first | rfl | (simp [errW_none, errW_some] <;> rfl) | (simp only [← hji18]; first | rfl | (simp [errW_none, errW_some] <;> rfl)) | (simp [*, errW_none, errW_some] <;> rfl), by first | exact Kd.R_nil _ _ _ _ _ | exact Kd.N_nil _ _ _ _ _ | exact Kd.V_nil _ _ _ _ _ | exact Kd.Q_nil _ _ _ _ _ | exact Kd.S_nil _ _ _ _ _, by repeat (first | (with_reducible first | exact HB.out | apply below_alloc | apply pw_below_drewN | apply below_drew1 | refine below_set ?_ GE196.out) | exact HB.out)⟩
             ·rw [if_neg c30] at H
              have c30b0 : decide (0 ≤ x8_2) = false := decide_eq_false c30
              clear c30
              have H' := Aside0.mk H
              clear H
              have hcz32_0 : wr.cell? ⟨gb196, 0, none⟩ = some (.slice A0_0 l0_0.length c0_0) := (blk_cell BK196.out 0).trans rfl
              have hcz32_1 : wr.cell? ⟨gb196, 1, none⟩ = some (.int .i64 a0_1) := (blk_cell BK196.out 1).trans rfl
              have hcz32_2 : wr.cell? ⟨gb196, 2, none⟩ = some (.int .i64 a0_2) := (blk_cell BK196.out 2).trans rfl
              have hcz32_3 : wr.cell? ⟨gb196, 3, none⟩ = some (.slice A0_3 l0_3.length c0_3) := (blk_cell BK196.out 3).trans rfl
              have hcz32_4 : wr.cell? ⟨gb196, 4, none⟩ = some (.bool a0_4) := (blk_cell BK196.out 4).trans rfl
              have hfz32_0 := blk_frozen BK196.out 0
              have hfz32_1 := blk_frozen BK196.out 1
              have hfz32_2 := blk_frozen BK196.out 2
              have hfz32_3 := blk_frozen BK196.out 3
              have hfz32_4 := blk_frozen BK196.out 4
              have p207 : 0 ≤ (x9_2 : Int) := of_decide_eq_true (by first | (with_reducible assumption) | assumption)
              have q207 : x9_2 < (l0_3.length : Int) := of_decide_eq_true (by first | (with_reducible assumption) | assumption)
              obtain ⟨ad207, e207, hx207_0, hx207_1, hx207_2⟩ := at_T122 HR0_3.out x9_2 p207 q207
              cases e207
              replace hx207_0 := (HB.out.cell (World.block_lt_of_cell? w _ hx207_0)).trans hx207_0
              replace hx207_1 := (HB.out.cell (World.block_lt_of_cell? w _ hx207_1)).trans hx207_1
              replace hx207_2 := (HB.out.cell (World.block_lt_of_cell? w _ hx207_2)).trans hx207_2
              replace p207 := eq_true p207
              replace q207 := eq_true q207
              go_wp2
              go_roundg k2
              case measure => have := HK1.out; have := HK2.out; omega
              case rel => exact ⟨(x9_2), (wrap64 (x9_2 + 1)), (by first | rfl | (simp; done) | (simp [*]; done)), (by first | rfl | (simp; done) | (simp [*]; done)), H', ⟨by have := HK1.out; have := HK2.out; omega⟩, ⟨by (with_reducible repeat (first | apply Kd.R_alloc | apply Kd.R_drewN | apply Kd.R_drew)); exact HO_3.out⟩, ⟨by (with_reducible repeat (first | refine blk_drewN ?_ _ | refine blk_drew ?_ | refine blk_alloc ?_ _)); exact BK196.out⟩, ⟨by repeat (first | (with_reducible first | exact HB.out | apply below_alloc | apply pw_below_drewN | apply below_drew1 | refine below_set ?_ GE196.out) | exact HB.out)⟩⟩
            ·rw [if_neg c29] at H
             have c29b0 : (((rd_T122 l0_3 x9_2).f1) == (rd t200 (ji18))) = false := beq_eq_false_iff_ne.mpr c29
             have c29b1 : (((rd_T122 l0_3 x9_2).f1) != (rd t200 (ji18))) = true := bne_iff_ne.mpr c29
             have H' := Aside0.mk H
             clear H
             have hcz33_0 : wr.cell? ⟨gb196, 0, none⟩ = some (.slice A0_0 l0_0.length c0_0) := (blk_cell BK196.out 0).trans rfl
             have hcz33_1 : wr.cell? ⟨gb196, 1, none⟩ = some (.int .i64 a0_1) := (blk_cell BK196.out 1).trans rfl
             have hcz33_2 : wr.cell? ⟨gb196, 2, none⟩ = some (.int .i64 a0_2) := (blk_cell BK196.out 2).trans rfl
             have hcz33_3 : wr.cell? ⟨gb196, 3, none⟩ = some (.slice A0_3 l0_3.length c0_3) := (blk_cell BK196.out 3).trans rfl
             have hcz33_4 : wr.cell? ⟨gb196, 4, none⟩ = some (.bool a0_4) := (blk_cell BK196.out 4).trans rfl
             have hfz33_0 := blk_frozen BK196.out 0
             have hfz33_1 := blk_frozen BK196.out 1
             have hfz33_2 := blk_frozen BK196.out 2
             have hfz33_3 := blk_frozen BK196.out 3
             have hfz33_4 := blk_frozen BK196.out 4
             have p207 : 0 ≤ (x9_2 : Int) := of_decide_eq_true (by first | (with_reducible assumption) | assumption)
             have q207 : x9_2 < (l0_3.length : Int) := of_decide_eq_true (by first | (with_reducible assumption) | assumption)
             obtain ⟨ad207, e207, hx207_0, hx207_1, hx207_2⟩ := at_T122 HR0_3.out x9_2 p207 q207
             cases e207
             replace hx207_0 := (HB.out.cell (World.block_lt_of_cell? w _ hx207_0)).trans hx207_0
             replace hx207_1 := (HB.out.cell (World.block_lt_of_cell? w _ hx207_1)).trans hx207_1
             replace hx207_2 := (HB.out.cell (World.block_lt_of_cell? w _ hx207_2)).trans hx207_2
             replace p207 := eq_true p207
             replace q207 := eq_true q207
             go_wp2
             go_roundg k2
             case measure => have := HK1.out; have := HK2.out; omega
             case rel => exact ⟨(x8_2), (wrap64 (x9_2 + 1)), (by first | rfl | (simp; done) | (simp [*]; done)), (by first | rfl | (simp; done) | (simp [*]; done)), H', ⟨by have := HK1.out; have := HK2.out; omega⟩, ⟨by (with_reducible repeat (first | apply Kd.R_alloc | apply Kd.R_drewN | apply Kd.R_drew)); exact HO_3.out⟩, ⟨by (with_reducible repeat (first | refine blk_drewN ?_ _ | refine blk_drew ?_ | refine blk_alloc ?_ _)); exact BK196.out⟩, ⟨by repeat (first | (with_reducible first | exact HB.out | apply below_alloc | apply pw_below_drewN | apply below_drew1 | refine below_set ?_ GE196.out) | exact HB.out)⟩⟩
           ·rw [if_neg c28] at H
            exact absurd H (by simp)
          ·rw [if_neg c27] at H
           have c27b0 : decide (x9_2 < (l0_3.length : Int)) = false := decide_eq_false c27
           clear c27
           by_cases c34 : x8_2 < 0
           ·rw [if_pos c34] at H
            have c34b0 : decide (x8_2 < 0) = true := decide_eq_true c34
            clear c34
            have HC35 := Aside0.mk H
            clear H
            have hcz36_0 : wr.cell? ⟨gb196, 0, none⟩ = some (.slice A0_0 l0_0.length c0_0) := (blk_cell BK196.out 0).trans rfl
            have hcz36_1 : wr.cell? ⟨gb196, 1, none⟩ = some (.int .i64 a0_1) := (blk_cell BK196.out 1).trans rfl
            have hcz36_2 : wr.cell? ⟨gb196, 2, none⟩ = some (.int .i64 a0_2) := (blk_cell BK196.out 2).trans rfl
            have hcz36_3 : wr.cell? ⟨gb196, 3, none⟩ = some (.slice A0_3 l0_3.length c0_3) := (blk_cell BK196.out 3).trans rfl
            have hcz36_4 : wr.cell? ⟨gb196, 4, none⟩ = some (.bool a0_4) := (blk_cell BK196.out 4).trans rfl
            have hfz36_0 := blk_frozen BK196.out 0
            have hfz36_1 := blk_frozen BK196.out 1
            have hfz36_2 := blk_frozen BK196.out 2
            have hfz36_3 := blk_frozen BK196.out 3
            have hfz36_4 := blk_frozen BK196.out 4
            go_upto_region 20 with (fail)
            go_cut [70] (fun v70 wc => ∃ (kq : Nat) (x70_34 : Bool), v70 = .bool x70_34 ∧ Aside0 (hackamoreref28_Order.j2 kq y203 x70_34 = some r) ∧ Aside0 (kq ≤ k2) ∧ Aside0 (Kd.R (Kd.int .i64) 3 wc w.heap.size (fun _ => True) (.slice Ao25 y203.length co25) y203) ∧ Aside0 (wc.heap[gb196]? = some (.cells #[(.slice A0_0 l0_0.length c0_0), .int .i64 a0_1, .int .i64 a0_2, (.slice A0_3 l0_3.length c0_3), .bool a0_4] 46 (0, 0))) ∧ Aside0 (Below w.heap.size w wc))
            case first =>
             have H := HC35.out
             clear HC35
             by_cases c37 : (rd t200 (ji18)) = a0_1
             ·rw [if_pos c37] at H
              have c37b0 : ((rd t200 (ji18)) == a0_1) = true := beq_iff_eq.mpr c37
              have c37b1 : ((rd t200 (ji18)) != a0_1) = false := bne_eq_false_iff_eq.mpr c37
              clear c37
              (first | rw [c37b0] | (simp only [i64_w, i32_w]; rw [c37b0]) | skip)
              by_cases c38 : x4_1 = (l0_3.length : Int)
              ·rw [if_pos c38] at H
               have c38b0 : (x4_1 == (l0_3.length : Int)) = true := beq_iff_eq.mpr c38
               have c38b1 : (x4_1 != (l0_3.length : Int)) = false := bne_eq_false_iff_eq.mpr c38
               clear c38
               have H' := Aside0.mk H
               clear H
               have hcz39_0 : wr.cell? ⟨gb196, 0, none⟩ = some (.slice A0_0 l0_0.length c0_0) := (blk_cell BK196.out 0).trans rfl
               have hcz39_1 : wr.cell? ⟨gb196, 1, none⟩ = some (.int .i64 a0_1) := (blk_cell BK196.out 1).trans rfl
               have hcz39_2 : wr.cell? ⟨gb196, 2, none⟩ = some (.int .i64 a0_2) := (blk_cell BK196.out 2).trans rfl
               have hcz39_3 : wr.cell? ⟨gb196, 3, none⟩ = some (.slice A0_3 l0_3.length c0_3) := (blk_cell BK196.out 3).trans rfl
               have hcz39_4 : wr.cell? ⟨gb196, 4, none⟩ = some (.bool a0_4) := (blk_cell BK196.out 4).trans rfl
               have hfz39_0 := blk_frozen BK196.out 0
               have hfz39_1 := blk_frozen BK196.out 1
               have hfz39_2 := blk_frozen BK196.out 2
               have hfz39_3 := blk_frozen BK196.out 3
               have hfz39_4 := blk_frozen BK196.out 4
               go_wp2
               go_meet
               case rel => exact ⟨_, (((y203.length : Int) != (l0_0.length : Int))), (by first | rfl | (simp; done) | (simp [*]; done)), H', ⟨by have := HK1.out; have := HK2.out; first | omega | exact Nat.le_refl _⟩, ⟨by (with_reducible repeat (first | apply Kd.R_alloc | apply Kd.R_drewN | apply Kd.R_drew)); exact HO_3.out⟩, ⟨by (with_reducible repeat (first | refine blk_drewN ?_ _ | refine blk_drew ?_ | refine blk_alloc ?_ _)); exact BK196.out⟩, ⟨by repeat (first | (with_reducible first | exact HB.out | apply below_alloc | apply pw_below_drewN | apply below_drew1 | refine below_set ?_ GE196.out) | exact HB.out)⟩⟩
              ·rw [if_neg c38] at H
               have c38b0 : (x4_1 == (l0_3.length : Int)) = false := beq_eq_false_iff_ne.mpr c38
               have c38b1 : (x4_1 != (l0_3.length : Int)) = true := bne_iff_ne.mpr c38
               have H' := Aside0.mk H
               clear H
               have hcz40_0 : wr.cell? ⟨gb196, 0, none⟩ = some (.slice A0_0 l0_0.length c0_0) := (blk_cell BK196.out 0).trans rfl
               have hcz40_1 : wr.cell? ⟨gb196, 1, none⟩ = some (.int .i64 a0_1) := (blk_cell BK196.out 1).trans rfl
               have hcz40_2 : wr.cell? ⟨gb196, 2, none⟩ = some (.int .i64 a0_2) := (blk_cell BK196.out 2).trans rfl
               have hcz40_3 : wr.cell? ⟨gb196, 3, none⟩ = some (.slice A0_3 l0_3.length c0_3) := (blk_cell BK196.out 3).trans rfl
               have hcz40_4 : wr.cell? ⟨gb196, 4, none⟩ = some (.bool a0_4) := (blk_cell BK196.out 4).trans rfl
               have hfz40_0 := blk_frozen BK196.out 0
               have hfz40_1 := blk_frozen BK196.out 1
               have hfz40_2 := blk_frozen BK196.out 2
               have hfz40_3 := blk_frozen BK196.out 3
               have hfz40_4 := blk_frozen BK196.out 4
               go_wp2
               go_meet
               case rel => exact ⟨_, (true), (by first | rfl | (simp; done) | (simp [*]; done)), H', ⟨by have := HK1.out; have := HK2.out; first | omega | exact Nat.le_refl _⟩, ⟨by (with_reducible repeat (first | apply Kd.R_alloc | apply Kd.R_drewN | apply Kd.R_drew)); exact HO_3.out⟩, ⟨by (with_reducible repeat (first | refine blk_drewN ?_ _ | refine blk_drew ?_ | refine blk_alloc ?_ _)); exact BK196.out⟩, ⟨by repeat (first | (with_reducible first | exact HB.out | apply below_alloc | apply pw_below_drewN | apply below_drew1 | refine below_set ?_ GE196.out) | exact HB.out)⟩⟩
             ·rw [if_neg c37] at H
              have c37b0 : ((rd t200 (ji18)) == a0_1) = false := beq_eq_false_iff_ne.mpr c37
              have c37b1 : ((rd t200 (ji18)) != a0_1) = true := bne_iff_ne.mpr c37
              (first | rw [c37b0] | (simp only [i64_w, i32_w]; rw [c37b0]) | skip)
              have H' := Aside0.mk H
              clear H
              have hcz41_0 : wr.cell? ⟨gb196, 0, none⟩ = some (.slice A0_0 l0_0.length c0_0) := (blk_cell BK196.out 0).trans rfl
              have hcz41_1 : wr.cell? ⟨gb196, 1, none⟩ = some (.int .i64 a0_1) := (blk_cell BK196.out 1).trans rfl
              have hcz41_2 : wr.cell? ⟨gb196, 2, none⟩ = some (.int .i64 a0_2) := (blk_cell BK196.out 2).trans rfl
              have hcz41_3 : wr.cell? ⟨gb196, 3, none⟩ = some (.slice A0_3 l0_3.length c0_3) := (blk_cell BK196.out 3).trans rfl
              have hcz41_4 : wr.cell? ⟨gb196, 4, none⟩ = some (.bool a0_4) := (blk_cell BK196.out 4).trans rfl
              have hfz41_0 := blk_frozen BK196.out 0
              have hfz41_1 := blk_frozen BK196.out 1
              have hfz41_2 := blk_frozen BK196.out 2
              have hfz41_3 := blk_frozen BK196.out 3
              have hfz41_4 := blk_frozen BK196.out 4
              go_wp2
              go_meet
              case rel => exact ⟨_, (true), (by first | rfl | (simp; done) | (simp [*]; done)), H', ⟨by have := HK1.out; have := HK2.out; first | omega | exact Nat.le_refl _⟩, ⟨by (with_reducible repeat (first | apply Kd.R_alloc | apply Kd.R_drewN | apply Kd.R_drew)); exact HO_3.out⟩, ⟨by (with_reducible repeat (first | refine blk_drewN ?_ _ | refine blk_drew ?_ | refine blk_alloc ?_ _)); exact BK196.out⟩, ⟨by repeat (first | (with_reducible first | exact HB.out | apply below_alloc | apply pw_below_drewN | apply below_drew1 | refine below_set ?_ GE196.out) | exact HB.out)⟩⟩
            case rest =>
             clear HC35
             try clear c1
             try clear c2
             try clear p2
             try clear q2
             try clear hx2
             try clear c3
             try clear c5
             try clear c6
             try clear c6b0
             try clear c6b1
             try clear c6b2
             try clear p6
             try clear c10
             try clear c11
             try clear c11b0
             try clear c11b1
             try clear c19
             try clear c19b0
             try clear c20
             try clear c20b0
             try clear p20
             try clear q20
             try clear hx20
             try clear c27
             try clear c27b0
             try clear c28
             try clear c28b0
             try clear c29
             try clear c29b0
             try clear c29b1
             try clear c30
             try clear c30b0
             try clear c34
             try clear c34b0
             try clear c37
             try clear c37b0
             try clear c37b1
             try clear c38
             try clear c38b0
             try clear c38b1
             try clear hcz12_0
             try clear hcz12_1
             try clear hcz12_2
             try clear hcz12_3
             try clear hcz12_4
             try clear hcz17_0
             try clear hcz17_1
             try clear hcz17_2
             try clear hcz17_3
             try clear hcz17_4
             try clear hcz21_0
             try clear hcz21_1
             try clear hcz21_2
             try clear hcz21_3
             try clear hcz21_4
             try clear hcz26_0
             try clear hcz26_1
             try clear hcz26_2
             try clear hcz26_3
             try clear hcz26_4
             try clear hcz31_0
             try clear hcz31_1
             try clear hcz31_2
             try clear hcz31_3
             try clear hcz31_4
             try clear hcz32_0
             try clear hcz32_1
             try clear hcz32_2
             try clear hcz32_3
             try clear hcz32_4
             try clear hcz33_0
             try clear hcz33_1
             try clear hcz33_2
             try clear hcz33_3
             try clear hcz33_4
             try clear hcz36_0
             try clear hcz36_1
             try clear hcz36_2
             try clear hcz36_3
             try clear hcz36_4
             try clear hcz39_0
             try clear hcz39_1
             try clear hcz39_2
             try clear hcz39_3
             try clear hcz39_4
             try clear hcz40_0
             try clear hcz40_1
             try clear hcz40_2
             try clear hcz40_3
             try clear hcz40_4
             try clear hcz41_0
             try clear hcz41_1
             try clear hcz41_2
             try clear hcz41_3
             try clear hcz41_4
             try clear hcz7_0
             try clear hcz7_1
             try clear hcz7_2
             try clear hcz7_3
             try clear hcz7_4
             try clear hfz12_0
             try clear hfz12_1
             try clear hfz12_2
             try clear hfz12_3
             try clear hfz12_4
             try clear hfz17_0
             try clear hfz17_1
             try clear hfz17_2
             try clear hfz17_3
             try clear hfz17_4
             try clear hfz21_0
             try clear hfz21_1
             try clear hfz21_2
             try clear hfz21_3
             try clear hfz21_4
             try clear hfz26_0
             try clear hfz26_1
             try clear hfz26_2
             try clear hfz26_3
             try clear hfz26_4
             try clear hfz31_0
             try clear hfz31_1
             try clear hfz31_2
             try clear hfz31_3
             try clear hfz31_4
             try clear hfz32_0
             try clear hfz32_1
             try clear hfz32_2
             try clear hfz32_3
             try clear hfz32_4
             try clear hfz33_0
             try clear hfz33_1
             try clear hfz33_2
             try clear hfz33_3
             try clear hfz33_4
             try clear hfz36_0
             try clear hfz36_1
             try clear hfz36_2
             try clear hfz36_3
             try clear hfz36_4
             try clear hfz39_0
             try clear hfz39_1
             try clear hfz39_2
             try clear hfz39_3
             try clear hfz39_4
             try clear hfz40_0
             try clear hfz40_1
             try clear hfz40_2
             try clear hfz40_3
             try clear hfz40_4
             try clear hfz41_0
             try clear hfz41_1
             try clear hfz41_2
             try clear hfz41_3
             try clear hfz41_4
             try clear hfz7_0
             try clear hfz7_1
             try clear hfz7_2
             try clear hfz7_3
             try clear hfz7_4
             try clear hx206_0
             try clear hx207_0
             try clear hx207_1
             try clear hx207_2
             try clear p2
             try clear p20
             try clear p206
             try clear p207
             try clear p6
             try clear q2
             try clear q20
             try clear q206
             try clear q207
             obtain ⟨kq, x70_34, rfl, HA, HJ34, HO_3, BK196, HB⟩ := hcut
             cases kq with
             | zero => exact absurd HA.out (by simp [hackamoreref28_Order.j2])
             | succ kj34 =>
              have H := HA.out
              clear HA
              simp only [hackamoreref28_Order.j2] at H
              by_cases c42 : x70_34 = true
              ·subst c42
               have H1 : (some ([] : List Int)) = some r := by rw [if_pos rfl] at H; exact H
               clear H
               have H := H1
               clear H1
               obtain rfl := Option.some.inj H
               go_wp2
               go_ret
               exact ⟨_, by first | rfl | (simp [errW_none, errW_some] <;> rfl) | (simp only [← hji18]; first | rfl | (simp [errW_none, errW_some] <;> rfl)) | (simp [*, errW_none, errW_some] <;> rfl), by first | exact Kd.R_nil _ _ _ _ _ | exact Kd.N_nil _ _ _ _ _ | exact Kd.V_nil _ _ _ _ _ | exact Kd.Q_nil _ _ _ _ _ | exact Kd.S_nil _ _ _ _ _, by repeat (first | (with_reducible first | exact HB.out | apply below_alloc | apply pw_below_drewN | apply below_drew1 | refine below_set ?_ GE196.out) | exact HB.out)⟩
              ·replace c42 := Bool.eq_false_iff.mpr c42
               subst c42
               have H1 : ((hackamoreref28_distinct.f kj34 y203).bind fun t208 => (some t208)) = some r := by rw [if_neg (show ¬ (false = true) by decide)] at H; exact H
               clear H
               have H := H1
               clear H1
               replace H := Option.bind_eq_some_iff.mp H
               obtain ⟨t208, A430, H⟩ := H
               replace H : (some t208) = some r := H
               have A43 := Aside0.mk A430
               clear A430
               obtain rfl := Option.some.inj H
               go_wp2_with (first | ((with_reducible refine gate_callee (f := 67) rfl ?_); refine goesL_ (some 72) rfl rfl Try.func67 (by kernel_rfl) rfl #[.slice Ao25 y203.length co25] rfl (by (try simp only [List.map_toArray, List.map_cons, List.map_nil]); first | done | rfl | (simp only [List.length_drop, List.length_take]; rfl)) ?_; (with_reducible refine (hackamoreref28_distinct.calls kj34 (fun k_ => some k_ = (.slice Ao25 y203.length co25 : Value).ownBlock) (.slice Ao25 y203.length co25) y203 t208 w _ ?side1 ?side2 A43.out).mono ?_); (case side1 => repeat (first | (with_reducible first | exact HB.out | apply below_alloc | apply pw_below_drewN | apply below_drew1 | refine below_set ?_ GE196.out) | exact HB.out)); (case side2 => exact Kd.R_tight rfl HO_3.out); rintro e w44 ⟨v209, rfl, ho0, hb, hkp⟩; refine ⟨_, rfl, ?_⟩; have n0_ := Aside0.mk (blk_kept (by (with_reducible repeat (first | refine blk_drewN ?_ _ | refine blk_drew ?_ | refine blk_alloc ?_ _)); exact BK196.out) hkp (fun hs_ => (fun e_ => (Kd.R_ne HO_3.out BK196.out (by decide)) e_) hs_)); have n1_ := Aside0.mk (Kd.R_mono (ok' := fun k_ => True) ho0 (fun k_ hk_ => trivial)); have n2_ := Aside0.mk (hb); clear BK196; clear HB; clear HO_3; have BK196 := n0_; have HO210 := n1_; have HB := n2_; clear n0_ n1_ n2_; (try clear hb); (try clear hkp); (try clear ho0)))
               go_ret
               exact ⟨_, by first | rfl | (simp [errW_none, errW_some] <;> rfl) | (simp only [← hji18]; first | rfl | (simp [errW_none, errW_some] <;> rfl)) | (simp [*, errW_none, errW_some] <;> rfl), by (with_reducible repeat (first | apply Kd.R_alloc | apply Kd.R_drewN | apply Kd.R_drew)); exact HO210.out, by repeat (first | (with_reducible first | exact HB.out | apply below_alloc | apply pw_below_drewN | apply below_drew1 | refine below_set ?_ GE196.out) | exact HB.out)⟩
           ·rw [if_neg c34] at H
            have c34b0 : decide (x8_2 < 0) = false := decide_eq_false c34
            clear c34
            by_cases c45 : (rd t200 (ji18)) = a0_1
            ·rw [if_pos c45] at H
             have c45b0 : ((rd t200 (ji18)) == a0_1) = true := beq_iff_eq.mpr c45
             have c45b1 : ((rd t200 (ji18)) != a0_1) = false := bne_eq_false_iff_eq.mpr c45
             clear c45
             obtain rfl := Option.some.inj H
             have hcz46_0 : wr.cell? ⟨gb196, 0, none⟩ = some (.slice A0_0 l0_0.length c0_0) := (blk_cell BK196.out 0).trans rfl
             have hcz46_1 : wr.cell? ⟨gb196, 1, none⟩ = some (.int .i64 a0_1) := (blk_cell BK196.out 1).trans rfl
             have hcz46_2 : wr.cell? ⟨gb196, 2, none⟩ = some (.int .i64 a0_2) := (blk_cell BK196.out 2).trans rfl
             have hcz46_3 : wr.cell? ⟨gb196, 3, none⟩ = some (.slice A0_3 l0_3.length c0_3) := (blk_cell BK196.out 3).trans rfl
             have hcz46_4 : wr.cell? ⟨gb196, 4, none⟩ = some (.bool a0_4) := (blk_cell BK196.out 4).trans rfl
             have hfz46_0 := blk_frozen BK196.out 0
             have hfz46_1 := blk_frozen BK196.out 1
             have hfz46_2 := blk_frozen BK196.out 2
             have hfz46_3 := blk_frozen BK196.out 3
             have hfz46_4 := blk_frozen BK196.out 4
             go_wp2
             go_ret
             exact ⟨_, by first | rfl | (simp [errW_none, errW_some] <;> rfl) | (simp only [← hji18]; first | rfl | (simp [errW_none, errW_some] <;> rfl)) | (simp [*, errW_none, errW_some] <;> rfl), by first | exact Kd.R_nil _ _ _ _ _ | exact Kd.N_nil _ _ _ _ _ | exact Kd.V_nil _ _ _ _ _ | exact Kd.Q_nil _ _ _ _ _ | exact Kd.S_nil _ _ _ _ _, by repeat (first | (with_reducible first | exact HB.out | apply below_alloc | apply pw_below_drewN | apply below_drew1 | refine below_set ?_ GE196.out) | exact HB.out)⟩
            ·rw [if_neg c45] at H
             have c45b0 : ((rd t200 (ji18)) == a0_1) = false := beq_eq_false_iff_ne.mpr c45
             have c45b1 : ((rd t200 (ji18)) != a0_1) = true := bne_iff_ne.mpr c45
             by_cases c47 : 0 ≤ x8_2
             ·rw [if_pos c47] at H
              have c47b0 : decide (0 ≤ x8_2) = true := decide_eq_true c47
              clear c47
              by_cases c48 : x8_2 < (l0_3.length : Int)
              ·rw [if_pos c48] at H
               have c48b0 : decide (x8_2 < (l0_3.length : Int)) = true := decide_eq_true c48
               clear c48
               have H' := Aside0.mk H
               clear H
               have hcz49_0 : wr.cell? ⟨gb196, 0, none⟩ = some (.slice A0_0 l0_0.length c0_0) := (blk_cell BK196.out 0).trans rfl
               have hcz49_1 : wr.cell? ⟨gb196, 1, none⟩ = some (.int .i64 a0_1) := (blk_cell BK196.out 1).trans rfl
               have hcz49_2 : wr.cell? ⟨gb196, 2, none⟩ = some (.int .i64 a0_2) := (blk_cell BK196.out 2).trans rfl
               have hcz49_3 : wr.cell? ⟨gb196, 3, none⟩ = some (.slice A0_3 l0_3.length c0_3) := (blk_cell BK196.out 3).trans rfl
               have hcz49_4 : wr.cell? ⟨gb196, 4, none⟩ = some (.bool a0_4) := (blk_cell BK196.out 4).trans rfl
               have hfz49_0 := blk_frozen BK196.out 0
               have hfz49_1 := blk_frozen BK196.out 1
               have hfz49_2 := blk_frozen BK196.out 2
               have hfz49_3 := blk_frozen BK196.out 3
               have hfz49_4 := blk_frozen BK196.out 4
               have p211 : 0 ≤ (x8_2 : Int) := of_decide_eq_true (by first | (with_reducible assumption) | assumption)
               have q211 : x8_2 < (l0_3.length : Int) := of_decide_eq_true (by first | (with_reducible assumption) | assumption)
               obtain ⟨ad211, e211, hx211_0, hx211_1, hx211_2⟩ := at_T122 HR0_3.out x8_2 p211 q211
               cases e211
               replace hx211_0 := (HB.out.cell (World.block_lt_of_cell? w _ hx211_0)).trans hx211_0
               replace hx211_1 := (HB.out.cell (World.block_lt_of_cell? w _ hx211_1)).trans hx211_1
               replace hx211_2 := (HB.out.cell (World.block_lt_of_cell? w _ hx211_2)).trans hx211_2
               replace p211 := eq_true p211
               replace q211 := eq_true q211
               go_wp2
               go_roundg k2
               case measure => have := HK1.out; have := HK2.out; omega
               case rel => exact ⟨(y203), (wrap64 (x4_1 + 1)), ((rd_T122 l0_3 x8_2).f2), (by first | rfl | (simp; done) | (simp [*]; done)), (by first | rfl | (simp; done) | (simp [*]; done)), H', ⟨by have := HK1.out; have := HK2.out; omega⟩, ⟨by (with_reducible repeat (first | apply Kd.R_alloc | apply Kd.R_drewN | apply Kd.R_drew)); exact HO_3.out⟩, ⟨by (with_reducible repeat (first | refine blk_drewN ?_ _ | refine blk_drew ?_ | refine blk_alloc ?_ _)); exact BK196.out⟩, ⟨by repeat (first | (with_reducible first | exact HB.out | apply below_alloc | apply pw_below_drewN | apply below_drew1 | refine below_set ?_ GE196.out) | exact HB.out)⟩⟩
              ·rw [if_neg c48] at H
               exact absurd H (by simp)
             ·rw [if_neg c47] at H
              exact absurd H (by simp)
       ·rw [if_neg c20] at H
        exact absurd H (by simp)
      ·rw [if_neg c19] at H
       exact absurd H (by simp)
    ·rw [if_neg c10] at H
     exact absurd H (by simp)
end Go.Proofs.Ytgbafpjeapkklaa.PMailboxRuns
