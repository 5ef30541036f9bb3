/- Parts Rg, Sa of the proof. -/
import Derived.Test.YtgbafpjeapkklaaG1
import Derived.Test.YtgbafpjeapkklaaG3
import Derived.Test.YtgbafpjeapkklaaG4
namespace Go.Proofs.Ytgbafpjeapkklaa.PMailboxRuns
open Go.RowKit Go.Proofs.YtgbafpjeapkklaaW.PrintWords Go.Proofs.YtgbafpjeapkklaaW.PrintLast Go.Proofs.YtgbafpjeapkklaaW.PrintMore
attribute [local go_sem] max2_int min2_int max_two min_two max_three min_three max_four min_four
set_option linter.unusedVariables false
set_option linter.unusedSimpArgs false
mutual
def hackamoreref28_Check.j0 : Nat → Int → Bool → List (S105) → Int → Int → List (S122) → Bool → Option (Int)
 | 0, _, _, _, _, _, _, _ => none
 | k + 1, x3, x56, x213000, x213001, x213002, x213003, x213004 => if x56 = true then (some 14) else (hackamoreref28_Check.l0 k x3 1 x213000 x213001 x213002 x213003 x213004)
def hackamoreref28_Check.l0 : Nat → Int → Int → List (S105) → Int → Int → List (S122) → Bool → Option (Int)
 | 0, _, _, _, _, _, _, _ => none
 | k + 1, x3, x4, x213000, x213001, x213002, x213003, x213004 => if x4 < x3 then (if 0 ≤ x4 then (if x4 < (x213000.length : Int) then (if ((rd_T105 x213000 x4).f1) < 0 then (some 14) else (hackamoreref28_Check.l0 k x3 (wrap64 (x4 + 1)) x213000 x213001 x213002 x213003 x213004)) else (none)) else (none)) else (hackamoreref28_Check.l1 k x3 0 x213000 x213001 x213002 x213003 x213004)
def hackamoreref28_Check.l1 : Nat → Int → Int → List (S105) → Int → Int → List (S122) → Bool → Option (Int)
 | 0, _, _, _, _, _, _, _ => none
 | k + 1, x3, x5, x213000, x213001, x213002, x213003, x213004 => if x5 < (x213003.length : Int) then (if 0 ≤ x5 then (if ((rd_T122 x213003 x5).f2) < 0 then (some 14) else (if ((rd_T122 x213003 x5).f2) ≥ x3 then (some 14) else (if ((rd_T122 x213003 x5).f1) < 0 then (some 14) else (if ((rd_T122 x213003 x5).f1) ≥ x3 then (some 14) else (if ((rd_T122 x213003 x5).f0) < 0 then (some 14) else (if x5 > 0 then (if 0 ≤ (wrap64 (x5 - 1)) then (if (wrap64 (x5 - 1)) < (x213003.length : Int) then (if ((rd_T122 x213003 (wrap64 (x5 - 1))).f0) ≥ ((rd_T122 x213003 x5).f0) then (some 14) else (if 0 ≤ ((rd_T122 x213003 x5).f2) then (if ((rd_T122 x213003 x5).f2) < (x213000.length : Int) then (if ((rd_T105 x213000 ((rd_T122 x213003 x5).f2)).f1) = ((rd_T122 x213003 x5).f0) then (hackamoreref28_Check.l1 k x3 (wrap64 (x5 + 1)) x213000 x213001 x213002 x213003 x213004) else (some 14)) else (none)) else (none))) else (none)) else (none)) else (if 0 ≤ ((rd_T122 x213003 x5).f2) then (if ((rd_T122 x213003 x5).f2) < (x213000.length : Int) then (if ((rd_T105 x213000 ((rd_T122 x213003 x5).f2)).f1) = ((rd_T122 x213003 x5).f0) then (hackamoreref28_Check.l1 k x3 (wrap64 (x5 + 1)) x213000 x213001 x213002 x213003 x213004) else (some 14)) else (none)) else (none)))))))) else (none)) else ((hackamoreref28_Order.f k x213000 x213001 x213002 x213003 x213004).bind fun t221 => (if (t221.length : Int) = 0 then (some 14) else ((hackamoreref28_chain.f k x213000 x213001 x213002 x213003 x213004 0).bind fun t224 => (hackamoreref28_Check.l2 k t224 false 0 x213000 x213001 x213002 x213003 x213004))))
def hackamoreref28_Check.l2 : Nat → List Int → Bool → Int → List (S105) → Int → Int → List (S122) → Bool → Option (Int)
 | 0, _, _, _, _, _, _, _, _ => none
 | k + 1, x7, x8, x9, x213000, x213001, x213002, x213003, x213004 => if x9 < (x7.length : Int) then (if x8 = true then (hackamoreref28_Check.l2 k x7 true (wrap64 (x9 + 1)) x213000 x213001 x213002 x213003 x213004) else (if 0 ≤ x9 then (hackamoreref28_Check.l2 k x7 ((rd x7 x9) == x213002) (wrap64 (x9 + 1)) x213000 x213001 x213002 x213003 x213004) else (none))) else (if x8 = true then (if x213004 = true then (if x213002 = x213001 then (some 0) else (some 14)) else (some 0)) else (some 14))
end
def hackamoreref28_Check.f (k : Nat) (l0_0 : List (S105)) (a0_1 : Int) (a0_2 : Int) (l0_3 : List (S122)) (a0_4 : Bool) : Option (Int) := if (l0_0.length : Int) < 1 then (hackamoreref28_Check.j0 k (l0_0.length : Int) true l0_0 a0_1 a0_2 l0_3 a0_4) else (if (l0_0.length : Int) > 2000 then (hackamoreref28_Check.j0 k (l0_0.length : Int) true l0_0 a0_1 a0_2 l0_3 a0_4) else (if a0_1 < 0 then (hackamoreref28_Check.j0 k (l0_0.length : Int) true l0_0 a0_1 a0_2 l0_3 a0_4) else (if a0_1 ≥ (l0_0.length : Int) then (hackamoreref28_Check.j0 k (l0_0.length : Int) true l0_0 a0_1 a0_2 l0_3 a0_4) else (if a0_2 < 0 then (hackamoreref28_Check.j0 k (l0_0.length : Int) true l0_0 a0_1 a0_2 l0_3 a0_4) else (if a0_2 ≥ (l0_0.length : Int) then (hackamoreref28_Check.j0 k (l0_0.length : Int) true l0_0 a0_1 a0_2 l0_3 a0_4) else (if 0 < (l0_0.length : Int) then (if ((rd_T105 l0_0 0).f0) = 0 then (hackamoreref28_Check.j0 k (l0_0.length : Int) (((rd_T105 l0_0 0).f1) != (-1)) l0_0 a0_1 a0_2 l0_3 a0_4) else (hackamoreref28_Check.j0 k (l0_0.length : Int) true l0_0 a0_1 a0_2 l0_3 a0_4)) else (none)))))))
set_option maxHeartbeats 8000000 in
set_option maxRecDepth 100000 in
theorem hackamoreref28_Check.calls (k : Nat) (A0_0 : Option Addr) (c0_0 : Nat) (l0_0 : List (S105)) (a0_1 : Int) (a0_2 : Int) (A0_3 : Option Addr) (c0_3 : Nat) (l0_3 : List (S122)) (a0_4 : Bool) (r : Int) (w : World) (hr0_0 : Kd.C k105 w A0_0 l0_0.length l0_0) (hc0_0 : l0_0.length ≤ c0_0) (hr0_3 : Kd.C k122 w A0_3 l0_3.length l0_3) (hc0_3 : l0_3.length ≤ c0_3) (h : hackamoreref28_Check.f k l0_0 a0_1 a0_2 l0_3 a0_4 = some r) :
  Calls Try.prog 20 #[.agg #[.slice A0_0 l0_0.length c0_0, .int .i64 a0_1, .int .i64 a0_2, .slice A0_3 l0_3.length c0_3, .bool a0_4]] w fun e w' => e = .returned (.int .i64 r) ∧ Below w.heap.size w w' := by
 have hu46 := Try.underlying46
 have hu122 := Try.underlying122
 have HR0_0 := Aside0.mk hr0_0
 have HC0_0 := Aside0.mk hc0_0
 clear hr0_0 hc0_0
 have HR0_3 := Aside0.mk hr0_3
 have HC0_3 := Aside0.mk hc0_3
 clear hr0_3 hc0_3
 have HB := Aside0.mk (Below.refl w.heap.size w)
 have H : (if (l0_0.length : Int) < 1 then (hackamoreref28_Check.j0 k (l0_0.length : Int) true l0_0 a0_1 a0_2 l0_3 a0_4) else (if (l0_0.length : Int) > 2000 then (hackamoreref28_Check.j0 k (l0_0.length : Int) true l0_0 a0_1 a0_2 l0_3 a0_4) else (if a0_1 < 0 then (hackamoreref28_Check.j0 k (l0_0.length : Int) true l0_0 a0_1 a0_2 l0_3 a0_4) else (if a0_1 ≥ (l0_0.length : Int) then (hackamoreref28_Check.j0 k (l0_0.length : Int) true l0_0 a0_1 a0_2 l0_3 a0_4) else (if a0_2 < 0 then (hackamoreref28_Check.j0 k (l0_0.length : Int) true l0_0 a0_1 a0_2 l0_3 a0_4) else (if a0_2 ≥ (l0_0.length : Int) then (hackamoreref28_Check.j0 k (l0_0.length : Int) true l0_0 a0_1 a0_2 l0_3 a0_4) else (if 0 < (l0_0.length : Int) then (if ((rd_T105 l0_0 0).f0) = 0 then (hackamoreref28_Check.j0 k (l0_0.length : Int) (((rd_T105 l0_0 0).f1) != (-1)) l0_0 a0_1 a0_2 l0_3 a0_4) else (hackamoreref28_Check.j0 k (l0_0.length : Int) true l0_0 a0_1 a0_2 l0_3 a0_4)) else (none)))))))) = some r := h
 clear h
 have HC2 := Aside0.mk H
 clear H
 go_enter Try.func20, Try.ntmps20
 go_upto_region 2 with (first | ((with_reducible refine gate_dst (N := 1) rfl ?_); refine box_event ?hg (N := 1) ?hd (cs := #[.slice A0_0 l0_0.length c0_0, .int .i64 a0_1, .int .i64 a0_2, .slice A0_3 l0_3.length c0_3, .bool a0_4]) (t := 46) ?hr ?_; (case hd => rfl); (case hg => rfl); (case hr => first | (go_simp; done) | (go_simp; rfl)); intro gb212 hg w3 hbox hb; have n0_ := Aside0.mk (below_step (by repeat (first | (with_reducible first | exact HB.out | apply below_alloc | apply pw_below_drewN | apply below_drew1) | exact HB.out)) hb); have n1_ := Aside0.mk (hbox); have n2_ := Aside0.mk ((by rw [hg]; exact (below_size (by repeat (first | (with_reducible first | exact HB.out | apply below_alloc | apply pw_below_drewN | apply below_drew1) | exact HB.out))) : w.heap.size ≤ gb212)); have n3_ := Aside0.mk ((by rw [hg]; exact (below_size (by repeat (first | (with_reducible first | exact HB.out | apply below_alloc | apply pw_below_drewN | apply below_drew1) | exact HB.out))) : w.heap.size ≤ gb212)); clear HB; have HB := n0_; have BK212 := n1_; have GW212 := n2_; have GE212 := n3_; clear n0_ n1_ n2_ n3_; clear hb hbox hg; have hcz4_0 : w3.cell? ⟨gb212, 0, none⟩ = some (.slice A0_0 l0_0.length c0_0) := (blk_cell BK212.out 0).trans rfl; have hcz4_1 : w3.cell? ⟨gb212, 1, none⟩ = some (.int .i64 a0_1) := (blk_cell BK212.out 1).trans rfl; have hcz4_2 : w3.cell? ⟨gb212, 2, none⟩ = some (.int .i64 a0_2) := (blk_cell BK212.out 2).trans rfl; have hcz4_3 : w3.cell? ⟨gb212, 3, none⟩ = some (.slice A0_3 l0_3.length c0_3) := (blk_cell BK212.out 3).trans rfl; have hcz4_4 : w3.cell? ⟨gb212, 4, none⟩ = some (.bool a0_4) := (blk_cell BK212.out 4).trans rfl; have hfz4_0 := blk_frozen BK212.out 0; have hfz4_1 := blk_frozen BK212.out 1; have hfz4_2 := blk_frozen BK212.out 2; have hfz4_3 := blk_frozen BK212.out 3; have hfz4_4 := blk_frozen BK212.out 4))
 repeat (go_quiet (fail); try go_wp2)
 (try simp only [Act.put, List.setIfInBounds_toArray, List.set_cons_zero, List.set_cons_succ])
 go_cut [56] (fun v56 wc => ∃ (kq : Nat) (x56_1 : Bool), v56 = .bool x56_1 ∧ Aside0 (hackamoreref28_Check.j0 kq (l0_0.length : Int) x56_1 l0_0 a0_1 a0_2 l0_3 a0_4 = some r) ∧ Aside0 (kq ≤ k) ∧ Aside0 (wc.heap[gb212]? = some (.cells #[(.slice A0_0 l0_0.length c0_0), .int .i64 a0_1, .int .i64 a0_2, (.slice A0_3 l0_3.length c0_3), .bool a0_4] 46 (0, 0))) ∧ Aside0 (Below w.heap.size w wc))
 case first =>
  have H := HC2.out
  clear HC2
  by_cases c5 : (l0_0.length : Int) < 1
  ·rw [if_pos c5] at H
   have c5b0 : decide ((l0_0.length : Int) < 1) = true := decide_eq_true c5
   have c5b1 : decide (l0_0.length < 1) = true := decide_eq_true (by omega)
   clear c5
   (first | rw [c5b0] | (simp only [i64_w, i32_w]; rw [c5b0]) | skip)
   have H' := Aside0.mk H
   clear H
   go_wp2
   repeat (go_quiet (fail); try go_wp2)
   go_meet
   case rel => exact ⟨_, (true), (by first | rfl | (simp; done) | (simp [*]; done)), H', ⟨by first | omega | exact Nat.le_refl _⟩, ⟨by (with_reducible repeat (first | refine blk_drewN ?_ _ | refine blk_drew ?_ | refine blk_alloc ?_ _)); exact BK212.out⟩, ⟨by repeat (first | (with_reducible first | exact HB.out | apply below_alloc | apply pw_below_drewN | apply below_drew1 | refine below_set ?_ GE212.out) | exact HB.out)⟩⟩
  ·rw [if_neg c5] at H
   have c5b0 : decide ((l0_0.length : Int) < 1) = false := decide_eq_false c5
   have c5b1 : decide (l0_0.length < 1) = false := decide_eq_false (by omega)
   clear c5
   (first | rw [c5b0] | (simp only [i64_w, i32_w]; rw [c5b0]) | skip)
   by_cases c6 : (l0_0.length : Int) > 2000
   ·rw [if_pos c6] at H
    have c6b0 : decide (2000 < (l0_0.length : Int)) = true := decide_eq_true c6
    have c6b1 : decide (2000 < l0_0.length) = true := decide_eq_true (by omega)
    clear c6
    have H' := Aside0.mk H
    clear H
    go_wp2
    repeat (go_quiet (fail); try go_wp2)
    go_meet
    case rel => exact ⟨_, (true), (by first | rfl | (simp; done) | (simp [*]; done)), H', ⟨by first | omega | exact Nat.le_refl _⟩, ⟨by (with_reducible repeat (first | refine blk_drewN ?_ _ | refine blk_drew ?_ | refine blk_alloc ?_ _)); exact BK212.out⟩, ⟨by repeat (first | (with_reducible first | exact HB.out | apply below_alloc | apply pw_below_drewN | apply below_drew1 | refine below_set ?_ GE212.out) | exact HB.out)⟩⟩
   ·rw [if_neg c6] at H
    have c6b0 : decide (2000 < (l0_0.length : Int)) = false := decide_eq_false c6
    have c6b1 : decide (2000 < l0_0.length) = false := decide_eq_false (by omega)
    clear c6
    by_cases c7 : a0_1 < 0
    ·rw [if_pos c7] at H
     have c7b0 : decide (a0_1 < 0) = true := decide_eq_true c7
     clear c7
     have H' := Aside0.mk H
     clear H
     have hcz8_0 : w3.cell? ⟨gb212, 0, none⟩ = some (.slice A0_0 l0_0.length c0_0) := (blk_cell BK212.out 0).trans rfl
     have hcz8_1 : w3.cell? ⟨gb212, 1, none⟩ = some (.int .i64 a0_1) := (blk_cell BK212.out 1).trans rfl
     have hcz8_2 : w3.cell? ⟨gb212, 2, none⟩ = some (.int .i64 a0_2) := (blk_cell BK212.out 2).trans rfl
     have hcz8_3 : w3.cell? ⟨gb212, 3, none⟩ = some (.slice A0_3 l0_3.length c0_3) := (blk_cell BK212.out 3).trans rfl
     have hcz8_4 : w3.cell? ⟨gb212, 4, none⟩ = some (.bool a0_4) := (blk_cell BK212.out 4).trans rfl
     have hfz8_0 := blk_frozen BK212.out 0
     have hfz8_1 := blk_frozen BK212.out 1
     have hfz8_2 := blk_frozen BK212.out 2
     have hfz8_3 := blk_frozen BK212.out 3
     have hfz8_4 := blk_frozen BK212.out 4
     go_wp2
     repeat (go_quiet (fail); try go_wp2)
     go_meet
     case rel => exact ⟨_, (true), (by first | rfl | (simp; done) | (simp [*]; done)), H', ⟨by first | omega | exact Nat.le_refl _⟩, ⟨by (with_reducible repeat (first | refine blk_drewN ?_ _ | refine blk_drew ?_ | refine blk_alloc ?_ _)); exact BK212.out⟩, ⟨by repeat (first | (with_reducible first | exact HB.out | apply below_alloc | apply pw_below_drewN | apply below_drew1 | refine below_set ?_ GE212.out) | exact HB.out)⟩⟩
    ·rw [if_neg c7] at H
     have c7b0 : decide (a0_1 < 0) = false := decide_eq_false c7
     clear c7
     by_cases c9 : a0_1 ≥ (l0_0.length : Int)
     ·rw [if_pos c9] at H
      have c9b0 : decide ((l0_0.length : Int) ≤ a0_1) = true := decide_eq_true c9
      clear c9
      have H' := Aside0.mk H
      clear H
      have hcz10_0 : w3.cell? ⟨gb212, 0, none⟩ = some (.slice A0_0 l0_0.length c0_0) := (blk_cell BK212.out 0).trans rfl
      have hcz10_1 : w3.cell? ⟨gb212, 1, none⟩ = some (.int .i64 a0_1) := (blk_cell BK212.out 1).trans rfl
      have hcz10_2 : w3.cell? ⟨gb212, 2, none⟩ = some (.int .i64 a0_2) := (blk_cell BK212.out 2).trans rfl
      have hcz10_3 : w3.cell? ⟨gb212, 3, none⟩ = some (.slice A0_3 l0_3.length c0_3) := (blk_cell BK212.out 3).trans rfl
      have hcz10_4 : w3.cell? ⟨gb212, 4, none⟩ = some (.bool a0_4) := (blk_cell BK212.out 4).trans rfl
      have hfz10_0 := blk_frozen BK212.out 0
      have hfz10_1 := blk_frozen BK212.out 1
      have hfz10_2 := blk_frozen BK212.out 2
      have hfz10_3 := blk_frozen BK212.out 3
      have hfz10_4 := blk_frozen BK212.out 4
      go_wp2
      repeat (go_quiet (fail); try go_wp2)
      go_meet
      case rel => exact ⟨_, (true), (by first | rfl | (simp; done) | (simp [*]; done)), H', ⟨by first | omega | exact Nat.le_refl _⟩, ⟨by (with_reducible repeat (first | refine blk_drewN ?_ _ | refine blk_drew ?_ | refine blk_alloc ?_ _)); exact BK212.out⟩, ⟨by repeat (first | (with_reducible first | exact HB.out | apply below_alloc | apply pw_below_drewN | apply below_drew1 | refine below_set ?_ GE212.out) | exact HB.out)⟩⟩
     ·rw [if_neg c9] at H
      have c9b0 : decide ((l0_0.length : Int) ≤ a0_1) = false := decide_eq_false c9
      clear c9
      by_cases c11 : a0_2 < 0
      ·rw [if_pos c11] at H
       have c11b0 : decide (a0_2 < 0) = true := decide_eq_true c11
       clear c11
       have H' := Aside0.mk H
       clear H
       have hcz12_0 : w3.cell? ⟨gb212, 0, none⟩ = some (.slice A0_0 l0_0.length c0_0) := (blk_cell BK212.out 0).trans rfl
       have hcz12_1 : w3.cell? ⟨gb212, 1, none⟩ = some (.int .i64 a0_1) := (blk_cell BK212.out 1).trans rfl
       have hcz12_2 : w3.cell? ⟨gb212, 2, none⟩ = some (.int .i64 a0_2) := (blk_cell BK212.out 2).trans rfl
       have hcz12_3 : w3.cell? ⟨gb212, 3, none⟩ = some (.slice A0_3 l0_3.length c0_3) := (blk_cell BK212.out 3).trans rfl
       have hcz12_4 : w3.cell? ⟨gb212, 4, none⟩ = some (.bool a0_4) := (blk_cell BK212.out 4).trans rfl
       have hfz12_0 := blk_frozen BK212.out 0
       have hfz12_1 := blk_frozen BK212.out 1
       have hfz12_2 := blk_frozen BK212.out 2
       have hfz12_3 := blk_frozen BK212.out 3
       have hfz12_4 := blk_frozen BK212.out 4
       go_wp2
       repeat (go_quiet (fail); try go_wp2)
       go_meet
       case rel => exact ⟨_, (true), (by first | rfl | (simp; done) | (simp [*]; done)), H', ⟨by first | omega | exact Nat.le_refl _⟩, ⟨by (with_reducible repeat (first | refine blk_drewN ?_ _ | refine blk_drew ?_ | refine blk_alloc ?_ _)); exact BK212.out⟩, ⟨by repeat (first | (with_reducible first | exact HB.out | apply below_alloc | apply pw_below_drewN | apply below_drew1 | refine below_set ?_ GE212.out) | exact HB.out)⟩⟩
      ·rw [if_neg c11] at H
       have c11b0 : decide (a0_2 < 0) = false := decide_eq_false c11
       clear c11
       by_cases c13 : a0_2 ≥ (l0_0.length : Int)
       ·rw [if_pos c13] at H
        have c13b0 : decide ((l0_0.length : Int) ≤ a0_2) = true := decide_eq_true c13
        clear c13
        have H' := Aside0.mk H
        clear H
        have hcz14_0 : w3.cell? ⟨gb212, 0, none⟩ = some (.slice A0_0 l0_0.length c0_0) := (blk_cell BK212.out 0).trans rfl
        have hcz14_1 : w3.cell? ⟨gb212, 1, none⟩ = some (.int .i64 a0_1) := (blk_cell BK212.out 1).trans rfl
        have hcz14_2 : w3.cell? ⟨gb212, 2, none⟩ = some (.int .i64 a0_2) := (blk_cell BK212.out 2).trans rfl
        have hcz14_3 : w3.cell? ⟨gb212, 3, none⟩ = some (.slice A0_3 l0_3.length c0_3) := (blk_cell BK212.out 3).trans rfl
        have hcz14_4 : w3.cell? ⟨gb212, 4, none⟩ = some (.bool a0_4) := (blk_cell BK212.out 4).trans rfl
        have hfz14_0 := blk_frozen BK212.out 0
        have hfz14_1 := blk_frozen BK212.out 1
        have hfz14_2 := blk_frozen BK212.out 2
        have hfz14_3 := blk_frozen BK212.out 3
        have hfz14_4 := blk_frozen BK212.out 4
        go_wp2
        repeat (go_quiet (fail); try go_wp2)
        go_meet
        case rel => exact ⟨_, (true), (by first | rfl | (simp; done) | (simp [*]; done)), H', ⟨by first | omega | exact Nat.le_refl _⟩, ⟨by (with_reducible repeat (first | refine blk_drewN ?_ _ | refine blk_drew ?_ | refine blk_alloc ?_ _)); exact BK212.out⟩, ⟨by repeat (first | (with_reducible first | exact HB.out | apply below_alloc | apply pw_below_drewN | apply below_drew1 | refine below_set ?_ GE212.out) | exact HB.out)⟩⟩
       ·rw [if_neg c13] at H
        have c13b0 : decide ((l0_0.length : Int) ≤ a0_2) = false := decide_eq_false c13
        clear c13
        by_cases c15 : 0 < (l0_0.length : Int)
        ·rw [if_pos c15] at H
         have c15b0 : decide (0 < (l0_0.length : Int)) = true := decide_eq_true c15
         have c15b1 : decide (0 < l0_0.length) = true := decide_eq_true (by omega)
         clear c15
         by_cases c16 : ((rd_T105 l0_0 0).f0) = 0
         ·rw [if_pos c16] at H
          have c16b0 : (((rd_T105 l0_0 0).f0) == 0) = true := beq_iff_eq.mpr c16
          have c16b1 : (((rd_T105 l0_0 0).f0) != 0) = false := bne_eq_false_iff_eq.mpr c16
          clear c16
          have H' := Aside0.mk H
          clear H
          have hcz17_0 : w3.cell? ⟨gb212, 0, none⟩ = some (.slice A0_0 l0_0.length c0_0) := (blk_cell BK212.out 0).trans rfl
          have hcz17_1 : w3.cell? ⟨gb212, 1, none⟩ = some (.int .i64 a0_1) := (blk_cell BK212.out 1).trans rfl
          have hcz17_2 : w3.cell? ⟨gb212, 2, none⟩ = some (.int .i64 a0_2) := (blk_cell BK212.out 2).trans rfl
          have hcz17_3 : w3.cell? ⟨gb212, 3, none⟩ = some (.slice A0_3 l0_3.length c0_3) := (blk_cell BK212.out 3).trans rfl
          have hcz17_4 : w3.cell? ⟨gb212, 4, none⟩ = some (.bool a0_4) := (blk_cell BK212.out 4).trans rfl
          have hfz17_0 := blk_frozen BK212.out 0
          have hfz17_1 := blk_frozen BK212.out 1
          have hfz17_2 := blk_frozen BK212.out 2
          have hfz17_3 := blk_frozen BK212.out 3
          have hfz17_4 := blk_frozen BK212.out 4
          have p213 : 0 ≤ (0 : Int) := (by omega)
          have q213 : 0 < (l0_0.length : Int) := of_decide_eq_true (by first | (with_reducible assumption) | assumption)
          obtain ⟨ad213, e213, hx213_0, hx213_1, hx213_2⟩ := at_T105 HR0_0.out 0 p213 q213
          cases e213
          have qi213 : (0 < l0_0.length) = True := eq_true (by omega)
          (try rw [show ((0 : Int)).toNat = 0 from rfl] at hx213_0)
          (try rw [show 0 * 3 = 0 from rfl] at hx213_0)
          (try rw [Addr.add_zero'] at hx213_0)
          (try rw [show ((0 : Int)).toNat = 0 from rfl] at hx213_1)
          (try rw [show 0 * 3 = 0 from rfl] at hx213_1)
          (try rw [Addr.add_zero'] at hx213_1)
          (try rw [show ((0 : Int)).toNat = 0 from rfl] at hx213_2)
          (try rw [show 0 * 3 = 0 from rfl] at hx213_2)
          (try rw [Addr.add_zero'] at hx213_2)
          replace hx213_0 := (HB.out.cell (World.block_lt_of_cell? w _ hx213_0)).trans hx213_0
          replace hx213_1 := (HB.out.cell (World.block_lt_of_cell? w _ hx213_1)).trans hx213_1
          replace hx213_2 := (HB.out.cell (World.block_lt_of_cell? w _ hx213_2)).trans hx213_2
          replace p213 := eq_true p213
          replace q213 := eq_true q213
          have p214 : 0 ≤ (0 : Int) := (by omega)
          have q214 : 0 < (l0_0.length : Int) := of_decide_eq_true (by first | (with_reducible assumption) | assumption)
          obtain ⟨ad214, e214, hx214_0, hx214_1, hx214_2⟩ := at_T105 HR0_0.out 0 p214 q214
          obtain rfl : ad213 = ad214 := (by injection e214)
          have qi214 : (0 < l0_0.length) = True := eq_true (by omega)
          (try rw [show ((0 : Int)).toNat = 0 from rfl] at hx214_0)
          (try rw [show 0 * 3 = 0 from rfl] at hx214_0)
          (try rw [Addr.add_zero'] at hx214_0)
          (try rw [show ((0 : Int)).toNat = 0 from rfl] at hx214_1)
          (try rw [show 0 * 3 = 0 from rfl] at hx214_1)
          (try rw [Addr.add_zero'] at hx214_1)
          (try rw [show ((0 : Int)).toNat = 0 from rfl] at hx214_2)
          (try rw [show 0 * 3 = 0 from rfl] at hx214_2)
          (try rw [Addr.add_zero'] at hx214_2)
          replace hx214_0 := (HB.out.cell (World.block_lt_of_cell? w _ hx214_0)).trans hx214_0
          replace hx214_1 := (HB.out.cell (World.block_lt_of_cell? w _ hx214_1)).trans hx214_1
          replace hx214_2 := (HB.out.cell (World.block_lt_of_cell? w _ hx214_2)).trans hx214_2
          replace p214 := eq_true p214
          replace q214 := eq_true q214
          go_wp2
          repeat (go_quiet (fail); try go_wp2)
          go_meet
          case rel => exact ⟨_, ((((rd_T105 l0_0 0).f1) != (-1))), (by first | rfl | (simp; done) | (simp [*]; done)), H', ⟨by first | omega | exact Nat.le_refl _⟩, ⟨by (with_reducible repeat (first | refine blk_drewN ?_ _ | refine blk_drew ?_ | refine blk_alloc ?_ _)); exact BK212.out⟩, ⟨by repeat (first | (with_reducible first | exact HB.out | apply below_alloc | apply pw_below_drewN | apply below_drew1 | refine below_set ?_ GE212.out) | exact HB.out)⟩⟩
         ·rw [if_neg c16] at H
          have c16b0 : (((rd_T105 l0_0 0).f0) == 0) = false := beq_eq_false_iff_ne.mpr c16
          have c16b1 : (((rd_T105 l0_0 0).f0) != 0) = true := bne_iff_ne.mpr c16
          have H' := Aside0.mk H
          clear H
          have hcz18_0 : w3.cell? ⟨gb212, 0, none⟩ = some (.slice A0_0 l0_0.length c0_0) := (blk_cell BK212.out 0).trans rfl
          have hcz18_1 : w3.cell? ⟨gb212, 1, none⟩ = some (.int .i64 a0_1) := (blk_cell BK212.out 1).trans rfl
          have hcz18_2 : w3.cell? ⟨gb212, 2, none⟩ = some (.int .i64 a0_2) := (blk_cell BK212.out 2).trans rfl
          have hcz18_3 : w3.cell? ⟨gb212, 3, none⟩ = some (.slice A0_3 l0_3.length c0_3) := (blk_cell BK212.out 3).trans rfl
          have hcz18_4 : w3.cell? ⟨gb212, 4, none⟩ = some (.bool a0_4) := (blk_cell BK212.out 4).trans rfl
          have hfz18_0 := blk_frozen BK212.out 0
          have hfz18_1 := blk_frozen BK212.out 1
          have hfz18_2 := blk_frozen BK212.out 2
          have hfz18_3 := blk_frozen BK212.out 3
          have hfz18_4 := blk_frozen BK212.out 4
          have p213 : 0 ≤ (0 : Int) := (by omega)
          have q213 : 0 < (l0_0.length : Int) := of_decide_eq_true (by first | (with_reducible assumption) | assumption)
          obtain ⟨ad213, e213, hx213_0, hx213_1, hx213_2⟩ := at_T105 HR0_0.out 0 p213 q213
          cases e213
          have qi213 : (0 < l0_0.length) = True := eq_true (by omega)
          (try rw [show ((0 : Int)).toNat = 0 from rfl] at hx213_0)
          (try rw [show 0 * 3 = 0 from rfl] at hx213_0)
          (try rw [Addr.add_zero'] at hx213_0)
          (try rw [show ((0 : Int)).toNat = 0 from rfl] at hx213_1)
          (try rw [show 0 * 3 = 0 from rfl] at hx213_1)
          (try rw [Addr.add_zero'] at hx213_1)
          (try rw [show ((0 : Int)).toNat = 0 from rfl] at hx213_2)
          (try rw [show 0 * 3 = 0 from rfl] at hx213_2)
          (try rw [Addr.add_zero'] at hx213_2)
          replace hx213_0 := (HB.out.cell (World.block_lt_of_cell? w _ hx213_0)).trans hx213_0
          replace hx213_1 := (HB.out.cell (World.block_lt_of_cell? w _ hx213_1)).trans hx213_1
          replace hx213_2 := (HB.out.cell (World.block_lt_of_cell? w _ hx213_2)).trans hx213_2
          replace p213 := eq_true p213
          replace q213 := eq_true q213
          go_wp2
          repeat (go_quiet (fail); try go_wp2)
          go_meet
          case rel => exact ⟨_, (true), (by first | rfl | (simp; done) | (simp [*]; done)), H', ⟨by first | omega | exact Nat.le_refl _⟩, ⟨by (with_reducible repeat (first | refine blk_drewN ?_ _ | refine blk_drew ?_ | refine blk_alloc ?_ _)); exact BK212.out⟩, ⟨by repeat (first | (with_reducible first | exact HB.out | apply below_alloc | apply pw_below_drewN | apply below_drew1 | refine below_set ?_ GE212.out) | exact HB.out)⟩⟩
        ·rw [if_neg c15] at H
         exact absurd H (by simp)
 case rest =>
  clear HC2
  try clear c1
  try clear c2
  try clear p2
  try clear q2
  try clear hx2
  try clear qi2
  try clear c5
  try clear c5b0
  try clear c5b1
  try clear c6
  try clear c6b0
  try clear c6b1
  try clear c7
  try clear c7b0
  try clear c9
  try clear c9b0
  try clear c11
  try clear c11b0
  try clear c13
  try clear c13b0
  try clear c15
  try clear c15b0
  try clear c15b1
  try clear c16
  try clear c16b0
  try clear c16b1
  try clear hcz10_0
  try clear hcz10_1
  try clear hcz10_2
  try clear hcz10_3
  try clear hcz10_4
  try clear hcz12_0
  try clear hcz12_1
  try clear hcz12_2
  try clear hcz12_3
  try clear hcz12_4
  try clear hcz14_0
  try clear hcz14_1
  try clear hcz14_2
  try clear hcz14_3
  try clear hcz14_4
  try clear hcz17_0
  try clear hcz17_1
  try clear hcz17_2
  try clear hcz17_3
  try clear hcz17_4
  try clear hcz18_0
  try clear hcz18_1
  try clear hcz18_2
  try clear hcz18_3
  try clear hcz18_4
  try clear hcz4_0
  try clear hcz4_1
  try clear hcz4_2
  try clear hcz4_3
  try clear hcz4_4
  try clear hcz8_0
  try clear hcz8_1
  try clear hcz8_2
  try clear hcz8_3
  try clear hcz8_4
  try clear hfz10_0
  try clear hfz10_1
  try clear hfz10_2
  try clear hfz10_3
  try clear hfz10_4
  try clear hfz12_0
  try clear hfz12_1
  try clear hfz12_2
  try clear hfz12_3
  try clear hfz12_4
  try clear hfz14_0
  try clear hfz14_1
  try clear hfz14_2
  try clear hfz14_3
  try clear hfz14_4
  try clear hfz17_0
  try clear hfz17_1
  try clear hfz17_2
  try clear hfz17_3
  try clear hfz17_4
  try clear hfz18_0
  try clear hfz18_1
  try clear hfz18_2
  try clear hfz18_3
  try clear hfz18_4
  try clear hfz4_0
  try clear hfz4_1
  try clear hfz4_2
  try clear hfz4_3
  try clear hfz4_4
  try clear hfz8_0
  try clear hfz8_1
  try clear hfz8_2
  try clear hfz8_3
  try clear hfz8_4
  try clear hx213_0
  try clear hx213_1
  try clear hx213_2
  try clear hx214_0
  try clear hx214_1
  try clear hx214_2
  try clear p213
  try clear p214
  try clear q213
  try clear q214
  obtain ⟨kq, x56_1, rfl, HA, HJ1, BK212, HB⟩ := hcut
  cases kq with
  | zero => exact absurd HA.out (by simp [hackamoreref28_Check.j0])
  | succ kj1 =>
   have H := HA.out
   clear HA
   simp only [hackamoreref28_Check.j0] at H
   by_cases c19 : x56_1 = true
   ·subst c19
    have H1 : (some 14) = some r := by rw [if_pos rfl] at H; exact H
    clear H
    have H := H1
    clear H1
    obtain rfl := Option.some.inj H
    go_wp2
    repeat (go_quiet (fail); try go_wp2)
    go_ret
    exact ⟨by first | rfl | (simp [errW_none, errW_some] <;> rfl) | (simp [*, errW_none, errW_some] <;> rfl), by repeat (first | (with_reducible first | exact HB.out | apply below_alloc | apply pw_below_drewN | apply below_drew1 | refine below_set ?_ GE212.out) | exact HB.out)⟩
   ·replace c19 := Bool.eq_false_iff.mpr c19
    subst c19
    have H1 : (hackamoreref28_Check.l0 kj1 (l0_0.length : Int) 1 l0_0 a0_1 a0_2 l0_3 a0_4) = some r := by rw [if_neg (show ¬ (false = true) by decide)] at H; exact H
    clear H
    have H := H1
    clear H1
    have H' := Aside0.mk H
    clear H
    go_wp2
    repeat (go_quiet (fail); try go_wp2)
    go_loopg [4] kj1 (fun kq v4 w' => ∃ (x4_2 : Int), v4 = .int .i64 x4_2 ∧ Aside0 (hackamoreref28_Check.l0 kq (l0_0.length : Int) x4_2 l0_0 a0_1 a0_2 l0_3 a0_4 = some r) ∧ Aside0 (kq ≤ kj1) ∧ Aside0 (w'.heap[gb212]? = some (.cells #[(.slice A0_0 l0_0.length c0_0), .int .i64 a0_1, .int .i64 a0_2, (.slice A0_3 l0_3.length c0_3), .bool a0_4] 46 (0, 0))) ∧ Aside0 (Below w.heap.size w w'))
    case atStart => exact ⟨(1), (by first | rfl | (simp; done) | (simp [*]; done)), H', ⟨Nat.le_refl _⟩, ⟨by (with_reducible repeat (first | refine blk_drewN ?_ _ | refine blk_drew ?_ | refine blk_alloc ?_ _)); exact BK212.out⟩, ⟨by repeat (first | (with_reducible first | exact HB.out | apply below_alloc | apply pw_below_drewN | apply below_drew1 | refine below_set ?_ GE212.out) | exact HB.out)⟩⟩
    case round =>
     clear H'
     try clear c1
     try clear c2
     try clear p2
     try clear q2
     try clear hx2
     try clear qi2
     try clear c5
     try clear c5b0
     try clear c5b1
     try clear c6
     try clear c6b0
     try clear c6b1
     try clear c7
     try clear c7b0
     try clear c9
     try clear c9b0
     try clear c11
     try clear c11b0
     try clear c13
     try clear c13b0
     try clear c15
     try clear c15b0
     try clear c15b1
     try clear c16
     try clear c16b0
     try clear c16b1
     try clear c19
     try clear hcz10_0
     try clear hcz10_1
     try clear hcz10_2
     try clear hcz10_3
     try clear hcz10_4
     try clear hcz12_0
     try clear hcz12_1
     try clear hcz12_2
     try clear hcz12_3
     try clear hcz12_4
     try clear hcz14_0
     try clear hcz14_1
     try clear hcz14_2
     try clear hcz14_3
     try clear hcz14_4
     try clear hcz17_0
     try clear hcz17_1
     try clear hcz17_2
     try clear hcz17_3
     try clear hcz17_4
     try clear hcz18_0
     try clear hcz18_1
     try clear hcz18_2
     try clear hcz18_3
     try clear hcz18_4
     try clear hcz4_0
     try clear hcz4_1
     try clear hcz4_2
     try clear hcz4_3
     try clear hcz4_4
     try clear hcz8_0
     try clear hcz8_1
     try clear hcz8_2
     try clear hcz8_3
     try clear hcz8_4
     try clear hfz10_0
     try clear hfz10_1
     try clear hfz10_2
     try clear hfz10_3
     try clear hfz10_4
     try clear hfz12_0
     try clear hfz12_1
     try clear hfz12_2
     try clear hfz12_3
     try clear hfz12_4
     try clear hfz14_0
     try clear hfz14_1
     try clear hfz14_2
     try clear hfz14_3
     try clear hfz14_4
     try clear hfz17_0
     try clear hfz17_1
     try clear hfz17_2
     try clear hfz17_3
     try clear hfz17_4
     try clear hfz18_0
     try clear hfz18_1
     try clear hfz18_2
     try clear hfz18_3
     try clear hfz18_4
     try clear hfz4_0
     try clear hfz4_1
     try clear hfz4_2
     try clear hfz4_3
     try clear hfz4_4
     try clear hfz8_0
     try clear hfz8_1
     try clear hfz8_2
     try clear hfz8_3
     try clear hfz8_4
     try clear hx213_0
     try clear hx213_1
     try clear hx213_2
     try clear hx214_0
     try clear hx214_1
     try clear hx214_2
     try clear p2
     try clear p213
     try clear p214
     try clear q2
     try clear q213
     try clear q214
     obtain ⟨x4_2, rfl, HA, HK2, BK212, HB⟩ := hrel
     cases gk with
     | zero => exact absurd HA.out (by simp [hackamoreref28_Check.l0])
     | succ k2 =>
      have H := HA.out
      clear HA
      simp only [hackamoreref28_Check.l0] at H
      by_cases c20 : x4_2 < (l0_0.length : Int)
      ·rw [if_pos c20] at H
       have c20b0 : decide (x4_2 < (l0_0.length : Int)) = true := decide_eq_true c20
       clear c20
       by_cases c21 : 0 ≤ x4_2
       ·rw [if_pos c21] at H
        have c21b0 : decide (0 ≤ x4_2) = true := decide_eq_true c21
        clear c21
        by_cases c22 : x4_2 < (l0_0.length : Int)
        ·rw [if_pos c22] at H
         have c22b0 : decide (x4_2 < (l0_0.length : Int)) = true := decide_eq_true c22
         clear c22
         by_cases c23 : ((rd_T105 l0_0 x4_2).f1) < 0
         ·rw [if_pos c23] at H
          have c23b0 : decide (((rd_T105 l0_0 x4_2).f1) < 0) = true := decide_eq_true c23
          clear c23
          obtain rfl := Option.some.inj H
          have hcz24_0 : wr.cell? ⟨gb212, 0, none⟩ = some (.slice A0_0 l0_0.length c0_0) := (blk_cell BK212.out 0).trans rfl
          have hcz24_1 : wr.cell? ⟨gb212, 1, none⟩ = some (.int .i64 a0_1) := (blk_cell BK212.out 1).trans rfl
          have hcz24_2 : wr.cell? ⟨gb212, 2, none⟩ = some (.int .i64 a0_2) := (blk_cell BK212.out 2).trans rfl
          have hcz24_3 : wr.cell? ⟨gb212, 3, none⟩ = some (.slice A0_3 l0_3.length c0_3) := (blk_cell BK212.out 3).trans rfl
          have hcz24_4 : wr.cell? ⟨gb212, 4, none⟩ = some (.bool a0_4) := (blk_cell BK212.out 4).trans rfl
          have hfz24_0 := blk_frozen BK212.out 0
          have hfz24_1 := blk_frozen BK212.out 1
          have hfz24_2 := blk_frozen BK212.out 2
          have hfz24_3 := blk_frozen BK212.out 3
          have hfz24_4 := blk_frozen BK212.out 4
          have p215 : 0 ≤ (x4_2 : Int) := of_decide_eq_true (by first | (with_reducible assumption) | assumption)
          have q215 : x4_2 < (l0_0.length : Int) := of_decide_eq_true (by first | (with_reducible assumption) | assumption)
          obtain ⟨ad215, e215, hx215_0, hx215_1, hx215_2⟩ := at_T105 HR0_0.out x4_2 p215 q215
          cases e215
          replace hx215_0 := (HB.out.cell (World.block_lt_of_cell? w _ hx215_0)).trans hx215_0
          replace hx215_1 := (HB.out.cell (World.block_lt_of_cell? w _ hx215_1)).trans hx215_1
          replace hx215_2 := (HB.out.cell (World.block_lt_of_cell? w _ hx215_2)).trans hx215_2
          replace p215 := eq_true p215
          replace q215 := eq_true q215
          go_wp2
          repeat (go_quiet (fail); try go_wp2)
          go_ret
          exact ⟨by first | rfl | (simp [errW_none, errW_some] <;> rfl) | (simp [*, errW_none, errW_some] <;> rfl), by repeat (first | (with_reducible first | exact HB.out | apply below_alloc | apply pw_below_drewN | apply below_drew1 | refine below_set ?_ GE212.out) | exact HB.out)⟩
         ·rw [if_neg c23] at H
          have c23b0 : decide (((rd_T105 l0_0 x4_2).f1) < 0) = false := decide_eq_false c23
          clear c23
          have H' := Aside0.mk H
          clear H
          have hcz25_0 : wr.cell? ⟨gb212, 0, none⟩ = some (.slice A0_0 l0_0.length c0_0) := (blk_cell BK212.out 0).trans rfl
          have hcz25_1 : wr.cell? ⟨gb212, 1, none⟩ = some (.int .i64 a0_1) := (blk_cell BK212.out 1).trans rfl
          have hcz25_2 : wr.cell? ⟨gb212, 2, none⟩ = some (.int .i64 a0_2) := (blk_cell BK212.out 2).trans rfl
          have hcz25_3 : wr.cell? ⟨gb212, 3, none⟩ = some (.slice A0_3 l0_3.length c0_3) := (blk_cell BK212.out 3).trans rfl
          have hcz25_4 : wr.cell? ⟨gb212, 4, none⟩ = some (.bool a0_4) := (blk_cell BK212.out 4).trans rfl
          have hfz25_0 := blk_frozen BK212.out 0
          have hfz25_1 := blk_frozen BK212.out 1
          have hfz25_2 := blk_frozen BK212.out 2
          have hfz25_3 := blk_frozen BK212.out 3
          have hfz25_4 := blk_frozen BK212.out 4
          have p215 : 0 ≤ (x4_2 : Int) := of_decide_eq_true (by first | (with_reducible assumption) | assumption)
          have q215 : x4_2 < (l0_0.length : Int) := of_decide_eq_true (by first | (with_reducible assumption) | assumption)
          obtain ⟨ad215, e215, hx215_0, hx215_1, hx215_2⟩ := at_T105 HR0_0.out x4_2 p215 q215
          cases e215
          replace hx215_0 := (HB.out.cell (World.block_lt_of_cell? w _ hx215_0)).trans hx215_0
          replace hx215_1 := (HB.out.cell (World.block_lt_of_cell? w _ hx215_1)).trans hx215_1
          replace hx215_2 := (HB.out.cell (World.block_lt_of_cell? w _ hx215_2)).trans hx215_2
          replace p215 := eq_true p215
          replace q215 := eq_true q215
          go_wp2
          repeat (go_quiet (fail); try go_wp2)
          go_roundg k2
          case measure => have := HJ1.out; have := HK2.out; omega
          case rel => exact ⟨(wrap64 (x4_2 + 1)), (by first | rfl | (simp; done) | (simp [*]; done)), H', ⟨by have := HJ1.out; have := HK2.out; omega⟩, ⟨by (with_reducible repeat (first | refine blk_drewN ?_ _ | refine blk_drew ?_ | refine blk_alloc ?_ _)); exact BK212.out⟩, ⟨by repeat (first | (with_reducible first | exact HB.out | apply below_alloc | apply pw_below_drewN | apply below_drew1 | refine below_set ?_ GE212.out) | exact HB.out)⟩⟩
        ·rw [if_neg c22] at H
         exact absurd H (by simp)
       ·rw [if_neg c21] at H
        exact absurd H (by simp)
      ·rw [if_neg c20] at H
       have c20b0 : decide (x4_2 < (l0_0.length : Int)) = false := decide_eq_false c20
       clear c20
       have H' := Aside0.mk H
       clear H
       go_wp2
       repeat (go_quiet (fail); try go_wp2)
       go_loopg [5] k2 (fun kq v5 w' => ∃ (x5_3 : Int), v5 = .int .i64 x5_3 ∧ Aside0 (hackamoreref28_Check.l1 kq (l0_0.length : Int) x5_3 l0_0 a0_1 a0_2 l0_3 a0_4 = some r) ∧ Aside0 (kq ≤ k2) ∧ Aside0 (w'.heap[gb212]? = some (.cells #[(.slice A0_0 l0_0.length c0_0), .int .i64 a0_1, .int .i64 a0_2, (.slice A0_3 l0_3.length c0_3), .bool a0_4] 46 (0, 0))) ∧ Aside0 (Below w.heap.size w w'))
       case atStart => exact ⟨(0), (by first | rfl | (simp; done) | (simp [*]; done)), H', ⟨Nat.le_refl _⟩, ⟨by (with_reducible repeat (first | refine blk_drewN ?_ _ | refine blk_drew ?_ | refine blk_alloc ?_ _)); exact BK212.out⟩, ⟨by repeat (first | (with_reducible first | exact HB.out | apply below_alloc | apply pw_below_drewN | apply below_drew1 | refine below_set ?_ GE212.out) | exact HB.out)⟩⟩
       case round =>
        clear H'
        try clear c1
        try clear c2
        try clear p2
        try clear q2
        try clear hx2
        try clear qi2
        try clear c5
        try clear c5b0
        try clear c5b1
        try clear c6
        try clear c6b0
        try clear c6b1
        try clear p6
        try clear c7
        try clear c7b0
        try clear c9
        try clear c9b0
        try clear c11
        try clear c11b0
        try clear c13
        try clear c13b0
        try clear c15
        try clear c15b0
        try clear c15b1
        try clear c16
        try clear c16b0
        try clear c16b1
        try clear c19
        try clear c20
        try clear c20b0
        try clear c21
        try clear c21b0
        try clear p21
        try clear q21
        try clear hx21
        try clear qi21
        try clear c22
        try clear c22b0
        try clear c23
        try clear c23b0
        try clear hcz10_0
        try clear hcz10_1
        try clear hcz10_2
        try clear hcz10_3
        try clear hcz10_4
        try clear hcz12_0
        try clear hcz12_1
        try clear hcz12_2
        try clear hcz12_3
        try clear hcz12_4
        try clear hcz14_0
        try clear hcz14_1
        try clear hcz14_2
        try clear hcz14_3
        try clear hcz14_4
        try clear hcz17_0
        try clear hcz17_1
        try clear hcz17_2
        try clear hcz17_3
        try clear hcz17_4
        try clear hcz18_0
        try clear hcz18_1
        try clear hcz18_2
        try clear hcz18_3
        try clear hcz18_4
        try clear hcz24_0
        try clear hcz24_1
        try clear hcz24_2
        try clear hcz24_3
        try clear hcz24_4
        try clear hcz25_0
        try clear hcz25_1
        try clear hcz25_2
        try clear hcz25_3
        try clear hcz25_4
        try clear hcz4_0
        try clear hcz4_1
        try clear hcz4_2
        try clear hcz4_3
        try clear hcz4_4
        try clear hcz8_0
        try clear hcz8_1
        try clear hcz8_2
        try clear hcz8_3
        try clear hcz8_4
        try clear hfz10_0
        try clear hfz10_1
        try clear hfz10_2
        try clear hfz10_3
        try clear hfz10_4
        try clear hfz12_0
        try clear hfz12_1
        try clear hfz12_2
        try clear hfz12_3
        try clear hfz12_4
        try clear hfz14_0
        try clear hfz14_1
        try clear hfz14_2
        try clear hfz14_3
        try clear hfz14_4
        try clear hfz17_0
        try clear hfz17_1
        try clear hfz17_2
        try clear hfz17_3
        try clear hfz17_4
        try clear hfz18_0
        try clear hfz18_1
        try clear hfz18_2
        try clear hfz18_3
        try clear hfz18_4
        try clear hfz24_0
        try clear hfz24_1
        try clear hfz24_2
        try clear hfz24_3
        try clear hfz24_4
        try clear hfz25_0
        try clear hfz25_1
        try clear hfz25_2
        try clear hfz25_3
        try clear hfz25_4
        try clear hfz4_0
        try clear hfz4_1
        try clear hfz4_2
        try clear hfz4_3
        try clear hfz4_4
        try clear hfz8_0
        try clear hfz8_1
        try clear hfz8_2
        try clear hfz8_3
        try clear hfz8_4
        try clear hx213_0
        try clear hx213_1
        try clear hx213_2
        try clear hx214_0
        try clear hx214_1
        try clear hx214_2
        try clear hx215_0
        try clear hx215_1
        try clear hx215_2
        try clear p2
        try clear p213
        try clear p214
        try clear p215
        try clear q2
        try clear q213
        try clear q214
        try clear q215
        obtain ⟨x5_3, rfl, HA, HK3, BK212, HB⟩ := hrel
        cases gk with
        | zero => exact absurd HA.out (by simp [hackamoreref28_Check.l1])
        | succ k3 =>
         have H := HA.out
         clear HA
         simp only [hackamoreref28_Check.l1] at H
         by_cases c26 : x5_3 < (l0_3.length : Int)
         ·rw [if_pos c26] at H
          have c26b0 : decide (x5_3 < (l0_3.length : Int)) = true := decide_eq_true c26
          clear c26
          by_cases c27 : 0 ≤ x5_3
          ·rw [if_pos c27] at H
           have c27b0 : decide (0 ≤ x5_3) = true := decide_eq_true c27
           clear c27
           by_cases c28 : ((rd_T122 l0_3 x5_3).f2) < 0
           ·rw [if_pos c28] at H
            have c28b0 : decide (((rd_T122 l0_3 x5_3).f2) < 0) = true := decide_eq_true c28
            clear c28
            obtain rfl := Option.some.inj H
            have hcz29_0 : wr.cell? ⟨gb212, 0, none⟩ = some (.slice A0_0 l0_0.length c0_0) := (blk_cell BK212.out 0).trans rfl
            have hcz29_1 : wr.cell? ⟨gb212, 1, none⟩ = some (.int .i64 a0_1) := (blk_cell BK212.out 1).trans rfl
            have hcz29_2 : wr.cell? ⟨gb212, 2, none⟩ = some (.int .i64 a0_2) := (blk_cell BK212.out 2).trans rfl
            have hcz29_3 : wr.cell? ⟨gb212, 3, none⟩ = some (.slice A0_3 l0_3.length c0_3) := (blk_cell BK212.out 3).trans rfl
            have hcz29_4 : wr.cell? ⟨gb212, 4, none⟩ = some (.bool a0_4) := (blk_cell BK212.out 4).trans rfl
            have hfz29_0 := blk_frozen BK212.out 0
            have hfz29_1 := blk_frozen BK212.out 1
            have hfz29_2 := blk_frozen BK212.out 2
            have hfz29_3 := blk_frozen BK212.out 3
            have hfz29_4 := blk_frozen BK212.out 4
            have p216 : 0 ≤ (x5_3 : Int) := of_decide_eq_true (by first | (with_reducible assumption) | assumption)
            have q216 : x5_3 < (l0_3.length : Int) := of_decide_eq_true (by first | (with_reducible assumption) | assumption)
            obtain ⟨ad216, e216, hx216_0, hx216_1, hx216_2⟩ := at_T122 HR0_3.out x5_3 p216 q216
            cases e216
            replace hx216_0 := (HB.out.cell (World.block_lt_of_cell? w _ hx216_0)).trans hx216_0
            replace hx216_1 := (HB.out.cell (World.block_lt_of_cell? w _ hx216_1)).trans hx216_1
            replace hx216_2 := (HB.out.cell (World.block_lt_of_cell? w _ hx216_2)).trans hx216_2
            replace p216 := eq_true p216
            replace q216 := eq_true q216
            go_wp2_with (first | ((with_reducible refine gate_dst (N := 6) rfl ?_); refine box_event ?hg (N := 6) ?hd (cs := #[.int .i64 0, .int .i64 0, .int .i64 0]) (t := 122) ?hr ?_; (case hd => rfl); (case hg => rfl); (case hr => first | (go_simp; done) | (go_simp; rfl)); intro gb217 hg w30 hbox hb; have n0_ := Aside0.mk (blk_below (g := gb212) (o := .cells #[.slice A0_0 l0_0.length c0_0, .int .i64 a0_1, .int .i64 a0_2, .slice (some ad216) l0_3.length c0_3, .bool a0_4] 46 (0, 0)) (by (with_reducible repeat (first | refine blk_drewN ?_ _ | refine blk_drew ?_ | refine blk_alloc ?_ _)); exact BK212.out) hb); have n1_ := Aside0.mk (below_step (by repeat (first | (with_reducible first | exact HB.out | apply below_alloc | apply pw_below_drewN | apply below_drew1 | refine below_set ?_ GE212.out) | exact HB.out)) hb); have n2_ := Aside0.mk (hbox); have n3_ := Aside0.mk ((by rw [hg]; exact (below_size (by repeat (first | (with_reducible first | exact HB.out | apply below_alloc | apply pw_below_drewN | apply below_drew1 | refine below_set ?_ GE212.out) | exact HB.out))) : w.heap.size ≤ gb217)); have n4_ := Aside0.mk ((by rw [hg]; exact (below_size (by repeat (first | (with_reducible first | exact HB.out | apply below_alloc | apply pw_below_drewN | apply below_drew1 | refine below_set ?_ GE212.out) | exact HB.out))) : w.heap.size ≤ gb217)); have n5_ := Aside0.mk ((by rw [hg]; exact Nat.ne_of_lt (blk_lt (g := gb212) (o := .cells #[.slice A0_0 l0_0.length c0_0, .int .i64 a0_1, .int .i64 a0_2, .slice (some ad216) l0_3.length c0_3, .bool a0_4] 46 (0, 0)) (by (with_reducible repeat (first | refine blk_drewN ?_ _ | refine blk_drew ?_ | refine blk_alloc ?_ _)); exact BK212.out)) : gb212 ≠ gb217)); have n6_ := Aside0.mk ((by rw [hg]; exact Nat.ne_of_gt (blk_lt (g := gb212) (o := .cells #[.slice A0_0 l0_0.length c0_0, .int .i64 a0_1, .int .i64 a0_2, .slice (some ad216) l0_3.length c0_3, .bool a0_4] 46 (0, 0)) (by (with_reducible repeat (first | refine blk_drewN ?_ _ | refine blk_drew ?_ | refine blk_alloc ?_ _)); exact BK212.out)) : gb217 ≠ gb212)); clear BK212; clear HB; have BK212 := n0_; have HB := n1_; have BK217 := n2_; have GW217 := n3_; have GE217 := n4_; have NB212_217 := n5_; have NB217_212 := n6_; clear n0_ n1_ n2_ n3_ n4_ n5_ n6_; clear hb hbox hg; have hnb31 := NB217_212.out; have hnc31 := NB212_217.out; have hcz32_0 : w30.cell? ⟨gb217, 0, none⟩ = some (.int .i64 0) := (blk_cell BK217.out 0).trans rfl; have hcz32_1 : w30.cell? ⟨gb217, 1, none⟩ = some (.int .i64 0) := (blk_cell BK217.out 1).trans rfl; have hcz32_2 : w30.cell? ⟨gb217, 2, none⟩ = some (.int .i64 0) := (blk_cell BK217.out 2).trans rfl; have hfz32_0 := blk_frozen BK217.out 0; have hfz32_1 := blk_frozen BK217.out 1; have hfz32_2 := blk_frozen BK217.out 2))
            repeat (go_quiet (fail); try go_wp2)
            go_ret
            exact ⟨by first | rfl | (simp [errW_none, errW_some] <;> rfl) | (simp [*, errW_none, errW_some] <;> rfl), by repeat (first | (with_reducible first | exact HB.out | apply below_alloc | apply pw_below_drewN | apply below_drew1 | refine below_set ?_ GE212.out | refine below_set ?_ GE217.out) | exact HB.out)⟩
           ·rw [if_neg c28] at H
            have c28b0 : decide (((rd_T122 l0_3 x5_3).f2) < 0) = false := decide_eq_false c28
            clear c28
            by_cases c33 : ((rd_T122 l0_3 x5_3).f2) ≥ (l0_0.length : Int)
            ·rw [if_pos c33] at H
             have c33b0 : decide ((l0_0.length : Int) ≤ ((rd_T122 l0_3 x5_3).f2)) = true := decide_eq_true c33
             clear c33
             obtain rfl := Option.some.inj H
             have hcz34_0 : wr.cell? ⟨gb212, 0, none⟩ = some (.slice A0_0 l0_0.length c0_0) := (blk_cell BK212.out 0).trans rfl
             have hcz34_1 : wr.cell? ⟨gb212, 1, none⟩ = some (.int .i64 a0_1) := (blk_cell BK212.out 1).trans rfl
             have hcz34_2 : wr.cell? ⟨gb212, 2, none⟩ = some (.int .i64 a0_2) := (blk_cell BK212.out 2).trans rfl
             have hcz34_3 : wr.cell? ⟨gb212, 3, none⟩ = some (.slice A0_3 l0_3.length c0_3) := (blk_cell BK212.out 3).trans rfl
             have hcz34_4 : wr.cell? ⟨gb212, 4, none⟩ = some (.bool a0_4) := (blk_cell BK212.out 4).trans rfl
             have hfz34_0 := blk_frozen BK212.out 0
             have hfz34_1 := blk_frozen BK212.out 1
             have hfz34_2 := blk_frozen BK212.out 2
             have hfz34_3 := blk_frozen BK212.out 3
             have hfz34_4 := blk_frozen BK212.out 4
             have p216 : 0 ≤ (x5_3 : Int) := of_decide_eq_true (by first | (with_reducible assumption) | assumption)
             have q216 : x5_3 < (l0_3.length : Int) := of_decide_eq_true (by first | (with_reducible assumption) | assumption)
             obtain ⟨ad216, e216, hx216_0, hx216_1, hx216_2⟩ := at_T122 HR0_3.out x5_3 p216 q216
             cases e216
             replace hx216_0 := (HB.out.cell (World.block_lt_of_cell? w _ hx216_0)).trans hx216_0
             replace hx216_1 := (HB.out.cell (World.block_lt_of_cell? w _ hx216_1)).trans hx216_1
             replace hx216_2 := (HB.out.cell (World.block_lt_of_cell? w _ hx216_2)).trans hx216_2
             replace p216 := eq_true p216
             replace q216 := eq_true q216
             go_wp2_with (first | ((with_reducible refine gate_dst (N := 6) rfl ?_); refine box_event ?hg (N := 6) ?hd (cs := #[.int .i64 0, .int .i64 0, .int .i64 0]) (t := 122) ?hr ?_; (case hd => rfl); (case hg => rfl); (case hr => first | (go_simp; done) | (go_simp; rfl)); intro gb217 hg w35 hbox hb; have n0_ := Aside0.mk (blk_below (g := gb212) (o := .cells #[.slice A0_0 l0_0.length c0_0, .int .i64 a0_1, .int .i64 a0_2, .slice (some ad216) l0_3.length c0_3, .bool a0_4] 46 (0, 0)) (by (with_reducible repeat (first | refine blk_drewN ?_ _ | refine blk_drew ?_ | refine blk_alloc ?_ _)); exact BK212.out) hb); have n1_ := Aside0.mk (below_step (by repeat (first | (with_reducible first | exact HB.out | apply below_alloc | apply pw_below_drewN | apply below_drew1 | refine below_set ?_ GE212.out) | exact HB.out)) hb); have n2_ := Aside0.mk (hbox); have n3_ := Aside0.mk ((by rw [hg]; exact (below_size (by repeat (first | (with_reducible first | exact HB.out | apply below_alloc | apply pw_below_drewN | apply below_drew1 | refine below_set ?_ GE212.out) | exact HB.out))) : w.heap.size ≤ gb217)); have n4_ := Aside0.mk ((by rw [hg]; exact (below_size (by repeat (first | (with_reducible first | exact HB.out | apply below_alloc | apply pw_below_drewN | apply below_drew1 | refine below_set ?_ GE212.out) | exact HB.out))) : w.heap.size ≤ gb217)); have n5_ := Aside0.mk ((by rw [hg]; exact Nat.ne_of_lt (blk_lt (g := gb212) (o := .cells #[.slice A0_0 l0_0.length c0_0, .int .i64 a0_1, .int .i64 a0_2, .slice (some ad216) l0_3.length c0_3, .bool a0_4] 46 (0, 0)) (by (with_reducible repeat (first | refine blk_drewN ?_ _ | refine blk_drew ?_ | refine blk_alloc ?_ _)); exact BK212.out)) : gb212 ≠ gb217)); have n6_ := Aside0.mk ((by rw [hg]; exact Nat.ne_of_gt (blk_lt (g := gb212) (o := .cells #[.slice A0_0 l0_0.length c0_0, .int .i64 a0_1, .int .i64 a0_2, .slice (some ad216) l0_3.length c0_3, .bool a0_4] 46 (0, 0)) (by (with_reducible repeat (first | refine blk_drewN ?_ _ | refine blk_drew ?_ | refine blk_alloc ?_ _)); exact BK212.out)) : gb217 ≠ gb212)); clear BK212; clear HB; have BK212 := n0_; have HB := n1_; have BK217 := n2_; have GW217 := n3_; have GE217 := n4_; have NB212_217 := n5_; have NB217_212 := n6_; clear n0_ n1_ n2_ n3_ n4_ n5_ n6_; clear hb hbox hg; have hnb36 := NB217_212.out; have hnc36 := NB212_217.out; have hcz37_0 : w35.cell? ⟨gb217, 0, none⟩ = some (.int .i64 0) := (blk_cell BK217.out 0).trans rfl; have hcz37_1 : w35.cell? ⟨gb217, 1, none⟩ = some (.int .i64 0) := (blk_cell BK217.out 1).trans rfl; have hcz37_2 : w35.cell? ⟨gb217, 2, none⟩ = some (.int .i64 0) := (blk_cell BK217.out 2).trans rfl; have hfz37_0 := blk_frozen BK217.out 0; have hfz37_1 := blk_frozen BK217.out 1; have hfz37_2 := blk_frozen BK217.out 2))
             repeat (go_quiet (fail); try go_wp2)
             go_ret
             exact ⟨by first | rfl | (simp [errW_none, errW_some] <;> rfl) | (simp [*, errW_none, errW_some] <;> rfl), by repeat (first | (with_reducible first | exact HB.out | apply below_alloc | apply pw_below_drewN | apply below_drew1 | refine below_set ?_ GE212.out | refine below_set ?_ GE217.out) | exact HB.out)⟩
            ·rw [if_neg c33] at H
             have c33b0 : decide ((l0_0.length : Int) ≤ ((rd_T122 l0_3 x5_3).f2)) = false := decide_eq_false c33
             clear c33
             by_cases c38 : ((rd_T122 l0_3 x5_3).f1) < 0
             ·rw [if_pos c38] at H
              have c38b0 : decide (((rd_T122 l0_3 x5_3).f1) < 0) = true := decide_eq_true c38
              clear c38
              obtain rfl := Option.some.inj H
              have hcz39_0 : wr.cell? ⟨gb212, 0, none⟩ = some (.slice A0_0 l0_0.length c0_0) := (blk_cell BK212.out 0).trans rfl
              have hcz39_1 : wr.cell? ⟨gb212, 1, none⟩ = some (.int .i64 a0_1) := (blk_cell BK212.out 1).trans rfl
              have hcz39_2 : wr.cell? ⟨gb212, 2, none⟩ = some (.int .i64 a0_2) := (blk_cell BK212.out 2).trans rfl
              have hcz39_3 : wr.cell? ⟨gb212, 3, none⟩ = some (.slice A0_3 l0_3.length c0_3) := (blk_cell BK212.out 3).trans rfl
              have hcz39_4 : wr.cell? ⟨gb212, 4, none⟩ = some (.bool a0_4) := (blk_cell BK212.out 4).trans rfl
              have hfz39_0 := blk_frozen BK212.out 0
              have hfz39_1 := blk_frozen BK212.out 1
              have hfz39_2 := blk_frozen BK212.out 2
              have hfz39_3 := blk_frozen BK212.out 3
              have hfz39_4 := blk_frozen BK212.out 4
              have p216 : 0 ≤ (x5_3 : Int) := of_decide_eq_true (by first | (with_reducible assumption) | assumption)
              have q216 : x5_3 < (l0_3.length : Int) := of_decide_eq_true (by first | (with_reducible assumption) | assumption)
              obtain ⟨ad216, e216, hx216_0, hx216_1, hx216_2⟩ := at_T122 HR0_3.out x5_3 p216 q216
              cases e216
              replace hx216_0 := (HB.out.cell (World.block_lt_of_cell? w _ hx216_0)).trans hx216_0
              replace hx216_1 := (HB.out.cell (World.block_lt_of_cell? w _ hx216_1)).trans hx216_1
              replace hx216_2 := (HB.out.cell (World.block_lt_of_cell? w _ hx216_2)).trans hx216_2
              replace p216 := eq_true p216
              replace q216 := eq_true q216
              go_wp2_with (first | ((with_reducible refine gate_dst (N := 6) rfl ?_); refine box_event ?hg (N := 6) ?hd (cs := #[.int .i64 0, .int .i64 0, .int .i64 0]) (t := 122) ?hr ?_; (case hd => rfl); (case hg => rfl); (case hr => first | (go_simp; done) | (go_simp; rfl)); intro gb217 hg w40 hbox hb; have n0_ := Aside0.mk (blk_below (g := gb212) (o := .cells #[.slice A0_0 l0_0.length c0_0, .int .i64 a0_1, .int .i64 a0_2, .slice (some ad216) l0_3.length c0_3, .bool a0_4] 46 (0, 0)) (by (with_reducible repeat (first | refine blk_drewN ?_ _ | refine blk_drew ?_ | refine blk_alloc ?_ _)); exact BK212.out) hb); have n1_ := Aside0.mk (below_step (by repeat (first | (with_reducible first | exact HB.out | apply below_alloc | apply pw_below_drewN | apply below_drew1 | refine below_set ?_ GE212.out) | exact HB.out)) hb); have n2_ := Aside0.mk (hbox); have n3_ := Aside0.mk ((by rw [hg]; exact (below_size (by repeat (first | (with_reducible first | exact HB.out | apply below_alloc | apply pw_below_drewN | apply below_drew1 | refine below_set ?_ GE212.out) | exact HB.out))) : w.heap.size ≤ gb217)); have n4_ := Aside0.mk ((by rw [hg]; exact (below_size (by repeat (first | (with_reducible first | exact HB.out | apply below_alloc | apply pw_below_drewN | apply below_drew1 | refine below_set ?_ GE212.out) | exact HB.out))) : w.heap.size ≤ gb217)); have n5_ := Aside0.mk ((by rw [hg]; exact Nat.ne_of_lt (blk_lt (g := gb212) (o := .cells #[.slice A0_0 l0_0.length c0_0, .int .i64 a0_1, .int .i64 a0_2, .slice (some ad216) l0_3.length c0_3, .bool a0_4] 46 (0, 0)) (by (with_reducible repeat (first | refine blk_drewN ?_ _ | refine blk_drew ?_ | refine blk_alloc ?_ _)); exact BK212.out)) : gb212 ≠ gb217)); have n6_ := Aside0.mk ((by rw [hg]; exact Nat.ne_of_gt (blk_lt (g := gb212) (o := .cells #[.slice A0_0 l0_0.length c0_0, .int .i64 a0_1, .int .i64 a0_2, .slice (some ad216) l0_3.length c0_3, .bool a0_4] 46 (0, 0)) (by (with_reducible repeat (first | refine blk_drewN ?_ _ | refine blk_drew ?_ | refine blk_alloc ?_ _)); exact BK212.out)) : gb217 ≠ gb212)); clear BK212; clear HB; have BK212 := n0_; have HB := n1_; have BK217 := n2_; have GW217 := n3_; have GE217 := n4_; have NB212_217 := n5_; have NB217_212 := n6_; clear n0_ n1_ n2_ n3_ n4_ n5_ n6_; clear hb hbox hg; have hnb41 := NB217_212.out; have hnc41 := NB212_217.out; have hcz42_0 : w40.cell? ⟨gb217, 0, none⟩ = some (.int .i64 0) := (blk_cell BK217.out 0).trans rfl; have hcz42_1 : w40.cell? ⟨gb217, 1, none⟩ = some (.int .i64 0) := (blk_cell BK217.out 1).trans rfl; have hcz42_2 : w40.cell? ⟨gb217, 2, none⟩ = some (.int .i64 0) := (blk_cell BK217.out 2).trans rfl; have hfz42_0 := blk_frozen BK217.out 0; have hfz42_1 := blk_frozen BK217.out 1; have hfz42_2 := blk_frozen BK217.out 2))
              repeat (go_quiet (fail); try go_wp2)
              go_ret
              exact ⟨by first | rfl | (simp [errW_none, errW_some] <;> rfl) | (simp [*, errW_none, errW_some] <;> rfl), by repeat (first | (with_reducible first | exact HB.out | apply below_alloc | apply pw_below_drewN | apply below_drew1 | refine below_set ?_ GE212.out | refine below_set ?_ GE217.out) | exact HB.out)⟩
             ·rw [if_neg c38] at H
              have c38b0 : decide (((rd_T122 l0_3 x5_3).f1) < 0) = false := decide_eq_false c38
              clear c38
              by_cases c43 : ((rd_T122 l0_3 x5_3).f1) ≥ (l0_0.length : Int)
              ·rw [if_pos c43] at H
               have c43b0 : decide ((l0_0.length : Int) ≤ ((rd_T122 l0_3 x5_3).f1)) = true := decide_eq_true c43
               clear c43
               obtain rfl := Option.some.inj H
               have hcz44_0 : wr.cell? ⟨gb212, 0, none⟩ = some (.slice A0_0 l0_0.length c0_0) := (blk_cell BK212.out 0).trans rfl
               have hcz44_1 : wr.cell? ⟨gb212, 1, none⟩ = some (.int .i64 a0_1) := (blk_cell BK212.out 1).trans rfl
               have hcz44_2 : wr.cell? ⟨gb212, 2, none⟩ = some (.int .i64 a0_2) := (blk_cell BK212.out 2).trans rfl
               have hcz44_3 : wr.cell? ⟨gb212, 3, none⟩ = some (.slice A0_3 l0_3.length c0_3) := (blk_cell BK212.out 3).trans rfl
               have hcz44_4 : wr.cell? ⟨gb212, 4, none⟩ = some (.bool a0_4) := (blk_cell BK212.out 4).trans rfl
               have hfz44_0 := blk_frozen BK212.out 0
               have hfz44_1 := blk_frozen BK212.out 1
               have hfz44_2 := blk_frozen BK212.out 2
               have hfz44_3 := blk_frozen BK212.out 3
               have hfz44_4 := blk_frozen BK212.out 4
               have p216 : 0 ≤ (x5_3 : Int) := of_decide_eq_true (by first | (with_reducible assumption) | assumption)
               have q216 : x5_3 < (l0_3.length : Int) := of_decide_eq_true (by first | (with_reducible assumption) | assumption)
               obtain ⟨ad216, e216, hx216_0, hx216_1, hx216_2⟩ := at_T122 HR0_3.out x5_3 p216 q216
               cases e216
               replace hx216_0 := (HB.out.cell (World.block_lt_of_cell? w _ hx216_0)).trans hx216_0
               replace hx216_1 := (HB.out.cell (World.block_lt_of_cell? w _ hx216_1)).trans hx216_1
               replace hx216_2 := (HB.out.cell (World.block_lt_of_cell? w _ hx216_2)).trans hx216_2
               replace p216 := eq_true p216
               replace q216 := eq_true q216
               go_wp2_with (first | ((with_reducible refine gate_dst (N := 6) rfl ?_); refine box_event ?hg (N := 6) ?hd (cs := #[.int .i64 0, .int .i64 0, .int .i64 0]) (t := 122) ?hr ?_; (case hd => rfl); (case hg => rfl); (case hr => first | (go_simp; done) | (go_simp; rfl)); intro gb217 hg w45 hbox hb; have n0_ := Aside0.mk (blk_below (g := gb212) (o := .cells #[.slice A0_0 l0_0.length c0_0, .int .i64 a0_1, .int .i64 a0_2, .slice (some ad216) l0_3.length c0_3, .bool a0_4] 46 (0, 0)) (by (with_reducible repeat (first | refine blk_drewN ?_ _ | refine blk_drew ?_ | refine blk_alloc ?_ _)); exact BK212.out) hb); have n1_ := Aside0.mk (below_step (by repeat (first | (with_reducible first | exact HB.out | apply below_alloc | apply pw_below_drewN | apply below_drew1 | refine below_set ?_ GE212.out) | exact HB.out)) hb); have n2_ := Aside0.mk (hbox); have n3_ := Aside0.mk ((by rw [hg]; exact (below_size (by repeat (first | (with_reducible first | exact HB.out | apply below_alloc | apply pw_below_drewN | apply below_drew1 | refine below_set ?_ GE212.out) | exact HB.out))) : w.heap.size ≤ gb217)); have n4_ := Aside0.mk ((by rw [hg]; exact (below_size (by repeat (first | (with_reducible first | exact HB.out | apply below_alloc | apply pw_below_drewN | apply below_drew1 | refine below_set ?_ GE212.out) | exact HB.out))) : w.heap.size ≤ gb217)); have n5_ := Aside0.mk ((by rw [hg]; exact Nat.ne_of_lt (blk_lt (g := gb212) (o := .cells #[.slice A0_0 l0_0.length c0_0, .int .i64 a0_1, .int .i64 a0_2, .slice (some ad216) l0_3.length c0_3, .bool a0_4] 46 (0, 0)) (by (with_reducible repeat (first | refine blk_drewN ?_ _ | refine blk_drew ?_ | refine blk_alloc ?_ _)); exact BK212.out)) : gb212 ≠ gb217)); have n6_ := Aside0.mk ((by rw [hg]; exact Nat.ne_of_gt (blk_lt (g := gb212) (o := .cells #[.slice A0_0 l0_0.length c0_0, .int .i64 a0_1, .int .i64 a0_2, .slice (some ad216) l0_3.length c0_3, .bool a0_4] 46 (0, 0)) (by (with_reducible repeat (first | refine blk_drewN ?_ _ | refine blk_drew ?_ | refine blk_alloc ?_ _)); exact BK212.out)) : gb217 ≠ gb212)); clear BK212; clear HB; have BK212 := n0_; have HB := n1_; have BK217 := n2_; have GW217 := n3_; have GE217 := n4_; have NB212_217 := n5_; have NB217_212 := n6_; clear n0_ n1_ n2_ n3_ n4_ n5_ n6_; clear hb hbox hg; have hnb46 := NB217_212.out; have hnc46 := NB212_217.out; have hcz47_0 : w45.cell? ⟨gb217, 0, none⟩ = some (.int .i64 0) := (blk_cell BK217.out 0).trans rfl; have hcz47_1 : w45.cell? ⟨gb217, 1, none⟩ = some (.int .i64 0) := (blk_cell BK217.out 1).trans rfl; have hcz47_2 : w45.cell? ⟨gb217, 2, none⟩ = some (.int .i64 0) := (blk_cell BK217.out 2).trans rfl; have hfz47_0 := blk_frozen BK217.out 0; have hfz47_1 := blk_frozen BK217.out 1; have hfz47_2 := blk_frozen BK217.out 2))
               repeat (go_quiet (fail); try go_wp2)
               go_ret
               exact ⟨by first | rfl | (simp [errW_none, errW_some] <;> rfl) | (simp [*, errW_none, errW_some] <;> rfl), by repeat (first | (with_reducible first | exact HB.out | apply below_alloc | apply pw_below_drewN | apply below_drew1 | refine below_set ?_ GE212.out | refine below_set ?_ GE217.out) | exact HB.out)⟩
              ·rw [if_neg c43] at H
               have c43b0 : decide ((l0_0.length : Int) ≤ ((rd_T122 l0_3 x5_3).f1)) = false := decide_eq_false c43
               clear c43
               by_cases c48 : ((rd_T122 l0_3 x5_3).f0) < 0
               ·rw [if_pos c48] at H
                have c48b0 : decide (((rd_T122 l0_3 x5_3).f0) < 0) = true := decide_eq_true c48
                clear c48
                obtain rfl := Option.some.inj H
                have hcz49_0 : wr.cell? ⟨gb212, 0, none⟩ = some (.slice A0_0 l0_0.length c0_0) := (blk_cell BK212.out 0).trans rfl
                have hcz49_1 : wr.cell? ⟨gb212, 1, none⟩ = some (.int .i64 a0_1) := (blk_cell BK212.out 1).trans rfl
                have hcz49_2 : wr.cell? ⟨gb212, 2, none⟩ = some (.int .i64 a0_2) := (blk_cell BK212.out 2).trans rfl
                have hcz49_3 : wr.cell? ⟨gb212, 3, none⟩ = some (.slice A0_3 l0_3.length c0_3) := (blk_cell BK212.out 3).trans rfl
                have hcz49_4 : wr.cell? ⟨gb212, 4, none⟩ = some (.bool a0_4) := (blk_cell BK212.out 4).trans rfl
                have hfz49_0 := blk_frozen BK212.out 0
                have hfz49_1 := blk_frozen BK212.out 1
                have hfz49_2 := blk_frozen BK212.out 2
                have hfz49_3 := blk_frozen BK212.out 3
                have hfz49_4 := blk_frozen BK212.out 4
                have p216 : 0 ≤ (x5_3 : Int) := of_decide_eq_true (by first | (with_reducible assumption) | assumption)
                have q216 : x5_3 < (l0_3.length : Int) := of_decide_eq_true (by first | (with_reducible assumption) | assumption)
                obtain ⟨ad216, e216, hx216_0, hx216_1, hx216_2⟩ := at_T122 HR0_3.out x5_3 p216 q216
                cases e216
                replace hx216_0 := (HB.out.cell (World.block_lt_of_cell? w _ hx216_0)).trans hx216_0
                replace hx216_1 := (HB.out.cell (World.block_lt_of_cell? w _ hx216_1)).trans hx216_1
                replace hx216_2 := (HB.out.cell (World.block_lt_of_cell? w _ hx216_2)).trans hx216_2
                replace p216 := eq_true p216
                replace q216 := eq_true q216
                go_wp2_with (first | ((with_reducible refine gate_dst (N := 6) rfl ?_); refine box_event ?hg (N := 6) ?hd (cs := #[.int .i64 0, .int .i64 0, .int .i64 0]) (t := 122) ?hr ?_; (case hd => rfl); (case hg => rfl); (case hr => first | (go_simp; done) | (go_simp; rfl)); intro gb217 hg w50 hbox hb; have n0_ := Aside0.mk (blk_below (g := gb212) (o := .cells #[.slice A0_0 l0_0.length c0_0, .int .i64 a0_1, .int .i64 a0_2, .slice (some ad216) l0_3.length c0_3, .bool a0_4] 46 (0, 0)) (by (with_reducible repeat (first | refine blk_drewN ?_ _ | refine blk_drew ?_ | refine blk_alloc ?_ _)); exact BK212.out) hb); have n1_ := Aside0.mk (below_step (by repeat (first | (with_reducible first | exact HB.out | apply below_alloc | apply pw_below_drewN | apply below_drew1 | refine below_set ?_ GE212.out) | exact HB.out)) hb); have n2_ := Aside0.mk (hbox); have n3_ := Aside0.mk ((by rw [hg]; exact (below_size (by repeat (first | (with_reducible first | exact HB.out | apply below_alloc | apply pw_below_drewN | apply below_drew1 | refine below_set ?_ GE212.out) | exact HB.out))) : w.heap.size ≤ gb217)); have n4_ := Aside0.mk ((by rw [hg]; exact (below_size (by repeat (first | (with_reducible first | exact HB.out | apply below_alloc | apply pw_below_drewN | apply below_drew1 | refine below_set ?_ GE212.out) | exact HB.out))) : w.heap.size ≤ gb217)); have n5_ := Aside0.mk ((by rw [hg]; exact Nat.ne_of_lt (blk_lt (g := gb212) (o := .cells #[.slice A0_0 l0_0.length c0_0, .int .i64 a0_1, .int .i64 a0_2, .slice (some ad216) l0_3.length c0_3, .bool a0_4] 46 (0, 0)) (by (with_reducible repeat (first | refine blk_drewN ?_ _ | refine blk_drew ?_ | refine blk_alloc ?_ _)); exact BK212.out)) : gb212 ≠ gb217)); have n6_ := Aside0.mk ((by rw [hg]; exact Nat.ne_of_gt (blk_lt (g := gb212) (o := .cells #[.slice A0_0 l0_0.length c0_0, .int .i64 a0_1, .int .i64 a0_2, .slice (some ad216) l0_3.length c0_3, .bool a0_4] 46 (0, 0)) (by (with_reducible repeat (first | refine blk_drewN ?_ _ | refine blk_drew ?_ | refine blk_alloc ?_ _)); exact BK212.out)) : gb217 ≠ gb212)); clear BK212; clear HB; have BK212 := n0_; have HB := n1_; have BK217 := n2_; have GW217 := n3_; have GE217 := n4_; have NB212_217 := n5_; have NB217_212 := n6_; clear n0_ n1_ n2_ n3_ n4_ n5_ n6_; clear hb hbox hg; have hnb51 := NB217_212.out; have hnc51 := NB212_217.out; have hcz52_0 : w50.cell? ⟨gb217, 0, none⟩ = some (.int .i64 0) := (blk_cell BK217.out 0).trans rfl; have hcz52_1 : w50.cell? ⟨gb217, 1, none⟩ = some (.int .i64 0) := (blk_cell BK217.out 1).trans rfl; have hcz52_2 : w50.cell? ⟨gb217, 2, none⟩ = some (.int .i64 0) := (blk_cell BK217.out 2).trans rfl; have hfz52_0 := blk_frozen BK217.out 0; have hfz52_1 := blk_frozen BK217.out 1; have hfz52_2 := blk_frozen BK217.out 2))
                repeat (go_quiet (fail); try go_wp2)
                go_ret
                exact ⟨by first | rfl | (simp [errW_none, errW_some] <;> rfl) | (simp [*, errW_none, errW_some] <;> rfl), by repeat (first | (with_reducible first | exact HB.out | apply below_alloc | apply pw_below_drewN | apply below_drew1 | refine below_set ?_ GE212.out | refine below_set ?_ GE217.out) | exact HB.out)⟩
               ·rw [if_neg c48] at H
                have c48b0 : decide (((rd_T122 l0_3 x5_3).f0) < 0) = false := decide_eq_false c48
                clear c48
                by_cases c53 : x5_3 > 0
                ·rw [if_pos c53] at H
                 have c53b0 : decide (0 < x5_3) = true := decide_eq_true c53
                 clear c53
                 obtain ⟨ji54, hji54⟩ : ∃ j_ : Int, (wrap64 (x5_3 - 1)) = j_ := ⟨_, rfl⟩
                 replace H : (if 0 ≤ (ji54) then (if (ji54) < (l0_3.length : Int) then (if ((rd_T122 l0_3 (ji54)).f0) ≥ ((rd_T122 l0_3 x5_3).f0) then (some 14) else (if 0 ≤ ((rd_T122 l0_3 x5_3).f2) then (if ((rd_T122 l0_3 x5_3).f2) < (l0_0.length : Int) then (if ((rd_T105 l0_0 ((rd_T122 l0_3 x5_3).f2)).f1) = ((rd_T122 l0_3 x5_3).f0) then (hackamoreref28_Check.l1 k3 (l0_0.length : Int) (wrap64 (x5_3 + 1)) l0_0 a0_1 a0_2 l0_3 a0_4) else (some 14)) else (none)) else (none))) else (none)) else (none)) = some r := by first | (rw [hji54] at H; exact H) | (simp only [hji54] at H ⊢; exact H)
                 have hji54w : (IntKind.i64.wrap (x5_3 - 1)) = ji54 := (i64_w _).trans hji54
                 by_cases c55 : 0 ≤ (ji54)
                 ·rw [if_pos c55] at H
                  have c55b0 : decide (0 ≤ (ji54)) = true := decide_eq_true c55
                  clear c55
                  by_cases c56 : (ji54) < (l0_3.length : Int)
                  ·rw [if_pos c56] at H
                   have c56b0 : decide ((ji54) < (l0_3.length : Int)) = true := decide_eq_true c56
                   clear c56
                   by_cases c57 : ((rd_T122 l0_3 (ji54)).f0) ≥ ((rd_T122 l0_3 x5_3).f0)
                   ·rw [if_pos c57] at H
                    have c57b0 : decide (((rd_T122 l0_3 x5_3).f0) ≤ ((rd_T122 l0_3 (ji54)).f0)) = true := decide_eq_true c57
                    clear c57
                    obtain rfl := Option.some.inj H
                    have hcz58_0 : wr.cell? ⟨gb212, 0, none⟩ = some (.slice A0_0 l0_0.length c0_0) := (blk_cell BK212.out 0).trans rfl
                    have hcz58_1 : wr.cell? ⟨gb212, 1, none⟩ = some (.int .i64 a0_1) := (blk_cell BK212.out 1).trans rfl
                    have hcz58_2 : wr.cell? ⟨gb212, 2, none⟩ = some (.int .i64 a0_2) := (blk_cell BK212.out 2).trans rfl
                    have hcz58_3 : wr.cell? ⟨gb212, 3, none⟩ = some (.slice A0_3 l0_3.length c0_3) := (blk_cell BK212.out 3).trans rfl
                    have hcz58_4 : wr.cell? ⟨gb212, 4, none⟩ = some (.bool a0_4) := (blk_cell BK212.out 4).trans rfl
                    have hfz58_0 := blk_frozen BK212.out 0
                    have hfz58_1 := blk_frozen BK212.out 1
                    have hfz58_2 := blk_frozen BK212.out 2
                    have hfz58_3 := blk_frozen BK212.out 3
                    have hfz58_4 := blk_frozen BK212.out 4
                    have p216 : 0 ≤ (x5_3 : Int) := of_decide_eq_true (by first | (with_reducible assumption) | assumption)
                    have q216 : x5_3 < (l0_3.length : Int) := of_decide_eq_true (by first | (with_reducible assumption) | assumption)
                    obtain ⟨ad216, e216, hx216_0, hx216_1, hx216_2⟩ := at_T122 HR0_3.out x5_3 p216 q216
                    cases e216
                    replace hx216_0 := (HB.out.cell (World.block_lt_of_cell? w _ hx216_0)).trans hx216_0
                    replace hx216_1 := (HB.out.cell (World.block_lt_of_cell? w _ hx216_1)).trans hx216_1
                    replace hx216_2 := (HB.out.cell (World.block_lt_of_cell? w _ hx216_2)).trans hx216_2
                    replace p216 := eq_true p216
                    replace q216 := eq_true q216
                    go_wp2_with (first | ((with_reducible refine gate_dst (N := 6) rfl ?_); refine box_event ?hg (N := 6) ?hd (cs := #[.int .i64 0, .int .i64 0, .int .i64 0]) (t := 122) ?hr ?_; (case hd => rfl); (case hg => rfl); (case hr => first | (go_simp; done) | (go_simp; rfl)); intro gb217 hg w59 hbox hb; have n0_ := Aside0.mk (blk_below (g := gb212) (o := .cells #[.slice A0_0 l0_0.length c0_0, .int .i64 a0_1, .int .i64 a0_2, .slice (some ad216) l0_3.length c0_3, .bool a0_4] 46 (0, 0)) (by (with_reducible repeat (first | refine blk_drewN ?_ _ | refine blk_drew ?_ | refine blk_alloc ?_ _)); exact BK212.out) hb); have n1_ := Aside0.mk (below_step (by repeat (first | (with_reducible first | exact HB.out | apply below_alloc | apply pw_below_drewN | apply below_drew1 | refine below_set ?_ GE212.out) | exact HB.out)) hb); have n2_ := Aside0.mk (hbox); have n3_ := Aside0.mk ((by rw [hg]; exact (below_size (by repeat (first | (with_reducible first | exact HB.out | apply below_alloc | apply pw_below_drewN | apply below_drew1 | refine below_set ?_ GE212.out) | exact HB.out))) : w.heap.size ≤ gb217)); have n4_ := Aside0.mk ((by rw [hg]; exact (below_size (by repeat (first | (with_reducible first | exact HB.out | apply below_alloc | apply pw_below_drewN | apply below_drew1 | refine below_set ?_ GE212.out) | exact HB.out))) : w.heap.size ≤ gb217)); have n5_ := Aside0.mk ((by rw [hg]; exact Nat.ne_of_lt (blk_lt (g := gb212) (o := .cells #[.slice A0_0 l0_0.length c0_0, .int .i64 a0_1, .int .i64 a0_2, .slice (some ad216) l0_3.length c0_3, .bool a0_4] 46 (0, 0)) (by (with_reducible repeat (first | refine blk_drewN ?_ _ | refine blk_drew ?_ | refine blk_alloc ?_ _)); exact BK212.out)) : gb212 ≠ gb217)); have n6_ := Aside0.mk ((by rw [hg]; exact Nat.ne_of_gt (blk_lt (g := gb212) (o := .cells #[.slice A0_0 l0_0.length c0_0, .int .i64 a0_1, .int .i64 a0_2, .slice (some ad216) l0_3.length c0_3, .bool a0_4] 46 (0, 0)) (by (with_reducible repeat (first | refine blk_drewN ?_ _ | refine blk_drew ?_ | refine blk_alloc ?_ _)); exact BK212.out)) : gb217 ≠ gb212)); clear BK212; clear HB; have BK212 := n0_; have HB := n1_; have BK217 := n2_; have GW217 := n3_; have GE217 := n4_; have NB212_217 := n5_; have NB217_212 := n6_; clear n0_ n1_ n2_ n3_ n4_ n5_ n6_; clear hb hbox hg; have hnb60 := NB217_212.out; have hnc60 := NB212_217.out; have hcz61_0 : w59.cell? ⟨gb217, 0, none⟩ = some (.int .i64 0) := (blk_cell BK217.out 0).trans rfl; have hcz61_1 : w59.cell? ⟨gb217, 1, none⟩ = some (.int .i64 0) := (blk_cell BK217.out 1).trans rfl; have hcz61_2 : w59.cell? ⟨gb217, 2, none⟩ = some (.int .i64 0) := (blk_cell BK217.out 2).trans rfl; have hfz61_0 := blk_frozen BK217.out 0; have hfz61_1 := blk_frozen BK217.out 1; have hfz61_2 := blk_frozen BK217.out 2; have hcz62_0 : w59.cell? ⟨gb212, 0, none⟩ = some (.slice A0_0 l0_0.length c0_0) := (blk_cell BK212.out 0).trans rfl; have hcz62_1 : w59.cell? ⟨gb212, 1, none⟩ = some (.int .i64 a0_1) := (blk_cell BK212.out 1).trans rfl; have hcz62_2 : w59.cell? ⟨gb212, 2, none⟩ = some (.int .i64 a0_2) := (blk_cell BK212.out 2).trans rfl; have hcz62_3 : w59.cell? ⟨gb212, 3, none⟩ = some (.slice (some ad216) l0_3.length c0_3) := (blk_cell BK212.out 3).trans rfl; have hcz62_4 : w59.cell? ⟨gb212, 4, none⟩ = some (.bool a0_4) := (blk_cell BK212.out 4).trans rfl; have hfz62_0 := blk_frozen BK212.out 0; have hfz62_1 := blk_frozen BK212.out 1; have hfz62_2 := blk_frozen BK212.out 2; have hfz62_3 := blk_frozen BK212.out 3; have hfz62_4 := blk_frozen BK212.out 4; have p218 : 0 ≤ ((ji54) : Int) := of_decide_eq_true (by first | (with_reducible assumption) | assumption); have q218 : (ji54) < (l0_3.length : Int) := of_decide_eq_true (by first | (with_reducible assumption) | assumption); obtain ⟨ad218, e218, hx218_0, hx218_1, hx218_2⟩ := at_T122 HR0_3.out (ji54) p218 q218; obtain rfl : ad216 = ad218 := (by injection e218); have hn218_0 : ad216.block ≠ gb217 := Nat.ne_of_lt (Nat.lt_of_lt_of_le (by have := World.block_lt_of_cell? _ _ hx218_0; first | rwa [add_block] at this | exact this) GW217.out); have hn218_1 : ad216.block ≠ gb217 := Nat.ne_of_lt (Nat.lt_of_lt_of_le (by have := World.block_lt_of_cell? _ _ hx218_0; first | rwa [add_block] at this | exact this) GW217.out); have hn218_2 : ad216.block ≠ gb217 := Nat.ne_of_lt (Nat.lt_of_lt_of_le (by have := World.block_lt_of_cell? _ _ hx218_0; first | rwa [add_block] at this | exact this) GW217.out); replace hx218_0 := (HB.out.cell (World.block_lt_of_cell? w _ hx218_0)).trans hx218_0; replace hx218_1 := (HB.out.cell (World.block_lt_of_cell? w _ hx218_1)).trans hx218_1; replace hx218_2 := (HB.out.cell (World.block_lt_of_cell? w _ hx218_2)).trans hx218_2; replace hx218_0 := (cell_far (p := ⟨gb217, 0, none⟩) (by first | (rw [add_block]; exact hn218_0) | (show (Addr.add _ _).block ≠ _; rw [add_block]; exact hn218_0) | exact hn218_0) (.int .i64 ((rd_T122 l0_3 x5_3).f0))).trans hx218_0; replace hx218_1 := (cell_far (p := ⟨gb217, 0, none⟩) (by first | (rw [add_block]; exact hn218_0) | (show (Addr.add _ _).block ≠ _; rw [add_block]; exact hn218_0) | exact hn218_0) (.int .i64 ((rd_T122 l0_3 x5_3).f0))).trans hx218_1; replace hx218_2 := (cell_far (p := ⟨gb217, 0, none⟩) (by first | (rw [add_block]; exact hn218_0) | (show (Addr.add _ _).block ≠ _; rw [add_block]; exact hn218_0) | exact hn218_0) (.int .i64 ((rd_T122 l0_3 x5_3).f0))).trans hx218_2; replace hx218_0 := (cell_far (p := ⟨gb217, 1, none⟩) (by first | (rw [add_block]; exact hn218_1) | (show (Addr.add _ _).block ≠ _; rw [add_block]; exact hn218_1) | exact hn218_1) (.int .i64 ((rd_T122 l0_3 x5_3).f1))).trans hx218_0; replace hx218_1 := (cell_far (p := ⟨gb217, 1, none⟩) (by first | (rw [add_block]; exact hn218_1) | (show (Addr.add _ _).block ≠ _; rw [add_block]; exact hn218_1) | exact hn218_1) (.int .i64 ((rd_T122 l0_3 x5_3).f1))).trans hx218_1; replace hx218_2 := (cell_far (p := ⟨gb217, 1, none⟩) (by first | (rw [add_block]; exact hn218_1) | (show (Addr.add _ _).block ≠ _; rw [add_block]; exact hn218_1) | exact hn218_1) (.int .i64 ((rd_T122 l0_3 x5_3).f1))).trans hx218_2; replace hx218_0 := (cell_far (p := ⟨gb217, 2, none⟩) (by first | (rw [add_block]; exact hn218_2) | (show (Addr.add _ _).block ≠ _; rw [add_block]; exact hn218_2) | exact hn218_2) (.int .i64 ((rd_T122 l0_3 x5_3).f2))).trans hx218_0; replace hx218_1 := (cell_far (p := ⟨gb217, 2, none⟩) (by first | (rw [add_block]; exact hn218_2) | (show (Addr.add _ _).block ≠ _; rw [add_block]; exact hn218_2) | exact hn218_2) (.int .i64 ((rd_T122 l0_3 x5_3).f2))).trans hx218_1; replace hx218_2 := (cell_far (p := ⟨gb217, 2, none⟩) (by first | (rw [add_block]; exact hn218_2) | (show (Addr.add _ _).block ≠ _; rw [add_block]; exact hn218_2) | exact hn218_2) (.int .i64 ((rd_T122 l0_3 x5_3).f2))).trans hx218_2; (try have hy218_0 := fun (n_ : Nat) => (show (((((w59.drewN n_).setCell ⟨gb217, 0, none⟩ (.int .i64 ((rd_T122 l0_3 x5_3).f0))).setCell ⟨gb217, 1, none⟩ (.int .i64 ((rd_T122 l0_3 x5_3).f1))).setCell ⟨gb217, 2, none⟩ (.int .i64 ((rd_T122 l0_3 x5_3).f2)))).cell? _ = some _ from hx218_0)); (try have hy218_1 := fun (n_ : Nat) => (show (((((w59.drewN n_).setCell ⟨gb217, 0, none⟩ (.int .i64 ((rd_T122 l0_3 x5_3).f0))).setCell ⟨gb217, 1, none⟩ (.int .i64 ((rd_T122 l0_3 x5_3).f1))).setCell ⟨gb217, 2, none⟩ (.int .i64 ((rd_T122 l0_3 x5_3).f2)))).cell? _ = some _ from hx218_1)); (try have hy218_2 := fun (n_ : Nat) => (show (((((w59.drewN n_).setCell ⟨gb217, 0, none⟩ (.int .i64 ((rd_T122 l0_3 x5_3).f0))).setCell ⟨gb217, 1, none⟩ (.int .i64 ((rd_T122 l0_3 x5_3).f1))).setCell ⟨gb217, 2, none⟩ (.int .i64 ((rd_T122 l0_3 x5_3).f2)))).cell? _ = some _ from hx218_2)); clear hn218_0; clear hn218_1; clear hn218_2; replace p218 := eq_true p218; replace q218 := eq_true q218))
                    repeat (go_quiet (fail); try go_wp2)
                    go_ret
                    exact ⟨by first | rfl | (simp [errW_none, errW_some] <;> rfl) | (simp only [← hji54]; first | rfl | (simp [errW_none, errW_some] <;> rfl)) | (simp [*, errW_none, errW_some] <;> rfl), by repeat (first | (with_reducible first | exact HB.out | apply below_alloc | apply pw_below_drewN | apply below_drew1 | refine below_set ?_ GE212.out | refine below_set ?_ GE217.out) | exact HB.out)⟩
                   ·rw [if_neg c57] at H
                    have c57b0 : decide (((rd_T122 l0_3 x5_3).f0) ≤ ((rd_T122 l0_3 (ji54)).f0)) = false := decide_eq_false c57
                    clear c57
                    by_cases c63 : 0 ≤ ((rd_T122 l0_3 x5_3).f2)
                    ·rw [if_pos c63] at H
                     have c63b0 : decide (0 ≤ ((rd_T122 l0_3 x5_3).f2)) = true := decide_eq_true c63
                     clear c63
                     by_cases c64 : ((rd_T122 l0_3 x5_3).f2) < (l0_0.length : Int)
                     ·rw [if_pos c64] at H
                      have c64b0 : decide (((rd_T122 l0_3 x5_3).f2) < (l0_0.length : Int)) = true := decide_eq_true c64
                      clear c64
                      by_cases c65 : ((rd_T105 l0_0 ((rd_T122 l0_3 x5_3).f2)).f1) = ((rd_T122 l0_3 x5_3).f0)
                      ·rw [if_pos c65] at H
                       have c65b0 : (((rd_T105 l0_0 ((rd_T122 l0_3 x5_3).f2)).f1) == ((rd_T122 l0_3 x5_3).f0)) = true := beq_iff_eq.mpr c65
                       have c65b1 : (((rd_T105 l0_0 ((rd_T122 l0_3 x5_3).f2)).f1) != ((rd_T122 l0_3 x5_3).f0)) = false := bne_eq_false_iff_eq.mpr c65
                       clear c65
                       have H' := Aside0.mk H
                       clear H
                       have hcz66_0 : wr.cell? ⟨gb212, 0, none⟩ = some (.slice A0_0 l0_0.length c0_0) := (blk_cell BK212.out 0).trans rfl
                       have hcz66_1 : wr.cell? ⟨gb212, 1, none⟩ = some (.int .i64 a0_1) := (blk_cell BK212.out 1).trans rfl
                       have hcz66_2 : wr.cell? ⟨gb212, 2, none⟩ = some (.int .i64 a0_2) := (blk_cell BK212.out 2).trans rfl
                       have hcz66_3 : wr.cell? ⟨gb212, 3, none⟩ = some (.slice A0_3 l0_3.length c0_3) := (blk_cell BK212.out 3).trans rfl
                       have hcz66_4 : wr.cell? ⟨gb212, 4, none⟩ = some (.bool a0_4) := (blk_cell BK212.out 4).trans rfl
                       have hfz66_0 := blk_frozen BK212.out 0
                       have hfz66_1 := blk_frozen BK212.out 1
                       have hfz66_2 := blk_frozen BK212.out 2
                       have hfz66_3 := blk_frozen BK212.out 3
                       have hfz66_4 := blk_frozen BK212.out 4
                       have p216 : 0 ≤ (x5_3 : Int) := of_decide_eq_true (by first | (with_reducible assumption) | assumption)
                       have q216 : x5_3 < (l0_3.length : Int) := of_decide_eq_true (by first | (with_reducible assumption) | assumption)
                       obtain ⟨ad216, e216, hx216_0, hx216_1, hx216_2⟩ := at_T122 HR0_3.out x5_3 p216 q216
                       cases e216
                       replace hx216_0 := (HB.out.cell (World.block_lt_of_cell? w _ hx216_0)).trans hx216_0
                       replace hx216_1 := (HB.out.cell (World.block_lt_of_cell? w _ hx216_1)).trans hx216_1
                       replace hx216_2 := (HB.out.cell (World.block_lt_of_cell? w _ hx216_2)).trans hx216_2
                       replace p216 := eq_true p216
                       replace q216 := eq_true q216
                       go_wp2_with (first | ((with_reducible refine gate_dst (N := 6) rfl ?_); refine box_event ?hg (N := 6) ?hd (cs := #[.int .i64 0, .int .i64 0, .int .i64 0]) (t := 122) ?hr ?_; (case hd => rfl); (case hg => rfl); (case hr => first | (go_simp; done) | (go_simp; rfl)); intro gb217 hg w67 hbox hb; have n0_ := Aside0.mk (blk_below (g := gb212) (o := .cells #[.slice A0_0 l0_0.length c0_0, .int .i64 a0_1, .int .i64 a0_2, .slice (some ad216) l0_3.length c0_3, .bool a0_4] 46 (0, 0)) (by (with_reducible repeat (first | refine blk_drewN ?_ _ | refine blk_drew ?_ | refine blk_alloc ?_ _)); exact BK212.out) hb); have n1_ := Aside0.mk (below_step (by repeat (first | (with_reducible first | exact HB.out | apply below_alloc | apply pw_below_drewN | apply below_drew1 | refine below_set ?_ GE212.out) | exact HB.out)) hb); have n2_ := Aside0.mk (hbox); have n3_ := Aside0.mk ((by rw [hg]; exact (below_size (by repeat (first | (with_reducible first | exact HB.out | apply below_alloc | apply pw_below_drewN | apply below_drew1 | refine below_set ?_ GE212.out) | exact HB.out))) : w.heap.size ≤ gb217)); have n4_ := Aside0.mk ((by rw [hg]; exact (below_size (by repeat (first | (with_reducible first | exact HB.out | apply below_alloc | apply pw_below_drewN | apply below_drew1 | refine below_set ?_ GE212.out) | exact HB.out))) : w.heap.size ≤ gb217)); have n5_ := Aside0.mk ((by rw [hg]; exact Nat.ne_of_lt (blk_lt (g := gb212) (o := .cells #[.slice A0_0 l0_0.length c0_0, .int .i64 a0_1, .int .i64 a0_2, .slice (some ad216) l0_3.length c0_3, .bool a0_4] 46 (0, 0)) (by (with_reducible repeat (first | refine blk_drewN ?_ _ | refine blk_drew ?_ | refine blk_alloc ?_ _)); exact BK212.out)) : gb212 ≠ gb217)); have n6_ := Aside0.mk ((by rw [hg]; exact Nat.ne_of_gt (blk_lt (g := gb212) (o := .cells #[.slice A0_0 l0_0.length c0_0, .int .i64 a0_1, .int .i64 a0_2, .slice (some ad216) l0_3.length c0_3, .bool a0_4] 46 (0, 0)) (by (with_reducible repeat (first | refine blk_drewN ?_ _ | refine blk_drew ?_ | refine blk_alloc ?_ _)); exact BK212.out)) : gb217 ≠ gb212)); clear BK212; clear HB; have BK212 := n0_; have HB := n1_; have BK217 := n2_; have GW217 := n3_; have GE217 := n4_; have NB212_217 := n5_; have NB217_212 := n6_; clear n0_ n1_ n2_ n3_ n4_ n5_ n6_; clear hb hbox hg; have hnb68 := NB217_212.out; have hnc68 := NB212_217.out; have hcz69_0 : w67.cell? ⟨gb217, 0, none⟩ = some (.int .i64 0) := (blk_cell BK217.out 0).trans rfl; have hcz69_1 : w67.cell? ⟨gb217, 1, none⟩ = some (.int .i64 0) := (blk_cell BK217.out 1).trans rfl; have hcz69_2 : w67.cell? ⟨gb217, 2, none⟩ = some (.int .i64 0) := (blk_cell BK217.out 2).trans rfl; have hfz69_0 := blk_frozen BK217.out 0; have hfz69_1 := blk_frozen BK217.out 1; have hfz69_2 := blk_frozen BK217.out 2; have hcz70_0 : w67.cell? ⟨gb212, 0, none⟩ = some (.slice A0_0 l0_0.length c0_0) := (blk_cell BK212.out 0).trans rfl; have hcz70_1 : w67.cell? ⟨gb212, 1, none⟩ = some (.int .i64 a0_1) := (blk_cell BK212.out 1).trans rfl; have hcz70_2 : w67.cell? ⟨gb212, 2, none⟩ = some (.int .i64 a0_2) := (blk_cell BK212.out 2).trans rfl; have hcz70_3 : w67.cell? ⟨gb212, 3, none⟩ = some (.slice (some ad216) l0_3.length c0_3) := (blk_cell BK212.out 3).trans rfl; have hcz70_4 : w67.cell? ⟨gb212, 4, none⟩ = some (.bool a0_4) := (blk_cell BK212.out 4).trans rfl; have hfz70_0 := blk_frozen BK212.out 0; have hfz70_1 := blk_frozen BK212.out 1; have hfz70_2 := blk_frozen BK212.out 2; have hfz70_3 := blk_frozen BK212.out 3; have hfz70_4 := blk_frozen BK212.out 4; have p218 : 0 ≤ ((ji54) : Int) := of_decide_eq_true (by first | (with_reducible assumption) | assumption); have q218 : (ji54) < (l0_3.length : Int) := of_decide_eq_true (by first | (with_reducible assumption) | assumption); obtain ⟨ad218, e218, hx218_0, hx218_1, hx218_2⟩ := at_T122 HR0_3.out (ji54) p218 q218; obtain rfl : ad216 = ad218 := (by injection e218); have hn218_0 : ad216.block ≠ gb217 := Nat.ne_of_lt (Nat.lt_of_lt_of_le (by have := World.block_lt_of_cell? _ _ hx218_0; first | rwa [add_block] at this | exact this) GW217.out); have hn218_1 : ad216.block ≠ gb217 := Nat.ne_of_lt (Nat.lt_of_lt_of_le (by have := World.block_lt_of_cell? _ _ hx218_0; first | rwa [add_block] at this | exact this) GW217.out); have hn218_2 : ad216.block ≠ gb217 := Nat.ne_of_lt (Nat.lt_of_lt_of_le (by have := World.block_lt_of_cell? _ _ hx218_0; first | rwa [add_block] at this | exact this) GW217.out); replace hx218_0 := (HB.out.cell (World.block_lt_of_cell? w _ hx218_0)).trans hx218_0; replace hx218_1 := (HB.out.cell (World.block_lt_of_cell? w _ hx218_1)).trans hx218_1; replace hx218_2 := (HB.out.cell (World.block_lt_of_cell? w _ hx218_2)).trans hx218_2; replace hx218_0 := (cell_far (p := ⟨gb217, 0, none⟩) (by first | (rw [add_block]; exact hn218_0) | (show (Addr.add _ _).block ≠ _; rw [add_block]; exact hn218_0) | exact hn218_0) (.int .i64 ((rd_T122 l0_3 x5_3).f0))).trans hx218_0; replace hx218_1 := (cell_far (p := ⟨gb217, 0, none⟩) (by first | (rw [add_block]; exact hn218_0) | (show (Addr.add _ _).block ≠ _; rw [add_block]; exact hn218_0) | exact hn218_0) (.int .i64 ((rd_T122 l0_3 x5_3).f0))).trans hx218_1; replace hx218_2 := (cell_far (p := ⟨gb217, 0, none⟩) (by first | (rw [add_block]; exact hn218_0) | (show (Addr.add _ _).block ≠ _; rw [add_block]; exact hn218_0) | exact hn218_0) (.int .i64 ((rd_T122 l0_3 x5_3).f0))).trans hx218_2; replace hx218_0 := (cell_far (p := ⟨gb217, 1, none⟩) (by first | (rw [add_block]; exact hn218_1) | (show (Addr.add _ _).block ≠ _; rw [add_block]; exact hn218_1) | exact hn218_1) (.int .i64 ((rd_T122 l0_3 x5_3).f1))).trans hx218_0; replace hx218_1 := (cell_far (p := ⟨gb217, 1, none⟩) (by first | (rw [add_block]; exact hn218_1) | (show (Addr.add _ _).block ≠ _; rw [add_block]; exact hn218_1) | exact hn218_1) (.int .i64 ((rd_T122 l0_3 x5_3).f1))).trans hx218_1; replace hx218_2 := (cell_far (p := ⟨gb217, 1, none⟩) (by first | (rw [add_block]; exact hn218_1) | (show (Addr.add _ _).block ≠ _; rw [add_block]; exact hn218_1) | exact hn218_1) (.int .i64 ((rd_T122 l0_3 x5_3).f1))).trans hx218_2; replace hx218_0 := (cell_far (p := ⟨gb217, 2, none⟩) (by first | (rw [add_block]; exact hn218_2) | (show (Addr.add _ _).block ≠ _; rw [add_block]; exact hn218_2) | exact hn218_2) (.int .i64 ((rd_T122 l0_3 x5_3).f2))).trans hx218_0; replace hx218_1 := (cell_far (p := ⟨gb217, 2, none⟩) (by first | (rw [add_block]; exact hn218_2) | (show (Addr.add _ _).block ≠ _; rw [add_block]; exact hn218_2) | exact hn218_2) (.int .i64 ((rd_T122 l0_3 x5_3).f2))).trans hx218_1; replace hx218_2 := (cell_far (p := ⟨gb217, 2, none⟩) (by first | (rw [add_block]; exact hn218_2) | (show (Addr.add _ _).block ≠ _; rw [add_block]; exact hn218_2) | exact hn218_2) (.int .i64 ((rd_T122 l0_3 x5_3).f2))).trans hx218_2; (try have hy218_0 := fun (n_ : Nat) => (show (((((w67.drewN n_).setCell ⟨gb217, 0, none⟩ (.int .i64 ((rd_T122 l0_3 x5_3).f0))).setCell ⟨gb217, 1, none⟩ (.int .i64 ((rd_T122 l0_3 x5_3).f1))).setCell ⟨gb217, 2, none⟩ (.int .i64 ((rd_T122 l0_3 x5_3).f2)))).cell? _ = some _ from hx218_0)); (try have hy218_1 := fun (n_ : Nat) => (show (((((w67.drewN n_).setCell ⟨gb217, 0, none⟩ (.int .i64 ((rd_T122 l0_3 x5_3).f0))).setCell ⟨gb217, 1, none⟩ (.int .i64 ((rd_T122 l0_3 x5_3).f1))).setCell ⟨gb217, 2, none⟩ (.int .i64 ((rd_T122 l0_3 x5_3).f2)))).cell? _ = some _ from hx218_1)); (try have hy218_2 := fun (n_ : Nat) => (show (((((w67.drewN n_).setCell ⟨gb217, 0, none⟩ (.int .i64 ((rd_T122 l0_3 x5_3).f0))).setCell ⟨gb217, 1, none⟩ (.int .i64 ((rd_T122 l0_3 x5_3).f1))).setCell ⟨gb217, 2, none⟩ (.int .i64 ((rd_T122 l0_3 x5_3).f2)))).cell? _ = some _ from hx218_2)); clear hn218_0; clear hn218_1; clear hn218_2; replace p218 := eq_true p218; replace q218 := eq_true q218; have p219 : 0 ≤ (((rd_T122 l0_3 x5_3).f2) : Int) := of_decide_eq_true (by first | (with_reducible assumption) | assumption); have q219 : ((rd_T122 l0_3 x5_3).f2) < (l0_0.length : Int) := of_decide_eq_true (by first | (with_reducible assumption) | assumption); obtain ⟨ad219, e219, hx219_0, hx219_1, hx219_2⟩ := at_T105 HR0_0.out ((rd_T122 l0_3 x5_3).f2) p219 q219; cases e219; have hn219_0 : ad219.block ≠ gb217 := Nat.ne_of_lt (Nat.lt_of_lt_of_le (by have := World.block_lt_of_cell? _ _ hx219_0; first | rwa [add_block] at this | exact this) GW217.out); have hn219_1 : ad219.block ≠ gb217 := Nat.ne_of_lt (Nat.lt_of_lt_of_le (by have := World.block_lt_of_cell? _ _ hx219_0; first | rwa [add_block] at this | exact this) GW217.out); have hn219_2 : ad219.block ≠ gb217 := Nat.ne_of_lt (Nat.lt_of_lt_of_le (by have := World.block_lt_of_cell? _ _ hx219_0; first | rwa [add_block] at this | exact this) GW217.out); replace hx219_0 := (HB.out.cell (World.block_lt_of_cell? w _ hx219_0)).trans hx219_0; replace hx219_1 := (HB.out.cell (World.block_lt_of_cell? w _ hx219_1)).trans hx219_1; replace hx219_2 := (HB.out.cell (World.block_lt_of_cell? w _ hx219_2)).trans hx219_2; replace hx219_0 := (cell_far (p := ⟨gb217, 0, none⟩) (by first | (rw [add_block]; exact hn219_0) | (show (Addr.add _ _).block ≠ _; rw [add_block]; exact hn219_0) | exact hn219_0) (.int .i64 ((rd_T122 l0_3 x5_3).f0))).trans hx219_0; replace hx219_1 := (cell_far (p := ⟨gb217, 0, none⟩) (by first | (rw [add_block]; exact hn219_0) | (show (Addr.add _ _).block ≠ _; rw [add_block]; exact hn219_0) | exact hn219_0) (.int .i64 ((rd_T122 l0_3 x5_3).f0))).trans hx219_1; replace hx219_2 := (cell_far (p := ⟨gb217, 0, none⟩) (by first | (rw [add_block]; exact hn219_0) | (show (Addr.add _ _).block ≠ _; rw [add_block]; exact hn219_0) | exact hn219_0) (.int .i64 ((rd_T122 l0_3 x5_3).f0))).trans hx219_2; replace hx219_0 := (cell_far (p := ⟨gb217, 1, none⟩) (by first | (rw [add_block]; exact hn219_1) | (show (Addr.add _ _).block ≠ _; rw [add_block]; exact hn219_1) | exact hn219_1) (.int .i64 ((rd_T122 l0_3 x5_3).f1))).trans hx219_0; replace hx219_1 := (cell_far (p := ⟨gb217, 1, none⟩) (by first | (rw [add_block]; exact hn219_1) | (show (Addr.add _ _).block ≠ _; rw [add_block]; exact hn219_1) | exact hn219_1) (.int .i64 ((rd_T122 l0_3 x5_3).f1))).trans hx219_1; replace hx219_2 := (cell_far (p := ⟨gb217, 1, none⟩) (by first | (rw [add_block]; exact hn219_1) | (show (Addr.add _ _).block ≠ _; rw [add_block]; exact hn219_1) | exact hn219_1) (.int .i64 ((rd_T122 l0_3 x5_3).f1))).trans hx219_2; replace hx219_0 := (cell_far (p := ⟨gb217, 2, none⟩) (by first | (rw [add_block]; exact hn219_2) | (show (Addr.add _ _).block ≠ _; rw [add_block]; exact hn219_2) | exact hn219_2) (.int .i64 ((rd_T122 l0_3 x5_3).f2))).trans hx219_0; replace hx219_1 := (cell_far (p := ⟨gb217, 2, none⟩) (by first | (rw [add_block]; exact hn219_2) | (show (Addr.add _ _).block ≠ _; rw [add_block]; exact hn219_2) | exact hn219_2) (.int .i64 ((rd_T122 l0_3 x5_3).f2))).trans hx219_1; replace hx219_2 := (cell_far (p := ⟨gb217, 2, none⟩) (by first | (rw [add_block]; exact hn219_2) | (show (Addr.add _ _).block ≠ _; rw [add_block]; exact hn219_2) | exact hn219_2) (.int .i64 ((rd_T122 l0_3 x5_3).f2))).trans hx219_2; (try have hy219_0 := fun (n_ : Nat) => (show (((((w67.drewN n_).setCell ⟨gb217, 0, none⟩ (.int .i64 ((rd_T122 l0_3 x5_3).f0))).setCell ⟨gb217, 1, none⟩ (.int .i64 ((rd_T122 l0_3 x5_3).f1))).setCell ⟨gb217, 2, none⟩ (.int .i64 ((rd_T122 l0_3 x5_3).f2)))).cell? _ = some _ from hx219_0)); (try have hy219_1 := fun (n_ : Nat) => (show (((((w67.drewN n_).setCell ⟨gb217, 0, none⟩ (.int .i64 ((rd_T122 l0_3 x5_3).f0))).setCell ⟨gb217, 1, none⟩ (.int .i64 ((rd_T122 l0_3 x5_3).f1))).setCell ⟨gb217, 2, none⟩ (.int .i64 ((rd_T122 l0_3 x5_3).f2)))).cell? _ = some _ from hx219_1)); (try have hy219_2 := fun (n_ : Nat) => (show (((((w67.drewN n_).setCell ⟨gb217, 0, none⟩ (.int .i64 ((rd_T122 l0_3 x5_3).f0))).setCell ⟨gb217, 1, none⟩ (.int .i64 ((rd_T122 l0_3 x5_3).f1))).setCell ⟨gb217, 2, none⟩ (.int .i64 ((rd_T122 l0_3 x5_3).f2)))).cell? _ = some _ from hx219_2)); clear hn219_0; clear hn219_1; clear hn219_2; replace p219 := eq_true p219; replace q219 := eq_true q219))
                       repeat (go_quiet (fail); try go_wp2)
                       go_roundg k3
                       case measure => have := HJ1.out; have := HK2.out; have := HK3.out; omega
                       case rel => exact ⟨(wrap64 (x5_3 + 1)), (by first | rfl | (simp; done) | (simp [*]; done)), H', ⟨by have := HJ1.out; have := HK2.out; have := HK3.out; omega⟩, ⟨by (with_reducible repeat (first | refine blk_drewN ?_ _ | refine blk_drew ?_ | refine blk_alloc ?_ _)); refine blk_far ?_ NB212_217.out _; (with_reducible repeat (first | refine blk_drewN ?_ _ | refine blk_drew ?_ | refine blk_alloc ?_ _)); refine blk_far ?_ NB212_217.out _; (with_reducible repeat (first | refine blk_drewN ?_ _ | refine blk_drew ?_ | refine blk_alloc ?_ _)); refine blk_far ?_ NB212_217.out _; (with_reducible repeat (first | refine blk_drewN ?_ _ | refine blk_drew ?_ | refine blk_alloc ?_ _)); exact BK212.out⟩, ⟨by repeat (first | (with_reducible first | exact HB.out | apply below_alloc | apply pw_below_drewN | apply below_drew1 | refine below_set ?_ GE212.out | refine below_set ?_ GE217.out) | exact HB.out)⟩⟩
                      ·rw [if_neg c65] at H
                       have c65b0 : (((rd_T105 l0_0 ((rd_T122 l0_3 x5_3).f2)).f1) == ((rd_T122 l0_3 x5_3).f0)) = false := beq_eq_false_iff_ne.mpr c65
                       have c65b1 : (((rd_T105 l0_0 ((rd_T122 l0_3 x5_3).f2)).f1) != ((rd_T122 l0_3 x5_3).f0)) = true := bne_iff_ne.mpr c65
                       obtain rfl := Option.some.inj H
                       have hcz71_0 : wr.cell? ⟨gb212, 0, none⟩ = some (.slice A0_0 l0_0.length c0_0) := (blk_cell BK212.out 0).trans rfl
                       have hcz71_1 : wr.cell? ⟨gb212, 1, none⟩ = some (.int .i64 a0_1) := (blk_cell BK212.out 1).trans rfl
                       have hcz71_2 : wr.cell? ⟨gb212, 2, none⟩ = some (.int .i64 a0_2) := (blk_cell BK212.out 2).trans rfl
                       have hcz71_3 : wr.cell? ⟨gb212, 3, none⟩ = some (.slice A0_3 l0_3.length c0_3) := (blk_cell BK212.out 3).trans rfl
                       have hcz71_4 : wr.cell? ⟨gb212, 4, none⟩ = some (.bool a0_4) := (blk_cell BK212.out 4).trans rfl
                       have hfz71_0 := blk_frozen BK212.out 0
                       have hfz71_1 := blk_frozen BK212.out 1
                       have hfz71_2 := blk_frozen BK212.out 2
                       have hfz71_3 := blk_frozen BK212.out 3
                       have hfz71_4 := blk_frozen BK212.out 4
                       have p216 : 0 ≤ (x5_3 : Int) := of_decide_eq_true (by first | (with_reducible assumption) | assumption)
                       have q216 : x5_3 < (l0_3.length : Int) := of_decide_eq_true (by first | (with_reducible assumption) | assumption)
                       obtain ⟨ad216, e216, hx216_0, hx216_1, hx216_2⟩ := at_T122 HR0_3.out x5_3 p216 q216
                       cases e216
                       replace hx216_0 := (HB.out.cell (World.block_lt_of_cell? w _ hx216_0)).trans hx216_0
                       replace hx216_1 := (HB.out.cell (World.block_lt_of_cell? w _ hx216_1)).trans hx216_1
                       replace hx216_2 := (HB.out.cell (World.block_lt_of_cell? w _ hx216_2)).trans hx216_2
                       replace p216 := eq_true p216
                       replace q216 := eq_true q216
                       go_wp2_with (first | ((with_reducible refine gate_dst (N := 6) rfl ?_); refine box_event ?hg (N := 6) ?hd (cs := #[.int .i64 0, .int .i64 0, .int .i64 0]) (t := 122) ?hr ?_; (case hd => rfl); (case hg => rfl); (case hr => first | (go_simp; done) | (go_simp; rfl)); intro gb217 hg w72 hbox hb; have n0_ := Aside0.mk (blk_below (g := gb212) (o := .cells #[.slice A0_0 l0_0.length c0_0, .int .i64 a0_1, .int .i64 a0_2, .slice (some ad216) l0_3.length c0_3, .bool a0_4] 46 (0, 0)) (by (with_reducible repeat (first | refine blk_drewN ?_ _ | refine blk_drew ?_ | refine blk_alloc ?_ _)); exact BK212.out) hb); have n1_ := Aside0.mk (below_step (by repeat (first | (with_reducible first | exact HB.out | apply below_alloc | apply pw_below_drewN | apply below_drew1 | refine below_set ?_ GE212.out) | exact HB.out)) hb); have n2_ := Aside0.mk (hbox); have n3_ := Aside0.mk ((by rw [hg]; exact (below_size (by repeat (first | (with_reducible first | exact HB.out | apply below_alloc | apply pw_below_drewN | apply below_drew1 | refine below_set ?_ GE212.out) | exact HB.out))) : w.heap.size ≤ gb217)); have n4_ := Aside0.mk ((by rw [hg]; exact (below_size (by repeat (first | (with_reducible first | exact HB.out | apply below_alloc | apply pw_below_drewN | apply below_drew1 | refine below_set ?_ GE212.out) | exact HB.out))) : w.heap.size ≤ gb217)); have n5_ := Aside0.mk ((by rw [hg]; exact Nat.ne_of_lt (blk_lt (g := gb212) (o := .cells #[.slice A0_0 l0_0.length c0_0, .int .i64 a0_1, .int .i64 a0_2, .slice (some ad216) l0_3.length c0_3, .bool a0_4] 46 (0, 0)) (by (with_reducible repeat (first | refine blk_drewN ?_ _ | refine blk_drew ?_ | refine blk_alloc ?_ _)); exact BK212.out)) : gb212 ≠ gb217)); have n6_ := Aside0.mk ((by rw [hg]; exact Nat.ne_of_gt (blk_lt (g := gb212) (o := .cells #[.slice A0_0 l0_0.length c0_0, .int .i64 a0_1, .int .i64 a0_2, .slice (some ad216) l0_3.length c0_3, .bool a0_4] 46 (0, 0)) (by (with_reducible repeat (first | refine blk_drewN ?_ _ | refine blk_drew ?_ | refine blk_alloc ?_ _)); exact BK212.out)) : gb217 ≠ gb212)); clear BK212; clear HB; have BK212 := n0_; have HB := n1_; have BK217 := n2_; have GW217 := n3_; have GE217 := n4_; have NB212_217 := n5_; have NB217_212 := n6_; clear n0_ n1_ n2_ n3_ n4_ n5_ n6_; clear hb hbox hg; have hnb73 := NB217_212.out; have hnc73 := NB212_217.out; have hcz74_0 : w72.cell? ⟨gb217, 0, none⟩ = some (.int .i64 0) := (blk_cell BK217.out 0).trans rfl; have hcz74_1 : w72.cell? ⟨gb217, 1, none⟩ = some (.int .i64 0) := (blk_cell BK217.out 1).trans rfl; have hcz74_2 : w72.cell? ⟨gb217, 2, none⟩ = some (.int .i64 0) := (blk_cell BK217.out 2).trans rfl; have hfz74_0 := blk_frozen BK217.out 0; have hfz74_1 := blk_frozen BK217.out 1; have hfz74_2 := blk_frozen BK217.out 2; have hcz75_0 : w72.cell? ⟨gb212, 0, none⟩ = some (.slice A0_0 l0_0.length c0_0) := (blk_cell BK212.out 0).trans rfl; have hcz75_1 : w72.cell? ⟨gb212, 1, none⟩ = some (.int .i64 a0_1) := (blk_cell BK212.out 1).trans rfl; have hcz75_2 : w72.cell? ⟨gb212, 2, none⟩ = some (.int .i64 a0_2) := (blk_cell BK212.out 2).trans rfl; have hcz75_3 : w72.cell? ⟨gb212, 3, none⟩ = some (.slice (some ad216) l0_3.length c0_3) := (blk_cell BK212.out 3).trans rfl; have hcz75_4 : w72.cell? ⟨gb212, 4, none⟩ = some (.bool a0_4) := (blk_cell BK212.out 4).trans rfl; have hfz75_0 := blk_frozen BK212.out 0; have hfz75_1 := blk_frozen BK212.out 1; have hfz75_2 := blk_frozen BK212.out 2; have hfz75_3 := blk_frozen BK212.out 3; have hfz75_4 := blk_frozen BK212.out 4; have p218 : 0 ≤ ((ji54) : Int) := of_decide_eq_true (by first | (with_reducible assumption) | assumption); have q218 : (ji54) < (l0_3.length : Int) := of_decide_eq_true (by first | (with_reducible assumption) | assumption); obtain ⟨ad218, e218, hx218_0, hx218_1, hx218_2⟩ := at_T122 HR0_3.out (ji54) p218 q218; obtain rfl : ad216 = ad218 := (by injection e218); have hn218_0 : ad216.block ≠ gb217 := Nat.ne_of_lt (Nat.lt_of_lt_of_le (by have := World.block_lt_of_cell? _ _ hx218_0; first | rwa [add_block] at this | exact this) GW217.out); have hn218_1 : ad216.block ≠ gb217 := Nat.ne_of_lt (Nat.lt_of_lt_of_le (by have := World.block_lt_of_cell? _ _ hx218_0; first | rwa [add_block] at this | exact this) GW217.out); have hn218_2 : ad216.block ≠ gb217 := Nat.ne_of_lt (Nat.lt_of_lt_of_le (by have := World.block_lt_of_cell? _ _ hx218_0; first | rwa [add_block] at this | exact this) GW217.out); replace hx218_0 := (HB.out.cell (World.block_lt_of_cell? w _ hx218_0)).trans hx218_0; replace hx218_1 := (HB.out.cell (World.block_lt_of_cell? w _ hx218_1)).trans hx218_1; replace hx218_2 := (HB.out.cell (World.block_lt_of_cell? w _ hx218_2)).trans hx218_2; replace hx218_0 := (cell_far (p := ⟨gb217, 0, none⟩) (by first | (rw [add_block]; exact hn218_0) | (show (Addr.add _ _).block ≠ _; rw [add_block]; exact hn218_0) | exact hn218_0) (.int .i64 ((rd_T122 l0_3 x5_3).f0))).trans hx218_0; replace hx218_1 := (cell_far (p := ⟨gb217, 0, none⟩) (by first | (rw [add_block]; exact hn218_0) | (show (Addr.add _ _).block ≠ _; rw [add_block]; exact hn218_0) | exact hn218_0) (.int .i64 ((rd_T122 l0_3 x5_3).f0))).trans hx218_1; replace hx218_2 := (cell_far (p := ⟨gb217, 0, none⟩) (by first | (rw [add_block]; exact hn218_0) | (show (Addr.add _ _).block ≠ _; rw [add_block]; exact hn218_0) | exact hn218_0) (.int .i64 ((rd_T122 l0_3 x5_3).f0))).trans hx218_2; replace hx218_0 := (cell_far (p := ⟨gb217, 1, none⟩) (by first | (rw [add_block]; exact hn218_1) | (show (Addr.add _ _).block ≠ _; rw [add_block]; exact hn218_1) | exact hn218_1) (.int .i64 ((rd_T122 l0_3 x5_3).f1))).trans hx218_0; replace hx218_1 := (cell_far (p := ⟨gb217, 1, none⟩) (by first | (rw [add_block]; exact hn218_1) | (show (Addr.add _ _).block ≠ _; rw [add_block]; exact hn218_1) | exact hn218_1) (.int .i64 ((rd_T122 l0_3 x5_3).f1))).trans hx218_1; replace hx218_2 := (cell_far (p := ⟨gb217, 1, none⟩) (by first | (rw [add_block]; exact hn218_1) | (show (Addr.add _ _).block ≠ _; rw [add_block]; exact hn218_1) | exact hn218_1) (.int .i64 ((rd_T122 l0_3 x5_3).f1))).trans hx218_2; replace hx218_0 := (cell_far (p := ⟨gb217, 2, none⟩) (by first | (rw [add_block]; exact hn218_2) | (show (Addr.add _ _).block ≠ _; rw [add_block]; exact hn218_2) | exact hn218_2) (.int .i64 ((rd_T122 l0_3 x5_3).f2))).trans hx218_0; replace hx218_1 := (cell_far (p := ⟨gb217, 2, none⟩) (by first | (rw [add_block]; exact hn218_2) | (show (Addr.add _ _).block ≠ _; rw [add_block]; exact hn218_2) | exact hn218_2) (.int .i64 ((rd_T122 l0_3 x5_3).f2))).trans hx218_1; replace hx218_2 := (cell_far (p := ⟨gb217, 2, none⟩) (by first | (rw [add_block]; exact hn218_2) | (show (Addr.add _ _).block ≠ _; rw [add_block]; exact hn218_2) | exact hn218_2) (.int .i64 ((rd_T122 l0_3 x5_3).f2))).trans hx218_2; (try have hy218_0 := fun (n_ : Nat) => (show (((((w72.drewN n_).setCell ⟨gb217, 0, none⟩ (.int .i64 ((rd_T122 l0_3 x5_3).f0))).setCell ⟨gb217, 1, none⟩ (.int .i64 ((rd_T122 l0_3 x5_3).f1))).setCell ⟨gb217, 2, none⟩ (.int .i64 ((rd_T122 l0_3 x5_3).f2)))).cell? _ = some _ from hx218_0)); (try have hy218_1 := fun (n_ : Nat) => (show (((((w72.drewN n_).setCell ⟨gb217, 0, none⟩ (.int .i64 ((rd_T122 l0_3 x5_3).f0))).setCell ⟨gb217, 1, none⟩ (.int .i64 ((rd_T122 l0_3 x5_3).f1))).setCell ⟨gb217, 2, none⟩ (.int .i64 ((rd_T122 l0_3 x5_3).f2)))).cell? _ = some _ from hx218_1)); (try have hy218_2 := fun (n_ : Nat) => (show (((((w72.drewN n_).setCell ⟨gb217, 0, none⟩ (.int .i64 ((rd_T122 l0_3 x5_3).f0))).setCell ⟨gb217, 1, none⟩ (.int .i64 ((rd_T122 l0_3 x5_3).f1))).setCell ⟨gb217, 2, none⟩ (.int .i64 ((rd_T122 l0_3 x5_3).f2)))).cell? _ = some _ from hx218_2)); clear hn218_0; clear hn218_1; clear hn218_2; replace p218 := eq_true p218; replace q218 := eq_true q218; have p219 : 0 ≤ (((rd_T122 l0_3 x5_3).f2) : Int) := of_decide_eq_true (by first | (with_reducible assumption) | assumption); have q219 : ((rd_T122 l0_3 x5_3).f2) < (l0_0.length : Int) := of_decide_eq_true (by first | (with_reducible assumption) | assumption); obtain ⟨ad219, e219, hx219_0, hx219_1, hx219_2⟩ := at_T105 HR0_0.out ((rd_T122 l0_3 x5_3).f2) p219 q219; cases e219; have hn219_0 : ad219.block ≠ gb217 := Nat.ne_of_lt (Nat.lt_of_lt_of_le (by have := World.block_lt_of_cell? _ _ hx219_0; first | rwa [add_block] at this | exact this) GW217.out); have hn219_1 : ad219.block ≠ gb217 := Nat.ne_of_lt (Nat.lt_of_lt_of_le (by have := World.block_lt_of_cell? _ _ hx219_0; first | rwa [add_block] at this | exact this) GW217.out); have hn219_2 : ad219.block ≠ gb217 := Nat.ne_of_lt (Nat.lt_of_lt_of_le (by have := World.block_lt_of_cell? _ _ hx219_0; first | rwa [add_block] at this | exact this) GW217.out); replace hx219_0 := (HB.out.cell (World.block_lt_of_cell? w _ hx219_0)).trans hx219_0; replace hx219_1 := (HB.out.cell (World.block_lt_of_cell? w _ hx219_1)).trans hx219_1; replace hx219_2 := (HB.out.cell (World.block_lt_of_cell? w _ hx219_2)).trans hx219_2; replace hx219_0 := (cell_far (p := ⟨gb217, 0, none⟩) (by first | (rw [add_block]; exact hn219_0) | (show (Addr.add _ _).block ≠ _; rw [add_block]; exact hn219_0) | exact hn219_0) (.int .i64 ((rd_T122 l0_3 x5_3).f0))).trans hx219_0; replace hx219_1 := (cell_far (p := ⟨gb217, 0, none⟩) (by first | (rw [add_block]; exact hn219_0) | (show (Addr.add _ _).block ≠ _; rw [add_block]; exact hn219_0) | exact hn219_0) (.int .i64 ((rd_T122 l0_3 x5_3).f0))).trans hx219_1; replace hx219_2 := (cell_far (p := ⟨gb217, 0, none⟩) (by first | (rw [add_block]; exact hn219_0) | (show (Addr.add _ _).block ≠ _; rw [add_block]; exact hn219_0) | exact hn219_0) (.int .i64 ((rd_T122 l0_3 x5_3).f0))).trans hx219_2; replace hx219_0 := (cell_far (p := ⟨gb217, 1, none⟩) (by first | (rw [add_block]; exact hn219_1) | (show (Addr.add _ _).block ≠ _; rw [add_block]; exact hn219_1) | exact hn219_1) (.int .i64 ((rd_T122 l0_3 x5_3).f1))).trans hx219_0; replace hx219_1 := (cell_far (p := ⟨gb217, 1, none⟩) (by first | (rw [add_block]; exact hn219_1) | (show (Addr.add _ _).block ≠ _; rw [add_block]; exact hn219_1) | exact hn219_1) (.int .i64 ((rd_T122 l0_3 x5_3).f1))).trans hx219_1; replace hx219_2 := (cell_far (p := ⟨gb217, 1, none⟩) (by first | (rw [add_block]; exact hn219_1) | (show (Addr.add _ _).block ≠ _; rw [add_block]; exact hn219_1) | exact hn219_1) (.int .i64 ((rd_T122 l0_3 x5_3).f1))).trans hx219_2; replace hx219_0 := (cell_far (p := ⟨gb217, 2, none⟩) (by first | (rw [add_block]; exact hn219_2) | (show (Addr.add _ _).block ≠ _; rw [add_block]; exact hn219_2) | exact hn219_2) (.int .i64 ((rd_T122 l0_3 x5_3).f2))).trans hx219_0; replace hx219_1 := (cell_far (p := ⟨gb217, 2, none⟩) (by first | (rw [add_block]; exact hn219_2) | (show (Addr.add _ _).block ≠ _; rw [add_block]; exact hn219_2) | exact hn219_2) (.int .i64 ((rd_T122 l0_3 x5_3).f2))).trans hx219_1; replace hx219_2 := (cell_far (p := ⟨gb217, 2, none⟩) (by first | (rw [add_block]; exact hn219_2) | (show (Addr.add _ _).block ≠ _; rw [add_block]; exact hn219_2) | exact hn219_2) (.int .i64 ((rd_T122 l0_3 x5_3).f2))).trans hx219_2; (try have hy219_0 := fun (n_ : Nat) => (show (((((w72.drewN n_).setCell ⟨gb217, 0, none⟩ (.int .i64 ((rd_T122 l0_3 x5_3).f0))).setCell ⟨gb217, 1, none⟩ (.int .i64 ((rd_T122 l0_3 x5_3).f1))).setCell ⟨gb217, 2, none⟩ (.int .i64 ((rd_T122 l0_3 x5_3).f2)))).cell? _ = some _ from hx219_0)); (try have hy219_1 := fun (n_ : Nat) => (show (((((w72.drewN n_).setCell ⟨gb217, 0, none⟩ (.int .i64 ((rd_T122 l0_3 x5_3).f0))).setCell ⟨gb217, 1, none⟩ (.int .i64 ((rd_T122 l0_3 x5_3).f1))).setCell ⟨gb217, 2, none⟩ (.int .i64 ((rd_T122 l0_3 x5_3).f2)))).cell? _ = some _ from hx219_1)); (try have hy219_2 := fun (n_ : Nat) => (show (((((w72.drewN n_).setCell ⟨gb217, 0, none⟩ (.int .i64 ((rd_T122 l0_3 x5_3).f0))).setCell ⟨gb217, 1, none⟩ (.int .i64 ((rd_T122 l0_3 x5_3).f1))).setCell ⟨gb217, 2, none⟩ (.int .i64 ((rd_T122 l0_3 x5_3).f2)))).cell? _ = some _ from hx219_2)); clear hn219_0; clear hn219_1; clear hn219_2; replace p219 := eq_true p219; replace q219 := eq_true q219))
                       repeat (go_quiet (fail); try go_wp2)
                       go_ret
                       exact ⟨by first | rfl | (simp [errW_none, errW_some] <;> rfl) | (simp only [← hji54]; first | rfl | (simp [errW_none, errW_some] <;> rfl)) | (simp [*, errW_none, errW_some] <;> rfl), by repeat (first | (with_reducible first | exact HB.out | apply below_alloc | apply pw_below_drewN | apply below_drew1 | refine below_set ?_ GE212.out | refine below_set ?_ GE217.out) | exact HB.out)⟩
                     ·rw [if_neg c64] at H
                      exact absurd H (by simp)
                    ·rw [if_neg c63] at H
                     exact absurd H (by simp)
                  ·rw [if_neg c56] at H
                   exact absurd H (by simp)
                 ·rw [if_neg c55] at H
                  exact absurd H (by simp)
                ·rw [if_neg c53] at H
                 have c53b0 : decide (0 < x5_3) = false := decide_eq_false c53
                 clear c53
                 by_cases c76 : 0 ≤ ((rd_T122 l0_3 x5_3).f2)
                 ·rw [if_pos c76] at H
                  have c76b0 : decide (0 ≤ ((rd_T122 l0_3 x5_3).f2)) = true := decide_eq_true c76
                  clear c76
                  by_cases c77 : ((rd_T122 l0_3 x5_3).f2) < (l0_0.length : Int)
                  ·rw [if_pos c77] at H
                   have c77b0 : decide (((rd_T122 l0_3 x5_3).f2) < (l0_0.length : Int)) = true := decide_eq_true c77
                   clear c77
                   by_cases c78 : ((rd_T105 l0_0 ((rd_T122 l0_3 x5_3).f2)).f1) = ((rd_T122 l0_3 x5_3).f0)
                   ·rw [if_pos c78] at H
                    have c78b0 : (((rd_T105 l0_0 ((rd_T122 l0_3 x5_3).f2)).f1) == ((rd_T122 l0_3 x5_3).f0)) = true := beq_iff_eq.mpr c78
                    have c78b1 : (((rd_T105 l0_0 ((rd_T122 l0_3 x5_3).f2)).f1) != ((rd_T122 l0_3 x5_3).f0)) = false := bne_eq_false_iff_eq.mpr c78
                    clear c78
                    have H' := Aside0.mk H
                    clear H
                    have hcz79_0 : wr.cell? ⟨gb212, 0, none⟩ = some (.slice A0_0 l0_0.length c0_0) := (blk_cell BK212.out 0).trans rfl
                    have hcz79_1 : wr.cell? ⟨gb212, 1, none⟩ = some (.int .i64 a0_1) := (blk_cell BK212.out 1).trans rfl
                    have hcz79_2 : wr.cell? ⟨gb212, 2, none⟩ = some (.int .i64 a0_2) := (blk_cell BK212.out 2).trans rfl
                    have hcz79_3 : wr.cell? ⟨gb212, 3, none⟩ = some (.slice A0_3 l0_3.length c0_3) := (blk_cell BK212.out 3).trans rfl
                    have hcz79_4 : wr.cell? ⟨gb212, 4, none⟩ = some (.bool a0_4) := (blk_cell BK212.out 4).trans rfl
                    have hfz79_0 := blk_frozen BK212.out 0
                    have hfz79_1 := blk_frozen BK212.out 1
                    have hfz79_2 := blk_frozen BK212.out 2
                    have hfz79_3 := blk_frozen BK212.out 3
                    have hfz79_4 := blk_frozen BK212.out 4
                    have p216 : 0 ≤ (x5_3 : Int) := of_decide_eq_true (by first | (with_reducible assumption) | assumption)
                    have q216 : x5_3 < (l0_3.length : Int) := of_decide_eq_true (by first | (with_reducible assumption) | assumption)
                    obtain ⟨ad216, e216, hx216_0, hx216_1, hx216_2⟩ := at_T122 HR0_3.out x5_3 p216 q216
                    cases e216
                    replace hx216_0 := (HB.out.cell (World.block_lt_of_cell? w _ hx216_0)).trans hx216_0
                    replace hx216_1 := (HB.out.cell (World.block_lt_of_cell? w _ hx216_1)).trans hx216_1
                    replace hx216_2 := (HB.out.cell (World.block_lt_of_cell? w _ hx216_2)).trans hx216_2
                    replace p216 := eq_true p216
                    replace q216 := eq_true q216
                    go_wp2_with (first | ((with_reducible refine gate_dst (N := 6) rfl ?_); refine box_event ?hg (N := 6) ?hd (cs := #[.int .i64 0, .int .i64 0, .int .i64 0]) (t := 122) ?hr ?_; (case hd => rfl); (case hg => rfl); (case hr => first | (go_simp; done) | (go_simp; rfl)); intro gb217 hg w80 hbox hb; have n0_ := Aside0.mk (blk_below (g := gb212) (o := .cells #[.slice A0_0 l0_0.length c0_0, .int .i64 a0_1, .int .i64 a0_2, .slice (some ad216) l0_3.length c0_3, .bool a0_4] 46 (0, 0)) (by (with_reducible repeat (first | refine blk_drewN ?_ _ | refine blk_drew ?_ | refine blk_alloc ?_ _)); exact BK212.out) hb); have n1_ := Aside0.mk (below_step (by repeat (first | (with_reducible first | exact HB.out | apply below_alloc | apply pw_below_drewN | apply below_drew1 | refine below_set ?_ GE212.out) | exact HB.out)) hb); have n2_ := Aside0.mk (hbox); have n3_ := Aside0.mk ((by rw [hg]; exact (below_size (by repeat (first | (with_reducible first | exact HB.out | apply below_alloc | apply pw_below_drewN | apply below_drew1 | refine below_set ?_ GE212.out) | exact HB.out))) : w.heap.size ≤ gb217)); have n4_ := Aside0.mk ((by rw [hg]; exact (below_size (by repeat (first | (with_reducible first | exact HB.out | apply below_alloc | apply pw_below_drewN | apply below_drew1 | refine below_set ?_ GE212.out) | exact HB.out))) : w.heap.size ≤ gb217)); have n5_ := Aside0.mk ((by rw [hg]; exact Nat.ne_of_lt (blk_lt (g := gb212) (o := .cells #[.slice A0_0 l0_0.length c0_0, .int .i64 a0_1, .int .i64 a0_2, .slice (some ad216) l0_3.length c0_3, .bool a0_4] 46 (0, 0)) (by (with_reducible repeat (first | refine blk_drewN ?_ _ | refine blk_drew ?_ | refine blk_alloc ?_ _)); exact BK212.out)) : gb212 ≠ gb217)); have n6_ := Aside0.mk ((by rw [hg]; exact Nat.ne_of_gt (blk_lt (g := gb212) (o := .cells #[.slice A0_0 l0_0.length c0_0, .int .i64 a0_1, .int .i64 a0_2, .slice (some ad216) l0_3.length c0_3, .bool a0_4] 46 (0, 0)) (by (with_reducible repeat (first | refine blk_drewN ?_ _ | refine blk_drew ?_ | refine blk_alloc ?_ _)); exact BK212.out)) : gb217 ≠ gb212)); clear BK212; clear HB; have BK212 := n0_; have HB := n1_; have BK217 := n2_; have GW217 := n3_; have GE217 := n4_; have NB212_217 := n5_; have NB217_212 := n6_; clear n0_ n1_ n2_ n3_ n4_ n5_ n6_; clear hb hbox hg; have hnb81 := NB217_212.out; have hnc81 := NB212_217.out; have hcz82_0 : w80.cell? ⟨gb217, 0, none⟩ = some (.int .i64 0) := (blk_cell BK217.out 0).trans rfl; have hcz82_1 : w80.cell? ⟨gb217, 1, none⟩ = some (.int .i64 0) := (blk_cell BK217.out 1).trans rfl; have hcz82_2 : w80.cell? ⟨gb217, 2, none⟩ = some (.int .i64 0) := (blk_cell BK217.out 2).trans rfl; have hfz82_0 := blk_frozen BK217.out 0; have hfz82_1 := blk_frozen BK217.out 1; have hfz82_2 := blk_frozen BK217.out 2; have hcz83_0 : w80.cell? ⟨gb212, 0, none⟩ = some (.slice A0_0 l0_0.length c0_0) := (blk_cell BK212.out 0).trans rfl; have hcz83_1 : w80.cell? ⟨gb212, 1, none⟩ = some (.int .i64 a0_1) := (blk_cell BK212.out 1).trans rfl; have hcz83_2 : w80.cell? ⟨gb212, 2, none⟩ = some (.int .i64 a0_2) := (blk_cell BK212.out 2).trans rfl; have hcz83_3 : w80.cell? ⟨gb212, 3, none⟩ = some (.slice (some ad216) l0_3.length c0_3) := (blk_cell BK212.out 3).trans rfl; have hcz83_4 : w80.cell? ⟨gb212, 4, none⟩ = some (.bool a0_4) := (blk_cell BK212.out 4).trans rfl; have hfz83_0 := blk_frozen BK212.out 0; have hfz83_1 := blk_frozen BK212.out 1; have hfz83_2 := blk_frozen BK212.out 2; have hfz83_3 := blk_frozen BK212.out 3; have hfz83_4 := blk_frozen BK212.out 4; have p220 : 0 ≤ (((rd_T122 l0_3 x5_3).f2) : Int) := of_decide_eq_true (by first | (with_reducible assumption) | assumption); have q220 : ((rd_T122 l0_3 x5_3).f2) < (l0_0.length : Int) := of_decide_eq_true (by first | (with_reducible assumption) | assumption); obtain ⟨ad220, e220, hx220_0, hx220_1, hx220_2⟩ := at_T105 HR0_0.out ((rd_T122 l0_3 x5_3).f2) p220 q220; cases e220; have hn220_0 : ad220.block ≠ gb217 := Nat.ne_of_lt (Nat.lt_of_lt_of_le (by have := World.block_lt_of_cell? _ _ hx220_0; first | rwa [add_block] at this | exact this) GW217.out); have hn220_1 : ad220.block ≠ gb217 := Nat.ne_of_lt (Nat.lt_of_lt_of_le (by have := World.block_lt_of_cell? _ _ hx220_0; first | rwa [add_block] at this | exact this) GW217.out); have hn220_2 : ad220.block ≠ gb217 := Nat.ne_of_lt (Nat.lt_of_lt_of_le (by have := World.block_lt_of_cell? _ _ hx220_0; first | rwa [add_block] at this | exact this) GW217.out); replace hx220_0 := (HB.out.cell (World.block_lt_of_cell? w _ hx220_0)).trans hx220_0; replace hx220_1 := (HB.out.cell (World.block_lt_of_cell? w _ hx220_1)).trans hx220_1; replace hx220_2 := (HB.out.cell (World.block_lt_of_cell? w _ hx220_2)).trans hx220_2; replace hx220_0 := (cell_far (p := ⟨gb217, 0, none⟩) (by first | (rw [add_block]; exact hn220_0) | (show (Addr.add _ _).block ≠ _; rw [add_block]; exact hn220_0) | exact hn220_0) (.int .i64 ((rd_T122 l0_3 x5_3).f0))).trans hx220_0; replace hx220_1 := (cell_far (p := ⟨gb217, 0, none⟩) (by first | (rw [add_block]; exact hn220_0) | (show (Addr.add _ _).block ≠ _; rw [add_block]; exact hn220_0) | exact hn220_0) (.int .i64 ((rd_T122 l0_3 x5_3).f0))).trans hx220_1; replace hx220_2 := (cell_far (p := ⟨gb217, 0, none⟩) (by first | (rw [add_block]; exact hn220_0) | (show (Addr.add _ _).block ≠ _; rw [add_block]; exact hn220_0) | exact hn220_0) (.int .i64 ((rd_T122 l0_3 x5_3).f0))).trans hx220_2; replace hx220_0 := (cell_far (p := ⟨gb217, 1, none⟩) (by first | (rw [add_block]; exact hn220_1) | (show (Addr.add _ _).block ≠ _; rw [add_block]; exact hn220_1) | exact hn220_1) (.int .i64 ((rd_T122 l0_3 x5_3).f1))).trans hx220_0; replace hx220_1 := (cell_far (p := ⟨gb217, 1, none⟩) (by first | (rw [add_block]; exact hn220_1) | (show (Addr.add _ _).block ≠ _; rw [add_block]; exact hn220_1) | exact hn220_1) (.int .i64 ((rd_T122 l0_3 x5_3).f1))).trans hx220_1; replace hx220_2 := (cell_far (p := ⟨gb217, 1, none⟩) (by first | (rw [add_block]; exact hn220_1) | (show (Addr.add _ _).block ≠ _; rw [add_block]; exact hn220_1) | exact hn220_1) (.int .i64 ((rd_T122 l0_3 x5_3).f1))).trans hx220_2; replace hx220_0 := (cell_far (p := ⟨gb217, 2, none⟩) (by first | (rw [add_block]; exact hn220_2) | (show (Addr.add _ _).block ≠ _; rw [add_block]; exact hn220_2) | exact hn220_2) (.int .i64 ((rd_T122 l0_3 x5_3).f2))).trans hx220_0; replace hx220_1 := (cell_far (p := ⟨gb217, 2, none⟩) (by first | (rw [add_block]; exact hn220_2) | (show (Addr.add _ _).block ≠ _; rw [add_block]; exact hn220_2) | exact hn220_2) (.int .i64 ((rd_T122 l0_3 x5_3).f2))).trans hx220_1; replace hx220_2 := (cell_far (p := ⟨gb217, 2, none⟩) (by first | (rw [add_block]; exact hn220_2) | (show (Addr.add _ _).block ≠ _; rw [add_block]; exact hn220_2) | exact hn220_2) (.int .i64 ((rd_T122 l0_3 x5_3).f2))).trans hx220_2; (try have hy220_0 := fun (n_ : Nat) => (show (((((w80.drewN n_).setCell ⟨gb217, 0, none⟩ (.int .i64 ((rd_T122 l0_3 x5_3).f0))).setCell ⟨gb217, 1, none⟩ (.int .i64 ((rd_T122 l0_3 x5_3).f1))).setCell ⟨gb217, 2, none⟩ (.int .i64 ((rd_T122 l0_3 x5_3).f2)))).cell? _ = some _ from hx220_0)); (try have hy220_1 := fun (n_ : Nat) => (show (((((w80.drewN n_).setCell ⟨gb217, 0, none⟩ (.int .i64 ((rd_T122 l0_3 x5_3).f0))).setCell ⟨gb217, 1, none⟩ (.int .i64 ((rd_T122 l0_3 x5_3).f1))).setCell ⟨gb217, 2, none⟩ (.int .i64 ((rd_T122 l0_3 x5_3).f2)))).cell? _ = some _ from hx220_1)); (try have hy220_2 := fun (n_ : Nat) => (show (((((w80.drewN n_).setCell ⟨gb217, 0, none⟩ (.int .i64 ((rd_T122 l0_3 x5_3).f0))).setCell ⟨gb217, 1, none⟩ (.int .i64 ((rd_T122 l0_3 x5_3).f1))).setCell ⟨gb217, 2, none⟩ (.int .i64 ((rd_T122 l0_3 x5_3).f2)))).cell? _ = some _ from hx220_2)); clear hn220_0; clear hn220_1; clear hn220_2; replace p220 := eq_true p220; replace q220 := eq_true q220))
                    repeat (go_quiet (fail); try go_wp2)
                    go_roundg k3
                    case measure => have := HJ1.out; have := HK2.out; have := HK3.out; omega
                    case rel => exact ⟨(wrap64 (x5_3 + 1)), (by first | rfl | (simp; done) | (simp [*]; done)), H', ⟨by have := HJ1.out; have := HK2.out; have := HK3.out; omega⟩, ⟨by (with_reducible repeat (first | refine blk_drewN ?_ _ | refine blk_drew ?_ | refine blk_alloc ?_ _)); refine blk_far ?_ NB212_217.out _; (with_reducible repeat (first | refine blk_drewN ?_ _ | refine blk_drew ?_ | refine blk_alloc ?_ _)); refine blk_far ?_ NB212_217.out _; (with_reducible repeat (first | refine blk_drewN ?_ _ | refine blk_drew ?_ | refine blk_alloc ?_ _)); refine blk_far ?_ NB212_217.out _; (with_reducible repeat (first | refine blk_drewN ?_ _ | refine blk_drew ?_ | refine blk_alloc ?_ _)); exact BK212.out⟩, ⟨by repeat (first | (with_reducible first | exact HB.out | apply below_alloc | apply pw_below_drewN | apply below_drew1 | refine below_set ?_ GE212.out | refine below_set ?_ GE217.out) | exact HB.out)⟩⟩
                   ·rw [if_neg c78] at H
                    have c78b0 : (((rd_T105 l0_0 ((rd_T122 l0_3 x5_3).f2)).f1) == ((rd_T122 l0_3 x5_3).f0)) = false := beq_eq_false_iff_ne.mpr c78
                    have c78b1 : (((rd_T105 l0_0 ((rd_T122 l0_3 x5_3).f2)).f1) != ((rd_T122 l0_3 x5_3).f0)) = true := bne_iff_ne.mpr c78
                    obtain rfl := Option.some.inj H
                    have hcz84_0 : wr.cell? ⟨gb212, 0, none⟩ = some (.slice A0_0 l0_0.length c0_0) := (blk_cell BK212.out 0).trans rfl
                    have hcz84_1 : wr.cell? ⟨gb212, 1, none⟩ = some (.int .i64 a0_1) := (blk_cell BK212.out 1).trans rfl
                    have hcz84_2 : wr.cell? ⟨gb212, 2, none⟩ = some (.int .i64 a0_2) := (blk_cell BK212.out 2).trans rfl
                    have hcz84_3 : wr.cell? ⟨gb212, 3, none⟩ = some (.slice A0_3 l0_3.length c0_3) := (blk_cell BK212.out 3).trans rfl
                    have hcz84_4 : wr.cell? ⟨gb212, 4, none⟩ = some (.bool a0_4) := (blk_cell BK212.out 4).trans rfl
                    have hfz84_0 := blk_frozen BK212.out 0
                    have hfz84_1 := blk_frozen BK212.out 1
                    have hfz84_2 := blk_frozen BK212.out 2
                    have hfz84_3 := blk_frozen BK212.out 3
                    have hfz84_4 := blk_frozen BK212.out 4
                    have p216 : 0 ≤ (x5_3 : Int) := of_decide_eq_true (by first | (with_reducible assumption) | assumption)
                    have q216 : x5_3 < (l0_3.length : Int) := of_decide_eq_true (by first | (with_reducible assumption) | assumption)
                    obtain ⟨ad216, e216, hx216_0, hx216_1, hx216_2⟩ := at_T122 HR0_3.out x5_3 p216 q216
                    cases e216
                    replace hx216_0 := (HB.out.cell (World.block_lt_of_cell? w _ hx216_0)).trans hx216_0
                    replace hx216_1 := (HB.out.cell (World.block_lt_of_cell? w _ hx216_1)).trans hx216_1
                    replace hx216_2 := (HB.out.cell (World.block_lt_of_cell? w _ hx216_2)).trans hx216_2
                    replace p216 := eq_true p216
                    replace q216 := eq_true q216
                    go_wp2_with (first | ((with_reducible refine gate_dst (N := 6) rfl ?_); refine box_event ?hg (N := 6) ?hd (cs := #[.int .i64 0, .int .i64 0, .int .i64 0]) (t := 122) ?hr ?_; (case hd => rfl); (case hg => rfl); (case hr => first | (go_simp; done) | (go_simp; rfl)); intro gb217 hg w85 hbox hb; have n0_ := Aside0.mk (blk_below (g := gb212) (o := .cells #[.slice A0_0 l0_0.length c0_0, .int .i64 a0_1, .int .i64 a0_2, .slice (some ad216) l0_3.length c0_3, .bool a0_4] 46 (0, 0)) (by (with_reducible repeat (first | refine blk_drewN ?_ _ | refine blk_drew ?_ | refine blk_alloc ?_ _)); exact BK212.out) hb); have n1_ := Aside0.mk (below_step (by repeat (first | (with_reducible first | exact HB.out | apply below_alloc | apply pw_below_drewN | apply below_drew1 | refine below_set ?_ GE212.out) | exact HB.out)) hb); have n2_ := Aside0.mk (hbox); have n3_ := Aside0.mk ((by rw [hg]; exact (below_size (by repeat (first | (with_reducible first | exact HB.out | apply below_alloc | apply pw_below_drewN | apply below_drew1 | refine below_set ?_ GE212.out) | exact HB.out))) : w.heap.size ≤ gb217)); have n4_ := Aside0.mk ((by rw [hg]; exact (below_size (by repeat (first | (with_reducible first | exact HB.out | apply below_alloc | apply pw_below_drewN | apply below_drew1 | refine below_set ?_ GE212.out) | exact HB.out))) : w.heap.size ≤ gb217)); have n5_ := Aside0.mk ((by rw [hg]; exact Nat.ne_of_lt (blk_lt (g := gb212) (o := .cells #[.slice A0_0 l0_0.length c0_0, .int .i64 a0_1, .int .i64 a0_2, .slice (some ad216) l0_3.length c0_3, .bool a0_4] 46 (0, 0)) (by (with_reducible repeat (first | refine blk_drewN ?_ _ | refine blk_drew ?_ | refine blk_alloc ?_ _)); exact BK212.out)) : gb212 ≠ gb217)); have n6_ := Aside0.mk ((by rw [hg]; exact Nat.ne_of_gt (blk_lt (g := gb212) (o := .cells #[.slice A0_0 l0_0.length c0_0, .int .i64 a0_1, .int .i64 a0_2, .slice (some ad216) l0_3.length c0_3, .bool a0_4] 46 (0, 0)) (by (with_reducible repeat (first | refine blk_drewN ?_ _ | refine blk_drew ?_ | refine blk_alloc ?_ _)); exact BK212.out)) : gb217 ≠ gb212)); clear BK212; clear HB; have BK212 := n0_; have HB := n1_; have BK217 := n2_; have GW217 := n3_; have GE217 := n4_; have NB212_217 := n5_; have NB217_212 := n6_; clear n0_ n1_ n2_ n3_ n4_ n5_ n6_; clear hb hbox hg; have hnb86 := NB217_212.out; have hnc86 := NB212_217.out; have hcz87_0 : w85.cell? ⟨gb217, 0, none⟩ = some (.int .i64 0) := (blk_cell BK217.out 0).trans rfl; have hcz87_1 : w85.cell? ⟨gb217, 1, none⟩ = some (.int .i64 0) := (blk_cell BK217.out 1).trans rfl; have hcz87_2 : w85.cell? ⟨gb217, 2, none⟩ = some (.int .i64 0) := (blk_cell BK217.out 2).trans rfl; have hfz87_0 := blk_frozen BK217.out 0; have hfz87_1 := blk_frozen BK217.out 1; have hfz87_2 := blk_frozen BK217.out 2; have hcz88_0 : w85.cell? ⟨gb212, 0, none⟩ = some (.slice A0_0 l0_0.length c0_0) := (blk_cell BK212.out 0).trans rfl; have hcz88_1 : w85.cell? ⟨gb212, 1, none⟩ = some (.int .i64 a0_1) := (blk_cell BK212.out 1).trans rfl; have hcz88_2 : w85.cell? ⟨gb212, 2, none⟩ = some (.int .i64 a0_2) := (blk_cell BK212.out 2).trans rfl; have hcz88_3 : w85.cell? ⟨gb212, 3, none⟩ = some (.slice (some ad216) l0_3.length c0_3) := (blk_cell BK212.out 3).trans rfl; have hcz88_4 : w85.cell? ⟨gb212, 4, none⟩ = some (.bool a0_4) := (blk_cell BK212.out 4).trans rfl; have hfz88_0 := blk_frozen BK212.out 0; have hfz88_1 := blk_frozen BK212.out 1; have hfz88_2 := blk_frozen BK212.out 2; have hfz88_3 := blk_frozen BK212.out 3; have hfz88_4 := blk_frozen BK212.out 4; have p220 : 0 ≤ (((rd_T122 l0_3 x5_3).f2) : Int) := of_decide_eq_true (by first | (with_reducible assumption) | assumption); have q220 : ((rd_T122 l0_3 x5_3).f2) < (l0_0.length : Int) := of_decide_eq_true (by first | (with_reducible assumption) | assumption); obtain ⟨ad220, e220, hx220_0, hx220_1, hx220_2⟩ := at_T105 HR0_0.out ((rd_T122 l0_3 x5_3).f2) p220 q220; cases e220; have hn220_0 : ad220.block ≠ gb217 := Nat.ne_of_lt (Nat.lt_of_lt_of_le (by have := World.block_lt_of_cell? _ _ hx220_0; first | rwa [add_block] at this | exact this) GW217.out); have hn220_1 : ad220.block ≠ gb217 := Nat.ne_of_lt (Nat.lt_of_lt_of_le (by have := World.block_lt_of_cell? _ _ hx220_0; first | rwa [add_block] at this | exact this) GW217.out); have hn220_2 : ad220.block ≠ gb217 := Nat.ne_of_lt (Nat.lt_of_lt_of_le (by have := World.block_lt_of_cell? _ _ hx220_0; first | rwa [add_block] at this | exact this) GW217.out); replace hx220_0 := (HB.out.cell (World.block_lt_of_cell? w _ hx220_0)).trans hx220_0; replace hx220_1 := (HB.out.cell (World.block_lt_of_cell? w _ hx220_1)).trans hx220_1; replace hx220_2 := (HB.out.cell (World.block_lt_of_cell? w _ hx220_2)).trans hx220_2; replace hx220_0 := (cell_far (p := ⟨gb217, 0, none⟩) (by first | (rw [add_block]; exact hn220_0) | (show (Addr.add _ _).block ≠ _; rw [add_block]; exact hn220_0) | exact hn220_0) (.int .i64 ((rd_T122 l0_3 x5_3).f0))).trans hx220_0; replace hx220_1 := (cell_far (p := ⟨gb217, 0, none⟩) (by first | (rw [add_block]; exact hn220_0) | (show (Addr.add _ _).block ≠ _; rw [add_block]; exact hn220_0) | exact hn220_0) (.int .i64 ((rd_T122 l0_3 x5_3).f0))).trans hx220_1; replace hx220_2 := (cell_far (p := ⟨gb217, 0, none⟩) (by first | (rw [add_block]; exact hn220_0) | (show (Addr.add _ _).block ≠ _; rw [add_block]; exact hn220_0) | exact hn220_0) (.int .i64 ((rd_T122 l0_3 x5_3).f0))).trans hx220_2; replace hx220_0 := (cell_far (p := ⟨gb217, 1, none⟩) (by first | (rw [add_block]; exact hn220_1) | (show (Addr.add _ _).block ≠ _; rw [add_block]; exact hn220_1) | exact hn220_1) (.int .i64 ((rd_T122 l0_3 x5_3).f1))).trans hx220_0; replace hx220_1 := (cell_far (p := ⟨gb217, 1, none⟩) (by first | (rw [add_block]; exact hn220_1) | (show (Addr.add _ _).block ≠ _; rw [add_block]; exact hn220_1) | exact hn220_1) (.int .i64 ((rd_T122 l0_3 x5_3).f1))).trans hx220_1; replace hx220_2 := (cell_far (p := ⟨gb217, 1, none⟩) (by first | (rw [add_block]; exact hn220_1) | (show (Addr.add _ _).block ≠ _; rw [add_block]; exact hn220_1) | exact hn220_1) (.int .i64 ((rd_T122 l0_3 x5_3).f1))).trans hx220_2; replace hx220_0 := (cell_far (p := ⟨gb217, 2, none⟩) (by first | (rw [add_block]; exact hn220_2) | (show (Addr.add _ _).block ≠ _; rw [add_block]; exact hn220_2) | exact hn220_2) (.int .i64 ((rd_T122 l0_3 x5_3).f2))).trans hx220_0; replace hx220_1 := (cell_far (p := ⟨gb217, 2, none⟩) (by first | (rw [add_block]; exact hn220_2) | (show (Addr.add _ _).block ≠ _; rw [add_block]; exact hn220_2) | exact hn220_2) (.int .i64 ((rd_T122 l0_3 x5_3).f2))).trans hx220_1; replace hx220_2 := (cell_far (p := ⟨gb217, 2, none⟩) (by first | (rw [add_block]; exact hn220_2) | (show (Addr.add _ _).block ≠ _; rw [add_block]; exact hn220_2) | exact hn220_2) (.int .i64 ((rd_T122 l0_3 x5_3).f2))).trans hx220_2; (try have hy220_0 := fun (n_ : Nat) => (show (((((w85.drewN n_).setCell ⟨gb217, 0, none⟩ (.int .i64 ((rd_T122 l0_3 x5_3).f0))).setCell ⟨gb217, 1, none⟩ (.int .i64 ((rd_T122 l0_3 x5_3).f1))).setCell ⟨gb217, 2, none⟩ (.int .i64 ((rd_T122 l0_3 x5_3).f2)))).cell? _ = some _ from hx220_0)); (try have hy220_1 := fun (n_ : Nat) => (show (((((w85.drewN n_).setCell ⟨gb217, 0, none⟩ (.int .i64 ((rd_T122 l0_3 x5_3).f0))).setCell ⟨gb217, 1, none⟩ (.int .i64 ((rd_T122 l0_3 x5_3).f1))).setCell ⟨gb217, 2, none⟩ (.int .i64 ((rd_T122 l0_3 x5_3).f2)))).cell? _ = some _ from hx220_1)); (try have hy220_2 := fun (n_ : Nat) => (show (((((w85.drewN n_).setCell ⟨gb217, 0, none⟩ (.int .i64 ((rd_T122 l0_3 x5_3).f0))).setCell ⟨gb217, 1, none⟩ (.int .i64 ((rd_T122 l0_3 x5_3).f1))).setCell ⟨gb217, 2, none⟩ (.int .i64 ((rd_T122 l0_3 x5_3).f2)))).cell? _ = some _ from hx220_2)); clear hn220_0; clear hn220_1; clear hn220_2; replace p220 := eq_true p220; replace q220 := eq_true q220))
                    repeat (go_quiet (fail); try go_wp2)
                    go_ret
                    exact ⟨by first | rfl | (simp [errW_none, errW_some] <;> rfl) | (simp [*, errW_none, errW_some] <;> rfl), by repeat (first | (with_reducible first | exact HB.out | apply below_alloc | apply pw_below_drewN | apply below_drew1 | refine below_set ?_ GE212.out | refine below_set ?_ GE217.out) | exact HB.out)⟩
                  ·rw [if_neg c77] at H
                   exact absurd H (by simp)
                 ·rw [if_neg c76] at H
                  exact absurd H (by simp)
          ·rw [if_neg c27] at H
           exact absurd H (by simp)
         ·rw [if_neg c26] at H
          have c26b0 : decide (x5_3 < (l0_3.length : Int)) = false := decide_eq_false c26
          clear c26
          replace H := Option.bind_eq_some_iff.mp H
          obtain ⟨t221, A890, H⟩ := H
          replace H : (if (t221.length : Int) = 0 then (some 14) else ((hackamoreref28_chain.f k3 l0_0 a0_1 a0_2 l0_3 a0_4 0).bind fun t224 => (hackamoreref28_Check.l2 k3 t224 false 0 l0_0 a0_1 a0_2 l0_3 a0_4))) = some r := H
          have A89 := Aside0.mk A890
          clear A890
          by_cases c90 : (t221.length : Int) = 0
          ·rw [if_pos c90] at H
           have c90b0 : ((t221.length : Int) == 0) = true := beq_iff_eq.mpr c90
           have c90b1 : ((t221.length : Int) != 0) = false := bne_eq_false_iff_eq.mpr c90
           clear c90
           obtain rfl := Option.some.inj H
           have hcz91_0 : wr.cell? ⟨gb212, 0, none⟩ = some (.slice A0_0 l0_0.length c0_0) := (blk_cell BK212.out 0).trans rfl
           have hcz91_1 : wr.cell? ⟨gb212, 1, none⟩ = some (.int .i64 a0_1) := (blk_cell BK212.out 1).trans rfl
           have hcz91_2 : wr.cell? ⟨gb212, 2, none⟩ = some (.int .i64 a0_2) := (blk_cell BK212.out 2).trans rfl
           have hcz91_3 : wr.cell? ⟨gb212, 3, none⟩ = some (.slice A0_3 l0_3.length c0_3) := (blk_cell BK212.out 3).trans rfl
           have hcz91_4 : wr.cell? ⟨gb212, 4, none⟩ = some (.bool a0_4) := (blk_cell BK212.out 4).trans rfl
           have hfz91_0 := blk_frozen BK212.out 0
           have hfz91_1 := blk_frozen BK212.out 1
           have hfz91_2 := blk_frozen BK212.out 2
           have hfz91_3 := blk_frozen BK212.out 3
           have hfz91_4 := blk_frozen BK212.out 4
           go_wp2_with (first | (go_at_call 55; (with_reducible refine (hackamoreref28_Order.calls k3 _ _ l0_0 a0_1 a0_2 _ _ l0_3 a0_4 t221 _ ?side1 ?side2 ?side3 ?side4 A89.out).mono ?_); (case side1 => repeat (first | exact (Kd.C_below HR0_0.out HB.out) | (with_reducible refine Kd.C_alloc ?_ _) | (with_reducible refine Kd.C_drewN ?_ _) | (with_reducible refine Kd.C_drew ?_))); (case side2 => exact HC0_0.out); (case side3 => repeat (first | exact (Kd.C_below HR0_3.out HB.out) | (with_reducible refine Kd.C_alloc ?_ _) | (with_reducible refine Kd.C_drewN ?_ _) | (with_reducible refine Kd.C_drew ?_))); (case side4 => exact HC0_3.out); rintro e w92 ⟨v222, rfl, ho0, hb⟩; have n0_ := Aside0.mk (Kd.R_lower ho0 (below_size (by repeat (first | (with_reducible first | exact HB.out | apply below_alloc | apply pw_below_drewN | apply below_drew1 | refine below_set ?_ GE212.out) | exact HB.out)))); have n1_ := Aside0.mk (blk_below (g := gb212) (o := .cells #[.slice A0_0 l0_0.length c0_0, .int .i64 a0_1, .int .i64 a0_2, .slice A0_3 l0_3.length c0_3, .bool a0_4] 46 (0, 0)) (by (with_reducible repeat (first | refine blk_drewN ?_ _ | refine blk_drew ?_ | refine blk_alloc ?_ _)); exact BK212.out) hb); have n2_ := Aside0.mk (below_step (by repeat (first | (with_reducible first | exact HB.out | apply below_alloc | apply pw_below_drewN | apply below_drew1 | refine below_set ?_ GE212.out) | exact HB.out)) hb); clear BK212; clear HB; have HO223 := n0_; have BK212 := n1_; have HB := n2_; clear n0_ n1_ n2_; (try clear hb); (try clear hb2); (try clear hk); (try clear hi); (try clear ho0); obtain ⟨Ao93, co93, eo93⟩ := Kd.R_slice HO223.out; subst eo93))
           repeat (go_quiet (fail); try go_wp2)
           go_ret
           exact ⟨by first | rfl | (simp [errW_none, errW_some] <;> rfl) | (simp [*, errW_none, errW_some] <;> rfl), by repeat (first | (with_reducible first | exact HB.out | apply below_alloc | apply pw_below_drewN | apply below_drew1 | refine below_set ?_ GE212.out) | exact HB.out)⟩
          ·rw [if_neg c90] at H
           have c90b0 : ((t221.length : Int) == 0) = false := beq_eq_false_iff_ne.mpr c90
           have c90b1 : ((t221.length : Int) != 0) = true := bne_iff_ne.mpr c90
           have c90b2 : ¬ (t221 = []) := fun h_ => c90 (by rw [h_]; rfl)
           replace H := Option.bind_eq_some_iff.mp H
           obtain ⟨t224, A940, H⟩ := H
           replace H : (hackamoreref28_Check.l2 k3 t224 false 0 l0_0 a0_1 a0_2 l0_3 a0_4) = some r := H
           have A94 := Aside0.mk A940
           clear A940
           have H' := Aside0.mk H
           clear H
           have hcz95_0 : wr.cell? ⟨gb212, 0, none⟩ = some (.slice A0_0 l0_0.length c0_0) := (blk_cell BK212.out 0).trans rfl
           have hcz95_1 : wr.cell? ⟨gb212, 1, none⟩ = some (.int .i64 a0_1) := (blk_cell BK212.out 1).trans rfl
           have hcz95_2 : wr.cell? ⟨gb212, 2, none⟩ = some (.int .i64 a0_2) := (blk_cell BK212.out 2).trans rfl
           have hcz95_3 : wr.cell? ⟨gb212, 3, none⟩ = some (.slice A0_3 l0_3.length c0_3) := (blk_cell BK212.out 3).trans rfl
           have hcz95_4 : wr.cell? ⟨gb212, 4, none⟩ = some (.bool a0_4) := (blk_cell BK212.out 4).trans rfl
           have hfz95_0 := blk_frozen BK212.out 0
           have hfz95_1 := blk_frozen BK212.out 1
           have hfz95_2 := blk_frozen BK212.out 2
           have hfz95_3 := blk_frozen BK212.out 3
           have hfz95_4 := blk_frozen BK212.out 4
           go_wp2_with (first | (go_at_call 55; (with_reducible refine (hackamoreref28_Order.calls k3 _ _ l0_0 a0_1 a0_2 _ _ l0_3 a0_4 t221 _ ?side1 ?side2 ?side3 ?side4 A89.out).mono ?_); (case side1 => repeat (first | exact (Kd.C_below HR0_0.out HB.out) | (with_reducible refine Kd.C_alloc ?_ _) | (with_reducible refine Kd.C_drewN ?_ _) | (with_reducible refine Kd.C_drew ?_))); (case side2 => exact HC0_0.out); (case side3 => repeat (first | exact (Kd.C_below HR0_3.out HB.out) | (with_reducible refine Kd.C_alloc ?_ _) | (with_reducible refine Kd.C_drewN ?_ _) | (with_reducible refine Kd.C_drew ?_))); (case side4 => exact HC0_3.out); rintro e w96 ⟨v222, rfl, ho0, hb⟩; have n0_ := Aside0.mk (Kd.R_lower ho0 (below_size (by repeat (first | (with_reducible first | exact HB.out | apply below_alloc | apply pw_below_drewN | apply below_drew1 | refine below_set ?_ GE212.out) | exact HB.out)))); have n1_ := Aside0.mk (blk_below (g := gb212) (o := .cells #[.slice A0_0 l0_0.length c0_0, .int .i64 a0_1, .int .i64 a0_2, .slice A0_3 l0_3.length c0_3, .bool a0_4] 46 (0, 0)) (by (with_reducible repeat (first | refine blk_drewN ?_ _ | refine blk_drew ?_ | refine blk_alloc ?_ _)); exact BK212.out) hb); have n2_ := Aside0.mk (below_step (by repeat (first | (with_reducible first | exact HB.out | apply below_alloc | apply pw_below_drewN | apply below_drew1 | refine below_set ?_ GE212.out) | exact HB.out)) hb); clear BK212; clear HB; have HO223 := n0_; have BK212 := n1_; have HB := n2_; clear n0_ n1_ n2_; (try clear hb); (try clear hb2); (try clear hk); (try clear hi); (try clear ho0); obtain ⟨Ao97, co97, eo97⟩ := Kd.R_slice HO223.out; subst eo97; have hcz98_0 : w96.cell? ⟨gb212, 0, none⟩ = some (.slice A0_0 l0_0.length c0_0) := (blk_cell BK212.out 0).trans rfl; have hcz98_1 : w96.cell? ⟨gb212, 1, none⟩ = some (.int .i64 a0_1) := (blk_cell BK212.out 1).trans rfl; have hcz98_2 : w96.cell? ⟨gb212, 2, none⟩ = some (.int .i64 a0_2) := (blk_cell BK212.out 2).trans rfl; have hcz98_3 : w96.cell? ⟨gb212, 3, none⟩ = some (.slice A0_3 l0_3.length c0_3) := (blk_cell BK212.out 3).trans rfl; have hcz98_4 : w96.cell? ⟨gb212, 4, none⟩ = some (.bool a0_4) := (blk_cell BK212.out 4).trans rfl; have hfz98_0 := blk_frozen BK212.out 0; have hfz98_1 := blk_frozen BK212.out 1; have hfz98_2 := blk_frozen BK212.out 2; have hfz98_3 := blk_frozen BK212.out 3; have hfz98_4 := blk_frozen BK212.out 4) | (go_at_call 56; (with_reducible refine (hackamoreref28_chain.calls k3 _ _ l0_0 a0_1 a0_2 _ _ l0_3 a0_4 0 t224 _ ?side1 ?side2 ?side3 ?side4 A94.out).mono ?_); (case side1 => repeat (first | exact (Kd.C_below HR0_0.out HB.out) | (with_reducible refine Kd.C_alloc ?_ _) | (with_reducible refine Kd.C_drewN ?_ _) | (with_reducible refine Kd.C_drew ?_))); (case side2 => exact HC0_0.out); (case side3 => repeat (first | exact (Kd.C_below HR0_3.out HB.out) | (with_reducible refine Kd.C_alloc ?_ _) | (with_reducible refine Kd.C_drewN ?_ _) | (with_reducible refine Kd.C_drew ?_))); (case side4 => exact HC0_3.out); rintro e w99 ⟨v225, rfl, ho0, hb⟩; have n0_ := Aside0.mk (Kd.R_elder' (by (with_reducible repeat (first | apply Kd.R_alloc | apply Kd.R_drewN | apply Kd.R_drew)); exact HO223.out) (Kd.R_base ho0) hb); have n1_ := Aside0.mk (Kd.R_lower (Kd.R_new' ho0 (Kd.R_lt (by (with_reducible repeat (first | apply Kd.R_alloc | apply Kd.R_drewN | apply Kd.R_drew)); exact HO223.out))) (below_size (by repeat (first | (with_reducible first | exact HB.out | apply below_alloc | apply pw_below_drewN | apply below_drew1 | refine below_set ?_ GE212.out) | exact HB.out)))); have n2_ := Aside0.mk (blk_below (g := gb212) (o := .cells #[.slice A0_0 l0_0.length c0_0, .int .i64 a0_1, .int .i64 a0_2, .slice A0_3 l0_3.length c0_3, .bool a0_4] 46 (0, 0)) (by (with_reducible repeat (first | refine blk_drewN ?_ _ | refine blk_drew ?_ | refine blk_alloc ?_ _)); exact BK212.out) hb); have n3_ := Aside0.mk (below_step (by repeat (first | (with_reducible first | exact HB.out | apply below_alloc | apply pw_below_drewN | apply below_drew1 | refine below_set ?_ GE212.out) | exact HB.out)) hb); clear HO223; clear BK212; clear HB; have HO223 := n0_; have HO226 := n1_; have BK212 := n2_; have HB := n3_; clear n0_ n1_ n2_ n3_; (try clear hb); (try clear hb2); (try clear hk); (try clear hi); (try clear ho0)))
           repeat (go_quiet (fail); try go_wp2)
           go_loopg [8, 9] k3 (fun kq v8 v9 w' => ∃ (x8_4 : Bool) (x9_4 : Int), v8 = .bool x8_4 ∧ v9 = .int .i64 x9_4 ∧ Aside0 (hackamoreref28_Check.l2 kq t224 x8_4 x9_4 l0_0 a0_1 a0_2 l0_3 a0_4 = some r) ∧ Aside0 (kq ≤ k3) ∧ Aside0 (Kd.R (Kd.int .i64) 3 w' w.heap.size (fun _ => True) v225 t224) ∧ Aside0 (w'.heap[gb212]? = some (.cells #[(.slice A0_0 l0_0.length c0_0), .int .i64 a0_1, .int .i64 a0_2, (.slice A0_3 l0_3.length c0_3), .bool a0_4] 46 (0, 0))) ∧ Aside0 (Below w.heap.size w w'))
           case atStart => exact ⟨(false), (0), (by first | rfl | (simp; done) | (simp [*]; done)), (by first | rfl | (simp; done) | (simp [*]; done)), H', ⟨Nat.le_refl _⟩, ⟨by (with_reducible repeat (first | apply Kd.R_alloc | apply Kd.R_drewN | apply Kd.R_drew)); exact Kd.R_mono HO226.out (fun _ hk => trivial)⟩, ⟨by (with_reducible repeat (first | refine blk_drewN ?_ _ | refine blk_drew ?_ | refine blk_alloc ?_ _)); exact BK212.out⟩, ⟨by repeat (first | (with_reducible first | exact HB.out | apply below_alloc | apply pw_below_drewN | apply below_drew1 | refine below_set ?_ GE212.out) | exact HB.out)⟩⟩
           case round =>
            clear H'
            try clear c1
            try clear c2
            try clear p2
            try clear q2
            try clear hx2
            try clear qi2
            try clear c3
            try clear c4
            try clear c5
            try clear c5b0
            try clear c5b1
            try clear c6
            try clear c6b0
            try clear c6b1
            try clear p6
            try clear c7
            try clear c7b0
            try clear c8
            try clear c9
            try clear c9b0
            try clear c11
            try clear c11b0
            try clear c13
            try clear c13b0
            try clear c15
            try clear c15b0
            try clear c15b1
            try clear c16
            try clear c16b0
            try clear c16b1
            try clear c19
            try clear c20
            try clear c20b0
            try clear c21
            try clear c21b0
            try clear p21
            try clear q21
            try clear hx21
            try clear qi21
            try clear c22
            try clear c22b0
            try clear p22
            try clear q22
            try clear hx22
            try clear c23
            try clear c23b0
            try clear c26
            try clear c26b0
            try clear c27
            try clear c27b0
            try clear c28
            try clear c28b0
            try clear c31
            try clear c33
            try clear c33b0
            try clear c36
            try clear c38
            try clear c38b0
            try clear c41
            try clear c43
            try clear c43b0
            try clear c46
            try clear c48
            try clear c48b0
            try clear c51
            try clear c53
            try clear c53b0
            try clear c55
            try clear c55b0
            try clear c56
            try clear c56b0
            try clear c57
            try clear c57b0
            try clear c60
            try clear c63
            try clear c63b0
            try clear c64
            try clear c64b0
            try clear p64
            try clear c65
            try clear c65b0
            try clear c65b1
            try clear c68
            try clear c73
            try clear c76
            try clear c76b0
            try clear c77
            try clear c77b0
            try clear c78
            try clear c78b0
            try clear c78b1
            try clear c81
            try clear c86
            try clear c90
            try clear c90b0
            try clear c90b1
            try clear c90b2
            try clear hcz10_0
            try clear hcz10_1
            try clear hcz10_2
            try clear hcz10_3
            try clear hcz10_4
            try clear hcz12_0
            try clear hcz12_1
            try clear hcz12_2
            try clear hcz12_3
            try clear hcz12_4
            try clear hcz14_0
            try clear hcz14_1
            try clear hcz14_2
            try clear hcz14_3
            try clear hcz14_4
            try clear hcz17_0
            try clear hcz17_1
            try clear hcz17_2
            try clear hcz17_3
            try clear hcz17_4
            try clear hcz18_0
            try clear hcz18_1
            try clear hcz18_2
            try clear hcz18_3
            try clear hcz18_4
            try clear hcz24_0
            try clear hcz24_1
            try clear hcz24_2
            try clear hcz24_3
            try clear hcz24_4
            try clear hcz25_0
            try clear hcz25_1
            try clear hcz25_2
            try clear hcz25_3
            try clear hcz25_4
            try clear hcz29_0
            try clear hcz29_1
            try clear hcz29_2
            try clear hcz29_3
            try clear hcz29_4
            try clear hcz32_0
            try clear hcz32_1
            try clear hcz32_2
            try clear hcz34_0
            try clear hcz34_1
            try clear hcz34_2
            try clear hcz34_3
            try clear hcz34_4
            try clear hcz37_0
            try clear hcz37_1
            try clear hcz37_2
            try clear hcz39_0
            try clear hcz39_1
            try clear hcz39_2
            try clear hcz39_3
            try clear hcz39_4
            try clear hcz42_0
            try clear hcz42_1
            try clear hcz42_2
            try clear hcz44_0
            try clear hcz44_1
            try clear hcz44_2
            try clear hcz44_3
            try clear hcz44_4
            try clear hcz47_0
            try clear hcz47_1
            try clear hcz47_2
            try clear hcz49_0
            try clear hcz49_1
            try clear hcz49_2
            try clear hcz49_3
            try clear hcz49_4
            try clear hcz4_0
            try clear hcz4_1
            try clear hcz4_2
            try clear hcz4_3
            try clear hcz4_4
            try clear hcz52_0
            try clear hcz52_1
            try clear hcz52_2
            try clear hcz58_0
            try clear hcz58_1
            try clear hcz58_2
            try clear hcz58_3
            try clear hcz58_4
            try clear hcz61_0
            try clear hcz61_1
            try clear hcz61_2
            try clear hcz62_0
            try clear hcz62_1
            try clear hcz62_2
            try clear hcz62_3
            try clear hcz62_4
            try clear hcz66_0
            try clear hcz66_1
            try clear hcz66_2
            try clear hcz66_3
            try clear hcz66_4
            try clear hcz69_0
            try clear hcz69_1
            try clear hcz69_2
            try clear hcz70_0
            try clear hcz70_1
            try clear hcz70_2
            try clear hcz70_3
            try clear hcz70_4
            try clear hcz71_0
            try clear hcz71_1
            try clear hcz71_2
            try clear hcz71_3
            try clear hcz71_4
            try clear hcz74_0
            try clear hcz74_1
            try clear hcz74_2
            try clear hcz75_0
            try clear hcz75_1
            try clear hcz75_2
            try clear hcz75_3
            try clear hcz75_4
            try clear hcz79_0
            try clear hcz79_1
            try clear hcz79_2
            try clear hcz79_3
            try clear hcz79_4
            try clear hcz82_0
            try clear hcz82_1
            try clear hcz82_2
            try clear hcz83_0
            try clear hcz83_1
            try clear hcz83_2
            try clear hcz83_3
            try clear hcz83_4
            try clear hcz84_0
            try clear hcz84_1
            try clear hcz84_2
            try clear hcz84_3
            try clear hcz84_4
            try clear hcz87_0
            try clear hcz87_1
            try clear hcz87_2
            try clear hcz88_0
            try clear hcz88_1
            try clear hcz88_2
            try clear hcz88_3
            try clear hcz88_4
            try clear hcz8_0
            try clear hcz8_1
            try clear hcz8_2
            try clear hcz8_3
            try clear hcz8_4
            try clear hcz91_0
            try clear hcz91_1
            try clear hcz91_2
            try clear hcz91_3
            try clear hcz91_4
            try clear hcz95_0
            try clear hcz95_1
            try clear hcz95_2
            try clear hcz95_3
            try clear hcz95_4
            try clear hcz98_0
            try clear hcz98_1
            try clear hcz98_2
            try clear hcz98_3
            try clear hcz98_4
            try clear hfz10_0
            try clear hfz10_1
            try clear hfz10_2
            try clear hfz10_3
            try clear hfz10_4
            try clear hfz12_0
            try clear hfz12_1
            try clear hfz12_2
            try clear hfz12_3
            try clear hfz12_4
            try clear hfz14_0
            try clear hfz14_1
            try clear hfz14_2
            try clear hfz14_3
            try clear hfz14_4
            try clear hfz17_0
            try clear hfz17_1
            try clear hfz17_2
            try clear hfz17_3
            try clear hfz17_4
            try clear hfz18_0
            try clear hfz18_1
            try clear hfz18_2
            try clear hfz18_3
            try clear hfz18_4
            try clear hfz24_0
            try clear hfz24_1
            try clear hfz24_2
            try clear hfz24_3
            try clear hfz24_4
            try clear hfz25_0
            try clear hfz25_1
            try clear hfz25_2
            try clear hfz25_3
            try clear hfz25_4
            try clear hfz29_0
            try clear hfz29_1
            try clear hfz29_2
            try clear hfz29_3
            try clear hfz29_4
            try clear hfz32_0
            try clear hfz32_1
            try clear hfz32_2
            try clear hfz34_0
            try clear hfz34_1
            try clear hfz34_2
            try clear hfz34_3
            try clear hfz34_4
            try clear hfz37_0
            try clear hfz37_1
            try clear hfz37_2
            try clear hfz39_0
            try clear hfz39_1
            try clear hfz39_2
            try clear hfz39_3
            try clear hfz39_4
            try clear hfz42_0
            try clear hfz42_1
            try clear hfz42_2
            try clear hfz44_0
            try clear hfz44_1
            try clear hfz44_2
            try clear hfz44_3
            try clear hfz44_4
            try clear hfz47_0
            try clear hfz47_1
            try clear hfz47_2
            try clear hfz49_0
            try clear hfz49_1
            try clear hfz49_2
            try clear hfz49_3
            try clear hfz49_4
            try clear hfz4_0
            try clear hfz4_1
            try clear hfz4_2
            try clear hfz4_3
            try clear hfz4_4
            try clear hfz52_0
            try clear hfz52_1
            try clear hfz52_2
            try clear hfz58_0
            try clear hfz58_1
            try clear hfz58_2
            try clear hfz58_3
            try clear hfz58_4
            try clear hfz61_0
            try clear hfz61_1
            try clear hfz61_2
            try clear hfz62_0
            try clear hfz62_1
            try clear hfz62_2
            try clear hfz62_3
            try clear hfz62_4
            try clear hfz66_0
            try clear hfz66_1
            try clear hfz66_2
            try clear hfz66_3
            try clear hfz66_4
            try clear hfz69_0
            try clear hfz69_1
            try clear hfz69_2
            try clear hfz70_0
            try clear hfz70_1
            try clear hfz70_2
            try clear hfz70_3
            try clear hfz70_4
            try clear hfz71_0
            try clear hfz71_1
            try clear hfz71_2
            try clear hfz71_3
            try clear hfz71_4
            try clear hfz74_0
            try clear hfz74_1
            try clear hfz74_2
            try clear hfz75_0
            try clear hfz75_1
            try clear hfz75_2
            try clear hfz75_3
            try clear hfz75_4
            try clear hfz79_0
            try clear hfz79_1
            try clear hfz79_2
            try clear hfz79_3
            try clear hfz79_4
            try clear hfz82_0
            try clear hfz82_1
            try clear hfz82_2
            try clear hfz83_0
            try clear hfz83_1
            try clear hfz83_2
            try clear hfz83_3
            try clear hfz83_4
            try clear hfz84_0
            try clear hfz84_1
            try clear hfz84_2
            try clear hfz84_3
            try clear hfz84_4
            try clear hfz87_0
            try clear hfz87_1
            try clear hfz87_2
            try clear hfz88_0
            try clear hfz88_1
            try clear hfz88_2
            try clear hfz88_3
            try clear hfz88_4
            try clear hfz8_0
            try clear hfz8_1
            try clear hfz8_2
            try clear hfz8_3
            try clear hfz8_4
            try clear hfz91_0
            try clear hfz91_1
            try clear hfz91_2
            try clear hfz91_3
            try clear hfz91_4
            try clear hfz95_0
            try clear hfz95_1
            try clear hfz95_2
            try clear hfz95_3
            try clear hfz95_4
            try clear hfz98_0
            try clear hfz98_1
            try clear hfz98_2
            try clear hfz98_3
            try clear hfz98_4
            try clear hx213_0
            try clear hx213_1
            try clear hx213_2
            try clear hx214_0
            try clear hx214_1
            try clear hx214_2
            try clear hx215_0
            try clear hx215_1
            try clear hx215_2
            try clear hx216_0
            try clear hx216_1
            try clear hx216_2
            try clear hx218_0
            try clear hx218_1
            try clear hx218_2
            try clear hx219_0
            try clear hx219_1
            try clear hx219_2
            try clear hx220_0
            try clear hx220_1
            try clear hx220_2
            try clear p2
            try clear p21
            try clear p213
            try clear p214
            try clear p215
            try clear p216
            try clear p218
            try clear p219
            try clear p220
            try clear p6
            try clear q2
            try clear q21
            try clear q213
            try clear q214
            try clear q215
            try clear q216
            try clear q218
            try clear q219
            try clear q220
            obtain ⟨x8_4, x9_4, rfl, rfl, HA, HK4, HO_7, BK212, HB⟩ := hrel
            cases gk with
            | zero => exact absurd HA.out (by simp [hackamoreref28_Check.l2])
            | succ k4 =>
             have H := HA.out
             clear HA
             simp only [hackamoreref28_Check.l2] at H
             by_cases c100 : x9_4 < (t224.length : Int)
             ·rw [if_pos c100] at H
              have c100b0 : decide (x9_4 < (t224.length : Int)) = true := decide_eq_true c100
              clear c100
              by_cases c101 : x8_4 = true
              ·subst c101
               have H1 : (hackamoreref28_Check.l2 k4 t224 true (wrap64 (x9_4 + 1)) l0_0 a0_1 a0_2 l0_3 a0_4) = some r := by rw [if_pos rfl] at H; exact H
               clear H
               have H := H1
               clear H1
               have H' := Aside0.mk H
               clear H
               obtain ⟨Ao102, co102, eo102⟩ := Kd.R_slice HO_7.out
               subst eo102
               go_wp2
               repeat (go_quiet (fail); try go_wp2)
               go_roundg k4
               case measure => have := HJ1.out; have := HK2.out; have := HK3.out; have := HK4.out; omega
               case rel => exact ⟨(true), (wrap64 (x9_4 + 1)), (by first | rfl | (simp; done) | (simp [*]; done)), (by first | rfl | (simp; done) | (simp [*]; done)), H', ⟨by have := HJ1.out; have := HK2.out; have := HK3.out; have := HK4.out; omega⟩, ⟨by (with_reducible repeat (first | apply Kd.R_alloc | apply Kd.R_drewN | apply Kd.R_drew)); exact HO_7.out⟩, ⟨by (with_reducible repeat (first | refine blk_drewN ?_ _ | refine blk_drew ?_ | refine blk_alloc ?_ _)); exact BK212.out⟩, ⟨by repeat (first | (with_reducible first | exact HB.out | apply below_alloc | apply pw_below_drewN | apply below_drew1 | refine below_set ?_ GE212.out) | exact HB.out)⟩⟩
              ·replace c101 := Bool.eq_false_iff.mpr c101
               subst c101
               have H1 : (if 0 ≤ x9_4 then (hackamoreref28_Check.l2 k4 t224 ((rd t224 x9_4) == a0_2) (wrap64 (x9_4 + 1)) l0_0 a0_1 a0_2 l0_3 a0_4) else (none)) = some r := by rw [if_neg (show ¬ (false = true) by decide)] at H; exact H
               clear H
               have H := H1
               clear H1
               by_cases c103 : 0 ≤ x9_4
               ·rw [if_pos c103] at H
                have c103b0 : decide (0 ≤ x9_4) = true := decide_eq_true c103
                clear c103
                have H' := Aside0.mk H
                clear H
                obtain ⟨Ao104, co104, eo104⟩ := Kd.R_slice HO_7.out
                subst eo104
                have p227 : 0 ≤ (x9_4 : Int) := of_decide_eq_true (by first | (with_reducible assumption) | assumption)
                have q227 : x9_4 < (t224.length : Int) := of_decide_eq_true (by first | (with_reducible assumption) | assumption)
                obtain ⟨ad227, e227, hx227_0⟩ := Kd.at_int (Kd.R_reads' HO_7.out).2.2 x9_4 p227 q227
                cases e227
                replace p227 := eq_true p227
                replace q227 := eq_true q227
                have hcz105_0 : wr.cell? ⟨gb212, 0, none⟩ = some (.slice A0_0 l0_0.length c0_0) := (blk_cell BK212.out 0).trans rfl
                have hcz105_1 : wr.cell? ⟨gb212, 1, none⟩ = some (.int .i64 a0_1) := (blk_cell BK212.out 1).trans rfl
                have hcz105_2 : wr.cell? ⟨gb212, 2, none⟩ = some (.int .i64 a0_2) := (blk_cell BK212.out 2).trans rfl
                have hcz105_3 : wr.cell? ⟨gb212, 3, none⟩ = some (.slice A0_3 l0_3.length c0_3) := (blk_cell BK212.out 3).trans rfl
                have hcz105_4 : wr.cell? ⟨gb212, 4, none⟩ = some (.bool a0_4) := (blk_cell BK212.out 4).trans rfl
                have hfz105_0 := blk_frozen BK212.out 0
                have hfz105_1 := blk_frozen BK212.out 1
                have hfz105_2 := blk_frozen BK212.out 2
                have hfz105_3 := blk_frozen BK212.out 3
                have hfz105_4 := blk_frozen BK212.out 4
                go_wp2
                repeat (go_quiet (fail); try go_wp2)
                go_roundg k4
                case measure => have := HJ1.out; have := HK2.out; have := HK3.out; have := HK4.out; omega
                case rel => exact ⟨(((rd t224 x9_4) == a0_2)), (wrap64 (x9_4 + 1)), (by first | rfl | (simp; done) | (simp [*]; done)), (by first | rfl | (simp; done) | (simp [*]; done)), H', ⟨by have := HJ1.out; have := HK2.out; have := HK3.out; have := HK4.out; omega⟩, ⟨by (with_reducible repeat (first | apply Kd.R_alloc | apply Kd.R_drewN | apply Kd.R_drew)); exact HO_7.out⟩, ⟨by (with_reducible repeat (first | refine blk_drewN ?_ _ | refine blk_drew ?_ | refine blk_alloc ?_ _)); exact BK212.out⟩, ⟨by repeat (first | (with_reducible first | exact HB.out | apply below_alloc | apply pw_below_drewN | apply below_drew1 | refine below_set ?_ GE212.out) | exact HB.out)⟩⟩
               ·rw [if_neg c103] at H
                exact absurd H (by simp)
             ·rw [if_neg c100] at H
              have c100b0 : decide (x9_4 < (t224.length : Int)) = false := decide_eq_false c100
              clear c100
              by_cases c106 : x8_4 = true
              ·subst c106
               have H1 : (if a0_4 = true then (if a0_2 = a0_1 then (some 0) else (some 14)) else (some 0)) = some r := by rw [if_pos rfl] at H; exact H
               clear H
               have H := H1
               clear H1
               by_cases c107 : a0_4 = true
               ·subst c107
                have H1 : (if a0_2 = a0_1 then (some 0) else (some 14)) = some r := by rw [if_pos rfl] at H; exact H
                clear H
                have H := H1
                clear H1
                by_cases c108 : a0_2 = a0_1
                ·rw [if_pos c108] at H
                 have c108b0 : (a0_2 == a0_1) = true := beq_iff_eq.mpr c108
                 have c108b1 : (a0_2 != a0_1) = false := bne_eq_false_iff_eq.mpr c108
                 clear c108
                 obtain rfl := Option.some.inj H
                 obtain ⟨Ao109, co109, eo109⟩ := Kd.R_slice HO_7.out
                 subst eo109
                 have hcz110_0 : wr.cell? ⟨gb212, 0, none⟩ = some (.slice A0_0 l0_0.length c0_0) := (blk_cell BK212.out 0).trans rfl
                 have hcz110_1 : wr.cell? ⟨gb212, 1, none⟩ = some (.int .i64 a0_1) := (blk_cell BK212.out 1).trans rfl
                 have hcz110_2 : wr.cell? ⟨gb212, 2, none⟩ = some (.int .i64 a0_2) := (blk_cell BK212.out 2).trans rfl
                 have hcz110_3 : wr.cell? ⟨gb212, 3, none⟩ = some (.slice A0_3 l0_3.length c0_3) := (blk_cell BK212.out 3).trans rfl
                 have hcz110_4 : wr.cell? ⟨gb212, 4, none⟩ = some (.bool true) := (blk_cell BK212.out 4).trans rfl
                 have hfz110_0 := blk_frozen BK212.out 0
                 have hfz110_1 := blk_frozen BK212.out 1
                 have hfz110_2 := blk_frozen BK212.out 2
                 have hfz110_3 := blk_frozen BK212.out 3
                 have hfz110_4 := blk_frozen BK212.out 4
                 go_wp2
                 repeat (go_quiet (fail); try go_wp2)
                 go_ret
                 exact ⟨by first | rfl | (simp [errW_none, errW_some] <;> rfl) | (simp [*, errW_none, errW_some] <;> rfl), by repeat (first | (with_reducible first | exact HB.out | apply below_alloc | apply pw_below_drewN | apply below_drew1 | refine below_set ?_ GE212.out) | exact HB.out)⟩
                ·rw [if_neg c108] at H
                 have c108b0 : (a0_2 == a0_1) = false := beq_eq_false_iff_ne.mpr c108
                 have c108b1 : (a0_2 != a0_1) = true := bne_iff_ne.mpr c108
                 obtain rfl := Option.some.inj H
                 obtain ⟨Ao111, co111, eo111⟩ := Kd.R_slice HO_7.out
                 subst eo111
                 have hcz112_0 : wr.cell? ⟨gb212, 0, none⟩ = some (.slice A0_0 l0_0.length c0_0) := (blk_cell BK212.out 0).trans rfl
                 have hcz112_1 : wr.cell? ⟨gb212, 1, none⟩ = some (.int .i64 a0_1) := (blk_cell BK212.out 1).trans rfl
                 have hcz112_2 : wr.cell? ⟨gb212, 2, none⟩ = some (.int .i64 a0_2) := (blk_cell BK212.out 2).trans rfl
                 have hcz112_3 : wr.cell? ⟨gb212, 3, none⟩ = some (.slice A0_3 l0_3.length c0_3) := (blk_cell BK212.out 3).trans rfl
                 have hcz112_4 : wr.cell? ⟨gb212, 4, none⟩ = some (.bool true) := (blk_cell BK212.out 4).trans rfl
                 have hfz112_0 := blk_frozen BK212.out 0
                 have hfz112_1 := blk_frozen BK212.out 1
                 have hfz112_2 := blk_frozen BK212.out 2
                 have hfz112_3 := blk_frozen BK212.out 3
                 have hfz112_4 := blk_frozen BK212.out 4
                 go_wp2
                 repeat (go_quiet (fail); try go_wp2)
                 go_ret
                 exact ⟨by first | rfl | (simp [errW_none, errW_some] <;> rfl) | (simp [*, errW_none, errW_some] <;> rfl), by repeat (first | (with_reducible first | exact HB.out | apply below_alloc | apply pw_below_drewN | apply below_drew1 | refine below_set ?_ GE212.out) | exact HB.out)⟩
               ·replace c107 := Bool.eq_false_iff.mpr c107
                subst c107
                have H1 : (some 0) = some r := by rw [if_neg (show ¬ (false = true) by decide)] at H; exact H
                clear H
                have H := H1
                clear H1
                obtain rfl := Option.some.inj H
                obtain ⟨Ao113, co113, eo113⟩ := Kd.R_slice HO_7.out
                subst eo113
                have hcz114_0 : wr.cell? ⟨gb212, 0, none⟩ = some (.slice A0_0 l0_0.length c0_0) := (blk_cell BK212.out 0).trans rfl
                have hcz114_1 : wr.cell? ⟨gb212, 1, none⟩ = some (.int .i64 a0_1) := (blk_cell BK212.out 1).trans rfl
                have hcz114_2 : wr.cell? ⟨gb212, 2, none⟩ = some (.int .i64 a0_2) := (blk_cell BK212.out 2).trans rfl
                have hcz114_3 : wr.cell? ⟨gb212, 3, none⟩ = some (.slice A0_3 l0_3.length c0_3) := (blk_cell BK212.out 3).trans rfl
                have hcz114_4 : wr.cell? ⟨gb212, 4, none⟩ = some (.bool false) := (blk_cell BK212.out 4).trans rfl
                have hfz114_0 := blk_frozen BK212.out 0
                have hfz114_1 := blk_frozen BK212.out 1
                have hfz114_2 := blk_frozen BK212.out 2
                have hfz114_3 := blk_frozen BK212.out 3
                have hfz114_4 := blk_frozen BK212.out 4
                go_wp2
                repeat (go_quiet (fail); try go_wp2)
                go_ret
                exact ⟨by first | rfl | (simp [errW_none, errW_some] <;> rfl) | (simp [*, errW_none, errW_some] <;> rfl), by repeat (first | (with_reducible first | exact HB.out | apply below_alloc | apply pw_below_drewN | apply below_drew1 | refine below_set ?_ GE212.out) | exact HB.out)⟩
              ·replace c106 := Bool.eq_false_iff.mpr c106
               subst c106
               have H1 : (some 14) = some r := by rw [if_neg (show ¬ (false = true) by decide)] at H; exact H
               clear H
               have H := H1
               clear H1
               obtain rfl := Option.some.inj H
               obtain ⟨Ao115, co115, eo115⟩ := Kd.R_slice HO_7.out
               subst eo115
               go_wp2
               repeat (go_quiet (fail); try go_wp2)
               go_ret
               exact ⟨by first | rfl | (simp [errW_none, errW_some] <;> rfl) | (simp [*, errW_none, errW_some] <;> rfl), by repeat (first | (with_reducible first | exact HB.out | apply below_alloc | apply pw_below_drewN | apply below_drew1 | refine below_set ?_ GE212.out) | exact HB.out)⟩
end Go.Proofs.Ytgbafpjeapkklaa.PMailboxRuns
namespace Go.Proofs.Ytgbafpjeapkklaa.Mb
open Go.RowKit Go.Proofs.YtgbafpjeapkklaaW.PrintWords PMailboxRuns
set_option linter.unusedVariables false
set_option linter.unusedSimpArgs false
def rng (a n : Nat) : List Int := (List.range n).map fun i => ((a + i : Nat) : Int)
theorem rng_snoc (a n : Nat) : rng a n ++ [((a + n : Nat) : Int)] = rng a (n + 1) := by simp [rng, List.range_succ]
theorem rng_add (a n : Nat) : rng 0 a ++ rng a n = rng 0 (a + n) := by
  simp [rng, List.range_add]
theorem rng_len (a n : Nat) : (rng a n).length = n := by simp [rng]
theorem rng_rd (a n k : Nat) (h : k < n) : rd (rng a n) (k : Int) = ((a + k : Nat) : Int) := by
  simp [rd, rng, h]
theorem hang {q : Q} (hq : WF q) {a e : Nat} (h : Fin q a e) : ∃ f : Option Nat, (∀ (k : Nat) (o : Int × Nat), q.opn[k]? = some o → (o.2 = e + 1 ↔ f = some k)) ∧ ((f = none ∧ e = q.m) ∨ ∃ p o, f = some p ∧ q.opn[p]? = some o ∧ o.2 = e + 1 ∧ e < q.m ∧ q.isOpen (e + 1) = true) := by
  by_cases ho : q.isOpen (e + 1) = true
  · obtain ⟨p, o, hp, hoe⟩ := open_mem ho
    have hm := (hq.opn o (List.mem_of_getElem? hp)).2.1
    refine ⟨some p, fun k o' hk => ⟨fun h2 => ?_, fun h2 => ?_⟩, .inr ⟨p, o, rfl, hp, hoe, by omega, ho⟩⟩
    · rw [open_uniq hq hk hp (by omega)]
    · injection h2 with h2
      subst h2
      rw [hp] at hk
      injection hk with hk
      rw [← hk]; exact hoe
  · have hem : e = q.m := by
      rcases h.2.2.1 with h1 | h1
      · exact h1
      · exact absurd h1 ho
    refine ⟨none, fun k o hk => ⟨fun h2 => ?_, fun h2 => by cases h2⟩, .inl ⟨rfl, hem⟩⟩
    have := (hq.opn o (List.mem_of_getElem? hk)).2.1
    omega
def n105 (x : Int × Int × Int) : S105 := ⟨x.1, x.2.1, x.2.2⟩
def n122 (x : Int × Int × Int) : S122 := ⟨x.1, x.2.1, x.2.2⟩
def L105 (l : List (Int × Int × Int)) : List S105 := l.map n105
def L122 (l : List (Int × Int × Int)) : List S122 := l.map n122
theorem L105_len (q : Q) : (L105 q.nodes).length = q.m + 1 := by simp [L105, nodes_len]
theorem L122_len (q : Q) : (L122 q.pushes).length = q.opn.length := by simp [L122, pushes_len]
theorem rdN {q : Q} {k : Nat} (h : k ≤ q.m) : rd_T105 (L105 q.nodes) (k : Int) = n105 (q.node k) := by
  simp [rd_T105, L105, List.getD_eq_getElem?_getD, nodes_get h]
theorem rdP {q : Q} {k : Nat} {o : Int × Nat} (h : q.opn[k]? = some o) : rd_T122 (L122 q.pushes) (k : Int) = ⟨o.1, (o.2 : Int) - 1, (o.2 : Int)⟩ := by
  simp [rd_T122, L122, List.getD_eq_getElem?_getD, pushes_get h, n122]
section
variable {q : Q} {x1 x2 : Int} {x4 : Bool}
theorem chain_go (hq : WF q) {a e : Nat} (h : Fin q a e) (l3 : List S122) : ∀ d n, n + d = e + 1 - a →
    Ev (fun k => hackamoreref28_chain.l0 k (if n < e + 1 - a then ((a + n : Nat) : Int) else -1) (rng a n) (L105 q.nodes) x1 x2 l3 x4) (rng a (e + 1 - a)) := by
  obtain ⟨h1, h2, hend, hlink⟩ := h
  intro d
  induction d with
  | zero =>
    intro n hn
    obtain rfl : n = e + 1 - a := by omega
    rw [if_neg (by omega)]
    refine Ev.step (f := fun _ => some (rng a (e + 1 - a))) (fun k => ?_) (Ev.now _)
    simp only [hackamoreref28_chain.l0]
    rw [if_pos trivial]
  | succ d ih =>
    intro n hn
    have hx : (q.node (a + n)).2.2 = if n + 1 < e + 1 - a then ((a + (n + 1) : Nat) : Int) else -1 := by
      have hx : (q.node (a + n)).2.2 = q.nxt (a + n) := by unfold Q.node; split <;> simp_all
      rw [hx]
      unfold Q.nxt
      by_cases hke : a + n < e
      · rw [if_pos ⟨by omega, hlink _ (by omega) hke⟩, if_pos (by omega)]; omega
      · obtain rfl : e = a + n := by omega
        rw [if_neg (by omega : ¬ n + 1 < a + n + 1 - a)]
        rcases hend with h | h
        · rw [if_neg (by omega)]
        · rw [h]; simp
    refine Ev.step (fun k => ?_) (ih (n + 1) (by omega))
    rw [if_pos (show n < e + 1 - a by omega)]
    simp only [hackamoreref28_chain.l0]
    rw [if_neg (by omega), if_neg (by omega), L105_len, rng_len, if_neg (by omega), if_neg (by omega), if_pos (by have := hq.few; omega), if_pos (by omega), if_pos (by omega), rdN (by omega), rng_snoc]
    show hackamoreref28_chain.l0 k (q.node (a + n)).2.2 _ _ _ _ _ _ = _
    rw [hx]
theorem chain_ev (hq : WF q) {a e : Nat} (h : Fin q a e) (l3 : List S122) :
    Ev (fun k => hackamoreref28_chain.f k (L105 q.nodes) x1 x2 l3 x4 (a : Int)) (rng a (e + 1 - a)) := by
  have := chain_go (x1 := x1) (x2 := x2) (x4 := x4) hq h l3 (e + 1 - a) 0 (by omega)
  rw [if_pos (by have := h.1; omega)] at this
  exact this
theorem distinct_go (n : Nat) (hn : n < 5000) : ∀ d i, i + d = n → Ev (fun k => hackamoreref28_distinct.l0 k (rng 0 n) (i : Int)) (rng 0 n) := by
  intro d
  induction d with
  | zero =>
    intro i hi
    refine Ev.step (f := fun _ => some (rng 0 n)) (fun k => ?_) (Ev.now _)
    simp only [hackamoreref28_distinct.l0]
    rw [rng_len, if_neg (by omega)]
  | succ d ih =>
    intro i hi
    refine Ev.step (f := fun k => hackamoreref28_distinct.l1 k (rng 0 n) (i : Int) 0) (fun k => ?_) ?_
    · simp only [hackamoreref28_distinct.l0]
      rw [rng_len, if_pos (by omega)]
    have inner : ∀ d2 j, j + d2 = i → Ev (fun k => hackamoreref28_distinct.l1 k (rng 0 n) (i : Int) (j : Int)) (rng 0 n) := by
      intro d2
      induction d2 with
      | zero =>
        intro j hj
        refine Ev.step (fun k => ?_) (ih (i + 1) (by omega))
        simp only [hackamoreref28_distinct.l1]
        rw [if_neg (by omega), wrap_small (by omega) (by omega)]
        rfl
      | succ d2 ih2 =>
        intro j hj
        refine Ev.step (fun k => ?_) (ih2 (j + 1) (by omega))
        simp only [hackamoreref28_distinct.l1]
        rw [if_pos (by omega), rng_len, if_pos (by omega), if_pos (by omega), if_pos (by omega), if_pos (by omega), rng_rd _ _ _ (by omega), rng_rd _ _ _ (by omega), if_neg (by omega), wrap_small (by omega) (by omega)]
        rfl
    exact inner i 0 (by omega)
theorem distinct_ev (n : Nat) (hn : n < 5000) : Ev (fun k => hackamoreref28_distinct.f k (rng 0 n)) (rng 0 n) := distinct_go n hn n 0 (by omega)
def fo (f : Option Nat) (k : Nat) : Int := match f with
  | some p => if p < k then (p : Int) else -1
  | none => -1
theorem fo_succ {f : Option Nat} {k : Nat} (h : f ≠ some k) : fo f (k + 1) = fo f k := by
  cases f with
  | none => rfl
  | some p =>
    have hp : p ≠ k := fun e => h (by rw [e])
    simp only [fo]
    by_cases h2 : p < k
    · rw [if_pos h2, if_pos (by omega)]
    · rw [if_neg h2, if_neg (by omega)]
theorem fo_neg {f : Option Nat} {k : Nat} (h : f = some k) : fo f k = -1 := by
  subst h; simp [fo]
theorem order_go (hq : WF q) : ∀ d a U, a + d = q.m → (∀ e, Fin q a e → cnt q e = U) →
    Ev (fun k => hackamoreref28_Order.l0 k (rng 0 a) (U : Int) (a : Int) (L105 q.nodes) q.m x2 (L122 q.pushes) x4) (rng 0 (q.m + 1)) := by
  intro d
  induction d using Nat.strongRecOn with
  | _ d ihd =>
  intro a U had hU
  have hf := hq.few
  have hfo := hq.fewo
  obtain ⟨e, hfin⟩ := Fin.ex (q := q) (a := a) (by omega)
  have hcu := hU e hfin
  have hae := hfin.1
  have hem := hfin.2.1
  obtain ⟨f, hf1, hf2⟩ := hang hq hfin
  refine Ev.step (f := fun k => (hackamoreref28_chain.f k (L105 q.nodes) q.m x2 (L122 q.pushes) x4 (a : Int)).bind fun t200 => (if (t200.length : Int) = 0 then (some ([] : List Int)) else (if (rng 0 a).length + t200.length < 17592186044416 then ((some (rng 0 a ++ t200 : List Int)).bind fun y203 => (if (y203.length : Int) > ((L105 q.nodes).length : Int) then (some ([] : List Int)) else (if 0 ≤ (wrap64 ((t200.length : Int) - 1)) then (if (wrap64 ((t200.length : Int) - 1)) < (t200.length : Int) then (hackamoreref28_Order.l1 k y203 (U : Int) (rd t200 (wrap64 ((t200.length : Int) - 1))) (-1) 0 (L105 q.nodes) q.m x2 (L122 q.pushes) x4) else (none)) else (none)))) else (none)))) (fun k => ?_) ?_
  · simp only [hackamoreref28_Order.l0]
  refine Ev.bind (chain_ev hq hfin _) ?_
  have e1 : wrap64 (((rng a (e + 1 - a)).length : Int) - 1) = ((e - a : Nat) : Int) := by
    rw [rng_len, wrap_small (by omega) (by omega)]; omega
  have e2 : rng 0 a ++ rng a (e + 1 - a) = rng 0 (e + 1) := by rw [rng_add]; congr 1; omega
  have e3 : rd (rng a (e + 1 - a)) ((e - a : Nat) : Int) = (e : Int) := by rw [rng_rd _ _ _ (by omega)]; omega
  have inner : ∀ d2 i, i + d2 = q.opn.length → Ev (fun k => hackamoreref28_Order.l1 k (rng 0 (e + 1)) (U : Int) (e : Int) (fo f i) (i : Int) (L105 q.nodes) q.m x2 (L122 q.pushes) x4) (rng 0 (q.m + 1)) := by
    intro d2
    induction d2 with
    | zero =>
      intro i hi
      rcases hf2 with ⟨rfl, rfl⟩ | ⟨p, o, rfl, hp, hoe, hlt, hop⟩
      · have hall := cnt_all hq
        refine Ev.step (f := fun k => hackamoreref28_Order.j2 k (rng 0 (q.m + 1)) false) (fun k => ?_) ?_
        · simp only [hackamoreref28_Order.l1]
          rw [L122_len, if_neg (by omega), if_pos (by simp [fo]), if_pos trivial, if_pos (by omega), rng_len, L105_len]
          simp
        · refine Ev.step (f := fun k => (hackamoreref28_distinct.f k (rng 0 (q.m + 1))).bind fun t208 => (some t208)) (fun k => ?_) (Ev.bind (distinct_ev (q.m + 1) (by omega)) (Ev.now _))
          simp only [hackamoreref28_Order.j2]
          rw [if_neg (by simp)]
      · have hpl : p < q.opn.length := (List.getElem?_eq_some_iff.1 hp).1
        have hnx : ∀ e', Fin q (e + 1) e' → cnt q e' = cnt q e + 1 := fun e' h => cnt_next hq hop h
        refine Ev.step (fun k => ?_) (ihd (q.m - (e + 1)) (by omega) (e + 1) (U + 1) (by omega) (fun e' he' => by rw [hnx e' he', hcu]))
        simp only [hackamoreref28_Order.l1]
        rw [L122_len, if_neg (by omega)]
        have ef : fo (some p) i = (p : Int) := by simp [fo]; omega
        rw [ef, if_neg (by omega), if_neg (by omega), if_pos (by omega), if_pos (by omega), rdP hp, wrap_small (by have := cnt_le q e; omega) (by have := cnt_le q e; omega)]
        show hackamoreref28_Order.l0 k (rng 0 (e + 1)) ((U : Int) + 1) (o.2 : Int) _ _ _ _ _ = _
        rw [hoe]
        rfl
    | succ d2 ih2 =>
      intro i hi
      have hil : i < q.opn.length := by omega
      obtain ⟨o, ho⟩ : ∃ o, q.opn[i]? = some o := ⟨q.opn[i], by simp [hil]⟩
      have hiff := hf1 i o ho
      refine Ev.step (fun k => ?_) (ih2 (i + 1) (by omega))
      simp only [hackamoreref28_Order.l1]
      rw [L122_len, if_pos (by omega), if_pos (by omega), rdP ho, wrap_small (by omega) (by omega)]
      by_cases hoe : o.2 = e + 1
      · have hfi := hiff.1 hoe
        rw [if_pos (show (o.2 : Int) - 1 = (e : Int) by omega), if_neg (by rw [fo_neg hfi]; omega)]
        have ef : fo f (i + 1) = (i : Int) := by rw [hfi]; simp [fo]
        rw [ef]
        rfl
      · rw [if_neg (show ¬ (o.2 : Int) - 1 = (e : Int) by omega), fo_succ (fun h => hoe (hiff.2 h))]
        rfl
  have base := inner q.opn.length 0 (by omega)
  have ef0 : fo f 0 = -1 := by cases f <;> simp [fo]
  rw [ef0] at base
  refine Ev.congr (fun k => ?_) base
  rw [e1, e2, e3, rng_len, rng_len, if_neg (by omega), if_pos (by omega)]
  simp only [Option.bind_some]
  rw [rng_len, L105_len, if_neg (by omega), if_pos (by omega), if_pos (by omega)]
  rfl
theorem order_ev (hq : WF q) : Ev (fun k => hackamoreref28_Order.f k (L105 q.nodes) q.m x2 (L122 q.pushes) x4) (rng 0 (q.m + 1)) :=
  order_go hq q.m 0 0 (by omega) (fun e h => cnt_first hq h)
end
end Go.Proofs.Ytgbafpjeapkklaa.Mb
