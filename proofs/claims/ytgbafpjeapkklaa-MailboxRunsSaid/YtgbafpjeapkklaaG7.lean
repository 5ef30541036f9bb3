/- Parts Ri of the proof. -/
import Derived.Test.YtgbafpjeapkklaaG3
import Derived.Test.YtgbafpjeapkklaaG5
namespace Go.Proofs.Ytgbafpjeapkklaa.PMailboxRuns
open Go.RowKit Go.Proofs.YtgbafpjeapkklaaW.PrintWords Go.Proofs.YtgbafpjeapkklaaW.PrintLast Go.Proofs.YtgbafpjeapkklaaW.PrintMore
attribute [local go_sem] max2_int min2_int max_two min_two max_three min_three max_four min_four
set_option linter.unusedVariables false
set_option linter.unusedSimpArgs false
def hackamoreref28_Finish.l0 : Nat → Int → Int → List (S105) → Int → Int → List (S122) → Bool → Option ((List (S105)) × Int × Int × (List (S122)) × Bool × Int)
 | 0, _, _, _, _, _, _, _ => none
 | k + 1, x1, x7, x271000, x271001, x271002, x271003, x271004 => if x7 < (x271003.length : Int) then (if 0 ≤ x7 then (if ((rd_T122 x271003 x7).f0) = x1 then ((some (([] : List (S105)) : List (S105))).bind fun y275 => (if y275.length + x271000.length < 5864062014805 then ((some (y275 ++ x271000 : List (S105))).bind fun y278 => (if 0 ≤ ((rd_T122 x271003 x7).f1) then (if ((rd_T122 x271003 x7).f1) < (y278.length : Int) then ((some (([] : List (S122)) : List (S122))).bind fun y282 => (if x7 ≤ (x271003.length : Int) then ((some (x271003.take (x7 : Int).toNat : List (S122))).bind fun y285 => (if y282.length + y285.length < 5864062014805 then ((some (y282 ++ y285 : List (S122))).bind fun y290 => (if 0 ≤ (wrap64 (x7 + 1)) then (if (wrap64 (x7 + 1)) ≤ (x271003.length : Int) then ((some (x271003.drop ((wrap64 (x7 + 1)) : Int).toNat : List (S122))).bind fun y293 => (if y290.length + y293.length < 5864062014805 then (some ((y278.set (((rd_T122 x271003 x7).f1) : Int).toNat (⟨(rd_T105 y278 ((rd_T122 x271003 x7).f1)).f0, (rd_T105 y278 ((rd_T122 x271003 x7).f1)).f1, (rd_T122 x271003 x7).f2⟩ : S105)), x271001, x271002, (y290 ++ y293), x271004, 0)) else (none))) else (none)) else (none))) else (none))) else (none))) else (none)) else (none))) else (none))) else (hackamoreref28_Finish.l0 k x1 (wrap64 (x7 + 1)) x271000 x271001 x271002 x271003 x271004)) else (none)) else (some (([] : List (S105)), 0, 0, ([] : List (S122)), false, 301))
def hackamoreref28_Finish.f (k : Nat) (l0_0 : List (S105)) (a0_1 : Int) (a0_2 : Int) (l0_3 : List (S122)) (a0_4 : Bool) (a1 : Int) : Option ((List (S105)) × Int × Int × (List (S122)) × Bool × Int) := (hackamoreref28_Check.f k l0_0 a0_1 a0_2 l0_3 a0_4).bind fun t272 => (if t272 = 0 then (hackamoreref28_Finish.l0 k a1 0 l0_0 a0_1 a0_2 l0_3 a0_4) else (some (([] : List (S105)), 0, 0, ([] : List (S122)), false, t272)))
def hackamoreref28_Finish.T11 : Bool × List (List Nat × List Nat) := (true, [([], []), ([], []), ([1], [1]), ([], []), ([2, 3], [2, 3]), ([0, 4], [0, 4]), ([], []), ([6], [6]), ([], []), ([8], [8]), ([7, 9], [7, 9]), ([5, 10, 5], [5, 10]), ([0, 1, 2, 3, 4, 5, 6, 7, 8, 9, 10, 11], []), ([12, 11, 11, 0, 1, 2, 3, 4, 5, 6, 7, 8, 9, 10, 11], [11, 12])])
def hackamoreref28_Finish.B11 : List Nat := [0, 0, 2, 0, 14, 31, 0, 64, 0, 256, 960, 2047, 4095, 8191]
theorem hackamoreref28_Finish.tab11 : rtab .any (opsOf Try.f48 11) = hackamoreref28_Finish.T11 := by kernel_rfl
theorem hackamoreref28_Finish.bits11 : waitsOk hackamoreref28_Finish.T11.2 hackamoreref28_Finish.B11 = true := by kernel_rfl
set_option maxHeartbeats 8000000 in
set_option maxRecDepth 100000 in
theorem hackamoreref28_Finish.calls (k : Nat) (P0_0_ : Nat → Prop) (A0_0 : Option Addr) (c0_0 : Nat) (l0_0 : List (S105)) (a0_1 : Int) (a0_2 : Int) (P0_3_ : Nat → Prop) (A0_3 : Option Addr) (c0_3 : Nat) (l0_3 : List (S122)) (a0_4 : Bool) (a1 : Int) (r1 : List (S105)) (r2 : Int) (r3 : Int) (r4 : List (S122)) (r5 : Bool) (r6 : Int) (w : World) (hs0_0 : Kd.V k105 105 w w.heap.size (fun k_ => P0_0_ k_) (.slice A0_0 l0_0.length c0_0) l0_0) (hs0_3 : Kd.V k122 122 w w.heap.size (fun k_ => P0_3_ k_) (.slice A0_3 l0_3.length c0_3) l0_3) (h : hackamoreref28_Finish.f k l0_0 a0_1 a0_2 l0_3 a0_4 a1 = some (r1, r2, r3, r4, r5, r6)) :
  Calls Try.prog 48 #[.agg #[.slice A0_0 l0_0.length c0_0, .int .i64 a0_1, .int .i64 a0_2, .slice A0_3 l0_3.length c0_3, .bool a0_4], .int .i64 a1] w fun e w' => ∃ v0_ v3_ : Value, e = .returned (.tuple #[.agg #[v0_, .int .i64 r2, .int .i64 r3, v3_, .bool r5], .int .i64 r6]) ∧ Kd.R k105 105 w' w.heap.size (fun k_ => (w.heap.size ≤ k_)) v0_ r1 ∧ Kd.R k122 122 w' w.heap.size (fun k_ => (w.heap.size ≤ k_)) v3_ r4 ∧ Below w.heap.size w w' := by
 have hu46 := Try.underlying46
 have hu122 := Try.underlying122
 have HO0_0 := Aside0.mk (show Kd.V k105 105 w w.heap.size (fun k_ => ((P0_0_ k_ ∨ P0_3_ k_) ∨ w.heap.size ≤ k_)) (.slice A0_0 l0_0.length c0_0) l0_0 from Kd.V_mono hs0_0 (fun k_ hk => .inl (.inl hk)))
 have HO0_3 := Aside0.mk (show Kd.V k122 122 w w.heap.size (fun k_ => ((P0_0_ k_ ∨ P0_3_ k_) ∨ w.heap.size ≤ k_)) (.slice A0_3 l0_3.length c0_3) l0_3 from Kd.V_mono hs0_3 (fun k_ hk => .inl (.inr hk)))
 have HB := Aside0.mk (Below.refl w.heap.size w)
 have H : ((hackamoreref28_Check.f k l0_0 a0_1 a0_2 l0_3 a0_4).bind fun t272 => (if t272 = 0 then (hackamoreref28_Finish.l0 k a1 0 l0_0 a0_1 a0_2 l0_3 a0_4) else (some (([] : List (S105)), 0, 0, ([] : List (S122)), false, t272)))) = some (r1, r2, r3, r4, r5, r6) := h
 clear h
 replace H := Option.bind_eq_some_iff.mp H
 obtain ⟨t272, A30, H⟩ := H
 replace H : (if t272 = 0 then (hackamoreref28_Finish.l0 k a1 0 l0_0 a0_1 a0_2 l0_3 a0_4) else (some (([] : List (S105)), 0, 0, ([] : List (S122)), false, t272))) = some (r1, r2, r3, r4, r5, r6) := H
 have A3 := Aside0.mk A30
 clear A30
 by_cases c4 : t272 = 0
 ·rw [if_pos c4] at H
  have c4b0 : (t272 == 0) = true := beq_iff_eq.mpr c4
  have c4b1 : (t272 != 0) = false := bne_eq_false_iff_eq.mpr c4
  clear c4
  have H' := Aside0.mk H
  clear H
  go_enter Try.func48, Try.ntmps48
  go_wp2_with (first | ((with_reducible refine gate_dst (N := 2) rfl ?_); refine box_event ?hg (N := 2) ?hd (cs := #[.slice A0_0 l0_0.length c0_0, .int .i64 a0_1, .int .i64 a0_2, .slice A0_3 l0_3.length c0_3, .bool a0_4]) (t := 46) ?hr ?_; (case hd => rfl); (case hg => rfl); (case hr => first | (go_simp; done) | (go_simp; rfl)); intro gb270 hg w5 hbox hb; have n0_ := Aside0.mk (Kd.V_below (Kd.V_elderB (by (with_reducible repeat (first | apply Kd.V_alloc | apply Kd.V_drewN | apply Kd.V_drew)); exact HO0_0.out) gb270 (Nat.le_of_eq hg.symm)) hb); have n1_ := Aside0.mk (Kd.V_below (Kd.V_elderB (by (with_reducible repeat (first | apply Kd.V_alloc | apply Kd.V_drewN | apply Kd.V_drew)); exact HO0_3.out) gb270 (Nat.le_of_eq hg.symm)) hb); have n2_ := Aside0.mk (below_step (by repeat (first | (with_reducible first | exact HB.out | apply below_alloc | apply pw_below_drewN | apply below_drew1) | exact HB.out)) hb); have n3_ := Aside0.mk (hbox); have n4_ := Aside0.mk ((by rw [hg]; exact (below_size (by repeat (first | (with_reducible first | exact HB.out | apply below_alloc | apply pw_below_drewN | apply below_drew1) | exact HB.out))) : w.heap.size ≤ gb270)); have n5_ := Aside0.mk ((by rw [hg]; exact (below_size (by repeat (first | (with_reducible first | exact HB.out | apply below_alloc | apply pw_below_drewN | apply below_drew1) | exact HB.out))) : w.heap.size ≤ gb270)); clear HO0_0; clear HO0_3; clear HB; have HO0_0 := n0_; have HO0_3 := n1_; have HB := n2_; have BK270 := n3_; have GW270 := n4_; have GE270 := n5_; clear n0_ n1_ n2_ n3_ n4_ n5_; clear hb hbox hg) | ((with_reducible refine gate_dst (N := 4) rfl ?_); refine box_event ?hg (N := 4) ?hd (cs := #[.slice none 0 0, .int .i64 0, .int .i64 0, .slice none 0 0, .bool false]) (t := 46) ?hr ?_; (case hd => rfl); (case hg => rfl); (case hr => first | (go_simp; done) | (go_simp; rfl)); intro gb271 hg w6 hbox hb; have n0_ := Aside0.mk (Kd.V_below (Kd.V_elderB (by (with_reducible repeat (first | apply Kd.V_alloc | apply Kd.V_drewN | apply Kd.V_drew)); exact HO0_0.out) gb271 (Nat.le_of_eq hg.symm)) hb); have n1_ := Aside0.mk (Kd.V_below (Kd.V_elderB (by (with_reducible repeat (first | apply Kd.V_alloc | apply Kd.V_drewN | apply Kd.V_drew)); exact HO0_3.out) gb271 (Nat.le_of_eq hg.symm)) hb); have n2_ := Aside0.mk (blk_below (g := gb270) (o := .cells #[.slice A0_0 l0_0.length c0_0, .int .i64 a0_1, .int .i64 a0_2, .slice A0_3 l0_3.length c0_3, .bool a0_4] 46 (0, 0)) (by (with_reducible repeat (first | refine blk_drewN ?_ _ | refine blk_drew ?_ | refine blk_alloc ?_ _)); exact BK270.out) hb); have n3_ := Aside0.mk (below_step (by repeat (first | (with_reducible first | exact HB.out | apply below_alloc | apply pw_below_drewN | apply below_drew1 | refine below_set ?_ GE270.out) | exact HB.out)) hb); have n4_ := Aside0.mk (hbox); have n5_ := Aside0.mk ((by rw [hg]; exact (below_size (by repeat (first | (with_reducible first | exact HB.out | apply below_alloc | apply pw_below_drewN | apply below_drew1 | refine below_set ?_ GE270.out) | exact HB.out))) : w.heap.size ≤ gb271)); have n6_ := Aside0.mk ((by rw [hg]; exact (below_size (by repeat (first | (with_reducible first | exact HB.out | apply below_alloc | apply pw_below_drewN | apply below_drew1 | refine below_set ?_ GE270.out) | exact HB.out))) : w.heap.size ≤ gb271)); have n7_ := Aside0.mk ((by rw [hg]; exact Nat.ne_of_lt (blk_lt (g := gb270) (o := .cells #[.slice A0_0 l0_0.length c0_0, .int .i64 a0_1, .int .i64 a0_2, .slice A0_3 l0_3.length c0_3, .bool a0_4] 46 (0, 0)) (by (with_reducible repeat (first | refine blk_drewN ?_ _ | refine blk_drew ?_ | refine blk_alloc ?_ _)); exact BK270.out)) : gb270 ≠ gb271)); have n8_ := Aside0.mk ((by rw [hg]; exact Nat.ne_of_gt (blk_lt (g := gb270) (o := .cells #[.slice A0_0 l0_0.length c0_0, .int .i64 a0_1, .int .i64 a0_2, .slice A0_3 l0_3.length c0_3, .bool a0_4] 46 (0, 0)) (by (with_reducible repeat (first | refine blk_drewN ?_ _ | refine blk_drew ?_ | refine blk_alloc ?_ _)); exact BK270.out)) : gb271 ≠ gb270)); clear HO0_0; clear HO0_3; clear BK270; clear HB; have HO0_0 := n0_; have HO0_3 := n1_; have BK270 := n2_; have HB := n3_; have BK271 := n4_; have GW271 := n5_; have GE271 := n6_; have NB270_271 := n7_; have NB271_270 := n8_; clear n0_ n1_ n2_ n3_ n4_ n5_ n6_ n7_ n8_; clear hb hbox hg; have hnb7 := NB270_271.out; have hnc7 := NB271_270.out; have hcz8_0 : w6.cell? ⟨gb270, 0, none⟩ = some (.slice A0_0 l0_0.length c0_0) := (blk_cell BK270.out 0).trans rfl; have hcz8_1 : w6.cell? ⟨gb270, 1, none⟩ = some (.int .i64 a0_1) := (blk_cell BK270.out 1).trans rfl; have hcz8_2 : w6.cell? ⟨gb270, 2, none⟩ = some (.int .i64 a0_2) := (blk_cell BK270.out 2).trans rfl; have hcz8_3 : w6.cell? ⟨gb270, 3, none⟩ = some (.slice A0_3 l0_3.length c0_3) := (blk_cell BK270.out 3).trans rfl; have hcz8_4 : w6.cell? ⟨gb270, 4, none⟩ = some (.bool a0_4) := (blk_cell BK270.out 4).trans rfl; have hfz8_0 := blk_frozen BK270.out 0; have hfz8_1 := blk_frozen BK270.out 1; have hfz8_2 := blk_frozen BK270.out 2; have hfz8_3 := blk_frozen BK270.out 3; have hfz8_4 := blk_frozen BK270.out 4) | ((with_reducible refine gate_callee (f := 20) rfl ?_); refine goesL_ (some 10) rfl rfl Try.func20 (by kernel_rfl) rfl #[.agg #[.slice A0_0 l0_0.length c0_0, .int .i64 a0_1, .int .i64 a0_2, .slice A0_3 l0_3.length c0_3, .bool a0_4]] rfl (by (try simp only [List.map_toArray, List.map_cons, List.map_nil]); first | done | rfl | (simp only [List.length_drop, List.length_take]; rfl)) ?_; (with_reducible refine (hackamoreref28_Check.calls k _ _ l0_0 a0_1 a0_2 _ _ l0_3 a0_4 t272 _ ?side1 ?side2 ?side3 ?side4 A3.out).mono ?_); (case side1 => repeat (first | exact (Kd.V_reads' HO0_0.out).2.2 | (with_reducible refine Kd.C_alloc ?_ _) | (with_reducible refine Kd.C_drewN ?_ _) | (with_reducible refine Kd.C_drew ?_))); (case side2 => exact (Kd.V_reads' HO0_0.out).2.1); (case side3 => repeat (first | exact (Kd.V_reads' HO0_3.out).2.2 | (with_reducible refine Kd.C_alloc ?_ _) | (with_reducible refine Kd.C_drewN ?_ _) | (with_reducible refine Kd.C_drew ?_))); (case side4 => exact (Kd.V_reads' HO0_3.out).2.1); rintro e w9 ⟨rfl, hb⟩; refine ⟨_, rfl, ?_⟩; have n0_ := Aside0.mk (Kd.V_below (by (with_reducible repeat (first | apply Kd.V_alloc | apply Kd.V_drewN | apply Kd.V_drew)); exact HO0_0.out) hb); have n1_ := Aside0.mk (Kd.V_below (by (with_reducible repeat (first | apply Kd.V_alloc | apply Kd.V_drewN | apply Kd.V_drew)); exact HO0_3.out) hb); have n2_ := Aside0.mk (blk_below (g := gb270) (o := .cells #[.slice A0_0 l0_0.length c0_0, .int .i64 a0_1, .int .i64 a0_2, .slice A0_3 l0_3.length c0_3, .bool a0_4] 46 (0, 0)) (by (with_reducible repeat (first | refine blk_drewN ?_ _ | refine blk_drew ?_ | refine blk_alloc ?_ _)); exact BK270.out) hb); have n3_ := Aside0.mk (blk_below (g := gb271) (o := .cells #[.slice none 0 0, .int .i64 0, .int .i64 0, .slice none 0 0, .bool false] 46 (0, 0)) (by (with_reducible repeat (first | refine blk_drewN ?_ _ | refine blk_drew ?_ | refine blk_alloc ?_ _)); exact BK271.out) hb); have n4_ := Aside0.mk (below_step (by repeat (first | (with_reducible first | exact HB.out | apply below_alloc | apply pw_below_drewN | apply below_drew1 | refine below_set ?_ GE270.out | refine below_set ?_ GE271.out) | exact HB.out)) hb); clear HO0_0; clear HO0_3; clear BK270; clear BK271; clear HB; have HO0_0 := n0_; have HO0_3 := n1_; have BK270 := n2_; have BK271 := n3_; have HB := n4_; clear n0_ n1_ n2_ n3_ n4_; (try clear hb); (try clear hb2); (try clear hk); (try clear hi)))
  go_loopg [7] k (fun kq v7 w' => ∃ (x7_1 : Int) (x271000_1 : List (S105)) (x271003_1 : List (S122)) (x272001_1 : Int) (x272002_1 : Int) (x272004_1 : Bool) (u271000 : Value) (u271003 : Value), v7 = .int .i64 x7_1 ∧ Aside0 (hackamoreref28_Finish.l0 kq a1 x7_1 x271000_1 a0_1 a0_2 x271003_1 a0_4 = some (r1, r2, r3, r4, r5, r6)) ∧ Aside0 (kq ≤ k) ∧ Aside0 (Kd.V k105 105 w' w.heap.size (fun k_ => ((P0_0_ k_ ∨ P0_3_ k_) ∨ w.heap.size ≤ k_) ∧ k_ ≠ gb270 ∧ k_ ≠ gb271) u271000 x271000_1) ∧ Aside0 (Kd.V k122 122 w' w.heap.size (fun k_ => ((P0_0_ k_ ∨ P0_3_ k_) ∨ w.heap.size ≤ k_) ∧ k_ ≠ gb270 ∧ k_ ≠ gb271) u271003 x271003_1) ∧ Aside0 (w'.heap[gb270]? = some (.cells #[u271000, .int .i64 a0_1, .int .i64 a0_2, u271003, .bool a0_4] 46 (0, 0))) ∧ Aside0 (w'.heap[gb271]? = some (.cells #[(.slice none 0 0), .int .i64 x272001_1, .int .i64 x272002_1, (.slice none 0 0), .bool x272004_1] 46 (0, 0))) ∧ Aside0 (Below w.heap.size w w'))
  case atStart => exact ⟨(0), (l0_0), (l0_3), (0), (0), (false), (.slice A0_0 l0_0.length c0_0), (.slice A0_3 l0_3.length c0_3), (by first | rfl | (simp; done) | (simp [*]; done)), H', ⟨Nat.le_refl _⟩, ⟨by (with_reducible repeat (first | apply Kd.V_alloc | apply Kd.V_drewN | apply Kd.V_drew)); exact Kd.V_mono HO0_0.out (fun _ hk => ⟨hk.1.1, ⟨hk.1.2, hk.2⟩⟩)⟩, ⟨by (with_reducible repeat (first | apply Kd.V_alloc | apply Kd.V_drewN | apply Kd.V_drew)); exact Kd.V_mono HO0_3.out (fun _ hk => ⟨hk.1.1, ⟨hk.1.2, hk.2⟩⟩)⟩, ⟨by (with_reducible repeat (first | refine blk_drewN ?_ _ | refine blk_drew ?_ | refine blk_alloc ?_ _)); exact BK270.out⟩, ⟨by (with_reducible repeat (first | refine blk_drewN ?_ _ | refine blk_drew ?_ | refine blk_alloc ?_ _)); exact BK271.out⟩, ⟨by repeat (first | (with_reducible first | exact HB.out | apply below_alloc | apply pw_below_drewN | apply below_drew1 | refine below_set ?_ GE270.out | refine below_set ?_ GE271.out) | exact HB.out)⟩⟩
  case round =>
   clear H'
   try clear c2
   try clear p2
   try clear c4
   try clear c4b0
   try clear c4b1
   try clear c7
   try clear hcz8_0
   try clear hcz8_1
   try clear hcz8_2
   try clear hcz8_3
   try clear hcz8_4
   try clear hfz8_0
   try clear hfz8_1
   try clear hfz8_2
   try clear hfz8_3
   try clear hfz8_4
   obtain ⟨x7_1, x271000_1, x271003_1, x272001_1, x272002_1, x272004_1, u271000, u271003, rfl, HA, HK1, HO_271000, HO_271003, BK270, BK271, HB⟩ := hrel
   cases gk with
   | zero => exact absurd HA.out (by simp [hackamoreref28_Finish.l0])
   | succ k1 =>
    have H := HA.out
    clear HA
    simp only [hackamoreref28_Finish.l0] at H
    by_cases c10 : x7_1 < (x271003_1.length : Int)
    ·rw [if_pos c10] at H
     have c10b0 : decide (x7_1 < (x271003_1.length : Int)) = true := decide_eq_true c10
     clear c10
     by_cases c11 : 0 ≤ x7_1
     ·rw [if_pos c11] at H
      have c11b0 : decide (0 ≤ x7_1) = true := decide_eq_true c11
      clear c11
      by_cases c12 : ((rd_T122 x271003_1 x7_1).f0) = a1
      ·rw [if_pos c12] at H
       have c12b0 : (((rd_T122 x271003_1 x7_1).f0) == a1) = true := beq_iff_eq.mpr c12
       have c12b1 : (((rd_T122 x271003_1 x7_1).f0) != a1) = false := bne_eq_false_iff_eq.mpr c12
       clear c12
       obtain ⟨y275, hy275⟩ : ∃ y_ : List (S105), y_ = (([] : List (S105))) := ⟨_, rfl⟩
       replace H : (if y275.length + x271000_1.length < 5864062014805 then ((some (y275 ++ x271000_1 : List (S105))).bind fun y278 => (if 0 ≤ ((rd_T122 x271003_1 x7_1).f1) then (if ((rd_T122 x271003_1 x7_1).f1) < (y278.length : Int) then ((some (([] : List (S122)) : List (S122))).bind fun y282 => (if x7_1 ≤ (x271003_1.length : Int) then ((some (x271003_1.take (x7_1 : Int).toNat : List (S122))).bind fun y285 => (if y282.length + y285.length < 5864062014805 then ((some (y282 ++ y285 : List (S122))).bind fun y290 => (if 0 ≤ (wrap64 (x7_1 + 1)) then (if (wrap64 (x7_1 + 1)) ≤ (x271003_1.length : Int) then ((some (x271003_1.drop ((wrap64 (x7_1 + 1)) : Int).toNat : List (S122))).bind fun y293 => (if y290.length + y293.length < 5864062014805 then (some ((y278.set (((rd_T122 x271003_1 x7_1).f1) : Int).toNat (⟨(rd_T105 y278 ((rd_T122 x271003_1 x7_1).f1)).f0, (rd_T105 y278 ((rd_T122 x271003_1 x7_1).f1)).f1, (rd_T122 x271003_1 x7_1).f2⟩ : S105)), a0_1, a0_2, (y290 ++ y293), a0_4, 0)) else (none))) else (none)) else (none))) else (none))) else (none))) else (none)) else (none))) else (none)) = some (r1, r2, r3, r4, r5, r6) := by first | (rw [hy275]; with_reducible exact H) | (have H2_ := (Option.bind_some _ _).symm.trans H; rw [hy275]; with_reducible exact H2_) | (have H2_ := (Option.bind_some _ _).symm.trans H; with_reducible exact H2_) | with_reducible exact H | (rw [hy275]; exact H) | exact H
       have Ny275 := Aside0.mk hy275
       clear hy275
       by_cases c13 : y275.length + x271000_1.length < 5864062014805
       ·rw [if_pos c13] at H
        have LMc13 := Aside0.mk c13
        clear c13
        obtain ⟨y278, hy278⟩ : ∃ y_ : List (S105), y_ = (y275 ++ x271000_1) := ⟨_, rfl⟩
        replace H : (if 0 ≤ ((rd_T122 x271003_1 x7_1).f1) then (if ((rd_T122 x271003_1 x7_1).f1) < (y278.length : Int) then ((some (([] : List (S122)) : List (S122))).bind fun y282 => (if x7_1 ≤ (x271003_1.length : Int) then ((some (x271003_1.take (x7_1 : Int).toNat : List (S122))).bind fun y285 => (if y282.length + y285.length < 5864062014805 then ((some (y282 ++ y285 : List (S122))).bind fun y290 => (if 0 ≤ (wrap64 (x7_1 + 1)) then (if (wrap64 (x7_1 + 1)) ≤ (x271003_1.length : Int) then ((some (x271003_1.drop ((wrap64 (x7_1 + 1)) : Int).toNat : List (S122))).bind fun y293 => (if y290.length + y293.length < 5864062014805 then (some ((y278.set (((rd_T122 x271003_1 x7_1).f1) : Int).toNat (⟨(rd_T105 y278 ((rd_T122 x271003_1 x7_1).f1)).f0, (rd_T105 y278 ((rd_T122 x271003_1 x7_1).f1)).f1, (rd_T122 x271003_1 x7_1).f2⟩ : S105)), a0_1, a0_2, (y290 ++ y293), a0_4, 0)) else (none))) else (none)) else (none))) else (none))) else (none))) else (none)) else (none)) = some (r1, r2, r3, r4, r5, r6) := by first | (rw [hy278]; with_reducible exact H) | (have H2_ := (Option.bind_some _ _).symm.trans H; rw [hy278]; with_reducible exact H2_) | (have H2_ := (Option.bind_some _ _).symm.trans H; with_reducible exact H2_) | with_reducible exact H | (rw [hy278]; exact H) | exact H
        have Ny278 := Aside0.mk hy278
        clear hy278
        by_cases c14 : 0 ≤ ((rd_T122 x271003_1 x7_1).f1)
        ·rw [if_pos c14] at H
         have c14b0 : decide (0 ≤ ((rd_T122 x271003_1 x7_1).f1)) = true := decide_eq_true c14
         clear c14
         by_cases c15 : ((rd_T122 x271003_1 x7_1).f1) < (y278.length : Int)
         ·rw [if_pos c15] at H
          have c15b0 : decide (((rd_T122 x271003_1 x7_1).f1) < (y278.length : Int)) = true := decide_eq_true c15
          clear c15
          obtain ⟨y281, hy281⟩ : ∃ y_ : List (S105), y_ = (y278.set (((rd_T122 x271003_1 x7_1).f1) : Int).toNat (⟨(rd_T105 y278 ((rd_T122 x271003_1 x7_1).f1)).f0, (rd_T105 y278 ((rd_T122 x271003_1 x7_1).f1)).f1, (rd_T122 x271003_1 x7_1).f2⟩ : S105)) := ⟨_, rfl⟩
          replace H : ((some (([] : List (S122)) : List (S122))).bind fun y282 => (if x7_1 ≤ (x271003_1.length : Int) then ((some (x271003_1.take (x7_1 : Int).toNat : List (S122))).bind fun y285 => (if y282.length + y285.length < 5864062014805 then ((some (y282 ++ y285 : List (S122))).bind fun y290 => (if 0 ≤ (wrap64 (x7_1 + 1)) then (if (wrap64 (x7_1 + 1)) ≤ (x271003_1.length : Int) then ((some (x271003_1.drop ((wrap64 (x7_1 + 1)) : Int).toNat : List (S122))).bind fun y293 => (if y290.length + y293.length < 5864062014805 then (some (y281, a0_1, a0_2, (y290 ++ y293), a0_4, 0)) else (none))) else (none)) else (none))) else (none))) else (none))) = some (r1, r2, r3, r4, r5, r6) := by first | (rw [hy281]; with_reducible exact H) | (have H2_ := (Option.bind_some _ _).symm.trans H; rw [hy281]; with_reducible exact H2_) | (have H2_ := (Option.bind_some _ _).symm.trans H; with_reducible exact H2_) | with_reducible exact H | (rw [hy281]; exact H) | exact H
          have Ny281 := Aside0.mk hy281
          clear hy281
          obtain ⟨y282, hy282⟩ : ∃ y_ : List (S122), y_ = (([] : List (S122))) := ⟨_, rfl⟩
          replace H : (if x7_1 ≤ (x271003_1.length : Int) then ((some (x271003_1.take (x7_1 : Int).toNat : List (S122))).bind fun y285 => (if y282.length + y285.length < 5864062014805 then ((some (y282 ++ y285 : List (S122))).bind fun y290 => (if 0 ≤ (wrap64 (x7_1 + 1)) then (if (wrap64 (x7_1 + 1)) ≤ (x271003_1.length : Int) then ((some (x271003_1.drop ((wrap64 (x7_1 + 1)) : Int).toNat : List (S122))).bind fun y293 => (if y290.length + y293.length < 5864062014805 then (some (y281, a0_1, a0_2, (y290 ++ y293), a0_4, 0)) else (none))) else (none)) else (none))) else (none))) else (none)) = some (r1, r2, r3, r4, r5, r6) := by first | (rw [hy282]; with_reducible exact H) | (have H2_ := (Option.bind_some _ _).symm.trans H; rw [hy282]; with_reducible exact H2_) | (have H2_ := (Option.bind_some _ _).symm.trans H; with_reducible exact H2_) | with_reducible exact H | (rw [hy282]; exact H) | exact H
          have Ny282 := Aside0.mk hy282
          clear hy282
          have c17b0 := eq_true (of_decide_eq_true (by first | (with_reducible assumption) | assumption) : 0 ≤ x7_1)
          by_cases c18 : x7_1 ≤ (x271003_1.length : Int)
          ·rw [if_pos c18] at H
           have c18b0 := eq_true c18
           have c18b1 : decide (x7_1 ≤ (x271003_1.length : Int)) = true := decide_eq_true c18
           clear c18
           obtain ⟨y285, hy285⟩ : ∃ y_ : List (S122), y_ = (x271003_1.take (x7_1 : Int).toNat) := ⟨_, rfl⟩
           replace H : (if y282.length + y285.length < 5864062014805 then ((some (y282 ++ y285 : List (S122))).bind fun y290 => (if 0 ≤ (wrap64 (x7_1 + 1)) then (if (wrap64 (x7_1 + 1)) ≤ (x271003_1.length : Int) then ((some (x271003_1.drop ((wrap64 (x7_1 + 1)) : Int).toNat : List (S122))).bind fun y293 => (if y290.length + y293.length < 5864062014805 then (some (y281, a0_1, a0_2, (y290 ++ y293), a0_4, 0)) else (none))) else (none)) else (none))) else (none)) = some (r1, r2, r3, r4, r5, r6) := by first | (rw [hy285]; with_reducible exact H) | (have H2_ := (Option.bind_some _ _).symm.trans H; rw [hy285]; with_reducible exact H2_) | (have H2_ := (Option.bind_some _ _).symm.trans H; with_reducible exact H2_) | with_reducible exact H | (rw [hy285]; exact H) | exact H
           have Ny285 := Aside0.mk hy285
           clear hy285
           by_cases c19 : y282.length + y285.length < 5864062014805
           ·rw [if_pos c19] at H
            have LMc19 := Aside0.mk c19
            clear c19
            obtain ⟨y290, hy290⟩ : ∃ y_ : List (S122), y_ = (y282 ++ y285) := ⟨_, rfl⟩
            replace H : (if 0 ≤ (wrap64 (x7_1 + 1)) then (if (wrap64 (x7_1 + 1)) ≤ (x271003_1.length : Int) then ((some (x271003_1.drop ((wrap64 (x7_1 + 1)) : Int).toNat : List (S122))).bind fun y293 => (if y290.length + y293.length < 5864062014805 then (some (y281, a0_1, a0_2, (y290 ++ y293), a0_4, 0)) else (none))) else (none)) else (none)) = some (r1, r2, r3, r4, r5, r6) := by first | (rw [hy290]; with_reducible exact H) | (have H2_ := (Option.bind_some _ _).symm.trans H; rw [hy290]; with_reducible exact H2_) | (have H2_ := (Option.bind_some _ _).symm.trans H; with_reducible exact H2_) | with_reducible exact H | (rw [hy290]; exact H) | exact H
            have Ny290 := Aside0.mk hy290
            clear hy290
            obtain ⟨ji20, hji20⟩ : ∃ j_ : Int, (wrap64 (x7_1 + 1)) = j_ := ⟨_, rfl⟩
            replace H : (if 0 ≤ (ji20) then (if (ji20) ≤ (x271003_1.length : Int) then ((some (x271003_1.drop ((ji20) : Int).toNat : List (S122))).bind fun y293 => (if y290.length + y293.length < 5864062014805 then (some (y281, a0_1, a0_2, (y290 ++ y293), a0_4, 0)) else (none))) else (none)) else (none)) = some (r1, r2, r3, r4, r5, r6) := by first | (rw [hji20] at H; exact H) | (simp only [hji20] at H ⊢; exact H)
            have hji20w : (IntKind.i64.wrap (x7_1 + 1)) = ji20 := (i64_w _).trans hji20
            by_cases c21 : 0 ≤ (ji20)
            ·rw [if_pos c21] at H
             have c21b0 := eq_true c21
             have c21b1 : decide (0 ≤ (ji20)) = true := decide_eq_true c21
             clear c21
             by_cases c22 : (ji20) ≤ (x271003_1.length : Int)
             ·rw [if_pos c22] at H
              have c22b0 := eq_true c22
              have c22b1 : decide ((ji20) ≤ (x271003_1.length : Int)) = true := decide_eq_true c22
              clear c22
              obtain ⟨y293, hy293⟩ : ∃ y_ : List (S122), y_ = (x271003_1.drop ((ji20) : Int).toNat) := ⟨_, rfl⟩
              replace H : (if y290.length + y293.length < 5864062014805 then (some (y281, a0_1, a0_2, (y290 ++ y293), a0_4, 0)) else (none)) = some (r1, r2, r3, r4, r5, r6) := by first | (rw [hy293]; with_reducible exact H) | (have H2_ := (Option.bind_some _ _).symm.trans H; rw [hy293]; with_reducible exact H2_) | (have H2_ := (Option.bind_some _ _).symm.trans H; with_reducible exact H2_) | with_reducible exact H | (rw [hy293]; exact H) | exact H
              have Ny293 := Aside0.mk hy293
              clear hy293
              by_cases c23 : y290.length + y293.length < 5864062014805
              ·rw [if_pos c23] at H
               have LMc23 := Aside0.mk c23
               clear c23
               obtain ⟨y298, hy298⟩ : ∃ y_ : List (S122), y_ = (y290 ++ y293) := ⟨_, rfl⟩
               replace H : (some (y281, a0_1, a0_2, y298, a0_4, 0)) = some (r1, r2, r3, r4, r5, r6) := by first | (rw [hy298]; with_reducible exact H) | (have H2_ := (Option.bind_some _ _).symm.trans H; rw [hy298]; with_reducible exact H2_) | (have H2_ := (Option.bind_some _ _).symm.trans H; with_reducible exact H2_) | with_reducible exact H | (rw [hy298]; exact H) | exact H
               have Ny298 := Aside0.mk hy298
               clear hy298
               simp only [Option.some.injEq, Prod.mk.injEq] at H
               obtain ⟨rfl, rfl, rfl, rfl, rfl, rfl⟩ := H
               have hnb24 := NB270_271.out
               have hnc24 := NB271_270.out
               have hcz25_0 : wr.cell? ⟨gb270, 0, none⟩ = some (u271000) := (blk_cell BK270.out 0).trans rfl
               have hcz25_1 : wr.cell? ⟨gb270, 1, none⟩ = some (.int .i64 a0_1) := (blk_cell BK270.out 1).trans rfl
               have hcz25_2 : wr.cell? ⟨gb270, 2, none⟩ = some (.int .i64 a0_2) := (blk_cell BK270.out 2).trans rfl
               have hcz25_3 : wr.cell? ⟨gb270, 3, none⟩ = some (u271003) := (blk_cell BK270.out 3).trans rfl
               have hcz25_4 : wr.cell? ⟨gb270, 4, none⟩ = some (.bool a0_4) := (blk_cell BK270.out 4).trans rfl
               have hfz25_0 := blk_frozen BK270.out 0
               have hfz25_1 := blk_frozen BK270.out 1
               have hfz25_2 := blk_frozen BK270.out 2
               have hfz25_3 := blk_frozen BK270.out 3
               have hfz25_4 := blk_frozen BK270.out 4
               obtain ⟨Ao26, co26, eo26⟩ := Kd.V_slice HO_271003.out
               subst eo26
               have p273 : 0 ≤ (x7_1 : Int) := of_decide_eq_true (by first | (with_reducible assumption) | assumption)
               have q273 : x7_1 < (x271003_1.length : Int) := of_decide_eq_true (by first | (with_reducible assumption) | assumption)
               obtain ⟨ad273, e273, hx273_0, hx273_1, hx273_2⟩ := at_T122 (Kd.V_reads' HO_271003.out).2.2 x7_1 p273 q273
               cases e273
               replace p273 := eq_true p273
               replace q273 := eq_true q273
               try go_wp2_with (first | ((with_reducible refine gate_dst (N := 8) rfl ?_); refine box_event ?hg (N := 8) ?hd (cs := #[.int .i64 0, .int .i64 0, .int .i64 0]) (t := 122) ?hr ?_; (case hd => rfl); (case hg => rfl); (case hr => first | (go_simp; done) | (go_simp; rfl)); intro gb274 hg w27 hbox hb; have n0_ := Aside0.mk (Kd.V_below (Kd.V_elderB (by (with_reducible repeat (first | apply Kd.V_alloc | apply Kd.V_drewN | apply Kd.V_drew)); exact HO_271000.out) gb274 (Nat.le_of_eq hg.symm)) hb); have n1_ := Aside0.mk (Kd.V_below (Kd.V_elderB (by (with_reducible repeat (first | apply Kd.V_alloc | apply Kd.V_drewN | apply Kd.V_drew)); exact HO_271003.out) gb274 (Nat.le_of_eq hg.symm)) hb); have n2_ := Aside0.mk (blk_below (g := gb270) (o := .cells #[u271000, .int .i64 a0_1, .int .i64 a0_2, .slice (some ad273) x271003_1.length co26, .bool a0_4] 46 (0, 0)) (by (with_reducible repeat (first | refine blk_drewN ?_ _ | refine blk_drew ?_ | refine blk_alloc ?_ _)); exact BK270.out) hb); have n3_ := Aside0.mk (blk_below (g := gb271) (o := .cells #[.slice none 0 0, .int .i64 x272001_1, .int .i64 x272002_1, .slice none 0 0, .bool x272004_1] 46 (0, 0)) (by (with_reducible repeat (first | refine blk_drewN ?_ _ | refine blk_drew ?_ | refine blk_alloc ?_ _)); exact BK271.out) hb); have n4_ := Aside0.mk (below_step (by repeat (first | (with_reducible first | exact HB.out | apply below_alloc | apply pw_below_drewN | apply below_drew1 | refine below_set ?_ GE270.out | refine below_set ?_ GE271.out) | exact HB.out)) hb); have n5_ := Aside0.mk (hbox); have n6_ := Aside0.mk ((by rw [hg]; exact (below_size (by repeat (first | (with_reducible first | exact HB.out | apply below_alloc | apply pw_below_drewN | apply below_drew1 | refine below_set ?_ GE270.out | refine below_set ?_ GE271.out) | exact HB.out))) : w.heap.size ≤ gb274)); have n7_ := Aside0.mk ((by rw [hg]; exact (below_size (by repeat (first | (with_reducible first | exact HB.out | apply below_alloc | apply pw_below_drewN | apply below_drew1 | refine below_set ?_ GE270.out | refine below_set ?_ GE271.out) | exact HB.out))) : w.heap.size ≤ gb274)); have n8_ := Aside0.mk ((by rw [hg]; exact Nat.ne_of_lt (blk_lt (g := gb270) (o := .cells #[u271000, .int .i64 a0_1, .int .i64 a0_2, .slice (some ad273) x271003_1.length co26, .bool a0_4] 46 (0, 0)) (by (with_reducible repeat (first | refine blk_drewN ?_ _ | refine blk_drew ?_ | refine blk_alloc ?_ _)); exact BK270.out)) : gb270 ≠ gb274)); have n9_ := Aside0.mk ((by rw [hg]; exact Nat.ne_of_gt (blk_lt (g := gb270) (o := .cells #[u271000, .int .i64 a0_1, .int .i64 a0_2, .slice (some ad273) x271003_1.length co26, .bool a0_4] 46 (0, 0)) (by (with_reducible repeat (first | refine blk_drewN ?_ _ | refine blk_drew ?_ | refine blk_alloc ?_ _)); exact BK270.out)) : gb274 ≠ gb270)); have n10_ := Aside0.mk ((by rw [hg]; exact Nat.ne_of_lt (blk_lt (g := gb271) (o := .cells #[.slice none 0 0, .int .i64 x272001_1, .int .i64 x272002_1, .slice none 0 0, .bool x272004_1] 46 (0, 0)) (by (with_reducible repeat (first | refine blk_drewN ?_ _ | refine blk_drew ?_ | refine blk_alloc ?_ _)); exact BK271.out)) : gb271 ≠ gb274)); have n11_ := Aside0.mk ((by rw [hg]; exact Nat.ne_of_gt (blk_lt (g := gb271) (o := .cells #[.slice none 0 0, .int .i64 x272001_1, .int .i64 x272002_1, .slice none 0 0, .bool x272004_1] 46 (0, 0)) (by (with_reducible repeat (first | refine blk_drewN ?_ _ | refine blk_drew ?_ | refine blk_alloc ?_ _)); exact BK271.out)) : gb274 ≠ gb271)); clear HO_271000; clear HO_271003; clear BK270; clear BK271; clear HB; have HO_271000 := n0_; have HO_271003 := n1_; have BK270 := n2_; have BK271 := n3_; have HB := n4_; have BK274 := n5_; have GW274 := n6_; have GE274 := n7_; have NB270_274 := n8_; have NB274_270 := n9_; have NB271_274 := n10_; have NB274_271 := n11_; clear n0_ n1_ n2_ n3_ n4_ n5_ n6_ n7_ n8_ n9_ n10_ n11_; clear hb hbox hg; have hnb28 := NB274_270.out; have hnc28 := NB270_274.out; have hnb29 := NB274_271.out; have hnc29 := NB271_274.out; have hcz30_0 : w27.cell? ⟨gb274, 0, none⟩ = some (.int .i64 0) := (blk_cell BK274.out 0).trans rfl; have hcz30_1 : w27.cell? ⟨gb274, 1, none⟩ = some (.int .i64 0) := (blk_cell BK274.out 1).trans rfl; have hcz30_2 : w27.cell? ⟨gb274, 2, none⟩ = some (.int .i64 0) := (blk_cell BK274.out 2).trans rfl; have hfz30_0 := blk_frozen BK274.out 0; have hfz30_1 := blk_frozen BK274.out 1; have hfz30_2 := blk_frozen BK274.out 2) | ((with_reducible refine gate_dst (N := 31) rfl ?_); refine Kd.R_lit k105 _ 105 ?hg (N := 31) ?hd (xs := ([] : List (S105))) (inner := []) (ok := fun _ => True) (okp := fun _ => True) ?hr ?hp (fun _ hk => hk) trivial (Below.refl _ _) (Nat.le_refl _) (by simp) ?_; (case hd => rfl); (case hg => rfl); (case hr => first | (go_simp; done) | (go_simp; rfl)); (case hp => exact (Reps.none _ _)); intro v276 w31 ho32 hb hg_ hnew_; clear hg_ hnew_; (first | rw [← Ny275.out] at ho32 | (simp only [Int.reduceToNat] at ho32; rw [← Ny275.out] at ho32)); have n0_ := Aside0.mk (Kd.V_elder' (by (with_reducible repeat (first | apply Kd.V_alloc | apply Kd.V_drewN | apply Kd.V_drew)); exact (Kd.V_mono (Kd.V_far (p := ⟨gb274, 2, none⟩) (Kd.V_far (p := ⟨gb274, 1, none⟩) (Kd.V_far (p := ⟨gb274, 0, none⟩) (Kd.V_mono HO_271000.out (fun k_ hk => (⟨hk, hk.2⟩ : _ ∧ k_ ≠ gb274))) (fun _ hk => hk.2) (.int .i64 ((rd_T122 x271003_1 x7_1).f0))) (fun _ hk => hk.2) (.int .i64 ((rd_T122 x271003_1 x7_1).f1))) (fun _ hk => hk.2) (.int .i64 ((rd_T122 x271003_1 x7_1).f2))) (fun _ h_ => h_.1))) (Kd.R_base ho32) hb); have n1_ := Aside0.mk (Kd.V_elder' (by (with_reducible repeat (first | apply Kd.V_alloc | apply Kd.V_drewN | apply Kd.V_drew)); exact (Kd.V_mono (Kd.V_far (p := ⟨gb274, 2, none⟩) (Kd.V_far (p := ⟨gb274, 1, none⟩) (Kd.V_far (p := ⟨gb274, 0, none⟩) (Kd.V_mono HO_271003.out (fun k_ hk => (⟨hk, hk.2⟩ : _ ∧ k_ ≠ gb274))) (fun _ hk => hk.2) (.int .i64 ((rd_T122 x271003_1 x7_1).f0))) (fun _ hk => hk.2) (.int .i64 ((rd_T122 x271003_1 x7_1).f1))) (fun _ hk => hk.2) (.int .i64 ((rd_T122 x271003_1 x7_1).f2))) (fun _ h_ => h_.1))) (Kd.R_base ho32) hb); have n2_ := Aside0.mk (Kd.R_lower (Kd.R_newM (M := fun k_ => (w.heap.size ≤ k_)) ho32 (below_size (by repeat (first | (with_reducible first | exact HB.out | apply below_alloc | apply pw_below_drewN | apply below_drew1 | refine below_set ?_ GE270.out | refine below_set ?_ GE271.out | refine below_set ?_ GE274.out) | exact HB.out))) (fun k_ h_ => h_)) (below_size (by repeat (first | (with_reducible first | exact HB.out | apply below_alloc | apply pw_below_drewN | apply below_drew1 | refine below_set ?_ GE270.out | refine below_set ?_ GE271.out | refine below_set ?_ GE274.out) | exact HB.out)))); have n3_ := Aside0.mk (blk_below (g := gb270) (o := .cells #[u271000, .int .i64 a0_1, .int .i64 a0_2, .slice (some ad273) x271003_1.length co26, .bool a0_4] 46 (0, 0)) (by (with_reducible repeat (first | refine blk_drewN ?_ _ | refine blk_drew ?_ | refine blk_alloc ?_ _)); refine blk_far ?_ NB270_274.out _; (with_reducible repeat (first | refine blk_drewN ?_ _ | refine blk_drew ?_ | refine blk_alloc ?_ _)); refine blk_far ?_ NB270_274.out _; (with_reducible repeat (first | refine blk_drewN ?_ _ | refine blk_drew ?_ | refine blk_alloc ?_ _)); refine blk_far ?_ NB270_274.out _; (with_reducible repeat (first | refine blk_drewN ?_ _ | refine blk_drew ?_ | refine blk_alloc ?_ _)); exact BK270.out) hb); have n4_ := Aside0.mk (blk_below (g := gb271) (o := .cells #[.slice none 0 0, .int .i64 x272001_1, .int .i64 x272002_1, .slice none 0 0, .bool x272004_1] 46 (0, 0)) (by (with_reducible repeat (first | refine blk_drewN ?_ _ | refine blk_drew ?_ | refine blk_alloc ?_ _)); refine blk_far ?_ NB271_274.out _; (with_reducible repeat (first | refine blk_drewN ?_ _ | refine blk_drew ?_ | refine blk_alloc ?_ _)); refine blk_far ?_ NB271_274.out _; (with_reducible repeat (first | refine blk_drewN ?_ _ | refine blk_drew ?_ | refine blk_alloc ?_ _)); refine blk_far ?_ NB271_274.out _; (with_reducible repeat (first | refine blk_drewN ?_ _ | refine blk_drew ?_ | refine blk_alloc ?_ _)); exact BK271.out) hb); have n5_ := Aside0.mk (blk_below (g := gb274) (o := .cells #[.int .i64 ((rd_T122 x271003_1 x7_1).f0), .int .i64 ((rd_T122 x271003_1 x7_1).f1), .int .i64 ((rd_T122 x271003_1 x7_1).f2)] 122 (0, 0)) (by (with_reducible repeat (first | refine blk_drewN ?_ _ | refine blk_drew ?_ | refine blk_alloc ?_ _)); refine blk_put (cs := #[.int .i64 ((rd_T122 x271003_1 x7_1).f0), .int .i64 ((rd_T122 x271003_1 x7_1).f1), .int .i64 0]) ?_ 2 _ rfl; (with_reducible repeat (first | refine blk_drewN ?_ _ | refine blk_drew ?_ | refine blk_alloc ?_ _)); refine blk_put (cs := #[.int .i64 ((rd_T122 x271003_1 x7_1).f0), .int .i64 0, .int .i64 0]) ?_ 1 _ rfl; (with_reducible repeat (first | refine blk_drewN ?_ _ | refine blk_drew ?_ | refine blk_alloc ?_ _)); refine blk_put (cs := #[.int .i64 0, .int .i64 0, .int .i64 0]) ?_ 0 _ rfl; (with_reducible repeat (first | refine blk_drewN ?_ _ | refine blk_drew ?_ | refine blk_alloc ?_ _)); exact BK274.out) hb); have n6_ := Aside0.mk (below_step (by repeat (first | (with_reducible first | exact HB.out | apply below_alloc | apply pw_below_drewN | apply below_drew1 | refine below_set ?_ GE270.out | refine below_set ?_ GE271.out | refine below_set ?_ GE274.out) | exact HB.out)) hb); clear HO_271000; clear HO_271003; clear BK270; clear BK271; clear BK274; clear HB; have HO_271000 := n0_; have HO_271003 := n1_; have HO277 := n2_; have BK270 := n3_; have BK271 := n4_; have BK274 := n5_; have HB := n6_; clear n0_ n1_ n2_ n3_ n4_ n5_ n6_; clear hb ho32; have hcz33_0 : w31.cell? ⟨gb270, 0, none⟩ = some (u271000) := (blk_cell BK270.out 0).trans rfl; have hcz33_1 : w31.cell? ⟨gb270, 1, none⟩ = some (.int .i64 a0_1) := (blk_cell BK270.out 1).trans rfl; have hcz33_2 : w31.cell? ⟨gb270, 2, none⟩ = some (.int .i64 a0_2) := (blk_cell BK270.out 2).trans rfl; have hcz33_3 : w31.cell? ⟨gb270, 3, none⟩ = some (.slice (some ad273) x271003_1.length co26) := (blk_cell BK270.out 3).trans rfl; have hcz33_4 : w31.cell? ⟨gb270, 4, none⟩ = some (.bool a0_4) := (blk_cell BK270.out 4).trans rfl; have hfz33_0 := blk_frozen BK270.out 0; have hfz33_1 := blk_frozen BK270.out 1; have hfz33_2 := blk_frozen BK270.out 2; have hfz33_3 := blk_frozen BK270.out 3; have hfz33_4 := blk_frozen BK270.out 4; obtain ⟨Ao35, co35, eo35⟩ := Kd.V_slice HO_271000.out; subst eo35) | ((with_reducible refine gate_builtin (b := .append) (xs := #[.tmp 31, .tmp 33]) rfl ?_); at_builtin; refine Kd.R_append_rows k105 (w0 := w) w.heap.size rfl (.tmp 31) (.tmp 33) 43 105 (.agg #[(.int .i64 0), (.int .i64 0), (.int .i64 0)]) 24 rfl Try.underlying43 info105 rfl (by decide) (by omega) v276 y275 x271000_1 _ _ _ (fun k_ => (w.heap.size ≤ k_)) (fun _ => False) rfl rfl ?aO ?aR (fun _ _ h => h) (fun _ h => h.elim) ?aF ?aB ?aS ?aL ?_; (case aR => repeat (first | exact (Kd.V_reads' HO_271000.out).2.2 | (with_reducible refine Kd.C_alloc ?_ _) | (with_reducible refine Kd.C_drewN ?_ _) | (with_reducible refine Kd.C_drew ?_))); (case aB => exact (by repeat (first | (with_reducible first | exact HB.out | apply below_alloc | apply pw_below_drewN | apply below_drew1 | refine below_set ?_ GE270.out | refine below_set ?_ GE271.out | refine below_set ?_ GE274.out) | exact HB.out))); (case aF => exact (fun k_ hk => (Nat.le_trans (below_size (by repeat (first | (with_reducible first | exact HB.out | apply below_alloc | apply pw_below_drewN | apply below_drew1 | refine below_set ?_ GE270.out | refine below_set ?_ GE271.out | refine below_set ?_ GE274.out) | exact HB.out))) hk))); (case aO => exact (by (with_reducible repeat (first | apply Kd.R_alloc | apply Kd.R_drewN | apply Kd.R_drew)); exact Kd.R_mono HO277.out (fun _ hk => hk.1))); (case aS => exact (below_size (by repeat (first | (with_reducible first | exact HB.out | apply below_alloc | apply pw_below_drewN | apply below_drew1 | refine below_set ?_ GE270.out | refine below_set ?_ GE271.out | refine below_set ?_ GE274.out) | exact HB.out)))); (case aL => have := LMc13.out; omega); intro v279 w34 ho hb hg hat; rw [← Ny278.out] at ho; have n0_ := Aside0.mk (Kd.V_afterv (ok := (fun k_ => ((P0_0_ k_ ∨ P0_3_ k_) ∨ w.heap.size ≤ k_) ∧ k_ ≠ gb270 ∧ k_ ≠ gb271 ∧ k_ ≠ gb274)) (by (with_reducible repeat (first | apply Kd.V_alloc | apply Kd.V_drewN | apply Kd.V_drew)); exact Kd.V_mono HO_271000.out (fun _ hk => ⟨⟨hk.1.1.1, ⟨hk.1.1.2.1, ⟨hk.1.1.2.2, hk.1.2⟩⟩⟩, hk.2⟩)) hg hat); have n1_ := Aside0.mk (Kd.V_afterv (ok := (fun k_ => ((P0_0_ k_ ∨ P0_3_ k_) ∨ w.heap.size ≤ k_) ∧ k_ ≠ gb270 ∧ k_ ≠ gb271 ∧ k_ ≠ gb274)) (by (with_reducible repeat (first | apply Kd.V_alloc | apply Kd.V_drewN | apply Kd.V_drew)); exact Kd.V_mono HO_271003.out (fun _ hk => ⟨⟨hk.1.1.1, ⟨hk.1.1.2.1, ⟨hk.1.1.2.2, hk.1.2⟩⟩⟩, hk.2⟩)) hg hat); have n2_ := Aside0.mk (blk_grown (g := gb270) (o := .cells #[.slice Ao35 x271000_1.length co35, .int .i64 a0_1, .int .i64 a0_2, .slice (some ad273) x271003_1.length co26, .bool a0_4] 46 (0, 0)) (by (with_reducible repeat (first | refine blk_drewN ?_ _ | refine blk_drew ?_ | refine blk_alloc ?_ _)); exact BK270.out) hg (Kd.R_ne HO277.out BK270.out (by decide))); have n3_ := Aside0.mk (blk_grown (g := gb271) (o := .cells #[.slice none 0 0, .int .i64 x272001_1, .int .i64 x272002_1, .slice none 0 0, .bool x272004_1] 46 (0, 0)) (by (with_reducible repeat (first | refine blk_drewN ?_ _ | refine blk_drew ?_ | refine blk_alloc ?_ _)); exact BK271.out) hg (Kd.R_ne HO277.out BK271.out (by decide))); have n4_ := Aside0.mk (blk_grown (g := gb274) (o := .cells #[.int .i64 ((rd_T122 x271003_1 x7_1).f0), .int .i64 ((rd_T122 x271003_1 x7_1).f1), .int .i64 ((rd_T122 x271003_1 x7_1).f2)] 122 (0, 0)) (by (with_reducible repeat (first | refine blk_drewN ?_ _ | refine blk_drew ?_ | refine blk_alloc ?_ _)); exact BK274.out) hg (Kd.R_ne HO277.out BK274.out (by decide))); have n5_ := Aside0.mk (hb); have n6_ := Aside0.mk (ho); clear HO_271000; clear HO_271003; clear BK270; clear BK271; clear BK274; clear HB; clear HO277; have HO_271000 := n0_; have HO_271003 := n1_; have BK270 := n2_; have BK271 := n3_; have BK274 := n4_; have HB := n5_; have HO280 := n6_; clear n0_ n1_ n2_ n3_ n4_ n5_ n6_; clear ho hb hg hat; obtain ⟨Ao36, co36, eo36⟩ := Kd.R_slice HO280.out; subst eo36; have hcz37_0 : w34.cell? ⟨gb270, 0, none⟩ = some (.slice Ao35 x271000_1.length co35) := (blk_cell BK270.out 0).trans rfl; have hcz37_1 : w34.cell? ⟨gb270, 1, none⟩ = some (.int .i64 a0_1) := (blk_cell BK270.out 1).trans rfl; have hcz37_2 : w34.cell? ⟨gb270, 2, none⟩ = some (.int .i64 a0_2) := (blk_cell BK270.out 2).trans rfl; have hcz37_3 : w34.cell? ⟨gb270, 3, none⟩ = some (.slice (some ad273) x271003_1.length co26) := (blk_cell BK270.out 3).trans rfl; have hcz37_4 : w34.cell? ⟨gb270, 4, none⟩ = some (.bool a0_4) := (blk_cell BK270.out 4).trans rfl; have hfz37_0 := blk_frozen BK270.out 0; have hfz37_1 := blk_frozen BK270.out 1; have hfz37_2 := blk_frozen BK270.out 2; have hfz37_3 := blk_frozen BK270.out 3; have hfz37_4 := blk_frozen BK270.out 4) | ((with_reducible refine gate_store (t := 43) (p := 35) rfl ?_); refine store_event (t := 43) (p := 35) (v := ?vo_w38) (w1 := (w34.setCell ⟨gb270, 0, none⟩ (.slice Ao36 y278.length co36))) ?hg ?ho ?hn ?hr ?_; (case ho => rfl); (case hg => rfl); (case hn => rfl); (case hr => first | (go_simp; done) | (go_simp; rfl)); intro w38 hw; have n0_ : Aside0 (Kd.V k105 105 w38 w.heap.size (fun k_ => ((P0_0_ k_ ∨ P0_3_ k_) ∨ w.heap.size ≤ k_) ∧ some k_ ≠ (.slice Ao36 y278.length co36 : Value).ownBlock ∧ k_ ≠ gb270 ∧ k_ ≠ gb271 ∧ k_ ≠ gb274) (.slice Ao35 x271000_1.length co35) x271000_1) := ⟨(by rw [hw]; exact (by (with_reducible repeat (first | apply Kd.V_alloc | apply Kd.V_drewN | apply Kd.V_drew)); exact Kd.V_mono (Kd.V_far (p := ⟨gb270, 0, none⟩) (Kd.V_mono HO_271000.out (fun k_ hk => (⟨hk, hk.1.2.1⟩ : _ ∧ k_ ≠ gb270))) (fun _ hk => hk.2) (.slice Ao36 y278.length co36)) (fun _ hk => ⟨hk.1.1.1, ⟨hk.1.2, ⟨hk.1.1.2.1, ⟨hk.1.1.2.2.1, hk.1.1.2.2.2⟩⟩⟩⟩)))⟩; have n1_ : Aside0 (Kd.V k122 122 w38 w.heap.size (fun k_ => ((P0_0_ k_ ∨ P0_3_ k_) ∨ w.heap.size ≤ k_) ∧ some k_ ≠ (.slice Ao36 y278.length co36 : Value).ownBlock ∧ k_ ≠ gb270 ∧ k_ ≠ gb271 ∧ k_ ≠ gb274) (.slice (some ad273) x271003_1.length co26) x271003_1) := ⟨(by rw [hw]; exact (by (with_reducible repeat (first | apply Kd.V_alloc | apply Kd.V_drewN | apply Kd.V_drew)); exact Kd.V_mono (Kd.V_far (p := ⟨gb270, 0, none⟩) (Kd.V_mono HO_271003.out (fun k_ hk => (⟨hk, hk.1.2.1⟩ : _ ∧ k_ ≠ gb270))) (fun _ hk => hk.2) (.slice Ao36 y278.length co36)) (fun _ hk => ⟨hk.1.1.1, ⟨hk.1.2, ⟨hk.1.1.2.1, ⟨hk.1.1.2.2.1, hk.1.1.2.2.2⟩⟩⟩⟩)))⟩; have n2_ : Aside0 (Kd.R k105 105 w38 w.heap.size (fun k_ => (w.heap.size ≤ k_)) (.slice Ao36 y278.length co36) y278) := ⟨(by rw [hw]; exact (by (with_reducible repeat (first | apply Kd.R_alloc | apply Kd.R_drewN | apply Kd.R_drew)); exact Kd.R_mono (Kd.R_far (p := ⟨gb270, 0, none⟩) (Kd.R_types HO280.out BK270.out (by decide)) (fun _ hk => hk.2) (.slice Ao36 y278.length co36)) (fun _ hk => hk.1)))⟩; have n3_ : Aside0 (w38.heap[gb270]? = some (.cells #[.slice Ao36 y278.length co36, .int .i64 a0_1, .int .i64 a0_2, .slice (some ad273) x271003_1.length co26, .bool a0_4] 46 (0, 0))) := ⟨(by rw [hw]; exact (by (with_reducible repeat (first | refine blk_drewN ?_ _ | refine blk_drew ?_ | refine blk_alloc ?_ _)); refine blk_put (cs := #[.slice Ao35 x271000_1.length co35, .int .i64 a0_1, .int .i64 a0_2, .slice (some ad273) x271003_1.length co26, .bool a0_4]) ?_ 0 _ rfl; (with_reducible repeat (first | refine blk_drewN ?_ _ | refine blk_drew ?_ | refine blk_alloc ?_ _)); exact BK270.out))⟩; have n4_ : Aside0 (w38.heap[gb271]? = some (.cells #[.slice none 0 0, .int .i64 x272001_1, .int .i64 x272002_1, .slice none 0 0, .bool x272004_1] 46 (0, 0))) := ⟨(by rw [hw]; exact (by (with_reducible repeat (first | refine blk_drewN ?_ _ | refine blk_drew ?_ | refine blk_alloc ?_ _)); refine blk_far ?_ NB271_270.out _; (with_reducible repeat (first | refine blk_drewN ?_ _ | refine blk_drew ?_ | refine blk_alloc ?_ _)); exact BK271.out))⟩; have n5_ : Aside0 (w38.heap[gb274]? = some (.cells #[.int .i64 ((rd_T122 x271003_1 x7_1).f0), .int .i64 ((rd_T122 x271003_1 x7_1).f1), .int .i64 ((rd_T122 x271003_1 x7_1).f2)] 122 (0, 0))) := ⟨(by rw [hw]; exact (by (with_reducible repeat (first | refine blk_drewN ?_ _ | refine blk_drew ?_ | refine blk_alloc ?_ _)); refine blk_far ?_ NB274_270.out _; (with_reducible repeat (first | refine blk_drewN ?_ _ | refine blk_drew ?_ | refine blk_alloc ?_ _)); exact BK274.out))⟩; have n6_ : Aside0 (Below w.heap.size w w38) := ⟨(by rw [hw]; exact (by repeat (first | (with_reducible first | exact HB.out | apply below_alloc | apply pw_below_drewN | apply below_drew1 | refine below_set ?_ GE270.out | refine below_set ?_ GE271.out | refine below_set ?_ GE274.out) | exact HB.out)))⟩; clear hw; clear HO_271000; clear HO_271003; clear HO280; clear BK270; clear BK271; clear BK274; clear HB; have HO_271000 := n0_; have HO_271003 := n1_; have HO280 := n2_; have BK270 := n3_; have BK271 := n4_; have BK274 := n5_; have HB := n6_; clear n0_ n1_ n2_ n3_ n4_ n5_ n6_; have hcz39_0 : w38.cell? ⟨gb270, 0, none⟩ = some (.slice Ao36 y278.length co36) := (blk_cell BK270.out 0).trans rfl; have hcz39_1 : w38.cell? ⟨gb270, 1, none⟩ = some (.int .i64 a0_1) := (blk_cell BK270.out 1).trans rfl; have hcz39_2 : w38.cell? ⟨gb270, 2, none⟩ = some (.int .i64 a0_2) := (blk_cell BK270.out 2).trans rfl; have hcz39_3 : w38.cell? ⟨gb270, 3, none⟩ = some (.slice (some ad273) x271003_1.length co26) := (blk_cell BK270.out 3).trans rfl; have hcz39_4 : w38.cell? ⟨gb270, 4, none⟩ = some (.bool a0_4) := (blk_cell BK270.out 4).trans rfl; have hfz39_0 := blk_frozen BK270.out 0; have hfz39_1 := blk_frozen BK270.out 1; have hfz39_2 := blk_frozen BK270.out 2; have hfz39_3 := blk_frozen BK270.out 3; have hfz39_4 := blk_frozen BK270.out 4; have hcz40_0 : w38.cell? ⟨gb274, 0, none⟩ = some (.int .i64 ((rd_T122 x271003_1 x7_1).f0)) := (blk_cell BK274.out 0).trans rfl; have hcz40_1 : w38.cell? ⟨gb274, 1, none⟩ = some (.int .i64 ((rd_T122 x271003_1 x7_1).f1)) := (blk_cell BK274.out 1).trans rfl; have hcz40_2 : w38.cell? ⟨gb274, 2, none⟩ = some (.int .i64 ((rd_T122 x271003_1 x7_1).f2)) := (blk_cell BK274.out 2).trans rfl; have hfz40_0 := blk_frozen BK274.out 0; have hfz40_1 := blk_frozen BK274.out 1; have hfz40_2 := blk_frozen BK274.out 2; have p16 : 0 ≤ (((rd_T122 x271003_1 x7_1).f1) : Int) := of_decide_eq_true (by first | (with_reducible assumption) | assumption); have q16 : (((rd_T122 x271003_1 x7_1).f1) : Int) < ((y278.length : Int) : Int) := of_decide_eq_true (by first | (with_reducible assumption) | assumption); obtain ⟨go16, co16, eo16, gb16, gl16, cl16, HG16⟩ := Kd.R_form HO280.out (by omega); (first | cases eo16 | (injection eo16 with ea_ en_ ec_; (first | subst ea_ | (injection ea_ with ea_; subst ea_)); subst ec_; clear en_)); have GB16 := Aside0.mk gb16; have GG16 := Aside0.mk HG16; clear gb16 gl16 HG16; obtain ⟨ce16, hcl16, hM16, hcc16, hfr16⟩ := Kd.R_elem HO280.out z105 (((rd_T122 x271003_1 x7_1).f1) : Int) p16 q16; obtain rfl := k105_openM hM16; have hx16_0 : w38.cell? ⟨go16, (((rd_T122 x271003_1 x7_1).f1) : Int).toNat * 3, none⟩ = some (.int .i64 ((rd_T105 y278 ((rd_T122 x271003_1 x7_1).f1)).f0)) := hcc16 0 _ rfl; have hx16_1 : w38.cell? ⟨go16, (((rd_T122 x271003_1 x7_1).f1) : Int).toNat * 3 + 1, none⟩ = some (.int .i64 ((rd_T105 y278 ((rd_T122 x271003_1 x7_1).f1)).f1)) := hcc16 1 _ rfl; have hx16_2 : w38.cell? ⟨go16, (((rd_T122 x271003_1 x7_1).f1) : Int).toNat * 3 + 2, none⟩ = some (.int .i64 ((rd_T105 y278 ((rd_T122 x271003_1 x7_1).f1)).f2)) := hcc16 2 _ rfl; have hf16_0 : w38.frozen? ⟨go16, (((rd_T122 x271003_1 x7_1).f1) : Int).toNat * 3, none⟩ = false := hfr16 0; have hf16_1 : w38.frozen? ⟨go16, (((rd_T122 x271003_1 x7_1).f1) : Int).toNat * 3 + 1, none⟩ = false := hfr16 1; have hf16_2 : w38.frozen? ⟨go16, (((rd_T122 x271003_1 x7_1).f1) : Int).toNat * 3 + 2, none⟩ = false := hfr16 2; clear hcl16 hcc16 hfr16 hM16; replace p16 := eq_true p16; replace q16 := eq_true q16; have HX41 := Aside0.mk (show Kd.R k105 105 w38 w.heap.size (fun k_ => (w.heap.size ≤ k_)) (.slice (some ⟨go16, 0, none⟩) y278.length co36) y278 from (by (with_reducible repeat (first | apply Kd.R_alloc | apply Kd.R_drewN | apply Kd.R_drew)); exact HO280.out)); obtain ⟨ce41, hcl41, hM41, hcc41, hfr41⟩ := Kd.R_elem HX41.out z105 (((rd_T122 x271003_1 x7_1).f1) : Int) (of_decide_eq_true (by first | (with_reducible assumption) | assumption)) (by have h_ : (((rd_T122 x271003_1 x7_1).f1) : Int) < ((y278.length : Int) : Int) := of_decide_eq_true (by first | (with_reducible assumption) | assumption); first | exact h_ | (have e_ := (Kd.R_reads' HO280.out).1; omega) | simpa using h_); obtain rfl := k105_openM hM41; have HP41 := Kd.R_seg HX41.out (((rd_T122 x271003_1 x7_1).f1) : Int) (of_decide_eq_true (by first | (with_reducible assumption) | assumption)) (by have h_ : (((rd_T122 x271003_1 x7_1).f1) : Int) < ((y278.length : Int) : Int) := of_decide_eq_true (by first | (with_reducible assumption) | assumption); first | exact h_ | (have e_ := (Kd.R_reads' HO280.out).1; omega) | simpa using h_) (seg := [.int .i64 ((rd_T122 x271003_1 x7_1).f2)]) (j := 2) hcl41 hcc41 (show 3 ≤ 3 from by decide) (x' := (⟨(rd_T105 y278 ((rd_T122 x271003_1 x7_1).f1)).f0, (rd_T105 y278 ((rd_T122 x271003_1 x7_1).f1)).f1, (rd_T122 x271003_1 x7_1).f2⟩ : S105)) (k105_mkM _ _ _ (⟨(rd_T105 y278 ((rd_T122 x271003_1 x7_1).f1)).f0, (rd_T105 y278 ((rd_T122 x271003_1 x7_1).f1)).f1, (rd_T122 x271003_1 x7_1).f2⟩ : S105) ) (fun _ hk => hk); have hx41_2 := hcc41 2 _ rfl; (try simp only [show (k105).sz = 3 from rfl, Nat.mul_one, Nat.add_zero] at hx41_2); have hf41_2 := hfr41 2; (try simp only [show (k105).sz = 3 from rfl, Nat.mul_one, Nat.add_zero] at hf41_2); clear hcl41 hcc41 hfr41 hM41) | ((with_reducible refine gate_store (t := 3) (p := 43) rfl ?_); refine store_event (t := 3) (p := 43) (v := ?vo_w42) (w1 := (w38.setCell ⟨go16, (((rd_T122 x271003_1 x7_1).f1) : Int).toNat * 3 + 2, none⟩ (.int .i64 ((rd_T122 x271003_1 x7_1).f2)))) ?hg ?ho ?hn ?hr ?_; (case ho => rfl); (case hg => rfl); (case hn => rfl); (case hr => first | (go_simp; done) | (go_simp; rfl)); intro w42 hw; have hg : w38.grownBy w42 (some go16) := (by rw [hw]; exact HP41.2); have hp_ : Kd.R k105 105 w42 w.heap.size (fun k_ => (w.heap.size ≤ k_)) (.slice (some ⟨go16, 0, none⟩) y278.length co36) y281 := (by rw [hw, Ny281.out]; exact HP41.1); clear HP41; have n0_ := Aside0.mk (Kd.V_afterv (v := (.slice (some ⟨go16, 0, none⟩) y278.length co36)) (v1 := (.slice (some ⟨go16, 0, none⟩) y278.length co36)) (ok := (fun k_ => ((P0_0_ k_ ∨ P0_3_ k_) ∨ w.heap.size ≤ k_) ∧ k_ ≠ gb270 ∧ k_ ≠ gb271 ∧ k_ ≠ gb274)) (by (with_reducible repeat (first | apply Kd.V_alloc | apply Kd.V_drewN | apply Kd.V_drew)); exact Kd.V_mono HO_271000.out (fun _ hk => ⟨⟨hk.1, ⟨hk.2.2.1, ⟨hk.2.2.2.1, hk.2.2.2.2⟩⟩⟩, hk.2.1⟩)) hg (.inl rfl)); have n1_ := Aside0.mk (Kd.V_afterv (v := (.slice (some ⟨go16, 0, none⟩) y278.length co36)) (v1 := (.slice (some ⟨go16, 0, none⟩) y278.length co36)) (ok := (fun k_ => ((P0_0_ k_ ∨ P0_3_ k_) ∨ w.heap.size ≤ k_) ∧ k_ ≠ gb270 ∧ k_ ≠ gb271 ∧ k_ ≠ gb274)) (by (with_reducible repeat (first | apply Kd.V_alloc | apply Kd.V_drewN | apply Kd.V_drew)); exact Kd.V_mono HO_271003.out (fun _ hk => ⟨⟨hk.1, ⟨hk.2.2.1, ⟨hk.2.2.2.1, hk.2.2.2.2⟩⟩⟩, hk.2.1⟩)) hg (.inl rfl)); have n2_ := Aside0.mk (blk_grown (g := gb270) (o := .cells #[.slice (some ⟨go16, 0, none⟩) y278.length co36, .int .i64 a0_1, .int .i64 a0_2, .slice (some ad273) x271003_1.length co26, .bool a0_4] 46 (0, 0)) (by (with_reducible repeat (first | refine blk_drewN ?_ _ | refine blk_drew ?_ | refine blk_alloc ?_ _)); exact BK270.out) hg (Kd.R_ne HO280.out BK270.out (by decide))); have n3_ := Aside0.mk (blk_grown (g := gb271) (o := .cells #[.slice none 0 0, .int .i64 x272001_1, .int .i64 x272002_1, .slice none 0 0, .bool x272004_1] 46 (0, 0)) (by (with_reducible repeat (first | refine blk_drewN ?_ _ | refine blk_drew ?_ | refine blk_alloc ?_ _)); exact BK271.out) hg (Kd.R_ne HO280.out BK271.out (by decide))); have n4_ := Aside0.mk (blk_grown (g := gb274) (o := .cells #[.int .i64 ((rd_T122 x271003_1 x7_1).f0), .int .i64 ((rd_T122 x271003_1 x7_1).f1), .int .i64 ((rd_T122 x271003_1 x7_1).f2)] 122 (0, 0)) (by (with_reducible repeat (first | refine blk_drewN ?_ _ | refine blk_drew ?_ | refine blk_alloc ?_ _)); exact BK274.out) hg (Kd.R_ne HO280.out BK274.out (by decide))); have n5_ := Aside0.mk (hp_); have n6_ := Aside0.mk ((by rw [hw]; exact below_set (HB.out) GB16.out : Below w.heap.size w w42)); clear HO_271000; clear HO_271003; clear BK270; clear BK271; clear BK274; clear HO280; clear HB; have HO_271000 := n0_; have HO_271003 := n1_; have BK270 := n2_; have BK271 := n3_; have BK274 := n4_; have HO280 := n5_; have HB := n6_; clear n0_ n1_ n2_ n3_ n4_ n5_ n6_; clear hg hw hp_))
               have n0_ := Aside0.mk (Kd.V_drew HO_271000.out)
               have n1_ := Aside0.mk (Kd.V_drew HO_271003.out)
               have n2_ := Aside0.mk (Kd.R_drew HO280.out)
               have n3_ := Aside0.mk (blk_drew BK270.out)
               have n4_ := Aside0.mk (blk_drew BK271.out)
               have n5_ := Aside0.mk (blk_drew BK274.out)
               have n6_ := Aside0.mk (below_drew1 HB.out)
               clear HO_271000
               clear HO_271003
               clear HO280
               clear BK270
               clear BK271
               clear BK274
               clear HB
               have HO_271000 := n0_
               have HO_271003 := n1_
               have HO280 := n2_
               have BK270 := n3_
               have BK271 := n4_
               have BK274 := n5_
               have HB := n6_
               clear n0_ n1_ n2_ n3_ n4_ n5_ n6_
               have q44 : (x7_1 : Int) ≤ ((x271003_1.length : Int) : Int) := of_decide_eq_true (by first | (with_reducible assumption) | assumption)
               obtain ⟨i044, hi044, _, hsz44, _⟩ := info_parts info122
               have hroom44 : x271003_1.length ≤ co26 := (Kd.V_reads' HO_271003.out).2.1
               have hC44 : Kd.F k122 _ _ (some ad273) x271003_1.length x271003_1 := (Kd.V_at (base := w.heap.size) HO_271003.out).2.2
               have hcut44 := cut_to (P := Try.prog) 44 122 .i64 Try.underlying44 hi044 (some ad273) x271003_1.length co26 x7_1 (of_decide_eq_true (by first | (with_reducible assumption) | assumption)) q44 hroom44
               have hr44 := Kd.F_take (m := (x7_1 : Int).toNat) hC44 (by omega)
               have hy44 : y285.length = (x7_1 : Int).toNat := (by rw [Ny285.out, List.length_take]; omega)
               rw [← Ny285.out] at hr44
               rw [← hy44] at hcut44
               have HO289 := Aside0.mk (show Kd.V k122 122 _ w.heap.size _ (.slice (some ad273) y285.length co26) y285 from Kd.V_mk (by omega) hr44)
               have HC289 := Aside0.mk (show y285.length ≤ co26 from by omega)
               clear hr44 hC44 hroom44 hi044 hsz44
               have KY44 := Aside0.mk hy44
               clear hy44
               replace q44 := eq_true q44
               have q45 : ((ji20) : Int) ≤ ((x271003_1.length : Int) : Int) := of_decide_eq_true (by first | (with_reducible assumption) | assumption)
               obtain ⟨i045, hi045, _, hsz45, _⟩ := info_parts info122
               have hroom45 : x271003_1.length ≤ co26 := (Kd.V_reads' HO_271003.out).2.1
               have hC45 : Kd.F k122 _ _ (some ad273) x271003_1.length x271003_1 := (Kd.V_at (base := w.heap.size) HO_271003.out).2.2
               have q045 : (0 : Int) ≤ ((ji20) : Int) := of_decide_eq_true (by first | (with_reducible assumption) | assumption)
               have hcut45 := cut_from (P := Try.prog) 44 122 .i64 Try.underlying44 hi045 3 hsz45 (some ad273) x271003_1.length co26 (ji20) q045 q45
               have hr45 := Kd.F_cut (m := ((ji20) : Int).toNat) (c := co26) hC45 (by omega) hroom45
               obtain ⟨A45, hA45⟩ : ∃ A1, A1 = (if co26 = ((ji20) : Int).toNat then (some ad273) else ((some ad273) : Option Addr).map (·.add (((ji20) : Int).toNat * 3))) := ⟨_, rfl⟩
               obtain ⟨c45, hc45⟩ : ∃ c1, c1 = co26 - ((ji20) : Int).toNat := ⟨_, rfl⟩
               have hy45 : y293.length = x271003_1.length - ((ji20) : Int).toNat := (by rw [Ny293.out, List.length_drop] <;> omega)
               rw [show (x271003_1).drop ((ji20) : Int).toNat = y293 from Ny293.out.symm] at hr45
               replace hr45 : Kd.F k122 _ _ A45 y293.length y293 := (by rw [hA45]; exact hr45)
               rw [← hy45, ← hA45, ← hc45] at hcut45
               have HO297 := Aside0.mk (show Kd.V k122 122 _ w.heap.size _ (.slice A45 y293.length c45) y293 from Kd.V_mk (by rw [hy45, hc45]; exact Nat.sub_le_sub_right hroom45 _) hr45)
               have HC297 := Aside0.mk (show y293.length ≤ c45 from by rw [hy45, hc45]; exact Nat.sub_le_sub_right hroom45 _)
               clear hr45 hC45 hroom45 hi045 hsz45 hc45
               have KY45 := Aside0.mk hy45
               have KA45 := Aside0.mk hA45
               clear hy45 hA45
               replace q45 := eq_true q45
               refine start_ (n := 14) (S := fun w' => w'.cell? ⟨gb270, 0, none⟩ = some (.slice (some ⟨go16, 0, none⟩) y278.length co36) ∧ w'.cell? ⟨gb270, 1, none⟩ = some (.int .i64 a0_1) ∧ w'.cell? ⟨gb270, 2, none⟩ = some (.int .i64 a0_2) ∧ w'.cell? ⟨gb270, 3, none⟩ = some (.slice (some ad273) x271003_1.length co26) ∧ w'.cell? ⟨gb270, 4, none⟩ = some (.bool a0_4)) (ds := [13]) #[false, false, false, false, false, false, false, false, false, false, false, false, false, false] (by kernel_rfl) rfl rfl ⟨(blk_cell BK270.out 0).trans rfl, (blk_cell BK270.out 1).trans rfl, (blk_cell BK270.out 2).trans rfl, (blk_cell BK270.out 3).trans rfl, (blk_cell BK270.out 4).trans rfl⟩ (fun hHeld => ?_); refine with_tabW hackamoreref28_Finish.tab11 hackamoreref28_Finish.bits11 (fun HT_ HW_ => ?_)
               generalize w42.drew = w43 at HO_271000 HO_271003 HO280 BK270 BK271 BK274 HB HO289 HO297 hHeld ⊢
               refine pure_ (i := 1) (N := some 45) (v := ?_) (a' := ?_) #[false, true, false, false, false, false, false, false, false, false, false, false, false, false] rfl rfl (any_of HT_.out (by kernel_rfl)) (fun _ _ _ h => h) (Or.inl ⟨by rfl, ?_⟩) ?_ ?_
               rotate_left
               ·intro w'
                go_simp
                with_reducible rfl
               rotate_left
               ·simp only [Act.put, List.setIfInBounds_toArray, List.set_cons_zero, List.set_cons_succ, i64_w, i32_w]
                rfl
               refine pure_ (i := 3) (N := some 47) (v := ?_) (a' := ?_) #[false, true, false, true, false, false, false, false, false, false, false, false, false, false] rfl rfl (any_of HT_.out (by kernel_rfl)) (fun _ _ _ h => h) (Or.inl ⟨by rfl, ?_⟩) ?_ ?_
               rotate_left
               ·intro w'
                go_simp
                with_reducible rfl
               rotate_left
               ·simp only [Act.put, List.setIfInBounds_toArray, List.set_cons_zero, List.set_cons_succ, i64_w, i32_w]
                rfl
               refine pure_ (i := 6) (N := some 50) (v := ?_) (a' := ?_) #[false, true, false, true, false, false, true, false, false, false, false, false, false, false] rfl rfl (any_of HT_.out (by kernel_rfl)) (fun _ _ _ h => h) (Or.inl ⟨by rfl, ?_⟩) ?_ ?_
               rotate_left
               ·intro w'
                go_simp
                with_reducible rfl
               rotate_left
               ·simp only [Act.put, List.setIfInBounds_toArray, List.set_cons_zero, List.set_cons_succ, i64_w, i32_w]
                rfl
               refine pure_ (i := 8) (N := some 52) (v := ?_) (a' := ?_) #[false, true, false, true, false, false, true, false, true, false, false, false, false, false] rfl rfl (any_of HT_.out (by kernel_rfl)) (fun _ _ _ h => h) (Or.inl ⟨by rfl, ?_⟩) ?_ ?_
               rotate_left
               ·intro w'
                go_simp
                with_reducible rfl
               rotate_left
               ·simp only [Act.put, List.setIfInBounds_toArray, List.set_cons_zero, List.set_cons_succ, i64_w, i32_w]
                rfl
               refine pure_ (i := 9) (N := some 53) (v := ?_) (a' := ?_) #[false, true, false, true, false, false, true, false, true, true, false, false, false, false] rfl rfl (any_of HT_.out (by kernel_rfl)) (fun _ _ _ h => h) (Or.inl ⟨by rfl, ?_⟩) ?_ ?_
               rotate_left
               ·intro w'
                go_simp
                with_reducible rfl
               rotate_left
               ·simp only [Act.put, List.setIfInBounds_toArray, List.set_cons_zero, List.set_cons_succ, i64_w, i32_w]
                rfl
               refine take_ (i := 2) (N := some 46) (v := ?_) (a' := ?_) #[false, true, true, true, false, false, true, false, true, true, false, false, false, false] rfl rfl (take_ofW HT_.out HW_.out (by kernel_rfl)) (fun _ _ _ h => h) (Or.inl ⟨by rfl, ?_⟩) hHeld ?_ ?_
               rotate_left
               ·rintro w' ⟨s0, s1, s2, s3, s4⟩
                go_simp
                with_reducible rfl
               rotate_left
               ·simp only [Act.put, List.setIfInBounds_toArray, List.set_cons_zero, List.set_cons_succ, i64_w, i32_w]
                rfl
               refine pure_ (i := 4) (N := some 48) (v := ?_) (a' := ?_) #[false, true, true, true, true, false, true, false, true, true, false, false, false, false] rfl rfl (any_of HT_.out (by kernel_rfl)) (fun _ _ _ h => h) (Or.inl ⟨by rfl, ?_⟩) ?_ ?_
               rotate_left
               ·intro w'
                go_simp
                with_reducible rfl
               rotate_left
               ·simp only [Act.put, List.setIfInBounds_toArray, List.set_cons_zero, List.set_cons_succ, i64_w, i32_w]
                rfl
               refine take_ (i := 7) (N := some 51) (v := ?_) (a' := ?_) #[false, true, true, true, true, false, true, true, true, true, false, false, false, false] rfl rfl (take_ofW HT_.out HW_.out (by kernel_rfl)) (fun _ _ _ h => h) (Or.inl ⟨by rfl, ?_⟩) hHeld ?_ ?_
               rotate_left
               ·rintro w' ⟨s0, s1, s2, s3, s4⟩
                go_simp
                with_reducible rfl
               rotate_left
               ·simp only [Act.put, List.setIfInBounds_toArray, List.set_cons_zero, List.set_cons_succ, i64_w, i32_w]
                rfl
               refine pure_ (i := 10) (N := some 54) (v := ?_) (a' := ?_) #[false, true, true, true, true, false, true, true, true, true, true, false, false, false] rfl rfl (any_of HT_.out (by kernel_rfl)) (fun _ _ _ h => h) (Or.inl ⟨by rfl, ?_⟩) ?_ ?_
               rotate_left
               ·intro w'
                go_simp
                with_reducible rfl
               rotate_left
               ·simp only [Act.put, List.setIfInBounds_toArray, List.set_cons_zero, List.set_cons_succ, i64_w, i32_w]
                rfl
               refine one_ (i := 0) (N := some 44) #[true, true, true, true, true, false, true, true, true, true, true, false, false, false] rfl rfl (one_of HT_.out (by kernel_rfl)) (by decide) (fun K hK => ?_)
               refine Kd.R_lit_step k122 _ 122 ?hg (N := 44) ?hd (xs := ([] : List (S122))) (inner := []) (ok := fun _ => True) (okp := fun _ => True) ?hr ?hp (fun _ hk => hk) trivial (Below.refl _ _) (Nat.le_refl _) (by simp) ?_; (case hd => rfl); (case hg => rfl); (case hr => first | (go_simp; done) | (go_simp; rfl)); (case hp => exact (Reps.none _ _))
               intro v283 w46 ho47 hb hg_ hnew_
               clear hg_ hnew_
               (first | rw [← Ny282.out] at ho47 | (simp only [Int.reduceToNat] at ho47; rw [← Ny282.out] at ho47))
               have n0_ := Aside0.mk (Kd.V_elder' (by (with_reducible repeat (first | apply Kd.V_alloc | apply Kd.V_drewN | apply Kd.V_drew)); exact HO_271000.out) (Kd.R_base ho47) hb)
               have n1_ := Aside0.mk (Kd.V_elder' (by (with_reducible repeat (first | apply Kd.V_alloc | apply Kd.V_drewN | apply Kd.V_drew)); exact HO_271003.out) (Kd.R_base ho47) hb)
               have n2_ := Aside0.mk (Kd.R_below (by (with_reducible repeat (first | apply Kd.R_alloc | apply Kd.R_drewN | apply Kd.R_drew)); exact HO280.out) hb)
               have n3_ := Aside0.mk (Kd.V_elder' (by (with_reducible repeat (first | apply Kd.V_alloc | apply Kd.V_drewN | apply Kd.V_drew)); exact HO289.out) (Kd.R_base ho47) hb)
               have n4_ := Aside0.mk (Kd.V_elder' (by (with_reducible repeat (first | apply Kd.V_alloc | apply Kd.V_drewN | apply Kd.V_drew)); exact HO297.out) (Kd.R_base ho47) hb)
               have n5_ := Aside0.mk (Kd.R_lower (Kd.R_newB (Kd.R_newM (M := fun k_ => (w.heap.size ≤ k_)) ho47 (below_size (by repeat (first | (with_reducible first | exact HB.out | apply below_alloc | apply pw_below_drewN | apply below_drew1 | refine below_set ?_ GE270.out | refine below_set ?_ GE271.out | refine below_set ?_ GE274.out) | exact HB.out))) (fun k_ h_ => h_)) (g := gb274) (o := .cells #[.int .i64 ((rd_T122 x271003_1 x7_1).f0), .int .i64 ((rd_T122 x271003_1 x7_1).f1), .int .i64 ((rd_T122 x271003_1 x7_1).f2)] 122 (0, 0)) (by (with_reducible repeat (first | refine blk_drewN ?_ _ | refine blk_drew ?_ | refine blk_alloc ?_ _)); exact BK274.out)) (below_size (by repeat (first | (with_reducible first | exact HB.out | apply below_alloc | apply pw_below_drewN | apply below_drew1 | refine below_set ?_ GE270.out | refine below_set ?_ GE271.out | refine below_set ?_ GE274.out) | exact HB.out))))
               have n6_ := Aside0.mk (blk_below (g := gb270) (o := .cells #[.slice (some ⟨go16, 0, none⟩) y278.length co36, .int .i64 a0_1, .int .i64 a0_2, .slice (some ad273) x271003_1.length co26, .bool a0_4] 46 (0, 0)) (by (with_reducible repeat (first | refine blk_drewN ?_ _ | refine blk_drew ?_ | refine blk_alloc ?_ _)); exact BK270.out) hb)
               have n7_ := Aside0.mk (blk_below (g := gb271) (o := .cells #[.slice none 0 0, .int .i64 x272001_1, .int .i64 x272002_1, .slice none 0 0, .bool x272004_1] 46 (0, 0)) (by (with_reducible repeat (first | refine blk_drewN ?_ _ | refine blk_drew ?_ | refine blk_alloc ?_ _)); exact BK271.out) hb)
               have n8_ := Aside0.mk (blk_below (g := gb274) (o := .cells #[.int .i64 ((rd_T122 x271003_1 x7_1).f0), .int .i64 ((rd_T122 x271003_1 x7_1).f1), .int .i64 ((rd_T122 x271003_1 x7_1).f2)] 122 (0, 0)) (by (with_reducible repeat (first | refine blk_drewN ?_ _ | refine blk_drew ?_ | refine blk_alloc ?_ _)); exact BK274.out) hb)
               have n9_ := Aside0.mk (below_step (by repeat (first | (with_reducible first | exact HB.out | apply below_alloc | apply pw_below_drewN | apply below_drew1 | refine below_set ?_ GE270.out | refine below_set ?_ GE271.out | refine below_set ?_ GE274.out) | exact HB.out)) hb)
               clear HO_271000
               clear HO_271003
               clear HO280
               clear HO289
               clear HO297
               clear BK270
               clear BK271
               clear BK274
               clear HB
               have HO_271000 := n0_
               have HO_271003 := n1_
               have HO280 := n2_
               have HO289 := n3_
               have HO297 := n4_
               have HO284 := n5_
               have BK270 := n6_
               have BK271 := n7_
               have BK274 := n8_
               have HB := n9_
               clear n0_ n1_ n2_ n3_ n4_ n5_ n6_ n7_ n8_ n9_
               clear hb ho47
               refine hK.out _ _ ⟨(blk_cell BK270.out 0).trans rfl, (blk_cell BK270.out 1).trans rfl, (blk_cell BK270.out 2).trans rfl, (blk_cell BK270.out 3).trans rfl, (blk_cell BK270.out 4).trans rfl⟩ (fun hHeld => ?_)
               clear hK K
               refine norm_ (a' := ?_) ?_ ?_
               rotate_left
               ·show Act.put _ (some 44) _ = _
                simp only [Act.put, List.setIfInBounds_toArray, List.set_cons_zero, List.set_cons_succ, i64_w, i32_w]
                rfl
               refine one_ (i := 5) (N := some 49) #[true, true, true, true, true, true, true, true, true, true, true, false, false, false] rfl rfl (one_of HT_.out (by kernel_rfl)) (by decide) (fun K hK => ?_)
               refine Kd.R_append_rows_step k122 (w0 := w) w.heap.size (by rfl) (.tmp 44) (.tmp 48) 44 122 (.agg #[(.int .i64 0), (.int .i64 0), (.int .i64 0)]) 24 rfl Try.underlying44 info122 rfl (by decide) (by omega) v283 y282 y285 _ _ _ (fun k_ => (w.heap.size ≤ k_) ∧ k_ ≠ gb274) (fun _ => False) rfl rfl ?aO ?aR (fun _ _ h => h) (fun _ h => h.elim) ?aF ?aB ?aS ?aL ?_
               (case aR => repeat (first | exact (Kd.V_reads' HO289.out).2.2 | (with_reducible refine Kd.C_alloc ?_ _) | (with_reducible refine Kd.C_drewN ?_ _) | (with_reducible refine Kd.C_drew ?_)))
               (case aB => exact (by repeat (first | (with_reducible first | exact HB.out | apply below_alloc | apply pw_below_drewN | apply below_drew1 | refine below_set ?_ GE270.out | refine below_set ?_ GE271.out | refine below_set ?_ GE274.out) | exact HB.out)))
               (case aF => exact (fun k_ hk => ⟨(Nat.le_trans (below_size (by repeat (first | (with_reducible first | exact HB.out | apply below_alloc | apply pw_below_drewN | apply below_drew1 | refine below_set ?_ GE270.out | refine below_set ?_ GE271.out | refine below_set ?_ GE274.out) | exact HB.out))) hk), Kd.freshB (g := gb274) (o := .cells #[.int .i64 ((rd_T122 x271003_1 x7_1).f0), .int .i64 ((rd_T122 x271003_1 x7_1).f1), .int .i64 ((rd_T122 x271003_1 x7_1).f2)] 122 (0, 0)) (by (with_reducible repeat (first | refine blk_drewN ?_ _ | refine blk_drew ?_ | refine blk_alloc ?_ _)); exact BK274.out) k_ hk⟩))
               (case aO => exact (by (with_reducible repeat (first | apply Kd.R_alloc | apply Kd.R_drewN | apply Kd.R_drew)); exact Kd.R_mono HO284.out (fun _ hk => ⟨hk.1.1, hk.2⟩)))
               (case aS => exact (below_size (by repeat (first | (with_reducible first | exact HB.out | apply below_alloc | apply pw_below_drewN | apply below_drew1 | refine below_set ?_ GE270.out | refine below_set ?_ GE271.out | refine below_set ?_ GE274.out) | exact HB.out))))
               (case aL => have := LMc19.out; omega)
               intro v291 w48 ho hb hg hat
               rw [← Ny290.out] at ho
               have n0_ := Aside0.mk (Kd.V_afterv (ok := (fun k_ => ((P0_0_ k_ ∨ P0_3_ k_) ∨ w.heap.size ≤ k_) ∧ some k_ ≠ (.slice (some ⟨go16, 0, none⟩) y278.length co36 : Value).ownBlock ∧ k_ ≠ gb270 ∧ k_ ≠ gb271 ∧ k_ ≠ gb274)) (by (with_reducible repeat (first | apply Kd.V_alloc | apply Kd.V_drewN | apply Kd.V_drew)); exact Kd.V_mono HO_271000.out (fun _ hk => ⟨⟨hk.1.1.1, ⟨hk.1.2, ⟨hk.1.1.2.1, ⟨hk.1.1.2.2.1, hk.1.1.2.2.2⟩⟩⟩⟩, hk.2⟩)) hg hat)
               have n1_ := Aside0.mk (Kd.V_afterv (ok := (fun k_ => ((P0_0_ k_ ∨ P0_3_ k_) ∨ w.heap.size ≤ k_) ∧ some k_ ≠ (.slice (some ⟨go16, 0, none⟩) y278.length co36 : Value).ownBlock ∧ k_ ≠ gb270 ∧ k_ ≠ gb271 ∧ k_ ≠ gb274)) (by (with_reducible repeat (first | apply Kd.V_alloc | apply Kd.V_drewN | apply Kd.V_drew)); exact Kd.V_mono HO_271003.out (fun _ hk => ⟨⟨hk.1.1.1, ⟨hk.1.2, ⟨hk.1.1.2.1, ⟨hk.1.1.2.2.1, hk.1.1.2.2.2⟩⟩⟩⟩, hk.2⟩)) hg hat)
               have n2_ := Aside0.mk (blk_grown (g := gb270) (o := .cells #[.slice (some ⟨go16, 0, none⟩) y278.length co36, .int .i64 a0_1, .int .i64 a0_2, .slice (some ad273) x271003_1.length co26, .bool a0_4] 46 (0, 0)) (by (with_reducible repeat (first | refine blk_drewN ?_ _ | refine blk_drew ?_ | refine blk_alloc ?_ _)); exact BK270.out) hg (Kd.R_ne HO284.out BK270.out (by decide)))
               have n3_ := Aside0.mk (blk_grown (g := gb271) (o := .cells #[.slice none 0 0, .int .i64 x272001_1, .int .i64 x272002_1, .slice none 0 0, .bool x272004_1] 46 (0, 0)) (by (with_reducible repeat (first | refine blk_drewN ?_ _ | refine blk_drew ?_ | refine blk_alloc ?_ _)); exact BK271.out) hg (Kd.R_ne HO284.out BK271.out (by decide)))
               have n4_ := Aside0.mk (blk_grown (g := gb274) (o := .cells #[.int .i64 ((rd_T122 x271003_1 x7_1).f0), .int .i64 ((rd_T122 x271003_1 x7_1).f1), .int .i64 ((rd_T122 x271003_1 x7_1).f2)] 122 (0, 0)) (by (with_reducible repeat (first | refine blk_drewN ?_ _ | refine blk_drew ?_ | refine blk_alloc ?_ _)); exact BK274.out) hg (Kd.R_away HO284.out (fun _ hk => hk.2)))
               have n5_ := Aside0.mk (Kd.R_over' (by (with_reducible repeat (first | apply Kd.R_alloc | apply Kd.R_drewN | apply Kd.R_drew)); exact HO280.out) (Kd.R_typed (by (with_reducible repeat (first | apply Kd.R_alloc | apply Kd.R_drewN | apply Kd.R_drew)); exact HO284.out)) (by decide) hg)
               have n6_ := Aside0.mk (Kd.V_afterv (ok := (fun k_ => ((P0_0_ k_ ∨ P0_3_ k_) ∨ w.heap.size ≤ k_) ∧ some k_ ≠ (.slice (some ⟨go16, 0, none⟩) y278.length co36 : Value).ownBlock ∧ k_ ≠ gb270 ∧ k_ ≠ gb271 ∧ k_ ≠ gb274)) (by (with_reducible repeat (first | apply Kd.V_alloc | apply Kd.V_drewN | apply Kd.V_drew)); exact Kd.V_mono HO289.out (fun _ hk => ⟨⟨hk.1.1.1, ⟨hk.1.2, ⟨hk.1.1.2.1, ⟨hk.1.1.2.2.1, hk.1.1.2.2.2⟩⟩⟩⟩, hk.2⟩)) hg hat)
               have n7_ := Aside0.mk (Kd.V_afterv (ok := (fun k_ => ((P0_0_ k_ ∨ P0_3_ k_) ∨ w.heap.size ≤ k_) ∧ some k_ ≠ (.slice (some ⟨go16, 0, none⟩) y278.length co36 : Value).ownBlock ∧ k_ ≠ gb270 ∧ k_ ≠ gb271 ∧ k_ ≠ gb274)) (by (with_reducible repeat (first | apply Kd.V_alloc | apply Kd.V_drewN | apply Kd.V_drew)); exact Kd.V_mono HO297.out (fun _ hk => ⟨⟨hk.1.1.1, ⟨hk.1.2, ⟨hk.1.1.2.1, ⟨hk.1.1.2.2.1, hk.1.1.2.2.2⟩⟩⟩⟩, hk.2⟩)) hg hat)
               have n8_ := Aside0.mk (hb)
               have n9_ := Aside0.mk (ho)
               clear HO_271000
               clear HO_271003
               clear BK270
               clear BK271
               clear BK274
               clear HO280
               clear HO289
               clear HO297
               clear HB
               clear HO284
               have HO_271000 := n0_
               have HO_271003 := n1_
               have BK270 := n2_
               have BK271 := n3_
               have BK274 := n4_
               have HO280 := n5_
               have HO289 := n6_
               have HO297 := n7_
               have HB := n8_
               have HO292 := n9_
               clear n0_ n1_ n2_ n3_ n4_ n5_ n6_ n7_ n8_ n9_
               clear ho hb hg hat
               refine hK.out _ _ ⟨(blk_cell BK270.out 0).trans rfl, (blk_cell BK270.out 1).trans rfl, (blk_cell BK270.out 2).trans rfl, (blk_cell BK270.out 3).trans rfl, (blk_cell BK270.out 4).trans rfl⟩ (fun hHeld => ?_)
               clear hK K
               refine norm_ (a' := ?_) ?_ ?_
               rotate_left
               ·show Act.put _ (some 49) _ = _
                simp only [Act.put, List.setIfInBounds_toArray, List.set_cons_zero, List.set_cons_succ, i64_w, i32_w]
                rfl
               refine one_ (i := 11) (N := some 55) #[true, true, true, true, true, true, true, true, true, true, true, true, false, false] rfl rfl (one_of HT_.out (by kernel_rfl)) (by decide) (fun K hK => ?_)
               refine Kd.R_append_rows_step k122 (w0 := w) w.heap.size (by rfl) (.tmp 49) (.tmp 54) 44 122 (.agg #[(.int .i64 0), (.int .i64 0), (.int .i64 0)]) 24 rfl Try.underlying44 info122 rfl (by decide) (by omega) v291 y290 y293 _ _ _ (fun k_ => (w.heap.size ≤ k_) ∧ k_ ≠ gb274) (fun _ => False) rfl rfl ?aO ?aR (fun _ _ h => h) (fun _ h => h.elim) ?aF ?aB ?aS ?aL ?_
               (case aR => repeat (first | exact (Kd.V_reads' HO297.out).2.2 | (with_reducible refine Kd.C_alloc ?_ _) | (with_reducible refine Kd.C_drewN ?_ _) | (with_reducible refine Kd.C_drew ?_)))
               (case aB => exact (by repeat (first | (with_reducible first | exact HB.out | apply below_alloc | apply pw_below_drewN | apply below_drew1 | refine below_set ?_ GE270.out | refine below_set ?_ GE271.out | refine below_set ?_ GE274.out) | exact HB.out)))
               (case aF => exact (fun k_ hk => ⟨(Nat.le_trans (below_size (by repeat (first | (with_reducible first | exact HB.out | apply below_alloc | apply pw_below_drewN | apply below_drew1 | refine below_set ?_ GE270.out | refine below_set ?_ GE271.out | refine below_set ?_ GE274.out) | exact HB.out))) hk), Kd.freshB (g := gb274) (o := .cells #[.int .i64 ((rd_T122 x271003_1 x7_1).f0), .int .i64 ((rd_T122 x271003_1 x7_1).f1), .int .i64 ((rd_T122 x271003_1 x7_1).f2)] 122 (0, 0)) (by (with_reducible repeat (first | refine blk_drewN ?_ _ | refine blk_drew ?_ | refine blk_alloc ?_ _)); exact BK274.out) k_ hk⟩))
               (case aO => exact (by (with_reducible repeat (first | apply Kd.R_alloc | apply Kd.R_drewN | apply Kd.R_drew)); exact HO292.out))
               (case aS => exact (below_size (by repeat (first | (with_reducible first | exact HB.out | apply below_alloc | apply pw_below_drewN | apply below_drew1 | refine below_set ?_ GE270.out | refine below_set ?_ GE271.out | refine below_set ?_ GE274.out) | exact HB.out))))
               (case aL => have := LMc23.out; omega)
               intro v299 w49 ho hb hg hat
               rw [← Ny298.out] at ho
               have n0_ := Aside0.mk (Kd.V_afterv (ok := (fun k_ => ((P0_0_ k_ ∨ P0_3_ k_) ∨ w.heap.size ≤ k_) ∧ some k_ ≠ (.slice (some ⟨go16, 0, none⟩) y278.length co36 : Value).ownBlock ∧ k_ ≠ gb270 ∧ k_ ≠ gb271 ∧ k_ ≠ gb274)) (by (with_reducible repeat (first | apply Kd.V_alloc | apply Kd.V_drewN | apply Kd.V_drew)); exact HO_271000.out) hg hat)
               have n1_ := Aside0.mk (Kd.V_afterv (ok := (fun k_ => ((P0_0_ k_ ∨ P0_3_ k_) ∨ w.heap.size ≤ k_) ∧ some k_ ≠ (.slice (some ⟨go16, 0, none⟩) y278.length co36 : Value).ownBlock ∧ k_ ≠ gb270 ∧ k_ ≠ gb271 ∧ k_ ≠ gb274)) (by (with_reducible repeat (first | apply Kd.V_alloc | apply Kd.V_drewN | apply Kd.V_drew)); exact HO_271003.out) hg hat)
               have n2_ := Aside0.mk (blk_grown (g := gb270) (o := .cells #[.slice (some ⟨go16, 0, none⟩) y278.length co36, .int .i64 a0_1, .int .i64 a0_2, .slice (some ad273) x271003_1.length co26, .bool a0_4] 46 (0, 0)) (by (with_reducible repeat (first | refine blk_drewN ?_ _ | refine blk_drew ?_ | refine blk_alloc ?_ _)); exact BK270.out) hg (Kd.R_ne HO292.out BK270.out (by decide)))
               have n3_ := Aside0.mk (blk_grown (g := gb271) (o := .cells #[.slice none 0 0, .int .i64 x272001_1, .int .i64 x272002_1, .slice none 0 0, .bool x272004_1] 46 (0, 0)) (by (with_reducible repeat (first | refine blk_drewN ?_ _ | refine blk_drew ?_ | refine blk_alloc ?_ _)); exact BK271.out) hg (Kd.R_ne HO292.out BK271.out (by decide)))
               have n4_ := Aside0.mk (blk_grown (g := gb274) (o := .cells #[.int .i64 ((rd_T122 x271003_1 x7_1).f0), .int .i64 ((rd_T122 x271003_1 x7_1).f1), .int .i64 ((rd_T122 x271003_1 x7_1).f2)] 122 (0, 0)) (by (with_reducible repeat (first | refine blk_drewN ?_ _ | refine blk_drew ?_ | refine blk_alloc ?_ _)); exact BK274.out) hg (Kd.R_away HO292.out (fun _ hk => hk.2)))
               have n5_ := Aside0.mk (Kd.R_over' (by (with_reducible repeat (first | apply Kd.R_alloc | apply Kd.R_drewN | apply Kd.R_drew)); exact HO280.out) (Kd.R_typed (by (with_reducible repeat (first | apply Kd.R_alloc | apply Kd.R_drewN | apply Kd.R_drew)); exact HO292.out)) (by decide) hg)
               have n6_ := Aside0.mk (Kd.V_afterv (ok := (fun k_ => ((P0_0_ k_ ∨ P0_3_ k_) ∨ w.heap.size ≤ k_) ∧ some k_ ≠ (.slice (some ⟨go16, 0, none⟩) y278.length co36 : Value).ownBlock ∧ k_ ≠ gb270 ∧ k_ ≠ gb271 ∧ k_ ≠ gb274)) (by (with_reducible repeat (first | apply Kd.V_alloc | apply Kd.V_drewN | apply Kd.V_drew)); exact HO289.out) hg hat)
               have n7_ := Aside0.mk (Kd.V_afterv (ok := (fun k_ => ((P0_0_ k_ ∨ P0_3_ k_) ∨ w.heap.size ≤ k_) ∧ some k_ ≠ (.slice (some ⟨go16, 0, none⟩) y278.length co36 : Value).ownBlock ∧ k_ ≠ gb270 ∧ k_ ≠ gb271 ∧ k_ ≠ gb274)) (by (with_reducible repeat (first | apply Kd.V_alloc | apply Kd.V_drewN | apply Kd.V_drew)); exact HO297.out) hg hat)
               have n8_ := Aside0.mk (hb)
               have n9_ := Aside0.mk (ho)
               clear HO_271000
               clear HO_271003
               clear BK270
               clear BK271
               clear BK274
               clear HO280
               clear HO289
               clear HO297
               clear HB
               clear HO292
               have HO_271000 := n0_
               have HO_271003 := n1_
               have BK270 := n2_
               have BK271 := n3_
               have BK274 := n4_
               have HO280 := n5_
               have HO289 := n6_
               have HO297 := n7_
               have HB := n8_
               have HO300 := n9_
               clear n0_ n1_ n2_ n3_ n4_ n5_ n6_ n7_ n8_ n9_
               clear ho hb hg hat
               obtain ⟨Ao50, co50, eo50⟩ := Kd.R_slice HO300.out
               (first | subst eo50 | (injection eo50 with f1_ f2_ f3_; have f4_ := f1_.symm; have f5_ := f3_.symm; clear f1_ f2_ f3_; subst f4_; subst f5_))
               refine hK.out _ _ ⟨(blk_cell BK270.out 0).trans rfl, (blk_cell BK270.out 1).trans rfl, (blk_cell BK270.out 2).trans rfl, (blk_cell BK270.out 3).trans rfl, (blk_cell BK270.out 4).trans rfl⟩ (fun hHeld => ?_)
               clear hK K
               refine norm_ (a' := ?_) ?_ ?_
               rotate_left
               ·show Act.put _ (some 55) _ = _
                simp only [Act.put, List.setIfInBounds_toArray, List.set_cons_zero, List.set_cons_succ, i64_w, i32_w]
                rfl
               refine pure_ (i := 12) (N := some 56) (v := ?_) (a' := ?_) #[true, true, true, true, true, true, true, true, true, true, true, true, true, false] rfl rfl (any_of HT_.out (by kernel_rfl)) (fun _ _ _ h => h) (Or.inl ⟨by rfl, ?_⟩) ?_ ?_
               rotate_left
               ·intro w'
                go_simp
                with_reducible rfl
               rotate_left
               ·simp only [Act.put, List.setIfInBounds_toArray, List.set_cons_zero, List.set_cons_succ, i64_w, i32_w]
                rfl
               refine last_ (i := 13) (N := none) #[true, true, true, true, true, true, true, true, true, true, true, true, true, true] rfl rfl (one_of HT_.out (by kernel_rfl)) (by decide) (fun K hK => ?_)
               have hs51 : w49.cell? ⟨gb270, 3, none⟩ = some (.slice (some ad273) x271003_1.length co26) := (blk_cell BK270.out 3).trans rfl
               have hfs51 := blk_frozen BK270.out 3
               have hns51_1 := NB271_270.out
               have hns51_2 := NB274_270.out
               have hms51_1 := NB270_271.out
               have hms51_2 := NB270_274.out
               refine skip_ (w1 := ?_) (by rfl) rfl ?_ ?_
               rotate_left
               ·go_simp
                rfl
               refine hK.out _ _ ?_
               clear hK K
               refine done_ (done_of HT_.out (by kernel_rfl)) ?_
               have hcz52_0 : w49.cell? ⟨gb270, 0, none⟩ = some (.slice (some ⟨go16, 0, none⟩) y278.length co36) := (blk_cell BK270.out 0).trans rfl
               have hcz52_1 : w49.cell? ⟨gb270, 1, none⟩ = some (.int .i64 a0_1) := (blk_cell BK270.out 1).trans rfl
               have hcz52_2 : w49.cell? ⟨gb270, 2, none⟩ = some (.int .i64 a0_2) := (blk_cell BK270.out 2).trans rfl
               have hcz52_3 : w49.cell? ⟨gb270, 3, none⟩ = some (.slice (some ad273) x271003_1.length co26) := (blk_cell BK270.out 3).trans rfl
               have hcz52_4 : w49.cell? ⟨gb270, 4, none⟩ = some (.bool a0_4) := (blk_cell BK270.out 4).trans rfl
               have hfz52_0 := blk_frozen BK270.out 0
               have hfz52_1 := blk_frozen BK270.out 1
               have hfz52_2 := blk_frozen BK270.out 2
               have hfz52_3 := blk_frozen BK270.out 3
               have hfz52_4 := blk_frozen BK270.out 4
               have hcz53_0 : w49.cell? ⟨gb271, 0, none⟩ = some (.slice none 0 0) := (blk_cell BK271.out 0).trans rfl
               have hcz53_1 : w49.cell? ⟨gb271, 1, none⟩ = some (.int .i64 x272001_1) := (blk_cell BK271.out 1).trans rfl
               have hcz53_2 : w49.cell? ⟨gb271, 2, none⟩ = some (.int .i64 x272002_1) := (blk_cell BK271.out 2).trans rfl
               have hcz53_3 : w49.cell? ⟨gb271, 3, none⟩ = some (.slice none 0 0) := (blk_cell BK271.out 3).trans rfl
               have hcz53_4 : w49.cell? ⟨gb271, 4, none⟩ = some (.bool x272004_1) := (blk_cell BK271.out 4).trans rfl
               have hfz53_0 := blk_frozen BK271.out 0
               have hfz53_1 := blk_frozen BK271.out 1
               have hfz53_2 := blk_frozen BK271.out 2
               have hfz53_3 := blk_frozen BK271.out 3
               have hfz53_4 := blk_frozen BK271.out 4
               try go_wp2
               refine bodyPost_ret (results_ct rfl _ _ gb271 46 #[.slice (some ⟨go16, 0, none⟩) y278.length co36, .int .i64 a0_1, .int .i64 a0_2, .slice Ao50 y298.length co50, .bool a0_4] (0, 0) _ rfl (by (with_reducible repeat (first | refine blk_drewN ?_ _ | refine blk_drew ?_ | refine blk_alloc ?_ _)); refine blk_put (cs := #[.slice (some ⟨go16, 0, none⟩) y278.length co36, .int .i64 a0_1, .int .i64 a0_2, .slice Ao50 y298.length co50, .bool x272004_1]) ?_ 4 _ rfl; (with_reducible repeat (first | refine blk_drewN ?_ _ | refine blk_drew ?_ | refine blk_alloc ?_ _)); refine blk_put (cs := #[.slice (some ⟨go16, 0, none⟩) y278.length co36, .int .i64 a0_1, .int .i64 a0_2, .slice none 0 0, .bool x272004_1]) ?_ 3 _ rfl; (with_reducible repeat (first | refine blk_drewN ?_ _ | refine blk_drew ?_ | refine blk_alloc ?_ _)); refine blk_put (cs := #[.slice (some ⟨go16, 0, none⟩) y278.length co36, .int .i64 a0_1, .int .i64 x272002_1, .slice none 0 0, .bool x272004_1]) ?_ 2 _ rfl; (with_reducible repeat (first | refine blk_drewN ?_ _ | refine blk_drew ?_ | refine blk_alloc ?_ _)); refine blk_put (cs := #[.slice (some ⟨go16, 0, none⟩) y278.length co36, .int .i64 x272001_1, .int .i64 x272002_1, .slice none 0 0, .bool x272004_1]) ?_ 1 _ rfl; (with_reducible repeat (first | refine blk_drewN ?_ _ | refine blk_drew ?_ | refine blk_alloc ?_ _)); refine blk_put (cs := #[.slice none 0 0, .int .i64 x272001_1, .int .i64 x272002_1, .slice none 0 0, .bool x272004_1]) ?_ 0 _ rfl; (with_reducible repeat (first | refine blk_drewN ?_ _ | refine blk_drew ?_ | refine blk_alloc ?_ _)); refine blk_far ?_ NB271_270.out _; (with_reducible repeat (first | refine blk_drewN ?_ _ | refine blk_drew ?_ | refine blk_alloc ?_ _)); exact BK271.out) Try.underlying46 rfl (by kernel_rfl)) rfl ?_
               exact ⟨_, _, by first | rfl | (simp [errW_none, errW_some] <;> rfl) | (simp only [← hji20]; first | rfl | (simp [errW_none, errW_some] <;> rfl)) | (simp [*, errW_none, errW_some] <;> rfl), by (with_reducible repeat (first | apply Kd.R_alloc | apply Kd.R_drewN | apply Kd.R_drew)); exact Kd.R_mono (Kd.R_far (p := ⟨gb271, 4, none⟩) (Kd.R_far (p := ⟨gb271, 3, none⟩) (Kd.R_far (p := ⟨gb271, 2, none⟩) (Kd.R_far (p := ⟨gb271, 1, none⟩) (Kd.R_far (p := ⟨gb271, 0, none⟩) (Kd.R_far (p := ⟨gb270, 3, none⟩) (Kd.R_types (Kd.R_types HO280.out BK270.out (by decide)) BK271.out (by decide)) (fun _ hk => hk.1.2) (.slice Ao50 y298.length co50)) (fun _ hk => hk.2) (.slice (some ⟨go16, 0, none⟩) y278.length co36)) (fun _ hk => hk.2) (.int .i64 a0_1)) (fun _ hk => hk.2) (.int .i64 a0_2)) (fun _ hk => hk.2) (.slice Ao50 y298.length co50)) (fun _ hk => hk.2) (.bool a0_4)) (fun _ hk => hk.1.1), by (with_reducible repeat (first | apply Kd.R_alloc | apply Kd.R_drewN | apply Kd.R_drew)); exact Kd.R_mono (Kd.R_far (p := ⟨gb271, 4, none⟩) (Kd.R_far (p := ⟨gb271, 3, none⟩) (Kd.R_far (p := ⟨gb271, 2, none⟩) (Kd.R_far (p := ⟨gb271, 1, none⟩) (Kd.R_far (p := ⟨gb271, 0, none⟩) (Kd.R_far (p := ⟨gb270, 3, none⟩) (Kd.R_types (Kd.R_types HO300.out BK270.out (by decide)) BK271.out (by decide)) (fun _ hk => hk.1.2) (.slice Ao50 y298.length co50)) (fun _ hk => hk.2) (.slice (some ⟨go16, 0, none⟩) y278.length co36)) (fun _ hk => hk.2) (.int .i64 a0_1)) (fun _ hk => hk.2) (.int .i64 a0_2)) (fun _ hk => hk.2) (.slice Ao50 y298.length co50)) (fun _ hk => hk.2) (.bool a0_4)) (fun _ hk => hk.1.1.1), by repeat (first | (with_reducible first | exact HB.out | apply below_alloc | apply pw_below_drewN | apply below_drew1 | refine below_set ?_ GE270.out | refine below_set ?_ GE271.out | refine below_set ?_ GE274.out) | exact HB.out)⟩
              ·rw [if_neg c23] at H
               exact absurd H (by simp)
             ·rw [if_neg c22] at H
              exact absurd H (by simp)
            ·rw [if_neg c21] at H
             exact absurd H (by simp)
           ·rw [if_neg c19] at H
            exact absurd H (by simp)
          ·rw [if_neg c18] at H
           exact absurd H (by simp)
         ·rw [if_neg c15] at H
          exact absurd H (by simp)
        ·rw [if_neg c14] at H
         exact absurd H (by simp)
       ·rw [if_neg c13] at H
        exact absurd H (by simp)
      ·rw [if_neg c12] at H
       have c12b0 : (((rd_T122 x271003_1 x7_1).f0) == a1) = false := beq_eq_false_iff_ne.mpr c12
       have c12b1 : (((rd_T122 x271003_1 x7_1).f0) != a1) = true := bne_iff_ne.mpr c12
       have H' := Aside0.mk H
       clear H
       have hnb54 := NB270_271.out
       have hnc54 := NB271_270.out
       have hcz55_0 : wr.cell? ⟨gb270, 0, none⟩ = some (u271000) := (blk_cell BK270.out 0).trans rfl
       have hcz55_1 : wr.cell? ⟨gb270, 1, none⟩ = some (.int .i64 a0_1) := (blk_cell BK270.out 1).trans rfl
       have hcz55_2 : wr.cell? ⟨gb270, 2, none⟩ = some (.int .i64 a0_2) := (blk_cell BK270.out 2).trans rfl
       have hcz55_3 : wr.cell? ⟨gb270, 3, none⟩ = some (u271003) := (blk_cell BK270.out 3).trans rfl
       have hcz55_4 : wr.cell? ⟨gb270, 4, none⟩ = some (.bool a0_4) := (blk_cell BK270.out 4).trans rfl
       have hfz55_0 := blk_frozen BK270.out 0
       have hfz55_1 := blk_frozen BK270.out 1
       have hfz55_2 := blk_frozen BK270.out 2
       have hfz55_3 := blk_frozen BK270.out 3
       have hfz55_4 := blk_frozen BK270.out 4
       obtain ⟨Ao56, co56, eo56⟩ := Kd.V_slice HO_271003.out
       subst eo56
       have p273 : 0 ≤ (x7_1 : Int) := of_decide_eq_true (by first | (with_reducible assumption) | assumption)
       have q273 : x7_1 < (x271003_1.length : Int) := of_decide_eq_true (by first | (with_reducible assumption) | assumption)
       obtain ⟨ad273, e273, hx273_0, hx273_1, hx273_2⟩ := at_T122 (Kd.V_reads' HO_271003.out).2.2 x7_1 p273 q273
       cases e273
       replace p273 := eq_true p273
       replace q273 := eq_true q273
       go_wp2_with (first | ((with_reducible refine gate_dst (N := 8) rfl ?_); refine box_event ?hg (N := 8) ?hd (cs := #[.int .i64 0, .int .i64 0, .int .i64 0]) (t := 122) ?hr ?_; (case hd => rfl); (case hg => rfl); (case hr => first | (go_simp; done) | (go_simp; rfl)); intro gb274 hg w57 hbox hb; have n0_ := Aside0.mk (Kd.V_below (Kd.V_elderB (by (with_reducible repeat (first | apply Kd.V_alloc | apply Kd.V_drewN | apply Kd.V_drew)); exact HO_271000.out) gb274 (Nat.le_of_eq hg.symm)) hb); have n1_ := Aside0.mk (Kd.V_below (Kd.V_elderB (by (with_reducible repeat (first | apply Kd.V_alloc | apply Kd.V_drewN | apply Kd.V_drew)); exact HO_271003.out) gb274 (Nat.le_of_eq hg.symm)) hb); have n2_ := Aside0.mk (blk_below (g := gb270) (o := .cells #[u271000, .int .i64 a0_1, .int .i64 a0_2, .slice (some ad273) x271003_1.length co56, .bool a0_4] 46 (0, 0)) (by (with_reducible repeat (first | refine blk_drewN ?_ _ | refine blk_drew ?_ | refine blk_alloc ?_ _)); exact BK270.out) hb); have n3_ := Aside0.mk (blk_below (g := gb271) (o := .cells #[.slice none 0 0, .int .i64 x272001_1, .int .i64 x272002_1, .slice none 0 0, .bool x272004_1] 46 (0, 0)) (by (with_reducible repeat (first | refine blk_drewN ?_ _ | refine blk_drew ?_ | refine blk_alloc ?_ _)); exact BK271.out) hb); have n4_ := Aside0.mk (below_step (by repeat (first | (with_reducible first | exact HB.out | apply below_alloc | apply pw_below_drewN | apply below_drew1 | refine below_set ?_ GE270.out | refine below_set ?_ GE271.out) | exact HB.out)) hb); have n5_ := Aside0.mk (hbox); have n6_ := Aside0.mk ((by rw [hg]; exact (below_size (by repeat (first | (with_reducible first | exact HB.out | apply below_alloc | apply pw_below_drewN | apply below_drew1 | refine below_set ?_ GE270.out | refine below_set ?_ GE271.out) | exact HB.out))) : w.heap.size ≤ gb274)); have n7_ := Aside0.mk ((by rw [hg]; exact (below_size (by repeat (first | (with_reducible first | exact HB.out | apply below_alloc | apply pw_below_drewN | apply below_drew1 | refine below_set ?_ GE270.out | refine below_set ?_ GE271.out) | exact HB.out))) : w.heap.size ≤ gb274)); have n8_ := Aside0.mk ((by rw [hg]; exact Nat.ne_of_lt (blk_lt (g := gb270) (o := .cells #[u271000, .int .i64 a0_1, .int .i64 a0_2, .slice (some ad273) x271003_1.length co56, .bool a0_4] 46 (0, 0)) (by (with_reducible repeat (first | refine blk_drewN ?_ _ | refine blk_drew ?_ | refine blk_alloc ?_ _)); exact BK270.out)) : gb270 ≠ gb274)); have n9_ := Aside0.mk ((by rw [hg]; exact Nat.ne_of_gt (blk_lt (g := gb270) (o := .cells #[u271000, .int .i64 a0_1, .int .i64 a0_2, .slice (some ad273) x271003_1.length co56, .bool a0_4] 46 (0, 0)) (by (with_reducible repeat (first | refine blk_drewN ?_ _ | refine blk_drew ?_ | refine blk_alloc ?_ _)); exact BK270.out)) : gb274 ≠ gb270)); have n10_ := Aside0.mk ((by rw [hg]; exact Nat.ne_of_lt (blk_lt (g := gb271) (o := .cells #[.slice none 0 0, .int .i64 x272001_1, .int .i64 x272002_1, .slice none 0 0, .bool x272004_1] 46 (0, 0)) (by (with_reducible repeat (first | refine blk_drewN ?_ _ | refine blk_drew ?_ | refine blk_alloc ?_ _)); exact BK271.out)) : gb271 ≠ gb274)); have n11_ := Aside0.mk ((by rw [hg]; exact Nat.ne_of_gt (blk_lt (g := gb271) (o := .cells #[.slice none 0 0, .int .i64 x272001_1, .int .i64 x272002_1, .slice none 0 0, .bool x272004_1] 46 (0, 0)) (by (with_reducible repeat (first | refine blk_drewN ?_ _ | refine blk_drew ?_ | refine blk_alloc ?_ _)); exact BK271.out)) : gb274 ≠ gb271)); clear HO_271000; clear HO_271003; clear BK270; clear BK271; clear HB; have HO_271000 := n0_; have HO_271003 := n1_; have BK270 := n2_; have BK271 := n3_; have HB := n4_; have BK274 := n5_; have GW274 := n6_; have GE274 := n7_; have NB270_274 := n8_; have NB274_270 := n9_; have NB271_274 := n10_; have NB274_271 := n11_; clear n0_ n1_ n2_ n3_ n4_ n5_ n6_ n7_ n8_ n9_ n10_ n11_; clear hb hbox hg; have hnb58 := NB274_270.out; have hnc58 := NB270_274.out; have hnb59 := NB274_271.out; have hnc59 := NB271_274.out; have hcz60_0 : w57.cell? ⟨gb274, 0, none⟩ = some (.int .i64 0) := (blk_cell BK274.out 0).trans rfl; have hcz60_1 : w57.cell? ⟨gb274, 1, none⟩ = some (.int .i64 0) := (blk_cell BK274.out 1).trans rfl; have hcz60_2 : w57.cell? ⟨gb274, 2, none⟩ = some (.int .i64 0) := (blk_cell BK274.out 2).trans rfl; have hfz60_0 := blk_frozen BK274.out 0; have hfz60_1 := blk_frozen BK274.out 1; have hfz60_2 := blk_frozen BK274.out 2))
       go_roundg k1
       case measure => have := HK1.out; omega
       case rel => exact ⟨(wrap64 (x7_1 + 1)), (x271000_1), (x271003_1), (x272001_1), (x272002_1), (x272004_1), (u271000), (.slice (some ad273) x271003_1.length co56), (by first | rfl | (simp; done) | (simp [*]; done)), H', ⟨by have := HK1.out; omega⟩, ⟨by (with_reducible repeat (first | apply Kd.V_alloc | apply Kd.V_drewN | apply Kd.V_drew)); exact Kd.V_mono (Kd.V_far (p := ⟨gb274, 2, none⟩) (Kd.V_far (p := ⟨gb274, 1, none⟩) (Kd.V_far (p := ⟨gb274, 0, none⟩) (Kd.V_mono HO_271000.out (fun k_ hk => (⟨hk, hk.2⟩ : _ ∧ k_ ≠ gb274))) (fun _ hk => hk.2) (.int .i64 ((rd_T122 x271003_1 x7_1).f0))) (fun _ hk => hk.2) (.int .i64 ((rd_T122 x271003_1 x7_1).f1))) (fun _ hk => hk.2) (.int .i64 ((rd_T122 x271003_1 x7_1).f2))) (fun _ hk => ⟨hk.1.1.1, ⟨hk.1.1.2.1, hk.1.1.2.2⟩⟩)⟩, ⟨by (with_reducible repeat (first | apply Kd.V_alloc | apply Kd.V_drewN | apply Kd.V_drew)); exact Kd.V_mono (Kd.V_far (p := ⟨gb274, 2, none⟩) (Kd.V_far (p := ⟨gb274, 1, none⟩) (Kd.V_far (p := ⟨gb274, 0, none⟩) (Kd.V_mono HO_271003.out (fun k_ hk => (⟨hk, hk.2⟩ : _ ∧ k_ ≠ gb274))) (fun _ hk => hk.2) (.int .i64 ((rd_T122 x271003_1 x7_1).f0))) (fun _ hk => hk.2) (.int .i64 ((rd_T122 x271003_1 x7_1).f1))) (fun _ hk => hk.2) (.int .i64 ((rd_T122 x271003_1 x7_1).f2))) (fun _ hk => ⟨hk.1.1.1, ⟨hk.1.1.2.1, hk.1.1.2.2⟩⟩)⟩, ⟨by (with_reducible repeat (first | refine blk_drewN ?_ _ | refine blk_drew ?_ | refine blk_alloc ?_ _)); refine blk_far ?_ NB270_274.out _; (with_reducible repeat (first | refine blk_drewN ?_ _ | refine blk_drew ?_ | refine blk_alloc ?_ _)); refine blk_far ?_ NB270_274.out _; (with_reducible repeat (first | refine blk_drewN ?_ _ | refine blk_drew ?_ | refine blk_alloc ?_ _)); refine blk_far ?_ NB270_274.out _; (with_reducible repeat (first | refine blk_drewN ?_ _ | refine blk_drew ?_ | refine blk_alloc ?_ _)); exact BK270.out⟩, ⟨by (with_reducible repeat (first | refine blk_drewN ?_ _ | refine blk_drew ?_ | refine blk_alloc ?_ _)); refine blk_far ?_ NB271_274.out _; (with_reducible repeat (first | refine blk_drewN ?_ _ | refine blk_drew ?_ | refine blk_alloc ?_ _)); refine blk_far ?_ NB271_274.out _; (with_reducible repeat (first | refine blk_drewN ?_ _ | refine blk_drew ?_ | refine blk_alloc ?_ _)); refine blk_far ?_ NB271_274.out _; (with_reducible repeat (first | refine blk_drewN ?_ _ | refine blk_drew ?_ | refine blk_alloc ?_ _)); exact BK271.out⟩, ⟨by repeat (first | (with_reducible first | exact HB.out | apply below_alloc | apply pw_below_drewN | apply below_drew1 | refine below_set ?_ GE270.out | refine below_set ?_ GE271.out | refine below_set ?_ GE274.out) | exact HB.out)⟩⟩
     ·rw [if_neg c11] at H
      exact absurd H (by simp)
    ·rw [if_neg c10] at H
     have c10b0 : decide (x7_1 < (x271003_1.length : Int)) = false := decide_eq_false c10
     clear c10
     simp only [Option.some.injEq, Prod.mk.injEq] at H
     obtain ⟨rfl, rfl, rfl, rfl, rfl, rfl⟩ := H
     have hnb61 := NB270_271.out
     have hnc61 := NB271_270.out
     have hcz62_0 : wr.cell? ⟨gb270, 0, none⟩ = some (u271000) := (blk_cell BK270.out 0).trans rfl
     have hcz62_1 : wr.cell? ⟨gb270, 1, none⟩ = some (.int .i64 a0_1) := (blk_cell BK270.out 1).trans rfl
     have hcz62_2 : wr.cell? ⟨gb270, 2, none⟩ = some (.int .i64 a0_2) := (blk_cell BK270.out 2).trans rfl
     have hcz62_3 : wr.cell? ⟨gb270, 3, none⟩ = some (u271003) := (blk_cell BK270.out 3).trans rfl
     have hcz62_4 : wr.cell? ⟨gb270, 4, none⟩ = some (.bool a0_4) := (blk_cell BK270.out 4).trans rfl
     have hfz62_0 := blk_frozen BK270.out 0
     have hfz62_1 := blk_frozen BK270.out 1
     have hfz62_2 := blk_frozen BK270.out 2
     have hfz62_3 := blk_frozen BK270.out 3
     have hfz62_4 := blk_frozen BK270.out 4
     obtain ⟨Ao63, co63, eo63⟩ := Kd.V_slice HO_271003.out
     subst eo63
     have hcz64_0 : wr.cell? ⟨gb271, 0, none⟩ = some (.slice none 0 0) := (blk_cell BK271.out 0).trans rfl
     have hcz64_1 : wr.cell? ⟨gb271, 1, none⟩ = some (.int .i64 x272001_1) := (blk_cell BK271.out 1).trans rfl
     have hcz64_2 : wr.cell? ⟨gb271, 2, none⟩ = some (.int .i64 x272002_1) := (blk_cell BK271.out 2).trans rfl
     have hcz64_3 : wr.cell? ⟨gb271, 3, none⟩ = some (.slice none 0 0) := (blk_cell BK271.out 3).trans rfl
     have hcz64_4 : wr.cell? ⟨gb271, 4, none⟩ = some (.bool x272004_1) := (blk_cell BK271.out 4).trans rfl
     have hfz64_0 := blk_frozen BK271.out 0
     have hfz64_1 := blk_frozen BK271.out 1
     have hfz64_2 := blk_frozen BK271.out 2
     have hfz64_3 := blk_frozen BK271.out 3
     have hfz64_4 := blk_frozen BK271.out 4
     go_wp2
     refine bodyPost_ret (results_ct rfl _ _ gb271 46 #[.slice none 0 0, .int .i64 0, .int .i64 0, .slice none 0 0, .bool false] (0, 0) _ rfl (by (with_reducible repeat (first | refine blk_drewN ?_ _ | refine blk_drew ?_ | refine blk_alloc ?_ _)); refine blk_put (cs := #[.slice none 0 0, .int .i64 0, .int .i64 0, .slice none 0 0, .bool x272004_1]) ?_ 4 _ rfl; (with_reducible repeat (first | refine blk_drewN ?_ _ | refine blk_drew ?_ | refine blk_alloc ?_ _)); refine blk_put (cs := #[.slice none 0 0, .int .i64 0, .int .i64 0, .slice none 0 0, .bool x272004_1]) ?_ 3 _ rfl; (with_reducible repeat (first | refine blk_drewN ?_ _ | refine blk_drew ?_ | refine blk_alloc ?_ _)); refine blk_put (cs := #[.slice none 0 0, .int .i64 0, .int .i64 x272002_1, .slice none 0 0, .bool x272004_1]) ?_ 2 _ rfl; (with_reducible repeat (first | refine blk_drewN ?_ _ | refine blk_drew ?_ | refine blk_alloc ?_ _)); refine blk_put (cs := #[.slice none 0 0, .int .i64 x272001_1, .int .i64 x272002_1, .slice none 0 0, .bool x272004_1]) ?_ 1 _ rfl; (with_reducible repeat (first | refine blk_drewN ?_ _ | refine blk_drew ?_ | refine blk_alloc ?_ _)); refine blk_put (cs := #[.slice none 0 0, .int .i64 x272001_1, .int .i64 x272002_1, .slice none 0 0, .bool x272004_1]) ?_ 0 _ rfl; (with_reducible repeat (first | refine blk_drewN ?_ _ | refine blk_drew ?_ | refine blk_alloc ?_ _)); exact BK271.out) Try.underlying46 rfl (by kernel_rfl)) rfl ?_
     exact ⟨_, _, by first | rfl | (simp [errW_none, errW_some] <;> rfl) | (simp [*, errW_none, errW_some] <;> rfl), by first | exact Kd.R_nil _ _ _ _ _ | exact Kd.N_nil _ _ _ _ _ | exact Kd.V_nil _ _ _ _ _ | exact Kd.Q_nil _ _ _ _ _ | exact Kd.S_nil _ _ _ _ _, by first | exact Kd.R_nil _ _ _ _ _ | exact Kd.N_nil _ _ _ _ _ | exact Kd.V_nil _ _ _ _ _ | exact Kd.Q_nil _ _ _ _ _ | exact Kd.S_nil _ _ _ _ _, by repeat (first | (with_reducible first | exact HB.out | apply below_alloc | apply pw_below_drewN | apply below_drew1 | refine below_set ?_ GE270.out | refine below_set ?_ GE271.out) | exact HB.out)⟩
 ·rw [if_neg c4] at H
  have c4b0 : (t272 == 0) = false := beq_eq_false_iff_ne.mpr c4
  have c4b1 : (t272 != 0) = true := bne_iff_ne.mpr c4
  simp only [Option.some.injEq, Prod.mk.injEq] at H
  obtain ⟨rfl, rfl, rfl, rfl, rfl, rfl⟩ := H
  go_enter Try.func48, Try.ntmps48
  go_wp2_with (first | ((with_reducible refine gate_dst (N := 2) rfl ?_); refine box_event ?hg (N := 2) ?hd (cs := #[.slice A0_0 l0_0.length c0_0, .int .i64 a0_1, .int .i64 a0_2, .slice A0_3 l0_3.length c0_3, .bool a0_4]) (t := 46) ?hr ?_; (case hd => rfl); (case hg => rfl); (case hr => first | (go_simp; done) | (go_simp; rfl)); intro gb270 hg w65 hbox hb; have n0_ := Aside0.mk (Kd.V_below (Kd.V_elderB (by (with_reducible repeat (first | apply Kd.V_alloc | apply Kd.V_drewN | apply Kd.V_drew)); exact HO0_0.out) gb270 (Nat.le_of_eq hg.symm)) hb); have n1_ := Aside0.mk (Kd.V_below (Kd.V_elderB (by (with_reducible repeat (first | apply Kd.V_alloc | apply Kd.V_drewN | apply Kd.V_drew)); exact HO0_3.out) gb270 (Nat.le_of_eq hg.symm)) hb); have n2_ := Aside0.mk (below_step (by repeat (first | (with_reducible first | exact HB.out | apply below_alloc | apply pw_below_drewN | apply below_drew1) | exact HB.out)) hb); have n3_ := Aside0.mk (hbox); have n4_ := Aside0.mk ((by rw [hg]; exact (below_size (by repeat (first | (with_reducible first | exact HB.out | apply below_alloc | apply pw_below_drewN | apply below_drew1) | exact HB.out))) : w.heap.size ≤ gb270)); have n5_ := Aside0.mk ((by rw [hg]; exact (below_size (by repeat (first | (with_reducible first | exact HB.out | apply below_alloc | apply pw_below_drewN | apply below_drew1) | exact HB.out))) : w.heap.size ≤ gb270)); clear HO0_0; clear HO0_3; clear HB; have HO0_0 := n0_; have HO0_3 := n1_; have HB := n2_; have BK270 := n3_; have GW270 := n4_; have GE270 := n5_; clear n0_ n1_ n2_ n3_ n4_ n5_; clear hb hbox hg) | ((with_reducible refine gate_dst (N := 4) rfl ?_); refine box_event ?hg (N := 4) ?hd (cs := #[.slice none 0 0, .int .i64 0, .int .i64 0, .slice none 0 0, .bool false]) (t := 46) ?hr ?_; (case hd => rfl); (case hg => rfl); (case hr => first | (go_simp; done) | (go_simp; rfl)); intro gb271 hg w66 hbox hb; have n0_ := Aside0.mk (Kd.V_below (Kd.V_elderB (by (with_reducible repeat (first | apply Kd.V_alloc | apply Kd.V_drewN | apply Kd.V_drew)); exact HO0_0.out) gb271 (Nat.le_of_eq hg.symm)) hb); have n1_ := Aside0.mk (Kd.V_below (Kd.V_elderB (by (with_reducible repeat (first | apply Kd.V_alloc | apply Kd.V_drewN | apply Kd.V_drew)); exact HO0_3.out) gb271 (Nat.le_of_eq hg.symm)) hb); have n2_ := Aside0.mk (blk_below (g := gb270) (o := .cells #[.slice A0_0 l0_0.length c0_0, .int .i64 a0_1, .int .i64 a0_2, .slice A0_3 l0_3.length c0_3, .bool a0_4] 46 (0, 0)) (by (with_reducible repeat (first | refine blk_drewN ?_ _ | refine blk_drew ?_ | refine blk_alloc ?_ _)); exact BK270.out) hb); have n3_ := Aside0.mk (below_step (by repeat (first | (with_reducible first | exact HB.out | apply below_alloc | apply pw_below_drewN | apply below_drew1 | refine below_set ?_ GE270.out) | exact HB.out)) hb); have n4_ := Aside0.mk (hbox); have n5_ := Aside0.mk ((by rw [hg]; exact (below_size (by repeat (first | (with_reducible first | exact HB.out | apply below_alloc | apply pw_below_drewN | apply below_drew1 | refine below_set ?_ GE270.out) | exact HB.out))) : w.heap.size ≤ gb271)); have n6_ := Aside0.mk ((by rw [hg]; exact (below_size (by repeat (first | (with_reducible first | exact HB.out | apply below_alloc | apply pw_below_drewN | apply below_drew1 | refine below_set ?_ GE270.out) | exact HB.out))) : w.heap.size ≤ gb271)); have n7_ := Aside0.mk ((by rw [hg]; exact Nat.ne_of_lt (blk_lt (g := gb270) (o := .cells #[.slice A0_0 l0_0.length c0_0, .int .i64 a0_1, .int .i64 a0_2, .slice A0_3 l0_3.length c0_3, .bool a0_4] 46 (0, 0)) (by (with_reducible repeat (first | refine blk_drewN ?_ _ | refine blk_drew ?_ | refine blk_alloc ?_ _)); exact BK270.out)) : gb270 ≠ gb271)); have n8_ := Aside0.mk ((by rw [hg]; exact Nat.ne_of_gt (blk_lt (g := gb270) (o := .cells #[.slice A0_0 l0_0.length c0_0, .int .i64 a0_1, .int .i64 a0_2, .slice A0_3 l0_3.length c0_3, .bool a0_4] 46 (0, 0)) (by (with_reducible repeat (first | refine blk_drewN ?_ _ | refine blk_drew ?_ | refine blk_alloc ?_ _)); exact BK270.out)) : gb271 ≠ gb270)); clear HO0_0; clear HO0_3; clear BK270; clear HB; have HO0_0 := n0_; have HO0_3 := n1_; have BK270 := n2_; have HB := n3_; have BK271 := n4_; have GW271 := n5_; have GE271 := n6_; have NB270_271 := n7_; have NB271_270 := n8_; clear n0_ n1_ n2_ n3_ n4_ n5_ n6_ n7_ n8_; clear hb hbox hg; have hnb67 := NB270_271.out; have hnc67 := NB271_270.out; have hcz68_0 : w66.cell? ⟨gb270, 0, none⟩ = some (.slice A0_0 l0_0.length c0_0) := (blk_cell BK270.out 0).trans rfl; have hcz68_1 : w66.cell? ⟨gb270, 1, none⟩ = some (.int .i64 a0_1) := (blk_cell BK270.out 1).trans rfl; have hcz68_2 : w66.cell? ⟨gb270, 2, none⟩ = some (.int .i64 a0_2) := (blk_cell BK270.out 2).trans rfl; have hcz68_3 : w66.cell? ⟨gb270, 3, none⟩ = some (.slice A0_3 l0_3.length c0_3) := (blk_cell BK270.out 3).trans rfl; have hcz68_4 : w66.cell? ⟨gb270, 4, none⟩ = some (.bool a0_4) := (blk_cell BK270.out 4).trans rfl; have hfz68_0 := blk_frozen BK270.out 0; have hfz68_1 := blk_frozen BK270.out 1; have hfz68_2 := blk_frozen BK270.out 2; have hfz68_3 := blk_frozen BK270.out 3; have hfz68_4 := blk_frozen BK270.out 4) | ((with_reducible refine gate_callee (f := 20) rfl ?_); refine goesL_ (some 10) rfl rfl Try.func20 (by kernel_rfl) rfl #[.agg #[.slice A0_0 l0_0.length c0_0, .int .i64 a0_1, .int .i64 a0_2, .slice A0_3 l0_3.length c0_3, .bool a0_4]] rfl (by (try simp only [List.map_toArray, List.map_cons, List.map_nil]); first | done | rfl | (simp only [List.length_drop, List.length_take]; rfl)) ?_; (with_reducible refine (hackamoreref28_Check.calls k _ _ l0_0 a0_1 a0_2 _ _ l0_3 a0_4 t272 _ ?side1 ?side2 ?side3 ?side4 A3.out).mono ?_); (case side1 => repeat (first | exact (Kd.V_reads' HO0_0.out).2.2 | (with_reducible refine Kd.C_alloc ?_ _) | (with_reducible refine Kd.C_drewN ?_ _) | (with_reducible refine Kd.C_drew ?_))); (case side2 => exact (Kd.V_reads' HO0_0.out).2.1); (case side3 => repeat (first | exact (Kd.V_reads' HO0_3.out).2.2 | (with_reducible refine Kd.C_alloc ?_ _) | (with_reducible refine Kd.C_drewN ?_ _) | (with_reducible refine Kd.C_drew ?_))); (case side4 => exact (Kd.V_reads' HO0_3.out).2.1); rintro e w69 ⟨rfl, hb⟩; refine ⟨_, rfl, ?_⟩; have n0_ := Aside0.mk (Kd.V_below (by (with_reducible repeat (first | apply Kd.V_alloc | apply Kd.V_drewN | apply Kd.V_drew)); exact HO0_0.out) hb); have n1_ := Aside0.mk (Kd.V_below (by (with_reducible repeat (first | apply Kd.V_alloc | apply Kd.V_drewN | apply Kd.V_drew)); exact HO0_3.out) hb); have n2_ := Aside0.mk (blk_below (g := gb270) (o := .cells #[.slice A0_0 l0_0.length c0_0, .int .i64 a0_1, .int .i64 a0_2, .slice A0_3 l0_3.length c0_3, .bool a0_4] 46 (0, 0)) (by (with_reducible repeat (first | refine blk_drewN ?_ _ | refine blk_drew ?_ | refine blk_alloc ?_ _)); exact BK270.out) hb); have n3_ := Aside0.mk (blk_below (g := gb271) (o := .cells #[.slice none 0 0, .int .i64 0, .int .i64 0, .slice none 0 0, .bool false] 46 (0, 0)) (by (with_reducible repeat (first | refine blk_drewN ?_ _ | refine blk_drew ?_ | refine blk_alloc ?_ _)); exact BK271.out) hb); have n4_ := Aside0.mk (below_step (by repeat (first | (with_reducible first | exact HB.out | apply below_alloc | apply pw_below_drewN | apply below_drew1 | refine below_set ?_ GE270.out | refine below_set ?_ GE271.out) | exact HB.out)) hb); clear HO0_0; clear HO0_3; clear BK270; clear BK271; clear HB; have HO0_0 := n0_; have HO0_3 := n1_; have BK270 := n2_; have BK271 := n3_; have HB := n4_; clear n0_ n1_ n2_ n3_ n4_; (try clear hb); (try clear hb2); (try clear hk); (try clear hi); have hcz70_0 : w69.cell? ⟨gb271, 0, none⟩ = some (.slice none 0 0) := (blk_cell BK271.out 0).trans rfl; have hcz70_1 : w69.cell? ⟨gb271, 1, none⟩ = some (.int .i64 0) := (blk_cell BK271.out 1).trans rfl; have hcz70_2 : w69.cell? ⟨gb271, 2, none⟩ = some (.int .i64 0) := (blk_cell BK271.out 2).trans rfl; have hcz70_3 : w69.cell? ⟨gb271, 3, none⟩ = some (.slice none 0 0) := (blk_cell BK271.out 3).trans rfl; have hcz70_4 : w69.cell? ⟨gb271, 4, none⟩ = some (.bool false) := (blk_cell BK271.out 4).trans rfl; have hfz70_0 := blk_frozen BK271.out 0; have hfz70_1 := blk_frozen BK271.out 1; have hfz70_2 := blk_frozen BK271.out 2; have hfz70_3 := blk_frozen BK271.out 3; have hfz70_4 := blk_frozen BK271.out 4))
  refine bodyPost_ret (results_ct rfl _ _ gb271 46 #[.slice none 0 0, .int .i64 0, .int .i64 0, .slice none 0 0, .bool false] (0, 0) _ rfl (by (with_reducible repeat (first | refine blk_drewN ?_ _ | refine blk_drew ?_ | refine blk_alloc ?_ _)); refine blk_put (cs := #[.slice none 0 0, .int .i64 0, .int .i64 0, .slice none 0 0, .bool false]) ?_ 4 _ rfl; (with_reducible repeat (first | refine blk_drewN ?_ _ | refine blk_drew ?_ | refine blk_alloc ?_ _)); refine blk_put (cs := #[.slice none 0 0, .int .i64 0, .int .i64 0, .slice none 0 0, .bool false]) ?_ 3 _ rfl; (with_reducible repeat (first | refine blk_drewN ?_ _ | refine blk_drew ?_ | refine blk_alloc ?_ _)); refine blk_put (cs := #[.slice none 0 0, .int .i64 0, .int .i64 0, .slice none 0 0, .bool false]) ?_ 2 _ rfl; (with_reducible repeat (first | refine blk_drewN ?_ _ | refine blk_drew ?_ | refine blk_alloc ?_ _)); refine blk_put (cs := #[.slice none 0 0, .int .i64 0, .int .i64 0, .slice none 0 0, .bool false]) ?_ 1 _ rfl; (with_reducible repeat (first | refine blk_drewN ?_ _ | refine blk_drew ?_ | refine blk_alloc ?_ _)); refine blk_put (cs := #[.slice none 0 0, .int .i64 0, .int .i64 0, .slice none 0 0, .bool false]) ?_ 0 _ rfl; (with_reducible repeat (first | refine blk_drewN ?_ _ | refine blk_drew ?_ | refine blk_alloc ?_ _)); exact BK271.out) Try.underlying46 rfl (by kernel_rfl)) rfl ?_
  exact ⟨_, _, by first | rfl | (simp [errW_none, errW_some] <;> rfl) | (simp [*, errW_none, errW_some] <;> rfl), by first | exact Kd.R_nil _ _ _ _ _ | exact Kd.N_nil _ _ _ _ _ | exact Kd.V_nil _ _ _ _ _ | exact Kd.Q_nil _ _ _ _ _ | exact Kd.S_nil _ _ _ _ _, by first | exact Kd.R_nil _ _ _ _ _ | exact Kd.N_nil _ _ _ _ _ | exact Kd.V_nil _ _ _ _ _ | exact Kd.Q_nil _ _ _ _ _ | exact Kd.S_nil _ _ _ _ _, by repeat (first | (with_reducible first | exact HB.out | apply below_alloc | apply pw_below_drewN | apply below_drew1 | refine below_set ?_ GE270.out | refine below_set ?_ GE271.out) | exact HB.out)⟩
end Go.Proofs.Ytgbafpjeapkklaa.PMailboxRuns
