/- Parts Rj, Sb, Sc, Sd, Rb, Rc of the proof. -/
import Derived.Test.YtgbafpjeapkklaaG3
import Derived.Test.YtgbafpjeapkklaaG4
import Derived.Test.YtgbafpjeapkklaaG5
import Derived.Test.YtgbafpjeapkklaaG6
import Derived.Test.YtgbafpjeapkklaaG7
namespace Go.Proofs.Ytgbafpjeapkklaa.PMailboxRuns
open Go.RowKit Go.Proofs.YtgbafpjeapkklaaW.PrintWords Go.Proofs.YtgbafpjeapkklaaW.PrintLast Go.Proofs.YtgbafpjeapkklaaW.PrintMore
attribute [local go_sem] max2_int min2_int max_two min_two max_three min_three max_four min_four
set_option linter.unusedVariables false
set_option linter.unusedSimpArgs false
def hackamoreref28_Waiting.l0 : Nat → List Int → List Int → Bool → Int → List (S105) → Int → Int → List (S122) → Bool → Option (List Int × Int)
 | 0, _, _, _, _, _, _, _, _, _ => none
 | k + 1, x5, x6, x7, x8, x332000, x332001, x332002, x332003, x332004 => if x8 < (x6.length : Int) then (if x7 = true then (if 0 ≤ x8 then (if 0 ≤ (rd x6 x8) then (if (rd x6 x8) < (x332000.length : Int) then (if x5.length < 17592186044416 then (hackamoreref28_Waiting.l0 k (x5 ++ [(rd_T105 x332000 (rd x6 x8)).f0]) x6 true (wrap64 (x8 + 1)) x332000 x332001 x332002 x332003 x332004) else (none)) else (none)) else (none)) else (none)) else (if 0 ≤ x8 then (hackamoreref28_Waiting.l0 k x5 x6 ((rd x6 x8) == x332002) (wrap64 (x8 + 1)) x332000 x332001 x332002 x332003 x332004) else (none))) else (some (x5, 0))
def hackamoreref28_Waiting.f (k : Nat) (l0_0 : List (S105)) (a0_1 : Int) (a0_2 : Int) (l0_3 : List (S122)) (a0_4 : Bool) : Option (List Int × Int) := (hackamoreref28_Check.f k l0_0 a0_1 a0_2 l0_3 a0_4).bind fun t332 => (if t332 = 0 then ((hackamoreref28_Order.f k l0_0 a0_1 a0_2 l0_3 a0_4).bind fun t336 => (hackamoreref28_Waiting.l0 k (([] : List Int)) t336 false 0 l0_0 a0_1 a0_2 l0_3 a0_4)) else (some (([] : List Int), t332)))
def hackamoreref28_Waiting.T11 : Bool × List (List Nat × List Nat) := (true, [([], []), ([], []), ([1], [1]), ([], []), ([], []), ([3, 4], [3, 4]), ([5], [5]), ([2, 6], [2, 6]), ([7], [7]), ([8], [8]), ([9], [9]), ([0, 10], [0, 10]), ([11, 11, 0, 1, 2, 3, 4, 5, 6, 7, 8, 9, 10, 11], [0, 11])])
def hackamoreref28_Waiting.B11 : List Nat := [0, 0, 2, 0, 0, 24, 56, 126, 254, 510, 1022, 2047, 4095]
theorem hackamoreref28_Waiting.tab11 : rtab .any (opsOf Try.f52 11) = hackamoreref28_Waiting.T11 := by kernel_rfl
theorem hackamoreref28_Waiting.bits11 : waitsOk hackamoreref28_Waiting.T11.2 hackamoreref28_Waiting.B11 = true := by kernel_rfl
def hackamoreref28_Waiting.T12 : Bool × List (List Nat × List Nat) := (true, [([], []), ([0], [0]), ([1], [1]), ([1], [1]), ([2, 3, 1], [1, 2, 3]), ([4, 1], [1, 4]), ([1], [1]), ([6, 1], [1, 6]), ([5, 7, 1], [1, 5, 7]), ([1, 8], [1, 8]), ([9, 1, 0, 1, 2, 3, 4, 5, 6, 7, 8, 9], [0, 9])])
def hackamoreref28_Waiting.B12 : List Nat := [0, 1, 3, 3, 15, 31, 3, 67, 255, 511, 1023]
theorem hackamoreref28_Waiting.tab12 : rtab .any (opsOf Try.f52 12) = hackamoreref28_Waiting.T12 := by kernel_rfl
theorem hackamoreref28_Waiting.bits12 : waitsOk hackamoreref28_Waiting.T12.2 hackamoreref28_Waiting.B12 = true := by kernel_rfl
set_option maxHeartbeats 8000000 in
set_option maxRecDepth 100000 in
theorem hackamoreref28_Waiting.calls (k : Nat) (A0_0 : Option Addr) (c0_0 : Nat) (l0_0 : List (S105)) (a0_1 : Int) (a0_2 : Int) (A0_3 : Option Addr) (c0_3 : Nat) (l0_3 : List (S122)) (a0_4 : Bool) (r1 : List Int) (r2 : Int) (w : World) (hr0_0 : Kd.C k105 w A0_0 l0_0.length l0_0) (hc0_0 : l0_0.length ≤ c0_0) (hr0_3 : Kd.C k122 w A0_3 l0_3.length l0_3) (hc0_3 : l0_3.length ≤ c0_3) (h : hackamoreref28_Waiting.f k l0_0 a0_1 a0_2 l0_3 a0_4 = some (r1, r2)) :
  Calls Try.prog 52 #[.agg #[.slice A0_0 l0_0.length c0_0, .int .i64 a0_1, .int .i64 a0_2, .slice A0_3 l0_3.length c0_3, .bool a0_4]] w fun e w' => ∃ v0_ : Value, e = .returned (.tuple #[v0_, .int .i64 r2]) ∧ Kd.R (Kd.int .i64) 3 w' w.heap.size (fun _ => True) v0_ r1 ∧ Below w.heap.size w w' := by
 have hu46 := Try.underlying46
 have HR0_0 := Aside0.mk hr0_0
 have HC0_0 := Aside0.mk hc0_0
 clear hr0_0 hc0_0
 have HR0_3 := Aside0.mk hr0_3
 have HC0_3 := Aside0.mk hc0_3
 clear hr0_3 hc0_3
 have HB := Aside0.mk (Below.refl w.heap.size w)
 have H : ((hackamoreref28_Check.f k l0_0 a0_1 a0_2 l0_3 a0_4).bind fun t332 => (if t332 = 0 then ((hackamoreref28_Order.f k l0_0 a0_1 a0_2 l0_3 a0_4).bind fun t336 => (hackamoreref28_Waiting.l0 k (([] : List Int)) t336 false 0 l0_0 a0_1 a0_2 l0_3 a0_4)) else (some (([] : List Int), t332)))) = some (r1, r2) := h
 clear h
 replace H := Option.bind_eq_some_iff.mp H
 obtain ⟨t332, A20, H⟩ := H
 replace H : (if t332 = 0 then ((hackamoreref28_Order.f k l0_0 a0_1 a0_2 l0_3 a0_4).bind fun t336 => (hackamoreref28_Waiting.l0 k (([] : List Int)) t336 false 0 l0_0 a0_1 a0_2 l0_3 a0_4)) else (some (([] : List Int), t332))) = some (r1, r2) := H
 have A2 := Aside0.mk A20
 clear A20
 by_cases c3 : t332 = 0
 ·rw [if_pos c3] at H
  have c3b0 : (t332 == 0) = true := beq_iff_eq.mpr c3
  have c3b1 : (t332 != 0) = false := bne_eq_false_iff_eq.mpr c3
  clear c3
  obtain ⟨y333, hy333⟩ : ∃ y_ : List Int, y_ = (([] : List Int)) := ⟨_, rfl⟩
  replace H : ((hackamoreref28_Order.f k l0_0 a0_1 a0_2 l0_3 a0_4).bind fun t336 => (hackamoreref28_Waiting.l0 k y333 t336 false 0 l0_0 a0_1 a0_2 l0_3 a0_4)) = some (r1, r2) := by first | (rw [hy333]; with_reducible exact H) | (have H2_ := (Option.bind_some _ _).symm.trans H; rw [hy333]; with_reducible exact H2_) | (have H2_ := (Option.bind_some _ _).symm.trans H; with_reducible exact H2_) | with_reducible exact H | (rw [hy333]; exact H) | exact H
  have Ny333 := Aside0.mk hy333
  clear hy333
  replace H := Option.bind_eq_some_iff.mp H
  obtain ⟨t336, A40, H⟩ := H
  replace H : (hackamoreref28_Waiting.l0 k y333 t336 false 0 l0_0 a0_1 a0_2 l0_3 a0_4) = some (r1, r2) := H
  have A4 := Aside0.mk A40
  clear A40
  have H' := Aside0.mk H
  clear H
  go_enter Try.func52, Try.ntmps52
  go_wp2_with (first | ((with_reducible refine gate_dst (N := 1) rfl ?_); refine box_event ?hg (N := 1) ?hd (cs := #[.slice A0_0 l0_0.length c0_0, .int .i64 a0_1, .int .i64 a0_2, .slice A0_3 l0_3.length c0_3, .bool a0_4]) (t := 46) ?hr ?_; (case hd => rfl); (case hg => rfl); (case hr => first | (go_simp; done) | (go_simp; rfl)); intro gb331 hg w5 hbox hb; have n0_ := Aside0.mk (below_step (by repeat (first | (with_reducible first | exact HB.out | apply below_alloc | apply pw_below_drewN | apply below_drew1) | exact HB.out)) hb); have n1_ := Aside0.mk (hbox); have n2_ := Aside0.mk ((by rw [hg]; exact (below_size (by repeat (first | (with_reducible first | exact HB.out | apply below_alloc | apply pw_below_drewN | apply below_drew1) | exact HB.out))) : w.heap.size ≤ gb331)); have n3_ := Aside0.mk ((by rw [hg]; exact (below_size (by repeat (first | (with_reducible first | exact HB.out | apply below_alloc | apply pw_below_drewN | apply below_drew1) | exact HB.out))) : w.heap.size ≤ gb331)); clear HB; have HB := n0_; have BK331 := n1_; have GW331 := n2_; have GE331 := n3_; clear n0_ n1_ n2_ n3_; clear hb hbox hg; have hcz6_0 : w5.cell? ⟨gb331, 0, none⟩ = some (.slice A0_0 l0_0.length c0_0) := (blk_cell BK331.out 0).trans rfl; have hcz6_1 : w5.cell? ⟨gb331, 1, none⟩ = some (.int .i64 a0_1) := (blk_cell BK331.out 1).trans rfl; have hcz6_2 : w5.cell? ⟨gb331, 2, none⟩ = some (.int .i64 a0_2) := (blk_cell BK331.out 2).trans rfl; have hcz6_3 : w5.cell? ⟨gb331, 3, none⟩ = some (.slice A0_3 l0_3.length c0_3) := (blk_cell BK331.out 3).trans rfl; have hcz6_4 : w5.cell? ⟨gb331, 4, none⟩ = some (.bool a0_4) := (blk_cell BK331.out 4).trans rfl; have hfz6_0 := blk_frozen BK331.out 0; have hfz6_1 := blk_frozen BK331.out 1; have hfz6_2 := blk_frozen BK331.out 2; have hfz6_3 := blk_frozen BK331.out 3; have hfz6_4 := blk_frozen BK331.out 4) | ((with_reducible refine gate_callee (f := 20) rfl ?_); refine goesL_ (some 10) rfl rfl Try.func20 (by kernel_rfl) rfl #[.agg #[.slice A0_0 l0_0.length c0_0, .int .i64 a0_1, .int .i64 a0_2, .slice A0_3 l0_3.length c0_3, .bool a0_4]] rfl (by (try simp only [List.map_toArray, List.map_cons, List.map_nil]); first | done | rfl | (simp only [List.length_drop, List.length_take]; rfl)) ?_; (with_reducible refine (hackamoreref28_Check.calls k _ _ l0_0 a0_1 a0_2 _ _ l0_3 a0_4 t332 _ ?side1 ?side2 ?side3 ?side4 A2.out).mono ?_); (case side1 => repeat (first | exact (Kd.C_below HR0_0.out HB.out) | (with_reducible refine Kd.C_alloc ?_ _) | (with_reducible refine Kd.C_drewN ?_ _) | (with_reducible refine Kd.C_drew ?_))); (case side2 => exact HC0_0.out); (case side3 => repeat (first | exact (Kd.C_below HR0_3.out HB.out) | (with_reducible refine Kd.C_alloc ?_ _) | (with_reducible refine Kd.C_drewN ?_ _) | (with_reducible refine Kd.C_drew ?_))); (case side4 => exact HC0_3.out); rintro e w7 ⟨rfl, hb⟩; refine ⟨_, rfl, ?_⟩; have n0_ := Aside0.mk (blk_below (g := gb331) (o := .cells #[.slice A0_0 l0_0.length c0_0, .int .i64 a0_1, .int .i64 a0_2, .slice A0_3 l0_3.length c0_3, .bool a0_4] 46 (0, 0)) (by (with_reducible repeat (first | refine blk_drewN ?_ _ | refine blk_drew ?_ | refine blk_alloc ?_ _)); exact BK331.out) hb); have n1_ := Aside0.mk (below_step (by repeat (first | (with_reducible first | exact HB.out | apply below_alloc | apply pw_below_drewN | apply below_drew1 | refine below_set ?_ GE331.out) | exact HB.out)) hb); clear BK331; clear HB; have BK331 := n0_; have HB := n1_; clear n0_ n1_; (try clear hb); (try clear hb2); (try clear hk); (try clear hi)) | ((with_reducible refine gate_dst (N := 14) rfl ?_); refine Kd.R_lit (Kd.int .i64) _ 3 ?hg (N := 14) ?hd (xs := ([] : List Int)) (inner := []) (ok := fun _ => True) (okp := fun _ => True) ?hr ?hp (fun _ hk => hk) trivial (Below.refl _ _) (Nat.le_refl _) (by simp) ?_; (case hd => rfl); (case hg => rfl); (case hr => first | (go_simp; done) | (go_simp; rfl)); (case hp => exact (Reps.none _ _)); intro v334 w8 ho9 hb hg_ hnew_; clear hg_ hnew_; (first | rw [← Ny333.out] at ho9 | (simp only [Int.reduceToNat] at ho9; rw [← Ny333.out] at ho9)); have n0_ := Aside0.mk (Kd.R_lower ho9 (below_size (by repeat (first | (with_reducible first | exact HB.out | apply below_alloc | apply pw_below_drewN | apply below_drew1 | refine below_set ?_ GE331.out) | exact HB.out)))); have n1_ := Aside0.mk (blk_below (g := gb331) (o := .cells #[.slice A0_0 l0_0.length c0_0, .int .i64 a0_1, .int .i64 a0_2, .slice A0_3 l0_3.length c0_3, .bool a0_4] 46 (0, 0)) (by (with_reducible repeat (first | refine blk_drewN ?_ _ | refine blk_drew ?_ | refine blk_alloc ?_ _)); exact BK331.out) hb); have n2_ := Aside0.mk (below_step (by repeat (first | (with_reducible first | exact HB.out | apply below_alloc | apply pw_below_drewN | apply below_drew1 | refine below_set ?_ GE331.out) | exact HB.out)) hb); clear BK331; clear HB; have HO335 := n0_; have BK331 := n1_; have HB := n2_; clear n0_ n1_ n2_; clear hb ho9; have hcz10_0 : w8.cell? ⟨gb331, 0, none⟩ = some (.slice A0_0 l0_0.length c0_0) := (blk_cell BK331.out 0).trans rfl; have hcz10_1 : w8.cell? ⟨gb331, 1, none⟩ = some (.int .i64 a0_1) := (blk_cell BK331.out 1).trans rfl; have hcz10_2 : w8.cell? ⟨gb331, 2, none⟩ = some (.int .i64 a0_2) := (blk_cell BK331.out 2).trans rfl; have hcz10_3 : w8.cell? ⟨gb331, 3, none⟩ = some (.slice A0_3 l0_3.length c0_3) := (blk_cell BK331.out 3).trans rfl; have hcz10_4 : w8.cell? ⟨gb331, 4, none⟩ = some (.bool a0_4) := (blk_cell BK331.out 4).trans rfl; have hfz10_0 := blk_frozen BK331.out 0; have hfz10_1 := blk_frozen BK331.out 1; have hfz10_2 := blk_frozen BK331.out 2; have hfz10_3 := blk_frozen BK331.out 3; have hfz10_4 := blk_frozen BK331.out 4) | ((with_reducible refine gate_callee (f := 55) rfl ?_); refine goesL_ (some 16) rfl rfl Try.func55 (by kernel_rfl) rfl #[.agg #[.slice A0_0 l0_0.length c0_0, .int .i64 a0_1, .int .i64 a0_2, .slice A0_3 l0_3.length c0_3, .bool a0_4]] rfl (by (try simp only [List.map_toArray, List.map_cons, List.map_nil]); first | done | rfl | (simp only [List.length_drop, List.length_take]; rfl)) ?_; (with_reducible refine (hackamoreref28_Order.calls k _ _ l0_0 a0_1 a0_2 _ _ l0_3 a0_4 t336 _ ?side1 ?side2 ?side3 ?side4 A4.out).mono ?_); (case side1 => repeat (first | exact (Kd.C_below HR0_0.out HB.out) | (with_reducible refine Kd.C_alloc ?_ _) | (with_reducible refine Kd.C_drewN ?_ _) | (with_reducible refine Kd.C_drew ?_))); (case side2 => exact HC0_0.out); (case side3 => repeat (first | exact (Kd.C_below HR0_3.out HB.out) | (with_reducible refine Kd.C_alloc ?_ _) | (with_reducible refine Kd.C_drewN ?_ _) | (with_reducible refine Kd.C_drew ?_))); (case side4 => exact HC0_3.out); rintro e w11 ⟨v337, rfl, ho0, hb⟩; refine ⟨_, rfl, ?_⟩; have n0_ := Aside0.mk (Kd.R_elder' (by (with_reducible repeat (first | apply Kd.R_alloc | apply Kd.R_drewN | apply Kd.R_drew)); exact HO335.out) (Kd.R_base ho0) hb); have n1_ := Aside0.mk (Kd.R_lower (Kd.R_new' ho0 (Kd.R_lt (by (with_reducible repeat (first | apply Kd.R_alloc | apply Kd.R_drewN | apply Kd.R_drew)); exact HO335.out))) (below_size (by repeat (first | (with_reducible first | exact HB.out | apply below_alloc | apply pw_below_drewN | apply below_drew1 | refine below_set ?_ GE331.out) | exact HB.out)))); have n2_ := Aside0.mk (blk_below (g := gb331) (o := .cells #[.slice A0_0 l0_0.length c0_0, .int .i64 a0_1, .int .i64 a0_2, .slice A0_3 l0_3.length c0_3, .bool a0_4] 46 (0, 0)) (by (with_reducible repeat (first | refine blk_drewN ?_ _ | refine blk_drew ?_ | refine blk_alloc ?_ _)); exact BK331.out) hb); have n3_ := Aside0.mk (below_step (by repeat (first | (with_reducible first | exact HB.out | apply below_alloc | apply pw_below_drewN | apply below_drew1 | refine below_set ?_ GE331.out) | exact HB.out)) hb); clear HO335; clear BK331; clear HB; have HO335 := n0_; have HO338 := n1_; have BK331 := n2_; have HB := n3_; clear n0_ n1_ n2_ n3_; (try clear hb); (try clear hb2); (try clear hk); (try clear hi); (try clear ho0)))
  go_loopg [5, 7, 8] k (fun kq v5 v7 v8 w' => ∃ (x5_1 : List Int) (x7_1 : Bool) (x8_1 : Int), v7 = .bool x7_1 ∧ v8 = .int .i64 x8_1 ∧ Aside0 (hackamoreref28_Waiting.l0 kq x5_1 t336 x7_1 x8_1 l0_0 a0_1 a0_2 l0_3 a0_4 = some (r1, r2)) ∧ Aside0 (kq ≤ k) ∧ Aside0 (Kd.R (Kd.int .i64) 3 w' w.heap.size (fun k_ => some k_ ≠ (v337 : Value).ownBlock) v5 x5_1) ∧ Aside0 (Kd.R (Kd.int .i64) 3 w' w.heap.size (fun k_ => some k_ ≠ (v5 : Value).ownBlock) v337 t336) ∧ Aside0 (w'.heap[gb331]? = some (.cells #[(.slice A0_0 l0_0.length c0_0), .int .i64 a0_1, .int .i64 a0_2, (.slice A0_3 l0_3.length c0_3), .bool a0_4] 46 (0, 0))) ∧ Aside0 (Below w.heap.size w w'))
  case atStart => exact ⟨(y333), (false), (0), (by first | rfl | (simp; done) | (simp [*]; done)), (by first | rfl | (simp; done) | (simp [*]; done)), H', ⟨Nat.le_refl _⟩, ⟨by (with_reducible repeat (first | apply Kd.R_alloc | apply Kd.R_drewN | apply Kd.R_drew)); exact Kd.R_mono HO335.out (fun _ hk => hk.2)⟩, ⟨by (with_reducible repeat (first | apply Kd.R_alloc | apply Kd.R_drewN | apply Kd.R_drew)); exact Kd.R_mono HO338.out (fun _ hk => hk.2)⟩, ⟨by (with_reducible repeat (first | refine blk_drewN ?_ _ | refine blk_drew ?_ | refine blk_alloc ?_ _)); exact BK331.out⟩, ⟨by repeat (first | (with_reducible first | exact HB.out | apply below_alloc | apply pw_below_drewN | apply below_drew1 | refine below_set ?_ GE331.out) | exact HB.out)⟩⟩
  case round =>
   clear H'
   try clear c2
   try clear p2
   try clear c3
   try clear c3b0
   try clear c3b1
   try clear c5
   try clear hcz10_0
   try clear hcz10_1
   try clear hcz10_2
   try clear hcz10_3
   try clear hcz10_4
   try clear hcz6_0
   try clear hcz6_1
   try clear hcz6_2
   try clear hcz6_3
   try clear hcz6_4
   try clear hfz10_0
   try clear hfz10_1
   try clear hfz10_2
   try clear hfz10_3
   try clear hfz10_4
   try clear hfz6_0
   try clear hfz6_1
   try clear hfz6_2
   try clear hfz6_3
   try clear hfz6_4
   obtain ⟨x5_1, x7_1, x8_1, rfl, rfl, HA, HK1, HO_5, HO_6, BK331, HB⟩ := hrel
   cases gk with
   | zero => exact absurd HA.out (by simp [hackamoreref28_Waiting.l0])
   | succ k1 =>
    have H := HA.out
    clear HA
    simp only [hackamoreref28_Waiting.l0] at H
    by_cases c12 : x8_1 < (t336.length : Int)
    ·rw [if_pos c12] at H
     have c12b0 : decide (x8_1 < (t336.length : Int)) = true := decide_eq_true c12
     clear c12
     by_cases c13 : x7_1 = true
     ·subst c13
      have H1 : (if 0 ≤ x8_1 then (if 0 ≤ (rd t336 x8_1) then (if (rd t336 x8_1) < (l0_0.length : Int) then (if x5_1.length < 17592186044416 then (hackamoreref28_Waiting.l0 k1 (x5_1 ++ [(rd_T105 l0_0 (rd t336 x8_1)).f0]) t336 true (wrap64 (x8_1 + 1)) l0_0 a0_1 a0_2 l0_3 a0_4) else (none)) else (none)) else (none)) else (none)) = some (r1, r2) := by rw [if_pos rfl] at H; exact H
      clear H
      have H := H1
      clear H1
      by_cases c14 : 0 ≤ x8_1
      ·rw [if_pos c14] at H
       have c14b0 : decide (0 ≤ x8_1) = true := decide_eq_true c14
       clear c14
       by_cases c15 : 0 ≤ (rd t336 x8_1)
       ·rw [if_pos c15] at H
        have c15b0 : decide (0 ≤ (rd t336 x8_1)) = true := decide_eq_true c15
        clear c15
        by_cases c16 : (rd t336 x8_1) < (l0_0.length : Int)
        ·rw [if_pos c16] at H
         have c16b0 : decide ((rd t336 x8_1) < (l0_0.length : Int)) = true := decide_eq_true c16
         clear c16
         by_cases c17 : x5_1.length < 17592186044416
         ·rw [if_pos c17] at H
          have LMc17 := Aside0.mk c17
          clear c17
          obtain ⟨y341, hy341⟩ : ∃ y_ : List Int, y_ = (x5_1 ++ [(rd_T105 l0_0 (rd t336 x8_1)).f0]) := ⟨_, rfl⟩
          replace H : (hackamoreref28_Waiting.l0 k1 y341 t336 true (wrap64 (x8_1 + 1)) l0_0 a0_1 a0_2 l0_3 a0_4) = some (r1, r2) := by first | (rw [hy341]; with_reducible exact H) | (have H2_ := (Option.bind_some _ _).symm.trans H; rw [hy341]; with_reducible exact H2_) | (have H2_ := (Option.bind_some _ _).symm.trans H; with_reducible exact H2_) | with_reducible exact H | (rw [hy341]; exact H) | exact H
          have Ny341 := Aside0.mk hy341
          clear hy341
          have H' := Aside0.mk H
          clear H
          obtain ⟨Ao18, co18, eo18⟩ := Kd.R_slice HO_6.out
          subst eo18
          try go_wp2
          have n0_ := Aside0.mk (Kd.R_drew HO_5.out)
          have n1_ := Aside0.mk (Kd.R_drew HO_6.out)
          have n2_ := Aside0.mk (blk_drew BK331.out)
          have n3_ := Aside0.mk (below_drew1 HB.out)
          clear HO_5
          clear HO_6
          clear BK331
          clear HB
          have HO_5 := n0_
          have HO_6 := n1_
          have BK331 := n2_
          have HB := n3_
          clear n0_ n1_ n2_ n3_
          have p339 : 0 ≤ (x8_1 : Int) := of_decide_eq_true (by first | (with_reducible assumption) | assumption)
          have q339 : x8_1 < (t336.length : Int) := of_decide_eq_true (by first | (with_reducible assumption) | assumption)
          obtain ⟨ad339, e339, hx339_0⟩ := Kd.at_int (Kd.R_reads' HO_6.out).2.2 x8_1 p339 q339
          cases e339
          replace p339 := eq_true p339
          replace q339 := eq_true q339
          have p340 : 0 ≤ ((rd t336 x8_1) : Int) := of_decide_eq_true (by first | (with_reducible assumption) | assumption)
          have q340 : (rd t336 x8_1) < (l0_0.length : Int) := of_decide_eq_true (by first | (with_reducible assumption) | assumption)
          obtain ⟨ad340, e340, hx340_0, hx340_1, hx340_2⟩ := at_T105 HR0_0.out (rd t336 x8_1) p340 q340
          have hw340_2 := hx340_2
          have hw340_1 := hx340_1
          have hw340_0 := hx340_0
          cases e340
          replace hx340_0 := (HB.out.cell (World.block_lt_of_cell? w _ hx340_0)).trans hx340_0
          replace hx340_1 := (HB.out.cell (World.block_lt_of_cell? w _ hx340_1)).trans hx340_1
          replace hx340_2 := (HB.out.cell (World.block_lt_of_cell? w _ hx340_2)).trans hx340_2
          replace p340 := eq_true p340
          replace q340 := eq_true q340
          refine start_ (n := 13) (S := fun w' => w'.cell? ⟨gb331, 0, none⟩ = some (.slice (some ad340) l0_0.length c0_0) ∧ w'.cell? ⟨gb331, 1, none⟩ = some (.int .i64 a0_1) ∧ w'.cell? ⟨gb331, 2, none⟩ = some (.int .i64 a0_2) ∧ w'.cell? ⟨gb331, 3, none⟩ = some (.slice A0_3 l0_3.length c0_3) ∧ w'.cell? ⟨gb331, 4, none⟩ = some (.bool a0_4) ∧ w'.cell? (ad339.add (x8_1).toNat) = some (.int .i64 (rd t336 x8_1)) ∧ w'.cell? (ad340.add (((rd t336 x8_1)).toNat * 3)) = some (.int .i64 ((rd_T105 l0_0 (rd t336 x8_1)).f0)) ∧ w'.cell? ⟨(ad340.add (((rd t336 x8_1)).toNat * 3)).block, (ad340.add (((rd t336 x8_1)).toNat * 3)).off + 1, none⟩ = some (.int .i64 ((rd_T105 l0_0 (rd t336 x8_1)).f1)) ∧ w'.cell? ⟨(ad340.add (((rd t336 x8_1)).toNat * 3)).block, (ad340.add (((rd t336 x8_1)).toNat * 3)).off + 2, none⟩ = some (.int .i64 ((rd_T105 l0_0 (rd t336 x8_1)).f2))) (ds := [10, 11]) #[false, false, false, false, false, false, false, false, false, false, false, false, false] (by kernel_rfl) rfl rfl ⟨(blk_cell BK331.out 0).trans rfl, (blk_cell BK331.out 1).trans rfl, (blk_cell BK331.out 2).trans rfl, (blk_cell BK331.out 3).trans rfl, (blk_cell BK331.out 4).trans rfl, hx339_0, ((HB.out.cell (World.block_lt_of_cell? w _ hw340_0)).trans hw340_0), ((HB.out.cell (World.block_lt_of_cell? w _ hw340_1)).trans hw340_1), ((HB.out.cell (World.block_lt_of_cell? w _ hw340_2)).trans hw340_2)⟩ (fun hHeld => ?_); refine with_tabW hackamoreref28_Waiting.tab11 hackamoreref28_Waiting.bits11 (fun HT_ HW_ => ?_)
          generalize wr.drew = w19 at HO_5 HO_6 BK331 HB hx339_0 hx340_0 hx340_1 hx340_2 hHeld ⊢
          refine pure_ (i := 0) (N := some 24) (v := ?_) (a' := ?_) #[true, false, false, false, false, false, false, false, false, false, false, false, false] rfl rfl (any_of HT_.out (by kernel_rfl)) (fun _ _ _ h => h) (Or.inl ⟨by rfl, ?_⟩) ?_ ?_
          rotate_left
          ·intro w'
           go_simp
           with_reducible rfl
          rotate_left
          ·simp only [Act.put, List.setIfInBounds_toArray, List.set_cons_zero, List.set_cons_succ, i64_w, i32_w]
           rfl
          refine pure_ (i := 1) (N := some 25) (v := ?_) (a' := ?_) #[true, true, false, false, false, false, false, false, false, false, false, false, false] rfl rfl (any_of HT_.out (by kernel_rfl)) (fun _ _ _ h => h) (Or.inl ⟨by rfl, ?_⟩) ?_ ?_
          rotate_left
          ·intro w'
           go_simp
           with_reducible rfl
          rotate_left
          ·simp only [Act.put, List.setIfInBounds_toArray, List.set_cons_zero, List.set_cons_succ, i64_w, i32_w]
           rfl
          refine pure_ (i := 3) (N := some 27) (v := ?_) (a' := ?_) #[true, true, false, true, false, false, false, false, false, false, false, false, false] rfl rfl (any_of HT_.out (by kernel_rfl)) (fun _ _ _ h => h) (Or.inl ⟨by rfl, ?_⟩) ?_ ?_
          rotate_left
          ·intro w'
           go_simp
           with_reducible rfl
          rotate_left
          ·simp only [Act.put, List.setIfInBounds_toArray, List.set_cons_zero, List.set_cons_succ, i64_w, i32_w]
           rfl
          refine pure_ (i := 4) (N := some 28) (v := ?_) (a' := ?_) #[true, true, false, true, true, false, false, false, false, false, false, false, false] rfl rfl (any_of HT_.out (by kernel_rfl)) (fun _ _ _ h => h) (Or.inl ⟨by rfl, ?_⟩) ?_ ?_
          rotate_left
          ·intro w'
           go_simp
           with_reducible rfl
          rotate_left
          ·simp only [Act.put, List.setIfInBounds_toArray, List.set_cons_zero, List.set_cons_succ, i64_w, i32_w]
           rfl
          refine pure_ (i := 5) (N := some 29) (v := ?_) (a' := ?_) #[true, true, false, true, true, true, false, false, false, false, false, false, false] rfl rfl (any_of HT_.out (by kernel_rfl)) (fun _ _ _ h => h) (Or.inl ⟨by rfl, ?_⟩) ?_ ?_
          rotate_left
          ·intro w'
           go_simp
           with_reducible rfl
          rotate_left
          ·simp only [Act.put, List.setIfInBounds_toArray, List.set_cons_zero, List.set_cons_succ, i64_w, i32_w]
           rfl
          refine take_ (i := 2) (N := some 26) (v := ?_) (a' := ?_) #[true, true, true, true, true, true, false, false, false, false, false, false, false] rfl rfl (take_ofW HT_.out HW_.out (by kernel_rfl)) (fun _ _ _ h => h) (Or.inl ⟨by rfl, ?_⟩) hHeld ?_ ?_
          rotate_left
          ·rintro w' ⟨s0, s1, s2, s3, s4, s5, s6, s7, s8⟩
           go_simp
           with_reducible rfl
          rotate_left
          ·simp only [Act.put, List.setIfInBounds_toArray, List.set_cons_zero, List.set_cons_succ, i64_w, i32_w]
           rfl
          refine take_ (i := 6) (N := some 30) (v := ?_) (a' := ?_) #[true, true, true, true, true, true, true, false, false, false, false, false, false] rfl rfl (take_ofW HT_.out HW_.out (by kernel_rfl)) (fun _ _ _ h => h) (Or.inl ⟨by rfl, ?_⟩) hHeld ?_ ?_
          rotate_left
          ·rintro w' ⟨s0, s1, s2, s3, s4, s5, s6, s7, s8⟩
           go_simp
           with_reducible rfl
          rotate_left
          ·simp only [Act.put, List.setIfInBounds_toArray, List.set_cons_zero, List.set_cons_succ, i64_w, i32_w]
           rfl
          refine pure_ (i := 7) (N := some 31) (v := ?_) (a' := ?_) #[true, true, true, true, true, true, true, true, false, false, false, false, false] rfl rfl (any_of HT_.out (by kernel_rfl)) (fun _ _ _ h => h) (Or.inl ⟨by rfl, ?_⟩) ?_ ?_
          rotate_left
          ·intro w'
           go_simp
           with_reducible rfl
          rotate_left
          ·simp only [Act.put, List.setIfInBounds_toArray, List.set_cons_zero, List.set_cons_succ, i64_w, i32_w]
           rfl
          refine pure_ (i := 8) (N := some 32) (v := ?_) (a' := ?_) #[true, true, true, true, true, true, true, true, true, false, false, false, false] rfl rfl (any_of HT_.out (by kernel_rfl)) (fun _ _ _ h => h) (Or.inl ⟨by rfl, ?_⟩) ?_ ?_
          rotate_left
          ·intro w'
           go_simp
           with_reducible rfl
          rotate_left
          ·simp only [Act.put, List.setIfInBounds_toArray, List.set_cons_zero, List.set_cons_succ, i64_w, i32_w]
           rfl
          refine take_ (i := 9) (N := some 33) (v := ?_) (a' := ?_) #[true, true, true, true, true, true, true, true, true, true, false, false, false] rfl rfl (take_ofW HT_.out HW_.out (by kernel_rfl)) (fun _ _ _ h => h) (Or.inl ⟨by rfl, ?_⟩) hHeld ?_ ?_
          rotate_left
          ·rintro w' ⟨s0, s1, s2, s3, s4, s5, s6, s7, s8⟩
           go_simp
           with_reducible rfl
          rotate_left
          ·simp only [Act.put, List.setIfInBounds_toArray, List.set_cons_zero, List.set_cons_succ, i64_w, i32_w]
           rfl
          refine last_ (i := 10) (N := some 34) #[true, true, true, true, true, true, true, true, true, true, true, false, false] rfl rfl (one_of HT_.out (by kernel_rfl)) (by decide) (fun K hK => ?_)
          refine value_ (w1 := ?_) (v := ?_) (by rfl) rfl ?_ ?_
          rotate_left 2
          ·go_simp
           constructor
           ·rfl
           ·rfl
          refine hK.out _ _ ?_
          clear hK K
          refine norm_ (a' := ?_) ?_ ?_
          rotate_left
          ·show Act.put _ (some 34) _ = _
           simp only [Act.put, List.setIfInBounds_toArray, List.set_cons_zero, List.set_cons_succ, i64_w, i32_w]
           rfl
          refine last_ (i := 11) (N := some 35) #[true, true, true, true, true, true, true, true, true, true, true, true, false] rfl rfl (one_of HT_.out (by kernel_rfl)) (by decide) (fun K hK => ?_)
          refine Kd.R_append_step (Kd.int .i64) (w0 := w) w.heap.size (by rfl) (.tmp 24) (.tmp 34) 30 3 (.int .i64 0) 8 rfl Try.underlying30 info3 rfl (by decide) (by omega) u5 x5_1 ((rd_T105 l0_0 (rd t336 x8_1)).f0) [.int .i64 ((rd_T105 l0_0 (rd t336 x8_1)).f0)] (fun k_ => some k_ ≠ (.slice (some ad339) t336.length co18 : Value).ownBlock) (fun _ => False) rfl rfl ?aP (fun _ hk => hk.elim) ?aF ?aO ?aB ?aS ?aL ?_
          (case aP => exact rfl)
          (case aB => exact (by repeat (first | (with_reducible first | exact HB.out | apply below_alloc | apply pw_below_drewN | apply below_drew1 | refine below_set ?_ GE331.out) | exact HB.out)))
          (case aF => exact (fun k_ hk => Kd.fresh' (Kd.R_lt (by (with_reducible repeat (first | apply Kd.R_alloc | apply Kd.R_drewN | apply Kd.R_drew)); exact HO_6.out)) k_ hk))
          (case aO => exact (by (with_reducible repeat (first | apply Kd.R_alloc | apply Kd.R_drewN | apply Kd.R_drew)); exact HO_5.out))
          (case aS => exact (below_size (by repeat (first | (with_reducible first | exact HB.out | apply below_alloc | apply pw_below_drewN | apply below_drew1 | refine below_set ?_ GE331.out) | exact HB.out))))
          (case aL => have := LMc17.out; omega)
          intro v342 w20 ho hb hg hat
          rw [← Ny341.out] at ho
          have n0_ := Aside0.mk (Kd.R_after (ok := (fun _ => True)) (by (with_reducible repeat (first | apply Kd.R_alloc | apply Kd.R_drewN | apply Kd.R_drew)); exact Kd.R_mono HO_6.out (fun _ hk => ⟨trivial, hk⟩)) hg hat)
          have n1_ := Aside0.mk (blk_grown (g := gb331) (o := .cells #[.slice (some ad340) l0_0.length c0_0, .int .i64 a0_1, .int .i64 a0_2, .slice A0_3 l0_3.length c0_3, .bool a0_4] 46 (0, 0)) (by (with_reducible repeat (first | refine blk_drewN ?_ _ | refine blk_drew ?_ | refine blk_alloc ?_ _)); exact BK331.out) hg (Kd.R_ne HO_5.out BK331.out (by decide)))
          have n2_ := Aside0.mk (hb)
          have n3_ := Aside0.mk (ho)
          clear HO_6
          clear BK331
          clear HB
          clear HO_5
          have HO_6 := n0_
          have BK331 := n1_
          have HB := n2_
          have HO343 := n3_
          clear n0_ n1_ n2_ n3_
          clear ho hb hg hat
          refine hK.out _ _ ?_
          clear hK K
          refine norm_ (a' := ?_) ?_ ?_
          rotate_left
          ·show Act.put _ (some 35) _ = _
           simp only [Act.put, List.setIfInBounds_toArray, List.set_cons_zero, List.set_cons_succ, i64_w, i32_w]
           rfl
          refine pure_ (i := 12) (N := some 5) (v := ?_) (a' := ?_) #[true, true, true, true, true, true, true, true, true, true, true, true, true] rfl rfl (any_of HT_.out (by kernel_rfl)) (fun _ _ _ h => h) (Or.inl ⟨by rfl, ?_⟩) ?_ ?_
          rotate_left
          ·intro w'
           go_simp
           with_reducible rfl
          rotate_left
          ·simp only [Act.put, List.setIfInBounds_toArray, List.set_cons_zero, List.set_cons_succ, i64_w, i32_w]
           rfl
          refine done_ (done_of HT_.out (by kernel_rfl)) ?_
          try go_wp2
          have n0_ := Aside0.mk (Kd.R_drew HO_6.out)
          have n1_ := Aside0.mk (Kd.R_drew HO343.out)
          have n2_ := Aside0.mk (blk_drew BK331.out)
          have n3_ := Aside0.mk (below_drew1 HB.out)
          clear HO_6
          clear HO343
          clear BK331
          clear HB
          have HO_6 := n0_
          have HO343 := n1_
          have BK331 := n2_
          have HB := n3_
          clear n0_ n1_ n2_ n3_
          refine start_ (n := 11) (S := fun w' => True) (ds := []) #[false, false, false, false, false, false, false, false, false, false, false] (by kernel_rfl) rfl rfl trivial (fun hHeld => ?_); refine with_tabW hackamoreref28_Waiting.tab12 hackamoreref28_Waiting.bits12 (fun HT_ HW_ => ?_)
          generalize w20.drew = w21 at HO_6 HO343 BK331 HB hHeld ⊢
          refine pure_ (i := 0) (N := some 36) (v := ?_) (a' := ?_) #[true, false, false, false, false, false, false, false, false, false, false] rfl rfl (any_of HT_.out (by kernel_rfl)) (fun _ _ _ h => h) (Or.inl ⟨by rfl, ?_⟩) ?_ ?_
          rotate_left
          ·intro w'
           go_simp
           with_reducible rfl
          rotate_left
          ·simp only [Act.put, List.setIfInBounds_toArray, List.set_cons_zero, List.set_cons_succ, i64_w, i32_w]
           rfl
          refine pure_ (i := 1) (N := some 37) (v := ?_) (a' := ?_) #[true, true, false, false, false, false, false, false, false, false, false] rfl rfl (any_of HT_.out (by kernel_rfl)) (fun _ _ _ h => h) (Or.inl ⟨by rfl, ?_⟩) ?_ ?_
          rotate_left
          ·intro w'
           go_simp
           with_reducible rfl
          rotate_left
          ·simp only [Act.put, List.setIfInBounds_toArray, List.set_cons_zero, List.set_cons_succ, i64_w, i32_w]
           rfl
          refine pure_ (i := 2) (N := some 38) (v := undef) (a' := ?_) #[true, true, true, false, false, false, false, false, false, false, false] rfl rfl (any_of HT_.out (by kernel_rfl)) (fun _ _ _ h => h) (Or.inr ⟨by rfl, rfl⟩) ?_ ?_
          rotate_left
          ·simp only [Act.put, List.setIfInBounds_toArray, List.set_cons_zero, List.set_cons_succ, i64_w, i32_w]
           rfl
          refine pure_ (i := 3) (N := some 39) (v := undef) (a' := ?_) #[true, true, true, true, false, false, false, false, false, false, false] rfl rfl (any_of HT_.out (by kernel_rfl)) (fun _ _ _ h => h) (Or.inr ⟨by rfl, rfl⟩) ?_ ?_
          rotate_left
          ·simp only [Act.put, List.setIfInBounds_toArray, List.set_cons_zero, List.set_cons_succ, i64_w, i32_w]
           rfl
          refine pure_ (i := 4) (N := some 40) (v := undef) (a' := ?_) #[true, true, true, true, true, false, false, false, false, false, false] rfl rfl (any_of HT_.out (by kernel_rfl)) (fun _ _ _ h => h) (Or.inr ⟨by rfl, rfl⟩) ?_ ?_
          rotate_left
          ·simp only [Act.put, List.setIfInBounds_toArray, List.set_cons_zero, List.set_cons_succ, i64_w, i32_w]
           rfl
          refine pure_ (i := 5) (N := some 41) (v := undef) (a' := ?_) #[true, true, true, true, true, true, false, false, false, false, false] rfl rfl (any_of HT_.out (by kernel_rfl)) (fun _ _ _ h => h) (Or.inr ⟨by rfl, rfl⟩) ?_ ?_
          rotate_left
          ·simp only [Act.put, List.setIfInBounds_toArray, List.set_cons_zero, List.set_cons_succ, i64_w, i32_w]
           rfl
          refine pure_ (i := 6) (N := some 42) (v := undef) (a' := ?_) #[true, true, true, true, true, true, true, false, false, false, false] rfl rfl (any_of HT_.out (by kernel_rfl)) (fun _ _ _ h => h) (Or.inr ⟨by rfl, rfl⟩) ?_ ?_
          rotate_left
          ·simp only [Act.put, List.setIfInBounds_toArray, List.set_cons_zero, List.set_cons_succ, i64_w, i32_w]
           rfl
          refine pure_ (i := 7) (N := some 43) (v := undef) (a' := ?_) #[true, true, true, true, true, true, true, true, false, false, false] rfl rfl (any_of HT_.out (by kernel_rfl)) (fun _ _ _ h => h) (Or.inr ⟨by rfl, rfl⟩) ?_ ?_
          rotate_left
          ·simp only [Act.put, List.setIfInBounds_toArray, List.set_cons_zero, List.set_cons_succ, i64_w, i32_w]
           rfl
          refine pure_ (i := 8) (N := some 44) (v := undef) (a' := ?_) #[true, true, true, true, true, true, true, true, true, false, false] rfl rfl (any_of HT_.out (by kernel_rfl)) (fun _ _ _ h => h) (Or.inr ⟨by rfl, rfl⟩) ?_ ?_
          rotate_left
          ·simp only [Act.put, List.setIfInBounds_toArray, List.set_cons_zero, List.set_cons_succ, i64_w, i32_w]
           rfl
          refine pure_ (i := 9) (N := some 45) (v := ?_) (a' := ?_) #[true, true, true, true, true, true, true, true, true, true, false] rfl rfl (any_of HT_.out (by kernel_rfl)) (fun _ _ _ h => h) (Or.inl ⟨by rfl, ?_⟩) ?_ ?_
          rotate_left
          ·intro w'
           go_simp
           with_reducible rfl
          rotate_left
          ·simp only [Act.put, List.setIfInBounds_toArray, List.set_cons_zero, List.set_cons_succ, i64_w, i32_w]
           rfl
          refine pure_ (i := 10) (N := some 7) (v := ?_) (a' := ?_) #[true, true, true, true, true, true, true, true, true, true, true] rfl rfl (any_of HT_.out (by kernel_rfl)) (fun _ _ _ h => h) (Or.inl ⟨by rfl, ?_⟩) ?_ ?_
          rotate_left
          ·intro w'
           go_simp
           with_reducible rfl
          rotate_left
          ·simp only [Act.put, List.setIfInBounds_toArray, List.set_cons_zero, List.set_cons_succ, i64_w, i32_w]
           rfl
          refine done_ (done_of HT_.out (by kernel_rfl)) ?_
          try go_wp2
          go_roundg k1
          case measure => have := HK1.out; omega
          case rel => exact ⟨(y341), (true), (wrap64 (x8_1 + 1)), (by first | rfl | (simp; done) | (simp [*]; done)), (by first | rfl | (simp; done) | (simp [*]; done)), H', ⟨by have := HK1.out; omega⟩, ⟨by (with_reducible repeat (first | apply Kd.R_alloc | apply Kd.R_drewN | apply Kd.R_drew)); exact HO343.out⟩, ⟨by (with_reducible repeat (first | apply Kd.R_alloc | apply Kd.R_drewN | apply Kd.R_drew)); exact Kd.R_mono HO_6.out (fun _ hk => hk.2)⟩, ⟨by (with_reducible repeat (first | refine blk_drewN ?_ _ | refine blk_drew ?_ | refine blk_alloc ?_ _)); exact BK331.out⟩, ⟨by repeat (first | (with_reducible first | exact HB.out | apply below_alloc | apply pw_below_drewN | apply below_drew1 | refine below_set ?_ GE331.out) | exact HB.out)⟩⟩
         ·rw [if_neg c17] at H
          exact absurd H (by simp)
        ·rw [if_neg c16] at H
         exact absurd H (by simp)
       ·rw [if_neg c15] at H
        exact absurd H (by simp)
      ·rw [if_neg c14] at H
       exact absurd H (by simp)
     ·replace c13 := Bool.eq_false_iff.mpr c13
      subst c13
      have H1 : (if 0 ≤ x8_1 then (hackamoreref28_Waiting.l0 k1 x5_1 t336 ((rd t336 x8_1) == a0_2) (wrap64 (x8_1 + 1)) l0_0 a0_1 a0_2 l0_3 a0_4) else (none)) = some (r1, r2) := by rw [if_neg (show ¬ (false = true) by decide)] at H; exact H
      clear H
      have H := H1
      clear H1
      by_cases c22 : 0 ≤ x8_1
      ·rw [if_pos c22] at H
       have c22b0 : decide (0 ≤ x8_1) = true := decide_eq_true c22
       clear c22
       have H' := Aside0.mk H
       clear H
       obtain ⟨Ao23, co23, eo23⟩ := Kd.R_slice HO_6.out
       subst eo23
       try go_wp2
       have n0_ := Aside0.mk (Kd.R_drew HO_5.out)
       have n1_ := Aside0.mk (Kd.R_drew HO_6.out)
       have n2_ := Aside0.mk (blk_drew BK331.out)
       have n3_ := Aside0.mk (below_drew1 HB.out)
       clear HO_5
       clear HO_6
       clear BK331
       clear HB
       have HO_5 := n0_
       have HO_6 := n1_
       have BK331 := n2_
       have HB := n3_
       clear n0_ n1_ n2_ n3_
       have p344 : 0 ≤ (x8_1 : Int) := of_decide_eq_true (by first | (with_reducible assumption) | assumption)
       have q344 : x8_1 < (t336.length : Int) := of_decide_eq_true (by first | (with_reducible assumption) | assumption)
       obtain ⟨ad344, e344, hx344_0⟩ := Kd.at_int (Kd.R_reads' HO_6.out).2.2 x8_1 p344 q344
       cases e344
       replace p344 := eq_true p344
       replace q344 := eq_true q344
       refine start_ (n := 11) (S := fun w' => w'.cell? ⟨gb331, 0, none⟩ = some (.slice A0_0 l0_0.length c0_0) ∧ w'.cell? ⟨gb331, 1, none⟩ = some (.int .i64 a0_1) ∧ w'.cell? ⟨gb331, 2, none⟩ = some (.int .i64 a0_2) ∧ w'.cell? ⟨gb331, 3, none⟩ = some (.slice A0_3 l0_3.length c0_3) ∧ w'.cell? ⟨gb331, 4, none⟩ = some (.bool a0_4) ∧ w'.cell? (ad344.add (x8_1).toNat) = some (.int .i64 (rd t336 x8_1))) (ds := []) #[false, false, false, false, false, false, false, false, false, false, false] (by kernel_rfl) rfl rfl ⟨(blk_cell BK331.out 0).trans rfl, (blk_cell BK331.out 1).trans rfl, (blk_cell BK331.out 2).trans rfl, (blk_cell BK331.out 3).trans rfl, (blk_cell BK331.out 4).trans rfl, hx344_0⟩ (fun hHeld => ?_); refine with_tabW hackamoreref28_Waiting.tab12 hackamoreref28_Waiting.bits12 (fun HT_ HW_ => ?_)
       generalize wr.drew = w24 at HO_5 HO_6 BK331 HB hx344_0 hHeld ⊢
       refine pure_ (i := 0) (N := some 36) (v := ?_) (a' := ?_) #[true, false, false, false, false, false, false, false, false, false, false] rfl rfl (any_of HT_.out (by kernel_rfl)) (fun _ _ _ h => h) (Or.inl ⟨by rfl, ?_⟩) ?_ ?_
       rotate_left
       ·intro w'
        go_simp
        with_reducible rfl
       rotate_left
       ·simp only [Act.put, List.setIfInBounds_toArray, List.set_cons_zero, List.set_cons_succ, i64_w, i32_w]
        rfl
       refine pure_ (i := 1) (N := some 37) (v := ?_) (a' := ?_) #[true, true, false, false, false, false, false, false, false, false, false] rfl rfl (any_of HT_.out (by kernel_rfl)) (fun _ _ _ h => h) (Or.inl ⟨by rfl, ?_⟩) ?_ ?_
       rotate_left
       ·intro w'
        go_simp
        with_reducible rfl
       rotate_left
       ·simp only [Act.put, List.setIfInBounds_toArray, List.set_cons_zero, List.set_cons_succ, i64_w, i32_w]
        rfl
       refine pure_ (i := 2) (N := some 38) (v := ?_) (a' := ?_) #[true, true, true, false, false, false, false, false, false, false, false] rfl rfl (any_of HT_.out (by kernel_rfl)) (fun _ _ _ h => h) (Or.inl ⟨by rfl, ?_⟩) ?_ ?_
       rotate_left
       ·intro w'
        go_simp
        with_reducible rfl
       rotate_left
       ·simp only [Act.put, List.setIfInBounds_toArray, List.set_cons_zero, List.set_cons_succ, i64_w, i32_w]
        rfl
       refine pure_ (i := 3) (N := some 39) (v := ?_) (a' := ?_) #[true, true, true, true, false, false, false, false, false, false, false] rfl rfl (any_of HT_.out (by kernel_rfl)) (fun _ _ _ h => h) (Or.inl ⟨by rfl, ?_⟩) ?_ ?_
       rotate_left
       ·intro w'
        go_simp
        with_reducible rfl
       rotate_left
       ·simp only [Act.put, List.setIfInBounds_toArray, List.set_cons_zero, List.set_cons_succ, i64_w, i32_w]
        rfl
       refine pure_ (i := 4) (N := some 40) (v := ?_) (a' := ?_) #[true, true, true, true, true, false, false, false, false, false, false] rfl rfl (any_of HT_.out (by kernel_rfl)) (fun _ _ _ h => h) (Or.inl ⟨by rfl, ?_⟩) ?_ ?_
       rotate_left
       ·intro w'
        go_simp
        with_reducible rfl
       rotate_left
       ·simp only [Act.put, List.setIfInBounds_toArray, List.set_cons_zero, List.set_cons_succ, i64_w, i32_w]
        rfl
       refine pure_ (i := 6) (N := some 42) (v := ?_) (a' := ?_) #[true, true, true, true, true, false, true, false, false, false, false] rfl rfl (any_of HT_.out (by kernel_rfl)) (fun _ _ _ h => h) (Or.inl ⟨by rfl, ?_⟩) ?_ ?_
       rotate_left
       ·intro w'
        go_simp
        with_reducible rfl
       rotate_left
       ·simp only [Act.put, List.setIfInBounds_toArray, List.set_cons_zero, List.set_cons_succ, i64_w, i32_w]
        rfl
       refine take_ (i := 5) (N := some 41) (v := ?_) (a' := ?_) #[true, true, true, true, true, true, true, false, false, false, false] rfl rfl (take_ofW HT_.out HW_.out (by kernel_rfl)) (fun _ _ _ h => h) (Or.inl ⟨by rfl, ?_⟩) hHeld ?_ ?_
       rotate_left
       ·rintro w' ⟨s0, s1, s2, s3, s4, s5⟩
        go_simp
        with_reducible rfl
       rotate_left
       ·simp only [Act.put, List.setIfInBounds_toArray, List.set_cons_zero, List.set_cons_succ, i64_w, i32_w]
        rfl
       refine take_ (i := 7) (N := some 43) (v := ?_) (a' := ?_) #[true, true, true, true, true, true, true, true, false, false, false] rfl rfl (take_ofW HT_.out HW_.out (by kernel_rfl)) (fun _ _ _ h => h) (Or.inl ⟨by rfl, ?_⟩) hHeld ?_ ?_
       rotate_left
       ·rintro w' ⟨s0, s1, s2, s3, s4, s5⟩
        go_simp
        with_reducible rfl
       rotate_left
       ·simp only [Act.put, List.setIfInBounds_toArray, List.set_cons_zero, List.set_cons_succ, i64_w, i32_w]
        rfl
       refine pure_ (i := 8) (N := some 44) (v := ?_) (a' := ?_) #[true, true, true, true, true, true, true, true, true, false, false] rfl rfl (any_of HT_.out (by kernel_rfl)) (fun _ _ _ h => h) (Or.inl ⟨by rfl, ?_⟩) ?_ ?_
       rotate_left
       ·intro w'
        go_simp
        with_reducible rfl
       rotate_left
       ·simp only [Act.put, List.setIfInBounds_toArray, List.set_cons_zero, List.set_cons_succ, i64_w, i32_w]
        rfl
       refine pure_ (i := 9) (N := some 45) (v := ?_) (a' := ?_) #[true, true, true, true, true, true, true, true, true, true, false] rfl rfl (any_of HT_.out (by kernel_rfl)) (fun _ _ _ h => h) (Or.inl ⟨by rfl, ?_⟩) ?_ ?_
       rotate_left
       ·intro w'
        go_simp
        with_reducible rfl
       rotate_left
       ·simp only [Act.put, List.setIfInBounds_toArray, List.set_cons_zero, List.set_cons_succ, i64_w, i32_w]
        rfl
       refine pure_ (i := 10) (N := some 7) (v := ?_) (a' := ?_) #[true, true, true, true, true, true, true, true, true, true, true] rfl rfl (any_of HT_.out (by kernel_rfl)) (fun _ _ _ h => h) (Or.inl ⟨by rfl, ?_⟩) ?_ ?_
       rotate_left
       ·intro w'
        go_simp
        with_reducible rfl
       rotate_left
       ·simp only [Act.put, List.setIfInBounds_toArray, List.set_cons_zero, List.set_cons_succ, i64_w, i32_w]
        rfl
       refine done_ (done_of HT_.out (by kernel_rfl)) ?_
       try go_wp2
       go_roundg k1
       case measure => have := HK1.out; omega
       case rel => exact ⟨(x5_1), (((rd t336 x8_1) == a0_2)), (wrap64 (x8_1 + 1)), (by first | rfl | (simp; done) | (simp [*]; done)), (by first | rfl | (simp; done) | (simp [*]; done)), H', ⟨by have := HK1.out; omega⟩, ⟨by (with_reducible repeat (first | apply Kd.R_alloc | apply Kd.R_drewN | apply Kd.R_drew)); exact HO_5.out⟩, ⟨by (with_reducible repeat (first | apply Kd.R_alloc | apply Kd.R_drewN | apply Kd.R_drew)); exact HO_6.out⟩, ⟨by (with_reducible repeat (first | refine blk_drewN ?_ _ | refine blk_drew ?_ | refine blk_alloc ?_ _)); exact BK331.out⟩, ⟨by repeat (first | (with_reducible first | exact HB.out | apply below_alloc | apply pw_below_drewN | apply below_drew1 | refine below_set ?_ GE331.out) | exact HB.out)⟩⟩
      ·rw [if_neg c22] at H
       exact absurd H (by simp)
    ·rw [if_neg c12] at H
     have c12b0 : decide (x8_1 < (t336.length : Int)) = false := decide_eq_false c12
     clear c12
     simp only [Option.some.injEq, Prod.mk.injEq] at H
     obtain ⟨rfl, rfl⟩ := H
     obtain ⟨Ao25, co25, eo25⟩ := Kd.R_slice HO_6.out
     subst eo25
     go_wp2
     go_ret2
     exact ⟨_, by first | rfl | (simp [errW_none, errW_some] <;> rfl) | (simp [*, errW_none, errW_some] <;> rfl), by (with_reducible repeat (first | apply Kd.R_alloc | apply Kd.R_drewN | apply Kd.R_drew)); exact Kd.R_mono HO_5.out (fun _ hk => trivial), by repeat (first | (with_reducible first | exact HB.out | apply below_alloc | apply pw_below_drewN | apply below_drew1 | refine below_set ?_ GE331.out) | exact HB.out)⟩
 ·rw [if_neg c3] at H
  have c3b0 : (t332 == 0) = false := beq_eq_false_iff_ne.mpr c3
  have c3b1 : (t332 != 0) = true := bne_iff_ne.mpr c3
  simp only [Option.some.injEq, Prod.mk.injEq] at H
  obtain ⟨rfl, rfl⟩ := H
  go_enter Try.func52, Try.ntmps52
  go_wp2_with (first | ((with_reducible refine gate_dst (N := 1) rfl ?_); refine box_event ?hg (N := 1) ?hd (cs := #[.slice A0_0 l0_0.length c0_0, .int .i64 a0_1, .int .i64 a0_2, .slice A0_3 l0_3.length c0_3, .bool a0_4]) (t := 46) ?hr ?_; (case hd => rfl); (case hg => rfl); (case hr => first | (go_simp; done) | (go_simp; rfl)); intro gb331 hg w26 hbox hb; have n0_ := Aside0.mk (below_step (by repeat (first | (with_reducible first | exact HB.out | apply below_alloc | apply pw_below_drewN | apply below_drew1) | exact HB.out)) hb); have n1_ := Aside0.mk (hbox); have n2_ := Aside0.mk ((by rw [hg]; exact (below_size (by repeat (first | (with_reducible first | exact HB.out | apply below_alloc | apply pw_below_drewN | apply below_drew1) | exact HB.out))) : w.heap.size ≤ gb331)); have n3_ := Aside0.mk ((by rw [hg]; exact (below_size (by repeat (first | (with_reducible first | exact HB.out | apply below_alloc | apply pw_below_drewN | apply below_drew1) | exact HB.out))) : w.heap.size ≤ gb331)); clear HB; have HB := n0_; have BK331 := n1_; have GW331 := n2_; have GE331 := n3_; clear n0_ n1_ n2_ n3_; clear hb hbox hg; have hcz27_0 : w26.cell? ⟨gb331, 0, none⟩ = some (.slice A0_0 l0_0.length c0_0) := (blk_cell BK331.out 0).trans rfl; have hcz27_1 : w26.cell? ⟨gb331, 1, none⟩ = some (.int .i64 a0_1) := (blk_cell BK331.out 1).trans rfl; have hcz27_2 : w26.cell? ⟨gb331, 2, none⟩ = some (.int .i64 a0_2) := (blk_cell BK331.out 2).trans rfl; have hcz27_3 : w26.cell? ⟨gb331, 3, none⟩ = some (.slice A0_3 l0_3.length c0_3) := (blk_cell BK331.out 3).trans rfl; have hcz27_4 : w26.cell? ⟨gb331, 4, none⟩ = some (.bool a0_4) := (blk_cell BK331.out 4).trans rfl; have hfz27_0 := blk_frozen BK331.out 0; have hfz27_1 := blk_frozen BK331.out 1; have hfz27_2 := blk_frozen BK331.out 2; have hfz27_3 := blk_frozen BK331.out 3; have hfz27_4 := blk_frozen BK331.out 4) | ((with_reducible refine gate_callee (f := 20) rfl ?_); refine goesL_ (some 10) rfl rfl Try.func20 (by kernel_rfl) rfl #[.agg #[.slice A0_0 l0_0.length c0_0, .int .i64 a0_1, .int .i64 a0_2, .slice A0_3 l0_3.length c0_3, .bool a0_4]] rfl (by (try simp only [List.map_toArray, List.map_cons, List.map_nil]); first | done | rfl | (simp only [List.length_drop, List.length_take]; rfl)) ?_; (with_reducible refine (hackamoreref28_Check.calls k _ _ l0_0 a0_1 a0_2 _ _ l0_3 a0_4 t332 _ ?side1 ?side2 ?side3 ?side4 A2.out).mono ?_); (case side1 => repeat (first | exact (Kd.C_below HR0_0.out HB.out) | (with_reducible refine Kd.C_alloc ?_ _) | (with_reducible refine Kd.C_drewN ?_ _) | (with_reducible refine Kd.C_drew ?_))); (case side2 => exact HC0_0.out); (case side3 => repeat (first | exact (Kd.C_below HR0_3.out HB.out) | (with_reducible refine Kd.C_alloc ?_ _) | (with_reducible refine Kd.C_drewN ?_ _) | (with_reducible refine Kd.C_drew ?_))); (case side4 => exact HC0_3.out); rintro e w28 ⟨rfl, hb⟩; refine ⟨_, rfl, ?_⟩; have n0_ := Aside0.mk (blk_below (g := gb331) (o := .cells #[.slice A0_0 l0_0.length c0_0, .int .i64 a0_1, .int .i64 a0_2, .slice A0_3 l0_3.length c0_3, .bool a0_4] 46 (0, 0)) (by (with_reducible repeat (first | refine blk_drewN ?_ _ | refine blk_drew ?_ | refine blk_alloc ?_ _)); exact BK331.out) hb); have n1_ := Aside0.mk (below_step (by repeat (first | (with_reducible first | exact HB.out | apply below_alloc | apply pw_below_drewN | apply below_drew1 | refine below_set ?_ GE331.out) | exact HB.out)) hb); clear BK331; clear HB; have BK331 := n0_; have HB := n1_; clear n0_ n1_; (try clear hb); (try clear hb2); (try clear hk); (try clear hi)))
  go_ret2
  exact ⟨_, by first | rfl | (simp [errW_none, errW_some] <;> rfl) | (simp [*, errW_none, errW_some] <;> rfl), by first | exact Kd.R_nil _ _ _ _ _ | exact Kd.N_nil _ _ _ _ _ | exact Kd.V_nil _ _ _ _ _ | exact Kd.Q_nil _ _ _ _ _ | exact Kd.S_nil _ _ _ _ _, by repeat (first | (with_reducible first | exact HB.out | apply below_alloc | apply pw_below_drewN | apply below_drew1 | refine below_set ?_ GE331.out) | exact HB.out)⟩
end Go.Proofs.Ytgbafpjeapkklaa.PMailboxRuns
namespace Go.Proofs.Ytgbafpjeapkklaa.Mb
open Go.RowKit Go.Proofs.YtgbafpjeapkklaaW.PrintWords PMailboxRuns
set_option linter.unusedVariables false
set_option linter.unusedSimpArgs false
theorem pos_sorted {q : Q} (hq : WF q) (p : Int) : (∀ j o, j < q.pos p → q.opn[j]? = some o → o.1 < p) ∧ (∀ j o, q.pos p ≤ j → q.opn[j]? = some o → p ≤ o.1) := by
  have hs := List.pairwise_iff_getElem.1 hq.sorted
  refine ⟨fun j o hj ho => ?_, fun j o hj ho => ?_⟩
  · have h1 := List.not_of_lt_findIdx (p := fun o : Int × Nat => decide (p ≤ o.1)) (xs := q.opn) (i := j) hj
    obtain ⟨g1, g2⟩ := List.getElem?_eq_some_iff.1 ho
    rw [g2] at h1
    simp at h1
    exact h1
  · obtain ⟨g1, g2⟩ := List.getElem?_eq_some_iff.1 ho
    have hlt : q.pos p < q.opn.length := by omega
    have h1 := List.findIdx_getElem (p := fun o : Int × Nat => decide (p ≤ o.1)) (xs := q.opn) (w := hlt)
    have h2 : p ≤ (q.opn[q.pos p]).1 := of_decide_eq_true h1
    rcases Nat.lt_or_ge (q.pos p) j with h | h
    · have := hs _ j hlt g1 h
      rw [g2] at this
      omega
    · have e : q.pos p = j := by omega
      have : q.opn[q.pos p] = o := by simp only [e]; exact g2
      rw [this] at h2
      exact h2
theorem wrapm {z : Int} (h0 : -1 ≤ z) (h1 : z < 100000) : wrap64 z = z := by unfold wrap64; omega
section
variable {q : Q}
theorem check2_go (hq : WF q) {e : Nat} (he : q.done ≤ e) (h : e ≤ q.m) : ∀ d i, i + d = e + 1 →
    Ev (fun k => hackamoreref28_Check.l2 k (rng 0 (e + 1)) (decide (q.done < i)) (i : Int) (L105 q.nodes) q.m q.done (L122 q.pushes) q.empty) 0 := by
  have hf := hq.few
  intro d
  induction d with
  | zero =>
    intro i hi
    obtain rfl : i = e + 1 := by omega
    refine Ev.step (f := fun _ => some 0) (fun k => ?_) (Ev.now _)
    simp only [hackamoreref28_Check.l2]
    rw [rng_len, if_neg (by omega), if_pos (by simp; omega)]
    by_cases hm : q.empty = true
    · rw [if_pos hm, if_pos (by rw [hq.mt hm])]
    · rw [if_neg hm]
  | succ d ih =>
    intro i hi
    refine Ev.step (fun k => ?_) (ih (i + 1) (by omega))
    simp only [hackamoreref28_Check.l2]
    rw [rng_len, if_pos (by omega), wrap_small (by omega) (by omega)]
    by_cases hd : q.done < i
    · rw [if_pos (by simpa using hd)]
      have : decide (q.done < i + 1) = true := by simp; omega
      rw [this]
      rfl
    · rw [if_neg (by simpa using hd), if_pos (by omega), rng_rd _ _ _ (by omega)]
      have : (((0 + i : Nat) : Int) == (q.done : Int)) = decide (q.done < i + 1) := by
        rw [Bool.eq_iff_iff]; simp; omega
      rw [this]
      rfl
theorem check1_go (hq : WF q) : ∀ d i, i + d = q.opn.length →
    Ev (fun k => hackamoreref28_Check.l1 k ((q.m : Int) + 1) (i : Int) (L105 q.nodes) q.m q.done (L122 q.pushes) q.empty) 0 := by
  have hf := hq.few
  have hfo := hq.fewo
  intro d
  induction d with
  | zero =>
    intro i hi
    obtain ⟨e, hfin⟩ := Fin.ex (q := q) (a := 0) (by omega)
    have hde : q.done ≤ e := by
      rcases hfin.2.2.1 with h | h
      · have := hq.done; omega
      · refine Nat.le_of_not_lt fun hlt => ?_
        have := hq.linked (e + 1) (by omega) (by omega)
        rw [h] at this
        cases this
    refine Ev.step (f := fun k => (hackamoreref28_Order.f k (L105 q.nodes) q.m q.done (L122 q.pushes) q.empty).bind fun t221 => (if (t221.length : Int) = 0 then (some 14) else ((hackamoreref28_chain.f k (L105 q.nodes) q.m q.done (L122 q.pushes) q.empty 0).bind fun t224 => (hackamoreref28_Check.l2 k t224 false 0 (L105 q.nodes) q.m q.done (L122 q.pushes) q.empty)))) (fun k => ?_) ?_
    · simp only [hackamoreref28_Check.l1]
      rw [L122_len, if_neg (by omega)]
    refine Ev.bind (order_ev hq) ?_
    have hch := chain_ev (x1 := q.m) (x2 := q.done) (x4 := q.empty) hq hfin (L122 q.pushes)
    have h2 := check2_go hq hde hfin.2.1 (e + 1) 0 (by omega)
    refine Ev.congr (f := fun k => (hackamoreref28_chain.f k (L105 q.nodes) q.m q.done (L122 q.pushes) q.empty 0).bind fun t224 => (hackamoreref28_Check.l2 k t224 false 0 (L105 q.nodes) q.m q.done (L122 q.pushes) q.empty)) (fun k => ?_) ?_
    · rw [rng_len, if_neg (by omega)]
    · refine Ev.bind hch ?_
      have hz : decide (q.done < 0) = false := by simp
      rw [hz] at h2
      exact h2
  | succ d ih =>
    intro i hi
    have hil : i < q.opn.length := by omega
    obtain ⟨o, ho⟩ : ∃ o, q.opn[i]? = some o := ⟨q.opn[i], by simp [hil]⟩
    obtain ⟨o1, o2, o3, o4⟩ := hq.opn o (List.mem_of_getElem? ho)
    have hpn : (q.node o.2).2.1 = o.1 := by
      unfold Q.node
      rw [if_neg (by omega)]
      exact o3
    refine Ev.step (fun k => ?_) (ih (i + 1) (by omega))
    simp only [hackamoreref28_Check.l1]
    rw [L122_len, if_pos (by omega), if_pos (by omega), rdP ho]
    simp only
    rw [if_neg (by omega), if_neg (by omega), if_neg (by omega), if_neg (by omega), if_neg (by omega), L105_len, rdN o2]
    have hn1 : (n105 (q.node o.2)).f1 = o.1 := hpn
    rw [hn1, wrap_small (z := (i : Int) + 1) (by omega) (by omega)]
    have hlast : (if 0 ≤ (o.2 : Int) then if (o.2 : Int) < ((q.m + 1 : Nat) : Int) then if o.1 = o.1 then hackamoreref28_Check.l1 k ((q.m : Int) + 1) ((i : Int) + 1) (L105 q.nodes) q.m q.done (L122 q.pushes) q.empty else some 14 else none else none) = hackamoreref28_Check.l1 k ((q.m : Int) + 1) ((i : Int) + 1) (L105 q.nodes) q.m q.done (L122 q.pushes) q.empty := by
      rw [if_pos (by omega), if_pos (by omega), if_pos rfl]
    rw [hlast]
    by_cases hi0 : 0 < i
    · rw [if_pos (by omega), wrap_small (z := (i : Int) - 1) (by omega) (by omega), if_pos (by omega), if_pos (by omega)]
      obtain ⟨i', rfl⟩ : ∃ i', i = i' + 1 := ⟨i - 1, by omega⟩
      obtain ⟨o', ho'⟩ : ∃ o, q.opn[i']? = some o := ⟨q.opn[i'], by simp [show i' < q.opn.length by omega]⟩
      have e1 : ((i' + 1 : Nat) : Int) - 1 = (i' : Int) := by omega
      rw [e1, rdP ho']
      have hs := List.pairwise_iff_getElem.1 hq.sorted i' (i' + 1) (by omega) hil (by omega)
      obtain ⟨g1, g2⟩ := List.getElem?_eq_some_iff.1 ho
      obtain ⟨g3, g4⟩ := List.getElem?_eq_some_iff.1 ho'
      rw [g2, g4] at hs
      rw [if_neg (show ¬ o'.1 ≥ o.1 by omega)]
      rfl
    · rw [if_neg (by omega)]
      rfl
theorem check0_go (hq : WF q) : ∀ d i, 1 ≤ i → i + d = q.m + 1 →
    Ev (fun k => hackamoreref28_Check.l0 k ((q.m : Int) + 1) (i : Int) (L105 q.nodes) q.m q.done (L122 q.pushes) q.empty) 0 := by
  have hf := hq.few
  intro d
  induction d with
  | zero =>
    intro i h1 hi
    refine Ev.step (fun k => ?_) (check1_go hq q.opn.length 0 (by omega))
    simp only [hackamoreref28_Check.l0]
    rw [if_neg (by omega)]
    rfl
  | succ d ih =>
    intro i h1 hi
    refine Ev.step (fun k => ?_) (ih (i + 1) (by omega) (by omega))
    simp only [hackamoreref28_Check.l0]
    have hpr := node_prod hq (j := i) (by omega) (by omega)
    rw [L105_len, if_pos (by omega), if_pos (by omega), if_pos (by omega), rdN (by omega), if_neg (show ¬ (n105 (q.node i)).f1 < 0 from by show ¬ (q.node i).2.1 < 0; omega), wrap_small (by omega) (by omega)]
    rfl
theorem check_ev (hq : WF q) : Ev (fun k => hackamoreref28_Check.f k (L105 q.nodes) q.m q.done (L122 q.pushes) q.empty) 0 := by
  have hf := hq.few
  have hd := hq.done
  have h0 : rd_T105 (L105 q.nodes) 0 = n105 (q.node 0) := rdN (k := 0) (by omega)
  have h1 : (n105 (q.node 0)).f0 = 0 := rfl
  have h2 : ((n105 (q.node 0)).f1 != -1) = false := rfl
  refine Ev.congr (f := fun k => hackamoreref28_Check.j0 k ((q.m : Int) + 1) false (L105 q.nodes) q.m q.done (L122 q.pushes) q.empty) (fun k => ?_) ?_
  · simp only [hackamoreref28_Check.f]
    rw [L105_len, if_neg (by omega), if_neg (by omega), if_neg (by omega), if_neg (by omega), if_neg (by omega), if_neg (by omega), if_pos (by omega), h0, if_pos h1, h2]
    rfl
  · refine Ev.step (fun k => ?_) (check0_go hq q.m 1 (by omega) (by omega))
    simp only [hackamoreref28_Check.j0]
    rw [if_neg (by simp)]
    rfl
theorem begin_go (hq : WF q) {p x : Int} (hp : 0 ≤ p) (hno : ∀ o ∈ q.opn, o.1 ≠ p) (hm : q.m + 1 < 2000) : ∀ i at', at' = max (q.pos p) i → i ≤ q.opn.length →
    Ev (fun k => hackamoreref28_Begin.l0 k p x (at' : Int) ((i : Int) - 1) (L105 q.nodes) q.m q.done (L122 q.pushes) q.empty)
      (L105 (q.beg p x).nodes, ((q.beg p x).m : Int), (q.done : Int), L122 (q.beg p x).pushes, false, q.empty, 0) := by
  have hf := hq.few
  have hfo := hq.fewo
  have hpl := pos_le q p
  obtain ⟨hlo, hhi⟩ := pos_sorted hq p
  intro i
  induction i with
  | zero =>
    intro at' hat _
    obtain rfl : at' = q.pos p := by omega
    refine Ev.step (f := fun _ => some (L105 (q.beg p x).nodes, ((q.beg p x).m : Int), (q.done : Int), L122 (q.beg p x).pushes, false, q.empty, 0)) (fun k => ?_) (Ev.now _)
    simp only [hackamoreref28_Begin.l0, Option.bind_some]
    rw [if_neg (by omega), L105_len, L122_len, if_neg (by omega), if_pos (by omega), if_pos (by omega)]
    have ht : ((q.pos p : Nat) : Int).toNat = q.pos p := by omega
    rw [ht]
    have hl1 : ((L122 q.pushes).take (q.pos p)).length ≤ q.opn.length := by rw [List.length_take, L122_len]; omega
    have hl2 : ((L122 q.pushes).drop (q.pos p)).length ≤ q.opn.length := by rw [List.length_drop, L122_len]; omega
    rw [List.nil_append, List.nil_append, if_pos (by simp only [List.length_nil]; omega), if_pos (by omega), if_pos (by rw [List.length_append]; simp only [List.length_cons, List.length_nil]; omega), if_pos (by simp only [List.length_nil]; omega), if_pos (by rw [L105_len]; omega)]
    have e1 : L105 q.nodes ++ [(⟨x, p, -1⟩ : S105)] = L105 (q.beg p x).nodes := by
      rw [beg_nodes q p x (fun o ho => (hq.opn o ho).2.1)]
      simp [L105, n105]
    have e2 : (L122 q.pushes).take (q.pos p) ++ [(⟨p, (q.m : Int), ((q.m + 1 : Nat) : Int)⟩ : S122)] ++ (L122 q.pushes).drop (q.pos p) = L122 (q.beg p x).pushes := by
      rw [beg_pushes]
      simp [L122, n122, List.map_take, List.map_drop]
    rw [e1, e2, beg_m]
  | succ i ih =>
    intro at' hat hi
    obtain ⟨o, ho⟩ : ∃ o, q.opn[i]? = some o := ⟨q.opn[i], by simp [show i < q.opn.length by omega]⟩
    refine Ev.step (fun k => ?_) (ih (max (q.pos p) i) rfl (by omega))
    simp only [hackamoreref28_Begin.l0]
    have e1 : ((i + 1 : Nat) : Int) - 1 = (i : Int) := by omega
    have hne := hno o (List.mem_of_getElem? ho)
    rw [e1, L122_len, if_pos (by omega), if_pos (by omega), if_pos (by omega), rdP ho, if_neg hne, wrapm (by omega) (by omega)]
    by_cases hgt : q.pos p ≤ i
    · have hge := hhi i o hgt ho
      rw [if_pos (show o.1 > p by omega)]
      congr 1
      omega
    · have hlt := hlo i o (by omega) ho
      rw [if_neg (show ¬ o.1 > p by omega)]
      congr 1
      omega
theorem begin_ev (hq : WF q) {p x : Int} (hp : 0 ≤ p) (hno : ∀ o ∈ q.opn, o.1 ≠ p) (hm : q.m + 1 < 2000) :
    Ev (fun k => hackamoreref28_Begin.f k (L105 q.nodes) q.m q.done (L122 q.pushes) q.empty p x) (L105 (q.beg p x).nodes, ((q.beg p x).m : Int), (q.done : Int), L122 (q.beg p x).pushes, false, q.empty, 0) := by
  have hpl := pos_le q p
  have hfo := hq.fewo
  refine Ev.bind (check_ev hq) (Ev.congr (fun k => ?_) (begin_go hq hp hno hm q.opn.length q.opn.length (by omega) (Nat.le_refl _)))
  rw [if_pos rfl, if_neg (by omega), L122_len, wrapm (by omega) (by omega)]
theorem begin_neg_ev (hq : WF q) {p x : Int} (hp : p < 0) :
    Ev (fun k => hackamoreref28_Begin.f k (L105 q.nodes) q.m q.done (L122 q.pushes) q.empty p x) ([], 0, 0, [], false, false, 1) := by
  refine Ev.bind (check_ev hq) (Ev.congr (fun k => ?_) (Ev.now _))
  rw [if_pos rfl, if_pos hp]
theorem begin_busy_go (hq : WF q) {p x : Int} {j : Nat} {o : Int × Nat} (ho : q.opn[j]? = some o) (hop : o.1 = p) : ∀ i, j < i → i ≤ q.opn.length → ∀ at' : Int,
    Ev (fun k => hackamoreref28_Begin.l0 k p x at' ((i : Int) - 1) (L105 q.nodes) q.m q.done (L122 q.pushes) q.empty) ([], 0, 0, [], false, false, 300) := by
  have hf := hq.few
  have hfo := hq.fewo
  intro i
  induction i with
  | zero => intro h; omega
  | succ i ih =>
    intro hj hi at'
    obtain ⟨oi, hoi⟩ : ∃ o, q.opn[i]? = some o := ⟨q.opn[i], by simp [show i < q.opn.length by omega]⟩
    have e1 : ((i + 1 : Nat) : Int) - 1 = (i : Int) := by omega
    rw [e1]
    by_cases hpi : oi.1 = p
    · refine Ev.step (f := fun _ => some ([], 0, 0, [], false, false, 300)) (fun k => ?_) (Ev.now _)
      simp only [hackamoreref28_Begin.l0]
      rw [L122_len, if_pos (by omega), if_pos (by omega), if_pos (by omega), rdP hoi, if_pos hpi]
    · have hji : j < i := by
        rcases Nat.lt_or_ge j i with h | h
        · exact h
        · have : j = i := by omega
          subst this
          rw [ho] at hoi
          injection hoi with hoi
          rw [← hoi] at hpi
          exact absurd hop hpi
      by_cases hgt : oi.1 > p
      · refine Ev.step (fun k => ?_) (ih hji (by omega) (i : Int))
        simp only [hackamoreref28_Begin.l0]
        rw [L122_len, if_pos (by omega), if_pos (by omega), if_pos (by omega), rdP hoi, if_neg hpi, wrapm (by omega) (by omega), if_pos hgt]
      · refine Ev.step (fun k => ?_) (ih hji (by omega) at')
        simp only [hackamoreref28_Begin.l0]
        rw [L122_len, if_pos (by omega), if_pos (by omega), if_pos (by omega), rdP hoi, if_neg hpi, wrapm (by omega) (by omega), if_neg hgt]
theorem begin_busy_ev (hq : WF q) {p x : Int} (hp : 0 ≤ p) {j : Nat} {o : Int × Nat} (ho : q.opn[j]? = some o) (hop : o.1 = p) :
    Ev (fun k => hackamoreref28_Begin.f k (L105 q.nodes) q.m q.done (L122 q.pushes) q.empty p x) ([], 0, 0, [], false, false, 300) := by
  have hfo := hq.fewo
  have hf := hq.few
  have hjl := (List.getElem?_eq_some_iff.1 ho).1
  refine Ev.bind (check_ev hq) (Ev.congr (fun k => ?_) (begin_busy_go hq (x := x) ho hop q.opn.length hjl (Nat.le_refl _) (q.opn.length : Int)))
  rw [if_pos rfl, if_neg (by omega), L122_len, wrapm (by omega) (by omega)]
theorem finish_go (hq : WF q) {p : Int} {i b : Nat} (ho : q.opn[i]? = some (p, b + 1)) : ∀ d j, j + d = i →
    Ev (fun k => hackamoreref28_Finish.l0 k p (j : Int) (L105 q.nodes) q.m q.done (L122 q.pushes) q.empty)
      (L105 (q.fin i).nodes, (q.m : Int), (q.done : Int), L122 (q.fin i).pushes, q.empty, 0) := by
  have hf := hq.few
  have hfo := hq.fewo
  have hil := (List.getElem?_eq_some_iff.1 ho).1
  have hb := hq.opn _ (List.mem_of_getElem? ho)
  simp only at hb
  intro d
  induction d with
  | zero =>
    intro j hj
    obtain rfl : j = i := by omega
    have hrp : rd_T122 (L122 q.pushes) (j : Int) = ⟨p, (b : Int), ((b + 1 : Nat) : Int)⟩ := by
      rw [rdP ho]
      congr 1
      show ((b + 1 : Nat) : Int) - 1 = (b : Int)
      omega
    refine Ev.step (f := fun _ => some (L105 (q.fin j).nodes, (q.m : Int), (q.done : Int), L122 (q.fin j).pushes, q.empty, 0)) (fun k => ?_) (Ev.now _)
    simp only [hackamoreref28_Finish.l0]
    rw [hrp, L122_len, if_pos (by omega), if_pos (by omega), if_pos rfl, Option.bind_some, L105_len, if_pos (by rw [List.length_nil]; omega), Option.bind_some, List.nil_append]
    rw [if_pos (show (0 : Int) ≤ (b : Int) by omega), L105_len, if_pos (show (b : Int) < ((q.m + 1 : Nat) : Int) by omega), Option.bind_some, if_pos (show (j : Int) ≤ (q.opn.length : Int) by omega), Option.bind_some, wrap_small (by omega) (by omega)]
    have ht : ((j : Nat) : Int).toNat = j := by omega
    have ht2 : ((j : Int) + 1).toNat = j + 1 := by omega
    have ht3 : ((b : Nat) : Int).toNat = b := by omega
    have hl1 : ((L122 q.pushes).take j).length ≤ q.opn.length := by rw [List.length_take, L122_len]; omega
    have hl2 : ((L122 q.pushes).drop (j + 1)).length ≤ q.opn.length := by rw [List.length_drop, L122_len]; omega
    rw [ht, ht2, ht3, if_pos (by rw [List.length_nil]; omega), Option.bind_some, List.nil_append, if_pos (show (0 : Int) ≤ (j : Int) + 1 by omega), if_pos (show (j : Int) + 1 ≤ (q.opn.length : Int) by omega), Option.bind_some, if_pos (by omega), rdN (by omega)]
    have e1 : (L105 q.nodes).set b ⟨(n105 (q.node b)).f0, (n105 (q.node b)).f1, ((b + 1 : Nat) : Int)⟩ = L105 (q.fin j).nodes := by
      rw [fin_nodes hq ho]
      simp only [L105, List.map_set]
      rfl
    have e2 : (L122 q.pushes).take j ++ (L122 q.pushes).drop (j + 1) = L122 (q.fin j).pushes := by
      rw [fin_pushes, List.eraseIdx_eq_take_drop_succ]
      simp [L122, List.map_take, List.map_drop]
    rw [e1, e2]
  | succ d ih =>
    intro j hj
    obtain ⟨oj, hoj⟩ : ∃ o, q.opn[j]? = some o := ⟨q.opn[j], by simp [show j < q.opn.length by omega]⟩
    have hs := List.pairwise_iff_getElem.1 hq.sorted j i (by omega) hil (by omega)
    obtain ⟨g1, g2⟩ := List.getElem?_eq_some_iff.1 ho
    obtain ⟨g3, g4⟩ := List.getElem?_eq_some_iff.1 hoj
    rw [g2, g4] at hs
    simp only at hs
    refine Ev.step (fun k => ?_) (ih (j + 1) (by omega))
    simp only [hackamoreref28_Finish.l0]
    rw [rdP hoj, L122_len, if_pos (by omega), if_pos (by omega), if_neg (show ¬ oj.1 = p by omega), wrap_small (by omega) (by omega)]
    rfl
theorem finish_ev (hq : WF q) {p : Int} {i j : Nat} (ho : q.opn[i]? = some (p, j)) :
    Ev (fun k => hackamoreref28_Finish.f k (L105 q.nodes) q.m q.done (L122 q.pushes) q.empty p) (L105 (q.fin i).nodes, (q.m : Int), (q.done : Int), L122 (q.fin i).pushes, q.empty, 0) := by
  have hb := hq.opn _ (List.mem_of_getElem? ho)
  obtain ⟨b, rfl⟩ : ∃ b, j = b + 1 := ⟨j - 1, by have := hb.1; simp only at this; omega⟩
  refine Ev.bind (check_ev hq) (Ev.congr (fun k => ?_) (finish_go hq ho i 0 (by omega)))
  rw [if_pos rfl]
  rfl
theorem finish_none_go (hq : WF q) {p : Int} (hno : ∀ o ∈ q.opn, o.1 ≠ p) : ∀ d j, j + d = q.opn.length →
    Ev (fun k => hackamoreref28_Finish.l0 k p (j : Int) (L105 q.nodes) q.m q.done (L122 q.pushes) q.empty) ([], 0, 0, [], false, 301) := by
  have hf := hq.few
  have hfo := hq.fewo
  intro d
  induction d with
  | zero =>
    intro j hj
    refine Ev.step (f := fun _ => some ([], 0, 0, [], false, 301)) (fun k => ?_) (Ev.now _)
    simp only [hackamoreref28_Finish.l0]
    rw [L122_len, if_neg (by omega)]
  | succ d ih =>
    intro j hj
    obtain ⟨oj, hoj⟩ : ∃ o, q.opn[j]? = some o := ⟨q.opn[j], by simp [show j < q.opn.length by omega]⟩
    refine Ev.step (fun k => ?_) (ih (j + 1) (by omega))
    simp only [hackamoreref28_Finish.l0]
    rw [rdP hoj, L122_len, if_pos (by omega), if_pos (by omega), if_neg (show ¬ oj.1 = p from hno _ (List.mem_of_getElem? hoj)), wrap_small (by omega) (by omega)]
    rfl
theorem finish_none_ev (hq : WF q) {p : Int} (hno : ∀ o ∈ q.opn, o.1 ≠ p) :
    Ev (fun k => hackamoreref28_Finish.f k (L105 q.nodes) q.m q.done (L122 q.pushes) q.empty p) ([], 0, 0, [], false, 301) := by
  refine Ev.bind (check_ev hq) (Ev.congr (fun k => ?_) (finish_none_go hq hno q.opn.length 0 (by omega)))
  rw [if_pos rfl]
  rfl
theorem waiting_go (hq : WF q) : ∀ d i, i + d = q.m + 1 →
    Ev (fun k => hackamoreref28_Waiting.l0 k (q.took q.done (i - (q.done + 1))) (rng 0 (q.m + 1)) (decide (q.done < i)) (i : Int) (L105 q.nodes) q.m q.done (L122 q.pushes) q.empty) (q.took q.done (q.m - q.done), 0) := by
  have hf := hq.few
  have hd := hq.done
  intro d
  induction d with
  | zero =>
    intro i hi
    obtain rfl : i = q.m + 1 := by omega
    refine Ev.step (f := fun _ => some (q.took q.done (q.m - q.done), 0)) (fun k => ?_) (Ev.now _)
    simp only [hackamoreref28_Waiting.l0]
    rw [rng_len, if_neg (by omega), show q.m + 1 - (q.done + 1) = q.m - q.done by omega]
  | succ d ih =>
    intro i hi
    refine Ev.step (fun k => ?_) (ih (i + 1) (by omega))
    simp only [hackamoreref28_Waiting.l0]
    rw [rng_len, if_pos (by omega), wrap_small (by omega) (by omega)]
    by_cases hlt : q.done < i
    · have hn : q.node i = q.node ((i - 1) + 1) := by congr 1; omega
      rw [if_pos (by simpa using hlt), if_pos (by omega), rng_rd _ _ _ (by omega), Nat.zero_add, if_pos (by omega), L105_len, if_pos (by omega), if_pos (by simp [Q.took]; omega), rdN (by omega)]
      have h1 : (n105 (q.node i)).f0 = q.val (i - 1) := by rw [hn]; exact node_val q (i - 1)
      have h2 : q.took q.done (i - (q.done + 1)) ++ [q.val (i - 1)] = q.took q.done (i + 1 - (q.done + 1)) := by
        rw [show i + 1 - (q.done + 1) = (i - (q.done + 1)) + 1 by omega, ← took_snoc]
        congr 3
        omega
      rw [h1, h2, show decide (q.done < i + 1) = true by simp; omega]
      rfl
    · have hz : i - (q.done + 1) = i + 1 - (q.done + 1) := by omega
      rw [if_neg (by simpa using hlt), if_pos (by omega), rng_rd _ _ _ (by omega), hz]
      have : (((0 + i : Nat) : Int) == (q.done : Int)) = decide (q.done < i + 1) := by
        rw [Bool.eq_iff_iff]; simp; omega
      rw [this]
      rfl
theorem waiting_ev (hq : WF q) :
    Ev (fun k => hackamoreref28_Waiting.f k (L105 q.nodes) q.m q.done (L122 q.pushes) q.empty) (q.took q.done (q.m - q.done), 0) := by
  refine Ev.bind (check_ev hq) (Ev.congr (f := fun k => (hackamoreref28_Order.f k (L105 q.nodes) q.m q.done (L122 q.pushes) q.empty).bind fun t336 => (hackamoreref28_Waiting.l0 k (([] : List Int)) t336 false 0 (L105 q.nodes) q.m q.done (L122 q.pushes) q.empty)) (fun k => ?_) (Ev.bind (order_ev hq) ?_))
  · rw [if_pos rfl]
  · have := waiting_go hq (q.m + 1) 0 (by omega)
    rw [show decide (q.done < 0) = false by simp, show q.took q.done (0 - (q.done + 1)) = [] by simp [Q.took]] at this
    exact this
end
end Go.Proofs.Ytgbafpjeapkklaa.Mb
namespace Go.Proofs.Ytgbafpjeapkklaa.Mb
open Go.RowKit Go.Proofs.YtgbafpjeapkklaaW.PrintWords PMailboxRuns
set_option linter.unusedVariables false
set_option linter.unusedSimpArgs false
def StR (w : World) (v : Value) (q : Q) : Prop := ∃ ns ps, v = .agg #[ns, .int .i64 q.m, .int .i64 q.done, ps, .bool q.empty] ∧ TriT w 105 ns q.nodes ∧ TriT w 122 ps q.pushes
theorem StR.below {w w' : World} {v : Value} {q : Q} (h : StR w v q) (hb : Below w.heap.size w w') : StR w' v q := by
  obtain ⟨ns, ps, e, h1, h2⟩ := h
  exact ⟨ns, ps, e, h1.below hb, h2.below hb⟩
theorem L105_get {l : List (Int × Int × Int)} {j : Nat} {x : S105} (h : (L105 l)[j]? = some x) : ∃ y, l[j]? = some y ∧ x = n105 y := by
  simp only [L105, List.getElem?_map] at h
  obtain ⟨y, h1, h2⟩ := Option.map_eq_some_iff.1 h
  exact ⟨y, h1, h2.symm⟩
theorem L122_get {l : List (Int × Int × Int)} {j : Nat} {x : S122} (h : (L122 l)[j]? = some x) : ∃ y, l[j]? = some y ∧ x = n122 y := by
  simp only [L122, List.getElem?_map] at h
  obtain ⟨y, h1, h2⟩ := Option.map_eq_some_iff.1 h
  exact ⟨y, h1, h2.symm⟩
theorem trip_at {w : World} {a : Addr} {n cap : Nat} {l : List (Int × Int × Int)} (h : Tri w (.slice (some a) n cap) l) {j : Nat} {y : Int × Int × Int} (hy : l[j]? = some y) : ∀ i u, (trip y)[i]? = some u → w.cell? (a.add (j * 3 + i)) = some u := by
  intro i u hu
  obtain ⟨h0, h1, h2⟩ := cellsT_get l j y hy
  rcases i with _ | _ | _ | i
  · simp [trip] at hu; subst hu; exact h.src _ _ h0
  · simp [trip] at hu; subst hu; exact h.src _ _ h1
  · simp [trip] at hu; subst hu; exact h.src _ _ h2
  · simp [trip] at hu
theorem tri105 {w : World} {ns : Value} {l : List (Int × Int × Int)} (h : TriT w 105 ns l) (hl : l.length ≤ 2000) : ∃ A c, ns = .slice A (L105 l).length c ∧ (L105 l).length ≤ c ∧ Kd.C k105 w A (L105 l).length (L105 l) := by
  have e : (L105 l).length = l.length := by simp [L105]
  have ht := h.1
  obtain ⟨p, cap, rfl, hc, h1⟩ := h.1
  refine ⟨p, cap, by rw [e], by rw [e]; exact hc, rfl, by omega, fun h0 => ?_⟩
  rcases h1 with h1 | ⟨g, off, rfl, _⟩
  · subst h1; simp [L105] at h0
  · refine ⟨_, rfl, fun j x hx => ?_⟩
    obtain ⟨y, hy, rfl⟩ := L105_get hx
    exact ⟨trip y, rfl, k105_mk w (n105 y), trip_at ht hy⟩
theorem tri122 {w : World} {ns : Value} {l : List (Int × Int × Int)} (h : TriT w 122 ns l) (hl : l.length ≤ 2000) : ∃ A c, ns = .slice A (L122 l).length c ∧ (L122 l).length ≤ c ∧ Kd.C k122 w A (L122 l).length (L122 l) := by
  have e : (L122 l).length = l.length := by simp [L122]
  have ht := h.1
  obtain ⟨p, cap, rfl, hc, h1⟩ := h.1
  refine ⟨p, cap, by rw [e], by rw [e]; exact hc, rfl, by omega, fun h0 => ?_⟩
  rcases h1 with h1 | ⟨g, off, rfl, _⟩
  · subst h1; simp [L122] at h0
  · refine ⟨_, rfl, fun j x hx => ?_⟩
    obtain ⟨y, hy, rfl⟩ := L122_get hx
    exact ⟨trip y, rfl, k122_mk w (n122 y), trip_at ht hy⟩
theorem cells_of_reps {α : Type} (R : α → List Value → Prop) (f : Int × Int × Int → α) (hR : ∀ y c, R (f y) c → c = trip y) : ∀ (l : List (Int × Int × Int)) (cs : List Value), Reps R 3 (l.map f) cs → cs = cellsT l := by
  intro l
  induction l with
  | nil => intro cs h; have := h.1; simp at this; rw [this]; rfl
  | cons y l ih =>
    intro cs h
    have h0 := hR y _ (h.2 0 (f y) (by simp))
    simp only [Nat.zero_mul, List.drop_zero] at h0
    have hs : cs = cs.take 3 ++ cs.drop 3 := (List.take_append_drop 3 cs).symm
    rw [hs, h0, cellsT_cons]
    congr 1
    refine ih _ ⟨?_, fun j p hp => ?_⟩
    · have := h.1
      simp only [List.length_map, List.length_cons, List.length_drop] at this ⊢
      omega
    · have := h.2 (j + 1) p (by simpa using hp)
      rw [List.drop_drop, show 3 + j * 3 = (j + 1) * 3 by omega]
      exact this
theorem R105_tri {w : World} {base : Nat} {ok : Nat → Prop} {v : Value} {l : List (Int × Int × Int)} (h : Kd.R k105 105 w base ok v (L105 l)) : TriT w 105 v l := by
  obtain ⟨_, inner, ho, hr⟩ := h
  have e : inner = cellsT l := cells_of_reps _ n105 (fun y c hc => k105_openM hc) l inner hr
  rw [e] at ho
  exact own_triT (by simp [L105]) ho
theorem R122_tri {w : World} {base : Nat} {ok : Nat → Prop} {v : Value} {l : List (Int × Int × Int)} (h : Kd.R k122 122 w base ok v (L122 l)) : TriT w 122 v l := by
  obtain ⟨_, inner, ho, hr⟩ := h
  have e : inner = cellsT l := cells_of_reps _ n122 (fun y c hc => k122_openM hc) l inner hr
  rw [e] at ho
  exact own_triT (by simp [L122]) ho
end Go.Proofs.Ytgbafpjeapkklaa.Mb
namespace Go.Proofs.Ytgbafpjeapkklaa.Mb
open Go.RowKit Go.Proofs.YtgbafpjeapkklaaW.PrintWords PMailboxRuns
set_option linter.unusedVariables false
set_option linter.unusedSimpArgs false
theorem wf_n {q : Q} (hq : WF q) : q.nodes.length ≤ 2000 := by rw [nodes_len]; have := hq.few; omega
theorem wf_p {q : Q} (hq : WF q) : q.pushes.length ≤ 2000 := by rw [pushes_len]; have := hq.few; have := hq.fewo; omega
theorem rcheck_at {q : Q} (hq : WF q) {v : Value} (w : World) (hv : StR w v q) :
    Calls Try.prog 20 #[v] w fun en w' => en = .returned (.int .i64 0) ∧ Below w.heap.size w w' := by
  obtain ⟨ns, ps, rfl, hn, hp⟩ := hv
  obtain ⟨A, c, rfl, hc, hC⟩ := tri105 hn (wf_n hq)
  obtain ⟨A', c', rfl, hc', hC'⟩ := tri122 hp (wf_p hq)
  obtain ⟨k, hk⟩ := (check_ev hq).rounds
  exact hackamoreref28_Check.calls k A c _ _ _ A' c' _ _ _ w hC hc hC' hc' hk
theorem rbegin_at {q : Q} (hq : WF q) {v : Value} {p x : Int} (hp0 : 0 ≤ p) (hno : ∀ o ∈ q.opn, o.1 ≠ p) (hm : q.m + 1 < 2000) (w : World) (hv : StR w v q) :
    Calls Try.prog 46 #[v, .int .i64 p, .int .i64 x] w fun en w' => ∃ v', en = .returned (.tuple #[v', .bool q.empty, .int .i64 0]) ∧ StR w' v' (q.beg p x) ∧ Below w.heap.size w w' := by
  obtain ⟨ns, ps, rfl, hn, hp⟩ := hv
  obtain ⟨A, c, rfl, hc, hC⟩ := tri105 hn (wf_n hq)
  obtain ⟨A', c', rfl, hc', hC'⟩ := tri122 hp (wf_p hq)
  obtain ⟨k, hk⟩ := (begin_ev hq (x := x) hp0 hno hm).rounds
  refine (hackamoreref28_Begin.calls k A c _ _ _ A' c' _ _ p x _ _ _ _ _ _ _ w hC hc hC' hc' hk).mono ?_
  rintro en w' ⟨v0, v3, rfl, h1, h2, hb⟩
  exact ⟨_, rfl, ⟨v0, v3, rfl, R105_tri h1, R122_tri h2⟩, hb⟩
theorem R_empty {α : Type} {d : Kd α} {e : Nat} {w : World} {base : Nat} {ok : Nat → Prop} {v : Value} (h : Kd.R d e w base ok v []) : TriT w e v [] := by
  obtain ⟨A, c, rfl, hl, _⟩ := Kd.R_reads h
  refine ⟨⟨A, c, rfl, hl, .inl rfl⟩, fun g hg => ?_⟩
  obtain ⟨cells, hc⟩ := Kd.R_own h |>.elim fun inner ho => own_typed ho g hg
  exact ⟨cells, _, hc⟩
def StZ (w : World) (v : Value) : Prop := ∃ ns ps, v = .agg #[ns, .int .i64 0, .int .i64 0, ps, .bool false] ∧ TriT w 105 ns [] ∧ TriT w 122 ps []
theorem StZ.below {w w' : World} {v : Value} (h : StZ w v) (hb : Below w.heap.size w w') : StZ w' v := by
  obtain ⟨ns, ps, e, h1, h2⟩ := h
  exact ⟨ns, ps, e, h1.below hb, h2.below hb⟩
theorem rbegin_neg {q : Q} (hq : WF q) {v : Value} {p x : Int} (hp0 : p < 0) (w : World) (hv : StR w v q) :
    Calls Try.prog 46 #[v, .int .i64 p, .int .i64 x] w fun en w' => ∃ v', en = .returned (.tuple #[v', .bool false, .int .i64 1]) ∧ StZ w' v' ∧ Below w.heap.size w w' := by
  obtain ⟨ns, ps, rfl, hn, hp⟩ := hv
  obtain ⟨A, c, rfl, hc, hC⟩ := tri105 hn (wf_n hq)
  obtain ⟨A', c', rfl, hc', hC'⟩ := tri122 hp (wf_p hq)
  obtain ⟨k, hk⟩ := (begin_neg_ev hq (x := x) hp0).rounds
  refine (hackamoreref28_Begin.calls k A c _ _ _ A' c' _ _ p x _ _ _ _ _ _ _ w hC hc hC' hc' hk).mono ?_
  rintro en w' ⟨v0, v3, rfl, h1, h2, hb⟩
  exact ⟨_, rfl, ⟨v0, v3, rfl, R_empty h1, R_empty h2⟩, hb⟩
theorem rbegin_busy {q : Q} (hq : WF q) {v : Value} {p x : Int} (hp0 : 0 ≤ p) {i j : Nat} (ho : q.opn[i]? = some (p, j)) (w : World) (hv : StR w v q) :
    Calls Try.prog 46 #[v, .int .i64 p, .int .i64 x] w fun en w' => ∃ v', en = .returned (.tuple #[v', .bool false, .int .i64 300]) ∧ StZ w' v' ∧ Below w.heap.size w w' := by
  obtain ⟨ns, ps, rfl, hn, hp⟩ := hv
  obtain ⟨A, c, rfl, hc, hC⟩ := tri105 hn (wf_n hq)
  obtain ⟨A', c', rfl, hc', hC'⟩ := tri122 hp (wf_p hq)
  obtain ⟨k, hk⟩ := (begin_busy_ev hq (x := x) hp0 ho rfl).rounds
  refine (hackamoreref28_Begin.calls k A c _ _ _ A' c' _ _ p x _ _ _ _ _ _ _ w hC hc hC' hc' hk).mono ?_
  rintro en w' ⟨v0, v3, rfl, h1, h2, hb⟩
  exact ⟨_, rfl, ⟨v0, v3, rfl, R_empty h1, R_empty h2⟩, hb⟩
theorem V105 {w : World} {A : Option Addr} {c : Nat} {xs : List S105} (h : Kd.C k105 w A xs.length xs) (hc : xs.length ≤ c) : Kd.V k105 105 w w.heap.size (fun k => k < w.heap.size) (.slice A xs.length c) xs :=
  ⟨A, c, rfl, hc, Kd.C_F (Kd.heap_iso _ (Kd.heap_pair (Kd.heap_int _) (Kd.heap_pair (Kd.heap_int _) (Kd.heap_int _)))) h⟩
theorem V122 {w : World} {A : Option Addr} {c : Nat} {xs : List S122} (h : Kd.C k122 w A xs.length xs) (hc : xs.length ≤ c) : Kd.V k122 122 w w.heap.size (fun k => k < w.heap.size) (.slice A xs.length c) xs :=
  ⟨A, c, rfl, hc, Kd.C_F (Kd.heap_iso _ (Kd.heap_pair (Kd.heap_int _) (Kd.heap_pair (Kd.heap_int _) (Kd.heap_int _)))) h⟩
theorem rfinish_at {q : Q} (hq : WF q) {v : Value} {i j : Nat} {p : Int} (ho : q.opn[i]? = some (p, j)) (w : World) (hv : StR w v q) :
    Calls Try.prog 48 #[v, .int .i64 p] w fun en w' => ∃ v', en = .returned (.tuple #[v', .int .i64 0]) ∧ StR w' v' (q.fin i) ∧ Below w.heap.size w w' := by
  obtain ⟨ns, ps, rfl, hn, hp⟩ := hv
  obtain ⟨A, c, rfl, hc, hC⟩ := tri105 hn (wf_n hq)
  obtain ⟨A', c', rfl, hc', hC'⟩ := tri122 hp (wf_p hq)
  obtain ⟨k, hk⟩ := (finish_ev hq ho).rounds
  refine (hackamoreref28_Finish.calls k _ A c _ _ _ _ A' c' _ _ p _ _ _ _ _ _ w (V105 hC hc) (V122 hC' hc') hk).mono ?_
  rintro en w' ⟨v0, v3, rfl, h1, h2, hb⟩
  exact ⟨_, rfl, ⟨v0, v3, rfl, R105_tri h1, R122_tri h2⟩, hb⟩
theorem rfinish_none {q : Q} (hq : WF q) {v : Value} {p : Int} (hno : ∀ o ∈ q.opn, o.1 ≠ p) (w : World) (hv : StR w v q) :
    Calls Try.prog 48 #[v, .int .i64 p] w fun en w' => ∃ v', en = .returned (.tuple #[v', .int .i64 301]) ∧ StZ w' v' ∧ Below w.heap.size w w' := by
  obtain ⟨ns, ps, rfl, hn, hp⟩ := hv
  obtain ⟨A, c, rfl, hc, hC⟩ := tri105 hn (wf_n hq)
  obtain ⟨A', c', rfl, hc', hC'⟩ := tri122 hp (wf_p hq)
  obtain ⟨k, hk⟩ := (finish_none_ev hq hno).rounds
  refine (hackamoreref28_Finish.calls k _ A c _ _ _ _ A' c' _ _ p _ _ _ _ _ _ w (V105 hC hc) (V122 hC' hc') hk).mono ?_
  rintro en w' ⟨v0, v3, rfl, h1, h2, hb⟩
  exact ⟨_, rfl, ⟨v0, v3, rfl, R_empty h1, R_empty h2⟩, hb⟩
theorem Rint_own {w : World} {base : Nat} {ok : Nat → Prop} {v : Value} {l : List Int} (h : Kd.R (Kd.int .i64) 3 w base ok v l) : w.ownsRow base 3 1 v l.length (ints l) := by
  obtain ⟨_, inner, ho, hr⟩ := h
  have e : inner = ints l := by
    obtain ⟨h1, h2⟩ := hr
    apply List.ext_getElem?
    intro j
    by_cases hj : j < l.length
    · have := h2 j l[j] (by simp [hj])
      have hs : (List.drop (j * 1) inner).take 1 = [Value.int .i64 l[j]] := this
      have h3 : ((List.drop (j * 1) inner).take 1)[0]? = inner[j]? := by
        rw [List.getElem?_take]; simp
      rw [← h3, hs]
      simp [ints, hj]
    · rw [List.getElem?_eq_none (by rw [h1]; show l.length * 1 ≤ j; omega), List.getElem?_eq_none (by simp [ints]; omega)]
  rw [e] at ho
  exact ho
theorem rwaiting_at {q : Q} (hq : WF q) {v : Value} (w : World) (hv : StR w v q) :
    Calls Try.prog 52 #[v] w fun en w' => ∃ u, en = .returned (.tuple #[u, .int .i64 0]) ∧ w'.ownsRow w.heap.size 3 1 u (q.m - q.done) (ints (q.took q.done (q.m - q.done))) ∧ Below w.heap.size w w' := by
  obtain ⟨ns, ps, rfl, hn, hp⟩ := hv
  obtain ⟨A, c, rfl, hc, hC⟩ := tri105 hn (wf_n hq)
  obtain ⟨A', c', rfl, hc', hC'⟩ := tri122 hp (wf_p hq)
  obtain ⟨k, hk⟩ := (waiting_ev hq).rounds
  refine (hackamoreref28_Waiting.calls k A c _ _ _ A' c' _ _ _ _ w hC hc hC' hc' hk).mono ?_
  rintro en w' ⟨v0, rfl, h1, hb⟩
  have h2 := Rint_own h1
  rw [show (q.took q.done (q.m - q.done)).length = q.m - q.done by simp [Q.took]] at h2
  exact ⟨v0, rfl, h2, hb⟩
end Go.Proofs.Ytgbafpjeapkklaa.Mb
namespace Go.Proofs.Ytgbafpjeapkklaa.PMailboxRuns
open Go.RowKit Go.Proofs.YtgbafpjeapkklaaW.PrintWords Go.Proofs.YtgbafpjeapkklaaW.PrintLast Go.Proofs.YtgbafpjeapkklaaW.PrintMore
attribute [local go_sem] max2_int min2_int max_two min_two max_three min_three max_four min_four
set_option linter.unusedVariables false
set_option linter.unusedSimpArgs false
theorem eqA99 (d : Nat) (w : World) (x0 y0 : Int) (x1 y1 : Int) (x2 y2 : Int) :
  (Op.equalIn (d + 2) 99 (.agg #[.int .i64 x0, .int .i64 x1, .int .i64 x2]) (.agg #[.int .i64 y0, .int .i64 y1, .int .i64 y2])).run Try.prog w = .ok (x0 == y0 && (x1 == y1 && (x2 == y2))) w := by
 refine eqA_of Try.underlying99 (by kernel_rfl) ?_
 refine eqf_cons (by rfl) (by go_simp; rfl) (by go_simp; rfl) (by go_simp) ?_
 refine eqf_cons (by rfl) (by go_simp; rfl) (by go_simp; rfl) (by go_simp) ?_
 exact eqf_last (by rfl) (by go_simp; rfl) (by go_simp; rfl) (by go_simp)
end Go.Proofs.Ytgbafpjeapkklaa.PMailboxRuns
namespace Go.Proofs.Ytgbafpjeapkklaa.PMailboxRuns
open Go.RowKit Go.Proofs.YtgbafpjeapkklaaW.PrintWords Go.Proofs.YtgbafpjeapkklaaW.PrintLast Go.Proofs.YtgbafpjeapkklaaW.PrintMore
attribute [local go_sem] max2_int min2_int max_two min_two max_three min_three max_four min_four
set_option linter.unusedVariables false
set_option linter.unusedSimpArgs false
theorem eqA102 (d : Nat) (w : World) (x0 y0 : Int) (x1 y1 : Int) (x2 y2 : Int) :
  (Op.equalIn (d + 2) 102 (.agg #[.int .i64 x0, .int .i64 x1, .int .i64 x2]) (.agg #[.int .i64 y0, .int .i64 y1, .int .i64 y2])).run Try.prog w = .ok (x0 == y0 && (x1 == y1 && (x2 == y2))) w := by
 refine eqA_of Try.underlying102 (by kernel_rfl) ?_
 refine eqf_cons (by rfl) (by go_simp; rfl) (by go_simp; rfl) (by go_simp) ?_
 refine eqf_cons (by rfl) (by go_simp; rfl) (by go_simp; rfl) (by go_simp) ?_
 exact eqf_last (by rfl) (by go_simp; rfl) (by go_simp; rfl) (by go_simp)
end Go.Proofs.Ytgbafpjeapkklaa.PMailboxRuns
