/- Parts Rj of the proof. -/
import Derived.Test.YtgbafpjeapkklaaG5
import Derived.Test.YtgbafpjeapkklaaG6
import Derived.Test.YtgbafpjeapkklaaG7
namespace Go.Proofs.Ytgbafpjeapkklaa.PMailboxRuns
open Go.RowKit Go.Proofs.YtgbafpjeapkklaaW.PrintWords Go.Proofs.YtgbafpjeapkklaaW.PrintLast Go.Proofs.YtgbafpjeapkklaaW.PrintMore
attribute [local go_sem] max2_int min2_int max_two min_two max_three min_three max_four min_four
set_option linter.unusedVariables false
set_option linter.unusedSimpArgs false
def hackamoreref28_Waiting.l0 : Nat → List Int → List Int → Bool → Int → List (S105) → Int → Int → List (S122) → Bool → Option (List Int × Int)
 | 0, _, _, _, _, _, _, _, _, _ => none
 | k + 1, x5, x6, x7, x8, aT, aa, aY, ab, ac => if x8 < (x6.length : Int) then (if x7 = true then (if 0 ≤ x8 then (if 0 ≤ (rd x6 x8) then (if (rd x6 x8) < (aT.length : Int) then (if x5.length < 17592186044416 then (hackamoreref28_Waiting.l0 k (x5 ++ [(rZ5 aT (rd x6 x8)).f0]) x6 true (wrap64 (x8 + 1)) aT aa aY ab ac) else (none)) else (none)) else (none)) else (none)) else (if 0 ≤ x8 then (hackamoreref28_Waiting.l0 k x5 x6 ((rd x6 x8) == aY) (wrap64 (x8 + 1)) aT aa aY ab ac) else (none))) else (some (x5, 0))
def hackamoreref28_Waiting.f (k : Nat) (a2 : List (S105)) (a5 : Int) (a4 : Int) (a3 : List (S122)) (a6 : Bool) : Option (List Int × Int) := (hackamoreref28_Check.f k a2 a5 a4 a3 a6).bind fun t332 => (if t332 = 0 then ((hackamoreref28_Order.f k a2 a5 a4 a3 a6).bind fun t336 => (hackamoreref28_Waiting.l0 k (([] : List Int)) t336 false 0 a2 a5 a4 a3 a6)) else (some (([] : List Int), t332)))
def hackamoreref28_Waiting.T11 : Bool × List (List Nat × List Nat) := (true, [([], []), ([], []), ([1], [1]), ([], []), ([], []), ([3, 4], [3, 4]), ([5], [5]), ([2, 6], [2, 6]), ([7], [7]), ([8], [8]), ([9], [9]), ([0, 10], [0, 10]), ([11, 11, 0, 1, 2, 3, 4, 5, 6, 7, 8, 9, 10, 11], [0, 11])])
def hackamoreref28_Waiting.B11 : List Nat := [0, 0, 2, 0, 0, 24, 56, 126, 254, 510, 1022, 2047, 4095]
theorem hackamoreref28_Waiting.tab11 : rtab .any (opsOf Try.f52 11) = hackamoreref28_Waiting.T11 := by kernel_rfl
theorem hackamoreref28_Waiting.bits11 : waitsOk hackamoreref28_Waiting.T11.2 hackamoreref28_Waiting.B11 = true := by kernel_rfl
def hackamoreref28_Waiting.T12 : Bool × List (List Nat × List Nat) := (true, [([], []), ([0], [0]), ([1], [1]), ([1], [1]), ([2, 3, 1], [1, 2, 3]), ([4, 1], [1, 4]), ([1], [1]), ([6, 1], [1, 6]), ([5, 7, 1], [1, 5, 7]), ([1, 8], [1, 8]), ([9, 1, 0, 1, 2, 3, 4, 5, 6, 7, 8, 9], [0, 9])])
def hackamoreref28_Waiting.B12 : List Nat := [0, 1, 3, 3, 15, 31, 3, 67, 255, 511, 1023]
theorem hackamoreref28_Waiting.tab12 : rtab .any (opsOf Try.f52 12) = hackamoreref28_Waiting.T12 := by kernel_rfl
theorem hackamoreref28_Waiting.bits12 : waitsOk hackamoreref28_Waiting.T12.2 hackamoreref28_Waiting.B12 = true := by kernel_rfl
set_option maxHeartbeats 8000000 in
set_option maxRecDepth 100000 in
theorem hackamoreref28_Waiting.calls (k : Nat) (aR : Option Addr) (aH : Nat) (a2 : List (S105)) (a5 : Int) (a4 : Int) (aI : Option Addr) (aJ : Nat) (a3 : List (S122)) (a6 : Bool) (r1 : List Int) (r2 : Int) (w : World) (am : Kd.C k105 w aR a2.length a2) (an : a2.length ≤ aH) (ao : Kd.C k122 w aI a3.length a3) (ap : a3.length ≤ aJ) (h : hackamoreref28_Waiting.f k a2 a5 a4 a3 a6 = some (r1, r2)) :
  Calls Try.prog 52 #[.agg #[.slice aR a2.length aH, .int .i64 a5, .int .i64 a4, .slice aI a3.length aJ, .bool a6]] w fun e w' => ∃ v0_ : Value, e = .returned (.tuple #[v0_, .int .i64 r2]) ∧ Kd.R (Kd.int .i64) 3 w' w.heap.size (fun _ => True) v0_ r1 ∧ Below w.heap.size w w' := by
 have hu46 := Try.underlying46
 have aZ := Z0.mk am
 have ai := Z0.mk an
 clear am an
 have aj := Z0.mk ao
 have ak := Z0.mk ap
 clear ao ap
 have HB := Z0.mk (Below.refl w.heap.size w)
 have H : ((hackamoreref28_Check.f k a2 a5 a4 a3 a6).bind fun t332 => (if t332 = 0 then ((hackamoreref28_Order.f k a2 a5 a4 a3 a6).bind fun t336 => (hackamoreref28_Waiting.l0 k (([] : List Int)) t336 false 0 a2 a5 a4 a3 a6)) else (some (([] : List Int), t332)))) = some (r1, r2) := h
 clear h
 replace H := Option.bind_eq_some_iff.mp H
 obtain ⟨t332, A20, H⟩ := H
 replace H : (if t332 = 0 then ((hackamoreref28_Order.f k a2 a5 a4 a3 a6).bind fun t336 => (hackamoreref28_Waiting.l0 k (([] : List Int)) t336 false 0 a2 a5 a4 a3 a6)) else (some (([] : List Int), t332))) = some (r1, r2) := H
 have A2 := Z0.mk A20
 clear A20
 by_cases c3 : t332 = 0
 ·rw [if_pos c3] at H
  have c3b0 : (t332 == 0) = true := beq_iff_eq.mpr c3
  have c3b1 : (t332 != 0) = false := bne_eq_false_iff_eq.mpr c3
  clear c3
  obtain ⟨y333, aU⟩ : ∃ y_ : List Int, y_ = (([] : List Int)) := ⟨_, rfl⟩
  replace H : ((hackamoreref28_Order.f k a2 a5 a4 a3 a6).bind fun t336 => (hackamoreref28_Waiting.l0 k y333 t336 false 0 a2 a5 a4 a3 a6)) = some (r1, r2) := by first | (rw [aU]; with_reducible exact H) | (have H2_ := (Option.bind_some _ _).symm.trans H; rw [aU]; with_reducible exact H2_) | (have H2_ := (Option.bind_some _ _).symm.trans H; with_reducible exact H2_) | with_reducible exact H | (rw [aU]; exact H) | exact H
  have aq := Z0.mk aU
  clear aU
  replace H := Option.bind_eq_some_iff.mp H
  obtain ⟨t336, A40, H⟩ := H
  replace H : (hackamoreref28_Waiting.l0 k y333 t336 false 0 a2 a5 a4 a3 a6) = some (r1, r2) := H
  have A4 := Z0.mk A40
  clear A40
  have H' := Z0.mk H
  clear H
  go_enter Try.func52, Try.ntmps52
  go_wp2_with (first | ((with_reducible refine gate_dst (N := 1) rfl ?_); refine box_event ?hg (N := 1) ?hd (cs := #[.slice aR a2.length aH, .int .i64 a5, .int .i64 a4, .slice aI a3.length aJ, .bool a6]) (t := 46) ?hr ?_; (case hd => rfl); (case hg => rfl); (case hr => first | (go_simp; done) | (go_simp; rfl)); intro aC hg w5 hbox hb; have a8 := Z0.mk (bP (by repeat (first | (with_reducible first | apply bA | apply bN | apply bD) | exact HB.out)) hb); have a9 := Z0.mk (hbox); have aA := Z0.mk ((by rw [hg]; exact (bZ (by repeat (first | (with_reducible first | apply bA | apply bN | apply bD) | exact HB.out))) : w.heap.size ≤ aC)); have aE := aA; clear HB; have HB := a8; have a0 := a9; have bF := aA; have aD := aE; clear a8 a9 aA aE hb hbox hg; obtain ⟨b3, b4, b5, b6, b7, b8, b9, bB, bC, bE⟩ := kc5 a0.out) | ((with_reducible refine gate_callee (f := 20) rfl ?_); refine goesL_ (some 10) rfl rfl Try.func20 (by kernel_rfl) rfl #[.agg #[.slice aR a2.length aH, .int .i64 a5, .int .i64 a4, .slice aI a3.length aJ, .bool a6]] rfl (by (try simp only [List.map_toArray, List.map_cons, List.map_nil]); first | done | rfl | (simp only [List.length_drop, List.length_take]; rfl)) ?_; (with_reducible refine (hackamoreref28_Check.calls k _ _ a2 a5 a4 _ _ a3 a6 t332 _ ?side1 ?side2 ?side3 ?side4 A2.out).mono ?_); (case side1 => repeat (first | exact (Kd.C_below aZ.out HB.out) | (with_reducible refine Kd.C_alloc ?_ _) | (with_reducible refine Kd.C_drewN ?_ _) | (with_reducible refine Kd.C_drew ?_))); (case side2 => exact ai.out); (case side3 => repeat (first | exact (Kd.C_below aj.out HB.out) | (with_reducible refine Kd.C_alloc ?_ _) | (with_reducible refine Kd.C_drewN ?_ _) | (with_reducible refine Kd.C_drew ?_))); (case side4 => exact ak.out); rintro e w7 ⟨rfl, hb⟩; refine ⟨_, rfl, ?_⟩; have a8 := Z0.mk (kB (by (with_reducible repeat first | apply kN | apply kD | apply kA); exact a0.out) hb); have a9 := Z0.mk (bP (by repeat (first | (with_reducible first | apply bA | apply bN | apply bD | refine bS ?_ aD.out) | exact HB.out)) hb); clear a0 HB; have a0 := a8; have HB := a9; clear a8 a9; (try clear hb); (try clear hb2); (try clear hk); (try clear hi)) | ((with_reducible refine gate_dst (N := 14) rfl ?_); refine Kd.R_lit (Kd.int .i64) _ 3 ?hg (N := 14) ?hd (xs := ([] : List Int)) (inner := []) (ok := fun _ => True) (okp := fun _ => True) ?hr ?hp (fun _ hk => hk) trivial (Below.refl _ _) (Nat.le_refl _) (by simp) ?_; (case hd => rfl); (case hg => rfl); (case hr => first | (go_simp; done) | (go_simp; rfl)); (case hp => exact (Reps.none _ _)); intro v334 w8 ho9 hb hg_ hnew_; clear hg_ hnew_; (first | rw [← aq.out] at ho9 | (simp only [Int.reduceToNat] at ho9; rw [← aq.out] at ho9)); have a8 := Z0.mk (Kd.R_lower ho9 (bZ (by repeat (first | (with_reducible first | apply bA | apply bN | apply bD | refine bS ?_ aD.out) | exact HB.out)))); have a9 := Z0.mk (kB (by (with_reducible repeat first | apply kN | apply kD | apply kA); exact a0.out) hb); have aA := Z0.mk (bP (by repeat (first | (with_reducible first | apply bA | apply bN | apply bD | refine bS ?_ aD.out) | exact HB.out)) hb); clear a0 HB; have aV := a8; have a0 := a9; have HB := aA; clear a8 a9 aA hb ho9; obtain ⟨ar, au, av, aw, ax, ay, az, b0, b1, b2⟩ := kc5 a0.out) | ((with_reducible refine gate_callee (f := 55) rfl ?_); refine goesL_ (some 16) rfl rfl Try.func55 (by kernel_rfl) rfl #[.agg #[.slice aR a2.length aH, .int .i64 a5, .int .i64 a4, .slice aI a3.length aJ, .bool a6]] rfl (by (try simp only [List.map_toArray, List.map_cons, List.map_nil]); first | done | rfl | (simp only [List.length_drop, List.length_take]; rfl)) ?_; (with_reducible refine (hackamoreref28_Order.calls k _ _ a2 a5 a4 _ _ a3 a6 t336 _ ?side1 ?side2 ?side3 ?side4 A4.out).mono ?_); (case side1 => repeat (first | exact (Kd.C_below aZ.out HB.out) | (with_reducible refine Kd.C_alloc ?_ _) | (with_reducible refine Kd.C_drewN ?_ _) | (with_reducible refine Kd.C_drew ?_))); (case side2 => exact ai.out); (case side3 => repeat (first | exact (Kd.C_below aj.out HB.out) | (with_reducible refine Kd.C_alloc ?_ _) | (with_reducible refine Kd.C_drewN ?_ _) | (with_reducible refine Kd.C_drew ?_))); (case side4 => exact ak.out); rintro e w11 ⟨v337, rfl, ho0, hb⟩; refine ⟨_, rfl, ?_⟩; have a8 := Z0.mk (Kd.R_elder' (by (with_reducible repeat (first | apply Kd.R_alloc | apply Kd.R_drewN | apply Kd.R_drew)); exact aV.out) (Kd.R_base ho0) hb); have a9 := Z0.mk (Kd.R_lower (Kd.R_new' ho0 (Kd.R_lt (by (with_reducible repeat (first | apply Kd.R_alloc | apply Kd.R_drewN | apply Kd.R_drew)); exact aV.out))) (bZ (by repeat (first | (with_reducible first | apply bA | apply bN | apply bD | refine bS ?_ aD.out) | exact HB.out)))); have aA := Z0.mk (kB (by (with_reducible repeat first | apply kN | apply kD | apply kA); exact a0.out) hb); have aE := Z0.mk (bP (by repeat (first | (with_reducible first | apply bA | apply bN | apply bD | refine bS ?_ aD.out) | exact HB.out)) hb); clear aV a0 HB; have aV := a8; have bG := a9; have a0 := aA; have HB := aE; clear a8 a9 aA aE; (try clear hb); (try clear hb2); (try clear hk); (try clear hi); (try clear ho0)))
  go_loopg [5, 7, 8] k (fun kq v5 v7 v8 w' => ∃ (aK : List Int) (al : Bool) (a1 : Int), v7 = .bool al ∧ v8 = .int .i64 a1 ∧ Z0 (hackamoreref28_Waiting.l0 kq aK t336 al a1 a2 a5 a4 a3 a6 = some (r1, r2)) ∧ Z0 (kq ≤ k) ∧ Z0 (Kd.R (Kd.int .i64) 3 w' w.heap.size (fun k_ => some k_ ≠ (v337 : Value).ownBlock) v5 aK) ∧ Z0 (Kd.R (Kd.int .i64) 3 w' w.heap.size (fun k_ => some k_ ≠ (v5 : Value).ownBlock) v337 t336) ∧ Z0 (w'.heap[aC]? = some (.cells #[(.slice aR a2.length aH), .int .i64 a5, .int .i64 a4, (.slice aI a3.length aJ), .bool a6] 46 (0, 0))) ∧ Z0 (Below w.heap.size w w'))
  case atStart => exact ⟨(y333), (false), (0), (by first | rfl | (simp; done) | (simp [*]; done)), (by first | rfl | (simp; done) | (simp [*]; done)), H', ⟨Nat.le_refl _⟩, ⟨by (with_reducible repeat (first | apply Kd.R_alloc | apply Kd.R_drewN | apply Kd.R_drew)); exact Kd.R_mono aV.out (fun _ hk => hk.2)⟩, ⟨by (with_reducible repeat (first | apply Kd.R_alloc | apply Kd.R_drewN | apply Kd.R_drew)); exact Kd.R_mono bG.out (fun _ hk => hk.2)⟩, ⟨by (with_reducible repeat first | apply kN | apply kD | apply kA); exact a0.out⟩, ⟨by repeat (first | (with_reducible first | apply bA | apply bN | apply bD | refine bS ?_ aD.out) | exact HB.out)⟩⟩
  case round =>
   clear H'
   try clear c2
   try clear p2
   try clear c3
   try clear c3b0
   try clear c3b1
   try clear c5
   try clear ar
   try clear au
   try clear av
   try clear aw
   try clear ax
   try clear b3
   try clear b4
   try clear b5
   try clear b6
   try clear b7
   try clear ay
   try clear az
   try clear b0
   try clear b1
   try clear b2
   try clear b8
   try clear b9
   try clear bB
   try clear bC
   try clear bE
   obtain ⟨aK, al, a1, rfl, rfl, HA, HK1, aG, a7, a0, HB⟩ := hrel
   cases gk with
   | zero => exact absurd HA.out (by simp [hackamoreref28_Waiting.l0])
   | succ k1 =>
    have H := HA.out
    clear HA
    simp only [hackamoreref28_Waiting.l0] at H
    by_cases c12 : a1 < (t336.length : Int)
    ·rw [if_pos c12] at H
     have c12b0 : decide (a1 < (t336.length : Int)) = true := decide_eq_true c12
     clear c12
     by_cases c13 : al = true
     ·subst c13
      have H1 : (if 0 ≤ a1 then (if 0 ≤ (rd t336 a1) then (if (rd t336 a1) < (a2.length : Int) then (if aK.length < 17592186044416 then (hackamoreref28_Waiting.l0 k1 (aK ++ [(rZ5 a2 (rd t336 a1)).f0]) t336 true (wrap64 (a1 + 1)) a2 a5 a4 a3 a6) else (none)) else (none)) else (none)) else (none)) = some (r1, r2) := by rw [if_pos rfl] at H; exact H
      clear H
      have H := H1
      clear H1
      by_cases c14 : 0 ≤ a1
      ·rw [if_pos c14] at H
       have c14b0 : decide (0 ≤ a1) = true := decide_eq_true c14
       clear c14
       by_cases c15 : 0 ≤ (rd t336 a1)
       ·rw [if_pos c15] at H
        have c15b0 : decide (0 ≤ (rd t336 a1)) = true := decide_eq_true c15
        clear c15
        by_cases c16 : (rd t336 a1) < (a2.length : Int)
        ·rw [if_pos c16] at H
         have c16b0 : decide ((rd t336 a1) < (a2.length : Int)) = true := decide_eq_true c16
         clear c16
         by_cases c17 : aK.length < 17592186044416
         ·rw [if_pos c17] at H
          have bH := Z0.mk c17
          clear c17
          obtain ⟨y341, aW⟩ : ∃ y_ : List Int, y_ = (aK ++ [(rZ5 a2 (rd t336 a1)).f0]) := ⟨_, rfl⟩
          replace H : (hackamoreref28_Waiting.l0 k1 y341 t336 true (wrap64 (a1 + 1)) a2 a5 a4 a3 a6) = some (r1, r2) := by first | (rw [aW]; with_reducible exact H) | (have H2_ := (Option.bind_some _ _).symm.trans H; rw [aW]; with_reducible exact H2_) | (have H2_ := (Option.bind_some _ _).symm.trans H; with_reducible exact H2_) | with_reducible exact H | (rw [aW]; exact H) | exact H
          have bI := Z0.mk aW
          clear aW
          have H' := Z0.mk H
          clear H
          obtain ⟨Ao18, co18, eo18⟩ := Kd.R_slice a7.out
          subst eo18
          try go_wp2
          have a8 := Z0.mk (Kd.R_drew aG.out)
          have a9 := Z0.mk (Kd.R_drew a7.out)
          have aA := Z0.mk (kD a0.out)
          have aE := Z0.mk (bD HB.out)
          clear aG
          clear a7
          clear a0
          clear HB
          have aG := a8
          have a7 := a9
          have a0 := aA
          have HB := aE
          clear a8 a9 aA aE
          have p339 : 0 ≤ (a1 : Int) := of_decide_eq_true (by assumption)
          have q339 : a1 < (t336.length : Int) := of_decide_eq_true (by assumption)
          obtain ⟨ad339, e339, ad⟩ := Kd.at_int (Kd.R_reads' a7.out).2.2 a1 p339 q339
          cases e339
          replace p339 := eq_true p339
          replace q339 := eq_true q339
          have p340 : 0 ≤ ((rd t336 a1) : Int) := of_decide_eq_true (by assumption)
          have q340 : (rd t336 a1) < (a2.length : Int) := of_decide_eq_true (by assumption)
          obtain ⟨ad340, e340, aM, aN, aQ⟩ := at_T105 aZ.out (rd t336 a1) p340 q340
          have ae := aQ
          have af := aN
          have ag := aM
          cases e340
          replace aM := (HB.out.cell (World.block_lt_of_cell? w _ aM)).trans aM
          replace aN := (HB.out.cell (World.block_lt_of_cell? w _ aN)).trans aN
          replace aQ := (HB.out.cell (World.block_lt_of_cell? w _ aQ)).trans aQ
          replace p340 := eq_true p340
          replace q340 := eq_true q340
          refine start_ (n := 13) (S := fun w' => w'.cell? ⟨aC, 0, none⟩ = some (.slice (some ad340) a2.length aH) ∧ w'.cell? ⟨aC, 1, none⟩ = some (.int .i64 a5) ∧ w'.cell? ⟨aC, 2, none⟩ = some (.int .i64 a4) ∧ w'.cell? ⟨aC, 3, none⟩ = some (.slice aI a3.length aJ) ∧ w'.cell? ⟨aC, 4, none⟩ = some (.bool a6) ∧ w'.cell? (ad339.add (a1).toNat) = some (.int .i64 (rd t336 a1)) ∧ w'.cell? (ad340.add (((rd t336 a1)).toNat * 3)) = some (.int .i64 ((rZ5 a2 (rd t336 a1)).f0)) ∧ w'.cell? ⟨(ad340.add (((rd t336 a1)).toNat * 3)).block, (ad340.add (((rd t336 a1)).toNat * 3)).off + 1, none⟩ = some (.int .i64 ((rZ5 a2 (rd t336 a1)).f1)) ∧ w'.cell? ⟨(ad340.add (((rd t336 a1)).toNat * 3)).block, (ad340.add (((rd t336 a1)).toNat * 3)).off + 2, none⟩ = some (.int .i64 ((rZ5 a2 (rd t336 a1)).f2))) (ds := [10, 11]) #[false, false, false, false, false, false, false, false, false, false, false, false, false] (by kernel_rfl) rfl rfl ⟨(kC a0.out 0).trans rfl, (kC a0.out 1).trans rfl, (kC a0.out 2).trans rfl, (kC a0.out 3).trans rfl, (kC a0.out 4).trans rfl, ad, ((HB.out.cell (World.block_lt_of_cell? w _ ag)).trans ag), ((HB.out.cell (World.block_lt_of_cell? w _ af)).trans af), ((HB.out.cell (World.block_lt_of_cell? w _ ae)).trans ae)⟩ (fun hHeld => ?_); refine with_tabW hackamoreref28_Waiting.tab11 hackamoreref28_Waiting.bits11 (fun HT_ HW_ => ?_)
          generalize wr.drew = w19 at aG a7 a0 HB ad aM aN aQ hHeld ⊢
          refine pure_ (i := 0) (N := some 24) (v := ?_) (a' := ?_) #[true, false, false, false, false, false, false, false, false, false, false, false, false] rfl rfl (any_of HT_.out (by kernel_rfl)) (fun _ _ _ h => h) (Or.inl ⟨by rfl, ?_⟩) ?_ ?_
          rotate_left
          ·intro w'
           go_simp
           with_reducible rfl
          rotate_left
          ·simp only [Act.put, List.setIfInBounds_toArray, List.set_cons_zero, List.set_cons_succ, i64_w, i32_w]
           rfl
          refine pure_ (i := 1) (N := some 25) (v := ?_) (a' := ?_) #[true, true, false, false, false, false, false, false, false, false, false, false, false] rfl rfl (any_of HT_.out (by kernel_rfl)) (fun _ _ _ h => h) (Or.inl ⟨by rfl, ?_⟩) ?_ ?_
          rotate_left
          ·intro w'
           go_simp
           with_reducible rfl
          rotate_left
          ·simp only [Act.put, List.setIfInBounds_toArray, List.set_cons_zero, List.set_cons_succ, i64_w, i32_w]
           rfl
          refine pure_ (i := 3) (N := some 27) (v := ?_) (a' := ?_) #[true, true, false, true, false, false, false, false, false, false, false, false, false] rfl rfl (any_of HT_.out (by kernel_rfl)) (fun _ _ _ h => h) (Or.inl ⟨by rfl, ?_⟩) ?_ ?_
          rotate_left
          ·intro w'
           go_simp
           with_reducible rfl
          rotate_left
          ·simp only [Act.put, List.setIfInBounds_toArray, List.set_cons_zero, List.set_cons_succ, i64_w, i32_w]
           rfl
          refine pure_ (i := 4) (N := some 28) (v := ?_) (a' := ?_) #[true, true, false, true, true, false, false, false, false, false, false, false, false] rfl rfl (any_of HT_.out (by kernel_rfl)) (fun _ _ _ h => h) (Or.inl ⟨by rfl, ?_⟩) ?_ ?_
          rotate_left
          ·intro w'
           go_simp
           with_reducible rfl
          rotate_left
          ·simp only [Act.put, List.setIfInBounds_toArray, List.set_cons_zero, List.set_cons_succ, i64_w, i32_w]
           rfl
          refine pure_ (i := 5) (N := some 29) (v := ?_) (a' := ?_) #[true, true, false, true, true, true, false, false, false, false, false, false, false] rfl rfl (any_of HT_.out (by kernel_rfl)) (fun _ _ _ h => h) (Or.inl ⟨by rfl, ?_⟩) ?_ ?_
          rotate_left
          ·intro w'
           go_simp
           with_reducible rfl
          rotate_left
          ·simp only [Act.put, List.setIfInBounds_toArray, List.set_cons_zero, List.set_cons_succ, i64_w, i32_w]
           rfl
          refine take_ (i := 2) (N := some 26) (v := ?_) (a' := ?_) #[true, true, true, true, true, true, false, false, false, false, false, false, false] rfl rfl (take_ofW HT_.out HW_.out (by kernel_rfl)) (fun _ _ _ h => h) (Or.inl ⟨by rfl, ?_⟩) hHeld ?_ ?_
          rotate_left
          ·rintro w' ⟨s0, s1, s2, s3, s4, s5, s6, s7, s8⟩
           go_simp
           with_reducible rfl
          rotate_left
          ·simp only [Act.put, List.setIfInBounds_toArray, List.set_cons_zero, List.set_cons_succ, i64_w, i32_w]
           rfl
          refine take_ (i := 6) (N := some 30) (v := ?_) (a' := ?_) #[true, true, true, true, true, true, true, false, false, false, false, false, false] rfl rfl (take_ofW HT_.out HW_.out (by kernel_rfl)) (fun _ _ _ h => h) (Or.inl ⟨by rfl, ?_⟩) hHeld ?_ ?_
          rotate_left
          ·rintro w' ⟨s0, s1, s2, s3, s4, s5, s6, s7, s8⟩
           go_simp
           with_reducible rfl
          rotate_left
          ·simp only [Act.put, List.setIfInBounds_toArray, List.set_cons_zero, List.set_cons_succ, i64_w, i32_w]
           rfl
          refine pure_ (i := 7) (N := some 31) (v := ?_) (a' := ?_) #[true, true, true, true, true, true, true, true, false, false, false, false, false] rfl rfl (any_of HT_.out (by kernel_rfl)) (fun _ _ _ h => h) (Or.inl ⟨by rfl, ?_⟩) ?_ ?_
          rotate_left
          ·intro w'
           go_simp
           with_reducible rfl
          rotate_left
          ·simp only [Act.put, List.setIfInBounds_toArray, List.set_cons_zero, List.set_cons_succ, i64_w, i32_w]
           rfl
          refine pure_ (i := 8) (N := some 32) (v := ?_) (a' := ?_) #[true, true, true, true, true, true, true, true, true, false, false, false, false] rfl rfl (any_of HT_.out (by kernel_rfl)) (fun _ _ _ h => h) (Or.inl ⟨by rfl, ?_⟩) ?_ ?_
          rotate_left
          ·intro w'
           go_simp
           with_reducible rfl
          rotate_left
          ·simp only [Act.put, List.setIfInBounds_toArray, List.set_cons_zero, List.set_cons_succ, i64_w, i32_w]
           rfl
          refine take_ (i := 9) (N := some 33) (v := ?_) (a' := ?_) #[true, true, true, true, true, true, true, true, true, true, false, false, false] rfl rfl (take_ofW HT_.out HW_.out (by kernel_rfl)) (fun _ _ _ h => h) (Or.inl ⟨by rfl, ?_⟩) hHeld ?_ ?_
          rotate_left
          ·rintro w' ⟨s0, s1, s2, s3, s4, s5, s6, s7, s8⟩
           go_simp
           with_reducible rfl
          rotate_left
          ·simp only [Act.put, List.setIfInBounds_toArray, List.set_cons_zero, List.set_cons_succ, i64_w, i32_w]
           rfl
          refine last_ (i := 10) (N := some 34) #[true, true, true, true, true, true, true, true, true, true, true, false, false] rfl rfl (one_of HT_.out (by kernel_rfl)) (by decide) (fun K hK => ?_)
          refine value_ (w1 := ?_) (v := ?_) (by rfl) rfl ?_ ?_
          rotate_left 2
          ·go_simp
           constructor
           ·rfl
           ·rfl
          refine hK.out _ _ ?_
          clear hK K
          refine norm_ (a' := ?_) ?_ ?_
          rotate_left
          ·show Act.put _ (some 34) _ = _
           simp only [Act.put, List.setIfInBounds_toArray, List.set_cons_zero, List.set_cons_succ, i64_w, i32_w]
           rfl
          refine last_ (i := 11) (N := some 35) #[true, true, true, true, true, true, true, true, true, true, true, true, false] rfl rfl (one_of HT_.out (by kernel_rfl)) (by decide) (fun K hK => ?_)
          refine Kd.R_append_step (Kd.int .i64) (w0 := w) w.heap.size (by rfl) (.tmp 24) (.tmp 34) 30 3 (.int .i64 0) 8 rfl Try.underlying30 info3 rfl (by decide) (by omega) u5 aK ((rZ5 a2 (rd t336 a1)).f0) [.int .i64 ((rZ5 a2 (rd t336 a1)).f0)] (fun k_ => some k_ ≠ (.slice (some ad339) t336.length co18 : Value).ownBlock) (fun _ => False) rfl rfl ?aP (fun _ hk => hk.elim) ?aF ?aO ?aB ?aS ?aL ?_
          (case aP => exact rfl)
          (case aB => exact (by repeat (first | (with_reducible first | apply bA | apply bN | apply bD | refine bS ?_ aD.out) | exact HB.out)))
          (case aF => exact (fun k_ hk => Kd.fresh' (Kd.R_lt (by (with_reducible repeat (first | apply Kd.R_alloc | apply Kd.R_drewN | apply Kd.R_drew)); exact a7.out)) k_ hk))
          (case aO => exact (by (with_reducible repeat (first | apply Kd.R_alloc | apply Kd.R_drewN | apply Kd.R_drew)); exact aG.out))
          (case aS => exact (bZ (by repeat (first | (with_reducible first | apply bA | apply bN | apply bD | refine bS ?_ aD.out) | exact HB.out))))
          (case aL => have := bH.out; omega)
          intro v342 w20 ho hb hg hat
          rw [← bI.out] at ho
          have a8 := Z0.mk (Kd.R_after (ok := (fun _ => True)) (by (with_reducible repeat (first | apply Kd.R_alloc | apply Kd.R_drewN | apply Kd.R_drew)); exact Kd.R_mono a7.out (fun _ hk => ⟨trivial, hk⟩)) hg hat)
          have a9 := Z0.mk (blk_grown (by (with_reducible repeat first | apply kN | apply kD | apply kA); exact a0.out) hg (Kd.R_ne aG.out a0.out (by decide)))
          have aA := Z0.mk (hb)
          have aE := Z0.mk (ho)
          clear a7
          clear a0
          clear HB
          clear aG
          have a7 := a8
          have a0 := a9
          have HB := aA
          have aX := aE
          clear a8 a9 aA aE
          clear ho hb hg hat
          refine hK.out _ _ ?_
          clear hK K
          refine norm_ (a' := ?_) ?_ ?_
          rotate_left
          ·show Act.put _ (some 35) _ = _
           simp only [Act.put, List.setIfInBounds_toArray, List.set_cons_zero, List.set_cons_succ, i64_w, i32_w]
           rfl
          refine pure_ (i := 12) (N := some 5) (v := ?_) (a' := ?_) #[true, true, true, true, true, true, true, true, true, true, true, true, true] rfl rfl (any_of HT_.out (by kernel_rfl)) (fun _ _ _ h => h) (Or.inl ⟨by rfl, ?_⟩) ?_ ?_
          rotate_left
          ·intro w'
           go_simp
           with_reducible rfl
          rotate_left
          ·simp only [Act.put, List.setIfInBounds_toArray, List.set_cons_zero, List.set_cons_succ, i64_w, i32_w]
           rfl
          refine done_ (done_of HT_.out (by kernel_rfl)) ?_
          try go_wp2
          have a8 := Z0.mk (Kd.R_drew a7.out)
          have a9 := Z0.mk (Kd.R_drew aX.out)
          have aA := Z0.mk (kD a0.out)
          have aE := Z0.mk (bD HB.out)
          clear a7
          clear aX
          clear a0
          clear HB
          have a7 := a8
          have aX := a9
          have a0 := aA
          have HB := aE
          clear a8 a9 aA aE
          refine start_ (n := 11) (S := fun w' => True) (ds := []) #[false, false, false, false, false, false, false, false, false, false, false] (by kernel_rfl) rfl rfl trivial (fun hHeld => ?_); refine with_tabW hackamoreref28_Waiting.tab12 hackamoreref28_Waiting.bits12 (fun HT_ HW_ => ?_)
          generalize w20.drew = w21 at a7 aX a0 HB hHeld ⊢
          refine pure_ (i := 0) (N := some 36) (v := ?_) (a' := ?_) #[true, false, false, false, false, false, false, false, false, false, false] rfl rfl (any_of HT_.out (by kernel_rfl)) (fun _ _ _ h => h) (Or.inl ⟨by rfl, ?_⟩) ?_ ?_
          rotate_left
          ·intro w'
           go_simp
           with_reducible rfl
          rotate_left
          ·simp only [Act.put, List.setIfInBounds_toArray, List.set_cons_zero, List.set_cons_succ, i64_w, i32_w]
           rfl
          refine pure_ (i := 1) (N := some 37) (v := ?_) (a' := ?_) #[true, true, false, false, false, false, false, false, false, false, false] rfl rfl (any_of HT_.out (by kernel_rfl)) (fun _ _ _ h => h) (Or.inl ⟨by rfl, ?_⟩) ?_ ?_
          rotate_left
          ·intro w'
           go_simp
           with_reducible rfl
          rotate_left
          ·simp only [Act.put, List.setIfInBounds_toArray, List.set_cons_zero, List.set_cons_succ, i64_w, i32_w]
           rfl
          refine pure_ (i := 2) (N := some 38) (v := undef) (a' := ?_) #[true, true, true, false, false, false, false, false, false, false, false] rfl rfl (any_of HT_.out (by kernel_rfl)) (fun _ _ _ h => h) (Or.inr ⟨by rfl, rfl⟩) ?_ ?_
          rotate_left
          ·simp only [Act.put, List.setIfInBounds_toArray, List.set_cons_zero, List.set_cons_succ, i64_w, i32_w]
           rfl
          refine pure_ (i := 3) (N := some 39) (v := undef) (a' := ?_) #[true, true, true, true, false, false, false, false, false, false, false] rfl rfl (any_of HT_.out (by kernel_rfl)) (fun _ _ _ h => h) (Or.inr ⟨by rfl, rfl⟩) ?_ ?_
          rotate_left
          ·simp only [Act.put, List.setIfInBounds_toArray, List.set_cons_zero, List.set_cons_succ, i64_w, i32_w]
           rfl
          refine pure_ (i := 4) (N := some 40) (v := undef) (a' := ?_) #[true, true, true, true, true, false, false, false, false, false, false] rfl rfl (any_of HT_.out (by kernel_rfl)) (fun _ _ _ h => h) (Or.inr ⟨by rfl, rfl⟩) ?_ ?_
          rotate_left
          ·simp only [Act.put, List.setIfInBounds_toArray, List.set_cons_zero, List.set_cons_succ, i64_w, i32_w]
           rfl
          refine pure_ (i := 5) (N := some 41) (v := undef) (a' := ?_) #[true, true, true, true, true, true, false, false, false, false, false] rfl rfl (any_of HT_.out (by kernel_rfl)) (fun _ _ _ h => h) (Or.inr ⟨by rfl, rfl⟩) ?_ ?_
          rotate_left
          ·simp only [Act.put, List.setIfInBounds_toArray, List.set_cons_zero, List.set_cons_succ, i64_w, i32_w]
           rfl
          refine pure_ (i := 6) (N := some 42) (v := undef) (a' := ?_) #[true, true, true, true, true, true, true, false, false, false, false] rfl rfl (any_of HT_.out (by kernel_rfl)) (fun _ _ _ h => h) (Or.inr ⟨by rfl, rfl⟩) ?_ ?_
          rotate_left
          ·simp only [Act.put, List.setIfInBounds_toArray, List.set_cons_zero, List.set_cons_succ, i64_w, i32_w]
           rfl
          refine pure_ (i := 7) (N := some 43) (v := undef) (a' := ?_) #[true, true, true, true, true, true, true, true, false, false, false] rfl rfl (any_of HT_.out (by kernel_rfl)) (fun _ _ _ h => h) (Or.inr ⟨by rfl, rfl⟩) ?_ ?_
          rotate_left
          ·simp only [Act.put, List.setIfInBounds_toArray, List.set_cons_zero, List.set_cons_succ, i64_w, i32_w]
           rfl
          refine pure_ (i := 8) (N := some 44) (v := undef) (a' := ?_) #[true, true, true, true, true, true, true, true, true, false, false] rfl rfl (any_of HT_.out (by kernel_rfl)) (fun _ _ _ h => h) (Or.inr ⟨by rfl, rfl⟩) ?_ ?_
          rotate_left
          ·simp only [Act.put, List.setIfInBounds_toArray, List.set_cons_zero, List.set_cons_succ, i64_w, i32_w]
           rfl
          refine pure_ (i := 9) (N := some 45) (v := ?_) (a' := ?_) #[true, true, true, true, true, true, true, true, true, true, false] rfl rfl (any_of HT_.out (by kernel_rfl)) (fun _ _ _ h => h) (Or.inl ⟨by rfl, ?_⟩) ?_ ?_
          rotate_left
          ·intro w'
           go_simp
           with_reducible rfl
          rotate_left
          ·simp only [Act.put, List.setIfInBounds_toArray, List.set_cons_zero, List.set_cons_succ, i64_w, i32_w]
           rfl
          refine pure_ (i := 10) (N := some 7) (v := ?_) (a' := ?_) #[true, true, true, true, true, true, true, true, true, true, true] rfl rfl (any_of HT_.out (by kernel_rfl)) (fun _ _ _ h => h) (Or.inl ⟨by rfl, ?_⟩) ?_ ?_
          rotate_left
          ·intro w'
           go_simp
           with_reducible rfl
          rotate_left
          ·simp only [Act.put, List.setIfInBounds_toArray, List.set_cons_zero, List.set_cons_succ, i64_w, i32_w]
           rfl
          refine done_ (done_of HT_.out (by kernel_rfl)) ?_
          try go_wp2
          go_roundg k1
          case measure => have := HK1.out; omega
          case rel => exact ⟨(y341), (true), (wrap64 (a1 + 1)), (by first | rfl | (simp; done) | (simp [*]; done)), (by first | rfl | (simp; done) | (simp [*]; done)), H', ⟨by have := HK1.out; omega⟩, ⟨by (with_reducible repeat (first | apply Kd.R_alloc | apply Kd.R_drewN | apply Kd.R_drew)); exact aX.out⟩, ⟨by (with_reducible repeat (first | apply Kd.R_alloc | apply Kd.R_drewN | apply Kd.R_drew)); exact Kd.R_mono a7.out (fun _ hk => hk.2)⟩, ⟨by (with_reducible repeat first | apply kN | apply kD | apply kA); exact a0.out⟩, ⟨by repeat (first | (with_reducible first | apply bA | apply bN | apply bD | refine bS ?_ aD.out) | exact HB.out)⟩⟩
         ·rw [if_neg c17] at H
          exact absurd H (by simp)
        ·rw [if_neg c16] at H
         exact absurd H (by simp)
       ·rw [if_neg c15] at H
        exact absurd H (by simp)
      ·rw [if_neg c14] at H
       exact absurd H (by simp)
     ·replace c13 := Bool.eq_false_iff.mpr c13
      subst c13
      have H1 : (if 0 ≤ a1 then (hackamoreref28_Waiting.l0 k1 aK t336 ((rd t336 a1) == a4) (wrap64 (a1 + 1)) a2 a5 a4 a3 a6) else (none)) = some (r1, r2) := by rw [if_neg (show ¬ (false = true) by decide)] at H; exact H
      clear H
      have H := H1
      clear H1
      by_cases c22 : 0 ≤ a1
      ·rw [if_pos c22] at H
       have c22b0 : decide (0 ≤ a1) = true := decide_eq_true c22
       clear c22
       have H' := Z0.mk H
       clear H
       obtain ⟨Ao23, co23, eo23⟩ := Kd.R_slice a7.out
       subst eo23
       try go_wp2
       have a8 := Z0.mk (Kd.R_drew aG.out)
       have a9 := Z0.mk (Kd.R_drew a7.out)
       have aA := Z0.mk (kD a0.out)
       have aE := Z0.mk (bD HB.out)
       clear aG
       clear a7
       clear a0
       clear HB
       have aG := a8
       have a7 := a9
       have a0 := aA
       have HB := aE
       clear a8 a9 aA aE
       have p344 : 0 ≤ (a1 : Int) := of_decide_eq_true (by assumption)
       have q344 : a1 < (t336.length : Int) := of_decide_eq_true (by assumption)
       obtain ⟨ad344, e344, ah⟩ := Kd.at_int (Kd.R_reads' a7.out).2.2 a1 p344 q344
       cases e344
       replace p344 := eq_true p344
       replace q344 := eq_true q344
       refine start_ (n := 11) (S := fun w' => w'.cell? ⟨aC, 0, none⟩ = some (.slice aR a2.length aH) ∧ w'.cell? ⟨aC, 1, none⟩ = some (.int .i64 a5) ∧ w'.cell? ⟨aC, 2, none⟩ = some (.int .i64 a4) ∧ w'.cell? ⟨aC, 3, none⟩ = some (.slice aI a3.length aJ) ∧ w'.cell? ⟨aC, 4, none⟩ = some (.bool a6) ∧ w'.cell? (ad344.add (a1).toNat) = some (.int .i64 (rd t336 a1))) (ds := []) #[false, false, false, false, false, false, false, false, false, false, false] (by kernel_rfl) rfl rfl ⟨(kC a0.out 0).trans rfl, (kC a0.out 1).trans rfl, (kC a0.out 2).trans rfl, (kC a0.out 3).trans rfl, (kC a0.out 4).trans rfl, ah⟩ (fun hHeld => ?_); refine with_tabW hackamoreref28_Waiting.tab12 hackamoreref28_Waiting.bits12 (fun HT_ HW_ => ?_)
       generalize wr.drew = w24 at aG a7 a0 HB ah hHeld ⊢
       refine pure_ (i := 0) (N := some 36) (v := ?_) (a' := ?_) #[true, false, false, false, false, false, false, false, false, false, false] rfl rfl (any_of HT_.out (by kernel_rfl)) (fun _ _ _ h => h) (Or.inl ⟨by rfl, ?_⟩) ?_ ?_
       rotate_left
       ·intro w'
        go_simp
        with_reducible rfl
       rotate_left
       ·simp only [Act.put, List.setIfInBounds_toArray, List.set_cons_zero, List.set_cons_succ, i64_w, i32_w]
        rfl
       refine pure_ (i := 1) (N := some 37) (v := ?_) (a' := ?_) #[true, true, false, false, false, false, false, false, false, false, false] rfl rfl (any_of HT_.out (by kernel_rfl)) (fun _ _ _ h => h) (Or.inl ⟨by rfl, ?_⟩) ?_ ?_
       rotate_left
       ·intro w'
        go_simp
        with_reducible rfl
       rotate_left
       ·simp only [Act.put, List.setIfInBounds_toArray, List.set_cons_zero, List.set_cons_succ, i64_w, i32_w]
        rfl
       refine pure_ (i := 2) (N := some 38) (v := ?_) (a' := ?_) #[true, true, true, false, false, false, false, false, false, false, false] rfl rfl (any_of HT_.out (by kernel_rfl)) (fun _ _ _ h => h) (Or.inl ⟨by rfl, ?_⟩) ?_ ?_
       rotate_left
       ·intro w'
        go_simp
        with_reducible rfl
       rotate_left
       ·simp only [Act.put, List.setIfInBounds_toArray, List.set_cons_zero, List.set_cons_succ, i64_w, i32_w]
        rfl
       refine pure_ (i := 3) (N := some 39) (v := ?_) (a' := ?_) #[true, true, true, true, false, false, false, false, false, false, false] rfl rfl (any_of HT_.out (by kernel_rfl)) (fun _ _ _ h => h) (Or.inl ⟨by rfl, ?_⟩) ?_ ?_
       rotate_left
       ·intro w'
        go_simp
        with_reducible rfl
       rotate_left
       ·simp only [Act.put, List.setIfInBounds_toArray, List.set_cons_zero, List.set_cons_succ, i64_w, i32_w]
        rfl
       refine pure_ (i := 4) (N := some 40) (v := ?_) (a' := ?_) #[true, true, true, true, true, false, false, false, false, false, false] rfl rfl (any_of HT_.out (by kernel_rfl)) (fun _ _ _ h => h) (Or.inl ⟨by rfl, ?_⟩) ?_ ?_
       rotate_left
       ·intro w'
        go_simp
        with_reducible rfl
       rotate_left
       ·simp only [Act.put, List.setIfInBounds_toArray, List.set_cons_zero, List.set_cons_succ, i64_w, i32_w]
        rfl
       refine pure_ (i := 6) (N := some 42) (v := ?_) (a' := ?_) #[true, true, true, true, true, false, true, false, false, false, false] rfl rfl (any_of HT_.out (by kernel_rfl)) (fun _ _ _ h => h) (Or.inl ⟨by rfl, ?_⟩) ?_ ?_
       rotate_left
       ·intro w'
        go_simp
        with_reducible rfl
       rotate_left
       ·simp only [Act.put, List.setIfInBounds_toArray, List.set_cons_zero, List.set_cons_succ, i64_w, i32_w]
        rfl
       refine take_ (i := 5) (N := some 41) (v := ?_) (a' := ?_) #[true, true, true, true, true, true, true, false, false, false, false] rfl rfl (take_ofW HT_.out HW_.out (by kernel_rfl)) (fun _ _ _ h => h) (Or.inl ⟨by rfl, ?_⟩) hHeld ?_ ?_
       rotate_left
       ·rintro w' ⟨s0, s1, s2, s3, s4, s5⟩
        go_simp
        with_reducible rfl
       rotate_left
       ·simp only [Act.put, List.setIfInBounds_toArray, List.set_cons_zero, List.set_cons_succ, i64_w, i32_w]
        rfl
       refine take_ (i := 7) (N := some 43) (v := ?_) (a' := ?_) #[true, true, true, true, true, true, true, true, false, false, false] rfl rfl (take_ofW HT_.out HW_.out (by kernel_rfl)) (fun _ _ _ h => h) (Or.inl ⟨by rfl, ?_⟩) hHeld ?_ ?_
       rotate_left
       ·rintro w' ⟨s0, s1, s2, s3, s4, s5⟩
        go_simp
        with_reducible rfl
       rotate_left
       ·simp only [Act.put, List.setIfInBounds_toArray, List.set_cons_zero, List.set_cons_succ, i64_w, i32_w]
        rfl
       refine pure_ (i := 8) (N := some 44) (v := ?_) (a' := ?_) #[true, true, true, true, true, true, true, true, true, false, false] rfl rfl (any_of HT_.out (by kernel_rfl)) (fun _ _ _ h => h) (Or.inl ⟨by rfl, ?_⟩) ?_ ?_
       rotate_left
       ·intro w'
        go_simp
        with_reducible rfl
       rotate_left
       ·simp only [Act.put, List.setIfInBounds_toArray, List.set_cons_zero, List.set_cons_succ, i64_w, i32_w]
        rfl
       refine pure_ (i := 9) (N := some 45) (v := ?_) (a' := ?_) #[true, true, true, true, true, true, true, true, true, true, false] rfl rfl (any_of HT_.out (by kernel_rfl)) (fun _ _ _ h => h) (Or.inl ⟨by rfl, ?_⟩) ?_ ?_
       rotate_left
       ·intro w'
        go_simp
        with_reducible rfl
       rotate_left
       ·simp only [Act.put, List.setIfInBounds_toArray, List.set_cons_zero, List.set_cons_succ, i64_w, i32_w]
        rfl
       refine pure_ (i := 10) (N := some 7) (v := ?_) (a' := ?_) #[true, true, true, true, true, true, true, true, true, true, true] rfl rfl (any_of HT_.out (by kernel_rfl)) (fun _ _ _ h => h) (Or.inl ⟨by rfl, ?_⟩) ?_ ?_
       rotate_left
       ·intro w'
        go_simp
        with_reducible rfl
       rotate_left
       ·simp only [Act.put, List.setIfInBounds_toArray, List.set_cons_zero, List.set_cons_succ, i64_w, i32_w]
        rfl
       refine done_ (done_of HT_.out (by kernel_rfl)) ?_
       try go_wp2
       go_roundg k1
       case measure => have := HK1.out; omega
       case rel => exact ⟨(aK), (((rd t336 a1) == a4)), (wrap64 (a1 + 1)), (by first | rfl | (simp; done) | (simp [*]; done)), (by first | rfl | (simp; done) | (simp [*]; done)), H', ⟨by have := HK1.out; omega⟩, ⟨by (with_reducible repeat (first | apply Kd.R_alloc | apply Kd.R_drewN | apply Kd.R_drew)); exact aG.out⟩, ⟨by (with_reducible repeat (first | apply Kd.R_alloc | apply Kd.R_drewN | apply Kd.R_drew)); exact a7.out⟩, ⟨by (with_reducible repeat first | apply kN | apply kD | apply kA); exact a0.out⟩, ⟨by repeat (first | (with_reducible first | apply bA | apply bN | apply bD | refine bS ?_ aD.out) | exact HB.out)⟩⟩
      ·rw [if_neg c22] at H
       exact absurd H (by simp)
    ·rw [if_neg c12] at H
     have c12b0 : decide (a1 < (t336.length : Int)) = false := decide_eq_false c12
     clear c12
     simp only [Option.some.injEq, Prod.mk.injEq] at H
     obtain ⟨rfl, rfl⟩ := H
     obtain ⟨Ao25, co25, eo25⟩ := Kd.R_slice a7.out
     subst eo25
     go_wp2
     go_ret2
     exact ⟨_, by first | rfl | (simp [errW_none, errW_some] <;> rfl) | (simp [*, errW_none, errW_some] <;> rfl), by (with_reducible repeat (first | apply Kd.R_alloc | apply Kd.R_drewN | apply Kd.R_drew)); exact Kd.R_mono aG.out (fun _ hk => trivial), by repeat (first | (with_reducible first | apply bA | apply bN | apply bD | refine bS ?_ aD.out) | exact HB.out)⟩
 ·rw [if_neg c3] at H
  have c3b0 : (t332 == 0) = false := beq_eq_false_iff_ne.mpr c3
  have c3b1 : (t332 != 0) = true := bne_iff_ne.mpr c3
  simp only [Option.some.injEq, Prod.mk.injEq] at H
  obtain ⟨rfl, rfl⟩ := H
  go_enter Try.func52, Try.ntmps52
  go_wp2_with (first | ((with_reducible refine gate_dst (N := 1) rfl ?_); refine box_event ?hg (N := 1) ?hd (cs := #[.slice aR a2.length aH, .int .i64 a5, .int .i64 a4, .slice aI a3.length aJ, .bool a6]) (t := 46) ?hr ?_; (case hd => rfl); (case hg => rfl); (case hr => first | (go_simp; done) | (go_simp; rfl)); intro aC hg w26 hbox hb; have a8 := Z0.mk (bP (by repeat (first | (with_reducible first | apply bA | apply bN | apply bD) | exact HB.out)) hb); have a9 := Z0.mk (hbox); have aA := Z0.mk ((by rw [hg]; exact (bZ (by repeat (first | (with_reducible first | apply bA | apply bN | apply bD) | exact HB.out))) : w.heap.size ≤ aC)); have aE := aA; clear HB; have HB := a8; have a0 := a9; have bF := aA; have aD := aE; clear a8 a9 aA aE hb hbox hg; obtain ⟨bJ, bK, bL, bM, bO, bQ, bR, bT, bU, bV⟩ := kc5 a0.out) | ((with_reducible refine gate_callee (f := 20) rfl ?_); refine goesL_ (some 10) rfl rfl Try.func20 (by kernel_rfl) rfl #[.agg #[.slice aR a2.length aH, .int .i64 a5, .int .i64 a4, .slice aI a3.length aJ, .bool a6]] rfl (by (try simp only [List.map_toArray, List.map_cons, List.map_nil]); first | done | rfl | (simp only [List.length_drop, List.length_take]; rfl)) ?_; (with_reducible refine (hackamoreref28_Check.calls k _ _ a2 a5 a4 _ _ a3 a6 t332 _ ?side1 ?side2 ?side3 ?side4 A2.out).mono ?_); (case side1 => repeat (first | exact (Kd.C_below aZ.out HB.out) | (with_reducible refine Kd.C_alloc ?_ _) | (with_reducible refine Kd.C_drewN ?_ _) | (with_reducible refine Kd.C_drew ?_))); (case side2 => exact ai.out); (case side3 => repeat (first | exact (Kd.C_below aj.out HB.out) | (with_reducible refine Kd.C_alloc ?_ _) | (with_reducible refine Kd.C_drewN ?_ _) | (with_reducible refine Kd.C_drew ?_))); (case side4 => exact ak.out); rintro e w28 ⟨rfl, hb⟩; refine ⟨_, rfl, ?_⟩; have a8 := Z0.mk (kB (by (with_reducible repeat first | apply kN | apply kD | apply kA); exact a0.out) hb); have a9 := Z0.mk (bP (by repeat (first | (with_reducible first | apply bA | apply bN | apply bD | refine bS ?_ aD.out) | exact HB.out)) hb); clear a0 HB; have a0 := a8; have HB := a9; clear a8 a9; (try clear hb); (try clear hb2); (try clear hk); (try clear hi)))
  go_ret2
  exact ⟨_, by first | rfl | (simp [errW_none, errW_some] <;> rfl) | (simp [*, errW_none, errW_some] <;> rfl), by first | exact Kd.R_nil _ _ _ _ _ | exact Kd.N_nil _ _ _ _ _ | exact Kd.V_nil _ _ _ _ _ | exact Kd.Q_nil _ _ _ _ _ | exact Kd.S_nil _ _ _ _ _, by repeat (first | (with_reducible first | apply bA | apply bN | apply bD | refine bS ?_ aD.out) | exact HB.out)⟩
end Go.Proofs.Ytgbafpjeapkklaa.PMailboxRuns
