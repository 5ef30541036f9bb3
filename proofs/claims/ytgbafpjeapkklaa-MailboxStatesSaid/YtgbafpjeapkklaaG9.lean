/- Parts Ri of the proof. -/
import Derived.Test.YtgbafpjeapkklaaG5
import Derived.Test.YtgbafpjeapkklaaG7
namespace Go.Proofs.Ytgbafpjeapkklaa.PMailboxRuns
open Go.RowKit Go.Proofs.YtgbafpjeapkklaaW.PrintWords Go.Proofs.YtgbafpjeapkklaaW.PrintLast Go.Proofs.YtgbafpjeapkklaaW.PrintMore
attribute [local go_sem] max2_int min2_int max_two min_two max_three min_three max_four min_four
set_option linter.unusedVariables false
set_option linter.unusedSimpArgs false
def hackamoreref28_Finish.l0 : Nat → Int → Int → List (S105) → Int → Int → List (S122) → Bool → Option ((List (S105)) × Int × Int × (List (S122)) × Bool × Int)
 | 0, _, _, _, _, _, _, _ => none
 | k + 1, x1, x7, b7, bB, bC, ac, bE => if x7 < (ac.length : Int) then (if 0 ≤ x7 then (if ((rZ2 ac x7).f0) = x1 then ((some (([] : List (S105)) : List (S105))).bind fun y275 => (if y275.length + b7.length < 5864062014805 then ((some (y275 ++ b7 : List (S105))).bind fun y278 => (if 0 ≤ ((rZ2 ac x7).f1) then (if ((rZ2 ac x7).f1) < (y278.length : Int) then ((some (([] : List (S122)) : List (S122))).bind fun y282 => (if x7 ≤ (ac.length : Int) then ((some (ac.take (x7 : Int).toNat : List (S122))).bind fun y285 => (if y282.length + y285.length < 5864062014805 then ((some (y282 ++ y285 : List (S122))).bind fun y290 => (if 0 ≤ (wrap64 (x7 + 1)) then (if (wrap64 (x7 + 1)) ≤ (ac.length : Int) then ((some (ac.drop ((wrap64 (x7 + 1)) : Int).toNat : List (S122))).bind fun y293 => (if y290.length + y293.length < 5864062014805 then (some ((y278.set (((rZ2 ac x7).f1) : Int).toNat (⟨(rZ5 y278 ((rZ2 ac x7).f1)).f0, (rZ5 y278 ((rZ2 ac x7).f1)).f1, (rZ2 ac x7).f2⟩ : S105)), bB, bC, (y290 ++ y293), bE, 0)) else (none))) else (none)) else (none))) else (none))) else (none))) else (none)) else (none))) else (none))) else (hackamoreref28_Finish.l0 k x1 (wrap64 (x7 + 1)) b7 bB bC ac bE)) else (none)) else (some (([] : List (S105)), 0, 0, ([] : List (S122)), false, 301))
def hackamoreref28_Finish.f (k : Nat) (af : List (S105)) (aE : Int) (aG : Int) (ag : List (S122)) (aI : Bool) (a1 : Int) : Option ((List (S105)) × Int × Int × (List (S122)) × Bool × Int) := (hackamoreref28_Check.f k af aE aG ag aI).bind fun t272 => (if t272 = 0 then (hackamoreref28_Finish.l0 k a1 0 af aE aG ag aI) else (some (([] : List (S105)), 0, 0, ([] : List (S122)), false, t272)))
def hackamoreref28_Finish.T11 : Bool × List (List Nat × List Nat) := (true, [([], []), ([], []), ([1], [1]), ([], []), ([2, 3], [2, 3]), ([0, 4], [0, 4]), ([], []), ([6], [6]), ([], []), ([8], [8]), ([7, 9], [7, 9]), ([5, 10, 5], [5, 10]), ([0, 1, 2, 3, 4, 5, 6, 7, 8, 9, 10, 11], []), ([12, 11, 11, 0, 1, 2, 3, 4, 5, 6, 7, 8, 9, 10, 11], [11, 12])])
def hackamoreref28_Finish.B11 : List Nat := [0, 0, 2, 0, 14, 31, 0, 64, 0, 256, 960, 2047, 4095, 8191]
theorem hackamoreref28_Finish.tab11 : rtab .any (opsOf Try.f48 11) = hackamoreref28_Finish.T11 := by kernel_rfl
theorem hackamoreref28_Finish.bits11 : waitsOk hackamoreref28_Finish.T11.2 hackamoreref28_Finish.B11 = true := by kernel_rfl
set_option maxHeartbeats 8000000 in
set_option maxRecDepth 100000 in
theorem hackamoreref28_Finish.calls (k : Nat) (P0_0_ : Nat → Prop) (ao : Option Addr) (ap : Nat) (af : List (S105)) (aE : Int) (aG : Int) (P0_3_ : Nat → Prop) (aq : Option Addr) (ar : Nat) (ag : List (S122)) (aI : Bool) (a1 : Int) (r1 : List (S105)) (r2 : Int) (r3 : Int) (r4 : List (S122)) (r5 : Bool) (r6 : Int) (w : World) (bh : Kd.V k105 105 w w.heap.size (fun k_ => P0_0_ k_) (.slice ao af.length ap) af) (bi : Kd.V k122 122 w w.heap.size (fun k_ => P0_3_ k_) (.slice aq ag.length ar) ag) (h : hackamoreref28_Finish.f k af aE aG ag aI a1 = some (r1, r2, r3, r4, r5, r6)) :
  Calls Try.prog 48 #[.agg #[.slice ao af.length ap, .int .i64 aE, .int .i64 aG, .slice aq ag.length ar, .bool aI], .int .i64 a1] w fun e w' => ∃ v0_ v3_ : Value, e = .returned (.tuple #[.agg #[v0_, .int .i64 r2, .int .i64 r3, v3_, .bool r5], .int .i64 r6]) ∧ Kd.R k105 105 w' w.heap.size (fun k_ => (w.heap.size ≤ k_)) v0_ r1 ∧ Kd.R k122 122 w' w.heap.size (fun k_ => (w.heap.size ≤ k_)) v3_ r4 ∧ Below w.heap.size w w' := by
 have hu46 := Try.underlying46
 have hu122 := Try.underlying122
 have aV := Z0.mk (show Kd.V k105 105 w w.heap.size (fun k_ => ((P0_0_ k_ ∨ P0_3_ k_) ∨ w.heap.size ≤ k_)) (.slice ao af.length ap) af from Kd.V_mono bh (fun k_ hk => .inl (.inl hk)))
 have aW := Z0.mk (show Kd.V k122 122 w w.heap.size (fun k_ => ((P0_0_ k_ ∨ P0_3_ k_) ∨ w.heap.size ≤ k_)) (.slice aq ag.length ar) ag from Kd.V_mono bi (fun k_ hk => .inl (.inr hk)))
 have HB := Z0.mk (Below.refl w.heap.size w)
 have H : ((hackamoreref28_Check.f k af aE aG ag aI).bind fun t272 => (if t272 = 0 then (hackamoreref28_Finish.l0 k a1 0 af aE aG ag aI) else (some (([] : List (S105)), 0, 0, ([] : List (S122)), false, t272)))) = some (r1, r2, r3, r4, r5, r6) := h
 clear h
 replace H := Option.bind_eq_some_iff.mp H
 obtain ⟨t272, A30, H⟩ := H
 replace H : (if t272 = 0 then (hackamoreref28_Finish.l0 k a1 0 af aE aG ag aI) else (some (([] : List (S105)), 0, 0, ([] : List (S122)), false, t272))) = some (r1, r2, r3, r4, r5, r6) := H
 have A3 := Z0.mk A30
 clear A30
 by_cases c4 : t272 = 0
 ·rw [if_pos c4] at H
  have c4b0 : (t272 == 0) = true := beq_iff_eq.mpr c4
  have c4b1 : (t272 != 0) = false := bne_eq_false_iff_eq.mpr c4
  clear c4
  have H' := Z0.mk H
  clear H
  go_enter Try.func48, Try.ntmps48
  go_wp2_with (first | ((with_reducible refine gate_dst (N := 2) rfl ?_); refine box_event ?hg (N := 2) ?hd (cs := #[.slice ao af.length ap, .int .i64 aE, .int .i64 aG, .slice aq ag.length ar, .bool aI]) (t := 46) ?hr ?_; (case hd => rfl); (case hg => rfl); (case hr => first | (go_simp; done) | (go_simp; rfl)); intro a6 hg w5 hbox hb; have aM := Z0.mk (Kd.V_below (Kd.V_elderB (by (with_reducible repeat (first | apply Kd.V_alloc | apply Kd.V_drewN | apply Kd.V_drew)); exact aV.out) a6 (Nat.le_of_eq hg.symm)) hb); have aN := Z0.mk (Kd.V_below (Kd.V_elderB (by (with_reducible repeat (first | apply Kd.V_alloc | apply Kd.V_drewN | apply Kd.V_drew)); exact aW.out) a6 (Nat.le_of_eq hg.symm)) hb); have aP := Z0.mk (bP (by repeat (first | (with_reducible first | apply bA | apply bN | apply bD) | exact HB.out)) hb); have aQ := Z0.mk (hbox); have aH := Z0.mk ((by rw [hg]; exact (bZ (by repeat (first | (with_reducible first | apply bA | apply bN | apply bD) | exact HB.out))) : w.heap.size ≤ a6)); have aT := aH; clear aV aW HB; have aV := aM; have aW := aN; have HB := aP; have a2 := aQ; have bj := aH; have aC := aT; clear aM aN aP aQ aH aT; clear hb hbox hg) | ((with_reducible refine gate_dst (N := 4) rfl ?_); refine box_event ?hg (N := 4) ?hd (cs := #[.slice none 0 0, .int .i64 0, .int .i64 0, .slice none 0 0, .bool false]) (t := 46) ?hr ?_; (case hd => rfl); (case hg => rfl); (case hr => first | (go_simp; done) | (go_simp; rfl)); intro a8 hg w6 hbox hb; have aM := Z0.mk (Kd.V_below (Kd.V_elderB (by (with_reducible repeat (first | apply Kd.V_alloc | apply Kd.V_drewN | apply Kd.V_drew)); exact aV.out) a8 (Nat.le_of_eq hg.symm)) hb); have aN := Z0.mk (Kd.V_below (Kd.V_elderB (by (with_reducible repeat (first | apply Kd.V_alloc | apply Kd.V_drewN | apply Kd.V_drew)); exact aW.out) a8 (Nat.le_of_eq hg.symm)) hb); have aP := Z0.mk (kB (by (with_reducible repeat first | apply kN | apply kD | apply kA); exact a2.out) hb); have aQ := Z0.mk (bP (by repeat (first | (with_reducible first | apply bA | apply bN | apply bD | refine bS ?_ aC.out) | exact HB.out)) hb); have aH := Z0.mk (hbox); have aT := Z0.mk ((by rw [hg]; exact (bZ (by repeat (first | (with_reducible first | apply bA | apply bN | apply bD | refine bS ?_ aC.out) | exact HB.out))) : w.heap.size ≤ a8)); have aY := aT; have ai := Z0.mk ((by rw [hg]; exact Nat.ne_of_lt (blk_lt (by (with_reducible repeat first | apply kN | apply kD | apply kA); exact a2.out)) : a6 ≠ a8)); have aj := Z0.mk (Ne.symm ai.out); clear aV aW a2 HB; have aV := aM; have aW := aN; have a2 := aP; have HB := aQ; have a5 := aH; have bk := aT; have aJ := aY; have ah := ai; have ad := aj; clear aM aN aP aQ aH aT aY ai aj hb hbox hg; have hnb7 := ah.out; have hnc7 := ad.out; obtain ⟨bR, bT, bU, bV, bW, bX, bY, ba, bb, bc⟩ := kc5 a2.out) | ((with_reducible refine gate_callee (f := 20) rfl ?_); refine goesL_ (some 10) rfl rfl Try.func20 (by kernel_rfl) rfl #[.agg #[.slice ao af.length ap, .int .i64 aE, .int .i64 aG, .slice aq ag.length ar, .bool aI]] rfl (by (try simp only [List.map_toArray, List.map_cons, List.map_nil]); first | done | rfl | (simp only [List.length_drop, List.length_take]; rfl)) ?_; (with_reducible refine (hackamoreref28_Check.calls k _ _ af aE aG _ _ ag aI t272 _ ?side1 ?side2 ?side3 ?side4 A3.out).mono ?_); (case side1 => repeat (first | exact (Kd.V_reads' aV.out).2.2 | (with_reducible refine Kd.C_alloc ?_ _) | (with_reducible refine Kd.C_drewN ?_ _) | (with_reducible refine Kd.C_drew ?_))); (case side2 => exact (Kd.V_reads' aV.out).2.1); (case side3 => repeat (first | exact (Kd.V_reads' aW.out).2.2 | (with_reducible refine Kd.C_alloc ?_ _) | (with_reducible refine Kd.C_drewN ?_ _) | (with_reducible refine Kd.C_drew ?_))); (case side4 => exact (Kd.V_reads' aW.out).2.1); rintro e w9 ⟨rfl, hb⟩; refine ⟨_, rfl, ?_⟩; have aM := Z0.mk (Kd.V_below (by (with_reducible repeat (first | apply Kd.V_alloc | apply Kd.V_drewN | apply Kd.V_drew)); exact aV.out) hb); have aN := Z0.mk (Kd.V_below (by (with_reducible repeat (first | apply Kd.V_alloc | apply Kd.V_drewN | apply Kd.V_drew)); exact aW.out) hb); have aP := Z0.mk (kB (by (with_reducible repeat first | apply kN | apply kD | apply kA); exact a2.out) hb); have aQ := Z0.mk (kB (by (with_reducible repeat first | apply kN | apply kD | apply kA); exact a5.out) hb); have aH := Z0.mk (bP (by repeat (first | (with_reducible first | apply bA | apply bN | apply bD | refine bS ?_ aC.out | refine bS ?_ aJ.out) | exact HB.out)) hb); clear aV aW a2 a5 HB; have aV := aM; have aW := aN; have a2 := aP; have a5 := aQ; have HB := aH; clear aM aN aP aQ aH; (try clear hb); (try clear hb2); (try clear hk); (try clear hi)))
  go_loopg [7] k (fun kq v7 w' => ∃ (a3 : Int) (aX : List (S105)) (a0 : List (S122)) (aZ : Int) (aU : Int) (aD : Bool) (u271000 : Value) (u271003 : Value), v7 = .int .i64 a3 ∧ Z0 (hackamoreref28_Finish.l0 kq a1 a3 aX aE aG a0 aI = some (r1, r2, r3, r4, r5, r6)) ∧ Z0 (kq ≤ k) ∧ Z0 (Kd.V k105 105 w' w.heap.size (fun k_ => ((P0_0_ k_ ∨ P0_3_ k_) ∨ w.heap.size ≤ k_) ∧ k_ ≠ a6 ∧ k_ ≠ a8) u271000 aX) ∧ Z0 (Kd.V k122 122 w' w.heap.size (fun k_ => ((P0_0_ k_ ∨ P0_3_ k_) ∨ w.heap.size ≤ k_) ∧ k_ ≠ a6 ∧ k_ ≠ a8) u271003 a0) ∧ Z0 (w'.heap[a6]? = some (.cells #[u271000, .int .i64 aE, .int .i64 aG, u271003, .bool aI] 46 (0, 0))) ∧ Z0 (w'.heap[a8]? = some (.cells #[(.slice none 0 0), .int .i64 aZ, .int .i64 aU, (.slice none 0 0), .bool aD] 46 (0, 0))) ∧ Z0 (Below w.heap.size w w'))
  case atStart => exact ⟨(0), (af), (ag), (0), (0), (false), (.slice ao af.length ap), (.slice aq ag.length ar), (by first | rfl | (simp; done) | (simp [*]; done)), H', ⟨Nat.le_refl _⟩, ⟨by (with_reducible repeat (first | apply Kd.V_alloc | apply Kd.V_drewN | apply Kd.V_drew)); exact Kd.V_mono aV.out (fun _ hk => ⟨hk.1.1, ⟨hk.1.2, hk.2⟩⟩)⟩, ⟨by (with_reducible repeat (first | apply Kd.V_alloc | apply Kd.V_drewN | apply Kd.V_drew)); exact Kd.V_mono aW.out (fun _ hk => ⟨hk.1.1, ⟨hk.1.2, hk.2⟩⟩)⟩, ⟨by (with_reducible repeat first | apply kN | apply kD | apply kA); exact a2.out⟩, ⟨by (with_reducible repeat first | apply kN | apply kD | apply kA); exact a5.out⟩, ⟨by repeat (first | (with_reducible first | apply bA | apply bN | apply bD | refine bS ?_ aC.out | refine bS ?_ aJ.out) | exact HB.out)⟩⟩
  case round =>
   clear H'
   try clear c2
   try clear p2
   try clear c4
   try clear c4b0
   try clear c4b1
   try clear c7
   try clear bR
   try clear bT
   try clear bU
   try clear bV
   try clear bW
   try clear bX
   try clear bY
   try clear ba
   try clear bb
   try clear bc
   obtain ⟨a3, aX, a0, aZ, aU, aD, u271000, u271003, rfl, HA, HK1, a7, a4, a2, a5, HB⟩ := hrel
   cases gk with
   | zero => exact absurd HA.out (by simp [hackamoreref28_Finish.l0])
   | succ k1 =>
    have H := HA.out
    clear HA
    simp only [hackamoreref28_Finish.l0] at H
    by_cases c10 : a3 < (a0.length : Int)
    ·rw [if_pos c10] at H
     have c10b0 : decide (a3 < (a0.length : Int)) = true := decide_eq_true c10
     clear c10
     by_cases c11 : 0 ≤ a3
     ·rw [if_pos c11] at H
      have c11b0 : decide (0 ≤ a3) = true := decide_eq_true c11
      clear c11
      by_cases c12 : ((rZ2 a0 a3).f0) = a1
      ·rw [if_pos c12] at H
       have c12b0 : (((rZ2 a0 a3).f0) == a1) = true := beq_iff_eq.mpr c12
       have c12b1 : (((rZ2 a0 a3).f0) != a1) = false := bne_eq_false_iff_eq.mpr c12
       clear c12
       obtain ⟨y275, ay⟩ : ∃ y_ : List (S105), y_ = (([] : List (S105))) := ⟨_, rfl⟩
       replace H : (if y275.length + aX.length < 5864062014805 then ((some (y275 ++ aX : List (S105))).bind fun y278 => (if 0 ≤ ((rZ2 a0 a3).f1) then (if ((rZ2 a0 a3).f1) < (y278.length : Int) then ((some (([] : List (S122)) : List (S122))).bind fun y282 => (if a3 ≤ (a0.length : Int) then ((some (a0.take (a3 : Int).toNat : List (S122))).bind fun y285 => (if y282.length + y285.length < 5864062014805 then ((some (y282 ++ y285 : List (S122))).bind fun y290 => (if 0 ≤ (wrap64 (a3 + 1)) then (if (wrap64 (a3 + 1)) ≤ (a0.length : Int) then ((some (a0.drop ((wrap64 (a3 + 1)) : Int).toNat : List (S122))).bind fun y293 => (if y290.length + y293.length < 5864062014805 then (some ((y278.set (((rZ2 a0 a3).f1) : Int).toNat (⟨(rZ5 y278 ((rZ2 a0 a3).f1)).f0, (rZ5 y278 ((rZ2 a0 a3).f1)).f1, (rZ2 a0 a3).f2⟩ : S105)), aE, aG, (y290 ++ y293), aI, 0)) else (none))) else (none)) else (none))) else (none))) else (none))) else (none)) else (none))) else (none)) = some (r1, r2, r3, r4, r5, r6) := by first | (rw [ay]; with_reducible exact H) | (have H2_ := (Option.bind_some _ _).symm.trans H; rw [ay]; with_reducible exact H2_) | (have H2_ := (Option.bind_some _ _).symm.trans H; with_reducible exact H2_) | with_reducible exact H | (rw [ay]; exact H) | exact H
       have bH := Z0.mk ay
       clear ay
       by_cases c13 : y275.length + aX.length < 5864062014805
       ·rw [if_pos c13] at H
        have bl := Z0.mk c13
        clear c13
        obtain ⟨y278, az⟩ : ∃ y_ : List (S105), y_ = (y275 ++ aX) := ⟨_, rfl⟩
        replace H : (if 0 ≤ ((rZ2 a0 a3).f1) then (if ((rZ2 a0 a3).f1) < (y278.length : Int) then ((some (([] : List (S122)) : List (S122))).bind fun y282 => (if a3 ≤ (a0.length : Int) then ((some (a0.take (a3 : Int).toNat : List (S122))).bind fun y285 => (if y282.length + y285.length < 5864062014805 then ((some (y282 ++ y285 : List (S122))).bind fun y290 => (if 0 ≤ (wrap64 (a3 + 1)) then (if (wrap64 (a3 + 1)) ≤ (a0.length : Int) then ((some (a0.drop ((wrap64 (a3 + 1)) : Int).toNat : List (S122))).bind fun y293 => (if y290.length + y293.length < 5864062014805 then (some ((y278.set (((rZ2 a0 a3).f1) : Int).toNat (⟨(rZ5 y278 ((rZ2 a0 a3).f1)).f0, (rZ5 y278 ((rZ2 a0 a3).f1)).f1, (rZ2 a0 a3).f2⟩ : S105)), aE, aG, (y290 ++ y293), aI, 0)) else (none))) else (none)) else (none))) else (none))) else (none))) else (none)) else (none)) = some (r1, r2, r3, r4, r5, r6) := by first | (rw [az]; with_reducible exact H) | (have H2_ := (Option.bind_some _ _).symm.trans H; rw [az]; with_reducible exact H2_) | (have H2_ := (Option.bind_some _ _).symm.trans H; with_reducible exact H2_) | with_reducible exact H | (rw [az]; exact H) | exact H
        have bm := Z0.mk az
        clear az
        by_cases c14 : 0 ≤ ((rZ2 a0 a3).f1)
        ·rw [if_pos c14] at H
         have c14b0 : decide (0 ≤ ((rZ2 a0 a3).f1)) = true := decide_eq_true c14
         clear c14
         by_cases c15 : ((rZ2 a0 a3).f1) < (y278.length : Int)
         ·rw [if_pos c15] at H
          have c15b0 : decide (((rZ2 a0 a3).f1) < (y278.length : Int)) = true := decide_eq_true c15
          clear c15
          obtain ⟨y281, b0⟩ : ∃ y_ : List (S105), y_ = (y278.set (((rZ2 a0 a3).f1) : Int).toNat (⟨(rZ5 y278 ((rZ2 a0 a3).f1)).f0, (rZ5 y278 ((rZ2 a0 a3).f1)).f1, (rZ2 a0 a3).f2⟩ : S105)) := ⟨_, rfl⟩
          replace H : ((some (([] : List (S122)) : List (S122))).bind fun y282 => (if a3 ≤ (a0.length : Int) then ((some (a0.take (a3 : Int).toNat : List (S122))).bind fun y285 => (if y282.length + y285.length < 5864062014805 then ((some (y282 ++ y285 : List (S122))).bind fun y290 => (if 0 ≤ (wrap64 (a3 + 1)) then (if (wrap64 (a3 + 1)) ≤ (a0.length : Int) then ((some (a0.drop ((wrap64 (a3 + 1)) : Int).toNat : List (S122))).bind fun y293 => (if y290.length + y293.length < 5864062014805 then (some (y281, aE, aG, (y290 ++ y293), aI, 0)) else (none))) else (none)) else (none))) else (none))) else (none))) = some (r1, r2, r3, r4, r5, r6) := by first | (rw [b0]; with_reducible exact H) | (have H2_ := (Option.bind_some _ _).symm.trans H; rw [b0]; with_reducible exact H2_) | (have H2_ := (Option.bind_some _ _).symm.trans H; with_reducible exact H2_) | with_reducible exact H | (rw [b0]; exact H) | exact H
          have bn := Z0.mk b0
          clear b0
          obtain ⟨y282, b1⟩ : ∃ y_ : List (S122), y_ = (([] : List (S122))) := ⟨_, rfl⟩
          replace H : (if a3 ≤ (a0.length : Int) then ((some (a0.take (a3 : Int).toNat : List (S122))).bind fun y285 => (if y282.length + y285.length < 5864062014805 then ((some (y282 ++ y285 : List (S122))).bind fun y290 => (if 0 ≤ (wrap64 (a3 + 1)) then (if (wrap64 (a3 + 1)) ≤ (a0.length : Int) then ((some (a0.drop ((wrap64 (a3 + 1)) : Int).toNat : List (S122))).bind fun y293 => (if y290.length + y293.length < 5864062014805 then (some (y281, aE, aG, (y290 ++ y293), aI, 0)) else (none))) else (none)) else (none))) else (none))) else (none)) = some (r1, r2, r3, r4, r5, r6) := by first | (rw [b1]; with_reducible exact H) | (have H2_ := (Option.bind_some _ _).symm.trans H; rw [b1]; with_reducible exact H2_) | (have H2_ := (Option.bind_some _ _).symm.trans H; with_reducible exact H2_) | with_reducible exact H | (rw [b1]; exact H) | exact H
          have bI := Z0.mk b1
          clear b1
          have c17b0 := eq_true (of_decide_eq_true (by assumption) : 0 ≤ a3)
          by_cases c18 : a3 ≤ (a0.length : Int)
          ·rw [if_pos c18] at H
           have c18b0 := eq_true c18
           have c18b1 : decide (a3 ≤ (a0.length : Int)) = true := decide_eq_true c18
           clear c18
           obtain ⟨y285, b2⟩ : ∃ y_ : List (S122), y_ = (a0.take (a3 : Int).toNat) := ⟨_, rfl⟩
           replace H : (if y282.length + y285.length < 5864062014805 then ((some (y282 ++ y285 : List (S122))).bind fun y290 => (if 0 ≤ (wrap64 (a3 + 1)) then (if (wrap64 (a3 + 1)) ≤ (a0.length : Int) then ((some (a0.drop ((wrap64 (a3 + 1)) : Int).toNat : List (S122))).bind fun y293 => (if y290.length + y293.length < 5864062014805 then (some (y281, aE, aG, (y290 ++ y293), aI, 0)) else (none))) else (none)) else (none))) else (none)) = some (r1, r2, r3, r4, r5, r6) := by first | (rw [b2]; with_reducible exact H) | (have H2_ := (Option.bind_some _ _).symm.trans H; rw [b2]; with_reducible exact H2_) | (have H2_ := (Option.bind_some _ _).symm.trans H; with_reducible exact H2_) | with_reducible exact H | (rw [b2]; exact H) | exact H
           have bJ := Z0.mk b2
           clear b2
           by_cases c19 : y282.length + y285.length < 5864062014805
           ·rw [if_pos c19] at H
            have bo := Z0.mk c19
            clear c19
            obtain ⟨y290, b3⟩ : ∃ y_ : List (S122), y_ = (y282 ++ y285) := ⟨_, rfl⟩
            replace H : (if 0 ≤ (wrap64 (a3 + 1)) then (if (wrap64 (a3 + 1)) ≤ (a0.length : Int) then ((some (a0.drop ((wrap64 (a3 + 1)) : Int).toNat : List (S122))).bind fun y293 => (if y290.length + y293.length < 5864062014805 then (some (y281, aE, aG, (y290 ++ y293), aI, 0)) else (none))) else (none)) else (none)) = some (r1, r2, r3, r4, r5, r6) := by first | (rw [b3]; with_reducible exact H) | (have H2_ := (Option.bind_some _ _).symm.trans H; rw [b3]; with_reducible exact H2_) | (have H2_ := (Option.bind_some _ _).symm.trans H; with_reducible exact H2_) | with_reducible exact H | (rw [b3]; exact H) | exact H
            have bp := Z0.mk b3
            clear b3
            obtain ⟨ji20, hji20⟩ : ∃ j_ : Int, (wrap64 (a3 + 1)) = j_ := ⟨_, rfl⟩
            replace H : (if 0 ≤ (ji20) then (if (ji20) ≤ (a0.length : Int) then ((some (a0.drop ((ji20) : Int).toNat : List (S122))).bind fun y293 => (if y290.length + y293.length < 5864062014805 then (some (y281, aE, aG, (y290 ++ y293), aI, 0)) else (none))) else (none)) else (none)) = some (r1, r2, r3, r4, r5, r6) := by first | (rw [hji20] at H; exact H) | (simp only [hji20] at H ⊢; exact H)
            have hji20w : (IntKind.i64.wrap (a3 + 1)) = ji20 := (i64_w _).trans hji20
            by_cases c21 : 0 ≤ (ji20)
            ·rw [if_pos c21] at H
             have c21b0 := eq_true c21
             have c21b1 : decide (0 ≤ (ji20)) = true := decide_eq_true c21
             clear c21
             by_cases c22 : (ji20) ≤ (a0.length : Int)
             ·rw [if_pos c22] at H
              have c22b0 := eq_true c22
              have c22b1 : decide ((ji20) ≤ (a0.length : Int)) = true := decide_eq_true c22
              clear c22
              obtain ⟨y293, b4⟩ : ∃ y_ : List (S122), y_ = (a0.drop ((ji20) : Int).toNat) := ⟨_, rfl⟩
              replace H : (if y290.length + y293.length < 5864062014805 then (some (y281, aE, aG, (y290 ++ y293), aI, 0)) else (none)) = some (r1, r2, r3, r4, r5, r6) := by first | (rw [b4]; with_reducible exact H) | (have H2_ := (Option.bind_some _ _).symm.trans H; rw [b4]; with_reducible exact H2_) | (have H2_ := (Option.bind_some _ _).symm.trans H; with_reducible exact H2_) | with_reducible exact H | (rw [b4]; exact H) | exact H
              have bK := Z0.mk b4
              clear b4
              by_cases c23 : y290.length + y293.length < 5864062014805
              ·rw [if_pos c23] at H
               have bq := Z0.mk c23
               clear c23
               obtain ⟨y298, b5⟩ : ∃ y_ : List (S122), y_ = (y290 ++ y293) := ⟨_, rfl⟩
               replace H : (some (y281, aE, aG, y298, aI, 0)) = some (r1, r2, r3, r4, r5, r6) := by first | (rw [b5]; with_reducible exact H) | (have H2_ := (Option.bind_some _ _).symm.trans H; rw [b5]; with_reducible exact H2_) | (have H2_ := (Option.bind_some _ _).symm.trans H; with_reducible exact H2_) | with_reducible exact H | (rw [b5]; exact H) | exact H
               have br := Z0.mk b5
               clear b5
               simp only [Option.some.injEq, Prod.mk.injEq] at H
               obtain ⟨rfl, rfl, rfl, rfl, rfl, rfl⟩ := H
               have hnb24 := ah.out
               have hnc24 := ad.out
               have bt : wr.cell? ⟨a6, 0, none⟩ = some (u271000) := (kC a2.out 0).trans rfl
               have bu : wr.cell? ⟨a6, 1, none⟩ = some (.int .i64 aE) := (kC a2.out 1).trans rfl
               have bv : wr.cell? ⟨a6, 2, none⟩ = some (.int .i64 aG) := (kC a2.out 2).trans rfl
               have bw : wr.cell? ⟨a6, 3, none⟩ = some (u271003) := (kC a2.out 3).trans rfl
               have bx : wr.cell? ⟨a6, 4, none⟩ = some (.bool aI) := (kC a2.out 4).trans rfl
               have bz := kF a2.out 0
               have c0 := kF a2.out 1
               have c3 := kF a2.out 2
               have c5 := kF a2.out 3
               have c6 := kF a2.out 4
               obtain ⟨Ao26, co26, eo26⟩ := Kd.V_slice a4.out
               subst eo26
               have p273 : 0 ≤ (a3 : Int) := of_decide_eq_true (by assumption)
               have q273 : a3 < (a0.length : Int) := of_decide_eq_true (by assumption)
               obtain ⟨ad273, e273, bM, bO, bQ⟩ := at_T122 (Kd.V_reads' a4.out).2.2 a3 p273 q273
               cases e273
               replace p273 := eq_true p273
               replace q273 := eq_true q273
               try go_wp2_with (first | ((with_reducible refine gate_dst (N := 8) rfl ?_); refine box_event ?hg (N := 8) ?hd (cs := #[.int .i64 0, .int .i64 0, .int .i64 0]) (t := 122) ?hr ?_; (case hd => rfl); (case hg => rfl); (case hr => first | (go_simp; done) | (go_simp; rfl)); intro a9 hg w27 hbox hb; have aM := Z0.mk (Kd.V_below (Kd.V_elderB (by (with_reducible repeat (first | apply Kd.V_alloc | apply Kd.V_drewN | apply Kd.V_drew)); exact a7.out) a9 (Nat.le_of_eq hg.symm)) hb); have aN := Z0.mk (Kd.V_below (Kd.V_elderB (by (with_reducible repeat (first | apply Kd.V_alloc | apply Kd.V_drewN | apply Kd.V_drew)); exact a4.out) a9 (Nat.le_of_eq hg.symm)) hb); have aP := Z0.mk (kB (by (with_reducible repeat first | apply kN | apply kD | apply kA); exact a2.out) hb); have aQ := Z0.mk (kB (by (with_reducible repeat first | apply kN | apply kD | apply kA); exact a5.out) hb); have aH := Z0.mk (bP (by repeat (first | (with_reducible first | apply bA | apply bN | apply bD | refine bS ?_ aC.out | refine bS ?_ aJ.out) | exact HB.out)) hb); have aT := Z0.mk (hbox); have aY := Z0.mk ((by rw [hg]; exact (bZ (by repeat (first | (with_reducible first | apply bA | apply bN | apply bD | refine bS ?_ aC.out | refine bS ?_ aJ.out) | exact HB.out))) : w.heap.size ≤ a9)); have ai := aY; have aj := Z0.mk ((by rw [hg]; exact Nat.ne_of_lt (blk_lt (by (with_reducible repeat first | apply kN | apply kD | apply kA); exact a2.out)) : a6 ≠ a9)); have an := Z0.mk (Ne.symm aj.out); have ax := Z0.mk ((by rw [hg]; exact Nat.ne_of_lt (blk_lt (by (with_reducible repeat first | apply kN | apply kD | apply kA); exact a5.out)) : a8 ≠ a9)); have b8 := Z0.mk (Ne.symm ax.out); clear a7 a4 a2 a5 HB; have a7 := aM; have a4 := aN; have a2 := aP; have a5 := aQ; have HB := aH; have aA := aT; have bs := aY; have aa := ai; have ab := aj; have am := an; have ae := ax; have au := b8; clear aM aN aP aQ aH aT aY ai aj an ax b8 hb hbox hg; have hnb28 := am.out; have hnc28 := ab.out; have hnb29 := au.out; have hnc29 := ae.out; obtain ⟨c8, c9, cA, cC, cD, cE⟩ := kc3 aA.out) | ((with_reducible refine gate_dst (N := 31) rfl ?_); refine Kd.R_lit k105 _ 105 ?hg (N := 31) ?hd (xs := ([] : List (S105))) (inner := []) (ok := fun _ => True) (okp := fun _ => True) ?hr ?hp (fun _ hk => hk) trivial (Below.refl _ _) (Nat.le_refl _) (by simp) ?_; (case hd => rfl); (case hg => rfl); (case hr => first | (go_simp; done) | (go_simp; rfl)); (case hp => exact (Reps.none _ _)); intro v276 w31 ho32 hb hg_ hnew_; clear hg_ hnew_; (first | rw [← bH.out] at ho32 | (simp only [Int.reduceToNat] at ho32; rw [← bH.out] at ho32)); have aM := Z0.mk (Kd.V_elder' (by (with_reducible repeat (first | apply Kd.V_alloc | apply Kd.V_drewN | apply Kd.V_drew)); exact (Kd.V_mono (Kd.V_far (p := ⟨a9, 2, none⟩) (Kd.V_far (p := ⟨a9, 1, none⟩) (Kd.V_far (p := ⟨a9, 0, none⟩) (Kd.V_mono a7.out (fun k_ hk => (⟨hk, hk.2⟩ : _ ∧ k_ ≠ a9))) (fun _ hk => hk.2) (.int .i64 ((rZ2 a0 a3).f0))) (fun _ hk => hk.2) (.int .i64 ((rZ2 a0 a3).f1))) (fun _ hk => hk.2) (.int .i64 ((rZ2 a0 a3).f2))) (fun _ h_ => h_.1))) (Kd.R_base ho32) hb); have aN := Z0.mk (Kd.V_elder' (by (with_reducible repeat (first | apply Kd.V_alloc | apply Kd.V_drewN | apply Kd.V_drew)); exact (Kd.V_mono (Kd.V_far (p := ⟨a9, 2, none⟩) (Kd.V_far (p := ⟨a9, 1, none⟩) (Kd.V_far (p := ⟨a9, 0, none⟩) (Kd.V_mono a4.out (fun k_ hk => (⟨hk, hk.2⟩ : _ ∧ k_ ≠ a9))) (fun _ hk => hk.2) (.int .i64 ((rZ2 a0 a3).f0))) (fun _ hk => hk.2) (.int .i64 ((rZ2 a0 a3).f1))) (fun _ hk => hk.2) (.int .i64 ((rZ2 a0 a3).f2))) (fun _ h_ => h_.1))) (Kd.R_base ho32) hb); have aP := Z0.mk (Kd.R_lower (Kd.R_newM (M := fun k_ => (w.heap.size ≤ k_)) ho32 (bZ (by repeat (first | (with_reducible first | apply bA | apply bN | apply bD | refine bS ?_ aC.out | refine bS ?_ aJ.out | refine bS ?_ aa.out) | exact HB.out))) (fun k_ h_ => h_)) (bZ (by repeat (first | (with_reducible first | apply bA | apply bN | apply bD | refine bS ?_ aC.out | refine bS ?_ aJ.out | refine bS ?_ aa.out) | exact HB.out)))); have aQ := Z0.mk (kB (g := a6) (o := .cells #[u271000, .int .i64 aE, .int .i64 aG, .slice (some ad273) a0.length co26, .bool aI] 46 (0, 0)) (by (with_reducible repeat first | apply kN | apply kD | apply kA); refine blk_far ?_ ab.out _; (with_reducible repeat first | apply kN | apply kD | apply kA); refine blk_far ?_ ab.out _; (with_reducible repeat first | apply kN | apply kD | apply kA); refine blk_far ?_ ab.out _; (with_reducible repeat first | apply kN | apply kD | apply kA); exact a2.out) hb); have aH := Z0.mk (kB (g := a8) (o := .cells #[.slice none 0 0, .int .i64 aZ, .int .i64 aU, .slice none 0 0, .bool aD] 46 (0, 0)) (by (with_reducible repeat first | apply kN | apply kD | apply kA); refine blk_far ?_ ae.out _; (with_reducible repeat first | apply kN | apply kD | apply kA); refine blk_far ?_ ae.out _; (with_reducible repeat first | apply kN | apply kD | apply kA); refine blk_far ?_ ae.out _; (with_reducible repeat first | apply kN | apply kD | apply kA); exact a5.out) hb); have aT := Z0.mk (kB (g := a9) (o := .cells #[.int .i64 ((rZ2 a0 a3).f0), .int .i64 ((rZ2 a0 a3).f1), .int .i64 ((rZ2 a0 a3).f2)] 122 (0, 0)) (by (with_reducible repeat first | apply kN | apply kD | apply kA); refine blk_put (cs := #[.int .i64 ((rZ2 a0 a3).f0), .int .i64 ((rZ2 a0 a3).f1), .int .i64 0]) ?_ 2 _ rfl; (with_reducible repeat first | apply kN | apply kD | apply kA); refine blk_put (cs := #[.int .i64 ((rZ2 a0 a3).f0), .int .i64 0, .int .i64 0]) ?_ 1 _ rfl; (with_reducible repeat first | apply kN | apply kD | apply kA); refine blk_put (cs := #[.int .i64 0, .int .i64 0, .int .i64 0]) ?_ 0 _ rfl; (with_reducible repeat first | apply kN | apply kD | apply kA); exact aA.out) hb); have aY := Z0.mk (bP (by repeat (first | (with_reducible first | apply bA | apply bN | apply bD | refine bS ?_ aC.out | refine bS ?_ aJ.out | refine bS ?_ aa.out) | exact HB.out)) hb); clear a7 a4 a2 a5 aA HB; have a7 := aM; have a4 := aN; have b6 := aP; have a2 := aQ; have a5 := aH; have aA := aT; have HB := aY; clear aM aN aP aQ aH aT aY hb ho32; obtain ⟨cF, cG, cH, cI, cJ, cK, cL, cM, cN, cO⟩ := kc5 a2.out; obtain ⟨Ao35, co35, eo35⟩ := Kd.V_slice a7.out; subst eo35) | ((with_reducible refine gate_builtin (b := .append) (xs := #[.tmp 31, .tmp 33]) rfl ?_); at_builtin; refine Kd.R_append_rows k105 (w0 := w) w.heap.size rfl (.tmp 31) (.tmp 33) 43 105 (.agg #[(.int .i64 0), (.int .i64 0), (.int .i64 0)]) 24 rfl Try.underlying43 info105 rfl (by decide) (by omega) v276 y275 aX _ _ _ (fun k_ => (w.heap.size ≤ k_)) (fun _ => False) rfl rfl ?aO ?aR (fun _ _ h => h) (fun _ h => h.elim) ?aF ?aB ?aS ?aL ?_; (case aR => repeat (first | exact (Kd.V_reads' a7.out).2.2 | (with_reducible refine Kd.C_alloc ?_ _) | (with_reducible refine Kd.C_drewN ?_ _) | (with_reducible refine Kd.C_drew ?_))); (case aB => exact (by repeat (first | (with_reducible first | apply bA | apply bN | apply bD | refine bS ?_ aC.out | refine bS ?_ aJ.out | refine bS ?_ aa.out) | exact HB.out))); (case aF => exact (fun k_ hk => (Nat.le_trans (bZ (by repeat (first | (with_reducible first | apply bA | apply bN | apply bD | refine bS ?_ aC.out | refine bS ?_ aJ.out | refine bS ?_ aa.out) | exact HB.out))) hk))); (case aO => exact (by (with_reducible repeat (first | apply Kd.R_alloc | apply Kd.R_drewN | apply Kd.R_drew)); exact Kd.R_mono b6.out (fun _ hk => hk.1))); (case aS => exact (bZ (by repeat (first | (with_reducible first | apply bA | apply bN | apply bD | refine bS ?_ aC.out | refine bS ?_ aJ.out | refine bS ?_ aa.out) | exact HB.out)))); (case aL => have := bl.out; omega); intro v279 w34 ho hb hg hat; rw [← bm.out] at ho; have aM := Z0.mk (Kd.V_afterv (ok := (fun k_ => ((P0_0_ k_ ∨ P0_3_ k_) ∨ w.heap.size ≤ k_) ∧ k_ ≠ a6 ∧ k_ ≠ a8 ∧ k_ ≠ a9)) (by (with_reducible repeat (first | apply Kd.V_alloc | apply Kd.V_drewN | apply Kd.V_drew)); exact Kd.V_mono a7.out (fun _ hk => ⟨⟨hk.1.1.1, ⟨hk.1.1.2.1, ⟨hk.1.1.2.2, hk.1.2⟩⟩⟩, hk.2⟩)) hg hat); have aN := Z0.mk (Kd.V_afterv (ok := (fun k_ => ((P0_0_ k_ ∨ P0_3_ k_) ∨ w.heap.size ≤ k_) ∧ k_ ≠ a6 ∧ k_ ≠ a8 ∧ k_ ≠ a9)) (by (with_reducible repeat (first | apply Kd.V_alloc | apply Kd.V_drewN | apply Kd.V_drew)); exact Kd.V_mono a4.out (fun _ hk => ⟨⟨hk.1.1.1, ⟨hk.1.1.2.1, ⟨hk.1.1.2.2, hk.1.2⟩⟩⟩, hk.2⟩)) hg hat); have aP := Z0.mk (blk_grown (by (with_reducible repeat first | apply kN | apply kD | apply kA); exact a2.out) hg (Kd.R_ne b6.out a2.out (by decide))); have aQ := Z0.mk (blk_grown (by (with_reducible repeat first | apply kN | apply kD | apply kA); exact a5.out) hg (Kd.R_ne b6.out a5.out (by decide))); have aH := Z0.mk (blk_grown (by (with_reducible repeat first | apply kN | apply kD | apply kA); exact aA.out) hg (Kd.R_ne b6.out aA.out (by decide))); have aT := Z0.mk (hb); have aY := Z0.mk (ho); clear a7 a4 a2 a5 aA HB b6; have a7 := aM; have a4 := aN; have a2 := aP; have a5 := aQ; have aA := aH; have HB := aT; have aK := aY; clear aM aN aP aQ aH aT aY ho hb hg hat; obtain ⟨Ao36, co36, eo36⟩ := Kd.R_slice aK.out; subst eo36; obtain ⟨cP, cQ, cR, cS, cT, cU, cV, cW, cX, cY⟩ := kc5 a2.out) | ((with_reducible refine gate_store (t := 43) (p := 35) rfl ?_); refine store_event (t := 43) (p := 35) (v := ?vo_w38) (w1 := (w34.setCell ⟨a6, 0, none⟩ (.slice Ao36 y278.length co36))) ?hg ?ho ?hn ?hr ?_; (case ho => rfl); (case hg => rfl); (case hn => rfl); (case hr => first | (go_simp; done) | (go_simp; rfl)); intro w38 hw; have aM : Z0 (Kd.V k105 105 w38 w.heap.size (fun k_ => ((P0_0_ k_ ∨ P0_3_ k_) ∨ w.heap.size ≤ k_) ∧ some k_ ≠ (.slice Ao36 y278.length co36 : Value).ownBlock ∧ k_ ≠ a6 ∧ k_ ≠ a8 ∧ k_ ≠ a9) (.slice Ao35 aX.length co35) aX) := ⟨(by rw [hw]; exact (by (with_reducible repeat (first | apply Kd.V_alloc | apply Kd.V_drewN | apply Kd.V_drew)); exact Kd.V_mono (Kd.V_far (p := ⟨a6, 0, none⟩) (Kd.V_mono a7.out (fun k_ hk => (⟨hk, hk.1.2.1⟩ : _ ∧ k_ ≠ a6))) (fun _ hk => hk.2) (.slice Ao36 y278.length co36)) (fun _ hk => ⟨hk.1.1.1, ⟨hk.1.2, ⟨hk.1.1.2.1, ⟨hk.1.1.2.2.1, hk.1.1.2.2.2⟩⟩⟩⟩)))⟩; have aN : Z0 (Kd.V k122 122 w38 w.heap.size (fun k_ => ((P0_0_ k_ ∨ P0_3_ k_) ∨ w.heap.size ≤ k_) ∧ some k_ ≠ (.slice Ao36 y278.length co36 : Value).ownBlock ∧ k_ ≠ a6 ∧ k_ ≠ a8 ∧ k_ ≠ a9) (.slice (some ad273) a0.length co26) a0) := ⟨(by rw [hw]; exact (by (with_reducible repeat (first | apply Kd.V_alloc | apply Kd.V_drewN | apply Kd.V_drew)); exact Kd.V_mono (Kd.V_far (p := ⟨a6, 0, none⟩) (Kd.V_mono a4.out (fun k_ hk => (⟨hk, hk.1.2.1⟩ : _ ∧ k_ ≠ a6))) (fun _ hk => hk.2) (.slice Ao36 y278.length co36)) (fun _ hk => ⟨hk.1.1.1, ⟨hk.1.2, ⟨hk.1.1.2.1, ⟨hk.1.1.2.2.1, hk.1.1.2.2.2⟩⟩⟩⟩)))⟩; have aP : Z0 (Kd.R k105 105 w38 w.heap.size (fun k_ => (w.heap.size ≤ k_)) (.slice Ao36 y278.length co36) y278) := ⟨(by rw [hw]; exact (by (with_reducible repeat (first | apply Kd.R_alloc | apply Kd.R_drewN | apply Kd.R_drew)); exact Kd.R_mono (Kd.R_far (p := ⟨a6, 0, none⟩) (Kd.R_types aK.out a2.out (by decide)) (fun _ hk => hk.2) (.slice Ao36 y278.length co36)) (fun _ hk => hk.1)))⟩; have aQ : Z0 (w38.heap[a6]? = some (.cells #[.slice Ao36 y278.length co36, .int .i64 aE, .int .i64 aG, .slice (some ad273) a0.length co26, .bool aI] 46 (0, 0))) := ⟨(by rw [hw]; exact (by (with_reducible repeat first | apply kN | apply kD | apply kA); refine blk_put (cs := #[.slice Ao35 aX.length co35, .int .i64 aE, .int .i64 aG, .slice (some ad273) a0.length co26, .bool aI]) ?_ 0 _ rfl; (with_reducible repeat first | apply kN | apply kD | apply kA); exact a2.out))⟩; have aH : Z0 (w38.heap[a8]? = some (.cells #[.slice none 0 0, .int .i64 aZ, .int .i64 aU, .slice none 0 0, .bool aD] 46 (0, 0))) := ⟨(by rw [hw]; exact (by (with_reducible repeat first | apply kN | apply kD | apply kA); refine blk_far ?_ ad.out _; (with_reducible repeat first | apply kN | apply kD | apply kA); exact a5.out))⟩; have aT : Z0 (w38.heap[a9]? = some (.cells #[.int .i64 ((rZ2 a0 a3).f0), .int .i64 ((rZ2 a0 a3).f1), .int .i64 ((rZ2 a0 a3).f2)] 122 (0, 0))) := ⟨(by rw [hw]; exact (by (with_reducible repeat first | apply kN | apply kD | apply kA); refine blk_far ?_ am.out _; (with_reducible repeat first | apply kN | apply kD | apply kA); exact aA.out))⟩; have aY : Z0 (Below w.heap.size w w38) := ⟨(by rw [hw]; exact (by repeat (first | (with_reducible first | apply bA | apply bN | apply bD | refine bS ?_ aC.out | refine bS ?_ aJ.out | refine bS ?_ aa.out) | exact HB.out)))⟩; clear hw a7 a4 aK a2 a5 aA HB; have a7 := aM; have a4 := aN; have aK := aP; have a2 := aQ; have a5 := aH; have aA := aT; have HB := aY; clear aM aN aP aQ aH aT aY; obtain ⟨cZ, ca, cb, cc, cd, ce, cf, cg, ch, ci⟩ := kc5 a2.out; obtain ⟨cj, ck, cl, cm, cn, co⟩ := kc3 aA.out; have p16 : 0 ≤ (((rZ2 a0 a3).f1) : Int) := of_decide_eq_true (by assumption); have q16 : (((rZ2 a0 a3).f1) : Int) < ((y278.length : Int) : Int) := of_decide_eq_true (by assumption); obtain ⟨go16, co16, eo16, bd, gl16, cl16, HG16⟩ := Kd.R_form aK.out (by omega); (first | cases eo16 | (injection eo16 with ea_ en_ ec_; (first | subst ea_ | (injection ea_ with ea_; subst ea_)); subst ec_; clear en_)); have GB16 := Z0.mk bd; have GG16 := Z0.mk HG16; clear bd gl16 HG16; obtain ⟨ce16, hcl16, hM16, hcc16, hfr16⟩ := Kd.R_elem aK.out z105 (((rZ2 a0 a3).f1) : Int) p16 q16; obtain rfl := k105_openM hM16; have eA : w38.cell? ⟨go16, (((rZ2 a0 a3).f1) : Int).toNat * 3, none⟩ = some (.int .i64 ((rZ5 y278 ((rZ2 a0 a3).f1)).f0)) := hcc16 0 _ rfl; have eB : w38.cell? ⟨go16, (((rZ2 a0 a3).f1) : Int).toNat * 3 + 1, none⟩ = some (.int .i64 ((rZ5 y278 ((rZ2 a0 a3).f1)).f1)) := hcc16 1 _ rfl; have eC : w38.cell? ⟨go16, (((rZ2 a0 a3).f1) : Int).toNat * 3 + 2, none⟩ = some (.int .i64 ((rZ5 y278 ((rZ2 a0 a3).f1)).f2)) := hcc16 2 _ rfl; have eD : w38.frozen? ⟨go16, (((rZ2 a0 a3).f1) : Int).toNat * 3, none⟩ = false := hfr16 0; have eE : w38.frozen? ⟨go16, (((rZ2 a0 a3).f1) : Int).toNat * 3 + 1, none⟩ = false := hfr16 1; have eF : w38.frozen? ⟨go16, (((rZ2 a0 a3).f1) : Int).toNat * 3 + 2, none⟩ = false := hfr16 2; clear hcl16 hcc16 hfr16 hM16; replace p16 := eq_true p16; replace q16 := eq_true q16; have be := Z0.mk (show Kd.R k105 105 w38 w.heap.size (fun k_ => (w.heap.size ≤ k_)) (.slice (some ⟨go16, 0, none⟩) y278.length co36) y278 from (by (with_reducible repeat (first | apply Kd.R_alloc | apply Kd.R_drewN | apply Kd.R_drew)); exact aK.out)); obtain ⟨ce41, hcl41, hM41, hcc41, hfr41⟩ := Kd.R_elem be.out z105 (((rZ2 a0 a3).f1) : Int) (of_decide_eq_true (by assumption)) (by have h_ : (((rZ2 a0 a3).f1) : Int) < ((y278.length : Int) : Int) := of_decide_eq_true (by assumption); first | exact h_ | (have e_ := (Kd.R_reads' aK.out).1; omega) | simpa using h_); obtain rfl := k105_openM hM41; have bF := Kd.R_seg be.out (((rZ2 a0 a3).f1) : Int) (of_decide_eq_true (by assumption)) (by have h_ : (((rZ2 a0 a3).f1) : Int) < ((y278.length : Int) : Int) := of_decide_eq_true (by assumption); first | exact h_ | (have e_ := (Kd.R_reads' aK.out).1; omega) | simpa using h_) (seg := [.int .i64 ((rZ2 a0 a3).f2)]) (j := 2) hcl41 hcc41 (show 3 ≤ 3 from by decide) (x' := (⟨(rZ5 y278 ((rZ2 a0 a3).f1)).f0, (rZ5 y278 ((rZ2 a0 a3).f1)).f1, (rZ2 a0 a3).f2⟩ : S105)) (k105_mkM _ _ _ (⟨(rZ5 y278 ((rZ2 a0 a3).f1)).f0, (rZ5 y278 ((rZ2 a0 a3).f1)).f1, (rZ2 a0 a3).f2⟩ : S105) ) (fun _ hk => hk); have bf := hcc41 2 _ rfl; (try simp only [show (k105).sz = 3 from rfl, Nat.mul_one, Nat.add_zero] at bf); have bg := hfr41 2; (try simp only [show (k105).sz = 3 from rfl, Nat.mul_one, Nat.add_zero] at bg); clear hcl41 hcc41 hfr41 hM41) | ((with_reducible refine gate_store (t := 3) (p := 43) rfl ?_); refine store_event (t := 3) (p := 43) (v := ?vo_w42) (w1 := (w38.setCell ⟨go16, (((rZ2 a0 a3).f1) : Int).toNat * 3 + 2, none⟩ (.int .i64 ((rZ2 a0 a3).f2)))) ?hg ?ho ?hn ?hr ?_; (case ho => rfl); (case hg => rfl); (case hn => rfl); (case hr => first | (go_simp; done) | (go_simp; rfl)); intro w42 hw; have hg : w38.grownBy w42 (some go16) := (by rw [hw]; exact bF.2); have hp_ : Kd.R k105 105 w42 w.heap.size (fun k_ => (w.heap.size ≤ k_)) (.slice (some ⟨go16, 0, none⟩) y278.length co36) y281 := (by rw [hw, bn.out]; exact bF.1); clear bF; have aM := Z0.mk (Kd.V_afterv (v := (.slice (some ⟨go16, 0, none⟩) y278.length co36)) (v1 := (.slice (some ⟨go16, 0, none⟩) y278.length co36)) (ok := (fun k_ => ((P0_0_ k_ ∨ P0_3_ k_) ∨ w.heap.size ≤ k_) ∧ k_ ≠ a6 ∧ k_ ≠ a8 ∧ k_ ≠ a9)) (by (with_reducible repeat (first | apply Kd.V_alloc | apply Kd.V_drewN | apply Kd.V_drew)); exact Kd.V_mono a7.out (fun _ hk => ⟨⟨hk.1, ⟨hk.2.2.1, ⟨hk.2.2.2.1, hk.2.2.2.2⟩⟩⟩, hk.2.1⟩)) hg (.inl rfl)); have aN := Z0.mk (Kd.V_afterv (v := (.slice (some ⟨go16, 0, none⟩) y278.length co36)) (v1 := (.slice (some ⟨go16, 0, none⟩) y278.length co36)) (ok := (fun k_ => ((P0_0_ k_ ∨ P0_3_ k_) ∨ w.heap.size ≤ k_) ∧ k_ ≠ a6 ∧ k_ ≠ a8 ∧ k_ ≠ a9)) (by (with_reducible repeat (first | apply Kd.V_alloc | apply Kd.V_drewN | apply Kd.V_drew)); exact Kd.V_mono a4.out (fun _ hk => ⟨⟨hk.1, ⟨hk.2.2.1, ⟨hk.2.2.2.1, hk.2.2.2.2⟩⟩⟩, hk.2.1⟩)) hg (.inl rfl)); have aP := Z0.mk (blk_grown (by (with_reducible repeat first | apply kN | apply kD | apply kA); exact a2.out) hg (Kd.R_ne aK.out a2.out (by decide))); have aQ := Z0.mk (blk_grown (by (with_reducible repeat first | apply kN | apply kD | apply kA); exact a5.out) hg (Kd.R_ne aK.out a5.out (by decide))); have aH := Z0.mk (blk_grown (by (with_reducible repeat first | apply kN | apply kD | apply kA); exact aA.out) hg (Kd.R_ne aK.out aA.out (by decide))); have aT := Z0.mk (hp_); have aY := Z0.mk ((by rw [hw]; exact bS (HB.out) GB16.out : Below w.heap.size w w42)); clear a7 a4 a2 a5 aA aK HB; have a7 := aM; have a4 := aN; have a2 := aP; have a5 := aQ; have aA := aH; have aK := aT; have HB := aY; clear aM aN aP aQ aH aT aY; clear hg hw hp_))
               have aM := Z0.mk (Kd.V_drew a7.out)
               have aN := Z0.mk (Kd.V_drew a4.out)
               have aP := Z0.mk (Kd.R_drew aK.out)
               have aQ := Z0.mk (kD a2.out)
               have aH := Z0.mk (kD a5.out)
               have aT := Z0.mk (kD aA.out)
               have aY := Z0.mk (bD HB.out)
               clear a7
               clear a4
               clear aK
               clear a2
               clear a5
               clear aA
               clear HB
               have a7 := aM
               have a4 := aN
               have aK := aP
               have a2 := aQ
               have a5 := aH
               have aA := aT
               have HB := aY
               clear aM aN aP aQ aH aT aY
               have q44 : (a3 : Int) ≤ ((a0.length : Int) : Int) := of_decide_eq_true (by assumption)
               obtain ⟨i044, hi044, _, hsz44, _⟩ := info_parts info122
               have hroom44 : a0.length ≤ co26 := (Kd.V_reads' a4.out).2.1
               have hC44 : Kd.F k122 _ _ (some ad273) a0.length a0 := (Kd.V_at (base := w.heap.size) a4.out).2.2
               have hcut44 := cut_to (P := Try.prog) 44 122 .i64 Try.underlying44 hi044 (some ad273) a0.length co26 a3 (of_decide_eq_true (by assumption)) q44 hroom44
               have hr44 := Kd.F_take (m := (a3 : Int).toNat) hC44 (by omega)
               have bG : y285.length = (a3 : Int).toNat := (by rw [bJ.out, List.length_take]; omega)
               rw [← bJ.out] at hr44
               rw [← bG] at hcut44
               have ak := Z0.mk (show Kd.V k122 122 _ w.heap.size _ (.slice (some ad273) y285.length co26) y285 from Kd.V_mk (by omega) hr44)
               have eG := Z0.mk (show y285.length ≤ co26 from by omega)
               clear hr44 hC44 hroom44 hi044 hsz44
               have eI := Z0.mk bG
               clear bG
               replace q44 := eq_true q44
               have q45 : ((ji20) : Int) ≤ ((a0.length : Int) : Int) := of_decide_eq_true (by assumption)
               obtain ⟨i045, hi045, _, hsz45, _⟩ := info_parts info122
               have hroom45 : a0.length ≤ co26 := (Kd.V_reads' a4.out).2.1
               have hC45 : Kd.F k122 _ _ (some ad273) a0.length a0 := (Kd.V_at (base := w.heap.size) a4.out).2.2
               have q045 : (0 : Int) ≤ ((ji20) : Int) := of_decide_eq_true (by assumption)
               have hcut45 := cut_from (P := Try.prog) 44 122 .i64 Try.underlying44 hi045 3 hsz45 (some ad273) a0.length co26 (ji20) q045 q45
               have hr45 := Kd.F_cut (m := ((ji20) : Int).toNat) (c := co26) hC45 (by omega) hroom45
               obtain ⟨A45, hA45⟩ : ∃ A1, A1 = (if co26 = ((ji20) : Int).toNat then (some ad273) else ((some ad273) : Option Addr).map (·.add (((ji20) : Int).toNat * 3))) := ⟨_, rfl⟩
               obtain ⟨c45, hc45⟩ : ∃ c1, c1 = co26 - ((ji20) : Int).toNat := ⟨_, rfl⟩
               have b9 : y293.length = a0.length - ((ji20) : Int).toNat := (by rw [bK.out, List.length_drop] <;> omega)
               rw [show (a0).drop ((ji20) : Int).toNat = y293 from bK.out.symm] at hr45
               replace hr45 : Kd.F k122 _ _ A45 y293.length y293 := (by rw [hA45]; exact hr45)
               rw [← b9, ← hA45, ← hc45] at hcut45
               have al := Z0.mk (show Kd.V k122 122 _ w.heap.size _ (.slice A45 y293.length c45) y293 from Kd.V_mk (by rw [b9, hc45]; exact Nat.sub_le_sub_right hroom45 _) hr45)
               have eH := Z0.mk (show y293.length ≤ c45 from by rw [b9, hc45]; exact Nat.sub_le_sub_right hroom45 _)
               clear hr45 hC45 hroom45 hi045 hsz45 hc45
               have eJ := Z0.mk b9
               have eK := Z0.mk hA45
               clear b9 hA45
               replace q45 := eq_true q45
               refine start_ (n := 14) (S := fun w' => w'.cell? ⟨a6, 0, none⟩ = some (.slice (some ⟨go16, 0, none⟩) y278.length co36) ∧ w'.cell? ⟨a6, 1, none⟩ = some (.int .i64 aE) ∧ w'.cell? ⟨a6, 2, none⟩ = some (.int .i64 aG) ∧ w'.cell? ⟨a6, 3, none⟩ = some (.slice (some ad273) a0.length co26) ∧ w'.cell? ⟨a6, 4, none⟩ = some (.bool aI)) (ds := [13]) #[false, false, false, false, false, false, false, false, false, false, false, false, false, false] (by kernel_rfl) rfl rfl ⟨(kC a2.out 0).trans rfl, (kC a2.out 1).trans rfl, (kC a2.out 2).trans rfl, (kC a2.out 3).trans rfl, (kC a2.out 4).trans rfl⟩ (fun hHeld => ?_); refine with_tabW hackamoreref28_Finish.tab11 hackamoreref28_Finish.bits11 (fun HT_ HW_ => ?_)
               generalize w42.drew = w43 at a7 a4 aK a2 a5 aA HB ak al hHeld ⊢
               refine pure_ (i := 1) (N := some 45) (v := ?_) (a' := ?_) #[false, true, false, false, false, false, false, false, false, false, false, false, false, false] rfl rfl (any_of HT_.out (by kernel_rfl)) (fun _ _ _ h => h) (Or.inl ⟨by rfl, ?_⟩) ?_ ?_
               rotate_left
               ·intro w'
                go_simp
                with_reducible rfl
               rotate_left
               ·simp only [Act.put, List.setIfInBounds_toArray, List.set_cons_zero, List.set_cons_succ, i64_w, i32_w]
                rfl
               refine pure_ (i := 3) (N := some 47) (v := ?_) (a' := ?_) #[false, true, false, true, false, false, false, false, false, false, false, false, false, false] rfl rfl (any_of HT_.out (by kernel_rfl)) (fun _ _ _ h => h) (Or.inl ⟨by rfl, ?_⟩) ?_ ?_
               rotate_left
               ·intro w'
                go_simp
                with_reducible rfl
               rotate_left
               ·simp only [Act.put, List.setIfInBounds_toArray, List.set_cons_zero, List.set_cons_succ, i64_w, i32_w]
                rfl
               refine pure_ (i := 6) (N := some 50) (v := ?_) (a' := ?_) #[false, true, false, true, false, false, true, false, false, false, false, false, false, false] rfl rfl (any_of HT_.out (by kernel_rfl)) (fun _ _ _ h => h) (Or.inl ⟨by rfl, ?_⟩) ?_ ?_
               rotate_left
               ·intro w'
                go_simp
                with_reducible rfl
               rotate_left
               ·simp only [Act.put, List.setIfInBounds_toArray, List.set_cons_zero, List.set_cons_succ, i64_w, i32_w]
                rfl
               refine pure_ (i := 8) (N := some 52) (v := ?_) (a' := ?_) #[false, true, false, true, false, false, true, false, true, false, false, false, false, false] rfl rfl (any_of HT_.out (by kernel_rfl)) (fun _ _ _ h => h) (Or.inl ⟨by rfl, ?_⟩) ?_ ?_
               rotate_left
               ·intro w'
                go_simp
                with_reducible rfl
               rotate_left
               ·simp only [Act.put, List.setIfInBounds_toArray, List.set_cons_zero, List.set_cons_succ, i64_w, i32_w]
                rfl
               refine pure_ (i := 9) (N := some 53) (v := ?_) (a' := ?_) #[false, true, false, true, false, false, true, false, true, true, false, false, false, false] rfl rfl (any_of HT_.out (by kernel_rfl)) (fun _ _ _ h => h) (Or.inl ⟨by rfl, ?_⟩) ?_ ?_
               rotate_left
               ·intro w'
                go_simp
                with_reducible rfl
               rotate_left
               ·simp only [Act.put, List.setIfInBounds_toArray, List.set_cons_zero, List.set_cons_succ, i64_w, i32_w]
                rfl
               refine take_ (i := 2) (N := some 46) (v := ?_) (a' := ?_) #[false, true, true, true, false, false, true, false, true, true, false, false, false, false] rfl rfl (take_ofW HT_.out HW_.out (by kernel_rfl)) (fun _ _ _ h => h) (Or.inl ⟨by rfl, ?_⟩) hHeld ?_ ?_
               rotate_left
               ·rintro w' ⟨s0, s1, s2, s3, s4⟩
                go_simp
                with_reducible rfl
               rotate_left
               ·simp only [Act.put, List.setIfInBounds_toArray, List.set_cons_zero, List.set_cons_succ, i64_w, i32_w]
                rfl
               refine pure_ (i := 4) (N := some 48) (v := ?_) (a' := ?_) #[false, true, true, true, true, false, true, false, true, true, false, false, false, false] rfl rfl (any_of HT_.out (by kernel_rfl)) (fun _ _ _ h => h) (Or.inl ⟨by rfl, ?_⟩) ?_ ?_
               rotate_left
               ·intro w'
                go_simp
                with_reducible rfl
               rotate_left
               ·simp only [Act.put, List.setIfInBounds_toArray, List.set_cons_zero, List.set_cons_succ, i64_w, i32_w]
                rfl
               refine take_ (i := 7) (N := some 51) (v := ?_) (a' := ?_) #[false, true, true, true, true, false, true, true, true, true, false, false, false, false] rfl rfl (take_ofW HT_.out HW_.out (by kernel_rfl)) (fun _ _ _ h => h) (Or.inl ⟨by rfl, ?_⟩) hHeld ?_ ?_
               rotate_left
               ·rintro w' ⟨s0, s1, s2, s3, s4⟩
                go_simp
                with_reducible rfl
               rotate_left
               ·simp only [Act.put, List.setIfInBounds_toArray, List.set_cons_zero, List.set_cons_succ, i64_w, i32_w]
                rfl
               refine pure_ (i := 10) (N := some 54) (v := ?_) (a' := ?_) #[false, true, true, true, true, false, true, true, true, true, true, false, false, false] rfl rfl (any_of HT_.out (by kernel_rfl)) (fun _ _ _ h => h) (Or.inl ⟨by rfl, ?_⟩) ?_ ?_
               rotate_left
               ·intro w'
                go_simp
                with_reducible rfl
               rotate_left
               ·simp only [Act.put, List.setIfInBounds_toArray, List.set_cons_zero, List.set_cons_succ, i64_w, i32_w]
                rfl
               refine one_ (i := 0) (N := some 44) #[true, true, true, true, true, false, true, true, true, true, true, false, false, false] rfl rfl (one_of HT_.out (by kernel_rfl)) (by decide) (fun K hK => ?_)
               refine Kd.R_lit_step k122 _ 122 ?hg (N := 44) ?hd (xs := ([] : List (S122))) (inner := []) (ok := fun _ => True) (okp := fun _ => True) ?hr ?hp (fun _ hk => hk) trivial (Below.refl _ _) (Nat.le_refl _) (by simp) ?_; (case hd => rfl); (case hg => rfl); (case hr => first | (go_simp; done) | (go_simp; rfl)); (case hp => exact (Reps.none _ _))
               intro v283 w46 ho47 hb hg_ hnew_
               clear hg_ hnew_
               (first | rw [← bI.out] at ho47 | (simp only [Int.reduceToNat] at ho47; rw [← bI.out] at ho47))
               have aM := Z0.mk (Kd.V_elder' (by (with_reducible repeat (first | apply Kd.V_alloc | apply Kd.V_drewN | apply Kd.V_drew)); exact a7.out) (Kd.R_base ho47) hb)
               have aN := Z0.mk (Kd.V_elder' (by (with_reducible repeat (first | apply Kd.V_alloc | apply Kd.V_drewN | apply Kd.V_drew)); exact a4.out) (Kd.R_base ho47) hb)
               have aP := Z0.mk (Kd.R_below (by (with_reducible repeat (first | apply Kd.R_alloc | apply Kd.R_drewN | apply Kd.R_drew)); exact aK.out) hb)
               have aQ := Z0.mk (Kd.V_elder' (by (with_reducible repeat (first | apply Kd.V_alloc | apply Kd.V_drewN | apply Kd.V_drew)); exact ak.out) (Kd.R_base ho47) hb)
               have aH := Z0.mk (Kd.V_elder' (by (with_reducible repeat (first | apply Kd.V_alloc | apply Kd.V_drewN | apply Kd.V_drew)); exact al.out) (Kd.R_base ho47) hb)
               have aT := Z0.mk (Kd.R_lower (Kd.R_newB (Kd.R_newM (M := fun k_ => (w.heap.size ≤ k_)) ho47 (bZ (by repeat (first | (with_reducible first | apply bA | apply bN | apply bD | refine bS ?_ aC.out | refine bS ?_ aJ.out | refine bS ?_ aa.out) | exact HB.out))) (fun k_ h_ => h_)) (g := a9) (o := .cells #[.int .i64 ((rZ2 a0 a3).f0), .int .i64 ((rZ2 a0 a3).f1), .int .i64 ((rZ2 a0 a3).f2)] 122 (0, 0)) (by (with_reducible repeat first | apply kN | apply kD | apply kA); exact aA.out)) (bZ (by repeat (first | (with_reducible first | apply bA | apply bN | apply bD | refine bS ?_ aC.out | refine bS ?_ aJ.out | refine bS ?_ aa.out) | exact HB.out))))
               have aY := Z0.mk (kB (by (with_reducible repeat first | apply kN | apply kD | apply kA); exact a2.out) hb)
               have ai := Z0.mk (kB (by (with_reducible repeat first | apply kN | apply kD | apply kA); exact a5.out) hb)
               have aj := Z0.mk (kB (by (with_reducible repeat first | apply kN | apply kD | apply kA); exact aA.out) hb)
               have an := Z0.mk (bP (by repeat (first | (with_reducible first | apply bA | apply bN | apply bD | refine bS ?_ aC.out | refine bS ?_ aJ.out | refine bS ?_ aa.out) | exact HB.out)) hb)
               clear a7
               clear a4
               clear aK
               clear ak
               clear al
               clear a2
               clear a5
               clear aA
               clear HB
               have a7 := aM
               have a4 := aN
               have aK := aP
               have ak := aQ
               have al := aH
               have av := aT
               have a2 := aY
               have a5 := ai
               have aA := aj
               have HB := an
               clear aM aN aP aQ aH aT aY ai aj an
               clear hb ho47
               refine hK.out _ _ ⟨(kC a2.out 0).trans rfl, (kC a2.out 1).trans rfl, (kC a2.out 2).trans rfl, (kC a2.out 3).trans rfl, (kC a2.out 4).trans rfl⟩ (fun hHeld => ?_)
               clear hK K
               refine norm_ (a' := ?_) ?_ ?_
               rotate_left
               ·show Act.put _ (some 44) _ = _
                simp only [Act.put, List.setIfInBounds_toArray, List.set_cons_zero, List.set_cons_succ, i64_w, i32_w]
                rfl
               refine one_ (i := 5) (N := some 49) #[true, true, true, true, true, true, true, true, true, true, true, false, false, false] rfl rfl (one_of HT_.out (by kernel_rfl)) (by decide) (fun K hK => ?_)
               refine Kd.R_append_rows_step k122 (w0 := w) w.heap.size (by rfl) (.tmp 44) (.tmp 48) 44 122 (.agg #[(.int .i64 0), (.int .i64 0), (.int .i64 0)]) 24 rfl Try.underlying44 info122 rfl (by decide) (by omega) v283 y282 y285 _ _ _ (fun k_ => (w.heap.size ≤ k_) ∧ k_ ≠ a9) (fun _ => False) rfl rfl ?aO ?aR (fun _ _ h => h) (fun _ h => h.elim) ?aF ?aB ?aS ?aL ?_
               (case aR => repeat (first | exact (Kd.V_reads' ak.out).2.2 | (with_reducible refine Kd.C_alloc ?_ _) | (with_reducible refine Kd.C_drewN ?_ _) | (with_reducible refine Kd.C_drew ?_)))
               (case aB => exact (by repeat (first | (with_reducible first | apply bA | apply bN | apply bD | refine bS ?_ aC.out | refine bS ?_ aJ.out | refine bS ?_ aa.out) | exact HB.out)))
               (case aF => exact (fun k_ hk => ⟨(Nat.le_trans (bZ (by repeat (first | (with_reducible first | apply bA | apply bN | apply bD | refine bS ?_ aC.out | refine bS ?_ aJ.out | refine bS ?_ aa.out) | exact HB.out))) hk), Kd.freshB (g := a9) (o := .cells #[.int .i64 ((rZ2 a0 a3).f0), .int .i64 ((rZ2 a0 a3).f1), .int .i64 ((rZ2 a0 a3).f2)] 122 (0, 0)) (by (with_reducible repeat first | apply kN | apply kD | apply kA); exact aA.out) k_ hk⟩))
               (case aO => exact (by (with_reducible repeat (first | apply Kd.R_alloc | apply Kd.R_drewN | apply Kd.R_drew)); exact Kd.R_mono av.out (fun _ hk => ⟨hk.1.1, hk.2⟩)))
               (case aS => exact (bZ (by repeat (first | (with_reducible first | apply bA | apply bN | apply bD | refine bS ?_ aC.out | refine bS ?_ aJ.out | refine bS ?_ aa.out) | exact HB.out))))
               (case aL => have := bo.out; omega)
               intro v291 w48 ho hb hg hat
               rw [← bp.out] at ho
               have aM := Z0.mk (Kd.V_afterv (ok := (fun k_ => ((P0_0_ k_ ∨ P0_3_ k_) ∨ w.heap.size ≤ k_) ∧ some k_ ≠ (.slice (some ⟨go16, 0, none⟩) y278.length co36 : Value).ownBlock ∧ k_ ≠ a6 ∧ k_ ≠ a8 ∧ k_ ≠ a9)) (by (with_reducible repeat (first | apply Kd.V_alloc | apply Kd.V_drewN | apply Kd.V_drew)); exact Kd.V_mono a7.out (fun _ hk => ⟨⟨hk.1.1.1, ⟨hk.1.2, ⟨hk.1.1.2.1, ⟨hk.1.1.2.2.1, hk.1.1.2.2.2⟩⟩⟩⟩, hk.2⟩)) hg hat)
               have aN := Z0.mk (Kd.V_afterv (ok := (fun k_ => ((P0_0_ k_ ∨ P0_3_ k_) ∨ w.heap.size ≤ k_) ∧ some k_ ≠ (.slice (some ⟨go16, 0, none⟩) y278.length co36 : Value).ownBlock ∧ k_ ≠ a6 ∧ k_ ≠ a8 ∧ k_ ≠ a9)) (by (with_reducible repeat (first | apply Kd.V_alloc | apply Kd.V_drewN | apply Kd.V_drew)); exact Kd.V_mono a4.out (fun _ hk => ⟨⟨hk.1.1.1, ⟨hk.1.2, ⟨hk.1.1.2.1, ⟨hk.1.1.2.2.1, hk.1.1.2.2.2⟩⟩⟩⟩, hk.2⟩)) hg hat)
               have aP := Z0.mk (blk_grown (by (with_reducible repeat first | apply kN | apply kD | apply kA); exact a2.out) hg (Kd.R_ne av.out a2.out (by decide)))
               have aQ := Z0.mk (blk_grown (by (with_reducible repeat first | apply kN | apply kD | apply kA); exact a5.out) hg (Kd.R_ne av.out a5.out (by decide)))
               have aH := Z0.mk (blk_grown (by (with_reducible repeat first | apply kN | apply kD | apply kA); exact aA.out) hg (Kd.R_away av.out (fun _ hk => hk.2)))
               have aT := Z0.mk (Kd.R_over' (by (with_reducible repeat (first | apply Kd.R_alloc | apply Kd.R_drewN | apply Kd.R_drew)); exact aK.out) (Kd.R_typed (by (with_reducible repeat (first | apply Kd.R_alloc | apply Kd.R_drewN | apply Kd.R_drew)); exact av.out)) (by decide) hg)
               have aY := Z0.mk (Kd.V_afterv (ok := (fun k_ => ((P0_0_ k_ ∨ P0_3_ k_) ∨ w.heap.size ≤ k_) ∧ some k_ ≠ (.slice (some ⟨go16, 0, none⟩) y278.length co36 : Value).ownBlock ∧ k_ ≠ a6 ∧ k_ ≠ a8 ∧ k_ ≠ a9)) (by (with_reducible repeat (first | apply Kd.V_alloc | apply Kd.V_drewN | apply Kd.V_drew)); exact Kd.V_mono ak.out (fun _ hk => ⟨⟨hk.1.1.1, ⟨hk.1.2, ⟨hk.1.1.2.1, ⟨hk.1.1.2.2.1, hk.1.1.2.2.2⟩⟩⟩⟩, hk.2⟩)) hg hat)
               have ai := Z0.mk (Kd.V_afterv (ok := (fun k_ => ((P0_0_ k_ ∨ P0_3_ k_) ∨ w.heap.size ≤ k_) ∧ some k_ ≠ (.slice (some ⟨go16, 0, none⟩) y278.length co36 : Value).ownBlock ∧ k_ ≠ a6 ∧ k_ ≠ a8 ∧ k_ ≠ a9)) (by (with_reducible repeat (first | apply Kd.V_alloc | apply Kd.V_drewN | apply Kd.V_drew)); exact Kd.V_mono al.out (fun _ hk => ⟨⟨hk.1.1.1, ⟨hk.1.2, ⟨hk.1.1.2.1, ⟨hk.1.1.2.2.1, hk.1.1.2.2.2⟩⟩⟩⟩, hk.2⟩)) hg hat)
               have aj := Z0.mk (hb)
               have an := Z0.mk (ho)
               clear a7
               clear a4
               clear a2
               clear a5
               clear aA
               clear aK
               clear ak
               clear al
               clear HB
               clear av
               have a7 := aM
               have a4 := aN
               have a2 := aP
               have a5 := aQ
               have aA := aH
               have aK := aT
               have ak := aY
               have al := ai
               have HB := aj
               have aw := an
               clear aM aN aP aQ aH aT aY ai aj an
               clear ho hb hg hat
               refine hK.out _ _ ⟨(kC a2.out 0).trans rfl, (kC a2.out 1).trans rfl, (kC a2.out 2).trans rfl, (kC a2.out 3).trans rfl, (kC a2.out 4).trans rfl⟩ (fun hHeld => ?_)
               clear hK K
               refine norm_ (a' := ?_) ?_ ?_
               rotate_left
               ·show Act.put _ (some 49) _ = _
                simp only [Act.put, List.setIfInBounds_toArray, List.set_cons_zero, List.set_cons_succ, i64_w, i32_w]
                rfl
               refine one_ (i := 11) (N := some 55) #[true, true, true, true, true, true, true, true, true, true, true, true, false, false] rfl rfl (one_of HT_.out (by kernel_rfl)) (by decide) (fun K hK => ?_)
               refine Kd.R_append_rows_step k122 (w0 := w) w.heap.size (by rfl) (.tmp 49) (.tmp 54) 44 122 (.agg #[(.int .i64 0), (.int .i64 0), (.int .i64 0)]) 24 rfl Try.underlying44 info122 rfl (by decide) (by omega) v291 y290 y293 _ _ _ (fun k_ => (w.heap.size ≤ k_) ∧ k_ ≠ a9) (fun _ => False) rfl rfl ?aO ?aR (fun _ _ h => h) (fun _ h => h.elim) ?aF ?aB ?aS ?aL ?_
               (case aR => repeat (first | exact (Kd.V_reads' al.out).2.2 | (with_reducible refine Kd.C_alloc ?_ _) | (with_reducible refine Kd.C_drewN ?_ _) | (with_reducible refine Kd.C_drew ?_)))
               (case aB => exact (by repeat (first | (with_reducible first | apply bA | apply bN | apply bD | refine bS ?_ aC.out | refine bS ?_ aJ.out | refine bS ?_ aa.out) | exact HB.out)))
               (case aF => exact (fun k_ hk => ⟨(Nat.le_trans (bZ (by repeat (first | (with_reducible first | apply bA | apply bN | apply bD | refine bS ?_ aC.out | refine bS ?_ aJ.out | refine bS ?_ aa.out) | exact HB.out))) hk), Kd.freshB (g := a9) (o := .cells #[.int .i64 ((rZ2 a0 a3).f0), .int .i64 ((rZ2 a0 a3).f1), .int .i64 ((rZ2 a0 a3).f2)] 122 (0, 0)) (by (with_reducible repeat first | apply kN | apply kD | apply kA); exact aA.out) k_ hk⟩))
               (case aO => exact (by (with_reducible repeat (first | apply Kd.R_alloc | apply Kd.R_drewN | apply Kd.R_drew)); exact aw.out))
               (case aS => exact (bZ (by repeat (first | (with_reducible first | apply bA | apply bN | apply bD | refine bS ?_ aC.out | refine bS ?_ aJ.out | refine bS ?_ aa.out) | exact HB.out))))
               (case aL => have := bq.out; omega)
               intro v299 w49 ho hb hg hat
               rw [← br.out] at ho
               have aM := Z0.mk (Kd.V_afterv (ok := (fun k_ => ((P0_0_ k_ ∨ P0_3_ k_) ∨ w.heap.size ≤ k_) ∧ some k_ ≠ (.slice (some ⟨go16, 0, none⟩) y278.length co36 : Value).ownBlock ∧ k_ ≠ a6 ∧ k_ ≠ a8 ∧ k_ ≠ a9)) (by (with_reducible repeat (first | apply Kd.V_alloc | apply Kd.V_drewN | apply Kd.V_drew)); exact a7.out) hg hat)
               have aN := Z0.mk (Kd.V_afterv (ok := (fun k_ => ((P0_0_ k_ ∨ P0_3_ k_) ∨ w.heap.size ≤ k_) ∧ some k_ ≠ (.slice (some ⟨go16, 0, none⟩) y278.length co36 : Value).ownBlock ∧ k_ ≠ a6 ∧ k_ ≠ a8 ∧ k_ ≠ a9)) (by (with_reducible repeat (first | apply Kd.V_alloc | apply Kd.V_drewN | apply Kd.V_drew)); exact a4.out) hg hat)
               have aP := Z0.mk (blk_grown (by (with_reducible repeat first | apply kN | apply kD | apply kA); exact a2.out) hg (Kd.R_ne aw.out a2.out (by decide)))
               have aQ := Z0.mk (blk_grown (by (with_reducible repeat first | apply kN | apply kD | apply kA); exact a5.out) hg (Kd.R_ne aw.out a5.out (by decide)))
               have aH := Z0.mk (blk_grown (by (with_reducible repeat first | apply kN | apply kD | apply kA); exact aA.out) hg (Kd.R_away aw.out (fun _ hk => hk.2)))
               have aT := Z0.mk (Kd.R_over' (by (with_reducible repeat (first | apply Kd.R_alloc | apply Kd.R_drewN | apply Kd.R_drew)); exact aK.out) (Kd.R_typed (by (with_reducible repeat (first | apply Kd.R_alloc | apply Kd.R_drewN | apply Kd.R_drew)); exact aw.out)) (by decide) hg)
               have aY := Z0.mk (Kd.V_afterv (ok := (fun k_ => ((P0_0_ k_ ∨ P0_3_ k_) ∨ w.heap.size ≤ k_) ∧ some k_ ≠ (.slice (some ⟨go16, 0, none⟩) y278.length co36 : Value).ownBlock ∧ k_ ≠ a6 ∧ k_ ≠ a8 ∧ k_ ≠ a9)) (by (with_reducible repeat (first | apply Kd.V_alloc | apply Kd.V_drewN | apply Kd.V_drew)); exact ak.out) hg hat)
               have ai := Z0.mk (Kd.V_afterv (ok := (fun k_ => ((P0_0_ k_ ∨ P0_3_ k_) ∨ w.heap.size ≤ k_) ∧ some k_ ≠ (.slice (some ⟨go16, 0, none⟩) y278.length co36 : Value).ownBlock ∧ k_ ≠ a6 ∧ k_ ≠ a8 ∧ k_ ≠ a9)) (by (with_reducible repeat (first | apply Kd.V_alloc | apply Kd.V_drewN | apply Kd.V_drew)); exact al.out) hg hat)
               have aj := Z0.mk (hb)
               have an := Z0.mk (ho)
               clear a7
               clear a4
               clear a2
               clear a5
               clear aA
               clear aK
               clear ak
               clear al
               clear HB
               clear aw
               have a7 := aM
               have a4 := aN
               have a2 := aP
               have a5 := aQ
               have aA := aH
               have aK := aT
               have ak := aY
               have al := ai
               have HB := aj
               have bL := an
               clear aM aN aP aQ aH aT aY ai aj an
               clear ho hb hg hat
               obtain ⟨Ao50, co50, eo50⟩ := Kd.R_slice bL.out
               (first | subst eo50 | (injection eo50 with f1_ f2_ f3_; have f4_ := f1_.symm; have f5_ := f3_.symm; clear f1_ f2_ f3_; subst f4_; subst f5_))
               refine hK.out _ _ ⟨(kC a2.out 0).trans rfl, (kC a2.out 1).trans rfl, (kC a2.out 2).trans rfl, (kC a2.out 3).trans rfl, (kC a2.out 4).trans rfl⟩ (fun hHeld => ?_)
               clear hK K
               refine norm_ (a' := ?_) ?_ ?_
               rotate_left
               ·show Act.put _ (some 55) _ = _
                simp only [Act.put, List.setIfInBounds_toArray, List.set_cons_zero, List.set_cons_succ, i64_w, i32_w]
                rfl
               refine pure_ (i := 12) (N := some 56) (v := ?_) (a' := ?_) #[true, true, true, true, true, true, true, true, true, true, true, true, true, false] rfl rfl (any_of HT_.out (by kernel_rfl)) (fun _ _ _ h => h) (Or.inl ⟨by rfl, ?_⟩) ?_ ?_
               rotate_left
               ·intro w'
                go_simp
                with_reducible rfl
               rotate_left
               ·simp only [Act.put, List.setIfInBounds_toArray, List.set_cons_zero, List.set_cons_succ, i64_w, i32_w]
                rfl
               refine last_ (i := 13) (N := none) #[true, true, true, true, true, true, true, true, true, true, true, true, true, true] rfl rfl (one_of HT_.out (by kernel_rfl)) (by decide) (fun K hK => ?_)
               have hs51 : w49.cell? ⟨a6, 3, none⟩ = some (.slice (some ad273) a0.length co26) := (kC a2.out 3).trans rfl
               have hfs51 := kF a2.out 3
               have cp := ad.out
               have cq := am.out
               have cr := ah.out
               have ct := ab.out
               refine skip_ (w1 := ?_) (by rfl) rfl ?_ ?_
               rotate_left
               ·go_simp
                rfl
               refine hK.out _ _ ?_
               clear hK K
               refine done_ (done_of HT_.out (by kernel_rfl)) ?_
               have cu : w49.cell? ⟨a6, 0, none⟩ = some (.slice (some ⟨go16, 0, none⟩) y278.length co36) := (kC a2.out 0).trans rfl
               have cv : w49.cell? ⟨a6, 1, none⟩ = some (.int .i64 aE) := (kC a2.out 1).trans rfl
               have cw : w49.cell? ⟨a6, 2, none⟩ = some (.int .i64 aG) := (kC a2.out 2).trans rfl
               have cx : w49.cell? ⟨a6, 3, none⟩ = some (.slice (some ad273) a0.length co26) := (kC a2.out 3).trans rfl
               have cy : w49.cell? ⟨a6, 4, none⟩ = some (.bool aI) := (kC a2.out 4).trans rfl
               have cz := kF a2.out 0
               have d0 := kF a2.out 1
               have d1 := kF a2.out 2
               have d2 := kF a2.out 3
               have d3 := kF a2.out 4
               have d4 : w49.cell? ⟨a8, 0, none⟩ = some (.slice none 0 0) := (kC a5.out 0).trans rfl
               have d5 : w49.cell? ⟨a8, 1, none⟩ = some (.int .i64 aZ) := (kC a5.out 1).trans rfl
               have d6 : w49.cell? ⟨a8, 2, none⟩ = some (.int .i64 aU) := (kC a5.out 2).trans rfl
               have d7 : w49.cell? ⟨a8, 3, none⟩ = some (.slice none 0 0) := (kC a5.out 3).trans rfl
               have d8 : w49.cell? ⟨a8, 4, none⟩ = some (.bool aD) := (kC a5.out 4).trans rfl
               have d9 := kF a5.out 0
               have dA := kF a5.out 1
               have dB := kF a5.out 2
               have dC := kF a5.out 3
               have dD := kF a5.out 4
               try go_wp2
               refine bodyPost_ret (results_ct rfl _ _ a8 46 #[.slice (some ⟨go16, 0, none⟩) y278.length co36, .int .i64 aE, .int .i64 aG, .slice Ao50 y298.length co50, .bool aI] (0, 0) _ rfl (by (with_reducible repeat first | apply kN | apply kD | apply kA); refine blk_put (cs := #[.slice (some ⟨go16, 0, none⟩) y278.length co36, .int .i64 aE, .int .i64 aG, .slice Ao50 y298.length co50, .bool aD]) ?_ 4 _ rfl; (with_reducible repeat first | apply kN | apply kD | apply kA); refine blk_put (cs := #[.slice (some ⟨go16, 0, none⟩) y278.length co36, .int .i64 aE, .int .i64 aG, .slice none 0 0, .bool aD]) ?_ 3 _ rfl; (with_reducible repeat first | apply kN | apply kD | apply kA); refine blk_put (cs := #[.slice (some ⟨go16, 0, none⟩) y278.length co36, .int .i64 aE, .int .i64 aU, .slice none 0 0, .bool aD]) ?_ 2 _ rfl; (with_reducible repeat first | apply kN | apply kD | apply kA); refine blk_put (cs := #[.slice (some ⟨go16, 0, none⟩) y278.length co36, .int .i64 aZ, .int .i64 aU, .slice none 0 0, .bool aD]) ?_ 1 _ rfl; (with_reducible repeat first | apply kN | apply kD | apply kA); refine blk_put (cs := #[.slice none 0 0, .int .i64 aZ, .int .i64 aU, .slice none 0 0, .bool aD]) ?_ 0 _ rfl; (with_reducible repeat first | apply kN | apply kD | apply kA); refine blk_far ?_ ad.out _; (with_reducible repeat first | apply kN | apply kD | apply kA); exact a5.out) Try.underlying46 rfl (by kernel_rfl)) rfl ?_
               exact ⟨_, _, by first | rfl | (simp [errW_none, errW_some] <;> rfl) | (simp only [← hji20]; first | rfl | (simp [errW_none, errW_some] <;> rfl)) | (simp [*, errW_none, errW_some] <;> rfl), by (with_reducible repeat (first | apply Kd.R_alloc | apply Kd.R_drewN | apply Kd.R_drew)); exact Kd.R_mono (Kd.R_far (p := ⟨a8, 4, none⟩) (Kd.R_far (p := ⟨a8, 3, none⟩) (Kd.R_far (p := ⟨a8, 2, none⟩) (Kd.R_far (p := ⟨a8, 1, none⟩) (Kd.R_far (p := ⟨a8, 0, none⟩) (Kd.R_far (p := ⟨a6, 3, none⟩) (Kd.R_types (Kd.R_types aK.out a2.out (by decide)) a5.out (by decide)) (fun _ hk => hk.1.2) (.slice Ao50 y298.length co50)) (fun _ hk => hk.2) (.slice (some ⟨go16, 0, none⟩) y278.length co36)) (fun _ hk => hk.2) (.int .i64 aE)) (fun _ hk => hk.2) (.int .i64 aG)) (fun _ hk => hk.2) (.slice Ao50 y298.length co50)) (fun _ hk => hk.2) (.bool aI)) (fun _ hk => hk.1.1), by (with_reducible repeat (first | apply Kd.R_alloc | apply Kd.R_drewN | apply Kd.R_drew)); exact Kd.R_mono (Kd.R_far (p := ⟨a8, 4, none⟩) (Kd.R_far (p := ⟨a8, 3, none⟩) (Kd.R_far (p := ⟨a8, 2, none⟩) (Kd.R_far (p := ⟨a8, 1, none⟩) (Kd.R_far (p := ⟨a8, 0, none⟩) (Kd.R_far (p := ⟨a6, 3, none⟩) (Kd.R_types (Kd.R_types bL.out a2.out (by decide)) a5.out (by decide)) (fun _ hk => hk.1.2) (.slice Ao50 y298.length co50)) (fun _ hk => hk.2) (.slice (some ⟨go16, 0, none⟩) y278.length co36)) (fun _ hk => hk.2) (.int .i64 aE)) (fun _ hk => hk.2) (.int .i64 aG)) (fun _ hk => hk.2) (.slice Ao50 y298.length co50)) (fun _ hk => hk.2) (.bool aI)) (fun _ hk => hk.1.1.1), by repeat (first | (with_reducible first | apply bA | apply bN | apply bD | refine bS ?_ aC.out | refine bS ?_ aJ.out | refine bS ?_ aa.out) | exact HB.out)⟩
              ·rw [if_neg c23] at H
               exact absurd H (by simp)
             ·rw [if_neg c22] at H
              exact absurd H (by simp)
            ·rw [if_neg c21] at H
             exact absurd H (by simp)
           ·rw [if_neg c19] at H
            exact absurd H (by simp)
          ·rw [if_neg c18] at H
           exact absurd H (by simp)
         ·rw [if_neg c15] at H
          exact absurd H (by simp)
        ·rw [if_neg c14] at H
         exact absurd H (by simp)
       ·rw [if_neg c13] at H
        exact absurd H (by simp)
      ·rw [if_neg c12] at H
       have c12b0 : (((rZ2 a0 a3).f0) == a1) = false := beq_eq_false_iff_ne.mpr c12
       have c12b1 : (((rZ2 a0 a3).f0) != a1) = true := bne_iff_ne.mpr c12
       have H' := Z0.mk H
       clear H
       have hnb54 := ah.out
       have hnc54 := ad.out
       have dE : wr.cell? ⟨a6, 0, none⟩ = some (u271000) := (kC a2.out 0).trans rfl
       have dF : wr.cell? ⟨a6, 1, none⟩ = some (.int .i64 aE) := (kC a2.out 1).trans rfl
       have dG : wr.cell? ⟨a6, 2, none⟩ = some (.int .i64 aG) := (kC a2.out 2).trans rfl
       have dH : wr.cell? ⟨a6, 3, none⟩ = some (u271003) := (kC a2.out 3).trans rfl
       have dI : wr.cell? ⟨a6, 4, none⟩ = some (.bool aI) := (kC a2.out 4).trans rfl
       have dJ := kF a2.out 0
       have dK := kF a2.out 1
       have dL := kF a2.out 2
       have dM := kF a2.out 3
       have dN := kF a2.out 4
       obtain ⟨Ao56, co56, eo56⟩ := Kd.V_slice a4.out
       subst eo56
       have p273 : 0 ≤ (a3 : Int) := of_decide_eq_true (by assumption)
       have q273 : a3 < (a0.length : Int) := of_decide_eq_true (by assumption)
       obtain ⟨ad273, e273, bM, bO, bQ⟩ := at_T122 (Kd.V_reads' a4.out).2.2 a3 p273 q273
       cases e273
       replace p273 := eq_true p273
       replace q273 := eq_true q273
       go_wp2_with (first | ((with_reducible refine gate_dst (N := 8) rfl ?_); refine box_event ?hg (N := 8) ?hd (cs := #[.int .i64 0, .int .i64 0, .int .i64 0]) (t := 122) ?hr ?_; (case hd => rfl); (case hg => rfl); (case hr => first | (go_simp; done) | (go_simp; rfl)); intro a9 hg w57 hbox hb; have aM := Z0.mk (Kd.V_below (Kd.V_elderB (by (with_reducible repeat (first | apply Kd.V_alloc | apply Kd.V_drewN | apply Kd.V_drew)); exact a7.out) a9 (Nat.le_of_eq hg.symm)) hb); have aN := Z0.mk (Kd.V_below (Kd.V_elderB (by (with_reducible repeat (first | apply Kd.V_alloc | apply Kd.V_drewN | apply Kd.V_drew)); exact a4.out) a9 (Nat.le_of_eq hg.symm)) hb); have aP := Z0.mk (kB (by (with_reducible repeat first | apply kN | apply kD | apply kA); exact a2.out) hb); have aQ := Z0.mk (kB (by (with_reducible repeat first | apply kN | apply kD | apply kA); exact a5.out) hb); have aH := Z0.mk (bP (by repeat (first | (with_reducible first | apply bA | apply bN | apply bD | refine bS ?_ aC.out | refine bS ?_ aJ.out) | exact HB.out)) hb); have aT := Z0.mk (hbox); have aY := Z0.mk ((by rw [hg]; exact (bZ (by repeat (first | (with_reducible first | apply bA | apply bN | apply bD | refine bS ?_ aC.out | refine bS ?_ aJ.out) | exact HB.out))) : w.heap.size ≤ a9)); have ai := aY; have aj := Z0.mk ((by rw [hg]; exact Nat.ne_of_lt (blk_lt (by (with_reducible repeat first | apply kN | apply kD | apply kA); exact a2.out)) : a6 ≠ a9)); have an := Z0.mk (Ne.symm aj.out); have ax := Z0.mk ((by rw [hg]; exact Nat.ne_of_lt (blk_lt (by (with_reducible repeat first | apply kN | apply kD | apply kA); exact a5.out)) : a8 ≠ a9)); have b8 := Z0.mk (Ne.symm ax.out); clear a7 a4 a2 a5 HB; have a7 := aM; have a4 := aN; have a2 := aP; have a5 := aQ; have HB := aH; have aA := aT; have bs := aY; have aa := ai; have ab := aj; have am := an; have ae := ax; have au := b8; clear aM aN aP aQ aH aT aY ai aj an ax b8 hb hbox hg; have hnb58 := am.out; have hnc58 := ab.out; have hnb59 := au.out; have hnc59 := ae.out; obtain ⟨dO, dP, dQ, dR, dS, dT⟩ := kc3 aA.out))
       go_roundg k1
       case measure => have := HK1.out; omega
       case rel => exact ⟨(wrap64 (a3 + 1)), (aX), (a0), (aZ), (aU), (aD), (u271000), (.slice (some ad273) a0.length co56), (by first | rfl | (simp; done) | (simp [*]; done)), H', ⟨by have := HK1.out; omega⟩, ⟨by (with_reducible repeat (first | apply Kd.V_alloc | apply Kd.V_drewN | apply Kd.V_drew)); exact Kd.V_mono (Kd.V_far (p := ⟨a9, 2, none⟩) (Kd.V_far (p := ⟨a9, 1, none⟩) (Kd.V_far (p := ⟨a9, 0, none⟩) (Kd.V_mono a7.out (fun k_ hk => (⟨hk, hk.2⟩ : _ ∧ k_ ≠ a9))) (fun _ hk => hk.2) (.int .i64 ((rZ2 a0 a3).f0))) (fun _ hk => hk.2) (.int .i64 ((rZ2 a0 a3).f1))) (fun _ hk => hk.2) (.int .i64 ((rZ2 a0 a3).f2))) (fun _ hk => ⟨hk.1.1.1, ⟨hk.1.1.2.1, hk.1.1.2.2⟩⟩)⟩, ⟨by (with_reducible repeat (first | apply Kd.V_alloc | apply Kd.V_drewN | apply Kd.V_drew)); exact Kd.V_mono (Kd.V_far (p := ⟨a9, 2, none⟩) (Kd.V_far (p := ⟨a9, 1, none⟩) (Kd.V_far (p := ⟨a9, 0, none⟩) (Kd.V_mono a4.out (fun k_ hk => (⟨hk, hk.2⟩ : _ ∧ k_ ≠ a9))) (fun _ hk => hk.2) (.int .i64 ((rZ2 a0 a3).f0))) (fun _ hk => hk.2) (.int .i64 ((rZ2 a0 a3).f1))) (fun _ hk => hk.2) (.int .i64 ((rZ2 a0 a3).f2))) (fun _ hk => ⟨hk.1.1.1, ⟨hk.1.1.2.1, hk.1.1.2.2⟩⟩)⟩, ⟨by (with_reducible repeat first | apply kN | apply kD | apply kA); refine blk_far ?_ ab.out _; (with_reducible repeat first | apply kN | apply kD | apply kA); refine blk_far ?_ ab.out _; (with_reducible repeat first | apply kN | apply kD | apply kA); refine blk_far ?_ ab.out _; (with_reducible repeat first | apply kN | apply kD | apply kA); exact a2.out⟩, ⟨by (with_reducible repeat first | apply kN | apply kD | apply kA); refine blk_far ?_ ae.out _; (with_reducible repeat first | apply kN | apply kD | apply kA); refine blk_far ?_ ae.out _; (with_reducible repeat first | apply kN | apply kD | apply kA); refine blk_far ?_ ae.out _; (with_reducible repeat first | apply kN | apply kD | apply kA); exact a5.out⟩, ⟨by repeat (first | (with_reducible first | apply bA | apply bN | apply bD | refine bS ?_ aC.out | refine bS ?_ aJ.out | refine bS ?_ aa.out) | exact HB.out)⟩⟩
     ·rw [if_neg c11] at H
      exact absurd H (by simp)
    ·rw [if_neg c10] at H
     have c10b0 : decide (a3 < (a0.length : Int)) = false := decide_eq_false c10
     clear c10
     simp only [Option.some.injEq, Prod.mk.injEq] at H
     obtain ⟨rfl, rfl, rfl, rfl, rfl, rfl⟩ := H
     have hnb61 := ah.out
     have hnc61 := ad.out
     have dU : wr.cell? ⟨a6, 0, none⟩ = some (u271000) := (kC a2.out 0).trans rfl
     have dV : wr.cell? ⟨a6, 1, none⟩ = some (.int .i64 aE) := (kC a2.out 1).trans rfl
     have dW : wr.cell? ⟨a6, 2, none⟩ = some (.int .i64 aG) := (kC a2.out 2).trans rfl
     have dX : wr.cell? ⟨a6, 3, none⟩ = some (u271003) := (kC a2.out 3).trans rfl
     have dY : wr.cell? ⟨a6, 4, none⟩ = some (.bool aI) := (kC a2.out 4).trans rfl
     have dZ := kF a2.out 0
     have da := kF a2.out 1
     have db := kF a2.out 2
     have dc := kF a2.out 3
     have dd := kF a2.out 4
     obtain ⟨Ao63, co63, eo63⟩ := Kd.V_slice a4.out
     subst eo63
     have de : wr.cell? ⟨a8, 0, none⟩ = some (.slice none 0 0) := (kC a5.out 0).trans rfl
     have df : wr.cell? ⟨a8, 1, none⟩ = some (.int .i64 aZ) := (kC a5.out 1).trans rfl
     have dg : wr.cell? ⟨a8, 2, none⟩ = some (.int .i64 aU) := (kC a5.out 2).trans rfl
     have dh : wr.cell? ⟨a8, 3, none⟩ = some (.slice none 0 0) := (kC a5.out 3).trans rfl
     have di : wr.cell? ⟨a8, 4, none⟩ = some (.bool aD) := (kC a5.out 4).trans rfl
     have dj := kF a5.out 0
     have dk := kF a5.out 1
     have dl := kF a5.out 2
     have dm := kF a5.out 3
     have dn := kF a5.out 4
     go_wp2
     refine bodyPost_ret (results_ct rfl _ _ a8 46 #[.slice none 0 0, .int .i64 0, .int .i64 0, .slice none 0 0, .bool false] (0, 0) _ rfl (by (with_reducible repeat first | apply kN | apply kD | apply kA); refine blk_put (cs := #[.slice none 0 0, .int .i64 0, .int .i64 0, .slice none 0 0, .bool aD]) ?_ 4 _ rfl; (with_reducible repeat first | apply kN | apply kD | apply kA); refine blk_put (cs := #[.slice none 0 0, .int .i64 0, .int .i64 0, .slice none 0 0, .bool aD]) ?_ 3 _ rfl; (with_reducible repeat first | apply kN | apply kD | apply kA); refine blk_put (cs := #[.slice none 0 0, .int .i64 0, .int .i64 aU, .slice none 0 0, .bool aD]) ?_ 2 _ rfl; (with_reducible repeat first | apply kN | apply kD | apply kA); refine blk_put (cs := #[.slice none 0 0, .int .i64 aZ, .int .i64 aU, .slice none 0 0, .bool aD]) ?_ 1 _ rfl; (with_reducible repeat first | apply kN | apply kD | apply kA); refine blk_put (cs := #[.slice none 0 0, .int .i64 aZ, .int .i64 aU, .slice none 0 0, .bool aD]) ?_ 0 _ rfl; (with_reducible repeat first | apply kN | apply kD | apply kA); exact a5.out) Try.underlying46 rfl (by kernel_rfl)) rfl ?_
     exact ⟨_, _, by first | rfl | (simp [errW_none, errW_some] <;> rfl) | (simp [*, errW_none, errW_some] <;> rfl), by first | exact Kd.R_nil _ _ _ _ _ | exact Kd.N_nil _ _ _ _ _ | exact Kd.V_nil _ _ _ _ _ | exact Kd.Q_nil _ _ _ _ _ | exact Kd.S_nil _ _ _ _ _, by first | exact Kd.R_nil _ _ _ _ _ | exact Kd.N_nil _ _ _ _ _ | exact Kd.V_nil _ _ _ _ _ | exact Kd.Q_nil _ _ _ _ _ | exact Kd.S_nil _ _ _ _ _, by repeat (first | (with_reducible first | apply bA | apply bN | apply bD | refine bS ?_ aC.out | refine bS ?_ aJ.out) | exact HB.out)⟩
 ·rw [if_neg c4] at H
  have c4b0 : (t272 == 0) = false := beq_eq_false_iff_ne.mpr c4
  have c4b1 : (t272 != 0) = true := bne_iff_ne.mpr c4
  simp only [Option.some.injEq, Prod.mk.injEq] at H
  obtain ⟨rfl, rfl, rfl, rfl, rfl, rfl⟩ := H
  go_enter Try.func48, Try.ntmps48
  go_wp2_with (first | ((with_reducible refine gate_dst (N := 2) rfl ?_); refine box_event ?hg (N := 2) ?hd (cs := #[.slice ao af.length ap, .int .i64 aE, .int .i64 aG, .slice aq ag.length ar, .bool aI]) (t := 46) ?hr ?_; (case hd => rfl); (case hg => rfl); (case hr => first | (go_simp; done) | (go_simp; rfl)); intro a6 hg w65 hbox hb; have aM := Z0.mk (Kd.V_below (Kd.V_elderB (by (with_reducible repeat (first | apply Kd.V_alloc | apply Kd.V_drewN | apply Kd.V_drew)); exact aV.out) a6 (Nat.le_of_eq hg.symm)) hb); have aN := Z0.mk (Kd.V_below (Kd.V_elderB (by (with_reducible repeat (first | apply Kd.V_alloc | apply Kd.V_drewN | apply Kd.V_drew)); exact aW.out) a6 (Nat.le_of_eq hg.symm)) hb); have aP := Z0.mk (bP (by repeat (first | (with_reducible first | apply bA | apply bN | apply bD) | exact HB.out)) hb); have aQ := Z0.mk (hbox); have aH := Z0.mk ((by rw [hg]; exact (bZ (by repeat (first | (with_reducible first | apply bA | apply bN | apply bD) | exact HB.out))) : w.heap.size ≤ a6)); have aT := aH; clear aV aW HB; have aV := aM; have aW := aN; have HB := aP; have a2 := aQ; have bj := aH; have aC := aT; clear aM aN aP aQ aH aT; clear hb hbox hg) | ((with_reducible refine gate_dst (N := 4) rfl ?_); refine box_event ?hg (N := 4) ?hd (cs := #[.slice none 0 0, .int .i64 0, .int .i64 0, .slice none 0 0, .bool false]) (t := 46) ?hr ?_; (case hd => rfl); (case hg => rfl); (case hr => first | (go_simp; done) | (go_simp; rfl)); intro a8 hg w66 hbox hb; have aM := Z0.mk (Kd.V_below (Kd.V_elderB (by (with_reducible repeat (first | apply Kd.V_alloc | apply Kd.V_drewN | apply Kd.V_drew)); exact aV.out) a8 (Nat.le_of_eq hg.symm)) hb); have aN := Z0.mk (Kd.V_below (Kd.V_elderB (by (with_reducible repeat (first | apply Kd.V_alloc | apply Kd.V_drewN | apply Kd.V_drew)); exact aW.out) a8 (Nat.le_of_eq hg.symm)) hb); have aP := Z0.mk (kB (by (with_reducible repeat first | apply kN | apply kD | apply kA); exact a2.out) hb); have aQ := Z0.mk (bP (by repeat (first | (with_reducible first | apply bA | apply bN | apply bD | refine bS ?_ aC.out) | exact HB.out)) hb); have aH := Z0.mk (hbox); have aT := Z0.mk ((by rw [hg]; exact (bZ (by repeat (first | (with_reducible first | apply bA | apply bN | apply bD | refine bS ?_ aC.out) | exact HB.out))) : w.heap.size ≤ a8)); have aY := aT; have ai := Z0.mk ((by rw [hg]; exact Nat.ne_of_lt (blk_lt (by (with_reducible repeat first | apply kN | apply kD | apply kA); exact a2.out)) : a6 ≠ a8)); have aj := Z0.mk (Ne.symm ai.out); clear aV aW a2 HB; have aV := aM; have aW := aN; have a2 := aP; have HB := aQ; have a5 := aH; have bk := aT; have aJ := aY; have ah := ai; have ad := aj; clear aM aN aP aQ aH aT aY ai aj hb hbox hg; have hnb67 := ah.out; have hnc67 := ad.out; obtain ⟨dp, dq, dr, dt, du, dv, dw, dx, dy, dz⟩ := kc5 a2.out) | ((with_reducible refine gate_callee (f := 20) rfl ?_); refine goesL_ (some 10) rfl rfl Try.func20 (by kernel_rfl) rfl #[.agg #[.slice ao af.length ap, .int .i64 aE, .int .i64 aG, .slice aq ag.length ar, .bool aI]] rfl (by (try simp only [List.map_toArray, List.map_cons, List.map_nil]); first | done | rfl | (simp only [List.length_drop, List.length_take]; rfl)) ?_; (with_reducible refine (hackamoreref28_Check.calls k _ _ af aE aG _ _ ag aI t272 _ ?side1 ?side2 ?side3 ?side4 A3.out).mono ?_); (case side1 => repeat (first | exact (Kd.V_reads' aV.out).2.2 | (with_reducible refine Kd.C_alloc ?_ _) | (with_reducible refine Kd.C_drewN ?_ _) | (with_reducible refine Kd.C_drew ?_))); (case side2 => exact (Kd.V_reads' aV.out).2.1); (case side3 => repeat (first | exact (Kd.V_reads' aW.out).2.2 | (with_reducible refine Kd.C_alloc ?_ _) | (with_reducible refine Kd.C_drewN ?_ _) | (with_reducible refine Kd.C_drew ?_))); (case side4 => exact (Kd.V_reads' aW.out).2.1); rintro e w69 ⟨rfl, hb⟩; refine ⟨_, rfl, ?_⟩; have aM := Z0.mk (Kd.V_below (by (with_reducible repeat (first | apply Kd.V_alloc | apply Kd.V_drewN | apply Kd.V_drew)); exact aV.out) hb); have aN := Z0.mk (Kd.V_below (by (with_reducible repeat (first | apply Kd.V_alloc | apply Kd.V_drewN | apply Kd.V_drew)); exact aW.out) hb); have aP := Z0.mk (kB (by (with_reducible repeat first | apply kN | apply kD | apply kA); exact a2.out) hb); have aQ := Z0.mk (kB (by (with_reducible repeat first | apply kN | apply kD | apply kA); exact a5.out) hb); have aH := Z0.mk (bP (by repeat (first | (with_reducible first | apply bA | apply bN | apply bD | refine bS ?_ aC.out | refine bS ?_ aJ.out) | exact HB.out)) hb); clear aV aW a2 a5 HB; have aV := aM; have aW := aN; have a2 := aP; have a5 := aQ; have HB := aH; clear aM aN aP aQ aH; (try clear hb); (try clear hb2); (try clear hk); (try clear hi); obtain ⟨e0, e1, e2, e3, e4, e5, e6, e7, e8, e9⟩ := kc5 a5.out))
  refine bodyPost_ret (results_ct rfl _ _ a8 46 #[.slice none 0 0, .int .i64 0, .int .i64 0, .slice none 0 0, .bool false] (0, 0) _ rfl (by (with_reducible repeat first | apply kN | apply kD | apply kA); refine blk_put (cs := #[.slice none 0 0, .int .i64 0, .int .i64 0, .slice none 0 0, .bool false]) ?_ 4 _ rfl; (with_reducible repeat first | apply kN | apply kD | apply kA); refine blk_put (cs := #[.slice none 0 0, .int .i64 0, .int .i64 0, .slice none 0 0, .bool false]) ?_ 3 _ rfl; (with_reducible repeat first | apply kN | apply kD | apply kA); refine blk_put (cs := #[.slice none 0 0, .int .i64 0, .int .i64 0, .slice none 0 0, .bool false]) ?_ 2 _ rfl; (with_reducible repeat first | apply kN | apply kD | apply kA); refine blk_put (cs := #[.slice none 0 0, .int .i64 0, .int .i64 0, .slice none 0 0, .bool false]) ?_ 1 _ rfl; (with_reducible repeat first | apply kN | apply kD | apply kA); refine blk_put (cs := #[.slice none 0 0, .int .i64 0, .int .i64 0, .slice none 0 0, .bool false]) ?_ 0 _ rfl; (with_reducible repeat first | apply kN | apply kD | apply kA); exact a5.out) Try.underlying46 rfl (by kernel_rfl)) rfl ?_
  exact ⟨_, _, by first | rfl | (simp [errW_none, errW_some] <;> rfl) | (simp [*, errW_none, errW_some] <;> rfl), by first | exact Kd.R_nil _ _ _ _ _ | exact Kd.N_nil _ _ _ _ _ | exact Kd.V_nil _ _ _ _ _ | exact Kd.Q_nil _ _ _ _ _ | exact Kd.S_nil _ _ _ _ _, by first | exact Kd.R_nil _ _ _ _ _ | exact Kd.N_nil _ _ _ _ _ | exact Kd.V_nil _ _ _ _ _ | exact Kd.Q_nil _ _ _ _ _ | exact Kd.S_nil _ _ _ _ _, by repeat (first | (with_reducible first | apply bA | apply bN | apply bD | refine bS ?_ aC.out | refine bS ?_ aJ.out) | exact HB.out)⟩
end Go.Proofs.Ytgbafpjeapkklaa.PMailboxRuns
