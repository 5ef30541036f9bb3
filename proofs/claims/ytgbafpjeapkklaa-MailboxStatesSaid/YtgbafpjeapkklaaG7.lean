/- Parts Rg, Sa, Tf, Tg, Th, Ti, Tj, Te, Tk, Tp, Tl, Ts of the proof. -/
import Derived.Test.YtgbafpjeapkklaaG2
import Derived.Test.YtgbafpjeapkklaaG3
import Derived.Test.YtgbafpjeapkklaaG5
import Derived.Test.YtgbafpjeapkklaaG6
namespace Go.Proofs.Ytgbafpjeapkklaa.PMailboxRuns
open Go.RowKit Go.Proofs.YtgbafpjeapkklaaW.PrintWords Go.Proofs.YtgbafpjeapkklaaW.PrintLast Go.Proofs.YtgbafpjeapkklaaW.PrintMore
attribute [local go_sem] max2_int min2_int max_two min_two max_three min_three max_four min_four
set_option linter.unusedVariables false
set_option linter.unusedSimpArgs false
mutual
def hackamoreref28_Check.j0 : Nat → Int → Bool → List (S105) → Int → Int → List (S122) → Bool → Option (Int)
 | 0, _, _, _, _, _, _, _ => none
 | k + 1, x3, x56, aZ, an, am, aK, ao => if x56 = true then (some 14) else (hackamoreref28_Check.l0 k x3 1 aZ an am aK ao)
def hackamoreref28_Check.l0 : Nat → Int → Int → List (S105) → Int → Int → List (S122) → Bool → Option (Int)
 | 0, _, _, _, _, _, _, _ => none
 | k + 1, x3, x4, aZ, an, am, aK, ao => if x4 < x3 then (if 0 ≤ x4 then (if x4 < (aZ.length : Int) then (if ((rZ5 aZ x4).f1) < 0 then (some 14) else (hackamoreref28_Check.l0 k x3 (wrap64 (x4 + 1)) aZ an am aK ao)) else (none)) else (none)) else (hackamoreref28_Check.l1 k x3 0 aZ an am aK ao)
def hackamoreref28_Check.l1 : Nat → Int → Int → List (S105) → Int → Int → List (S122) → Bool → Option (Int)
 | 0, _, _, _, _, _, _, _ => none
 | k + 1, x3, x5, aZ, an, am, aK, ao => if x5 < (aK.length : Int) then (if 0 ≤ x5 then (if ((rZ2 aK x5).f2) < 0 then (some 14) else (if ((rZ2 aK x5).f2) ≥ x3 then (some 14) else (if ((rZ2 aK x5).f1) < 0 then (some 14) else (if ((rZ2 aK x5).f1) ≥ x3 then (some 14) else (if ((rZ2 aK x5).f0) < 0 then (some 14) else (if x5 > 0 then (if 0 ≤ (wrap64 (x5 - 1)) then (if (wrap64 (x5 - 1)) < (aK.length : Int) then (if ((rZ2 aK (wrap64 (x5 - 1))).f0) ≥ ((rZ2 aK x5).f0) then (some 14) else (if 0 ≤ ((rZ2 aK x5).f2) then (if ((rZ2 aK x5).f2) < (aZ.length : Int) then (if ((rZ5 aZ ((rZ2 aK x5).f2)).f1) = ((rZ2 aK x5).f0) then (hackamoreref28_Check.l1 k x3 (wrap64 (x5 + 1)) aZ an am aK ao) else (some 14)) else (none)) else (none))) else (none)) else (none)) else (if 0 ≤ ((rZ2 aK x5).f2) then (if ((rZ2 aK x5).f2) < (aZ.length : Int) then (if ((rZ5 aZ ((rZ2 aK x5).f2)).f1) = ((rZ2 aK x5).f0) then (hackamoreref28_Check.l1 k x3 (wrap64 (x5 + 1)) aZ an am aK ao) else (some 14)) else (none)) else (none)))))))) else (none)) else ((hackamoreref28_Order.f k aZ an am aK ao).bind fun t221 => (if (t221.length : Int) = 0 then (some 14) else ((hackamoreref28_chain.f k aZ an am aK ao 0).bind fun t224 => (hackamoreref28_Check.l2 k t224 false 0 aZ an am aK ao))))
def hackamoreref28_Check.l2 : Nat → List Int → Bool → Int → List (S105) → Int → Int → List (S122) → Bool → Option (Int)
 | 0, _, _, _, _, _, _, _, _ => none
 | k + 1, x7, x8, x9, aZ, an, am, aK, ao => if x9 < (x7.length : Int) then (if x8 = true then (hackamoreref28_Check.l2 k x7 true (wrap64 (x9 + 1)) aZ an am aK ao) else (if 0 ≤ x9 then (hackamoreref28_Check.l2 k x7 ((rd x7 x9) == am) (wrap64 (x9 + 1)) aZ an am aK ao) else (none))) else (if x8 = true then (if ao = true then (if am = an then (some 0) else (some 14)) else (some 0)) else (some 14))
end
def hackamoreref28_Check.f (k : Nat) (a5 : List (S105)) (a7 : Int) (a6 : Int) (a1 : List (S122)) (aD : Bool) : Option (Int) := if (a5.length : Int) < 1 then (hackamoreref28_Check.j0 k (a5.length : Int) true a5 a7 a6 a1 aD) else (if (a5.length : Int) > 2000 then (hackamoreref28_Check.j0 k (a5.length : Int) true a5 a7 a6 a1 aD) else (if a7 < 0 then (hackamoreref28_Check.j0 k (a5.length : Int) true a5 a7 a6 a1 aD) else (if a7 ≥ (a5.length : Int) then (hackamoreref28_Check.j0 k (a5.length : Int) true a5 a7 a6 a1 aD) else (if a6 < 0 then (hackamoreref28_Check.j0 k (a5.length : Int) true a5 a7 a6 a1 aD) else (if a6 ≥ (a5.length : Int) then (hackamoreref28_Check.j0 k (a5.length : Int) true a5 a7 a6 a1 aD) else (if 0 < (a5.length : Int) then (if ((rZ5 a5 0).f0) = 0 then (hackamoreref28_Check.j0 k (a5.length : Int) (((rZ5 a5 0).f1) != (-1)) a5 a7 a6 a1 aD) else (hackamoreref28_Check.j0 k (a5.length : Int) true a5 a7 a6 a1 aD)) else (none)))))))
set_option maxHeartbeats 8000000 in
set_option maxRecDepth 100000 in
theorem hackamoreref28_Check.calls (k : Nat) (ac : Option Addr) (ad : Nat) (a5 : List (S105)) (a7 : Int) (a6 : Int) (ae : Option Addr) (af : Nat) (a1 : List (S122)) (aD : Bool) (r : Int) (w : World) (cy : Kd.C k105 w ac a5.length a5) (cz : a5.length ≤ ad) (d0 : Kd.C k122 w ae a1.length a1) (d1 : a1.length ≤ af) (h : hackamoreref28_Check.f k a5 a7 a6 a1 aD = some r) :
  Calls Try.prog 20 #[.agg #[.slice ac a5.length ad, .int .i64 a7, .int .i64 a6, .slice ae a1.length af, .bool aD]] w fun e w' => e = .returned (.int .i64 r) ∧ Below w.heap.size w w' := by
 have hu46 := Try.underlying46
 have hu122 := Try.underlying122
 have b4 := Z0.mk cy
 have cw := Z0.mk cz
 clear cy cz
 have av := Z0.mk d0
 have cx := Z0.mk d1
 clear d0 d1
 have HB := Z0.mk (Below.refl w.heap.size w)
 have H : (if (a5.length : Int) < 1 then (hackamoreref28_Check.j0 k (a5.length : Int) true a5 a7 a6 a1 aD) else (if (a5.length : Int) > 2000 then (hackamoreref28_Check.j0 k (a5.length : Int) true a5 a7 a6 a1 aD) else (if a7 < 0 then (hackamoreref28_Check.j0 k (a5.length : Int) true a5 a7 a6 a1 aD) else (if a7 ≥ (a5.length : Int) then (hackamoreref28_Check.j0 k (a5.length : Int) true a5 a7 a6 a1 aD) else (if a6 < 0 then (hackamoreref28_Check.j0 k (a5.length : Int) true a5 a7 a6 a1 aD) else (if a6 ≥ (a5.length : Int) then (hackamoreref28_Check.j0 k (a5.length : Int) true a5 a7 a6 a1 aD) else (if 0 < (a5.length : Int) then (if ((rZ5 a5 0).f0) = 0 then (hackamoreref28_Check.j0 k (a5.length : Int) (((rZ5 a5 0).f1) != (-1)) a5 a7 a6 a1 aD) else (hackamoreref28_Check.j0 k (a5.length : Int) true a5 a7 a6 a1 aD)) else (none)))))))) = some r := h
 clear h
 have h5 := Z0.mk H
 clear H
 go_enter Try.func20, Try.ntmps20
 go_upto_region 2 with (first | ((with_reducible refine gate_dst (N := 1) rfl ?_); refine box_event ?hg (N := 1) ?hd (cs := #[.slice ac a5.length ad, .int .i64 a7, .int .i64 a6, .slice ae a1.length af, .bool aD]) (t := 46) ?hr ?_; (case hd => rfl); (case hg => rfl); (case hr => first | (go_simp; done) | (go_simp; rfl)); intro a4 hg w3 hbox hb; have ag := Z0.mk (bP (by repeat (first | (with_reducible first | apply bA | apply bN | apply bD) | exact HB.out)) hb); have ah := Z0.mk (hbox); have ab := Z0.mk ((by rw [hg]; exact (bZ (by repeat (first | (with_reducible first | apply bA | apply bN | apply bD) | exact HB.out))) : w.heap.size ≤ a4)); have aa := ab; clear HB; have HB := ag; have a0 := ah; have hs := ab; have a9 := aa; clear ag ah ab aa hb hbox hg; obtain ⟨cC, cD, cE, cF, cG, cH, cI, cJ, cK, cL⟩ := kc5 a0.out))
 repeat (go_quiet (fail); try go_wp2)
 (try simp only [Act.put, List.setIfInBounds_toArray, List.set_cons_zero, List.set_cons_succ])
 go_cut [56] (fun v56 wc => ∃ (kq : Nat) (cW : Bool), v56 = .bool cW ∧ Z0 (hackamoreref28_Check.j0 kq (a5.length : Int) cW a5 a7 a6 a1 aD = some r) ∧ Z0 (kq ≤ k) ∧ Z0 (wc.heap[a4]? = some (.cells #[(.slice ac a5.length ad), .int .i64 a7, .int .i64 a6, (.slice ae a1.length af), .bool aD] 46 (0, 0))) ∧ Z0 (Below w.heap.size w wc))
 case first =>
  have H := h5.out
  clear h5
  by_cases c5 : (a5.length : Int) < 1
  ·rw [if_pos c5] at H
   have c5b0 : decide ((a5.length : Int) < 1) = true := decide_eq_true c5
   have c5b1 : decide (a5.length < 1) = true := decide_eq_true (by omega)
   clear c5
   (first | rw [c5b0] | (simp only [i64_w, i32_w]; rw [c5b0]) | skip)
   have H' := Z0.mk H
   clear H
   go_wp2
   repeat (go_quiet (fail); try go_wp2)
   go_meet
   case rel => exact ⟨_, (true), (by first | rfl | (simp; done) | (simp [*]; done)), H', ⟨by first | omega | exact Nat.le_refl _⟩, ⟨by (with_reducible repeat first | apply kN | apply kD | apply kA); exact a0.out⟩, ⟨by repeat (first | (with_reducible first | apply bA | apply bN | apply bD | refine bS ?_ a9.out) | exact HB.out)⟩⟩
  ·rw [if_neg c5] at H
   have c5b0 : decide ((a5.length : Int) < 1) = false := decide_eq_false c5
   have c5b1 : decide (a5.length < 1) = false := decide_eq_false (by omega)
   clear c5
   (first | rw [c5b0] | (simp only [i64_w, i32_w]; rw [c5b0]) | skip)
   by_cases c6 : (a5.length : Int) > 2000
   ·rw [if_pos c6] at H
    have c6b0 : decide (2000 < (a5.length : Int)) = true := decide_eq_true c6
    have c6b1 : decide (2000 < a5.length) = true := decide_eq_true (by omega)
    clear c6
    have H' := Z0.mk H
    clear H
    go_wp2
    repeat (go_quiet (fail); try go_wp2)
    go_meet
    case rel => exact ⟨_, (true), (by first | rfl | (simp; done) | (simp [*]; done)), H', ⟨by first | omega | exact Nat.le_refl _⟩, ⟨by (with_reducible repeat first | apply kN | apply kD | apply kA); exact a0.out⟩, ⟨by repeat (first | (with_reducible first | apply bA | apply bN | apply bD | refine bS ?_ a9.out) | exact HB.out)⟩⟩
   ·rw [if_neg c6] at H
    have c6b0 : decide (2000 < (a5.length : Int)) = false := decide_eq_false c6
    have c6b1 : decide (2000 < a5.length) = false := decide_eq_false (by omega)
    clear c6
    by_cases c7 : a7 < 0
    ·rw [if_pos c7] at H
     have c7b0 : decide (a7 < 0) = true := decide_eq_true c7
     clear c7
     have H' := Z0.mk H
     clear H
     have cM : w3.cell? ⟨a4, 0, none⟩ = some (.slice ac a5.length ad) := (kC a0.out 0).trans rfl
     have cN : w3.cell? ⟨a4, 1, none⟩ = some (.int .i64 a7) := (kC a0.out 1).trans rfl
     have cO : w3.cell? ⟨a4, 2, none⟩ = some (.int .i64 a6) := (kC a0.out 2).trans rfl
     have cP : w3.cell? ⟨a4, 3, none⟩ = some (.slice ae a1.length af) := (kC a0.out 3).trans rfl
     have cQ : w3.cell? ⟨a4, 4, none⟩ = some (.bool aD) := (kC a0.out 4).trans rfl
     have cR := kF a0.out 0
     have cS := kF a0.out 1
     have cT := kF a0.out 2
     have cU := kF a0.out 3
     have cV := kF a0.out 4
     go_wp2
     repeat (go_quiet (fail); try go_wp2)
     go_meet
     case rel => exact ⟨_, (true), (by first | rfl | (simp; done) | (simp [*]; done)), H', ⟨by first | omega | exact Nat.le_refl _⟩, ⟨by (with_reducible repeat first | apply kN | apply kD | apply kA); exact a0.out⟩, ⟨by repeat (first | (with_reducible first | apply bA | apply bN | apply bD | refine bS ?_ a9.out) | exact HB.out)⟩⟩
    ·rw [if_neg c7] at H
     have c7b0 : decide (a7 < 0) = false := decide_eq_false c7
     clear c7
     by_cases c9 : a7 ≥ (a5.length : Int)
     ·rw [if_pos c9] at H
      have c9b0 : decide ((a5.length : Int) ≤ a7) = true := decide_eq_true c9
      clear c9
      have H' := Z0.mk H
      clear H
      have b7 : w3.cell? ⟨a4, 0, none⟩ = some (.slice ac a5.length ad) := (kC a0.out 0).trans rfl
      have b8 : w3.cell? ⟨a4, 1, none⟩ = some (.int .i64 a7) := (kC a0.out 1).trans rfl
      have b9 : w3.cell? ⟨a4, 2, none⟩ = some (.int .i64 a6) := (kC a0.out 2).trans rfl
      have bB : w3.cell? ⟨a4, 3, none⟩ = some (.slice ae a1.length af) := (kC a0.out 3).trans rfl
      have bC : w3.cell? ⟨a4, 4, none⟩ = some (.bool aD) := (kC a0.out 4).trans rfl
      have bE := kF a0.out 0
      have bF := kF a0.out 1
      have bG := kF a0.out 2
      have bH := kF a0.out 3
      have bI := kF a0.out 4
      go_wp2
      repeat (go_quiet (fail); try go_wp2)
      go_meet
      case rel => exact ⟨_, (true), (by first | rfl | (simp; done) | (simp [*]; done)), H', ⟨by first | omega | exact Nat.le_refl _⟩, ⟨by (with_reducible repeat first | apply kN | apply kD | apply kA); exact a0.out⟩, ⟨by repeat (first | (with_reducible first | apply bA | apply bN | apply bD | refine bS ?_ a9.out) | exact HB.out)⟩⟩
     ·rw [if_neg c9] at H
      have c9b0 : decide ((a5.length : Int) ≤ a7) = false := decide_eq_false c9
      clear c9
      by_cases c11 : a6 < 0
      ·rw [if_pos c11] at H
       have c11b0 : decide (a6 < 0) = true := decide_eq_true c11
       clear c11
       have H' := Z0.mk H
       clear H
       have bJ : w3.cell? ⟨a4, 0, none⟩ = some (.slice ac a5.length ad) := (kC a0.out 0).trans rfl
       have bK : w3.cell? ⟨a4, 1, none⟩ = some (.int .i64 a7) := (kC a0.out 1).trans rfl
       have bL : w3.cell? ⟨a4, 2, none⟩ = some (.int .i64 a6) := (kC a0.out 2).trans rfl
       have bM : w3.cell? ⟨a4, 3, none⟩ = some (.slice ae a1.length af) := (kC a0.out 3).trans rfl
       have bO : w3.cell? ⟨a4, 4, none⟩ = some (.bool aD) := (kC a0.out 4).trans rfl
       have bQ := kF a0.out 0
       have bR := kF a0.out 1
       have bT := kF a0.out 2
       have bU := kF a0.out 3
       have bV := kF a0.out 4
       go_wp2
       repeat (go_quiet (fail); try go_wp2)
       go_meet
       case rel => exact ⟨_, (true), (by first | rfl | (simp; done) | (simp [*]; done)), H', ⟨by first | omega | exact Nat.le_refl _⟩, ⟨by (with_reducible repeat first | apply kN | apply kD | apply kA); exact a0.out⟩, ⟨by repeat (first | (with_reducible first | apply bA | apply bN | apply bD | refine bS ?_ a9.out) | exact HB.out)⟩⟩
      ·rw [if_neg c11] at H
       have c11b0 : decide (a6 < 0) = false := decide_eq_false c11
       clear c11
       by_cases c13 : a6 ≥ (a5.length : Int)
       ·rw [if_pos c13] at H
        have c13b0 : decide ((a5.length : Int) ≤ a6) = true := decide_eq_true c13
        clear c13
        have H' := Z0.mk H
        clear H
        have bW : w3.cell? ⟨a4, 0, none⟩ = some (.slice ac a5.length ad) := (kC a0.out 0).trans rfl
        have bX : w3.cell? ⟨a4, 1, none⟩ = some (.int .i64 a7) := (kC a0.out 1).trans rfl
        have bY : w3.cell? ⟨a4, 2, none⟩ = some (.int .i64 a6) := (kC a0.out 2).trans rfl
        have ba : w3.cell? ⟨a4, 3, none⟩ = some (.slice ae a1.length af) := (kC a0.out 3).trans rfl
        have bb : w3.cell? ⟨a4, 4, none⟩ = some (.bool aD) := (kC a0.out 4).trans rfl
        have bc := kF a0.out 0
        have bd := kF a0.out 1
        have be := kF a0.out 2
        have bf := kF a0.out 3
        have bg := kF a0.out 4
        go_wp2
        repeat (go_quiet (fail); try go_wp2)
        go_meet
        case rel => exact ⟨_, (true), (by first | rfl | (simp; done) | (simp [*]; done)), H', ⟨by first | omega | exact Nat.le_refl _⟩, ⟨by (with_reducible repeat first | apply kN | apply kD | apply kA); exact a0.out⟩, ⟨by repeat (first | (with_reducible first | apply bA | apply bN | apply bD | refine bS ?_ a9.out) | exact HB.out)⟩⟩
       ·rw [if_neg c13] at H
        have c13b0 : decide ((a5.length : Int) ≤ a6) = false := decide_eq_false c13
        clear c13
        by_cases c15 : 0 < (a5.length : Int)
        ·rw [if_pos c15] at H
         have c15b0 : decide (0 < (a5.length : Int)) = true := decide_eq_true c15
         have c15b1 : decide (0 < a5.length) = true := decide_eq_true (by omega)
         clear c15
         by_cases c16 : ((rZ5 a5 0).f0) = 0
         ·rw [if_pos c16] at H
          have c16b0 : (((rZ5 a5 0).f0) == 0) = true := beq_iff_eq.mpr c16
          have c16b1 : (((rZ5 a5 0).f0) != 0) = false := bne_eq_false_iff_eq.mpr c16
          clear c16
          have H' := Z0.mk H
          clear H
          have bh : w3.cell? ⟨a4, 0, none⟩ = some (.slice ac a5.length ad) := (kC a0.out 0).trans rfl
          have bi : w3.cell? ⟨a4, 1, none⟩ = some (.int .i64 a7) := (kC a0.out 1).trans rfl
          have bj : w3.cell? ⟨a4, 2, none⟩ = some (.int .i64 a6) := (kC a0.out 2).trans rfl
          have bk : w3.cell? ⟨a4, 3, none⟩ = some (.slice ae a1.length af) := (kC a0.out 3).trans rfl
          have bl : w3.cell? ⟨a4, 4, none⟩ = some (.bool aD) := (kC a0.out 4).trans rfl
          have bm := kF a0.out 0
          have bn := kF a0.out 1
          have bo := kF a0.out 2
          have bp := kF a0.out 3
          have bq := kF a0.out 4
          have p213 : 0 ≤ (0 : Int) := (by omega)
          have q213 : 0 < (a5.length : Int) := of_decide_eq_true (by assumption)
          obtain ⟨ad213, e213, ai, aj, ak⟩ := at_T105 b4.out 0 p213 q213
          cases e213
          have qi213 : (0 < a5.length) = True := eq_true (by omega)
          (try rw [show ((0 : Int)).toNat = 0 from rfl] at ai)
          (try rw [show 0 * 3 = 0 from rfl] at ai)
          (try rw [Addr.add_zero'] at ai)
          (try rw [show ((0 : Int)).toNat = 0 from rfl] at aj)
          (try rw [show 0 * 3 = 0 from rfl] at aj)
          (try rw [Addr.add_zero'] at aj)
          (try rw [show ((0 : Int)).toNat = 0 from rfl] at ak)
          (try rw [show 0 * 3 = 0 from rfl] at ak)
          (try rw [Addr.add_zero'] at ak)
          replace ai := (HB.out.cell (World.block_lt_of_cell? w _ ai)).trans ai
          replace aj := (HB.out.cell (World.block_lt_of_cell? w _ aj)).trans aj
          replace ak := (HB.out.cell (World.block_lt_of_cell? w _ ak)).trans ak
          replace p213 := eq_true p213
          replace q213 := eq_true q213
          have p214 : 0 ≤ (0 : Int) := (by omega)
          have q214 : 0 < (a5.length : Int) := of_decide_eq_true (by assumption)
          obtain ⟨ad214, e214, ax, ay, az⟩ := at_T105 b4.out 0 p214 q214
          obtain rfl : ad213 = ad214 := (by injection e214)
          have qi214 : (0 < a5.length) = True := eq_true (by omega)
          (try rw [show ((0 : Int)).toNat = 0 from rfl] at ax)
          (try rw [show 0 * 3 = 0 from rfl] at ax)
          (try rw [Addr.add_zero'] at ax)
          (try rw [show ((0 : Int)).toNat = 0 from rfl] at ay)
          (try rw [show 0 * 3 = 0 from rfl] at ay)
          (try rw [Addr.add_zero'] at ay)
          (try rw [show ((0 : Int)).toNat = 0 from rfl] at az)
          (try rw [show 0 * 3 = 0 from rfl] at az)
          (try rw [Addr.add_zero'] at az)
          replace ax := (HB.out.cell (World.block_lt_of_cell? w _ ax)).trans ax
          replace ay := (HB.out.cell (World.block_lt_of_cell? w _ ay)).trans ay
          replace az := (HB.out.cell (World.block_lt_of_cell? w _ az)).trans az
          replace p214 := eq_true p214
          replace q214 := eq_true q214
          go_wp2
          repeat (go_quiet (fail); try go_wp2)
          go_meet
          case rel => exact ⟨_, ((((rZ5 a5 0).f1) != (-1))), (by first | rfl | (simp; done) | (simp [*]; done)), H', ⟨by first | omega | exact Nat.le_refl _⟩, ⟨by (with_reducible repeat first | apply kN | apply kD | apply kA); exact a0.out⟩, ⟨by repeat (first | (with_reducible first | apply bA | apply bN | apply bD | refine bS ?_ a9.out) | exact HB.out)⟩⟩
         ·rw [if_neg c16] at H
          have c16b0 : (((rZ5 a5 0).f0) == 0) = false := beq_eq_false_iff_ne.mpr c16
          have c16b1 : (((rZ5 a5 0).f0) != 0) = true := bne_iff_ne.mpr c16
          have H' := Z0.mk H
          clear H
          have br : w3.cell? ⟨a4, 0, none⟩ = some (.slice ac a5.length ad) := (kC a0.out 0).trans rfl
          have bs : w3.cell? ⟨a4, 1, none⟩ = some (.int .i64 a7) := (kC a0.out 1).trans rfl
          have bt : w3.cell? ⟨a4, 2, none⟩ = some (.int .i64 a6) := (kC a0.out 2).trans rfl
          have bu : w3.cell? ⟨a4, 3, none⟩ = some (.slice ae a1.length af) := (kC a0.out 3).trans rfl
          have bv : w3.cell? ⟨a4, 4, none⟩ = some (.bool aD) := (kC a0.out 4).trans rfl
          have bw := kF a0.out 0
          have bx := kF a0.out 1
          have bz := kF a0.out 2
          have c0 := kF a0.out 3
          have cA := kF a0.out 4
          have p213 : 0 ≤ (0 : Int) := (by omega)
          have q213 : 0 < (a5.length : Int) := of_decide_eq_true (by assumption)
          obtain ⟨ad213, e213, ai, aj, ak⟩ := at_T105 b4.out 0 p213 q213
          cases e213
          have qi213 : (0 < a5.length) = True := eq_true (by omega)
          (try rw [show ((0 : Int)).toNat = 0 from rfl] at ai)
          (try rw [show 0 * 3 = 0 from rfl] at ai)
          (try rw [Addr.add_zero'] at ai)
          (try rw [show ((0 : Int)).toNat = 0 from rfl] at aj)
          (try rw [show 0 * 3 = 0 from rfl] at aj)
          (try rw [Addr.add_zero'] at aj)
          (try rw [show ((0 : Int)).toNat = 0 from rfl] at ak)
          (try rw [show 0 * 3 = 0 from rfl] at ak)
          (try rw [Addr.add_zero'] at ak)
          replace ai := (HB.out.cell (World.block_lt_of_cell? w _ ai)).trans ai
          replace aj := (HB.out.cell (World.block_lt_of_cell? w _ aj)).trans aj
          replace ak := (HB.out.cell (World.block_lt_of_cell? w _ ak)).trans ak
          replace p213 := eq_true p213
          replace q213 := eq_true q213
          go_wp2
          repeat (go_quiet (fail); try go_wp2)
          go_meet
          case rel => exact ⟨_, (true), (by first | rfl | (simp; done) | (simp [*]; done)), H', ⟨by first | omega | exact Nat.le_refl _⟩, ⟨by (with_reducible repeat first | apply kN | apply kD | apply kA); exact a0.out⟩, ⟨by repeat (first | (with_reducible first | apply bA | apply bN | apply bD | refine bS ?_ a9.out) | exact HB.out)⟩⟩
        ·rw [if_neg c15] at H
         exact absurd H (by simp)
 case rest =>
  clear h5
  try clear c1
  try clear c2
  try clear p2
  try clear q2
  try clear hx2
  try clear qi2
  try clear c5
  try clear c5b0
  try clear c5b1
  try clear c6
  try clear c6b0
  try clear c6b1
  try clear c7
  try clear c7b0
  try clear c9
  try clear c9b0
  try clear c11
  try clear c11b0
  try clear c13
  try clear c13b0
  try clear c15
  try clear c15b0
  try clear c15b1
  try clear c16
  try clear c16b0
  try clear c16b1
  try clear b7
  try clear b8
  try clear b9
  try clear bB
  try clear bC
  try clear bJ
  try clear bK
  try clear bL
  try clear bM
  try clear bO
  try clear bW
  try clear bX
  try clear bY
  try clear ba
  try clear bb
  try clear bh
  try clear bi
  try clear bj
  try clear bk
  try clear bl
  try clear br
  try clear bs
  try clear bt
  try clear bu
  try clear bv
  try clear cC
  try clear cD
  try clear cE
  try clear cF
  try clear cG
  try clear cM
  try clear cN
  try clear cO
  try clear cP
  try clear cQ
  try clear bE
  try clear bF
  try clear bG
  try clear bH
  try clear bI
  try clear bQ
  try clear bR
  try clear bT
  try clear bU
  try clear bV
  try clear bc
  try clear bd
  try clear be
  try clear bf
  try clear bg
  try clear bm
  try clear bn
  try clear bo
  try clear bp
  try clear bq
  try clear bw
  try clear bx
  try clear bz
  try clear c0
  try clear cA
  try clear cH
  try clear cI
  try clear cJ
  try clear cK
  try clear cL
  try clear cR
  try clear cS
  try clear cT
  try clear cU
  try clear cV
  try clear ai
  try clear aj
  try clear ak
  try clear ax
  try clear ay
  try clear az
  try clear p213
  try clear p214
  try clear q213
  try clear q214
  obtain ⟨kq, cW, rfl, HA, HJ1, a0, HB⟩ := hcut
  cases kq with
  | zero => exact absurd HA.out (by simp [hackamoreref28_Check.j0])
  | succ kj1 =>
   have H := HA.out
   clear HA
   simp only [hackamoreref28_Check.j0] at H
   by_cases c19 : cW = true
   ·subst c19
    have H1 : (some 14) = some r := by rw [if_pos rfl] at H; exact H
    clear H
    have H := H1
    clear H1
    obtain rfl := Option.some.inj H
    go_wp2
    repeat (go_quiet (fail); try go_wp2)
    go_ret
    exact ⟨by first | rfl | (simp [errW_none, errW_some] <;> rfl) | (simp [*, errW_none, errW_some] <;> rfl), by repeat (first | (with_reducible first | apply bA | apply bN | apply bD | refine bS ?_ a9.out) | exact HB.out)⟩
   ·replace c19 := Bool.eq_false_iff.mpr c19
    subst c19
    have H1 : (hackamoreref28_Check.l0 kj1 (a5.length : Int) 1 a5 a7 a6 a1 aD) = some r := by rw [if_neg (show ¬ (false = true) by decide)] at H; exact H
    clear H
    have H := H1
    clear H1
    have H' := Z0.mk H
    clear H
    go_wp2
    repeat (go_quiet (fail); try go_wp2)
    go_loopg [4] kj1 (fun kq v4 w' => ∃ (aw : Int), v4 = .int .i64 aw ∧ Z0 (hackamoreref28_Check.l0 kq (a5.length : Int) aw a5 a7 a6 a1 aD = some r) ∧ Z0 (kq ≤ kj1) ∧ Z0 (w'.heap[a4]? = some (.cells #[(.slice ac a5.length ad), .int .i64 a7, .int .i64 a6, (.slice ae a1.length af), .bool aD] 46 (0, 0))) ∧ Z0 (Below w.heap.size w w'))
    case atStart => exact ⟨(1), (by first | rfl | (simp; done) | (simp [*]; done)), H', ⟨Nat.le_refl _⟩, ⟨by (with_reducible repeat first | apply kN | apply kD | apply kA); exact a0.out⟩, ⟨by repeat (first | (with_reducible first | apply bA | apply bN | apply bD | refine bS ?_ a9.out) | exact HB.out)⟩⟩
    case round =>
     clear H'
     try clear c1
     try clear c2
     try clear p2
     try clear q2
     try clear hx2
     try clear qi2
     try clear c5
     try clear c5b0
     try clear c5b1
     try clear c6
     try clear c6b0
     try clear c6b1
     try clear c7
     try clear c7b0
     try clear c9
     try clear c9b0
     try clear c11
     try clear c11b0
     try clear c13
     try clear c13b0
     try clear c15
     try clear c15b0
     try clear c15b1
     try clear c16
     try clear c16b0
     try clear c16b1
     try clear c19
     try clear b7
     try clear b8
     try clear b9
     try clear bB
     try clear bC
     try clear bJ
     try clear bK
     try clear bL
     try clear bM
     try clear bO
     try clear bW
     try clear bX
     try clear bY
     try clear ba
     try clear bb
     try clear bh
     try clear bi
     try clear bj
     try clear bk
     try clear bl
     try clear br
     try clear bs
     try clear bt
     try clear bu
     try clear bv
     try clear cC
     try clear cD
     try clear cE
     try clear cF
     try clear cG
     try clear cM
     try clear cN
     try clear cO
     try clear cP
     try clear cQ
     try clear bE
     try clear bF
     try clear bG
     try clear bH
     try clear bI
     try clear bQ
     try clear bR
     try clear bT
     try clear bU
     try clear bV
     try clear bc
     try clear bd
     try clear be
     try clear bf
     try clear bg
     try clear bm
     try clear bn
     try clear bo
     try clear bp
     try clear bq
     try clear bw
     try clear bx
     try clear bz
     try clear c0
     try clear cA
     try clear cH
     try clear cI
     try clear cJ
     try clear cK
     try clear cL
     try clear cR
     try clear cS
     try clear cT
     try clear cU
     try clear cV
     try clear ai
     try clear aj
     try clear ak
     try clear ax
     try clear ay
     try clear az
     try clear p2
     try clear p213
     try clear p214
     try clear q2
     try clear q213
     try clear q214
     obtain ⟨aw, rfl, HA, HK2, a0, HB⟩ := hrel
     cases gk with
     | zero => exact absurd HA.out (by simp [hackamoreref28_Check.l0])
     | succ k2 =>
      have H := HA.out
      clear HA
      simp only [hackamoreref28_Check.l0] at H
      by_cases c20 : aw < (a5.length : Int)
      ·rw [if_pos c20] at H
       have c20b0 : decide (aw < (a5.length : Int)) = true := decide_eq_true c20
       clear c20
       by_cases c21 : 0 ≤ aw
       ·rw [if_pos c21] at H
        have c21b0 : decide (0 ≤ aw) = true := decide_eq_true c21
        clear c21
        by_cases c22 : aw < (a5.length : Int)
        ·rw [if_pos c22] at H
         have c22b0 : decide (aw < (a5.length : Int)) = true := decide_eq_true c22
         clear c22
         by_cases c23 : ((rZ5 a5 aw).f1) < 0
         ·rw [if_pos c23] at H
          have c23b0 : decide (((rZ5 a5 aw).f1) < 0) = true := decide_eq_true c23
          clear c23
          obtain rfl := Option.some.inj H
          have cY : wr.cell? ⟨a4, 0, none⟩ = some (.slice ac a5.length ad) := (kC a0.out 0).trans rfl
          have cZ : wr.cell? ⟨a4, 1, none⟩ = some (.int .i64 a7) := (kC a0.out 1).trans rfl
          have ca : wr.cell? ⟨a4, 2, none⟩ = some (.int .i64 a6) := (kC a0.out 2).trans rfl
          have cb : wr.cell? ⟨a4, 3, none⟩ = some (.slice ae a1.length af) := (kC a0.out 3).trans rfl
          have cc : wr.cell? ⟨a4, 4, none⟩ = some (.bool aD) := (kC a0.out 4).trans rfl
          have cd := kF a0.out 0
          have ce := kF a0.out 1
          have cf := kF a0.out 2
          have cg := kF a0.out 3
          have ch := kF a0.out 4
          have p215 : 0 ≤ (aw : Int) := of_decide_eq_true (by assumption)
          have q215 : aw < (a5.length : Int) := of_decide_eq_true (by assumption)
          obtain ⟨ad215, e215, b1, b2, b3⟩ := at_T105 b4.out aw p215 q215
          cases e215
          replace b1 := (HB.out.cell (World.block_lt_of_cell? w _ b1)).trans b1
          replace b2 := (HB.out.cell (World.block_lt_of_cell? w _ b2)).trans b2
          replace b3 := (HB.out.cell (World.block_lt_of_cell? w _ b3)).trans b3
          replace p215 := eq_true p215
          replace q215 := eq_true q215
          go_wp2
          repeat (go_quiet (fail); try go_wp2)
          go_ret
          exact ⟨by first | rfl | (simp [errW_none, errW_some] <;> rfl) | (simp [*, errW_none, errW_some] <;> rfl), by repeat (first | (with_reducible first | apply bA | apply bN | apply bD | refine bS ?_ a9.out) | exact HB.out)⟩
         ·rw [if_neg c23] at H
          have c23b0 : decide (((rZ5 a5 aw).f1) < 0) = false := decide_eq_false c23
          clear c23
          have H' := Z0.mk H
          clear H
          have ci : wr.cell? ⟨a4, 0, none⟩ = some (.slice ac a5.length ad) := (kC a0.out 0).trans rfl
          have cj : wr.cell? ⟨a4, 1, none⟩ = some (.int .i64 a7) := (kC a0.out 1).trans rfl
          have ck : wr.cell? ⟨a4, 2, none⟩ = some (.int .i64 a6) := (kC a0.out 2).trans rfl
          have cl : wr.cell? ⟨a4, 3, none⟩ = some (.slice ae a1.length af) := (kC a0.out 3).trans rfl
          have cm : wr.cell? ⟨a4, 4, none⟩ = some (.bool aD) := (kC a0.out 4).trans rfl
          have cn := kF a0.out 0
          have co := kF a0.out 1
          have cp := kF a0.out 2
          have cq := kF a0.out 3
          have cr := kF a0.out 4
          have p215 : 0 ≤ (aw : Int) := of_decide_eq_true (by assumption)
          have q215 : aw < (a5.length : Int) := of_decide_eq_true (by assumption)
          obtain ⟨ad215, e215, b1, b2, b3⟩ := at_T105 b4.out aw p215 q215
          cases e215
          replace b1 := (HB.out.cell (World.block_lt_of_cell? w _ b1)).trans b1
          replace b2 := (HB.out.cell (World.block_lt_of_cell? w _ b2)).trans b2
          replace b3 := (HB.out.cell (World.block_lt_of_cell? w _ b3)).trans b3
          replace p215 := eq_true p215
          replace q215 := eq_true q215
          go_wp2
          repeat (go_quiet (fail); try go_wp2)
          go_roundg k2
          case measure => have := HJ1.out; have := HK2.out; omega
          case rel => exact ⟨(wrap64 (aw + 1)), (by first | rfl | (simp; done) | (simp [*]; done)), H', ⟨by have := HJ1.out; have := HK2.out; omega⟩, ⟨by (with_reducible repeat first | apply kN | apply kD | apply kA); exact a0.out⟩, ⟨by repeat (first | (with_reducible first | apply bA | apply bN | apply bD | refine bS ?_ a9.out) | exact HB.out)⟩⟩
        ·rw [if_neg c22] at H
         exact absurd H (by simp)
       ·rw [if_neg c21] at H
        exact absurd H (by simp)
      ·rw [if_neg c20] at H
       have c20b0 : decide (aw < (a5.length : Int)) = false := decide_eq_false c20
       clear c20
       have H' := Z0.mk H
       clear H
       go_wp2
       repeat (go_quiet (fail); try go_wp2)
       go_loopg [5] k2 (fun kq v5 w' => ∃ (a2 : Int), v5 = .int .i64 a2 ∧ Z0 (hackamoreref28_Check.l1 kq (a5.length : Int) a2 a5 a7 a6 a1 aD = some r) ∧ Z0 (kq ≤ k2) ∧ Z0 (w'.heap[a4]? = some (.cells #[(.slice ac a5.length ad), .int .i64 a7, .int .i64 a6, (.slice ae a1.length af), .bool aD] 46 (0, 0))) ∧ Z0 (Below w.heap.size w w'))
       case atStart => exact ⟨(0), (by first | rfl | (simp; done) | (simp [*]; done)), H', ⟨Nat.le_refl _⟩, ⟨by (with_reducible repeat first | apply kN | apply kD | apply kA); exact a0.out⟩, ⟨by repeat (first | (with_reducible first | apply bA | apply bN | apply bD | refine bS ?_ a9.out) | exact HB.out)⟩⟩
       case round =>
        clear H'
        try clear c1
        try clear c2
        try clear p2
        try clear q2
        try clear hx2
        try clear qi2
        try clear c5
        try clear c5b0
        try clear c5b1
        try clear c6
        try clear c6b0
        try clear c6b1
        try clear p6
        try clear c7
        try clear c7b0
        try clear c9
        try clear c9b0
        try clear c11
        try clear c11b0
        try clear c13
        try clear c13b0
        try clear c15
        try clear c15b0
        try clear c15b1
        try clear c16
        try clear c16b0
        try clear c16b1
        try clear c19
        try clear c20
        try clear c20b0
        try clear c21
        try clear c21b0
        try clear p21
        try clear q21
        try clear hx21
        try clear qi21
        try clear c22
        try clear c22b0
        try clear c23
        try clear c23b0
        try clear b7
        try clear b8
        try clear b9
        try clear bB
        try clear bC
        try clear bJ
        try clear bK
        try clear bL
        try clear bM
        try clear bO
        try clear bW
        try clear bX
        try clear bY
        try clear ba
        try clear bb
        try clear bh
        try clear bi
        try clear bj
        try clear bk
        try clear bl
        try clear br
        try clear bs
        try clear bt
        try clear bu
        try clear bv
        try clear cY
        try clear cZ
        try clear ca
        try clear cb
        try clear cc
        try clear ci
        try clear cj
        try clear ck
        try clear cl
        try clear cm
        try clear cC
        try clear cD
        try clear cE
        try clear cF
        try clear cG
        try clear cM
        try clear cN
        try clear cO
        try clear cP
        try clear cQ
        try clear bE
        try clear bF
        try clear bG
        try clear bH
        try clear bI
        try clear bQ
        try clear bR
        try clear bT
        try clear bU
        try clear bV
        try clear bc
        try clear bd
        try clear be
        try clear bf
        try clear bg
        try clear bm
        try clear bn
        try clear bo
        try clear bp
        try clear bq
        try clear bw
        try clear bx
        try clear bz
        try clear c0
        try clear cA
        try clear cd
        try clear ce
        try clear cf
        try clear cg
        try clear ch
        try clear cn
        try clear co
        try clear cp
        try clear cq
        try clear cr
        try clear cH
        try clear cI
        try clear cJ
        try clear cK
        try clear cL
        try clear cR
        try clear cS
        try clear cT
        try clear cU
        try clear cV
        try clear ai
        try clear aj
        try clear ak
        try clear ax
        try clear ay
        try clear az
        try clear b1
        try clear b2
        try clear b3
        try clear p2
        try clear p213
        try clear p214
        try clear p215
        try clear q2
        try clear q213
        try clear q214
        try clear q215
        obtain ⟨a2, rfl, HA, HK3, a0, HB⟩ := hrel
        cases gk with
        | zero => exact absurd HA.out (by simp [hackamoreref28_Check.l1])
        | succ k3 =>
         have H := HA.out
         clear HA
         simp only [hackamoreref28_Check.l1] at H
         by_cases c26 : a2 < (a1.length : Int)
         ·rw [if_pos c26] at H
          have c26b0 : decide (a2 < (a1.length : Int)) = true := decide_eq_true c26
          clear c26
          by_cases c27 : 0 ≤ a2
          ·rw [if_pos c27] at H
           have c27b0 : decide (0 ≤ a2) = true := decide_eq_true c27
           clear c27
           by_cases c28 : ((rZ2 a1 a2).f2) < 0
           ·rw [if_pos c28] at H
            have c28b0 : decide (((rZ2 a1 a2).f2) < 0) = true := decide_eq_true c28
            clear c28
            obtain rfl := Option.some.inj H
            have d2 : wr.cell? ⟨a4, 0, none⟩ = some (.slice ac a5.length ad) := (kC a0.out 0).trans rfl
            have d3 : wr.cell? ⟨a4, 1, none⟩ = some (.int .i64 a7) := (kC a0.out 1).trans rfl
            have d4 : wr.cell? ⟨a4, 2, none⟩ = some (.int .i64 a6) := (kC a0.out 2).trans rfl
            have d5 : wr.cell? ⟨a4, 3, none⟩ = some (.slice ae a1.length af) := (kC a0.out 3).trans rfl
            have d6 : wr.cell? ⟨a4, 4, none⟩ = some (.bool aD) := (kC a0.out 4).trans rfl
            have d7 := kF a0.out 0
            have d8 := kF a0.out 1
            have d9 := kF a0.out 2
            have dA := kF a0.out 3
            have dB := kF a0.out 4
            have p216 : 0 ≤ (a2 : Int) := of_decide_eq_true (by assumption)
            have q216 : a2 < (a1.length : Int) := of_decide_eq_true (by assumption)
            obtain ⟨ad216, e216, aA, aB, aC⟩ := at_T122 av.out a2 p216 q216
            cases e216
            replace aA := (HB.out.cell (World.block_lt_of_cell? w _ aA)).trans aA
            replace aB := (HB.out.cell (World.block_lt_of_cell? w _ aB)).trans aB
            replace aC := (HB.out.cell (World.block_lt_of_cell? w _ aC)).trans aC
            replace p216 := eq_true p216
            replace q216 := eq_true q216
            go_wp2_with (first | ((with_reducible refine gate_dst (N := 6) rfl ?_); refine box_event ?hg (N := 6) ?hd (cs := #[.int .i64 0, .int .i64 0, .int .i64 0]) (t := 122) ?hr ?_; (case hd => rfl); (case hg => rfl); (case hr => first | (go_simp; done) | (go_simp; rfl)); intro a3 hg w30 hbox hb; have ag := Z0.mk (kB (by (with_reducible repeat first | apply kN | apply kD | apply kA); exact a0.out) hb); have ah := Z0.mk (bP (by repeat (first | (with_reducible first | apply bA | apply bN | apply bD | refine bS ?_ a9.out) | exact HB.out)) hb); have ab := Z0.mk (hbox); have aa := Z0.mk ((by rw [hg]; exact (bZ (by repeat (first | (with_reducible first | apply bA | apply bN | apply bD | refine bS ?_ a9.out) | exact HB.out))) : w.heap.size ≤ a3)); have ar := aa; have al := Z0.mk ((by rw [hg]; exact Nat.ne_of_lt (blk_lt (by (with_reducible repeat first | apply kN | apply kD | apply kA); exact a0.out)) : a4 ≠ a3)); have au := Z0.mk (Ne.symm al.out); clear a0 HB; have a0 := ag; have HB := ah; have ap := ab; have aS := aa; have aq := ar; have aG := al; have aN := au; clear ag ah ab aa ar al au hb hbox hg; have hnb31 := aN.out; have hnc31 := aG.out; obtain ⟨dC, dD, dE, dF, dG, dH⟩ := kc3 ap.out))
            repeat (go_quiet (fail); try go_wp2)
            go_ret
            exact ⟨by first | rfl | (simp [errW_none, errW_some] <;> rfl) | (simp [*, errW_none, errW_some] <;> rfl), by repeat (first | (with_reducible first | apply bA | apply bN | apply bD | refine bS ?_ a9.out | refine bS ?_ aq.out) | exact HB.out)⟩
           ·rw [if_neg c28] at H
            have c28b0 : decide (((rZ2 a1 a2).f2) < 0) = false := decide_eq_false c28
            clear c28
            by_cases c33 : ((rZ2 a1 a2).f2) ≥ (a5.length : Int)
            ·rw [if_pos c33] at H
             have c33b0 : decide ((a5.length : Int) ≤ ((rZ2 a1 a2).f2)) = true := decide_eq_true c33
             clear c33
             obtain rfl := Option.some.inj H
             have dI : wr.cell? ⟨a4, 0, none⟩ = some (.slice ac a5.length ad) := (kC a0.out 0).trans rfl
             have dJ : wr.cell? ⟨a4, 1, none⟩ = some (.int .i64 a7) := (kC a0.out 1).trans rfl
             have dK : wr.cell? ⟨a4, 2, none⟩ = some (.int .i64 a6) := (kC a0.out 2).trans rfl
             have dL : wr.cell? ⟨a4, 3, none⟩ = some (.slice ae a1.length af) := (kC a0.out 3).trans rfl
             have dM : wr.cell? ⟨a4, 4, none⟩ = some (.bool aD) := (kC a0.out 4).trans rfl
             have dN := kF a0.out 0
             have dO := kF a0.out 1
             have dP := kF a0.out 2
             have dQ := kF a0.out 3
             have dR := kF a0.out 4
             have p216 : 0 ≤ (a2 : Int) := of_decide_eq_true (by assumption)
             have q216 : a2 < (a1.length : Int) := of_decide_eq_true (by assumption)
             obtain ⟨ad216, e216, aA, aB, aC⟩ := at_T122 av.out a2 p216 q216
             cases e216
             replace aA := (HB.out.cell (World.block_lt_of_cell? w _ aA)).trans aA
             replace aB := (HB.out.cell (World.block_lt_of_cell? w _ aB)).trans aB
             replace aC := (HB.out.cell (World.block_lt_of_cell? w _ aC)).trans aC
             replace p216 := eq_true p216
             replace q216 := eq_true q216
             go_wp2_with (first | ((with_reducible refine gate_dst (N := 6) rfl ?_); refine box_event ?hg (N := 6) ?hd (cs := #[.int .i64 0, .int .i64 0, .int .i64 0]) (t := 122) ?hr ?_; (case hd => rfl); (case hg => rfl); (case hr => first | (go_simp; done) | (go_simp; rfl)); intro a3 hg w35 hbox hb; have ag := Z0.mk (kB (by (with_reducible repeat first | apply kN | apply kD | apply kA); exact a0.out) hb); have ah := Z0.mk (bP (by repeat (first | (with_reducible first | apply bA | apply bN | apply bD | refine bS ?_ a9.out) | exact HB.out)) hb); have ab := Z0.mk (hbox); have aa := Z0.mk ((by rw [hg]; exact (bZ (by repeat (first | (with_reducible first | apply bA | apply bN | apply bD | refine bS ?_ a9.out) | exact HB.out))) : w.heap.size ≤ a3)); have ar := aa; have al := Z0.mk ((by rw [hg]; exact Nat.ne_of_lt (blk_lt (by (with_reducible repeat first | apply kN | apply kD | apply kA); exact a0.out)) : a4 ≠ a3)); have au := Z0.mk (Ne.symm al.out); clear a0 HB; have a0 := ag; have HB := ah; have ap := ab; have aS := aa; have aq := ar; have aG := al; have aN := au; clear ag ah ab aa ar al au hb hbox hg; have hnb36 := aN.out; have hnc36 := aG.out; obtain ⟨dS, dT, dU, dV, dW, dX⟩ := kc3 ap.out))
             repeat (go_quiet (fail); try go_wp2)
             go_ret
             exact ⟨by first | rfl | (simp [errW_none, errW_some] <;> rfl) | (simp [*, errW_none, errW_some] <;> rfl), by repeat (first | (with_reducible first | apply bA | apply bN | apply bD | refine bS ?_ a9.out | refine bS ?_ aq.out) | exact HB.out)⟩
            ·rw [if_neg c33] at H
             have c33b0 : decide ((a5.length : Int) ≤ ((rZ2 a1 a2).f2)) = false := decide_eq_false c33
             clear c33
             by_cases c38 : ((rZ2 a1 a2).f1) < 0
             ·rw [if_pos c38] at H
              have c38b0 : decide (((rZ2 a1 a2).f1) < 0) = true := decide_eq_true c38
              clear c38
              obtain rfl := Option.some.inj H
              have dY : wr.cell? ⟨a4, 0, none⟩ = some (.slice ac a5.length ad) := (kC a0.out 0).trans rfl
              have dZ : wr.cell? ⟨a4, 1, none⟩ = some (.int .i64 a7) := (kC a0.out 1).trans rfl
              have da : wr.cell? ⟨a4, 2, none⟩ = some (.int .i64 a6) := (kC a0.out 2).trans rfl
              have db : wr.cell? ⟨a4, 3, none⟩ = some (.slice ae a1.length af) := (kC a0.out 3).trans rfl
              have dc : wr.cell? ⟨a4, 4, none⟩ = some (.bool aD) := (kC a0.out 4).trans rfl
              have dd := kF a0.out 0
              have de := kF a0.out 1
              have df := kF a0.out 2
              have dg := kF a0.out 3
              have dh := kF a0.out 4
              have p216 : 0 ≤ (a2 : Int) := of_decide_eq_true (by assumption)
              have q216 : a2 < (a1.length : Int) := of_decide_eq_true (by assumption)
              obtain ⟨ad216, e216, aA, aB, aC⟩ := at_T122 av.out a2 p216 q216
              cases e216
              replace aA := (HB.out.cell (World.block_lt_of_cell? w _ aA)).trans aA
              replace aB := (HB.out.cell (World.block_lt_of_cell? w _ aB)).trans aB
              replace aC := (HB.out.cell (World.block_lt_of_cell? w _ aC)).trans aC
              replace p216 := eq_true p216
              replace q216 := eq_true q216
              go_wp2_with (first | ((with_reducible refine gate_dst (N := 6) rfl ?_); refine box_event ?hg (N := 6) ?hd (cs := #[.int .i64 0, .int .i64 0, .int .i64 0]) (t := 122) ?hr ?_; (case hd => rfl); (case hg => rfl); (case hr => first | (go_simp; done) | (go_simp; rfl)); intro a3 hg w40 hbox hb; have ag := Z0.mk (kB (by (with_reducible repeat first | apply kN | apply kD | apply kA); exact a0.out) hb); have ah := Z0.mk (bP (by repeat (first | (with_reducible first | apply bA | apply bN | apply bD | refine bS ?_ a9.out) | exact HB.out)) hb); have ab := Z0.mk (hbox); have aa := Z0.mk ((by rw [hg]; exact (bZ (by repeat (first | (with_reducible first | apply bA | apply bN | apply bD | refine bS ?_ a9.out) | exact HB.out))) : w.heap.size ≤ a3)); have ar := aa; have al := Z0.mk ((by rw [hg]; exact Nat.ne_of_lt (blk_lt (by (with_reducible repeat first | apply kN | apply kD | apply kA); exact a0.out)) : a4 ≠ a3)); have au := Z0.mk (Ne.symm al.out); clear a0 HB; have a0 := ag; have HB := ah; have ap := ab; have aS := aa; have aq := ar; have aG := al; have aN := au; clear ag ah ab aa ar al au hb hbox hg; have hnb41 := aN.out; have hnc41 := aG.out; obtain ⟨di, dj, dk, dl, dm, dn⟩ := kc3 ap.out))
              repeat (go_quiet (fail); try go_wp2)
              go_ret
              exact ⟨by first | rfl | (simp [errW_none, errW_some] <;> rfl) | (simp [*, errW_none, errW_some] <;> rfl), by repeat (first | (with_reducible first | apply bA | apply bN | apply bD | refine bS ?_ a9.out | refine bS ?_ aq.out) | exact HB.out)⟩
             ·rw [if_neg c38] at H
              have c38b0 : decide (((rZ2 a1 a2).f1) < 0) = false := decide_eq_false c38
              clear c38
              by_cases c43 : ((rZ2 a1 a2).f1) ≥ (a5.length : Int)
              ·rw [if_pos c43] at H
               have c43b0 : decide ((a5.length : Int) ≤ ((rZ2 a1 a2).f1)) = true := decide_eq_true c43
               clear c43
               obtain rfl := Option.some.inj H
               have dp : wr.cell? ⟨a4, 0, none⟩ = some (.slice ac a5.length ad) := (kC a0.out 0).trans rfl
               have dq : wr.cell? ⟨a4, 1, none⟩ = some (.int .i64 a7) := (kC a0.out 1).trans rfl
               have dr : wr.cell? ⟨a4, 2, none⟩ = some (.int .i64 a6) := (kC a0.out 2).trans rfl
               have ds : wr.cell? ⟨a4, 3, none⟩ = some (.slice ae a1.length af) := (kC a0.out 3).trans rfl
               have dt : wr.cell? ⟨a4, 4, none⟩ = some (.bool aD) := (kC a0.out 4).trans rfl
               have du := kF a0.out 0
               have dv := kF a0.out 1
               have dw := kF a0.out 2
               have dx := kF a0.out 3
               have dy := kF a0.out 4
               have p216 : 0 ≤ (a2 : Int) := of_decide_eq_true (by assumption)
               have q216 : a2 < (a1.length : Int) := of_decide_eq_true (by assumption)
               obtain ⟨ad216, e216, aA, aB, aC⟩ := at_T122 av.out a2 p216 q216
               cases e216
               replace aA := (HB.out.cell (World.block_lt_of_cell? w _ aA)).trans aA
               replace aB := (HB.out.cell (World.block_lt_of_cell? w _ aB)).trans aB
               replace aC := (HB.out.cell (World.block_lt_of_cell? w _ aC)).trans aC
               replace p216 := eq_true p216
               replace q216 := eq_true q216
               go_wp2_with (first | ((with_reducible refine gate_dst (N := 6) rfl ?_); refine box_event ?hg (N := 6) ?hd (cs := #[.int .i64 0, .int .i64 0, .int .i64 0]) (t := 122) ?hr ?_; (case hd => rfl); (case hg => rfl); (case hr => first | (go_simp; done) | (go_simp; rfl)); intro a3 hg w45 hbox hb; have ag := Z0.mk (kB (by (with_reducible repeat first | apply kN | apply kD | apply kA); exact a0.out) hb); have ah := Z0.mk (bP (by repeat (first | (with_reducible first | apply bA | apply bN | apply bD | refine bS ?_ a9.out) | exact HB.out)) hb); have ab := Z0.mk (hbox); have aa := Z0.mk ((by rw [hg]; exact (bZ (by repeat (first | (with_reducible first | apply bA | apply bN | apply bD | refine bS ?_ a9.out) | exact HB.out))) : w.heap.size ≤ a3)); have ar := aa; have al := Z0.mk ((by rw [hg]; exact Nat.ne_of_lt (blk_lt (by (with_reducible repeat first | apply kN | apply kD | apply kA); exact a0.out)) : a4 ≠ a3)); have au := Z0.mk (Ne.symm al.out); clear a0 HB; have a0 := ag; have HB := ah; have ap := ab; have aS := aa; have aq := ar; have aG := al; have aN := au; clear ag ah ab aa ar al au hb hbox hg; have hnb46 := aN.out; have hnc46 := aG.out; obtain ⟨dz, e0, e1, e2, e3, e4⟩ := kc3 ap.out))
               repeat (go_quiet (fail); try go_wp2)
               go_ret
               exact ⟨by first | rfl | (simp [errW_none, errW_some] <;> rfl) | (simp [*, errW_none, errW_some] <;> rfl), by repeat (first | (with_reducible first | apply bA | apply bN | apply bD | refine bS ?_ a9.out | refine bS ?_ aq.out) | exact HB.out)⟩
              ·rw [if_neg c43] at H
               have c43b0 : decide ((a5.length : Int) ≤ ((rZ2 a1 a2).f1)) = false := decide_eq_false c43
               clear c43
               by_cases c48 : ((rZ2 a1 a2).f0) < 0
               ·rw [if_pos c48] at H
                have c48b0 : decide (((rZ2 a1 a2).f0) < 0) = true := decide_eq_true c48
                clear c48
                obtain rfl := Option.some.inj H
                have e5 : wr.cell? ⟨a4, 0, none⟩ = some (.slice ac a5.length ad) := (kC a0.out 0).trans rfl
                have e6 : wr.cell? ⟨a4, 1, none⟩ = some (.int .i64 a7) := (kC a0.out 1).trans rfl
                have e7 : wr.cell? ⟨a4, 2, none⟩ = some (.int .i64 a6) := (kC a0.out 2).trans rfl
                have e8 : wr.cell? ⟨a4, 3, none⟩ = some (.slice ae a1.length af) := (kC a0.out 3).trans rfl
                have e9 : wr.cell? ⟨a4, 4, none⟩ = some (.bool aD) := (kC a0.out 4).trans rfl
                have eA := kF a0.out 0
                have eB := kF a0.out 1
                have eC := kF a0.out 2
                have eD := kF a0.out 3
                have eE := kF a0.out 4
                have p216 : 0 ≤ (a2 : Int) := of_decide_eq_true (by assumption)
                have q216 : a2 < (a1.length : Int) := of_decide_eq_true (by assumption)
                obtain ⟨ad216, e216, aA, aB, aC⟩ := at_T122 av.out a2 p216 q216
                cases e216
                replace aA := (HB.out.cell (World.block_lt_of_cell? w _ aA)).trans aA
                replace aB := (HB.out.cell (World.block_lt_of_cell? w _ aB)).trans aB
                replace aC := (HB.out.cell (World.block_lt_of_cell? w _ aC)).trans aC
                replace p216 := eq_true p216
                replace q216 := eq_true q216
                go_wp2_with (first | ((with_reducible refine gate_dst (N := 6) rfl ?_); refine box_event ?hg (N := 6) ?hd (cs := #[.int .i64 0, .int .i64 0, .int .i64 0]) (t := 122) ?hr ?_; (case hd => rfl); (case hg => rfl); (case hr => first | (go_simp; done) | (go_simp; rfl)); intro a3 hg w50 hbox hb; have ag := Z0.mk (kB (by (with_reducible repeat first | apply kN | apply kD | apply kA); exact a0.out) hb); have ah := Z0.mk (bP (by repeat (first | (with_reducible first | apply bA | apply bN | apply bD | refine bS ?_ a9.out) | exact HB.out)) hb); have ab := Z0.mk (hbox); have aa := Z0.mk ((by rw [hg]; exact (bZ (by repeat (first | (with_reducible first | apply bA | apply bN | apply bD | refine bS ?_ a9.out) | exact HB.out))) : w.heap.size ≤ a3)); have ar := aa; have al := Z0.mk ((by rw [hg]; exact Nat.ne_of_lt (blk_lt (by (with_reducible repeat first | apply kN | apply kD | apply kA); exact a0.out)) : a4 ≠ a3)); have au := Z0.mk (Ne.symm al.out); clear a0 HB; have a0 := ag; have HB := ah; have ap := ab; have aS := aa; have aq := ar; have aG := al; have aN := au; clear ag ah ab aa ar al au hb hbox hg; have hnb51 := aN.out; have hnc51 := aG.out; obtain ⟨eF, eG, eH, eI, eJ, eK⟩ := kc3 ap.out))
                repeat (go_quiet (fail); try go_wp2)
                go_ret
                exact ⟨by first | rfl | (simp [errW_none, errW_some] <;> rfl) | (simp [*, errW_none, errW_some] <;> rfl), by repeat (first | (with_reducible first | apply bA | apply bN | apply bD | refine bS ?_ a9.out | refine bS ?_ aq.out) | exact HB.out)⟩
               ·rw [if_neg c48] at H
                have c48b0 : decide (((rZ2 a1 a2).f0) < 0) = false := decide_eq_false c48
                clear c48
                by_cases c53 : a2 > 0
                ·rw [if_pos c53] at H
                 have c53b0 : decide (0 < a2) = true := decide_eq_true c53
                 clear c53
                 obtain ⟨ji54, hji54⟩ : ∃ j_ : Int, (wrap64 (a2 - 1)) = j_ := ⟨_, rfl⟩
                 replace H : (if 0 ≤ (ji54) then (if (ji54) < (a1.length : Int) then (if ((rZ2 a1 (ji54)).f0) ≥ ((rZ2 a1 a2).f0) then (some 14) else (if 0 ≤ ((rZ2 a1 a2).f2) then (if ((rZ2 a1 a2).f2) < (a5.length : Int) then (if ((rZ5 a5 ((rZ2 a1 a2).f2)).f1) = ((rZ2 a1 a2).f0) then (hackamoreref28_Check.l1 k3 (a5.length : Int) (wrap64 (a2 + 1)) a5 a7 a6 a1 aD) else (some 14)) else (none)) else (none))) else (none)) else (none)) = some r := by first | (rw [hji54] at H; exact H) | (simp only [hji54] at H ⊢; exact H)
                 have hji54w : (IntKind.i64.wrap (a2 - 1)) = ji54 := (i64_w _).trans hji54
                 by_cases c55 : 0 ≤ (ji54)
                 ·rw [if_pos c55] at H
                  have c55b0 : decide (0 ≤ (ji54)) = true := decide_eq_true c55
                  clear c55
                  by_cases c56 : (ji54) < (a1.length : Int)
                  ·rw [if_pos c56] at H
                   have c56b0 : decide ((ji54) < (a1.length : Int)) = true := decide_eq_true c56
                   clear c56
                   by_cases c57 : ((rZ2 a1 (ji54)).f0) ≥ ((rZ2 a1 a2).f0)
                   ·rw [if_pos c57] at H
                    have c57b0 : decide (((rZ2 a1 a2).f0) ≤ ((rZ2 a1 (ji54)).f0)) = true := decide_eq_true c57
                    clear c57
                    obtain rfl := Option.some.inj H
                    have eL : wr.cell? ⟨a4, 0, none⟩ = some (.slice ac a5.length ad) := (kC a0.out 0).trans rfl
                    have eM : wr.cell? ⟨a4, 1, none⟩ = some (.int .i64 a7) := (kC a0.out 1).trans rfl
                    have eN : wr.cell? ⟨a4, 2, none⟩ = some (.int .i64 a6) := (kC a0.out 2).trans rfl
                    have eO : wr.cell? ⟨a4, 3, none⟩ = some (.slice ae a1.length af) := (kC a0.out 3).trans rfl
                    have eP : wr.cell? ⟨a4, 4, none⟩ = some (.bool aD) := (kC a0.out 4).trans rfl
                    have eQ := kF a0.out 0
                    have eR := kF a0.out 1
                    have eS := kF a0.out 2
                    have eT := kF a0.out 3
                    have eU := kF a0.out 4
                    have p216 : 0 ≤ (a2 : Int) := of_decide_eq_true (by assumption)
                    have q216 : a2 < (a1.length : Int) := of_decide_eq_true (by assumption)
                    obtain ⟨ad216, e216, aA, aB, aC⟩ := at_T122 av.out a2 p216 q216
                    cases e216
                    replace aA := (HB.out.cell (World.block_lt_of_cell? w _ aA)).trans aA
                    replace aB := (HB.out.cell (World.block_lt_of_cell? w _ aB)).trans aB
                    replace aC := (HB.out.cell (World.block_lt_of_cell? w _ aC)).trans aC
                    replace p216 := eq_true p216
                    replace q216 := eq_true q216
                    go_wp2_with (first | ((with_reducible refine gate_dst (N := 6) rfl ?_); refine box_event ?hg (N := 6) ?hd (cs := #[.int .i64 0, .int .i64 0, .int .i64 0]) (t := 122) ?hr ?_; (case hd => rfl); (case hg => rfl); (case hr => first | (go_simp; done) | (go_simp; rfl)); intro a3 hg w59 hbox hb; have ag := Z0.mk (kB (by (with_reducible repeat first | apply kN | apply kD | apply kA); exact a0.out) hb); have ah := Z0.mk (bP (by repeat (first | (with_reducible first | apply bA | apply bN | apply bD | refine bS ?_ a9.out) | exact HB.out)) hb); have ab := Z0.mk (hbox); have aa := Z0.mk ((by rw [hg]; exact (bZ (by repeat (first | (with_reducible first | apply bA | apply bN | apply bD | refine bS ?_ a9.out) | exact HB.out))) : w.heap.size ≤ a3)); have ar := aa; have al := Z0.mk ((by rw [hg]; exact Nat.ne_of_lt (blk_lt (by (with_reducible repeat first | apply kN | apply kD | apply kA); exact a0.out)) : a4 ≠ a3)); have au := Z0.mk (Ne.symm al.out); clear a0 HB; have a0 := ag; have HB := ah; have ap := ab; have aS := aa; have aq := ar; have aG := al; have aN := au; clear ag ah ab aa ar al au hb hbox hg; have hnb60 := aN.out; have hnc60 := aG.out; obtain ⟨eV, eW, eX, eY, eZ, ea⟩ := kc3 ap.out; obtain ⟨eb, ec, ed, ee, ef, eg, eh, ei, ej, ek⟩ := kc5 a0.out; have p218 : 0 ≤ ((ji54) : Int) := of_decide_eq_true (by assumption); have q218 : (ji54) < (a1.length : Int) := of_decide_eq_true (by assumption); obtain ⟨ad218, e218, a8, aE, aF⟩ := at_T122 av.out (ji54) p218 q218; obtain rfl : ad216 = ad218 := (by injection e218); have aH : ad216.block ≠ a3 := Nat.ne_of_lt (Nat.lt_of_lt_of_le (by have := World.block_lt_of_cell? _ _ a8; first | rwa [aBk] at this | exact this) aS.out); have aI : ad216.block ≠ a3 := Nat.ne_of_lt (Nat.lt_of_lt_of_le (by have := World.block_lt_of_cell? _ _ a8; first | rwa [aBk] at this | exact this) aS.out); have aJ : ad216.block ≠ a3 := Nat.ne_of_lt (Nat.lt_of_lt_of_le (by have := World.block_lt_of_cell? _ _ a8; first | rwa [aBk] at this | exact this) aS.out); replace a8 := (HB.out.cell (World.block_lt_of_cell? w _ a8)).trans a8; replace aE := (HB.out.cell (World.block_lt_of_cell? w _ aE)).trans aE; replace aF := (HB.out.cell (World.block_lt_of_cell? w _ aF)).trans aF; replace a8 := (cell_far (p := ⟨a3, 0, none⟩) (by first | (rw [aBk]; exact aH) | (show (Addr.add _ _).block ≠ _; rw [aBk]; exact aH) | exact aH) (.int .i64 ((rZ2 a1 a2).f0))).trans a8; replace aE := (cell_far (p := ⟨a3, 0, none⟩) (by first | (rw [aBk]; exact aH) | (show (Addr.add _ _).block ≠ _; rw [aBk]; exact aH) | exact aH) (.int .i64 ((rZ2 a1 a2).f0))).trans aE; replace aF := (cell_far (p := ⟨a3, 0, none⟩) (by first | (rw [aBk]; exact aH) | (show (Addr.add _ _).block ≠ _; rw [aBk]; exact aH) | exact aH) (.int .i64 ((rZ2 a1 a2).f0))).trans aF; replace a8 := (cell_far (p := ⟨a3, 1, none⟩) (by first | (rw [aBk]; exact aI) | (show (Addr.add _ _).block ≠ _; rw [aBk]; exact aI) | exact aI) (.int .i64 ((rZ2 a1 a2).f1))).trans a8; replace aE := (cell_far (p := ⟨a3, 1, none⟩) (by first | (rw [aBk]; exact aI) | (show (Addr.add _ _).block ≠ _; rw [aBk]; exact aI) | exact aI) (.int .i64 ((rZ2 a1 a2).f1))).trans aE; replace aF := (cell_far (p := ⟨a3, 1, none⟩) (by first | (rw [aBk]; exact aI) | (show (Addr.add _ _).block ≠ _; rw [aBk]; exact aI) | exact aI) (.int .i64 ((rZ2 a1 a2).f1))).trans aF; replace a8 := (cell_far (p := ⟨a3, 2, none⟩) (by first | (rw [aBk]; exact aJ) | (show (Addr.add _ _).block ≠ _; rw [aBk]; exact aJ) | exact aJ) (.int .i64 ((rZ2 a1 a2).f2))).trans a8; replace aE := (cell_far (p := ⟨a3, 2, none⟩) (by first | (rw [aBk]; exact aJ) | (show (Addr.add _ _).block ≠ _; rw [aBk]; exact aJ) | exact aJ) (.int .i64 ((rZ2 a1 a2).f2))).trans aE; replace aF := (cell_far (p := ⟨a3, 2, none⟩) (by first | (rw [aBk]; exact aJ) | (show (Addr.add _ _).block ≠ _; rw [aBk]; exact aJ) | exact aJ) (.int .i64 ((rZ2 a1 a2).f2))).trans aF; (try have ct := fun (n_ : Nat) => (show (((((w59.drewN n_).setCell ⟨a3, 0, none⟩ (.int .i64 ((rZ2 a1 a2).f0))).setCell ⟨a3, 1, none⟩ (.int .i64 ((rZ2 a1 a2).f1))).setCell ⟨a3, 2, none⟩ (.int .i64 ((rZ2 a1 a2).f2)))).cell? _ = some _ from a8)); (try have cu := fun (n_ : Nat) => (show (((((w59.drewN n_).setCell ⟨a3, 0, none⟩ (.int .i64 ((rZ2 a1 a2).f0))).setCell ⟨a3, 1, none⟩ (.int .i64 ((rZ2 a1 a2).f1))).setCell ⟨a3, 2, none⟩ (.int .i64 ((rZ2 a1 a2).f2)))).cell? _ = some _ from aE)); (try have cv := fun (n_ : Nat) => (show (((((w59.drewN n_).setCell ⟨a3, 0, none⟩ (.int .i64 ((rZ2 a1 a2).f0))).setCell ⟨a3, 1, none⟩ (.int .i64 ((rZ2 a1 a2).f1))).setCell ⟨a3, 2, none⟩ (.int .i64 ((rZ2 a1 a2).f2)))).cell? _ = some _ from aF)); clear aH aI aJ; replace p218 := eq_true p218; replace q218 := eq_true q218))
                    repeat (go_quiet (fail); try go_wp2)
                    go_ret
                    exact ⟨by first | rfl | (simp [errW_none, errW_some] <;> rfl) | (simp only [← hji54]; first | rfl | (simp [errW_none, errW_some] <;> rfl)) | (simp [*, errW_none, errW_some] <;> rfl), by repeat (first | (with_reducible first | apply bA | apply bN | apply bD | refine bS ?_ a9.out | refine bS ?_ aq.out) | exact HB.out)⟩
                   ·rw [if_neg c57] at H
                    have c57b0 : decide (((rZ2 a1 a2).f0) ≤ ((rZ2 a1 (ji54)).f0)) = false := decide_eq_false c57
                    clear c57
                    by_cases c63 : 0 ≤ ((rZ2 a1 a2).f2)
                    ·rw [if_pos c63] at H
                     have c63b0 : decide (0 ≤ ((rZ2 a1 a2).f2)) = true := decide_eq_true c63
                     clear c63
                     by_cases c64 : ((rZ2 a1 a2).f2) < (a5.length : Int)
                     ·rw [if_pos c64] at H
                      have c64b0 : decide (((rZ2 a1 a2).f2) < (a5.length : Int)) = true := decide_eq_true c64
                      clear c64
                      by_cases c65 : ((rZ5 a5 ((rZ2 a1 a2).f2)).f1) = ((rZ2 a1 a2).f0)
                      ·rw [if_pos c65] at H
                       have c65b0 : (((rZ5 a5 ((rZ2 a1 a2).f2)).f1) == ((rZ2 a1 a2).f0)) = true := beq_iff_eq.mpr c65
                       have c65b1 : (((rZ5 a5 ((rZ2 a1 a2).f2)).f1) != ((rZ2 a1 a2).f0)) = false := bne_eq_false_iff_eq.mpr c65
                       clear c65
                       have H' := Z0.mk H
                       clear H
                       have el : wr.cell? ⟨a4, 0, none⟩ = some (.slice ac a5.length ad) := (kC a0.out 0).trans rfl
                       have em : wr.cell? ⟨a4, 1, none⟩ = some (.int .i64 a7) := (kC a0.out 1).trans rfl
                       have en : wr.cell? ⟨a4, 2, none⟩ = some (.int .i64 a6) := (kC a0.out 2).trans rfl
                       have eo : wr.cell? ⟨a4, 3, none⟩ = some (.slice ae a1.length af) := (kC a0.out 3).trans rfl
                       have ep : wr.cell? ⟨a4, 4, none⟩ = some (.bool aD) := (kC a0.out 4).trans rfl
                       have eq := kF a0.out 0
                       have er := kF a0.out 1
                       have es := kF a0.out 2
                       have et := kF a0.out 3
                       have eu := kF a0.out 4
                       have p216 : 0 ≤ (a2 : Int) := of_decide_eq_true (by assumption)
                       have q216 : a2 < (a1.length : Int) := of_decide_eq_true (by assumption)
                       obtain ⟨ad216, e216, aA, aB, aC⟩ := at_T122 av.out a2 p216 q216
                       cases e216
                       replace aA := (HB.out.cell (World.block_lt_of_cell? w _ aA)).trans aA
                       replace aB := (HB.out.cell (World.block_lt_of_cell? w _ aB)).trans aB
                       replace aC := (HB.out.cell (World.block_lt_of_cell? w _ aC)).trans aC
                       replace p216 := eq_true p216
                       replace q216 := eq_true q216
                       go_wp2_with (first | ((with_reducible refine gate_dst (N := 6) rfl ?_); refine box_event ?hg (N := 6) ?hd (cs := #[.int .i64 0, .int .i64 0, .int .i64 0]) (t := 122) ?hr ?_; (case hd => rfl); (case hg => rfl); (case hr => first | (go_simp; done) | (go_simp; rfl)); intro a3 hg w67 hbox hb; have ag := Z0.mk (kB (by (with_reducible repeat first | apply kN | apply kD | apply kA); exact a0.out) hb); have ah := Z0.mk (bP (by repeat (first | (with_reducible first | apply bA | apply bN | apply bD | refine bS ?_ a9.out) | exact HB.out)) hb); have ab := Z0.mk (hbox); have aa := Z0.mk ((by rw [hg]; exact (bZ (by repeat (first | (with_reducible first | apply bA | apply bN | apply bD | refine bS ?_ a9.out) | exact HB.out))) : w.heap.size ≤ a3)); have ar := aa; have al := Z0.mk ((by rw [hg]; exact Nat.ne_of_lt (blk_lt (by (with_reducible repeat first | apply kN | apply kD | apply kA); exact a0.out)) : a4 ≠ a3)); have au := Z0.mk (Ne.symm al.out); clear a0 HB; have a0 := ag; have HB := ah; have ap := ab; have aS := aa; have aq := ar; have aG := al; have aN := au; clear ag ah ab aa ar al au hb hbox hg; have hnb68 := aN.out; have hnc68 := aG.out; obtain ⟨ev, ew, ex, ey, ez, f3⟩ := kc3 ap.out; obtain ⟨f4, f5, f6, f7, f8, f9, fA, fB, fC, fD⟩ := kc5 a0.out; have p218 : 0 ≤ ((ji54) : Int) := of_decide_eq_true (by assumption); have q218 : (ji54) < (a1.length : Int) := of_decide_eq_true (by assumption); obtain ⟨ad218, e218, a8, aE, aF⟩ := at_T122 av.out (ji54) p218 q218; obtain rfl : ad216 = ad218 := (by injection e218); have aH : ad216.block ≠ a3 := Nat.ne_of_lt (Nat.lt_of_lt_of_le (by have := World.block_lt_of_cell? _ _ a8; first | rwa [aBk] at this | exact this) aS.out); have aI : ad216.block ≠ a3 := Nat.ne_of_lt (Nat.lt_of_lt_of_le (by have := World.block_lt_of_cell? _ _ a8; first | rwa [aBk] at this | exact this) aS.out); have aJ : ad216.block ≠ a3 := Nat.ne_of_lt (Nat.lt_of_lt_of_le (by have := World.block_lt_of_cell? _ _ a8; first | rwa [aBk] at this | exact this) aS.out); replace a8 := (HB.out.cell (World.block_lt_of_cell? w _ a8)).trans a8; replace aE := (HB.out.cell (World.block_lt_of_cell? w _ aE)).trans aE; replace aF := (HB.out.cell (World.block_lt_of_cell? w _ aF)).trans aF; replace a8 := (cell_far (p := ⟨a3, 0, none⟩) (by first | (rw [aBk]; exact aH) | (show (Addr.add _ _).block ≠ _; rw [aBk]; exact aH) | exact aH) (.int .i64 ((rZ2 a1 a2).f0))).trans a8; replace aE := (cell_far (p := ⟨a3, 0, none⟩) (by first | (rw [aBk]; exact aH) | (show (Addr.add _ _).block ≠ _; rw [aBk]; exact aH) | exact aH) (.int .i64 ((rZ2 a1 a2).f0))).trans aE; replace aF := (cell_far (p := ⟨a3, 0, none⟩) (by first | (rw [aBk]; exact aH) | (show (Addr.add _ _).block ≠ _; rw [aBk]; exact aH) | exact aH) (.int .i64 ((rZ2 a1 a2).f0))).trans aF; replace a8 := (cell_far (p := ⟨a3, 1, none⟩) (by first | (rw [aBk]; exact aI) | (show (Addr.add _ _).block ≠ _; rw [aBk]; exact aI) | exact aI) (.int .i64 ((rZ2 a1 a2).f1))).trans a8; replace aE := (cell_far (p := ⟨a3, 1, none⟩) (by first | (rw [aBk]; exact aI) | (show (Addr.add _ _).block ≠ _; rw [aBk]; exact aI) | exact aI) (.int .i64 ((rZ2 a1 a2).f1))).trans aE; replace aF := (cell_far (p := ⟨a3, 1, none⟩) (by first | (rw [aBk]; exact aI) | (show (Addr.add _ _).block ≠ _; rw [aBk]; exact aI) | exact aI) (.int .i64 ((rZ2 a1 a2).f1))).trans aF; replace a8 := (cell_far (p := ⟨a3, 2, none⟩) (by first | (rw [aBk]; exact aJ) | (show (Addr.add _ _).block ≠ _; rw [aBk]; exact aJ) | exact aJ) (.int .i64 ((rZ2 a1 a2).f2))).trans a8; replace aE := (cell_far (p := ⟨a3, 2, none⟩) (by first | (rw [aBk]; exact aJ) | (show (Addr.add _ _).block ≠ _; rw [aBk]; exact aJ) | exact aJ) (.int .i64 ((rZ2 a1 a2).f2))).trans aE; replace aF := (cell_far (p := ⟨a3, 2, none⟩) (by first | (rw [aBk]; exact aJ) | (show (Addr.add _ _).block ≠ _; rw [aBk]; exact aJ) | exact aJ) (.int .i64 ((rZ2 a1 a2).f2))).trans aF; (try have ct := fun (n_ : Nat) => (show (((((w67.drewN n_).setCell ⟨a3, 0, none⟩ (.int .i64 ((rZ2 a1 a2).f0))).setCell ⟨a3, 1, none⟩ (.int .i64 ((rZ2 a1 a2).f1))).setCell ⟨a3, 2, none⟩ (.int .i64 ((rZ2 a1 a2).f2)))).cell? _ = some _ from a8)); (try have cu := fun (n_ : Nat) => (show (((((w67.drewN n_).setCell ⟨a3, 0, none⟩ (.int .i64 ((rZ2 a1 a2).f0))).setCell ⟨a3, 1, none⟩ (.int .i64 ((rZ2 a1 a2).f1))).setCell ⟨a3, 2, none⟩ (.int .i64 ((rZ2 a1 a2).f2)))).cell? _ = some _ from aE)); (try have cv := fun (n_ : Nat) => (show (((((w67.drewN n_).setCell ⟨a3, 0, none⟩ (.int .i64 ((rZ2 a1 a2).f0))).setCell ⟨a3, 1, none⟩ (.int .i64 ((rZ2 a1 a2).f1))).setCell ⟨a3, 2, none⟩ (.int .i64 ((rZ2 a1 a2).f2)))).cell? _ = some _ from aF)); clear aH aI aJ; replace p218 := eq_true p218; replace q218 := eq_true q218; have p219 : 0 ≤ (((rZ2 a1 a2).f2) : Int) := of_decide_eq_true (by assumption); have q219 : ((rZ2 a1 a2).f2) < (a5.length : Int) := of_decide_eq_true (by assumption); obtain ⟨ad219, e219, aL, aO, aP⟩ := at_T105 b4.out ((rZ2 a1 a2).f2) p219 q219; cases e219; have aT : ad219.block ≠ a3 := Nat.ne_of_lt (Nat.lt_of_lt_of_le (by have := World.block_lt_of_cell? _ _ aL; first | rwa [aBk] at this | exact this) aS.out); have aU : ad219.block ≠ a3 := Nat.ne_of_lt (Nat.lt_of_lt_of_le (by have := World.block_lt_of_cell? _ _ aL; first | rwa [aBk] at this | exact this) aS.out); have aV : ad219.block ≠ a3 := Nat.ne_of_lt (Nat.lt_of_lt_of_le (by have := World.block_lt_of_cell? _ _ aL; first | rwa [aBk] at this | exact this) aS.out); replace aL := (HB.out.cell (World.block_lt_of_cell? w _ aL)).trans aL; replace aO := (HB.out.cell (World.block_lt_of_cell? w _ aO)).trans aO; replace aP := (HB.out.cell (World.block_lt_of_cell? w _ aP)).trans aP; replace aL := (cell_far (p := ⟨a3, 0, none⟩) (by first | (rw [aBk]; exact aT) | (show (Addr.add _ _).block ≠ _; rw [aBk]; exact aT) | exact aT) (.int .i64 ((rZ2 a1 a2).f0))).trans aL; replace aO := (cell_far (p := ⟨a3, 0, none⟩) (by first | (rw [aBk]; exact aT) | (show (Addr.add _ _).block ≠ _; rw [aBk]; exact aT) | exact aT) (.int .i64 ((rZ2 a1 a2).f0))).trans aO; replace aP := (cell_far (p := ⟨a3, 0, none⟩) (by first | (rw [aBk]; exact aT) | (show (Addr.add _ _).block ≠ _; rw [aBk]; exact aT) | exact aT) (.int .i64 ((rZ2 a1 a2).f0))).trans aP; replace aL := (cell_far (p := ⟨a3, 1, none⟩) (by first | (rw [aBk]; exact aU) | (show (Addr.add _ _).block ≠ _; rw [aBk]; exact aU) | exact aU) (.int .i64 ((rZ2 a1 a2).f1))).trans aL; replace aO := (cell_far (p := ⟨a3, 1, none⟩) (by first | (rw [aBk]; exact aU) | (show (Addr.add _ _).block ≠ _; rw [aBk]; exact aU) | exact aU) (.int .i64 ((rZ2 a1 a2).f1))).trans aO; replace aP := (cell_far (p := ⟨a3, 1, none⟩) (by first | (rw [aBk]; exact aU) | (show (Addr.add _ _).block ≠ _; rw [aBk]; exact aU) | exact aU) (.int .i64 ((rZ2 a1 a2).f1))).trans aP; replace aL := (cell_far (p := ⟨a3, 2, none⟩) (by first | (rw [aBk]; exact aV) | (show (Addr.add _ _).block ≠ _; rw [aBk]; exact aV) | exact aV) (.int .i64 ((rZ2 a1 a2).f2))).trans aL; replace aO := (cell_far (p := ⟨a3, 2, none⟩) (by first | (rw [aBk]; exact aV) | (show (Addr.add _ _).block ≠ _; rw [aBk]; exact aV) | exact aV) (.int .i64 ((rZ2 a1 a2).f2))).trans aO; replace aP := (cell_far (p := ⟨a3, 2, none⟩) (by first | (rw [aBk]; exact aV) | (show (Addr.add _ _).block ≠ _; rw [aBk]; exact aV) | exact aV) (.int .i64 ((rZ2 a1 a2).f2))).trans aP; (try have fE := fun (n_ : Nat) => (show (((((w67.drewN n_).setCell ⟨a3, 0, none⟩ (.int .i64 ((rZ2 a1 a2).f0))).setCell ⟨a3, 1, none⟩ (.int .i64 ((rZ2 a1 a2).f1))).setCell ⟨a3, 2, none⟩ (.int .i64 ((rZ2 a1 a2).f2)))).cell? _ = some _ from aL)); (try have fF := fun (n_ : Nat) => (show (((((w67.drewN n_).setCell ⟨a3, 0, none⟩ (.int .i64 ((rZ2 a1 a2).f0))).setCell ⟨a3, 1, none⟩ (.int .i64 ((rZ2 a1 a2).f1))).setCell ⟨a3, 2, none⟩ (.int .i64 ((rZ2 a1 a2).f2)))).cell? _ = some _ from aO)); (try have fG := fun (n_ : Nat) => (show (((((w67.drewN n_).setCell ⟨a3, 0, none⟩ (.int .i64 ((rZ2 a1 a2).f0))).setCell ⟨a3, 1, none⟩ (.int .i64 ((rZ2 a1 a2).f1))).setCell ⟨a3, 2, none⟩ (.int .i64 ((rZ2 a1 a2).f2)))).cell? _ = some _ from aP)); clear aT aU aV; replace p219 := eq_true p219; replace q219 := eq_true q219))
                       repeat (go_quiet (fail); try go_wp2)
                       go_roundg k3
                       case measure => have := HJ1.out; have := HK2.out; have := HK3.out; omega
                       case rel => exact ⟨(wrap64 (a2 + 1)), (by first | rfl | (simp; done) | (simp [*]; done)), H', ⟨by have := HJ1.out; have := HK2.out; have := HK3.out; omega⟩, ⟨by (with_reducible repeat first | apply kN | apply kD | apply kA); refine blk_far ?_ aG.out _; (with_reducible repeat first | apply kN | apply kD | apply kA); refine blk_far ?_ aG.out _; (with_reducible repeat first | apply kN | apply kD | apply kA); refine blk_far ?_ aG.out _; (with_reducible repeat first | apply kN | apply kD | apply kA); exact a0.out⟩, ⟨by repeat (first | (with_reducible first | apply bA | apply bN | apply bD | refine bS ?_ a9.out | refine bS ?_ aq.out) | exact HB.out)⟩⟩
                      ·rw [if_neg c65] at H
                       have c65b0 : (((rZ5 a5 ((rZ2 a1 a2).f2)).f1) == ((rZ2 a1 a2).f0)) = false := beq_eq_false_iff_ne.mpr c65
                       have c65b1 : (((rZ5 a5 ((rZ2 a1 a2).f2)).f1) != ((rZ2 a1 a2).f0)) = true := bne_iff_ne.mpr c65
                       obtain rfl := Option.some.inj H
                       have fH : wr.cell? ⟨a4, 0, none⟩ = some (.slice ac a5.length ad) := (kC a0.out 0).trans rfl
                       have fI : wr.cell? ⟨a4, 1, none⟩ = some (.int .i64 a7) := (kC a0.out 1).trans rfl
                       have fJ : wr.cell? ⟨a4, 2, none⟩ = some (.int .i64 a6) := (kC a0.out 2).trans rfl
                       have fK : wr.cell? ⟨a4, 3, none⟩ = some (.slice ae a1.length af) := (kC a0.out 3).trans rfl
                       have fL : wr.cell? ⟨a4, 4, none⟩ = some (.bool aD) := (kC a0.out 4).trans rfl
                       have fM := kF a0.out 0
                       have fN := kF a0.out 1
                       have fO := kF a0.out 2
                       have fP := kF a0.out 3
                       have fQ := kF a0.out 4
                       have p216 : 0 ≤ (a2 : Int) := of_decide_eq_true (by assumption)
                       have q216 : a2 < (a1.length : Int) := of_decide_eq_true (by assumption)
                       obtain ⟨ad216, e216, aA, aB, aC⟩ := at_T122 av.out a2 p216 q216
                       cases e216
                       replace aA := (HB.out.cell (World.block_lt_of_cell? w _ aA)).trans aA
                       replace aB := (HB.out.cell (World.block_lt_of_cell? w _ aB)).trans aB
                       replace aC := (HB.out.cell (World.block_lt_of_cell? w _ aC)).trans aC
                       replace p216 := eq_true p216
                       replace q216 := eq_true q216
                       go_wp2_with (first | ((with_reducible refine gate_dst (N := 6) rfl ?_); refine box_event ?hg (N := 6) ?hd (cs := #[.int .i64 0, .int .i64 0, .int .i64 0]) (t := 122) ?hr ?_; (case hd => rfl); (case hg => rfl); (case hr => first | (go_simp; done) | (go_simp; rfl)); intro a3 hg w72 hbox hb; have ag := Z0.mk (kB (by (with_reducible repeat first | apply kN | apply kD | apply kA); exact a0.out) hb); have ah := Z0.mk (bP (by repeat (first | (with_reducible first | apply bA | apply bN | apply bD | refine bS ?_ a9.out) | exact HB.out)) hb); have ab := Z0.mk (hbox); have aa := Z0.mk ((by rw [hg]; exact (bZ (by repeat (first | (with_reducible first | apply bA | apply bN | apply bD | refine bS ?_ a9.out) | exact HB.out))) : w.heap.size ≤ a3)); have ar := aa; have al := Z0.mk ((by rw [hg]; exact Nat.ne_of_lt (blk_lt (by (with_reducible repeat first | apply kN | apply kD | apply kA); exact a0.out)) : a4 ≠ a3)); have au := Z0.mk (Ne.symm al.out); clear a0 HB; have a0 := ag; have HB := ah; have ap := ab; have aS := aa; have aq := ar; have aG := al; have aN := au; clear ag ah ab aa ar al au hb hbox hg; have hnb73 := aN.out; have hnc73 := aG.out; obtain ⟨fR, fS, fT, fU, fV, fW⟩ := kc3 ap.out; obtain ⟨fX, fY, fZ, fa, fb, fc, fd, fe, ff, fg⟩ := kc5 a0.out; have p218 : 0 ≤ ((ji54) : Int) := of_decide_eq_true (by assumption); have q218 : (ji54) < (a1.length : Int) := of_decide_eq_true (by assumption); obtain ⟨ad218, e218, a8, aE, aF⟩ := at_T122 av.out (ji54) p218 q218; obtain rfl : ad216 = ad218 := (by injection e218); have aH : ad216.block ≠ a3 := Nat.ne_of_lt (Nat.lt_of_lt_of_le (by have := World.block_lt_of_cell? _ _ a8; first | rwa [aBk] at this | exact this) aS.out); have aI : ad216.block ≠ a3 := Nat.ne_of_lt (Nat.lt_of_lt_of_le (by have := World.block_lt_of_cell? _ _ a8; first | rwa [aBk] at this | exact this) aS.out); have aJ : ad216.block ≠ a3 := Nat.ne_of_lt (Nat.lt_of_lt_of_le (by have := World.block_lt_of_cell? _ _ a8; first | rwa [aBk] at this | exact this) aS.out); replace a8 := (HB.out.cell (World.block_lt_of_cell? w _ a8)).trans a8; replace aE := (HB.out.cell (World.block_lt_of_cell? w _ aE)).trans aE; replace aF := (HB.out.cell (World.block_lt_of_cell? w _ aF)).trans aF; replace a8 := (cell_far (p := ⟨a3, 0, none⟩) (by first | (rw [aBk]; exact aH) | (show (Addr.add _ _).block ≠ _; rw [aBk]; exact aH) | exact aH) (.int .i64 ((rZ2 a1 a2).f0))).trans a8; replace aE := (cell_far (p := ⟨a3, 0, none⟩) (by first | (rw [aBk]; exact aH) | (show (Addr.add _ _).block ≠ _; rw [aBk]; exact aH) | exact aH) (.int .i64 ((rZ2 a1 a2).f0))).trans aE; replace aF := (cell_far (p := ⟨a3, 0, none⟩) (by first | (rw [aBk]; exact aH) | (show (Addr.add _ _).block ≠ _; rw [aBk]; exact aH) | exact aH) (.int .i64 ((rZ2 a1 a2).f0))).trans aF; replace a8 := (cell_far (p := ⟨a3, 1, none⟩) (by first | (rw [aBk]; exact aI) | (show (Addr.add _ _).block ≠ _; rw [aBk]; exact aI) | exact aI) (.int .i64 ((rZ2 a1 a2).f1))).trans a8; replace aE := (cell_far (p := ⟨a3, 1, none⟩) (by first | (rw [aBk]; exact aI) | (show (Addr.add _ _).block ≠ _; rw [aBk]; exact aI) | exact aI) (.int .i64 ((rZ2 a1 a2).f1))).trans aE; replace aF := (cell_far (p := ⟨a3, 1, none⟩) (by first | (rw [aBk]; exact aI) | (show (Addr.add _ _).block ≠ _; rw [aBk]; exact aI) | exact aI) (.int .i64 ((rZ2 a1 a2).f1))).trans aF; replace a8 := (cell_far (p := ⟨a3, 2, none⟩) (by first | (rw [aBk]; exact aJ) | (show (Addr.add _ _).block ≠ _; rw [aBk]; exact aJ) | exact aJ) (.int .i64 ((rZ2 a1 a2).f2))).trans a8; replace aE := (cell_far (p := ⟨a3, 2, none⟩) (by first | (rw [aBk]; exact aJ) | (show (Addr.add _ _).block ≠ _; rw [aBk]; exact aJ) | exact aJ) (.int .i64 ((rZ2 a1 a2).f2))).trans aE; replace aF := (cell_far (p := ⟨a3, 2, none⟩) (by first | (rw [aBk]; exact aJ) | (show (Addr.add _ _).block ≠ _; rw [aBk]; exact aJ) | exact aJ) (.int .i64 ((rZ2 a1 a2).f2))).trans aF; (try have ct := fun (n_ : Nat) => (show (((((w72.drewN n_).setCell ⟨a3, 0, none⟩ (.int .i64 ((rZ2 a1 a2).f0))).setCell ⟨a3, 1, none⟩ (.int .i64 ((rZ2 a1 a2).f1))).setCell ⟨a3, 2, none⟩ (.int .i64 ((rZ2 a1 a2).f2)))).cell? _ = some _ from a8)); (try have cu := fun (n_ : Nat) => (show (((((w72.drewN n_).setCell ⟨a3, 0, none⟩ (.int .i64 ((rZ2 a1 a2).f0))).setCell ⟨a3, 1, none⟩ (.int .i64 ((rZ2 a1 a2).f1))).setCell ⟨a3, 2, none⟩ (.int .i64 ((rZ2 a1 a2).f2)))).cell? _ = some _ from aE)); (try have cv := fun (n_ : Nat) => (show (((((w72.drewN n_).setCell ⟨a3, 0, none⟩ (.int .i64 ((rZ2 a1 a2).f0))).setCell ⟨a3, 1, none⟩ (.int .i64 ((rZ2 a1 a2).f1))).setCell ⟨a3, 2, none⟩ (.int .i64 ((rZ2 a1 a2).f2)))).cell? _ = some _ from aF)); clear aH aI aJ; replace p218 := eq_true p218; replace q218 := eq_true q218; have p219 : 0 ≤ (((rZ2 a1 a2).f2) : Int) := of_decide_eq_true (by assumption); have q219 : ((rZ2 a1 a2).f2) < (a5.length : Int) := of_decide_eq_true (by assumption); obtain ⟨ad219, e219, aL, aO, aP⟩ := at_T105 b4.out ((rZ2 a1 a2).f2) p219 q219; cases e219; have aT : ad219.block ≠ a3 := Nat.ne_of_lt (Nat.lt_of_lt_of_le (by have := World.block_lt_of_cell? _ _ aL; first | rwa [aBk] at this | exact this) aS.out); have aU : ad219.block ≠ a3 := Nat.ne_of_lt (Nat.lt_of_lt_of_le (by have := World.block_lt_of_cell? _ _ aL; first | rwa [aBk] at this | exact this) aS.out); have aV : ad219.block ≠ a3 := Nat.ne_of_lt (Nat.lt_of_lt_of_le (by have := World.block_lt_of_cell? _ _ aL; first | rwa [aBk] at this | exact this) aS.out); replace aL := (HB.out.cell (World.block_lt_of_cell? w _ aL)).trans aL; replace aO := (HB.out.cell (World.block_lt_of_cell? w _ aO)).trans aO; replace aP := (HB.out.cell (World.block_lt_of_cell? w _ aP)).trans aP; replace aL := (cell_far (p := ⟨a3, 0, none⟩) (by first | (rw [aBk]; exact aT) | (show (Addr.add _ _).block ≠ _; rw [aBk]; exact aT) | exact aT) (.int .i64 ((rZ2 a1 a2).f0))).trans aL; replace aO := (cell_far (p := ⟨a3, 0, none⟩) (by first | (rw [aBk]; exact aT) | (show (Addr.add _ _).block ≠ _; rw [aBk]; exact aT) | exact aT) (.int .i64 ((rZ2 a1 a2).f0))).trans aO; replace aP := (cell_far (p := ⟨a3, 0, none⟩) (by first | (rw [aBk]; exact aT) | (show (Addr.add _ _).block ≠ _; rw [aBk]; exact aT) | exact aT) (.int .i64 ((rZ2 a1 a2).f0))).trans aP; replace aL := (cell_far (p := ⟨a3, 1, none⟩) (by first | (rw [aBk]; exact aU) | (show (Addr.add _ _).block ≠ _; rw [aBk]; exact aU) | exact aU) (.int .i64 ((rZ2 a1 a2).f1))).trans aL; replace aO := (cell_far (p := ⟨a3, 1, none⟩) (by first | (rw [aBk]; exact aU) | (show (Addr.add _ _).block ≠ _; rw [aBk]; exact aU) | exact aU) (.int .i64 ((rZ2 a1 a2).f1))).trans aO; replace aP := (cell_far (p := ⟨a3, 1, none⟩) (by first | (rw [aBk]; exact aU) | (show (Addr.add _ _).block ≠ _; rw [aBk]; exact aU) | exact aU) (.int .i64 ((rZ2 a1 a2).f1))).trans aP; replace aL := (cell_far (p := ⟨a3, 2, none⟩) (by first | (rw [aBk]; exact aV) | (show (Addr.add _ _).block ≠ _; rw [aBk]; exact aV) | exact aV) (.int .i64 ((rZ2 a1 a2).f2))).trans aL; replace aO := (cell_far (p := ⟨a3, 2, none⟩) (by first | (rw [aBk]; exact aV) | (show (Addr.add _ _).block ≠ _; rw [aBk]; exact aV) | exact aV) (.int .i64 ((rZ2 a1 a2).f2))).trans aO; replace aP := (cell_far (p := ⟨a3, 2, none⟩) (by first | (rw [aBk]; exact aV) | (show (Addr.add _ _).block ≠ _; rw [aBk]; exact aV) | exact aV) (.int .i64 ((rZ2 a1 a2).f2))).trans aP; (try have fE := fun (n_ : Nat) => (show (((((w72.drewN n_).setCell ⟨a3, 0, none⟩ (.int .i64 ((rZ2 a1 a2).f0))).setCell ⟨a3, 1, none⟩ (.int .i64 ((rZ2 a1 a2).f1))).setCell ⟨a3, 2, none⟩ (.int .i64 ((rZ2 a1 a2).f2)))).cell? _ = some _ from aL)); (try have fF := fun (n_ : Nat) => (show (((((w72.drewN n_).setCell ⟨a3, 0, none⟩ (.int .i64 ((rZ2 a1 a2).f0))).setCell ⟨a3, 1, none⟩ (.int .i64 ((rZ2 a1 a2).f1))).setCell ⟨a3, 2, none⟩ (.int .i64 ((rZ2 a1 a2).f2)))).cell? _ = some _ from aO)); (try have fG := fun (n_ : Nat) => (show (((((w72.drewN n_).setCell ⟨a3, 0, none⟩ (.int .i64 ((rZ2 a1 a2).f0))).setCell ⟨a3, 1, none⟩ (.int .i64 ((rZ2 a1 a2).f1))).setCell ⟨a3, 2, none⟩ (.int .i64 ((rZ2 a1 a2).f2)))).cell? _ = some _ from aP)); clear aT aU aV; replace p219 := eq_true p219; replace q219 := eq_true q219))
                       repeat (go_quiet (fail); try go_wp2)
                       go_ret
                       exact ⟨by first | rfl | (simp [errW_none, errW_some] <;> rfl) | (simp only [← hji54]; first | rfl | (simp [errW_none, errW_some] <;> rfl)) | (simp [*, errW_none, errW_some] <;> rfl), by repeat (first | (with_reducible first | apply bA | apply bN | apply bD | refine bS ?_ a9.out | refine bS ?_ aq.out) | exact HB.out)⟩
                     ·rw [if_neg c64] at H
                      exact absurd H (by simp)
                    ·rw [if_neg c63] at H
                     exact absurd H (by simp)
                  ·rw [if_neg c56] at H
                   exact absurd H (by simp)
                 ·rw [if_neg c55] at H
                  exact absurd H (by simp)
                ·rw [if_neg c53] at H
                 have c53b0 : decide (0 < a2) = false := decide_eq_false c53
                 clear c53
                 by_cases c76 : 0 ≤ ((rZ2 a1 a2).f2)
                 ·rw [if_pos c76] at H
                  have c76b0 : decide (0 ≤ ((rZ2 a1 a2).f2)) = true := decide_eq_true c76
                  clear c76
                  by_cases c77 : ((rZ2 a1 a2).f2) < (a5.length : Int)
                  ·rw [if_pos c77] at H
                   have c77b0 : decide (((rZ2 a1 a2).f2) < (a5.length : Int)) = true := decide_eq_true c77
                   clear c77
                   by_cases c78 : ((rZ5 a5 ((rZ2 a1 a2).f2)).f1) = ((rZ2 a1 a2).f0)
                   ·rw [if_pos c78] at H
                    have c78b0 : (((rZ5 a5 ((rZ2 a1 a2).f2)).f1) == ((rZ2 a1 a2).f0)) = true := beq_iff_eq.mpr c78
                    have c78b1 : (((rZ5 a5 ((rZ2 a1 a2).f2)).f1) != ((rZ2 a1 a2).f0)) = false := bne_eq_false_iff_eq.mpr c78
                    clear c78
                    have H' := Z0.mk H
                    clear H
                    have fh : wr.cell? ⟨a4, 0, none⟩ = some (.slice ac a5.length ad) := (kC a0.out 0).trans rfl
                    have fi : wr.cell? ⟨a4, 1, none⟩ = some (.int .i64 a7) := (kC a0.out 1).trans rfl
                    have fj : wr.cell? ⟨a4, 2, none⟩ = some (.int .i64 a6) := (kC a0.out 2).trans rfl
                    have fk : wr.cell? ⟨a4, 3, none⟩ = some (.slice ae a1.length af) := (kC a0.out 3).trans rfl
                    have fl : wr.cell? ⟨a4, 4, none⟩ = some (.bool aD) := (kC a0.out 4).trans rfl
                    have fm := kF a0.out 0
                    have fn := kF a0.out 1
                    have fo := kF a0.out 2
                    have fp := kF a0.out 3
                    have fq := kF a0.out 4
                    have p216 : 0 ≤ (a2 : Int) := of_decide_eq_true (by assumption)
                    have q216 : a2 < (a1.length : Int) := of_decide_eq_true (by assumption)
                    obtain ⟨ad216, e216, aA, aB, aC⟩ := at_T122 av.out a2 p216 q216
                    cases e216
                    replace aA := (HB.out.cell (World.block_lt_of_cell? w _ aA)).trans aA
                    replace aB := (HB.out.cell (World.block_lt_of_cell? w _ aB)).trans aB
                    replace aC := (HB.out.cell (World.block_lt_of_cell? w _ aC)).trans aC
                    replace p216 := eq_true p216
                    replace q216 := eq_true q216
                    go_wp2_with (first | ((with_reducible refine gate_dst (N := 6) rfl ?_); refine box_event ?hg (N := 6) ?hd (cs := #[.int .i64 0, .int .i64 0, .int .i64 0]) (t := 122) ?hr ?_; (case hd => rfl); (case hg => rfl); (case hr => first | (go_simp; done) | (go_simp; rfl)); intro a3 hg w80 hbox hb; have ag := Z0.mk (kB (by (with_reducible repeat first | apply kN | apply kD | apply kA); exact a0.out) hb); have ah := Z0.mk (bP (by repeat (first | (with_reducible first | apply bA | apply bN | apply bD | refine bS ?_ a9.out) | exact HB.out)) hb); have ab := Z0.mk (hbox); have aa := Z0.mk ((by rw [hg]; exact (bZ (by repeat (first | (with_reducible first | apply bA | apply bN | apply bD | refine bS ?_ a9.out) | exact HB.out))) : w.heap.size ≤ a3)); have ar := aa; have al := Z0.mk ((by rw [hg]; exact Nat.ne_of_lt (blk_lt (by (with_reducible repeat first | apply kN | apply kD | apply kA); exact a0.out)) : a4 ≠ a3)); have au := Z0.mk (Ne.symm al.out); clear a0 HB; have a0 := ag; have HB := ah; have ap := ab; have aS := aa; have aq := ar; have aG := al; have aN := au; clear ag ah ab aa ar al au hb hbox hg; have hnb81 := aN.out; have hnc81 := aG.out; obtain ⟨fr, fs, ft, fu, fv, fw⟩ := kc3 ap.out; obtain ⟨fx, fy, fz, g0, g1, g2, g3, g4, g5, g6⟩ := kc5 a0.out; have p220 : 0 ≤ (((rZ2 a1 a2).f2) : Int) := of_decide_eq_true (by assumption); have q220 : ((rZ2 a1 a2).f2) < (a5.length : Int) := of_decide_eq_true (by assumption); obtain ⟨ad220, e220, aM, aQ, aR⟩ := at_T105 b4.out ((rZ2 a1 a2).f2) p220 q220; cases e220; have aW : ad220.block ≠ a3 := Nat.ne_of_lt (Nat.lt_of_lt_of_le (by have := World.block_lt_of_cell? _ _ aM; first | rwa [aBk] at this | exact this) aS.out); have aX : ad220.block ≠ a3 := Nat.ne_of_lt (Nat.lt_of_lt_of_le (by have := World.block_lt_of_cell? _ _ aM; first | rwa [aBk] at this | exact this) aS.out); have aY : ad220.block ≠ a3 := Nat.ne_of_lt (Nat.lt_of_lt_of_le (by have := World.block_lt_of_cell? _ _ aM; first | rwa [aBk] at this | exact this) aS.out); replace aM := (HB.out.cell (World.block_lt_of_cell? w _ aM)).trans aM; replace aQ := (HB.out.cell (World.block_lt_of_cell? w _ aQ)).trans aQ; replace aR := (HB.out.cell (World.block_lt_of_cell? w _ aR)).trans aR; replace aM := (cell_far (p := ⟨a3, 0, none⟩) (by first | (rw [aBk]; exact aW) | (show (Addr.add _ _).block ≠ _; rw [aBk]; exact aW) | exact aW) (.int .i64 ((rZ2 a1 a2).f0))).trans aM; replace aQ := (cell_far (p := ⟨a3, 0, none⟩) (by first | (rw [aBk]; exact aW) | (show (Addr.add _ _).block ≠ _; rw [aBk]; exact aW) | exact aW) (.int .i64 ((rZ2 a1 a2).f0))).trans aQ; replace aR := (cell_far (p := ⟨a3, 0, none⟩) (by first | (rw [aBk]; exact aW) | (show (Addr.add _ _).block ≠ _; rw [aBk]; exact aW) | exact aW) (.int .i64 ((rZ2 a1 a2).f0))).trans aR; replace aM := (cell_far (p := ⟨a3, 1, none⟩) (by first | (rw [aBk]; exact aX) | (show (Addr.add _ _).block ≠ _; rw [aBk]; exact aX) | exact aX) (.int .i64 ((rZ2 a1 a2).f1))).trans aM; replace aQ := (cell_far (p := ⟨a3, 1, none⟩) (by first | (rw [aBk]; exact aX) | (show (Addr.add _ _).block ≠ _; rw [aBk]; exact aX) | exact aX) (.int .i64 ((rZ2 a1 a2).f1))).trans aQ; replace aR := (cell_far (p := ⟨a3, 1, none⟩) (by first | (rw [aBk]; exact aX) | (show (Addr.add _ _).block ≠ _; rw [aBk]; exact aX) | exact aX) (.int .i64 ((rZ2 a1 a2).f1))).trans aR; replace aM := (cell_far (p := ⟨a3, 2, none⟩) (by first | (rw [aBk]; exact aY) | (show (Addr.add _ _).block ≠ _; rw [aBk]; exact aY) | exact aY) (.int .i64 ((rZ2 a1 a2).f2))).trans aM; replace aQ := (cell_far (p := ⟨a3, 2, none⟩) (by first | (rw [aBk]; exact aY) | (show (Addr.add _ _).block ≠ _; rw [aBk]; exact aY) | exact aY) (.int .i64 ((rZ2 a1 a2).f2))).trans aQ; replace aR := (cell_far (p := ⟨a3, 2, none⟩) (by first | (rw [aBk]; exact aY) | (show (Addr.add _ _).block ≠ _; rw [aBk]; exact aY) | exact aY) (.int .i64 ((rZ2 a1 a2).f2))).trans aR; (try have g7 := fun (n_ : Nat) => (show (((((w80.drewN n_).setCell ⟨a3, 0, none⟩ (.int .i64 ((rZ2 a1 a2).f0))).setCell ⟨a3, 1, none⟩ (.int .i64 ((rZ2 a1 a2).f1))).setCell ⟨a3, 2, none⟩ (.int .i64 ((rZ2 a1 a2).f2)))).cell? _ = some _ from aM)); (try have g8 := fun (n_ : Nat) => (show (((((w80.drewN n_).setCell ⟨a3, 0, none⟩ (.int .i64 ((rZ2 a1 a2).f0))).setCell ⟨a3, 1, none⟩ (.int .i64 ((rZ2 a1 a2).f1))).setCell ⟨a3, 2, none⟩ (.int .i64 ((rZ2 a1 a2).f2)))).cell? _ = some _ from aQ)); (try have g9 := fun (n_ : Nat) => (show (((((w80.drewN n_).setCell ⟨a3, 0, none⟩ (.int .i64 ((rZ2 a1 a2).f0))).setCell ⟨a3, 1, none⟩ (.int .i64 ((rZ2 a1 a2).f1))).setCell ⟨a3, 2, none⟩ (.int .i64 ((rZ2 a1 a2).f2)))).cell? _ = some _ from aR)); clear aW aX aY; replace p220 := eq_true p220; replace q220 := eq_true q220))
                    repeat (go_quiet (fail); try go_wp2)
                    go_roundg k3
                    case measure => have := HJ1.out; have := HK2.out; have := HK3.out; omega
                    case rel => exact ⟨(wrap64 (a2 + 1)), (by first | rfl | (simp; done) | (simp [*]; done)), H', ⟨by have := HJ1.out; have := HK2.out; have := HK3.out; omega⟩, ⟨by (with_reducible repeat first | apply kN | apply kD | apply kA); refine blk_far ?_ aG.out _; (with_reducible repeat first | apply kN | apply kD | apply kA); refine blk_far ?_ aG.out _; (with_reducible repeat first | apply kN | apply kD | apply kA); refine blk_far ?_ aG.out _; (with_reducible repeat first | apply kN | apply kD | apply kA); exact a0.out⟩, ⟨by repeat (first | (with_reducible first | apply bA | apply bN | apply bD | refine bS ?_ a9.out | refine bS ?_ aq.out) | exact HB.out)⟩⟩
                   ·rw [if_neg c78] at H
                    have c78b0 : (((rZ5 a5 ((rZ2 a1 a2).f2)).f1) == ((rZ2 a1 a2).f0)) = false := beq_eq_false_iff_ne.mpr c78
                    have c78b1 : (((rZ5 a5 ((rZ2 a1 a2).f2)).f1) != ((rZ2 a1 a2).f0)) = true := bne_iff_ne.mpr c78
                    obtain rfl := Option.some.inj H
                    have gA : wr.cell? ⟨a4, 0, none⟩ = some (.slice ac a5.length ad) := (kC a0.out 0).trans rfl
                    have gB : wr.cell? ⟨a4, 1, none⟩ = some (.int .i64 a7) := (kC a0.out 1).trans rfl
                    have gC : wr.cell? ⟨a4, 2, none⟩ = some (.int .i64 a6) := (kC a0.out 2).trans rfl
                    have gD : wr.cell? ⟨a4, 3, none⟩ = some (.slice ae a1.length af) := (kC a0.out 3).trans rfl
                    have gE : wr.cell? ⟨a4, 4, none⟩ = some (.bool aD) := (kC a0.out 4).trans rfl
                    have gF := kF a0.out 0
                    have gG := kF a0.out 1
                    have gH := kF a0.out 2
                    have gI := kF a0.out 3
                    have gJ := kF a0.out 4
                    have p216 : 0 ≤ (a2 : Int) := of_decide_eq_true (by assumption)
                    have q216 : a2 < (a1.length : Int) := of_decide_eq_true (by assumption)
                    obtain ⟨ad216, e216, aA, aB, aC⟩ := at_T122 av.out a2 p216 q216
                    cases e216
                    replace aA := (HB.out.cell (World.block_lt_of_cell? w _ aA)).trans aA
                    replace aB := (HB.out.cell (World.block_lt_of_cell? w _ aB)).trans aB
                    replace aC := (HB.out.cell (World.block_lt_of_cell? w _ aC)).trans aC
                    replace p216 := eq_true p216
                    replace q216 := eq_true q216
                    go_wp2_with (first | ((with_reducible refine gate_dst (N := 6) rfl ?_); refine box_event ?hg (N := 6) ?hd (cs := #[.int .i64 0, .int .i64 0, .int .i64 0]) (t := 122) ?hr ?_; (case hd => rfl); (case hg => rfl); (case hr => first | (go_simp; done) | (go_simp; rfl)); intro a3 hg w85 hbox hb; have ag := Z0.mk (kB (by (with_reducible repeat first | apply kN | apply kD | apply kA); exact a0.out) hb); have ah := Z0.mk (bP (by repeat (first | (with_reducible first | apply bA | apply bN | apply bD | refine bS ?_ a9.out) | exact HB.out)) hb); have ab := Z0.mk (hbox); have aa := Z0.mk ((by rw [hg]; exact (bZ (by repeat (first | (with_reducible first | apply bA | apply bN | apply bD | refine bS ?_ a9.out) | exact HB.out))) : w.heap.size ≤ a3)); have ar := aa; have al := Z0.mk ((by rw [hg]; exact Nat.ne_of_lt (blk_lt (by (with_reducible repeat first | apply kN | apply kD | apply kA); exact a0.out)) : a4 ≠ a3)); have au := Z0.mk (Ne.symm al.out); clear a0 HB; have a0 := ag; have HB := ah; have ap := ab; have aS := aa; have aq := ar; have aG := al; have aN := au; clear ag ah ab aa ar al au hb hbox hg; have hnb86 := aN.out; have hnc86 := aG.out; obtain ⟨gK, gL, gM, gN, gO, gP⟩ := kc3 ap.out; obtain ⟨gQ, gR, gS, gT, gU, gV, gW, gX, gY, gZ⟩ := kc5 a0.out; have p220 : 0 ≤ (((rZ2 a1 a2).f2) : Int) := of_decide_eq_true (by assumption); have q220 : ((rZ2 a1 a2).f2) < (a5.length : Int) := of_decide_eq_true (by assumption); obtain ⟨ad220, e220, aM, aQ, aR⟩ := at_T105 b4.out ((rZ2 a1 a2).f2) p220 q220; cases e220; have aW : ad220.block ≠ a3 := Nat.ne_of_lt (Nat.lt_of_lt_of_le (by have := World.block_lt_of_cell? _ _ aM; first | rwa [aBk] at this | exact this) aS.out); have aX : ad220.block ≠ a3 := Nat.ne_of_lt (Nat.lt_of_lt_of_le (by have := World.block_lt_of_cell? _ _ aM; first | rwa [aBk] at this | exact this) aS.out); have aY : ad220.block ≠ a3 := Nat.ne_of_lt (Nat.lt_of_lt_of_le (by have := World.block_lt_of_cell? _ _ aM; first | rwa [aBk] at this | exact this) aS.out); replace aM := (HB.out.cell (World.block_lt_of_cell? w _ aM)).trans aM; replace aQ := (HB.out.cell (World.block_lt_of_cell? w _ aQ)).trans aQ; replace aR := (HB.out.cell (World.block_lt_of_cell? w _ aR)).trans aR; replace aM := (cell_far (p := ⟨a3, 0, none⟩) (by first | (rw [aBk]; exact aW) | (show (Addr.add _ _).block ≠ _; rw [aBk]; exact aW) | exact aW) (.int .i64 ((rZ2 a1 a2).f0))).trans aM; replace aQ := (cell_far (p := ⟨a3, 0, none⟩) (by first | (rw [aBk]; exact aW) | (show (Addr.add _ _).block ≠ _; rw [aBk]; exact aW) | exact aW) (.int .i64 ((rZ2 a1 a2).f0))).trans aQ; replace aR := (cell_far (p := ⟨a3, 0, none⟩) (by first | (rw [aBk]; exact aW) | (show (Addr.add _ _).block ≠ _; rw [aBk]; exact aW) | exact aW) (.int .i64 ((rZ2 a1 a2).f0))).trans aR; replace aM := (cell_far (p := ⟨a3, 1, none⟩) (by first | (rw [aBk]; exact aX) | (show (Addr.add _ _).block ≠ _; rw [aBk]; exact aX) | exact aX) (.int .i64 ((rZ2 a1 a2).f1))).trans aM; replace aQ := (cell_far (p := ⟨a3, 1, none⟩) (by first | (rw [aBk]; exact aX) | (show (Addr.add _ _).block ≠ _; rw [aBk]; exact aX) | exact aX) (.int .i64 ((rZ2 a1 a2).f1))).trans aQ; replace aR := (cell_far (p := ⟨a3, 1, none⟩) (by first | (rw [aBk]; exact aX) | (show (Addr.add _ _).block ≠ _; rw [aBk]; exact aX) | exact aX) (.int .i64 ((rZ2 a1 a2).f1))).trans aR; replace aM := (cell_far (p := ⟨a3, 2, none⟩) (by first | (rw [aBk]; exact aY) | (show (Addr.add _ _).block ≠ _; rw [aBk]; exact aY) | exact aY) (.int .i64 ((rZ2 a1 a2).f2))).trans aM; replace aQ := (cell_far (p := ⟨a3, 2, none⟩) (by first | (rw [aBk]; exact aY) | (show (Addr.add _ _).block ≠ _; rw [aBk]; exact aY) | exact aY) (.int .i64 ((rZ2 a1 a2).f2))).trans aQ; replace aR := (cell_far (p := ⟨a3, 2, none⟩) (by first | (rw [aBk]; exact aY) | (show (Addr.add _ _).block ≠ _; rw [aBk]; exact aY) | exact aY) (.int .i64 ((rZ2 a1 a2).f2))).trans aR; (try have g7 := fun (n_ : Nat) => (show (((((w85.drewN n_).setCell ⟨a3, 0, none⟩ (.int .i64 ((rZ2 a1 a2).f0))).setCell ⟨a3, 1, none⟩ (.int .i64 ((rZ2 a1 a2).f1))).setCell ⟨a3, 2, none⟩ (.int .i64 ((rZ2 a1 a2).f2)))).cell? _ = some _ from aM)); (try have g8 := fun (n_ : Nat) => (show (((((w85.drewN n_).setCell ⟨a3, 0, none⟩ (.int .i64 ((rZ2 a1 a2).f0))).setCell ⟨a3, 1, none⟩ (.int .i64 ((rZ2 a1 a2).f1))).setCell ⟨a3, 2, none⟩ (.int .i64 ((rZ2 a1 a2).f2)))).cell? _ = some _ from aQ)); (try have g9 := fun (n_ : Nat) => (show (((((w85.drewN n_).setCell ⟨a3, 0, none⟩ (.int .i64 ((rZ2 a1 a2).f0))).setCell ⟨a3, 1, none⟩ (.int .i64 ((rZ2 a1 a2).f1))).setCell ⟨a3, 2, none⟩ (.int .i64 ((rZ2 a1 a2).f2)))).cell? _ = some _ from aR)); clear aW aX aY; replace p220 := eq_true p220; replace q220 := eq_true q220))
                    repeat (go_quiet (fail); try go_wp2)
                    go_ret
                    exact ⟨by first | rfl | (simp [errW_none, errW_some] <;> rfl) | (simp [*, errW_none, errW_some] <;> rfl), by repeat (first | (with_reducible first | apply bA | apply bN | apply bD | refine bS ?_ a9.out | refine bS ?_ aq.out) | exact HB.out)⟩
                  ·rw [if_neg c77] at H
                   exact absurd H (by simp)
                 ·rw [if_neg c76] at H
                  exact absurd H (by simp)
          ·rw [if_neg c27] at H
           exact absurd H (by simp)
         ·rw [if_neg c26] at H
          have c26b0 : decide (a2 < (a1.length : Int)) = false := decide_eq_false c26
          clear c26
          replace H := Option.bind_eq_some_iff.mp H
          obtain ⟨t221, A890, H⟩ := H
          replace H : (if (t221.length : Int) = 0 then (some 14) else ((hackamoreref28_chain.f k3 a5 a7 a6 a1 aD 0).bind fun t224 => (hackamoreref28_Check.l2 k3 t224 false 0 a5 a7 a6 a1 aD))) = some r := H
          have A89 := Z0.mk A890
          clear A890
          by_cases c90 : (t221.length : Int) = 0
          ·rw [if_pos c90] at H
           have c90b0 : ((t221.length : Int) == 0) = true := beq_iff_eq.mpr c90
           have c90b1 : ((t221.length : Int) != 0) = false := bne_eq_false_iff_eq.mpr c90
           clear c90
           obtain rfl := Option.some.inj H
           have ga : wr.cell? ⟨a4, 0, none⟩ = some (.slice ac a5.length ad) := (kC a0.out 0).trans rfl
           have gb : wr.cell? ⟨a4, 1, none⟩ = some (.int .i64 a7) := (kC a0.out 1).trans rfl
           have gc : wr.cell? ⟨a4, 2, none⟩ = some (.int .i64 a6) := (kC a0.out 2).trans rfl
           have gd : wr.cell? ⟨a4, 3, none⟩ = some (.slice ae a1.length af) := (kC a0.out 3).trans rfl
           have ge : wr.cell? ⟨a4, 4, none⟩ = some (.bool aD) := (kC a0.out 4).trans rfl
           have gf := kF a0.out 0
           have gg := kF a0.out 1
           have gh := kF a0.out 2
           have gi := kF a0.out 3
           have gj := kF a0.out 4
           go_wp2_with (first | (go_at_call 55; (with_reducible refine (hackamoreref28_Order.calls k3 _ _ a5 a7 a6 _ _ a1 aD t221 _ ?side1 ?side2 ?side3 ?side4 A89.out).mono ?_); (case side1 => repeat (first | exact (Kd.C_below b4.out HB.out) | (with_reducible refine Kd.C_alloc ?_ _) | (with_reducible refine Kd.C_drewN ?_ _) | (with_reducible refine Kd.C_drew ?_))); (case side2 => exact cw.out); (case side3 => repeat (first | exact (Kd.C_below av.out HB.out) | (with_reducible refine Kd.C_alloc ?_ _) | (with_reducible refine Kd.C_drewN ?_ _) | (with_reducible refine Kd.C_drew ?_))); (case side4 => exact cx.out); rintro e w92 ⟨v222, rfl, ho0, hb⟩; have ag := Z0.mk (Kd.R_lower ho0 (bZ (by repeat (first | (with_reducible first | apply bA | apply bN | apply bD | refine bS ?_ a9.out) | exact HB.out)))); have ah := Z0.mk (kB (by (with_reducible repeat first | apply kN | apply kD | apply kA); exact a0.out) hb); have ab := Z0.mk (bP (by repeat (first | (with_reducible first | apply bA | apply bN | apply bD | refine bS ?_ a9.out) | exact HB.out)) hb); clear a0 HB; have b5 := ag; have a0 := ah; have HB := ab; clear ag ah ab; (try clear hb); (try clear hb2); (try clear hk); (try clear hi); (try clear ho0); obtain ⟨Ao93, co93, eo93⟩ := Kd.R_slice b5.out; subst eo93))
           repeat (go_quiet (fail); try go_wp2)
           go_ret
           exact ⟨by first | rfl | (simp [errW_none, errW_some] <;> rfl) | (simp [*, errW_none, errW_some] <;> rfl), by repeat (first | (with_reducible first | apply bA | apply bN | apply bD | refine bS ?_ a9.out) | exact HB.out)⟩
          ·rw [if_neg c90] at H
           have c90b0 : ((t221.length : Int) == 0) = false := beq_eq_false_iff_ne.mpr c90
           have c90b1 : ((t221.length : Int) != 0) = true := bne_iff_ne.mpr c90
           have c90b2 : ¬ (t221 = []) := fun h_ => c90 (by rw [h_]; rfl)
           replace H := Option.bind_eq_some_iff.mp H
           obtain ⟨t224, A940, H⟩ := H
           replace H : (hackamoreref28_Check.l2 k3 t224 false 0 a5 a7 a6 a1 aD) = some r := H
           have A94 := Z0.mk A940
           clear A940
           have H' := Z0.mk H
           clear H
           have gl : wr.cell? ⟨a4, 0, none⟩ = some (.slice ac a5.length ad) := (kC a0.out 0).trans rfl
           have gm : wr.cell? ⟨a4, 1, none⟩ = some (.int .i64 a7) := (kC a0.out 1).trans rfl
           have gn : wr.cell? ⟨a4, 2, none⟩ = some (.int .i64 a6) := (kC a0.out 2).trans rfl
           have go : wr.cell? ⟨a4, 3, none⟩ = some (.slice ae a1.length af) := (kC a0.out 3).trans rfl
           have gp : wr.cell? ⟨a4, 4, none⟩ = some (.bool aD) := (kC a0.out 4).trans rfl
           have gq := kF a0.out 0
           have gr := kF a0.out 1
           have gs := kF a0.out 2
           have gt := kF a0.out 3
           have gu := kF a0.out 4
           go_wp2_with (first | (go_at_call 55; (with_reducible refine (hackamoreref28_Order.calls k3 _ _ a5 a7 a6 _ _ a1 aD t221 _ ?side1 ?side2 ?side3 ?side4 A89.out).mono ?_); (case side1 => repeat (first | exact (Kd.C_below b4.out HB.out) | (with_reducible refine Kd.C_alloc ?_ _) | (with_reducible refine Kd.C_drewN ?_ _) | (with_reducible refine Kd.C_drew ?_))); (case side2 => exact cw.out); (case side3 => repeat (first | exact (Kd.C_below av.out HB.out) | (with_reducible refine Kd.C_alloc ?_ _) | (with_reducible refine Kd.C_drewN ?_ _) | (with_reducible refine Kd.C_drew ?_))); (case side4 => exact cx.out); rintro e w96 ⟨v222, rfl, ho0, hb⟩; have ag := Z0.mk (Kd.R_lower ho0 (bZ (by repeat (first | (with_reducible first | apply bA | apply bN | apply bD | refine bS ?_ a9.out) | exact HB.out)))); have ah := Z0.mk (kB (by (with_reducible repeat first | apply kN | apply kD | apply kA); exact a0.out) hb); have ab := Z0.mk (bP (by repeat (first | (with_reducible first | apply bA | apply bN | apply bD | refine bS ?_ a9.out) | exact HB.out)) hb); clear a0 HB; have b5 := ag; have a0 := ah; have HB := ab; clear ag ah ab; (try clear hb); (try clear hb2); (try clear hk); (try clear hi); (try clear ho0); obtain ⟨Ao97, co97, eo97⟩ := Kd.R_slice b5.out; subst eo97; obtain ⟨gv, gw, gx, gy, gz, h0, h1, h2, h3, h4⟩ := kc5 a0.out) | (go_at_call 56; (with_reducible refine (hackamoreref28_chain.calls k3 _ _ a5 a7 a6 _ _ a1 aD 0 t224 _ ?side1 ?side2 ?side3 ?side4 A94.out).mono ?_); (case side1 => repeat (first | exact (Kd.C_below b4.out HB.out) | (with_reducible refine Kd.C_alloc ?_ _) | (with_reducible refine Kd.C_drewN ?_ _) | (with_reducible refine Kd.C_drew ?_))); (case side2 => exact cw.out); (case side3 => repeat (first | exact (Kd.C_below av.out HB.out) | (with_reducible refine Kd.C_alloc ?_ _) | (with_reducible refine Kd.C_drewN ?_ _) | (with_reducible refine Kd.C_drew ?_))); (case side4 => exact cx.out); rintro e w99 ⟨v225, rfl, ho0, hb⟩; have ag := Z0.mk (Kd.R_elder' (by (with_reducible repeat (first | apply Kd.R_alloc | apply Kd.R_drewN | apply Kd.R_drew)); exact b5.out) (Kd.R_base ho0) hb); have ah := Z0.mk (Kd.R_lower (Kd.R_new' ho0 (Kd.R_lt (by (with_reducible repeat (first | apply Kd.R_alloc | apply Kd.R_drewN | apply Kd.R_drew)); exact b5.out))) (bZ (by repeat (first | (with_reducible first | apply bA | apply bN | apply bD | refine bS ?_ a9.out) | exact HB.out)))); have ab := Z0.mk (kB (by (with_reducible repeat first | apply kN | apply kD | apply kA); exact a0.out) hb); have aa := Z0.mk (bP (by repeat (first | (with_reducible first | apply bA | apply bN | apply bD | refine bS ?_ a9.out) | exact HB.out)) hb); clear b5 a0 HB; have b5 := ag; have h6 := ah; have a0 := ab; have HB := aa; clear ag ah ab aa; (try clear hb); (try clear hb2); (try clear hk); (try clear hi); (try clear ho0)))
           repeat (go_quiet (fail); try go_wp2)
           go_loopg [8, 9] k3 (fun kq v8 v9 w' => ∃ (cX : Bool) (b0 : Int), v8 = .bool cX ∧ v9 = .int .i64 b0 ∧ Z0 (hackamoreref28_Check.l2 kq t224 cX b0 a5 a7 a6 a1 aD = some r) ∧ Z0 (kq ≤ k3) ∧ Z0 (Kd.R (Kd.int .i64) 3 w' w.heap.size (fun _ => True) v225 t224) ∧ Z0 (w'.heap[a4]? = some (.cells #[(.slice ac a5.length ad), .int .i64 a7, .int .i64 a6, (.slice ae a1.length af), .bool aD] 46 (0, 0))) ∧ Z0 (Below w.heap.size w w'))
           case atStart => exact ⟨(false), (0), (by first | rfl | (simp; done) | (simp [*]; done)), (by first | rfl | (simp; done) | (simp [*]; done)), H', ⟨Nat.le_refl _⟩, ⟨by (with_reducible repeat (first | apply Kd.R_alloc | apply Kd.R_drewN | apply Kd.R_drew)); exact Kd.R_mono h6.out (fun _ hk => trivial)⟩, ⟨by (with_reducible repeat first | apply kN | apply kD | apply kA); exact a0.out⟩, ⟨by repeat (first | (with_reducible first | apply bA | apply bN | apply bD | refine bS ?_ a9.out) | exact HB.out)⟩⟩
           case round =>
            clear H'
            try clear c1
            try clear c2
            try clear p2
            try clear q2
            try clear hx2
            try clear qi2
            try clear c3
            try clear c4
            try clear c5
            try clear c5b0
            try clear c5b1
            try clear c6
            try clear c6b0
            try clear c6b1
            try clear p6
            try clear c7
            try clear c7b0
            try clear c8
            try clear c9
            try clear c9b0
            try clear c11
            try clear c11b0
            try clear c13
            try clear c13b0
            try clear c15
            try clear c15b0
            try clear c15b1
            try clear c16
            try clear c16b0
            try clear c16b1
            try clear c19
            try clear c20
            try clear c20b0
            try clear c21
            try clear c21b0
            try clear p21
            try clear q21
            try clear hx21
            try clear qi21
            try clear c22
            try clear c22b0
            try clear p22
            try clear q22
            try clear hx22
            try clear c23
            try clear c23b0
            try clear c26
            try clear c26b0
            try clear c27
            try clear c27b0
            try clear c28
            try clear c28b0
            try clear c31
            try clear c33
            try clear c33b0
            try clear c36
            try clear c38
            try clear c38b0
            try clear c41
            try clear c43
            try clear c43b0
            try clear c46
            try clear c48
            try clear c48b0
            try clear c51
            try clear c53
            try clear c53b0
            try clear c55
            try clear c55b0
            try clear c56
            try clear c56b0
            try clear c57
            try clear c57b0
            try clear c60
            try clear c63
            try clear c63b0
            try clear c64
            try clear c64b0
            try clear p64
            try clear c65
            try clear c65b0
            try clear c65b1
            try clear c68
            try clear c73
            try clear c76
            try clear c76b0
            try clear c77
            try clear c77b0
            try clear c78
            try clear c78b0
            try clear c78b1
            try clear c81
            try clear c86
            try clear c90
            try clear c90b0
            try clear c90b1
            try clear c90b2
            try clear b7
            try clear b8
            try clear b9
            try clear bB
            try clear bC
            try clear bJ
            try clear bK
            try clear bL
            try clear bM
            try clear bO
            try clear bW
            try clear bX
            try clear bY
            try clear ba
            try clear bb
            try clear bh
            try clear bi
            try clear bj
            try clear bk
            try clear bl
            try clear br
            try clear bs
            try clear bt
            try clear bu
            try clear bv
            try clear cY
            try clear cZ
            try clear ca
            try clear cb
            try clear cc
            try clear ci
            try clear cj
            try clear ck
            try clear cl
            try clear cm
            try clear d2
            try clear d3
            try clear d4
            try clear d5
            try clear d6
            try clear dC
            try clear dD
            try clear dE
            try clear dI
            try clear dJ
            try clear dK
            try clear dL
            try clear dM
            try clear dS
            try clear dT
            try clear dU
            try clear dY
            try clear dZ
            try clear da
            try clear db
            try clear dc
            try clear di
            try clear dj
            try clear dk
            try clear dp
            try clear dq
            try clear dr
            try clear ds
            try clear dt
            try clear dz
            try clear e0
            try clear e1
            try clear e5
            try clear e6
            try clear e7
            try clear e8
            try clear e9
            try clear cC
            try clear cD
            try clear cE
            try clear cF
            try clear cG
            try clear eF
            try clear eG
            try clear eH
            try clear eL
            try clear eM
            try clear eN
            try clear eO
            try clear eP
            try clear eV
            try clear eW
            try clear eX
            try clear eb
            try clear ec
            try clear ed
            try clear ee
            try clear ef
            try clear el
            try clear em
            try clear en
            try clear eo
            try clear ep
            try clear ev
            try clear ew
            try clear ex
            try clear f4
            try clear f5
            try clear f6
            try clear f7
            try clear f8
            try clear fH
            try clear fI
            try clear fJ
            try clear fK
            try clear fL
            try clear fR
            try clear fS
            try clear fT
            try clear fX
            try clear fY
            try clear fZ
            try clear fa
            try clear fb
            try clear fh
            try clear fi
            try clear fj
            try clear fk
            try clear fl
            try clear fr
            try clear fs
            try clear ft
            try clear fx
            try clear fy
            try clear fz
            try clear g0
            try clear g1
            try clear gA
            try clear gB
            try clear gC
            try clear gD
            try clear gE
            try clear gK
            try clear gL
            try clear gM
            try clear gQ
            try clear gR
            try clear gS
            try clear gT
            try clear gU
            try clear cM
            try clear cN
            try clear cO
            try clear cP
            try clear cQ
            try clear ga
            try clear gb
            try clear gc
            try clear gd
            try clear ge
            try clear gl
            try clear gm
            try clear gn
            try clear go
            try clear gp
            try clear gv
            try clear gw
            try clear gx
            try clear gy
            try clear gz
            try clear bE
            try clear bF
            try clear bG
            try clear bH
            try clear bI
            try clear bQ
            try clear bR
            try clear bT
            try clear bU
            try clear bV
            try clear bc
            try clear bd
            try clear be
            try clear bf
            try clear bg
            try clear bm
            try clear bn
            try clear bo
            try clear bp
            try clear bq
            try clear bw
            try clear bx
            try clear bz
            try clear c0
            try clear cA
            try clear cd
            try clear ce
            try clear cf
            try clear cg
            try clear ch
            try clear cn
            try clear co
            try clear cp
            try clear cq
            try clear cr
            try clear d7
            try clear d8
            try clear d9
            try clear dA
            try clear dB
            try clear dF
            try clear dG
            try clear dH
            try clear dN
            try clear dO
            try clear dP
            try clear dQ
            try clear dR
            try clear dV
            try clear dW
            try clear dX
            try clear dd
            try clear de
            try clear df
            try clear dg
            try clear dh
            try clear dl
            try clear dm
            try clear dn
            try clear du
            try clear dv
            try clear dw
            try clear dx
            try clear dy
            try clear e2
            try clear e3
            try clear e4
            try clear eA
            try clear eB
            try clear eC
            try clear eD
            try clear eE
            try clear cH
            try clear cI
            try clear cJ
            try clear cK
            try clear cL
            try clear eI
            try clear eJ
            try clear eK
            try clear eQ
            try clear eR
            try clear eS
            try clear eT
            try clear eU
            try clear eY
            try clear eZ
            try clear ea
            try clear eg
            try clear eh
            try clear ei
            try clear ej
            try clear ek
            try clear eq
            try clear er
            try clear es
            try clear et
            try clear eu
            try clear ey
            try clear ez
            try clear f3
            try clear f9
            try clear fA
            try clear fB
            try clear fC
            try clear fD
            try clear fM
            try clear fN
            try clear fO
            try clear fP
            try clear fQ
            try clear fU
            try clear fV
            try clear fW
            try clear fc
            try clear fd
            try clear fe
            try clear ff
            try clear fg
            try clear fm
            try clear fn
            try clear fo
            try clear fp
            try clear fq
            try clear fu
            try clear fv
            try clear fw
            try clear g2
            try clear g3
            try clear g4
            try clear g5
            try clear g6
            try clear gF
            try clear gG
            try clear gH
            try clear gI
            try clear gJ
            try clear gN
            try clear gO
            try clear gP
            try clear gV
            try clear gW
            try clear gX
            try clear gY
            try clear gZ
            try clear cR
            try clear cS
            try clear cT
            try clear cU
            try clear cV
            try clear gf
            try clear gg
            try clear gh
            try clear gi
            try clear gj
            try clear gq
            try clear gr
            try clear gs
            try clear gt
            try clear gu
            try clear h0
            try clear h1
            try clear h2
            try clear h3
            try clear h4
            try clear ai
            try clear aj
            try clear ak
            try clear ax
            try clear ay
            try clear az
            try clear b1
            try clear b2
            try clear b3
            try clear aA
            try clear aB
            try clear aC
            try clear a8
            try clear aE
            try clear aF
            try clear aL
            try clear aO
            try clear aP
            try clear aM
            try clear aQ
            try clear aR
            try clear p2
            try clear p21
            try clear p213
            try clear p214
            try clear p215
            try clear p216
            try clear p218
            try clear p219
            try clear p220
            try clear p6
            try clear q2
            try clear q21
            try clear q213
            try clear q214
            try clear q215
            try clear q216
            try clear q218
            try clear q219
            try clear q220
            obtain ⟨cX, b0, rfl, rfl, HA, HK4, b6, a0, HB⟩ := hrel
            cases gk with
            | zero => exact absurd HA.out (by simp [hackamoreref28_Check.l2])
            | succ k4 =>
             have H := HA.out
             clear HA
             simp only [hackamoreref28_Check.l2] at H
             by_cases c100 : b0 < (t224.length : Int)
             ·rw [if_pos c100] at H
              have c100b0 : decide (b0 < (t224.length : Int)) = true := decide_eq_true c100
              clear c100
              by_cases c101 : cX = true
              ·subst c101
               have H1 : (hackamoreref28_Check.l2 k4 t224 true (wrap64 (b0 + 1)) a5 a7 a6 a1 aD) = some r := by rw [if_pos rfl] at H; exact H
               clear H
               have H := H1
               clear H1
               have H' := Z0.mk H
               clear H
               obtain ⟨Ao102, co102, eo102⟩ := Kd.R_slice b6.out
               subst eo102
               go_wp2
               repeat (go_quiet (fail); try go_wp2)
               go_roundg k4
               case measure => have := HJ1.out; have := HK2.out; have := HK3.out; have := HK4.out; omega
               case rel => exact ⟨(true), (wrap64 (b0 + 1)), (by first | rfl | (simp; done) | (simp [*]; done)), (by first | rfl | (simp; done) | (simp [*]; done)), H', ⟨by have := HJ1.out; have := HK2.out; have := HK3.out; have := HK4.out; omega⟩, ⟨by (with_reducible repeat (first | apply Kd.R_alloc | apply Kd.R_drewN | apply Kd.R_drew)); exact b6.out⟩, ⟨by (with_reducible repeat first | apply kN | apply kD | apply kA); exact a0.out⟩, ⟨by repeat (first | (with_reducible first | apply bA | apply bN | apply bD | refine bS ?_ a9.out) | exact HB.out)⟩⟩
              ·replace c101 := Bool.eq_false_iff.mpr c101
               subst c101
               have H1 : (if 0 ≤ b0 then (hackamoreref28_Check.l2 k4 t224 ((rd t224 b0) == a6) (wrap64 (b0 + 1)) a5 a7 a6 a1 aD) else (none)) = some r := by rw [if_neg (show ¬ (false = true) by decide)] at H; exact H
               clear H
               have H := H1
               clear H1
               by_cases c103 : 0 ≤ b0
               ·rw [if_pos c103] at H
                have c103b0 : decide (0 ≤ b0) = true := decide_eq_true c103
                clear c103
                have H' := Z0.mk H
                clear H
                obtain ⟨Ao104, co104, eo104⟩ := Kd.R_slice b6.out
                subst eo104
                have p227 : 0 ≤ (b0 : Int) := of_decide_eq_true (by assumption)
                have q227 : b0 < (t224.length : Int) := of_decide_eq_true (by assumption)
                obtain ⟨ad227, e227, hq⟩ := Kd.at_int (Kd.R_reads' b6.out).2.2 b0 p227 q227
                cases e227
                replace p227 := eq_true p227
                replace q227 := eq_true q227
                have h7 : wr.cell? ⟨a4, 0, none⟩ = some (.slice ac a5.length ad) := (kC a0.out 0).trans rfl
                have h8 : wr.cell? ⟨a4, 1, none⟩ = some (.int .i64 a7) := (kC a0.out 1).trans rfl
                have h9 : wr.cell? ⟨a4, 2, none⟩ = some (.int .i64 a6) := (kC a0.out 2).trans rfl
                have hA : wr.cell? ⟨a4, 3, none⟩ = some (.slice ae a1.length af) := (kC a0.out 3).trans rfl
                have hB : wr.cell? ⟨a4, 4, none⟩ = some (.bool aD) := (kC a0.out 4).trans rfl
                have hC := kF a0.out 0
                have hD := kF a0.out 1
                have hE := kF a0.out 2
                have hF := kF a0.out 3
                have hG := kF a0.out 4
                go_wp2
                repeat (go_quiet (fail); try go_wp2)
                go_roundg k4
                case measure => have := HJ1.out; have := HK2.out; have := HK3.out; have := HK4.out; omega
                case rel => exact ⟨(((rd t224 b0) == a6)), (wrap64 (b0 + 1)), (by first | rfl | (simp; done) | (simp [*]; done)), (by first | rfl | (simp; done) | (simp [*]; done)), H', ⟨by have := HJ1.out; have := HK2.out; have := HK3.out; have := HK4.out; omega⟩, ⟨by (with_reducible repeat (first | apply Kd.R_alloc | apply Kd.R_drewN | apply Kd.R_drew)); exact b6.out⟩, ⟨by (with_reducible repeat first | apply kN | apply kD | apply kA); exact a0.out⟩, ⟨by repeat (first | (with_reducible first | apply bA | apply bN | apply bD | refine bS ?_ a9.out) | exact HB.out)⟩⟩
               ·rw [if_neg c103] at H
                exact absurd H (by simp)
             ·rw [if_neg c100] at H
              have c100b0 : decide (b0 < (t224.length : Int)) = false := decide_eq_false c100
              clear c100
              by_cases c106 : cX = true
              ·subst c106
               have H1 : (if aD = true then (if a6 = a7 then (some 0) else (some 14)) else (some 0)) = some r := by rw [if_pos rfl] at H; exact H
               clear H
               have H := H1
               clear H1
               by_cases c107 : aD = true
               ·subst c107
                have H1 : (if a6 = a7 then (some 0) else (some 14)) = some r := by rw [if_pos rfl] at H; exact H
                clear H
                have H := H1
                clear H1
                by_cases c108 : a6 = a7
                ·rw [if_pos c108] at H
                 have c108b0 : (a6 == a7) = true := beq_iff_eq.mpr c108
                 have c108b1 : (a6 != a7) = false := bne_eq_false_iff_eq.mpr c108
                 clear c108
                 obtain rfl := Option.some.inj H
                 obtain ⟨Ao109, co109, eo109⟩ := Kd.R_slice b6.out
                 subst eo109
                 have hH : wr.cell? ⟨a4, 0, none⟩ = some (.slice ac a5.length ad) := (kC a0.out 0).trans rfl
                 have hI : wr.cell? ⟨a4, 1, none⟩ = some (.int .i64 a7) := (kC a0.out 1).trans rfl
                 have hJ : wr.cell? ⟨a4, 2, none⟩ = some (.int .i64 a6) := (kC a0.out 2).trans rfl
                 have hK : wr.cell? ⟨a4, 3, none⟩ = some (.slice ae a1.length af) := (kC a0.out 3).trans rfl
                 have hL : wr.cell? ⟨a4, 4, none⟩ = some (.bool true) := (kC a0.out 4).trans rfl
                 have hM := kF a0.out 0
                 have hN := kF a0.out 1
                 have hO := kF a0.out 2
                 have hP := kF a0.out 3
                 have hQ := kF a0.out 4
                 go_wp2
                 repeat (go_quiet (fail); try go_wp2)
                 go_ret
                 exact ⟨by first | rfl | (simp [errW_none, errW_some] <;> rfl) | (simp [*, errW_none, errW_some] <;> rfl), by repeat (first | (with_reducible first | apply bA | apply bN | apply bD | refine bS ?_ a9.out) | exact HB.out)⟩
                ·rw [if_neg c108] at H
                 have c108b0 : (a6 == a7) = false := beq_eq_false_iff_ne.mpr c108
                 have c108b1 : (a6 != a7) = true := bne_iff_ne.mpr c108
                 obtain rfl := Option.some.inj H
                 obtain ⟨Ao111, co111, eo111⟩ := Kd.R_slice b6.out
                 subst eo111
                 have hR : wr.cell? ⟨a4, 0, none⟩ = some (.slice ac a5.length ad) := (kC a0.out 0).trans rfl
                 have hS : wr.cell? ⟨a4, 1, none⟩ = some (.int .i64 a7) := (kC a0.out 1).trans rfl
                 have hT : wr.cell? ⟨a4, 2, none⟩ = some (.int .i64 a6) := (kC a0.out 2).trans rfl
                 have hU : wr.cell? ⟨a4, 3, none⟩ = some (.slice ae a1.length af) := (kC a0.out 3).trans rfl
                 have hV : wr.cell? ⟨a4, 4, none⟩ = some (.bool true) := (kC a0.out 4).trans rfl
                 have hW := kF a0.out 0
                 have hX := kF a0.out 1
                 have hY := kF a0.out 2
                 have hZ := kF a0.out 3
                 have ha := kF a0.out 4
                 go_wp2
                 repeat (go_quiet (fail); try go_wp2)
                 go_ret
                 exact ⟨by first | rfl | (simp [errW_none, errW_some] <;> rfl) | (simp [*, errW_none, errW_some] <;> rfl), by repeat (first | (with_reducible first | apply bA | apply bN | apply bD | refine bS ?_ a9.out) | exact HB.out)⟩
               ·replace c107 := Bool.eq_false_iff.mpr c107
                subst c107
                have H1 : (some 0) = some r := by rw [if_neg (show ¬ (false = true) by decide)] at H; exact H
                clear H
                have H := H1
                clear H1
                obtain rfl := Option.some.inj H
                obtain ⟨Ao113, co113, eo113⟩ := Kd.R_slice b6.out
                subst eo113
                have hc : wr.cell? ⟨a4, 0, none⟩ = some (.slice ac a5.length ad) := (kC a0.out 0).trans rfl
                have he : wr.cell? ⟨a4, 1, none⟩ = some (.int .i64 a7) := (kC a0.out 1).trans rfl
                have hf : wr.cell? ⟨a4, 2, none⟩ = some (.int .i64 a6) := (kC a0.out 2).trans rfl
                have hh : wr.cell? ⟨a4, 3, none⟩ = some (.slice ae a1.length af) := (kC a0.out 3).trans rfl
                have hj : wr.cell? ⟨a4, 4, none⟩ = some (.bool false) := (kC a0.out 4).trans rfl
                have hl := kF a0.out 0
                have hm := kF a0.out 1
                have hn := kF a0.out 2
                have ho := kF a0.out 3
                have hp := kF a0.out 4
                go_wp2
                repeat (go_quiet (fail); try go_wp2)
                go_ret
                exact ⟨by first | rfl | (simp [errW_none, errW_some] <;> rfl) | (simp [*, errW_none, errW_some] <;> rfl), by repeat (first | (with_reducible first | apply bA | apply bN | apply bD | refine bS ?_ a9.out) | exact HB.out)⟩
              ·replace c106 := Bool.eq_false_iff.mpr c106
               subst c106
               have H1 : (some 14) = some r := by rw [if_neg (show ¬ (false = true) by decide)] at H; exact H
               clear H
               have H := H1
               clear H1
               obtain rfl := Option.some.inj H
               obtain ⟨Ao115, co115, eo115⟩ := Kd.R_slice b6.out
               subst eo115
               go_wp2
               repeat (go_quiet (fail); try go_wp2)
               go_ret
               exact ⟨by first | rfl | (simp [errW_none, errW_some] <;> rfl) | (simp [*, errW_none, errW_some] <;> rfl), by repeat (first | (with_reducible first | apply bA | apply bN | apply bD | refine bS ?_ a9.out) | exact HB.out)⟩
end Go.Proofs.Ytgbafpjeapkklaa.PMailboxRuns
namespace Go.Proofs.Ytgbafpjeapkklaa.Mb
open Go.RowKit Go.Proofs.YtgbafpjeapkklaaW.PrintWords PMailboxRuns
set_option linter.unusedVariables false
set_option linter.unusedSimpArgs false
def n105 (x : Int × Int × Int) : S105 := ⟨x.1, x.2.1, x.2.2⟩
def n122 (x : Int × Int × Int) : S122 := ⟨x.1, x.2.1, x.2.2⟩
def L105 (l : List (Int × Int × Int)) : List S105 := l.map n105
def L122 (l : List (Int × Int × Int)) : List S122 := l.map n122
end Go.Proofs.Ytgbafpjeapkklaa.Mb
namespace Go.Proofs.Ytgbafpjeapkklaa.Mb
open Go.RowKit Go.Proofs.YtgbafpjeapkklaaW.PrintWords PMailboxRuns
set_option linter.unusedVariables false
set_option linter.unusedSimpArgs false
def chR (ns : List T3) : Nat → List Int → Int → List Int
 | 0, _, _ => []
 | f + 1, cur, i => if i = -1 then cur else if i < 0 ∨ (ns.length : Int) ≤ i ∨ ns.length < cur.length then [] else chR ns f (cur ++ [i]) (nxtG ns i)
theorem L105_l (l : List T3) : (L105 l).length = l.length := by simp [L105]
theorem L122_l (l : List T3) : (L122 l).length = l.length := by simp [L122]
theorem rdNg {ns : List T3} {i : Int} (h0 : 0 ≤ i) (h : i < ns.length) : (rZ5 (L105 ns) i).f2 = nxtG ns i := by
 have hl : i.toNat < ns.length := by omega
 simp [rZ5, L105, nxtG, List.getD_eq_getElem?_getD, List.getElem?_eq_getElem hl, n105]
theorem rdPg {ps : List T3} {i : Nat} (h : i < ps.length) : rZ2 (L122 ps) (i : Int) = n122 (pgt ps i) := by
 simp [rZ2, L122, pgt, List.getD_eq_getElem?_getD, List.getElem?_eq_getElem h]
section
variable {ns ps : List T3} {x1 x2 : Int} {x4 : Bool} {l3 : List S122}
theorem chain_evR (hN : ns.length ≤ 100000) : ∀ (f : Nat) (cur : List Int) (i : Int), ns.length + 3 ≤ f + cur.length → cur.length ≤ ns.length + 1 → Ev (fun k => hackamoreref28_chain.l0 k i cur (L105 ns) x1 x2 l3 x4) (chR ns f cur i)
 | 0, cur, i, h1, h2 => by omega
 | f + 1, cur, i, h1, h2 => by
  unfold chR
  by_cases hi : i = -1
  ·rw [if_pos hi]
   refine Ev.step (f := fun _ => some cur) (fun k => ?_) (Ev.now _)
   simp only [hackamoreref28_chain.l0]
   rw [if_pos hi]
  rw [if_neg hi]
  by_cases hbad : i < 0 ∨ (ns.length : Int) ≤ i ∨ ns.length < cur.length
  ·rw [if_pos hbad]
   refine Ev.step (f := fun _ => some []) (fun k => ?_) (Ev.now _)
   simp only [hackamoreref28_chain.l0]
   rw [if_neg hi]
   by_cases a : i < 0
   ·rw [if_pos a]
   rw [if_neg a, L105_l]
   by_cases b : i ≥ (ns.length : Int)
   ·rw [if_pos b]
   rw [if_neg b, if_pos (show (cur.length : Int) > (ns.length : Int) by omega)]
  ·rw [if_neg hbad]
   refine Ev.step (fun k => ?_) (chain_evR hN f (cur ++ [i]) (nxtG ns i) (by rw [List.length_append, List.length_singleton]; omega) (by rw [List.length_append, List.length_singleton]; omega))
   simp only [hackamoreref28_chain.l0]
   rw [if_neg hi, if_neg (by omega), L105_l, if_neg (by omega), if_neg (by omega), if_pos (by omega), if_pos (by omega), if_pos (by omega), rdNg (by omega) (by omega)]
theorem chain_evg (hN : ns.length ≤ 100000) (i : Int) : Ev (fun k => hackamoreref28_chain.f k (L105 ns) x1 x2 l3 x4 i) (chR ns (ns.length + 3) [] i) :=
 chain_evR hN _ [] i (by simp) (by simp)
end
def hits (ps : List T3) (e : Int) (k : Nat) : List Nat := (List.range k).filter fun i => (pgt ps i).2.1 == e
theorem hits_succ (ps : List T3) (e : Int) (k : Nat) : hits ps e (k + 1) = hits ps e k ++ (if (pgt ps k).2.1 = e then [k] else []) := by
 unfold hits
 rw [List.range_succ, List.filter_append]
 congr 1
 by_cases h : (pgt ps k).2.1 = e
 ·simp [h]
 ·have : ((pgt ps k).2.1 == e) = false := by simpa using h
  simp [this, h]
def distR (l : List Int) : List Int := open Classical in if l.Nodup then l else []
theorem rd_at {l : List Int} {i : Nat} (h : i < l.length) : rd l (i : Int) = l[i] := by
 simp [rd, List.getD_eq_getElem?_getD, List.getElem?_eq_getElem h]
theorem nodup_at {l : List Int} : l.Nodup ↔ ∀ i k, k < i → i < l.length → rd l (i : Int) ≠ rd l (k : Int) := by
 rw [List.nodup_iff_pairwise_ne, List.pairwise_iff_getElem]
 constructor
 ·intro h i k hk hi
  rw [rd_at hi, rd_at (by omega)]
  exact fun e => h k i (by omega) hi hk e.symm
 ·intro h k i hk hi hki
  have := h i k hki hi
  rw [rd_at hi, rd_at (by omega)] at this
  exact fun e => this e.symm
theorem distinct_evR (l : List Int) (hl : l.length ≤ 90000) : ∀ (d i : Nat), i + d = l.length → (∀ i' k, k < i' → i' < i → rd l (i' : Int) ≠ rd l (k : Int)) → Ev (fun k => hackamoreref28_distinct.l0 k l (i : Int)) (distR l)
 | 0, i, h, hok => by
  have hnd : l.Nodup := nodup_at.2 (fun i' k hk hi' => hok i' k hk (by omega))
  unfold distR
  rw [if_pos hnd]
  refine Ev.step (f := fun _ => some l) (fun k => ?_) (Ev.now _)
  simp only [hackamoreref28_distinct.l0]
  rw [if_neg (by omega)]
 | d + 1, i, h, hok => by
  refine Ev.step (f := fun k => hackamoreref28_distinct.l1 k l (i : Int) 0) (fun k => ?_) ?_
  ·simp only [hackamoreref28_distinct.l0]
   rw [if_pos (by omega)]
  have inner : ∀ (d2 j : Nat), j + d2 = i → (∀ k, k < j → rd l (i : Int) ≠ rd l (k : Int)) → Ev (fun k => hackamoreref28_distinct.l1 k l (i : Int) (j : Int)) (distR l) := by
   intro d2
   induction d2 with
   | zero =>
    intro j hj hno
    refine Ev.step (fun k => ?_) (distinct_evR l hl d (i + 1) (by omega) (fun i' k hk hi' => by
     rcases Nat.lt_or_ge i' i with h1 | h1
     ·exact hok i' k hk h1
     ·obtain rfl : i' = i := by omega
      exact hno k (by omega)))
    simp only [hackamoreref28_distinct.l1]
    rw [if_neg (by omega), wrap_small (by omega) (by omega)]
    rfl
   | succ d2 ih2 =>
    intro j hj hno
    by_cases heq : rd l (i : Int) = rd l (j : Int)
    ·have hnd : ¬ l.Nodup := fun h' => nodup_at.1 h' i j (by omega) (by omega) heq
     unfold distR
     rw [if_neg hnd]
     refine Ev.step (f := fun _ => some []) (fun k => ?_) (Ev.now _)
     simp only [hackamoreref28_distinct.l1]
     rw [if_pos (by omega), if_pos (by omega), if_pos (by omega), if_pos (by omega), if_pos (by omega), if_pos heq]
    ·refine Ev.step (fun k => ?_) (ih2 (j + 1) (by omega) (fun k hk => by
      rcases Nat.lt_or_ge k j with h1 | h1
      ·exact hno k h1
      ·obtain rfl : k = j := by omega
       exact heq))
     simp only [hackamoreref28_distinct.l1]
     rw [if_pos (by omega), if_pos (by omega), if_pos (by omega), if_pos (by omega), if_pos (by omega), if_neg heq, wrap_small (by omega) (by omega)]
     rfl
  exact inner i 0 (by omega) (fun k hk => absurd hk (Nat.not_lt_zero _))
theorem distinct_evg (l : List Int) (hl : l.length ≤ 90000) : Ev (fun k => hackamoreref28_distinct.f k l) (distR l) :=
 distinct_evR l hl l.length 0 (by omega) (fun i' k hk hi' => absurd hi' (Nat.not_lt_zero _))
def ordR (ns ps : List T3) (last : Int) : Nat → List Int → Nat → Int → List Int
 | 0, _, _, _ => []
 | f + 1, out, used, a =>
  let l := chR ns (ns.length + 3) [] a
  if l = [] then [] else if ns.length < (out ++ l).length then [] else
  match hits ps (rd l (((l.length - 1 : Nat) : Int))) ps.length with
  | [] => if rd l (((l.length - 1 : Nat) : Int)) = last ∧ used = ps.length ∧ (out ++ l).length = ns.length then distR (out ++ l) else []
  | [k] => if rd l (((l.length - 1 : Nat) : Int)) = last then [] else ordR ns ps last f (out ++ l) (used + 1) (pgt ps k).2.2
  | _ => []
theorem hits_lt {ps : List T3} {e : Int} {k i : Nat} (h : i ∈ hits ps e k) : i < k ∧ (pgt ps i).2.1 = e := by
 unfold hits at h
 obtain ⟨a, b⟩ := List.mem_filter.1 h
 exact ⟨List.mem_range.1 a, by simpa using b⟩
theorem hits_pre {ps : List T3} {e : Int} {j k : Nat} (h : j ≤ k) : ∃ u, hits ps e k = hits ps e j ++ u := by
 obtain ⟨d, rfl⟩ : ∃ d, k = j + d := ⟨k - j, by omega⟩
 clear h
 induction d with
 | zero => exact ⟨[], by simp⟩
 | succ d ih =>
  obtain ⟨u, hu⟩ := ih
  refine ⟨u ++ (if (pgt ps (j + d)).2.1 = e then [j + d] else []), ?_⟩
  rw [← List.append_assoc, ← hu]
  exact hits_succ ps e (j + d)
theorem chR_len (ns : List T3) : ∀ (f : Nat) (cur : List Int) (i : Int), cur.length ≤ ns.length + 1 → (chR ns f cur i).length ≤ ns.length + 1
 | 0, cur, i, h => Nat.zero_le _
 | f + 1, cur, i, h => by
  unfold chR
  split
  ·exact h
  ·split
   ·exact Nat.zero_le _
   ·rename_i hb
    exact chR_len ns f _ _ (by rw [List.length_append, List.length_singleton]; omega)
def fnd (l : List Nat) : Int := match l with
 | [] => -1
 | k :: _ => (k : Int)
section
variable {ns ps : List T3} {last x2 : Int} {x4 : Bool}
theorem order_evR (hN : ns.length ≤ 2000) (hP : ps.length ≤ 2000) (hpn : ∀ k, k < ps.length → 0 ≤ (pgt ps k).2.2) : ∀ (f : Nat) (out : List Int) (used : Nat) (a : Int), ns.length + 2 ≤ f + out.length → out.length ≤ ns.length → used ≤ out.length →
  Ev (fun k => hackamoreref28_Order.l0 k out (used : Int) a (L105 ns) last x2 (L122 ps) x4) (ordR ns ps last f out used a)
 | 0, out, used, a, h1, h2, h3 => by omega
 | f + 1, out, used, a, h1, h2, h3 => by
  have hch := chain_evg (ns := ns) (x1 := last) (x2 := x2) (l3 := L122 ps) (x4 := x4) (by omega) a
  have hll := chR_len ns (ns.length + 3) [] a (by simp)
  unfold ordR
  dsimp only
  generalize chR ns (ns.length + 3) [] a = l at *
  refine Ev.step (f := fun k => (hackamoreref28_chain.f k (L105 ns) last x2 (L122 ps) x4 a).bind fun t200 => (if (t200.length : Int) = 0 then (some ([] : List Int)) else (if out.length + t200.length < 17592186044416 then ((some (out ++ t200 : List Int)).bind fun y203 => (if (y203.length : Int) > ((L105 ns).length : Int) then (some ([] : List Int)) else (if 0 ≤ (wrap64 ((t200.length : Int) - 1)) then (if (wrap64 ((t200.length : Int) - 1)) < (t200.length : Int) then (hackamoreref28_Order.l1 k y203 (used : Int) (rd t200 (wrap64 ((t200.length : Int) - 1))) (-1) 0 (L105 ns) last x2 (L122 ps) x4) else (none)) else (none)))) else (none)))) (fun k => ?_) ?_
  ·simp only [hackamoreref28_Order.l0]
  refine Ev.bind hch ?_
  by_cases hl0 : l = []
  ·rw [if_pos hl0]
   subst hl0
   refine Ev.congr (fun k => ?_) (Ev.now _)
   rw [if_pos (show (([] : List Int).length : Int) = 0 from rfl)]
  have hlp : 0 < l.length := List.length_pos_iff.2 hl0
  rw [if_neg hl0]
  have ew : wrap64 ((l.length : Int) - 1) = ((l.length - 1 : Nat) : Int) := by rw [wrap_small (by omega) (by omega)]; omega
  generalize he : rd l ((l.length - 1 : Nat) : Int) = e at *
  have hal : (out ++ l).length = out.length + l.length := List.length_append
  by_cases hbig : ns.length < (out ++ l).length
  ·rw [if_pos hbig]
   refine Ev.congr (fun k => ?_) (Ev.now _)
   rw [if_neg (by omega), if_pos (by omega)]
   simp only [Option.bind_some]
   rw [L105_l, if_pos (by omega)]
  rw [if_neg hbig]
  generalize hol : out ++ l = ol at *
  have inner : ∀ (d i : Nat), i + d = ps.length → (hits ps e i).length ≤ 1 → Ev (fun k => hackamoreref28_Order.l1 k ol (used : Int) e (fnd (hits ps e i)) (i : Int) (L105 ns) last x2 (L122 ps) x4)
    (match hits ps e ps.length with
     | [] => if e = last ∧ used = ps.length ∧ ol.length = ns.length then distR ol else []
     | [k] => if e = last then [] else ordR ns ps last f ol (used + 1) (pgt ps k).2.2
     | _ => []) := by
   intro d
   induction d with
   | zero =>
    intro i hi h1
    obtain rfl : i = ps.length := by omega
    match hh : hits ps e ps.length with
    | [] =>
     dsimp only
     by_cases hg : e = last ∧ used = ps.length ∧ ol.length = ns.length
     ·rw [if_pos hg]
      refine Ev.step (f := fun k => hackamoreref28_Order.j2 k ol false) (fun k => ?_) ?_
      ·simp only [hackamoreref28_Order.l1]
       rw [L122_l, if_neg (by omega), if_pos (by simp [fnd]), if_pos hg.1, if_pos (by omega), L105_l, hg.2.2]
       simp
      ·refine Ev.step (f := fun k => (hackamoreref28_distinct.f k ol).bind fun t208 => (some t208)) (fun k => ?_) (Ev.bind (distinct_evg ol (by omega)) (Ev.now _))
       simp only [hackamoreref28_Order.j2]
       rw [if_neg (by simp)]
     ·rw [if_neg hg]
      refine Ev.step (f := fun k => hackamoreref28_Order.j2 k ol true) (fun k => ?_) (Ev.step (f := fun _ => some []) (fun k => ?_) (Ev.now _))
      ·simp only [hackamoreref28_Order.l1]
       rw [L122_l, if_neg (by omega), if_pos (by simp [fnd])]
       by_cases a1 : e = last
       ·rw [if_pos a1]
        by_cases a2 : (used : Int) = (ps.length : Int)
        ·rw [if_pos a2, L105_l]
         have a3 : ((ol.length : Int) != (ns.length : Int)) = true := by
          have : ¬ ol.length = ns.length := fun h => hg ⟨a1, by omega, h⟩
          simp
          omega
         rw [a3]
        ·rw [if_neg a2]
       ·rw [if_neg a1]
      ·simp only [hackamoreref28_Order.j2]
       rw [if_pos trivial]
    | [k0] =>
     dsimp only
     have hk := hits_lt (ps := ps) (e := e) (k := ps.length) (i := k0) (by rw [hh]; exact List.mem_singleton.2 rfl)
     by_cases a1 : e = last
     ·rw [if_pos a1]
      refine Ev.step (f := fun _ => some []) (fun k => ?_) (Ev.now _)
      simp only [hackamoreref28_Order.l1]
      rw [L122_l, if_neg (by omega), if_neg (by simp only [fnd]; omega), if_pos a1]
     ·rw [if_neg a1]
      refine Ev.step (fun k => ?_) (order_evR hN hP hpn f ol (used + 1) (pgt ps k0).2.2 (by omega) (by omega) (by omega))
      simp only [hackamoreref28_Order.l1]
      rw [L122_l, if_neg (by omega), if_neg (by simp only [fnd]; omega), if_neg a1]
      rw [show fnd [k0] = (k0 : Int) from rfl, if_pos (by omega), if_pos (by omega), rdPg hk.1, wrap_small (by omega) (by omega)]
      rfl
    | k0 :: k1 :: t => rw [hh] at h1; simp at h1
   | succ d ih =>
    intro i hi h1
    have hs := hits_succ ps e i
    by_cases hx : (pgt ps i).2.1 = e
    ·rw [if_pos hx] at hs
     match hh : hits ps e i with
     | [] =>
      rw [hh] at hs
      refine Ev.step (fun k => ?_) (ih (i + 1) (by omega) (by rw [hs]; simp))
      simp only [hackamoreref28_Order.l1]
      rw [L122_l, if_pos (by omega), if_pos (by omega), rdPg (by omega), if_pos (show (n122 (pgt ps i)).f1 = e from hx), if_neg (by simp only [fnd]; omega), wrap_small (by omega) (by omega), hs]
      rfl
     | k0 :: t =>
      rw [hh] at hs h1
      have ht : t = [] := by simp at h1; exact h1
      subst ht
      obtain ⟨u, hu⟩ : ∃ u, hits ps e ps.length = hits ps e (i + 1) ++ u := hits_pre (by omega)
      rw [hu, hs]
      refine Ev.step (f := fun _ => some []) (fun k => ?_) (Ev.now _)
      simp only [hackamoreref28_Order.l1]
      rw [L122_l, if_pos (by omega), if_pos (by omega), rdPg (by omega), if_pos (show (n122 (pgt ps i)).f1 = e from hx), if_pos (by simp only [fnd]; omega)]
    ·rw [if_neg hx, List.append_nil] at hs
     refine Ev.step (fun k => ?_) (ih (i + 1) (by omega) (by rw [hs]; exact h1))
     simp only [hackamoreref28_Order.l1]
     rw [L122_l, if_pos (by omega), if_pos (by omega), rdPg (by omega), if_neg (show ¬ (n122 (pgt ps i)).f1 = e from hx), wrap_small (by omega) (by omega), hs]
     rfl
  refine Ev.congr (fun k => ?_) (inner ps.length 0 (by omega) (by simp [hits]))
  rw [if_neg (by omega), if_pos (by omega)]
  simp only [Option.bind_some]
  rw [L105_l, if_neg (by omega), ew, if_pos (by omega), if_pos (by omega), he]
  rfl
end
end Go.Proofs.Ytgbafpjeapkklaa.Mb
namespace Go.Proofs.Ytgbafpjeapkklaa.Mb
open Go.RowKit Go.Proofs.YtgbafpjeapkklaaW.PrintWords PMailboxRuns
set_option linter.unusedVariables false
set_option linter.unusedSimpArgs false
def ngt (ns : List T3) (i : Nat) : T3 := ns.getD i (0, 0, 0)
theorem rdNf {ns : List T3} {i : Int} (h0 : 0 ≤ i) (h : i < ns.length) : rZ5 (L105 ns) i = n105 (ngt ns i.toNat) := by
 have hl : i.toNat < ns.length := by omega
 simp [rZ5, L105, ngt, List.getD_eq_getElem?_getD, List.getElem?_eq_getElem hl]
def PushR (ns ps : List T3) (k : Nat) : Prop :=
 InR ns.length (pgt ps k).2.2 ∧ InR ns.length (pgt ps k).2.1 ∧ 0 ≤ (pgt ps k).1 ∧ (∀ j, j + 1 = k → (pgt ps j).1 < (pgt ps k).1) ∧ (ngt ns (pgt ps k).2.2.toNat).2.1 = (pgt ps k).1
structure RightR (ns : List T3) (last done : Int) (ps : List T3) (em : Bool) : Prop where
 n1 : 1 ≤ ns.length
 n2 : ns.length ≤ 2000
 lastI : InR ns.length last
 doneI : InR ns.length done
 v0 : (ngt ns 0).1 = 0
 p0 : (ngt ns 0).2.1 = -1
 prod : ∀ i, 1 ≤ i → i < ns.length → 0 ≤ (ngt ns i).2.1
 push : ∀ k, k < ps.length → PushR ns ps k
 order : ordR ns ps last (ns.length + 2) [] 0 0 ≠ []
 there : done ∈ chR ns (ns.length + 3) [] 0
 mt : em = true → done = last
section
variable {ns ps : List T3} {last done : Int} {em : Bool} {c : Int}
theorem l2_ev (hN : ns.length ≤ 2000) (hc1 : done ∈ chR ns (ns.length + 3) [] 0 → (em = true → done = last) → c = 0) (hc2 : ¬ (done ∈ chR ns (ns.length + 3) [] 0 ∧ (em = true → done = last)) → c = 14) (l : List Int) (hl : l = chR ns (ns.length + 3) [] 0) :
  ∀ (d i : Nat) (b : Bool), i + d = l.length → (b = true ↔ ∃ k, k < i ∧ rd l (k : Int) = done) → Ev (fun k => hackamoreref28_Check.l2 k l b (i : Int) (L105 ns) last done (L122 ps) em) c
 | 0, i, b, h, hb => by
  have hll := chR_len ns (ns.length + 3) [] 0 (by simp)
  rw [← hl] at hll hc1 hc2
  have hmem : b = true ↔ done ∈ l := by
   rw [hb]
   constructor
   ·rintro ⟨k, hk, e⟩
    rw [rd_at (by omega)] at e
    rw [← e]; exact List.getElem_mem _
   ·intro hm
    obtain ⟨k, hk, e⟩ := List.mem_iff_getElem.1 hm
    exact ⟨k, by omega, by rw [rd_at hk]; exact e⟩
  refine Ev.step (f := fun _ => some c) (fun k => ?_) (Ev.now _)
  simp only [hackamoreref28_Check.l2]
  rw [if_neg (by omega)]
  cases b with
  | false =>
   rw [if_neg (by simp), hc2 (fun h' => by have := hmem.2 h'.1; cases this)]
  | true =>
   have hm := hmem.1 rfl
   rw [if_pos rfl]
   cases em with
   | false => rw [if_neg (by simp), hc1 hm (fun h' => by cases h')]
   | true =>
    rw [if_pos rfl]
    by_cases hd : done = last
    ·rw [if_pos hd, hc1 hm (fun _ => hd)]
    ·rw [if_neg hd, hc2 (fun h' => hd (h'.2 rfl))]
 | d + 1, i, b, h, hb => by
  have hll := chR_len ns (ns.length + 3) [] 0 (by simp)
  rw [← hl] at hll
  cases b with
  | true =>
   refine Ev.step (fun k => ?_) (l2_ev hN hc1 hc2 l hl d (i + 1) true (by omega) (by
    constructor
    ·intro _
     obtain ⟨k, hk, e⟩ := hb.1 rfl
     exact ⟨k, by omega, e⟩
    ·intro _; rfl))
   simp only [hackamoreref28_Check.l2]
   rw [if_pos (by omega), if_pos trivial, wrap_small (by omega) (by omega)]
   rfl
  | false =>
   refine Ev.step (fun k => ?_) (l2_ev hN hc1 hc2 l hl d (i + 1) (rd l (i : Int) == done) (by omega) (by
    constructor
    ·intro e
     exact ⟨i, by omega, by simpa using e⟩
    ·rintro ⟨k, hk, e⟩
     rcases Nat.lt_or_ge k i with h1 | h1
     ·have := hb.2 ⟨k, h1, e⟩; cases this
     ·obtain rfl : k = i := by omega
      simpa using e))
   simp only [hackamoreref28_Check.l2]
   rw [if_pos (by omega), if_neg (by simp), if_pos (by omega), wrap_small (by omega) (by omega)]
   rfl
theorem l1_ev (hP : ps.length ≤ 2000) (hc1 : RightR ns last done ps em → c = 0) (hc2 : ¬ RightR ns last done ps em → c = 14)
  (h1 : 1 ≤ ns.length) (h2 : ns.length ≤ 2000) (h3 : InR ns.length last) (h4 : InR ns.length done) (h5 : (ngt ns 0).1 = 0) (h6 : (ngt ns 0).2.1 = -1) (h7 : ∀ i, 1 ≤ i → i < ns.length → 0 ≤ (ngt ns i).2.1) :
  ∀ (d i : Nat), i + d = ps.length → (∀ k, k < i → PushR ns ps k) → Ev (fun k => hackamoreref28_Check.l1 k (ns.length : Int) (i : Int) (L105 ns) last done (L122 ps) em) c
 | 0, i, h, hall => by
  obtain rfl : i = ps.length := by omega
  have ho := order_evR (ns := ns) (ps := ps) (last := last) (x2 := done) (x4 := em) h2 hP (fun k hk => (hall k hk).1.1) (ns.length + 2) [] 0 0 (by simp) (by simp) (by simp)
  have hch := chain_evg (ns := ns) (x1 := last) (x2 := done) (l3 := L122 ps) (x4 := em) (by omega) 0
  refine Ev.step (f := fun k => (hackamoreref28_Order.f k (L105 ns) last done (L122 ps) em).bind fun t221 => (if (t221.length : Int) = 0 then (some 14) else ((hackamoreref28_chain.f k (L105 ns) last done (L122 ps) em 0).bind fun t224 => (hackamoreref28_Check.l2 k t224 false 0 (L105 ns) last done (L122 ps) em)))) (fun k => ?_) ?_
  ·simp only [hackamoreref28_Check.l1]
   rw [L122_l, if_neg (by omega)]
  refine Ev.bind ho ?_
  by_cases hne : ordR ns ps last (ns.length + 2) [] 0 0 = []
  ·rw [hne]
   refine Ev.congr (fun k => ?_) (Ev.now _)
   rw [if_pos (show (([] : List Int).length : Int) = 0 from rfl), hc2 (fun h => h.order hne)]
  ·have hp : 0 < (ordR ns ps last (ns.length + 2) [] 0 0).length := List.length_pos_iff.2 hne
   refine Ev.congr (f := fun k => (hackamoreref28_chain.f k (L105 ns) last done (L122 ps) em 0).bind fun t224 => (hackamoreref28_Check.l2 k t224 false 0 (L105 ns) last done (L122 ps) em)) (fun k => by rw [if_neg (by omega)]) ?_
   refine Ev.bind hch ?_
   exact l2_ev h2 (fun a b => hc1 ⟨h1, h2, h3, h4, h5, h6, h7, hall, hne, a, b⟩) (fun a => hc2 (fun b => a ⟨b.there, b.mt⟩)) (chR ns (ns.length + 3) [] 0) rfl (chR ns (ns.length + 3) [] 0).length 0 false (by omega) (by
    constructor
    ·intro e; cases e
    ·rintro ⟨k, hk, _⟩; exact absurd hk (Nat.not_lt_zero _))
 | d + 1, i, h, hall => by
  have hil : i < ps.length := by omega
  have hr := rdPg hil
  have bad : ¬ PushR ns ps i → Ev (fun _ : Nat => some (14 : Int)) c := fun hno => by
   rw [hc2 (fun b => hno (b.push i hil))]; exact Ev.now _
  by_cases hp : PushR ns ps i
  ·refine Ev.step (fun k => ?_) (l1_ev hP hc1 hc2 h1 h2 h3 h4 h5 h6 h7 d (i + 1) (by omega) (fun k hk => by
    rcases Nat.lt_or_ge k i with a | a
    ·exact hall k a
    ·obtain rfl : k = i := by omega
     exact hp))
   obtain ⟨⟨a1, a2⟩, ⟨b1, b2⟩, a3, a4, a5⟩ := hp
   simp only [hackamoreref28_Check.l1]
   rw [L122_l, if_pos (by omega), if_pos (by omega), hr]
   rw [show (n122 (pgt ps i)).f2 = (pgt ps i).2.2 from rfl, show (n122 (pgt ps i)).f1 = (pgt ps i).2.1 from rfl, show (n122 (pgt ps i)).f0 = (pgt ps i).1 from rfl]
   rw [if_neg (by omega), if_neg (by omega), if_neg (by omega), if_neg (by omega), if_neg (by omega)]
   by_cases hi0 : i = 0
   ·subst hi0
    rw [if_neg (by omega), if_pos a1, L105_l, if_pos a2, rdNf a1 a2, if_pos (show (n105 _).f1 = _ from a5), wrap_small (by omega) (by omega)]
    rfl
   ·have ei : wrap64 ((i : Int) - 1) = ((i - 1 : Nat) : Int) := by rw [wrap_small (by omega) (by omega)]; omega
    rw [if_pos (by omega), ei, if_pos (by omega), if_pos (by omega), rdPg (show i - 1 < ps.length by omega)]
    have := a4 (i - 1) (by omega)
    rw [if_neg (show ¬ (n122 (pgt ps (i - 1))).f0 ≥ (pgt ps i).1 by show ¬ (pgt ps (i - 1)).1 ≥ _; omega), if_pos a1, L105_l, if_pos a2, rdNf a1 a2, if_pos (show (n105 _).f1 = _ from a5), wrap_small (by omega) (by omega)]
    rfl
  ·refine Ev.step (f := fun _ => some 14) (fun k => ?_) (bad hp)
   simp only [hackamoreref28_Check.l1]
   rw [L122_l, if_pos (by omega), if_pos (by omega), hr]
   rw [show (n122 (pgt ps i)).f2 = (pgt ps i).2.2 from rfl, show (n122 (pgt ps i)).f1 = (pgt ps i).2.1 from rfl, show (n122 (pgt ps i)).f0 = (pgt ps i).1 from rfl]
   by_cases a1 : (pgt ps i).2.2 < 0
   ·rw [if_pos a1]
   rw [if_neg a1]
   by_cases a2 : (pgt ps i).2.2 ≥ (ns.length : Int)
   ·rw [if_pos a2]
   rw [if_neg a2]
   by_cases b1 : (pgt ps i).2.1 < 0
   ·rw [if_pos b1]
   rw [if_neg b1]
   by_cases b2 : (pgt ps i).2.1 ≥ (ns.length : Int)
   ·rw [if_pos b2]
   rw [if_neg b2]
   by_cases a3 : (pgt ps i).1 < 0
   ·rw [if_pos a3]
   rw [if_neg a3]
   by_cases hi0 : i = 0
   ·subst hi0
    have a5 : ¬ (ngt ns (pgt ps 0).2.2.toNat).2.1 = (pgt ps 0).1 := fun h' => hp ⟨⟨by omega, by omega⟩, ⟨by omega, by omega⟩, by omega, fun j hj => by omega, h'⟩
    rw [if_neg (by omega), if_pos (by omega), L105_l, if_pos (by omega), rdNf (by omega) (by omega), if_neg (show ¬ (n105 _).f1 = _ from a5)]
   ·have ei : wrap64 ((i : Int) - 1) = ((i - 1 : Nat) : Int) := by rw [wrap_small (by omega) (by omega)]; omega
    rw [if_pos (by omega), ei, if_pos (by omega), if_pos (by omega), rdPg (show i - 1 < ps.length by omega)]
    by_cases a4 : (n122 (pgt ps (i - 1))).f0 ≥ (pgt ps i).1
    ·rw [if_pos a4]
    have a4' : ¬ (pgt ps (i - 1)).1 ≥ (pgt ps i).1 := a4
    have a5 : ¬ (ngt ns (pgt ps i).2.2.toNat).2.1 = (pgt ps i).1 := fun h' => hp ⟨⟨by omega, by omega⟩, ⟨by omega, by omega⟩, by omega, fun j hj => by
     obtain rfl : j = i - 1 := by omega
     omega, h'⟩
    rw [if_neg a4, if_pos (by omega), L105_l, if_pos (by omega), rdNf (by omega) (by omega), if_neg (show ¬ (n105 _).f1 = _ from a5)]
theorem l0_ev (hP : ps.length ≤ 2000) (hc1 : RightR ns last done ps em → c = 0) (hc2 : ¬ RightR ns last done ps em → c = 14)
  (h1 : 1 ≤ ns.length) (h2 : ns.length ≤ 2000) (h3 : InR ns.length last) (h4 : InR ns.length done) (h5 : (ngt ns 0).1 = 0) (h6 : (ngt ns 0).2.1 = -1) :
  ∀ (d i : Nat), i + d = ns.length → (∀ k, 1 ≤ k → k < i → 0 ≤ (ngt ns k).2.1) → 1 ≤ i → Ev (fun k => hackamoreref28_Check.l0 k (ns.length : Int) (i : Int) (L105 ns) last done (L122 ps) em) c
 | 0, i, h, hall, hi => by
  obtain rfl : i = ns.length := by omega
  refine Ev.step (fun k => ?_) (l1_ev hP hc1 hc2 h1 h2 h3 h4 h5 h6 hall ps.length 0 (by omega) (fun k hk => absurd hk (Nat.not_lt_zero _)))
  simp only [hackamoreref28_Check.l0]
  rw [if_neg (by omega)]
  rfl
 | d + 1, i, h, hall, hi => by
  have hil : (i : Int) < ns.length := by omega
  have hr := rdNf (ns := ns) (i := (i : Int)) (by omega) hil
  rw [Int.toNat_natCast] at hr
  by_cases hp : (ngt ns i).2.1 < 0
  ·refine Ev.step (f := fun _ => some 14) (fun k => ?_) (by rw [hc2 (fun b => by have := b.prod i hi (by omega); omega)]; exact Ev.now _)
   simp only [hackamoreref28_Check.l0]
   rw [if_pos (by omega), if_pos (by omega), L105_l, if_pos hil, hr, if_pos (show (n105 (ngt ns i)).f1 < 0 from hp)]
  ·refine Ev.step (fun k => ?_) (l0_ev hP hc1 hc2 h1 h2 h3 h4 h5 h6 d (i + 1) (by omega) (fun k hk hk2 => by
    rcases Nat.lt_or_ge k i with a | a
    ·exact hall k hk a
    ·obtain rfl : k = i := by omega
     omega) (by omega))
   simp only [hackamoreref28_Check.l0]
   rw [if_pos (by omega), if_pos (by omega), L105_l, if_pos hil, hr, if_neg (show ¬ (n105 (ngt ns i)).f1 < 0 from hp), wrap_small (by omega) (by omega)]
   rfl
theorem check_evR (hP : ps.length ≤ 2000) (hc1 : RightR ns last done ps em → c = 0) (hc2 : ¬ RightR ns last done ps em → c = 14) : Ev (fun k => hackamoreref28_Check.f k (L105 ns) last done (L122 ps) em) c := by
 have bad : ¬ RightR ns last done ps em → Ev (fun k => hackamoreref28_Check.j0 k (ns.length : Int) true (L105 ns) last done (L122 ps) em) c := fun hno => by
  rw [hc2 hno]
  refine Ev.step (f := fun _ => some 14) (fun k => ?_) (Ev.now _)
  simp only [hackamoreref28_Check.j0]
  rw [if_pos trivial]
 by_cases a1 : (ns.length : Int) < 1
 ·refine Ev.congr (fun k => ?_) (bad (fun h => by have := h.n1; omega))
  unfold hackamoreref28_Check.f
  rw [L105_l, if_pos a1]
 by_cases a2 : (ns.length : Int) > 2000
 ·refine Ev.congr (fun k => ?_) (bad (fun h => by have := h.n2; omega))
  unfold hackamoreref28_Check.f
  rw [L105_l, if_neg a1, if_pos a2]
 by_cases a3 : last < 0
 ·refine Ev.congr (fun k => ?_) (bad (fun h => by have := h.lastI.1; omega))
  unfold hackamoreref28_Check.f
  rw [L105_l, if_neg a1, if_neg a2, if_pos a3]
 by_cases a4 : last ≥ (ns.length : Int)
 ·refine Ev.congr (fun k => ?_) (bad (fun h => by have := h.lastI.2; omega))
  unfold hackamoreref28_Check.f
  rw [L105_l, if_neg a1, if_neg a2, if_neg a3, if_pos a4]
 by_cases a5 : done < 0
 ·refine Ev.congr (fun k => ?_) (bad (fun h => by have := h.doneI.1; omega))
  unfold hackamoreref28_Check.f
  rw [L105_l, if_neg a1, if_neg a2, if_neg a3, if_neg a4, if_pos a5]
 by_cases a6 : done ≥ (ns.length : Int)
 ·refine Ev.congr (fun k => ?_) (bad (fun h => by have := h.doneI.2; omega))
  unfold hackamoreref28_Check.f
  rw [L105_l, if_neg a1, if_neg a2, if_neg a3, if_neg a4, if_neg a5, if_pos a6]
 have hr := rdNf (ns := ns) (i := 0) (Int.le_refl 0) (by omega)
 have hr' : rZ5 (L105 ns) 0 = n105 (ngt ns 0) := hr
 have e0 : ∀ k, hackamoreref28_Check.f k (L105 ns) last done (L122 ps) em = if (ngt ns 0).1 = 0 then hackamoreref28_Check.j0 k (ns.length : Int) ((ngt ns 0).2.1 != (-1)) (L105 ns) last done (L122 ps) em else hackamoreref28_Check.j0 k (ns.length : Int) true (L105 ns) last done (L122 ps) em := by
  intro k
  unfold hackamoreref28_Check.f
  rw [L105_l, if_neg a1, if_neg a2, if_neg a3, if_neg a4, if_neg a5, if_neg a6, if_pos (by omega), hr']
  rfl
 by_cases v0 : (ngt ns 0).1 = 0
 rotate_left
 ·refine Ev.congr (fun k => ?_) (bad (fun h => v0 h.v0))
  rw [e0, if_neg v0]
 by_cases p0 : (ngt ns 0).2.1 = -1
 rotate_left
 ·refine Ev.congr (fun k => ?_) (bad (fun h => p0 h.p0))
  rw [e0, if_pos v0]
  have : ((ngt ns 0).2.1 != (-1)) = true := by simpa using p0
  rw [this]
 ·refine Ev.congr (fun k => ?_) (Ev.step (g := fun k => hackamoreref28_Check.j0 k (ns.length : Int) false (L105 ns) last done (L122 ps) em) (fun k => ?_) (l0_ev hP hc1 hc2 (by omega) (by omega) ⟨by omega, by omega⟩ ⟨by omega, by omega⟩ v0 p0 (ns.length - 1) 1 (by omega) (fun k hk hk2 => by omega) (Nat.le_refl _)))
  ·rw [e0, if_pos v0, p0]; rfl
  ·simp only [hackamoreref28_Check.j0]
   rw [if_neg (by simp)]
   rfl
end
end Go.Proofs.Ytgbafpjeapkklaa.Mb
namespace Go.Proofs.Ytgbafpjeapkklaa.Mb
open Go.RowKit
set_option linter.unusedVariables false
set_option linter.unusedSimpArgs false
def Pth (ns : List T3) : Int → List Int → Prop
 | i, [] => i = -1
 | i, x :: t => i = x ∧ InR ns.length x ∧ Pth ns (nxtG ns x) t
theorem Pth.uniq {ns : List T3} : ∀ {t t' : List Int} {i : Int}, Pth ns i t → Pth ns i t' → t = t'
 | [], [], i, _, _ => rfl
 | [], x :: t', i, h, h' => by
  have h : i = -1 := h
  obtain ⟨a, b, _⟩ := h'
  have := b.1
  omega
 | x :: t, [], i, h, h' => by
  have h' : i = -1 := h'
  obtain ⟨a, b, _⟩ := h
  have := b.1
  omega
 | x :: t, y :: t', i, h, h' => by
  obtain ⟨rfl, _, h2⟩ := h
  obtain ⟨rfl, _, h3⟩ := h'
  rw [Pth.uniq h2 h3]
theorem Pth.inr {ns : List T3} : ∀ {t : List Int} {i : Int}, Pth ns i t → ∀ x ∈ t, InR ns.length x
 | [], i, _, x, h => by cases h
 | y :: t, i, h, x, hx => by
  obtain ⟨_, a, b⟩ := h
  rcases List.mem_cons.1 hx with rfl | hx
  ·exact a
  ·exact b.inr x hx
theorem Pth.nxt {ns : List T3} : ∀ {t : List Int} {i : Int}, Pth ns i t → ∀ x ∈ t, nxtG ns x = -1 ∨ InR ns.length (nxtG ns x)
 | [], i, _, x, h => by cases h
 | y :: [], i, h, x, hx => by
  obtain ⟨_, a, b⟩ := h
  rw [List.mem_singleton.1 hx]
  exact .inl b
 | y :: z :: t, i, h, x, hx => by
  obtain ⟨_, a, b⟩ := h
  rcases List.mem_cons.1 hx with rfl | hx
  ·exact .inr (by have := b.1; rw [this]; exact b.2.1)
  ·exact b.nxt x hx
theorem Pth.last {ns : List T3} : ∀ {t : List Int} {i : Int}, Pth ns i t → ∀ (h : t ≠ []), nxtG ns (t.getLast h) = -1
 | [], i, _, h => absurd rfl h
 | y :: [], i, hp, h => hp.2.2
 | y :: z :: t, i, hp, h => by
  rw [List.getLast_cons (by simp)]
  exact hp.2.2.last (by simp)
theorem chR_iff {ns : List T3} : ∀ (f : Nat) (cur : List Int) (i : Int), ns.length + 3 ≤ f + cur.length → cur.length ≤ ns.length + 1 →
  (∃ t, chR ns f cur i = cur ++ t ∧ Pth ns i t) ∨ (chR ns f cur i = [] ∧ ∀ t, Pth ns i t → ns.length + 1 < cur.length + t.length)
 | 0, cur, i, h1, h2 => by omega
 | f + 1, cur, i, h1, h2 => by
  unfold chR
  by_cases hi : i = -1
  ·rw [if_pos hi]
   exact .inl ⟨[], by simp, hi⟩
  rw [if_neg hi]
  by_cases hbad : i < 0 ∨ (ns.length : Int) ≤ i ∨ ns.length < cur.length
  ·rw [if_pos hbad]
   right
   refine ⟨rfl, fun t ht => ?_⟩
   cases t with
   | nil => exact absurd ht hi
   | cons x t =>
    obtain ⟨rfl, hr, _⟩ := ht
    have := hr.1
    have := hr.2
    simp only [List.length_cons]
    omega
  ·rw [if_neg hbad]
   have hr : InR ns.length i := ⟨by omega, by omega⟩
   rcases chR_iff (ns := ns) f (cur ++ [i]) (nxtG ns i) (by simp only [List.length_append, List.length_cons, List.length_nil]; omega) (by simp only [List.length_append, List.length_cons, List.length_nil]; omega) with ⟨t, e, ht⟩ | ⟨e, hno⟩
   ·exact .inl ⟨i :: t, by rw [e]; simp, rfl, hr, ht⟩
   ·right
    refine ⟨e, fun t ht => ?_⟩
    cases t with
    | nil => exact absurd ht hi
    | cons x t =>
     obtain ⟨rfl, _, h3⟩ := ht
     have := hno t h3
     simp only [List.length_append, List.length_cons, List.length_nil] at this ⊢
     omega
theorem chR_path {ns : List T3} {i : Int} {t : List Int} (h : Pth ns i t) (hl : t.length ≤ ns.length + 1) : chR ns (ns.length + 3) [] i = t := by
 rcases chR_iff (ns := ns) (ns.length + 3) [] i (by simp) (by simp) with ⟨t', e, h'⟩ | ⟨_, hno⟩
 ·rw [e, Pth.uniq h h']; rfl
 ·have := hno t h
  simp at this
  omega
theorem chR_some {ns : List T3} {i : Int} (h : chR ns (ns.length + 3) [] i ≠ []) : Pth ns i (chR ns (ns.length + 3) [] i) := by
 rcases chR_iff (ns := ns) (ns.length + 3) [] i (by simp) (by simp) with ⟨t', e, h'⟩ | ⟨e, _⟩
 ·rw [e]; exact h'
 ·exact absurd e h
theorem chainF_iff {ns : List T3} (hok : ∀ n, InR ns.length n → nxtG ns n = -1 ∨ InR ns.length (nxtG ns n)) : ∀ (f : Nat) (S : List Int) (n : Int), InR ns.length n → S.Nodup → (∀ x ∈ S, InR ns.length x) → f + S.length = ns.length + 1 →
  (∃ (t : List Int) (ht : t ≠ []), chainF ns f S n = (S ++ t, some (t.getLast ht)) ∧ Pth ns n t ∧ (S ++ t).Nodup) ∨ ((chainF ns f S n).2 = none ∧ ∀ t, Pth ns n t → ¬ (S ++ t).Nodup)
 | 0, S, n, h1, h2, h3, h4 => by have := few_of h2 h3; omega
 | f + 1, S, n, h1, h2, h3, h4 => by
  unfold chainF
  by_cases hm : n ∈ S
  ·rw [if_pos hm]
   right
   refine ⟨rfl, fun t ht hnd => ?_⟩
   cases t with
   | nil => have ht : n = -1 := ht; have := h1.1; omega
   | cons x t =>
    obtain ⟨rfl, _⟩ := ht
    rw [List.nodup_append] at hnd
    exact hnd.2.2 _ hm _ List.mem_cons_self rfl
  rw [if_neg hm]
  have h2' : (S ++ [n]).Nodup := by
   rw [List.nodup_append]
   exact ⟨h2, by simp, fun a ha b hb e => hm (by rw [List.mem_singleton] at hb; subst hb; subst e; exact ha)⟩
  have h3' : ∀ x ∈ S ++ [n], InR ns.length x := fun x hx => by
   rcases List.mem_append.1 hx with h | h
   ·exact h3 x h
   ·rw [List.mem_singleton.1 h]; exact h1
  by_cases hneg : nxtG ns n < 0
  ·rw [if_pos hneg]
   have hx : nxtG ns n = -1 := by
    rcases hok n h1 with h | h
    ·exact h
    ·have := h.1; omega
   exact .inl ⟨[n], by simp, rfl, ⟨rfl, h1, hx⟩, h2'⟩
  ·rw [if_neg hneg]
   have hr : InR ns.length (nxtG ns n) := by
    rcases hok n h1 with h | h
    ·omega
    ·exact h
   rcases chainF_iff hok f (S ++ [n]) (nxtG ns n) hr h2' h3' (by rw [List.length_append, List.length_singleton]; omega) with ⟨t, ht, e, hp, hnd⟩ | ⟨e, hno⟩
   ·left
    refine ⟨n :: t, by simp, ?_, ⟨rfl, h1, hp⟩, by simpa using hnd⟩
    rw [e, List.getLast_cons ht]
    simp
   ·right
    refine ⟨e, fun t ht hnd => ?_⟩
    cases t with
    | nil => have ht : n = -1 := ht; have := h1.1; omega
    | cons x t =>
     obtain ⟨rfl, _, h5⟩ := ht
     exact hno t h5 (by simpa using hnd)
theorem nodup_full {n : Nat} {L : List Nat} (hd : L.Nodup) (hl : ∀ x ∈ L, x < n) (h : L.length = n) (k : Nat) (hk : k < n) : k ∈ L := by
 by_cases hm : k ∈ L
 ·exact hm
 ·have := nodup_lt n (k :: L) (List.nodup_cons.2 ⟨hm, hd⟩) (fun x hx => by
   rcases List.mem_cons.1 hx with rfl | hx
   ·exact hk
   ·exact hl x hx)
  simp at this
  omega
def Lnk (ns ps : List T3) : List Nat → Int → List Int → Int → Prop
 | [], e, u, e' => u = [] ∧ e' = e
 | k :: ks, e, u, e' => k < ps.length ∧ (pgt ps k).2.1 = e ∧ ∃ (t u' : List Int) (ht : t ≠ []), Pth ns (pgt ps k).2.2 t ∧ u = t ++ u' ∧ Lnk ns ps ks (t.getLast ht) u' e'
theorem Lnk.ends {ns ps : List T3} : ∀ {ks : List Nat} {e : Int} {u : List Int} {e' : Int}, Lnk ns ps ks e u e' → (ks = [] ∧ e' = e) ∨ e' ∈ u
 | [], e, u, e', h => .inl ⟨rfl, h.2⟩
 | k :: ks, e, u, e', h => by
  obtain ⟨_, _, t, u', ht, _, rfl, h'⟩ := h
  right
  rcases h'.ends with ⟨_, rfl⟩ | hm
  ·exact List.mem_append_left _ (List.getLast_mem ht)
  ·exact List.mem_append_right _ hm
theorem Lnk.bef {ns ps : List T3} : ∀ {ks : List Nat} {e : Int} {u : List Int} {e' : Int}, Lnk ns ps ks e u e' → ∀ k ∈ ks, k < ps.length ∧ ((pgt ps k).2.1 = e ∨ (pgt ps k).2.1 ∈ u)
 | [], e, u, e', h, k, hk => by cases hk
 | j :: ks, e, u, e', h, k, hk => by
  obtain ⟨h1, h2, t, u', ht, _, rfl, h'⟩ := h
  rcases List.mem_cons.1 hk with rfl | hk
  ·exact ⟨h1, .inl h2⟩
  ·obtain ⟨a, b⟩ := h'.bef k hk
   refine ⟨a, .inr ?_⟩
   rcases b with b | b
   ·rw [b]; exact List.mem_append_left _ (List.getLast_mem ht)
   ·exact List.mem_append_right _ b
theorem Lnk.nodup {ns ps : List T3} : ∀ {ks : List Nat} {e : Int} {u : List Int} {e' : Int}, Lnk ns ps ks e u e' → e ∉ u → u.Nodup → ks.Nodup ∧ ∀ k ∈ ks, (pgt ps k).2.1 ≠ e'
 | [], e, u, e', h, _, _ => ⟨List.nodup_nil, fun k hk => by cases hk⟩
 | j :: ks, e, u, e', h, hne, hnd => by
  have hend := h.ends
  obtain ⟨h1, h2, t, u', ht, _, rfl, h'⟩ := h
  have hl : t.getLast ht ∈ t := List.getLast_mem ht
  rw [List.nodup_append] at hnd
  obtain ⟨n1, n2, n3⟩ := hnd
  obtain ⟨i1, i2⟩ := h'.nodup (fun hm => n3 _ hl _ hm rfl) n2
  have he' : e' ∈ t ++ u' := by
   rcases hend with ⟨h, _⟩ | h
   ·cases h
   ·exact h
  refine ⟨List.nodup_cons.2 ⟨fun hm => ?_, i1⟩, fun k hk => ?_⟩
  ·obtain ⟨_, b⟩ := h'.bef j hm
   rw [h2] at b
   rcases b with b | b
   ·exact hne (b ▸ List.mem_append_left _ hl)
   ·exact hne (List.mem_append_right _ b)
  ·rcases List.mem_cons.1 hk with rfl | hk
   ·rw [h2]; exact fun e => hne (e ▸ he')
   ·exact i2 k hk
end Go.Proofs.Ytgbafpjeapkklaa.Mb
namespace Go.Proofs.Ytgbafpjeapkklaa.Mb
open Go.RowKit Go.Proofs.YtgbafpjeapkklaaW.PrintWords PMailboxRuns
set_option linter.unusedVariables false
set_option linter.unusedSimpArgs false
theorem dup_uniq {ps : List T3} (hd : DupFree ps) {i j : Nat} (hi : i < ps.length) (hj : j < ps.length) (h : (pgt ps i).2.1 = (pgt ps j).2.1) : i = j := by
 have key : ∀ a b : Nat, a < b → b < ps.length → (pgt ps a).2.1 = (pgt ps b).2.1 → False := fun a b hab hb he => by
  have h1 := hd b hb
  unfold fb at h1
  rw [List.find?_eq_none] at h1
  exact h1 a (List.mem_range.2 hab) (by simpa using he)
 rcases Nat.lt_trichotomy i j with h1 | h1 | h1
 ·exact absurd h (fun h => key i j h1 hj h)
 ·exact h1
 ·exact absurd h (fun h => key j i h1 hi h.symm)
theorem hits_mem {ps : List T3} {e : Int} {k i : Nat} (h : i < k) (he : (pgt ps i).2.1 = e) : i ∈ hits ps e k := by
 unfold hits
 exact List.mem_filter.2 ⟨List.mem_range.2 h, by simpa using he⟩
theorem hits_nodup (ps : List T3) (e : Int) (k : Nat) : (hits ps e k).Nodup := by
 unfold hits
 exact List.Pairwise.filter _ List.nodup_range
theorem hits_one {ps : List T3} (hd : DupFree ps) {i : Nat} (hi : i < ps.length) : hits ps (pgt ps i).2.1 ps.length = [i] := by
 have hm := hits_mem hi (rfl : (pgt ps i).2.1 = (pgt ps i).2.1)
 have hn := hits_nodup ps (pgt ps i).2.1 ps.length
 have ha : ∀ j ∈ hits ps (pgt ps i).2.1 ps.length, j = i := fun j hj => by
  obtain ⟨a, b⟩ := hits_lt hj
  exact dup_uniq hd a hi b
 generalize hits ps (pgt ps i).2.1 ps.length = L at *
 match L, hm, hn, ha with
 | [], hm, _, _ => cases hm
 | [k], _, _, ha => rw [ha k (by simp)]
 | a :: b :: t, _, hn, ha =>
  have h1 := ha a (by simp)
  have h2 := ha b (by simp)
  rw [h1, h2] at hn
  simp at hn
theorem fb_lt {ps : List T3} {k i : Nat} {x : Int} (h : fb ps k x = some i) : i < k ∧ (pgt ps i).2.1 = x := by
 unfold fb at h
 exact ⟨List.mem_range.1 (List.mem_of_find?_eq_some h), by simpa using List.find?_some h⟩
theorem loopF_lnk {ns ps : List T3} (hok : ∀ n, InR ns.length n → nxtG ns n = -1 ∨ InR ns.length (nxtG ns n)) (hp : ∀ k, k < ps.length → InR ns.length (pgt ps k).2.2) :
  ∀ (c : Nat) (S : List Int) (e : Int) (S' : List Int) (e' : Int), S.Nodup → (∀ x ∈ S, InR ns.length x) → loopF ns ps c S e = some (S', e') → ∃ ks u, S' = S ++ u ∧ Lnk ns ps ks e u e' ∧ ks.length = c ∧ (S ++ u).Nodup
 | 0, S, e, S', e', h1, h2, h => by
  cases h
  exact ⟨[], [], by simp, ⟨rfl, rfl⟩, rfl, by simpa using h1⟩
 | c + 1, S, e, S', e', h1, h2, h => by
  unfold loopF at h
  cases hf : fb ps ps.length e with
  | none => rw [hf] at h; cases h
  | some i =>
   obtain ⟨hi, he⟩ := fb_lt hf
   rw [hf] at h
   have hfew := few_of h1 h2
   rcases chainF_iff hok (ns.length + 1 - S.length) S (pgt ps i).2.2 (hp i hi) h1 h2 (by omega) with ⟨t, ht, ec, hpth, hnd⟩ | ⟨ec, _⟩
   ·simp only [Option.bind_some, goOn, ec] at h
    obtain ⟨ks, u, rfl, hl, hc, hnd'⟩ := loopF_lnk hok hp c (S ++ t) (t.getLast ht) S' e' hnd (fun x hx => by
     rcases List.mem_append.1 hx with hx | hx
     ·exact h2 x hx
     ·exact hpth.inr x hx) h
    exact ⟨i :: ks, t ++ u, by simp, ⟨hi, he, t, u, ht, hpth, rfl, hl⟩, by simp [hc], by simpa using hnd'⟩
   ·simp only [Option.bind_some, goOn, ec] at h
    cases h
theorem Pth.len {ns : List T3} {t : List Int} {i : Int} (h : Pth ns i t) (hd : t.Nodup) : t.length ≤ ns.length := few_of hd h.inr
theorem Lnk.len {ns ps : List T3} : ∀ {ks : List Nat} {e : Int} {u : List Int} {e' : Int}, Lnk ns ps ks e u e' → ks.length ≤ u.length
 | [], e, u, e', h => by simp
 | k :: ks, e, u, e', h => by
  obtain ⟨_, _, t, u', ht, _, rfl, h'⟩ := h
  have := h'.len
  have := List.length_pos_iff.2 ht
  simp only [List.length_cons, List.length_append]
  omega
theorem rd_last {l : List Int} (h : l ≠ []) : rd l (((l.length - 1 : Nat) : Int)) = l.getLast h := by
 have : 0 < l.length := List.length_pos_iff.2 h
 rw [rd_at (by omega), List.getLast_eq_getElem]
theorem ordR_lnk {ns ps : List T3} {last : Int} (hd : DupFree ps) (hno : hits ps last ps.length = []) :
  ∀ (ks : List Nat) (f : Nat) (out : List Int) (used : Nat) (a : Int) (t u : List Int) (ht : t ≠ []), ks.length < f → Pth ns a t → Lnk ns ps ks (t.getLast ht) u last → (out ++ (t ++ u)).Nodup → (out ++ (t ++ u)).length = ns.length → used + ks.length = ps.length →
  ordR ns ps last f out used a = out ++ (t ++ u)
 | ks, 0, out, used, a, t, u, ht, h1, _, _, _, _, _ => by omega
 | ks, f + 1, out, used, a, t, u, ht, h1, hp, hl, hnd, hlen, hu => by
  have hnt : (t ++ u).Nodup := (List.nodup_append.1 hnd).2.1
  have htd : t.Nodup := (List.nodup_append.1 hnt).1
  have hch := chR_path hp (by have := hp.len htd; omega)
  unfold ordR
  simp only [hch]
  rw [if_neg ht, if_neg (by simp only [List.length_append] at hlen ⊢; omega), rd_last ht]
  match ks, hl, hu, h1 with
  | [], hl, hu, h1 =>
   obtain ⟨rfl, e⟩ := hl
   rw [← e, hno]
   dsimp only
   rw [if_pos ⟨rfl, by simpa using hu, by simpa using hlen⟩]
   unfold distR
   rw [if_pos (by simpa using hnd)]
   simp
  | k :: ks, hl, hu, h1 =>
   have hend := hl.ends
   obtain ⟨hk, he, t', u', ht', hp', rfl, hl'⟩ := hl
   rw [← he, hits_one hd hk]
   dsimp only
   have hne : (pgt ps k).2.1 ≠ last := fun e => by
    rcases hend with ⟨h, _⟩ | h
    ·cases h
    ·exact (List.nodup_append.1 hnt).2.2 _ (List.getLast_mem ht) _ h (he.symm.trans e)
   rw [if_neg hne, ordR_lnk hd hno ks f (out ++ t) (used + 1) (pgt ps k).2.2 t' u' ht' (by simp only [List.length_cons] at h1; omega) hp' hl' (by simpa using hnd) (by simpa using hlen) (by simp only [List.length_cons] at hu; omega)]
   simp
theorem order_of_right {ns ps : List T3} {last done : Int} {em : Bool} (h : RightS ns last done ps em) :
  ∃ t u ks, ∃ ht : t ≠ [], Pth ns 0 t ∧ Lnk ns ps ks (t.getLast ht) u last ∧ ks.length = ps.length ∧ (t ++ u).Nodup ∧ (t ++ u).length = ns.length ∧ done ∈ t ∧ ordR ns ps last (ns.length + 2) [] 0 0 = t ++ u := by
 obtain ⟨hF, hd, S0, e0, hc, hdn, S, e, hl, rfl, hlen, hem⟩ := h
 have hok : ∀ n, InR ns.length n → nxtG ns n = -1 ∨ InR ns.length (nxtG ns n) := fun n hn => by
  have hlt : n.toNat < ns.length := by have := hn.1; have := hn.2; omega
  have := (hF.node n.toNat _ (List.getElem?_eq_getElem hlt)).1
  unfold nxtG
  rw [List.getD_eq_getElem?_getD, List.getElem?_eq_getElem hlt]
  exact this
 have hpi : ∀ k, k < ps.length → InR ns.length (pgt ps k).2.2 := fun k hk => by
  have := hF.push k _ (List.getElem?_eq_getElem hk)
  rw [pgt_of (List.getElem?_eq_getElem hk)]
  exact this.2.1
 rcases chainF_iff hok (ns.length + 1) [] 0 ⟨by omega, by have := hF.n1; omega⟩ List.nodup_nil (fun x hx => by cases hx) (by simp) with ⟨t, ht, ec, hp, hnd⟩ | ⟨ec, _⟩
 rotate_left
 ·rw [hc] at ec; cases ec
 rw [ec] at hc
 simp only [List.nil_append, Prod.mk.injEq, Option.some.injEq] at hc hnd
 obtain ⟨rfl, rfl⟩ := hc
 obtain ⟨ks, u, rfl, hL, hkl, hnd'⟩ := loopF_lnk hok hpi ps.length t _ S e hnd hp.inr hl
 have hnu := List.nodup_append.1 hnd'
 obtain ⟨hkd, hkb⟩ := hL.nodup (fun hm => hnu.2.2 _ (List.getLast_mem ht) _ hm rfl) hnu.2.1
 have hno : hits ps e ps.length = [] := by
  rw [List.eq_nil_iff_forall_not_mem]
  intro j hj
  obtain ⟨a, b⟩ := hits_lt hj
  exact hkb j (nodup_full hkd (fun x hx => (hL.bef x hx).1) hkl j a) b
 have hpl : ps.length ≤ ns.length := by
  have := hL.len
  have := hlen
  simp only [List.length_append] at this
  omega
 exact ⟨t, u, ks, ht, hp, hL, hkl, hnd', hlen, hdn, by
  simpa using ordR_lnk hd hno ks (ns.length + 2) [] 0 0 t u ht (by omega) hp hL (by simpa using hnd') (by simpa using hlen) (by omega)⟩
end Go.Proofs.Ytgbafpjeapkklaa.Mb
namespace Go.Proofs.Ytgbafpjeapkklaa.Mb
open Go.RowKit Go.Proofs.YtgbafpjeapkklaaW.PrintWords PMailboxRuns
set_option linter.unusedVariables false
set_option linter.unusedSimpArgs false
theorem ngt_at {ns : List T3} {k : Nat} {x : T3} (h : ns[k]? = some x) : ngt ns k = x := by unfold ngt; rw [List.getD_eq_getElem?_getD, h]; rfl
theorem at_in {l : List T3} {i : Int} (h : InR l.length i) : ∃ x, l[i.toNat]? = some x := by
 have hlt : i.toNat < l.length := by have := h.1; have := h.2; omega
 exact ⟨_, List.getElem?_eq_getElem hlt⟩
theorem nxtG_of {ns : List T3} {i : Int} {x : T3} (h : ns[i.toNat]? = some x) : nxtG ns i = x.2.2 := by
 unfold nxtG; rw [List.getD_eq_getElem?_getD, h]; rfl
theorem right_to {ns ps : List T3} {last done : Int} {em : Bool} (h : RightS ns last done ps em) : RightR ns last done ps em := by
 obtain ⟨t, u, ks, ht, hp, hL, hkl, hnd, hlen, hdn, ho⟩ := order_of_right h
 obtain ⟨hF, hd, S0, e0, hc, hdn', S, e, hl, he, hlen', hem⟩ := h
 subst he
 have htd : t.Nodup := (List.nodup_append.1 hnd).1
 obtain ⟨x0, hx0⟩ : ∃ x, ns[0]? = some x := ⟨_, List.getElem?_eq_getElem (by have := hF.n1; omega)⟩
 refine ⟨hF.n1, hF.n2, hF.last, hF.done, ?_, ?_, fun i h1 h2 => ?_, fun k hk => ?_, ?_, ?_, hem⟩
 ·rw [ngt_at hx0]; exact (hF.first x0 hx0).1
 ·rw [ngt_at hx0]; exact (hF.first x0 hx0).2
 ·rw [ngt_at (List.getElem?_eq_getElem h2)]
  exact (hF.node i _ (List.getElem?_eq_getElem h2)).2 (by omega)
 ·obtain ⟨a, b, c, d, f, g⟩ := hF.push k _ (List.getElem?_eq_getElem hk)
  unfold PushR
  rw [pgt_of (List.getElem?_eq_getElem hk)]
  refine ⟨b, a, c, fun j hj => ?_, ?_⟩
  ·have hj' : j < ps.length := by omega
   rw [pgt_of (List.getElem?_eq_getElem hj')]
   exact d j _ hj (List.getElem?_eq_getElem hj')
  ·obtain ⟨x, hx⟩ := at_in b
   rw [ngt_at hx]
   exact g x hx
 ·rw [ho]
  intro h
  exact ht (List.append_eq_nil_iff.1 h).1
 ·rw [chR_path hp (by have := hp.len htd; omega)]
  exact hdn
theorem ordR_inv {ns ps : List T3} {last : Int} (hpi : ∀ k, k < ps.length → InR ns.length (pgt ps k).2.2) : ∀ (f : Nat) (out : List Int) (used : Nat) (a : Int), ordR ns ps last f out used a ≠ [] →
  ∃ t u ks, ∃ ht : t ≠ [], Pth ns a t ∧ Lnk ns ps ks (t.getLast ht) u last ∧ used + ks.length = ps.length ∧ (out ++ (t ++ u)).Nodup ∧ (out ++ (t ++ u)).length = ns.length ∧ ∀ k ∈ ks, hits ps (pgt ps k).2.1 ps.length = [k]
 | 0, out, used, a, h => absurd rfl h
 | f + 1, out, used, a, h => by
  unfold ordR at h
  dsimp only at h
  by_cases hl0 : chR ns (ns.length + 3) [] a = []
  ·rw [if_pos hl0] at h; exact absurd rfl h
  rw [if_neg hl0] at h
  have hp := chR_some hl0
  generalize chR ns (ns.length + 3) [] a = t at *
  by_cases hg : ns.length < (out ++ t).length
  ·rw [if_pos hg] at h; exact absurd rfl h
  rw [if_neg hg, rd_last hl0] at h
  match hh : hits ps (t.getLast hl0) ps.length with
  | [] =>
   rw [hh] at h
   dsimp only at h
   by_cases hc : t.getLast hl0 = last ∧ used = ps.length ∧ (out ++ t).length = ns.length
   ·rw [if_pos hc] at h
    unfold distR at h
    by_cases hn : (out ++ t).Nodup
    ·exact ⟨t, [], [], hl0, hp, ⟨rfl, hc.1.symm⟩, by simpa using hc.2.1, by simpa using hn, by simpa using hc.2.2, fun k hk => by cases hk⟩
    ·rw [if_neg hn] at h; exact absurd rfl h
   ·rw [if_neg hc] at h; exact absurd rfl h
  | [k] =>
   rw [hh] at h
   dsimp only at h
   by_cases hc : t.getLast hl0 = last
   ·rw [if_pos hc] at h; exact absurd rfl h
   rw [if_neg hc] at h
   obtain ⟨hk, he⟩ := hits_lt (show k ∈ hits ps (t.getLast hl0) ps.length by rw [hh]; simp)
   obtain ⟨t', u', ks, ht', hp', hL', hu, hnd, hlen, hs⟩ := ordR_inv hpi f (out ++ t) (used + 1) (pgt ps k).2.2 h
   refine ⟨t, t' ++ u', k :: ks, hl0, hp, ⟨hk, he, t', u', ht', hp', rfl, hL'⟩, by simp only [List.length_cons]; omega, by simpa using hnd, by simpa using hlen, fun j hj => ?_⟩
   rcases List.mem_cons.1 hj with rfl | hj
   ·rw [he]; exact hh
   ·exact hs j hj
  | a :: b :: l =>
   rw [hh] at h
   exact absurd rfl h
theorem Lnk.nxt {ns ps : List T3} : ∀ {ks : List Nat} {e : Int} {u : List Int} {e' : Int}, Lnk ns ps ks e u e' → ∀ x ∈ u, nxtG ns x = -1 ∨ InR ns.length (nxtG ns x)
 | [], e, u, e', h, x, hx => by rw [h.1] at hx; cases hx
 | k :: ks, e, u, e', h, x, hx => by
  obtain ⟨_, _, t, u', ht, hp, rfl, h'⟩ := h
  rcases List.mem_append.1 hx with hx | hx
  ·exact hp.nxt x hx
  ·exact h'.nxt x hx
theorem Lnk.inr {ns ps : List T3} : ∀ {ks : List Nat} {e : Int} {u : List Int} {e' : Int}, Lnk ns ps ks e u e' → ∀ x ∈ u, InR ns.length x
 | [], e, u, e', h, x, hx => by rw [h.1] at hx; cases hx
 | k :: ks, e, u, e', h, x, hx => by
  obtain ⟨_, _, t, u', ht, hp, rfl, h'⟩ := h
  rcases List.mem_append.1 hx with hx | hx
  ·exact hp.inr x hx
  ·exact h'.inr x hx
theorem Lnk.befEnd {ns ps : List T3} : ∀ {ks : List Nat} {e : Int} {u : List Int} {e' : Int}, Lnk ns ps ks e u e' → nxtG ns e = -1 → ∀ k ∈ ks, nxtG ns (pgt ps k).2.1 = -1
 | [], e, u, e', h, _, k, hk => by cases hk
 | j :: ks, e, u, e', h, hx, k, hk => by
  obtain ⟨h1, h2, t, u', ht, hp, rfl, h'⟩ := h
  rcases List.mem_cons.1 hk with rfl | hk
  ·rw [h2]; exact hx
  ·exact h'.befEnd (hp.last ht) k hk
theorem fb_of {ps : List T3} (hd : DupFree ps) {k : Nat} (hk : k < ps.length) : fb ps ps.length (pgt ps k).2.1 = some k := by
 cases h : fb ps ps.length (pgt ps k).2.1 with
 | none =>
  unfold fb at h
  rw [List.find?_eq_none] at h
  exact absurd (by simp) (h k (List.mem_range.2 hk))
 | some i =>
  obtain ⟨a, b⟩ := fb_lt h
  rw [dup_uniq hd a hk b]
theorem loopF_of {ns ps : List T3} (hd : DupFree ps) (hok : ∀ n, InR ns.length n → nxtG ns n = -1 ∨ InR ns.length (nxtG ns n)) (hp : ∀ k, k < ps.length → InR ns.length (pgt ps k).2.2) :
  ∀ (ks : List Nat) (S : List Int) (e : Int) (u : List Int) (e' : Int), Lnk ns ps ks e u e' → (S ++ u).Nodup → (∀ x ∈ S, InR ns.length x) → loopF ns ps ks.length S e = some (S ++ u, e')
 | [], S, e, u, e', h, _, _ => by
  obtain ⟨rfl, rfl⟩ := h
  simp [loopF]
 | k :: ks, S, e, u, e', h, hnd, hS => by
  obtain ⟨h1, h2, t, u', ht, hpt, rfl, h'⟩ := h
  have hSd : S.Nodup := (List.nodup_append.1 hnd).1
  have hfew := few_of hSd hS
  have hst : (S ++ t).Nodup := by
   rw [← List.append_assoc] at hnd
   exact (List.nodup_append.1 hnd).1
  show loopF ns ps (ks.length + 1) S e = _
  unfold loopF
  rw [← h2, fb_of hd h1]
  rcases chainF_iff hok (ns.length + 1 - S.length) S (pgt ps k).2.2 (hp k h1) hSd hS (by omega) with ⟨t', ht', ec, hp', _⟩ | ⟨_, hno⟩
  ·cases Pth.uniq hpt hp'
   simp only [Option.bind_some, goOn, ec]
   rw [loopF_of hd hok hp ks (S ++ t) _ u' e' h' (by simpa using hnd) (fun x hx => by
    rcases List.mem_append.1 hx with hx | hx
    ·exact hS x hx
    ·exact hpt.inr x hx)]
   simp
  ·exact absurd hst (hno t hpt)
theorem nodup_all {N : Nat} {L : List Int} (hd : L.Nodup) (hl : ∀ x ∈ L, InR N x) (h : L.length = N) (i : Int) (hi : InR N i) : i ∈ L := by
 by_cases hm : i ∈ L
 ·exact hm
 ·have := few_of (N := N) (S := i :: L) (List.nodup_cons.2 ⟨hm, hd⟩) (fun x hx => by
   rcases List.mem_cons.1 hx with rfl | hx
   ·exact hi
   ·exact hl x hx)
  simp only [List.length_cons] at this
  omega
theorem right_back {ns ps : List T3} {last done : Int} {em : Bool} (h : RightR ns last done ps em) : RightS ns last done ps em := by
 have hpi : ∀ k, k < ps.length → InR ns.length (pgt ps k).2.2 := fun k hk => (h.push k hk).1
 obtain ⟨t, u, ks, ht, hp, hL, hu, hnd, hlen, hs⟩ := ordR_inv hpi _ _ _ _ h.order
 simp only [List.nil_append, Nat.zero_add] at hu hnd hlen
 have hnu := List.nodup_append.1 hnd
 have htd : t.Nodup := hnu.1
 have hinr : ∀ x ∈ t ++ u, InR ns.length x := fun x hx => by
  rcases List.mem_append.1 hx with hx | hx
  ·exact hp.inr x hx
  ·exact hL.inr x hx
 have hall := nodup_all hnd hinr hlen
 have hok : ∀ n, InR ns.length n → nxtG ns n = -1 ∨ InR ns.length (nxtG ns n) := fun n hn => by
  rcases List.mem_append.1 (hall n hn) with hx | hx
  ·exact hp.nxt n hx
  ·exact hL.nxt n hx
 obtain ⟨hkd, hkb⟩ := hL.nodup (fun hm => hnu.2.2 _ (List.getLast_mem ht) _ hm rfl) hnu.2.1
 have hks : ∀ k, k < ps.length → k ∈ ks := fun k hk => nodup_full hkd (fun x hx => (hL.bef x hx).1) hu k hk
 have hd : DupFree ps := fun k hk => by
  have h1 := hs k (hks k hk)
  unfold fb
  rw [List.find?_eq_none]
  intro i hi hb
  have hik := List.mem_range.1 hi
  have : i ∈ hits ps (pgt ps k).2.1 ps.length := hits_mem (by omega) (by simpa using hb)
  rw [h1, List.mem_singleton] at this
  omega
 have hF : Formed ns last done ps := by
  refine ⟨h.n1, h.n2, h.lastI, h.doneI, fun x hx => ?_, fun k x hx => ?_, fun k p hk => ?_⟩
  ·rw [← ngt_at hx]; exact ⟨h.v0, h.p0⟩
  ·have hkl : k < ns.length := (List.getElem?_eq_some_iff.1 hx).1
   refine ⟨?_, fun h0 => ?_⟩
   ·have := hok (k : Int) ⟨by omega, by omega⟩
    rw [nxtG_of (i := (k : Int)) (x := x) (by simpa using hx)] at this
    exact this
   ·rw [← ngt_at hx]; exact h.prod k h0 hkl
  ·have hkl : k < ps.length := (List.getElem?_eq_some_iff.1 hk).1
   obtain ⟨a, b, c, d, f⟩ := h.push k hkl
   have hbe := hL.befEnd (hp.last ht) k (hks k hkl)
   rw [pgt_of hk] at a b c d f hbe
   refine ⟨b, a, c, fun j q hj hq => ?_, fun x hx => ?_, fun x hx => ?_⟩
   ·have := d j hj
    rw [pgt_of hq] at this
    exact this
   ·rw [← nxtG_of hx]; exact hbe
   ·rw [ngt_at hx] at f
    exact f
 refine ⟨hF, hd, t, t.getLast ht, ?_, ?_, t ++ u, last, ?_, rfl, hlen, h.mt⟩
 ·rcases chainF_iff hok (ns.length + 1) [] 0 ⟨by omega, by have := h.n1; omega⟩ List.nodup_nil (fun x hx => by cases hx) (by simp) with ⟨t', ht', ec, hp', _⟩ | ⟨_, hno⟩
  ·cases Pth.uniq hp hp'
   simpa using ec
  ·exact absurd (by simpa using htd) (hno t hp)
 ·have := h.there
  rw [chR_path hp (by have := hp.len htd; omega)] at this
  exact this
 ·rw [← hu]
  exact loopF_of hd hok hpi ks t _ u last hL hnd hp.inr
theorem right_iff {ns ps : List T3} {last done : Int} {em : Bool} : RightS ns last done ps em ↔ RightR ns last done ps em := ⟨right_to, right_back⟩
end Go.Proofs.Ytgbafpjeapkklaa.Mb
namespace Go.Proofs.Ytgbafpjeapkklaa.Mb
open Go.RowKit
set_option linter.unusedVariables false
set_option linter.unusedSimpArgs false
set_option maxRecDepth 100000 in
set_option maxHeartbeats 8000000 in
theorem check_g (ns ps : List T3) (last done : Int) (em : Bool) (c : Int) (hc1 : RightS ns last done ps em → c = 0) (hc2 : ¬ RightS ns last done ps em → c = 14) (vn vp : Value) (w : World) (hn : Tri w vn ns) (hp : Tri w vp ps) (hl1 : ns.length ≤ 100000) (hl2 : ps.length ≤ 100000) :
  Calls Try.prog 18 #[.agg #[vn, .int .i64 last, .int .i64 done, vp, .bool em]] w fun e w' => e = .returned (.int .i64 c) ∧ Below w.heap.size w w' := by
 obtain ⟨A, cap, rfl⟩ := hn.slice
 obtain ⟨B, cap2, rfl⟩ := hp.slice
 have HN := Lib.hid hn
 have HP := Lib.hid hp
 have HC1 := Lib.hid hc1
 have HC2 := Lib.hid hc2
 obtain ⟨b, hb⟩ := bool_of (Formed ns last done ps)
 have HFM : Hid (∀ W, Below w.heap.size w W → Calls Try.prog 53 #[.agg #[.slice A ns.length cap, .int .i64 last, .int .i64 done, .slice B ps.length cap2, .bool em]] W fun e w' => e = .returned (.bool b) ∧ Below W.heap.size W w') :=
  Lib.hid (fun W h => formed_g ns ps last done em b hb _ _ W (hn.below h) (hp.below h) hl1 hl2)
 obtain ⟨N, hN⟩ : ∃ N, N = ns.length := ⟨_, rfl⟩
 obtain ⟨M, hM⟩ : ∃ M, M = ps.length := ⟨_, rfl⟩
 rw [← hN] at hl1 HN HFM ⊢
 rw [← hM] at hl2 HP HFM ⊢
 have HNN := Lib.hid hN
 have HMM := Lib.hid hM
 have HM2 := Lib.hid hl2
 have HBB := Lib.hid hb
 have HS0 : Hid (Gx w (.slice A N cap) last done (.slice B M cap2) em w.heap.size (w.alloc (Obj.cells #[.slice A N cap, .int .i64 last, .int .i64 done, .slice B M cap2, .bool em] 28))) :=
  Lib.hid ⟨(Below.refl _ _).alloc (Nat.le_refl _) _, (MapKept.heap_alloc _ _).1⟩
 clear hn hp hb hN hM hc1 hc2 hl1 hl2
 go_enter Try.func18, Try.ntmps18
 go_upto_region 1 with fail
 generalize (w.alloc (Obj.cells #[.slice A N cap, .int .i64 last, .int .i64 done, .slice B M cap2, .bool em] 28)) = W0 at *
 obtain ⟨c0, c1, c2, c3, c4⟩ := HS0.out.facts
 go_wp2_with fail
 refine (HFM.out _ HS0.out.below).mono ?_
 rintro e W1 ⟨rfl, hb1⟩
 have HS1 := Lib.hid (HS0.out.step hb1)
 clear hb1 c0 c1 c2 c3 c4 HFM HS0
 cases b with
 | false =>
  obtain rfl := HC2.out (fun h => by have := HBB.out.2 h.1; cases this)
  go_wp2_with fail
  go_ret
  exact ⟨rfl, HS1.out.below⟩
 | true =>
 have HF : Hid (Formed ns last done ps) := Lib.hid (HBB.out.1 rfl)
 have hmk := mk_map 119 W1
 go_upto_region 4 with fail
 clear hmk HBB
 obtain ⟨r1, hr1⟩ : ∃ r1, r1 = W1.heap.size := ⟨_, rfl⟩
 obtain ⟨W2, hW2⟩ : ∃ W2, W2 = W1.alloc (Obj.map #[] 0) := ⟨_, rfl⟩
 rw [← hW2, ← hr1]
 have hb2 : Below W1.heap.size W1 W2 := by rw [hW2]; exact (Below.refl _ _).alloc (Nat.le_refl _) _
 have HC0 : Hid (CB1 w ps (.slice A N cap) last done (.slice B M cap2) em w.heap.size r1 0 W2) :=
  Lib.hid ⟨HS1.out.step hb2, ⟨#[], 0, by rw [hW2, hr1]; exact (MapKept.heap_alloc _ _).1, by simp [befL]⟩, by rw [hr1]; exact HS1.out.below.size⟩
 clear hb2 hW2 hr1 HS1
 obtain ⟨c0, c1, c2, c3, c4⟩ := HC0.out.bx.facts
 go_wp2_with fail
 clear c0 c1 c2 c3 c4
 go_loopw [21] (fun s21 wr => ∃ k : Nat, k ≤ M ∧ s21 = .int .i64 k ∧ CB1 w ps (.slice A N cap) last done (.slice B M cap2) em w.heap.size r1 k wr ∧ ∀ j, j < k → fb ps j (pgt ps j).2.1 = none) (fun s21 _ => M - (intOf s21).toNat)
 case atStart => exact ⟨0, Nat.zero_le _, rfl, HC0.out, fun j hj => absurd hj (Nat.not_lt_zero _)⟩
 case round =>
  obtain ⟨k, hk, rfl, hS, hall⟩ := hrel
  have HS := Lib.hid hS
  have HAL := Lib.hid hall
  clear hS hall HC0
  by_cases hlt : k < M
  ·have tl : decide ((k : Int) < (M : Int)) = true := decide_eq_true (by omega)
   have tl' : decide (k < M) = true := decide_eq_true hlt
   obtain ⟨x, hx⟩ : ∃ x, ps[k]? = some x := ⟨ps[k]'(by rw [← HMM.out]; exact hlt), by simp⟩
   obtain ⟨gp, op, rfl, hgp, hcp⟩ := HP.out.at hx
   obtain ⟨z0, z1, z2⟩ := hcp k _ hx
   have hpg := pgt_of hx
   have d0 := (HS.out.bx.below.cell (p := ⟨gp, op + k * 3, none⟩) hgp).trans z0
   have d1 := (HS.out.bx.below.cell (p := ⟨gp, op + k * 3 + 1, none⟩) hgp).trans z1
   have d2 := (HS.out.bx.below.cell (p := ⟨gp, op + k * 3 + 2, none⟩) hgp).trans z2
   obtain ⟨p1, p2, p3⟩ := x
   dsimp only at d0 d1 d2
   have HPG : Hid ((pgt ps k).2.1 = p2) := Lib.hid (by rw [hpg])
   have ek1 : wrap64 ((k : Int) + 1) = ((k + 1 : Nat) : Int) := by have := HM2.out; unfold wrap64; omega
   have EK := Lib.hid ek1
   have HLT := Lib.hid hlt
   clear z0 z1 z2 hx ek1 hk hlt hgp hcp hpg
   go_upto_region 7 with fail
   obtain ⟨X, hX⟩ : ∃ X, X = wr.heap.size := ⟨_, rfl⟩
   obtain ⟨W5, hW5⟩ : ∃ W5, W5 = wr.alloc (Obj.cells #[.int .i64 p1, .int .i64 p2, .int .i64 p3] 102) := ⟨_, rfl⟩
   rw [← hW5, ← hX]
   have hb5 : Below wr.heap.size wr W5 := by rw [hW5]; exact (Below.refl _ _).alloc (Nat.le_refl _) _
   have hx5 : W5.heap[X]? = some (.cells #[.int .i64 p1, .int .i64 p2, .int .i64 p3] 102 (0, 0)) := by rw [hW5, hX]; exact (MapKept.heap_alloc _ _).1
   have HS5 := Lib.hid (HS.out.step hb5)
   have x1 : W5.cell? ⟨X, 1, none⟩ = some (.int .i64 p2) := cB hx5 1
   have hlk := look_b HS5.out.map p2
   clear hb5 hx5 hW5 hX d0 d1 d2 tl tl'
   cases hfb : fb ps k p2 with
   | some i =>
    rw [hfb] at hlk
    obtain rfl := HC2.out (fun h => by
     have := h.2.1 k (by rw [← HMM.out]; exact HLT.out)
     rw [HPG.out, hfb] at this; cases this)
    have hlk' : (Instr.lookup 119 (.map (some r1)) (.int .i64 p2) true).run Try.prog W5 = .ok (.tuple #[.int .i64 (i : Nat), .bool true]) W5 := hlk
    clear hlk hfb
    go_wp2_with fail
    go_ret
    exact ⟨rfl, HS5.out.bx.below⟩
   | none =>
    rw [hfb] at hlk
    have hlk' : (Instr.lookup 119 (.map (some r1)) (.int .i64 p2) true).run Try.prog W5 = .ok (.tuple #[.int .i64 0, .bool false]) W5 := hlk
    obtain ⟨W6, hput, hW6⟩ := HS5.out.put (by rw [HPG.out]; exact hfb)
    rw [HPG.out] at hput
    have HS6 := Lib.hid hW6
    have HFB := Lib.hid hfb
    clear hlk hfb hW6
    go_wp2_with fail
    try rw [EK.out]
    go_roundw
    case rel => exact ⟨k + 1, HLT.out, rfl, HS6.out, fun j hj => by
     rcases Nat.lt_or_ge j k with h | h
     ·exact HAL.out j h
     ·obtain rfl : j = k := by omega
      rw [HPG.out]; exact HFB.out⟩
    case measure =>
     have := HLT.out
     show M - ((k + 1 : Nat) : Int).toNat < M - (k : Int).toNat
     omega
  ·have hjn : M = k := by omega
   have tl : decide ((k : Int) < (M : Int)) = false := decide_eq_false (by omega)
   have tl' : decide (k < M) = false := decide_eq_false hlt
   have HDF : Hid (DupFree ps) := Lib.hid (fun j hj => HAL.out j (by rw [← HMM.out] at hj; omega))
   obtain rfl : k = M := hjn.symm
   clear hlt hk hjn HAL
   go_upto_region 12 with fail
   clear tl tl'
   obtain ⟨wq, rfl⟩ : ∃ x, x = wr := ⟨_, rfl⟩
   have HNQ : Hid (Tri wq (.slice A N cap) ns) := Lib.hid (HN.out.below HS.out.bx.below)
   have HPQ : Hid (Tri wq (.slice B k cap2) ps) := Lib.hid (HP.out.below HS.out.bx.below)
   have HMP : Hid (MapI wq r1 (befL ps k)) := Lib.hid HS.out.map
   have HBQ := Lib.hid HS.out.bx.below
   have HGB : Hid (wq.heap[w.heap.size]? = some (.cells #[.slice A N cap, .int .i64 last, .int .i64 done, .slice B k cap2, .bool em] 28 (0, 0))) := Lib.hid HS.out.bx.box
   have hmk := mk_map 120 wq
   go_upto_region 14 with fail
   clear hmk
   obtain ⟨r, hr⟩ : ∃ r, r = wq.heap.size := ⟨_, rfl⟩
   obtain ⟨W4, hW4⟩ : ∃ W4, W4 = (wq.alloc (Obj.map #[] 0)).alloc (Obj.cells #[Value.map (some wq.heap.size)] 120) := ⟨_, rfl⟩
   rw [← hW4, ← hr]
   have HG0 : Hid (CG wq (.slice A N cap) last done (.slice B k cap2) em w.heap.size (r + 1) r [] W4) := Lib.hid (by
    have hb1 : Below wq.heap.size wq (wq.alloc (Obj.map #[] 0)) := (Below.refl _ _).alloc (Nat.le_refl _) _
    have hb2 : Below (wq.alloc (Obj.map #[] 0)).heap.size (wq.alloc (Obj.map #[] 0)) W4 := by rw [hW4]; exact (Below.refl _ _).alloc (Nat.le_refl _) _
    have hm : MapI (wq.alloc (Obj.map #[] 0)) r (seenL []) := ⟨#[], 0, by rw [hr]; exact (MapKept.heap_alloc _ _).1, rfl⟩
    have hB0 : Gx wq (.slice A N cap) last done (.slice B k cap2) em w.heap.size wq := ⟨Below.refl _ _, HGB.out⟩
    refine ⟨(hB0.step hb1).step hb2, ?_, hm.below hb2, by omega⟩
    have hs : r + 1 = (wq.alloc (Obj.map #[] 0)).heap.size := by simp [hr]
    rw [hW4, hs, hr]
    exact (MapKept.heap_alloc _ _).1)
   have HRL : Hid (wq.heap.size ≤ r) := Lib.hid (Nat.le_of_eq hr.symm)
   clear hW4 hr HS
   have HOK : Hid (∀ (k : Nat) (x : T3), ns[k]? = some x → x.2.2 = -1 ∨ InR N x.2.2) := Lib.hid (fun k x hx => by rw [HNN.out]; exact (HF.out.node k x hx).1)
   have HOK2 : Hid (∀ n, InR N n → nxtG ns n = -1 ∨ InR N (nxtG ns n)) := Lib.hid (fun n hn => by
    obtain ⟨x, hx⟩ : ∃ x, ns[n.toNat]? = some x := ⟨ns[n.toNat]'(by rw [← HNN.out]; obtain ⟨a, b⟩ := hn; omega), by simp⟩
    have e : nxtG ns n = x.2.2 := by unfold nxtG; rw [List.getD_eq_getElem?_getD, hx]; rfl
    rw [e]
    exact HOK.out _ _ hx)
   have H2000 : Hid (N ≤ 2000) := Lib.hid (by rw [HNN.out]; exact HF.out.n2)
   have HN1 : Hid (1 ≤ N) := Lib.hid (by rw [HNN.out]; exact HF.out.n1)
   have HCH : Hid (∀ (S : List Int) (n : Int) (f : Nat) (W : World), InR N n → S.Nodup → (∀ x ∈ S, InR N x) → f + S.length = N + 1 → CG wq (.slice A N cap) last done (.slice B k cap2) em w.heap.size (r + 1) r S W →
     Calls Try.prog 54 #[.int .i64 n, .pointer (some ⟨r + 1, 0, none⟩), .pointer (some ⟨w.heap.size, 0, none⟩)] W fun en W' => ChainEnd (chainF ns f S n) en ∧ CG wq (.slice A N cap) last done (.slice B k cap2) em w.heap.size (r + 1) r (chainF ns f S n).1 W' ∧ Below wq.heap.size W W') :=
    Lib.hid (fun S n f W h1 h2 h3 h4 h5 => chain_g HNQ.out HNN.out HOK.out H2000.out w.heap.size (r + 1) r S n h1 h2 h3 f h4 W h5)
   go_wp2_with fail
   refine (HCH.out [] 0 (N + 1) _ ⟨Int.le_refl 0, by have := HN1.out; omega⟩ List.nodup_nil (fun x hx => by cases hx) rfl HG0.out).mono ?_
   rintro en W5 ⟨hend, hcg, hb5⟩
   have hkeep := chainF_keeps HOK2.out (N + 1) [] 0 ⟨Int.le_refl 0, by have := HN1.out; omega⟩ List.nodup_nil (fun x hx => by cases hx)
   unfold ChainEnd at hend
   subst hend
   generalize hR0 : chainF ns (N + 1) [] 0 = R0 at *
   have HR0 : Hid (chainF ns (ns.length + 1) [] 0 = R0) := Lib.hid (by rw [← HNN.out]; exact hR0)
   have HK0 := Lib.hid hkeep
   have HG5 := Lib.hid hcg
   obtain ⟨S0, o0⟩ := R0
   have HB5 := Lib.hid (HBQ.out.trans (HG5.out.bx.below.mono HBQ.out.size))
   clear hcg hb5 hkeep hR0 HG0
   obtain ⟨c0, c1, c2, c3, c4⟩ := HG5.out.bx.facts
   have c5 : W5.cell? ⟨r + 1, 0, none⟩ = some (.map (some r)) := cB HG5.out.var 0
   have hlk := HG5.out.look done
   dsimp only at hlk
   cases o0 with
   | none =>
    obtain rfl := HC2.out (fun h => by
     obtain ⟨S, e, h1, _⟩ := h.2.2
     rw [HR0.out] at h1
     cases h1)
    clear hlk
    dsimp only [Option.getD_none, Option.isSome_none]
    go_wp2_with fail
    go_ret
    exact ⟨rfl, HB5.out⟩
   | some e0 =>
   dsimp only [Option.getD_some, Option.isSome_some]
   by_cases hdn : done ∈ S0
   rotate_left
   ·obtain rfl := HC2.out (fun h => by
     obtain ⟨S, e, h1, h2, _⟩ := h.2.2
     rw [HR0.out] at h1
     injection h1 with h1 _
     subst h1
     exact hdn h2)
    have td : decide (done ∈ S0) = false := decide_eq_false hdn
    rw [td] at hlk
    clear td hdn
    go_wp2_with fail
    go_ret
    exact ⟨rfl, HB5.out⟩
   have td : decide (done ∈ S0) = true := decide_eq_true hdn
   rw [td] at hlk
   have HDN := Lib.hid hdn
   clear td hdn
   go_wp2_with fail
   clear hlk c0 c1 c2 c3 c4 c5
   obtain ⟨R2, hR2⟩ : ∃ R2, R2 = loopF ns ps k S0 e0 := ⟨_, rfl⟩
   have HR2 := Lib.hid hR2
   clear hR2
   have HBAD : Hid (R2 = none → c = 14) := Lib.hid (fun hno => HC2.out (fun h => by
    obtain ⟨S, e, h1, _, S', e', h3, _⟩ := h.2.2
    rw [HR0.out] at h1
    injection h1 with h1 h1'
    injection h1' with h1'
    subst h1
    subst h1'
    rw [← HMM.out, ← HR2.out, hno] at h3
    cases h3))
   go_loopw [10, 58] (fun s10 s58 wr => ∃ (i : Nat) (S : List Int) (e : Int), i ≤ k ∧ s58 = .int .i64 i ∧ s10 = .int .i64 e ∧ InR N e ∧ S.Nodup ∧ (∀ x ∈ S, InR N x) ∧ R2 = loopF ns ps (k - i) S e ∧ CG wq (.slice A N cap) last done (.slice B k cap2) em w.heap.size (r + 1) r S wr) (fun _ s58 _ => k - (intOf s58).toNat)
   case atStart => exact ⟨0, S0, e0, Nat.zero_le _, rfl, rfl, HK0.out.2.2 e0 rfl, HK0.out.1, HK0.out.2.1, HR2.out, HG5.out⟩
   case round =>
    obtain ⟨i, S, e, hi, rfl, rfl, he, hnd, hin, hR, hS⟩ := hrel
    have HS := Lib.hid hS
    have HE := Lib.hid (And.intro he (And.intro hnd (And.intro hin hR)))
    clear he hnd hin hR hS HG5
    obtain ⟨c0, c1, c2, c3, c4⟩ := HS.out.bx.facts
    have HBW := Lib.hid (HBQ.out.trans (HS.out.bx.below.mono HBQ.out.size))
    by_cases hlt : i < k
    ·have tl : decide ((i : Int) < (k : Int)) = true := decide_eq_true (by omega)
     have tl' : decide (i < k) = true := decide_eq_true hlt
     have hmp : MapI wr r1 (befL ps k) := by
      obtain ⟨es, cl, h1, h2⟩ := HMP.out
      exact ⟨es, cl, (HS.out.bx.below.block r1 (blk_lt h1)).trans h1, h2⟩
     have hlk := look_b hmp e
     have ek1 : wrap64 ((i : Int) + 1) = ((i + 1 : Nat) : Int) := by have := HM2.out; unfold wrap64; omega
     have EK := Lib.hid ek1
     have HLT := Lib.hid hlt
     have hstep : loopF ns ps (k - i) S e = (fb ps k e).bind fun i' => goOn (chainF ns (N + 1 - S.length) S (pgt ps i').2.2) fun S' e' => loopF ns ps (k - (i + 1)) S' e' := by
      obtain ⟨d, hd⟩ : ∃ d, k - i = d + 1 := ⟨k - i - 1, by omega⟩
      have hd2 : k - (i + 1) = d := by omega
      rw [hd, hd2]
      show (fb ps ps.length e).bind _ = _
      rw [← HMM.out, ← HNN.out]
     have HST := Lib.hid hstep
     clear hstep hmp ek1 hlt hi
     cases hfb : fb ps k e with
     | none =>
      rw [hfb] at hlk
      have hlk' : (Instr.lookup 119 (.map (some r1)) (.int .i64 e) true).run Try.prog wr = .ok (.tuple #[.int .i64 0, .bool false]) wr := hlk
      obtain rfl := HBAD.out (by rw [HE.out.2.2.2, HST.out, hfb]; rfl)
      clear hlk hfb
      go_wp2_with fail
      go_ret
      exact ⟨rfl, HBW.out⟩
     | some p =>
      rw [hfb] at hlk
      have hlk' : (Instr.lookup 119 (.map (some r1)) (.int .i64 e) true).run Try.prog wr = .ok (.tuple #[.int .i64 (p : Nat), .bool true]) wr := hlk
      have HFB := Lib.hid hfb
      have hpk : p < k := by
       have := List.mem_of_find?_eq_some hfb
       exact List.mem_range.1 this
      obtain ⟨x, hx⟩ : ∃ x, ps[p]? = some x := ⟨ps[p]'(by rw [← HMM.out]; exact hpk), by simp⟩
      obtain ⟨gp, op, rfl, hgp, hcp⟩ := HPQ.out.at hx
      have hpg := pgt_of hx
      have hz := (hcp p _ hx).2.2
      have hin3 : InR N x.2.2 := by have := (HF.out.push p x hx).2.1; rw [← HNN.out] at this; exact this
      rw [← hpg] at hz hin3
      generalize hnp : (pgt ps p).2.2 = np at *
      have HNP := Lib.hid hnp
      have d2 := (HS.out.bx.below.cell (p := ⟨gp, op + p * 3 + 2, none⟩) hgp).trans hz
      have HIN := Lib.hid hin3
      have pk : (p : Int) < (k : Int) := by omega
      have pk' : p < k := hpk
      have hfl := few_of HE.out.2.1 HE.out.2.2.1
      have hch := HCH.out S np (N + 1 - S.length) wr HIN.out HE.out.2.1 HE.out.2.2.1 (by omega) HS.out
      have HKE := Lib.hid (chainF_keeps HOK2.out (N + 1 - S.length) S np HIN.out HE.out.2.1 HE.out.2.2.1)
      have HCC := Lib.hid hch
      clear hlk hfb hx hgp hcp hpg hz hin3 hpk hnp hfl hch
      go_wp2_with fail
      refine HCC.out.mono ?_
      rintro en W6 ⟨hend, hcg, hb6⟩
      unfold ChainEnd at hend
      subst hend
      clear hlk' c0 c1 c2 c3 c4 d2 hb6 tl tl' pk pk' HCC
      generalize hR6 : chainF ns (N + 1 - S.length) S np = R6 at *
      have HR6 := Lib.hid hR6
      have HG6 := Lib.hid hcg
      clear hcg hR6
      obtain ⟨S6, o6⟩ := R6
      have HBX := Lib.hid (HBQ.out.trans (HG6.out.bx.below.mono HBQ.out.size))
      cases o6 with
      | none =>
       dsimp only [Option.getD_none, Option.isSome_none]
       obtain rfl := HBAD.out (by rw [HE.out.2.2.2, HST.out, HFB.out]; show goOn (chainF ns (N + 1 - S.length) S (pgt ps p).2.2) (fun S' e' => loopF ns ps (k - (i + 1)) S' e') = none; rw [HNP.out, HR6.out]; rfl)
       go_wp2_with fail
       go_ret
       exact ⟨rfl, HBX.out⟩
      | some e6 =>
       dsimp only [Option.getD_some, Option.isSome_some]
       have HRN : Hid (R2 = loopF ns ps (k - (i + 1)) S6 e6) := Lib.hid (by rw [HE.out.2.2.2, HST.out, HFB.out]; show goOn (chainF ns (N + 1 - S.length) S (pgt ps p).2.2) (fun S' e' => loopF ns ps (k - (i + 1)) S' e') = _; rw [HNP.out, HR6.out]; rfl)
       go_wp2_with fail
       try rw [EK.out]
       go_roundw
       case rel => exact ⟨i + 1, S6, e6, HLT.out, rfl, rfl, HKE.out.2.2 e6 rfl, HKE.out.1, HKE.out.2.1, HRN.out, HG6.out⟩
       case measure =>
        have := HLT.out
        show k - ((i + 1 : Nat) : Int).toNat < k - (i : Int).toNat
        omega
    ·have hjn : i = k := by omega
     have tl : decide ((i : Int) < (k : Int)) = false := decide_eq_false (by omega)
     have tl' : decide (i < k) = false := decide_eq_false hlt
     have HRE : Hid (loopF ns ps k S0 e0 = some (S, e)) := Lib.hid (by rw [← HR2.out, HE.out.2.2.2, hjn, Nat.sub_self]; rfl)
     have hlen := run_len_map HS.out.map 120 4 3 und120
     rw [show (seenL S).length = S.length by simp [seenL]] at hlen
     have c5 : wr.cell? ⟨r + 1, 0, none⟩ = some (.map (some r)) := cB HS.out.var 0
     clear hlt hi
     by_cases hel : e = last
     rotate_left
     ·obtain rfl := HC2.out (fun h => by
       obtain ⟨S1, e1, h1, _, S', e', h3, h4, _⟩ := h.2.2
       rw [HR0.out] at h1
       injection h1 with h1 h1'
       injection h1' with h1'
       subst h1
       subst h1'
       rw [← HMM.out, HRE.out] at h3
       injection h3 with h3
       injection h3 with h3 h3'
       exact hel (h3'.trans h4))
      have te : (e == last) = false := by simpa using hel
      have te' : (e != last) = true := by simpa using hel
      clear hel
      go_wp2_with fail
      go_ret
      exact ⟨rfl, HBW.out⟩
     by_cases hsz : S.length = N
     rotate_left
     ·obtain rfl := HC2.out (fun h => by
       obtain ⟨S1, e1, h1, _, S', e', h3, h4, h5, _⟩ := h.2.2
       rw [HR0.out] at h1
       injection h1 with h1 h1'
       injection h1' with h1'
       subst h1
       subst h1'
       rw [← HMM.out, HRE.out] at h3
       injection h3 with h3
       injection h3 with h3 h3'
       subst h3
       exact hsz (by rw [HNN.out]; exact h5))
      have te : ((S.length : Int) == (N : Int)) = false := by simpa using (show ¬ (S.length : Int) = (N : Int) by omega)
      have te2 : (S.length == N) = false := by simpa using hsz
      subst hel
      have te3 : (e == e) = true := by simp
      generalize S.length = sl at *
      have HSL := Lib.hid hsz
      have te4 : ¬ (sl : Int) = (N : Int) := by omega
      clear hsz
      go_wp2_with fail
      go_ret
      exact ⟨rfl, HBW.out⟩
     subst hel
     have te : ((S.length : Int) == (N : Int)) = true := by simpa using (show (S.length : Int) = (N : Int) by omega)
     have te3 : (e == e) = true := by simp
     rw [hsz] at hlen
     have HSZ := Lib.hid hsz
     have hgood : (em = true → done = e) → RightS ns e done ps em := fun hem => ⟨HF.out, HDF.out, S0, e0, HR0.out, HDN.out, S, e, by rw [← HMM.out]; exact HRE.out, rfl, by rw [← HNN.out]; exact HSZ.out, hem⟩
     have HGOOD := Lib.hid hgood
     clear hsz te hgood
     cases em with
     | false =>
      obtain rfl := HC1.out (HGOOD.out (fun h => by cases h))
      go_wp2_with fail
      go_ret
      exact ⟨rfl, HBW.out⟩
     | true =>
      by_cases hde : done = e
      ·obtain rfl := HC1.out (HGOOD.out (fun _ => hde))
       subst hde
       go_wp2_with fail
       go_ret
       exact ⟨rfl, HBW.out⟩
      ·obtain rfl := HC2.out (fun h => by
        obtain ⟨S1, e1, h1, _, S', e', h3, h4, h5, h6⟩ := h.2.2
        exact hde (h6 rfl))
       have td : (done == e) = false := by simpa using hde
       clear hde
       go_wp2_with fail
       go_ret
       exact ⟨rfl, HBW.out⟩
end Go.Proofs.Ytgbafpjeapkklaa.Mb
namespace Go.Proofs.Ytgbafpjeapkklaa.Mb
open Go.RowKit
set_option linter.unusedVariables false
set_option linter.unusedSimpArgs false
def StG (w : World) (v : Value) (ns : List T3) (last done : Int) (ps : List T3) (em : Bool) : Prop := ∃ vn vp, v = .agg #[vn, .int .i64 last, .int .i64 done, vp, .bool em] ∧ TriT w 99 vn ns ∧ TriT w 102 vp ps
theorem StG.below {w w' : World} {v : Value} {ns ps : List T3} {last done : Int} {em : Bool} (h : StG w v ns last done ps em) (hb : Below w.heap.size w w') : StG w' v ns last done ps em := by
 obtain ⟨vn, vp, e, h1, h2⟩ := h
 exact ⟨vn, vp, e, h1.below hb, h2.below hb⟩
theorem RightS.few {ns ps : List T3} {last done : Int} {em : Bool} (h : RightS ns last done ps em) : ns.length ≤ 2000 ∧ ps.length ≤ 2000 := by
 obtain ⟨t, u, ks, ht, hp, hL, hkl, hnd, hlen, _⟩ := order_of_right h
 have := hL.len
 have := h.1.n2
 simp only [List.length_append] at hlen
 omega
set_option maxRecDepth 100000 in
set_option maxHeartbeats 4000000 in
theorem mark_g {ns ps : List T3} {last done : Int} {em : Bool} (hr : RightS ns last done ps em) {v : Value} (w : World) (hv : StG w v ns last done ps em) :
  Calls Try.prog 13 #[v] w fun e w' => ∃ v', e = .returned (.tuple #[v', .bool (decide (done = last)), .int .i64 0]) ∧ StG w' v' ns last done ps (decide (done = last)) ∧ Below w.heap.size w w' := by
 obtain ⟨hf1, hf2⟩ := hr.few
 obtain ⟨vn, vp, rfl, hn, hp⟩ := hv
 have HCK : Hid (∀ W, Below w.heap.size w W → Calls Try.prog 18 #[.agg #[vn, .int .i64 last, .int .i64 done, vp, .bool em]] W fun e w' => e = .returned (.int .i64 0) ∧ Below W.heap.size W w') := fun W h => check_g ns ps last done em 0 (fun _ => rfl) (fun h => absurd hr h) vn vp W (hn.below h).1 (hp.below h).1 (by omega) (by omega)
 have HCL : Hid (∀ W, Below w.heap.size w W → Calls Try.prog 40 #[.agg #[vn, .int .i64 last, .int .i64 done, vp, .bool em]] W fun e w' => ∃ vn' vp', e = .returned (.agg #[vn', .int .i64 last, .int .i64 done, vp', .bool em]) ∧
   w'.ownsRow W.heap.size 99 3 vn' ns.length (cellsT ns) ∧ w'.ownsRow W.heap.size 102 3 vp' ps.length (cellsT ps) ∧ Below W.heap.size W w') :=
  fun W h => clone_at (hn.below h).1 (hp.below h).1 (by omega) (by omega) _ _ _
 have HB0 : Hid (CB w vn vp last done em ((w.alloc (Obj.cells #[vn, .int .i64 last, .int .i64 done, vp, .bool em] 28)).alloc (Obj.cells #[.slice none 0 0, .int .i64 0, .int .i64 0, .slice none 0 0, .bool false] 28))) := CB.mk w vn vp last done em
 obtain ⟨pn, cn, hA⟩ := hn.slice
 obtain ⟨pp, cp, hB⟩ := hp.slice
 subst hA
 subst hB
 clear hn hp
 obtain ⟨t, ht⟩ : ∃ t : Bool, t = decide (done = last) := ⟨_, rfl⟩
 have et : (done == last) = t := by
  rw [ht]
  by_cases h : done = last
  ·simp [h]
  ·simp [h]
 rw [← ht]
 have HTT := Lib.hid ht; clear ht
 go_enter Try.func13, Try.ntmps13
 go_upto_region 1 with fail
 generalize ((w.alloc (Obj.cells #[.slice pn ns.length cn, .int .i64 last, .int .i64 done, .slice pp ps.length cp, .bool em] 28)).alloc (Obj.cells #[.slice none 0 0, .int .i64 0, .int .i64 0, .slice none 0 0, .bool false] 28)) = W0 at *
 obtain ⟨c0, c1, c2, c3, c4⟩ := HB0.out.facts
 go_wp2_with fail
 refine (HCK.out _ HB0.out.1).mono ?_
 rintro e W1 ⟨rfl, hb1⟩
 have HB1 := Lib.hid (HB0.out.step hb1)
 clear hb1 c0 c1 c2 c3 c4
 obtain ⟨c0, c1, c2, c3, c4⟩ := HB1.out.facts
 go_wp2_with fail
 refine (HCL.out _ HB1.out.1).mono ?_
 rintro e W2 ⟨vn', vp', rfl, r1, r2, hb2⟩
 obtain ⟨pn', cn', hA⟩ := own_slice r1
 obtain ⟨pp', cp', hB⟩ := own_slice r2
 subst hA
 subst hB
 have HB2 := Lib.hid (HB1.out.step hb2)
 obtain ⟨g, W3, hg, hW3, hC3⟩ := CO.made last done em HB2.out HB1.out.size hb2.size r1 r2
 have HC3 := Lib.hid hC3
 clear hb2 r1 r2 c0 c1 c2 c3 c4 hC3
 go_upto_region 5 with fail
 rw [← hg, ← hW3]
 clear hg hW3
 obtain ⟨c0, c1, c2, c3, c4⟩ := HC3.out.cb.facts
 have f4 := (HC3.out.frozen 4).1
 obtain ⟨y0, y1, y2, y3, y4, _⟩ := HC3.out.facts
 go_upto_region 6 with fail
 clear c0 c1 c2 c3 c4 f4 y0 y1 y2 y3 y4
 have HC4 := Lib.hid (HC3.out.set4 t)
 generalize W3.setCell ⟨g, 4, none⟩ (.bool t) = W4 at *
 obtain ⟨y0, y1, y2, y3, y4, z0, z1, z2, z3, z4⟩ := HC4.out.facts
 have f0 := (HC4.out.frozen 0).2
 have f1 := (HC4.out.frozen 1).2
 have f2 := (HC4.out.frozen 2).2
 have f3 := (HC4.out.frozen 3).2
 have f4 := (HC4.out.frozen 4).2
 have hne : ¬ g = w.heap.size + 1 := by have := HC4.out.low; have := HC4.out.lowg; omega
 have hne' : ¬ w.heap.size + 1 = g := fun e => hne e.symm
 go_region
 obtain ⟨W5, hW5⟩ : ∃ W5, W5 = (((((W4.setCell ⟨w.heap.size + 1, 0, none⟩ (.slice pn' ns.length cn')).setCell ⟨w.heap.size + 1, 1, none⟩ (.int .i64 last)).setCell ⟨w.heap.size + 1, 2, none⟩ (.int .i64 done)).setCell ⟨w.heap.size + 1, 3, none⟩ (.slice pp' ps.length cp')).setCell ⟨w.heap.size + 1, 4, none⟩ (.bool t)) := ⟨_, rfl⟩
 rw [← hW5]
 obtain ⟨k1, k2, k3, k4⟩ := HC4.out.out hW5
 have K1 := Lib.hid k1
 have K3 := Lib.hid k3
 have K4 := Lib.hid k4
 clear y0 y1 y2 y3 y4 z0 z1 z2 z3 z4 f0 f1 f2 f3 f4 k1 k3 k4 hW5
 have c0 : W5.cell? ⟨w.heap.size + 1, 0, none⟩ = some (.slice pn' ns.length cn') := cB k2 0
 have c1 : W5.cell? ⟨w.heap.size + 1, 1, none⟩ = some (.int .i64 last) := cB k2 1
 have c2 : W5.cell? ⟨w.heap.size + 1, 2, none⟩ = some (.int .i64 done) := cB k2 2
 have c3 : W5.cell? ⟨w.heap.size + 1, 3, none⟩ = some (.slice pp' ps.length cp') := cB k2 3
 have c4 : W5.cell? ⟨w.heap.size + 1, 4, none⟩ = some (.bool t) := cB k2 4
 go_wp2_with fail
 refine bodyPost_ret (v := .tuple #[.agg #[.slice pn' ns.length cn', .int .i64 last, .int .i64 done, .slice pp' ps.length cp', .bool t], .bool t, .int .i64 0]) (by simp [results, Try.results13, go_sem, c0, c1, c2, c3, c4]) rfl ⟨_, rfl, ⟨_, _, rfl, ?_, ?_⟩, ?_⟩
 ·exact K3.out
 ·exact K4.out
 ·exact K1.out.drew
end Go.Proofs.Ytgbafpjeapkklaa.Mb
namespace Go.Proofs.Ytgbafpjeapkklaa.Mb
open Go.RowKit
set_option linter.unusedVariables false
set_option linter.unusedSimpArgs false
def posG (ps : List T3) (p : Int) : Nat := ps.findIdx fun o => decide (p ≤ o.1)
theorem posG_of {ps : List T3} {p : Int} {k : Nat} (hk : k ≤ ps.length) (h1 : ∀ j o, j < k → ps[j]? = some o → o.1 < p) (h2 : ∀ o, ps[k]? = some o → p ≤ o.1) : posG ps p = k := by
 unfold posG
 by_cases hlt : k < ps.length
 ·rw [List.findIdx_eq hlt]
  refine ⟨by simpa using h2 _ (List.getElem?_eq_getElem hlt), fun j hj => ?_⟩
  have := h1 j _ hj (List.getElem?_eq_getElem (by omega))
  simpa using this
 ·obtain rfl : k = ps.length := by omega
  rw [List.findIdx_eq_length]
  intro o ho
  obtain ⟨j, hj, e⟩ := List.getElem_of_mem ho
  have := h1 j o hj (by rw [← e]; simp)
  simpa using this
theorem posG_le (ps : List T3) (p : Int) : posG ps p ≤ ps.length := List.findIdx_le_length
set_option maxRecDepth 100000 in
set_option maxHeartbeats 8000000 in
theorem begin_g {ns ps : List T3} {last done : Int} {em : Bool} (hr : RightS ns last done ps em) {v : Value} {p x : Int} (hp : 0 ≤ p) (hno : idx (fun x => x.1 == p) ps = -1) (hm : ns.length < 2000) (hins : InsC (posG ps p) ps (p, last, (ns.length : Int))) (w : World) (hv : StG w v ns last done ps em) :
  Calls Try.prog 10 #[v, .int .i64 p, .int .i64 x] w fun e w' => ∃ v', e = .returned (.tuple #[v', .bool em, .int .i64 0]) ∧ StG w' v' (ns ++ [(x, p, -1)]) ns.length done (ps.take (posG ps p) ++ (p, last, (ns.length : Int)) :: ps.drop (posG ps p)) false ∧ Below w.heap.size w w' := by
 obtain ⟨hf1, hf2⟩ := hr.few
 obtain ⟨vn, vp, rfl, hn, hp'⟩ := hv
 have HCK : Hid (∀ W, Below w.heap.size w W → Calls Try.prog 18 #[.agg #[vn, .int .i64 last, .int .i64 done, vp, .bool em]] W fun e w' => e = .returned (.int .i64 0) ∧ Below W.heap.size W w') := fun W h => check_g ns ps last done em 0 (fun _ => rfl) (fun h => absurd hr h) vn vp W (hn.below h).1 (hp'.below h).1 (by omega) (by omega)
 have HPU : Hid (∀ W, Below w.heap.size w W → Calls Try.prog 39 #[.agg #[vn, .int .i64 last, .int .i64 done, vp, .bool em], .int .i64 p] W fun e w' => e = .returned (.int .i64 (-1)) ∧ Below W.heap.size W w') := fun W h => by
  rw [← hno]
  exact push_at (by omega) _ _ _ p W (hp'.below h).1
 have HCL : Hid (∀ W, Below w.heap.size w W → Calls Try.prog 40 #[.agg #[vn, .int .i64 last, .int .i64 done, vp, .bool em]] W fun e w' => ∃ vn' vp', e = .returned (.agg #[vn', .int .i64 last, .int .i64 done, vp', .bool em]) ∧
   w'.ownsRow W.heap.size 99 3 vn' ns.length (cellsT ns) ∧ w'.ownsRow W.heap.size 102 3 vp' ps.length (cellsT ps) ∧ Below W.heap.size W w') :=
  fun W h => clone_at (hn.below h).1 (hp'.below h).1 (by omega) (by omega) _ _ _
 have HB0 : Hid (CB w vn vp last done em ((w.alloc (Obj.cells #[vn, .int .i64 last, .int .i64 done, vp, .bool em] 28)).alloc (Obj.cells #[.slice none 0 0, .int .i64 0, .int .i64 0, .slice none 0 0, .bool false] 28))) := CB.mk w vn vp last done em
 obtain ⟨pn, cn, hA⟩ := hn.slice
 obtain ⟨pp, cp, hB⟩ := hp'.slice
 subst hA
 subst hB
 clear hn hp'
 obtain ⟨i0, hi0, hz0, hz1, hz2⟩ := info_parts info99
 have HI := Lib.hid hi0; clear hi0
 have HZ0 := Lib.hid hz0; clear hz0
 have HZ1 := Lib.hid hz1; clear hz1
 have HZ2 := Lib.hid hz2; clear hz2
 have HINS := Lib.hid hins
 have HPSM : Hid (ps.length ≤ 2000) := hf2
 have tp : decide (p < 0) = false := decide_eq_false (by omega)
 have tl : ((ns.length : Int) == 2000) = false := by simp; omega
 have HMM := Lib.hid hm
 clear hr hno hins hp hm hf1 hf2
 go_enter Try.func10, Try.ntmps10
 go_upto_region 1 with fail
 generalize ((w.alloc (Obj.cells #[.slice pn ns.length cn, .int .i64 last, .int .i64 done, .slice pp ps.length cp, .bool em] 28)).alloc (Obj.cells #[.slice none 0 0, .int .i64 0, .int .i64 0, .slice none 0 0, .bool false] 28)) = W0 at *
 obtain ⟨c0, c1, c2, c3, c4⟩ := HB0.out.facts
 go_wp2_with fail
 refine (HCK.out _ HB0.out.1).mono ?_
 rintro e W1 ⟨rfl, hb1⟩
 have HB1 := Lib.hid (HB0.out.step hb1)
 clear hb1 c0 c1 c2 c3 c4
 obtain ⟨c0, c1, c2, c3, c4⟩ := HB1.out.facts
 go_wp2_with fail
 refine (HPU.out _ HB1.out.1).mono ?_
 rintro e W1' ⟨rfl, hb1⟩
 have HB1' := Lib.hid (HB1.out.step hb1)
 clear hb1 c0 c1 c2 c3 c4
 obtain ⟨c0, c1, c2, c3, c4⟩ := HB1'.out.facts
 go_wp2_with fail
 refine (HCL.out _ HB1'.out.1).mono ?_
 rintro e W2 ⟨vn', vp', rfl, r1, r2, hb2⟩
 obtain ⟨pn', cn', hA⟩ := own_slice r1
 obtain ⟨pp', cp', hB⟩ := own_slice r2
 subst hA
 subst hB
 have HB2 := Lib.hid (HB1'.out.step hb2)
 obtain ⟨g, W3, hg, hW3, hC3⟩ := CO.made last done em HB2.out HB1'.out.size hb2.size r1 r2
 have HC3 := Lib.hid hC3
 clear hb2 r1 r2 c0 c1 c2 c3 c4 hC3
 go_upto_region 12 with fail
 rw [← hg, ← hW3]
 clear hg hW3
 go_loopw [11] (fun s11 wr => ∃ k : Nat, k ≤ ps.length ∧ s11 = .int .i64 k ∧ (∀ (j : Nat) (o : T3), j < k → ps[j]? = some o → o.1 < p) ∧
  CO w (.slice pn ns.length cn) (.slice pp ps.length cp) last done em g W1'.heap.size (.slice pn' ns.length cn') (.slice pp' ps.length cp') ns ps last done em wr) (fun s11 _ => ps.length - (intOf s11).toNat)
 case atStart => exact ⟨0, by omega, rfl, fun j o hj => by omega, HC3.out⟩
 case round =>
  obtain ⟨k, hk, rfl, hlow, hco⟩ := hrel
  have HLOW := Lib.hid hlow; clear hlow
  have HC := Lib.hid hco; clear hco
  obtain ⟨y0, y1, y2, y3, y4, _⟩ := HC.out.facts
  by_cases hlt : k < ps.length
  ·have tk : decide ((k : Int) < (ps.length : Int)) = true := decide_eq_true (by omega)
   have tk' : (k : Int) < (ps.length : Int) := by omega
   obtain ⟨gp, cpp, e, _, _, _, hcp⟩ := own_some rfl HC.out.r2 (by omega)
   injection e with e _ e3
   subst e
   subst e3
   obtain ⟨o, ho⟩ : ∃ o, ps[k]? = some o := ⟨ps[k], by simp [hlt]⟩
   obtain ⟨x0, _, _⟩ := hcp k _ ho
   obtain ⟨op, ob, oj⟩ := o
   simp only at x0
   clear hcp
   have HOK := Lib.hid ho; clear ho
   by_cases hop : op < p
   ·have tO : decide (op < p) = true := decide_eq_true hop
    go_wp2_with fail
    have ew : wrap64 ((k : Int) + 1) = ((k + 1 : Nat) : Int) := by have := HPSM.out; unfold wrap64; omega
    rw [ew]
    go_roundw
    case rel =>
     refine ⟨k + 1, by omega, rfl, fun j o hj ho => ?_, HC.out⟩
     by_cases hjk : j = k
     ·subst hjk
      have := HOK.out
      rw [ho] at this
      injection this with this
      rw [this]
      exact hop
     ·exact HLOW.out j o (by omega) ho
    case measure => simp [intOf]; omega
   ·have tO : decide (op < p) = false := decide_eq_false hop
    have HPOS : Hid (posG ps p = k) := posG_of (by omega) HLOW.out (fun o ho => by
     have := HOK.out
     rw [ho] at this
     injection this with this
     rw [this]
     show p ≤ op
     omega)
    go_upto_region 14 with fail
    clear y0 y1 y2 y3 y4
    have HINK : Hid (InsC k ps (p, last, (ns.length : Int))) := by
     show InsC _ _ _
     have := HINS.out
     rw [HPOS.out] at this
     exact this
    obtain ⟨y0, y1, y2, y3, y4, _⟩ := HC.out.facts
    obtain ⟨c0, c1, c2, c3, c4⟩ := HC.out.cb.facts
    obtain ⟨X, hX⟩ : ∃ X, X = wr.heap.size := ⟨_, rfl⟩
    obtain ⟨W5, hW5⟩ : ∃ W5, W5 = wr.alloc (Obj.cells #[.int .i64 p, .int .i64 last, .int .i64 (ns.length : Int)] 102) := ⟨_, rfl⟩
    have hb5 : Below wr.heap.size wr W5 := by rw [hW5]; exact (Below.refl _ _).alloc (Nat.le_refl _) _
    have hx5 : W5.heap[X]? = some (.cells (trip (p, last, (ns.length : Int))).toArray 102 (0, 0)) := by rw [hW5, hX]; exact (MapKept.heap_alloc _ _).1
    have HX5 := Lib.hid hx5
    have HC5 := Lib.hid (HC.out.step hb5)
    have HFX : Hid ((Value.slice (some ⟨gp, 0, none⟩) ps.length cp').ownBlock ≠ some X) := by rw [hX]; exact own_fresh HC.out.r2
    have HB5S : Hid (W1'.heap.size ≤ W5.heap.size) := Nat.le_trans HC.out.lowg (Nat.le_of_lt (Nat.lt_of_lt_of_le (blk_lt HC.out.box) hb5.size))
    clear hb5 hx5
    go_wp2_with fail
    rw [← hW5, ← hX]
    refine (HINK.out W5 _ X _ HC5.out.r2 HB5S.out HX5.out HFX.out).mono ?_
    rintro e W6 ⟨ps6, rfl, ho6, hg6⟩
    clear hW5 hX
    obtain ⟨pp6, cp6, e6⟩ := own_slice ho6
    subst e6
    obtain ⟨l6, hl6⟩ : ∃ l6, l6 = ps.take k ++ (p, last, (ns.length : Int)) :: ps.drop k := ⟨_, rfl⟩
    rw [← hl6] at ho6
    have hlen6 : ps.length + 1 = l6.length := by rw [hl6, List.length_append, List.length_take, List.length_cons, List.length_drop]; omega
    rw [hlen6] at ho6 ⊢
    obtain ⟨k1, k2, k3⟩ := HC5.out.re2 hg6 ho6
    have HC7 := Lib.hid k3
    have HL6 := Lib.hid hl6
    obtain ⟨L6, hL6⟩ : ∃ L6, L6 = l6.length := ⟨_, rfl⟩
    rw [← hL6] at HC7 ⊢
    clear y0 y1 y2 y3 y4 c0 c1 c2 c3 c4 k3 hlen6 hl6 hg6 ho6 hL6
    have g3 : W6.cell? ⟨g, 3, none⟩ = some (.slice (some ⟨gp, 0, none⟩) ps.length cp') := cB k1 3
    have f3 : W6.frozen? ⟨g, 3, none⟩ = false := frozen_blk k1 3
    clear k1 k2
    go_upto_region 15 with fail
    clear g3 f3
    obtain ⟨W7, hW7⟩ : ∃ W7, W7 = W6.setCell ⟨g, 3, none⟩ (.slice pp6 L6 cp6) := ⟨_, rfl⟩
    rw [← hW7] at HC7 ⊢
    clear hW7
    obtain ⟨y0, y1, y2, y3, y4, _⟩ := HC7.out.facts
    obtain ⟨Y, hY⟩ : ∃ Y, Y = W7.heap.size := ⟨_, rfl⟩
    obtain ⟨W8, hW8⟩ : ∃ W8, W8 = W7.alloc (Obj.cells #[.int .i64 x, .int .i64 p, .int .i64 (-1)] 99) := ⟨_, rfl⟩
    have hb8 : Below W7.heap.size W7 W8 := by rw [hW8]; exact (Below.refl _ _).alloc (Nat.le_refl _) _
    have hx8 : W8.heap[Y]? = some (.cells (trip (x, p, -1)).toArray 99 (0, 0)) := by rw [hW8, hY]; exact (MapKept.heap_alloc _ _).1
    have HSRC : Hid (∀ j u, (cellsT [(x, p, (-1 : Int))])[j]? = some u → W8.cell? ((⟨Y, 0, none⟩ : Addr).add j) = some u) := by
     intro j u hj
     have e : cellsT [(x, p, (-1 : Int))] = trip (x, p, -1) := by simp [cellsT]
     rw [e] at hj
     rw [Addr.add_lit, Nat.zero_add]
     refine (cB hx8 j).trans ?_
     rw [List.getElem?_toArray]
     exact hj
    have HC8 := Lib.hid (HC7.out.step hb8)
    have HB8S : Hid (W1'.heap.size ≤ W8.heap.size) := Nat.le_trans HC8.out.lowg (Nat.le_of_lt (blk_lt HC8.out.box))
    have HNLS : Hid (ns.length ≤ 2000) := by show _ ≤ _; have := HMM.out; omega
    clear hb8 hx8
    go_wp2_with (at_builtin; rw [← hW8, ← hY]; refine wpList_append_own _ rfl _ _ 25 rfl W1'.heap.size 99 i0 (.agg #[.int .i64 0, .int .i64 0, .int .i64 0]) 3 24 Try.underlying25 HI.out HZ0.out HZ1.out HZ2.out rfl (by decide) _ _ _ rfl HC8.out.r1 ⟨Y, 0, none⟩ 1 1 (cellsT [(x, p, (-1 : Int))]) rfl rfl ?c1 ?c2 ?c3 ?c4 ?c5 ?_)
    case c1 => exact HSRC.out
    case c2 => exact cellsT_one _
    case c3 => have := HNLS.out; unfold maxLen; omega
    case c4 => have := HNLS.out; omega
    case c5 => exact HB8S.out
    intro v9 W9 hown9 hgr9 _
    rw [← hW8] at hgr9
    obtain ⟨pn9, cn9, e9⟩ := own_slice hown9
    subst e9
    obtain ⟨l9, hl9⟩ : ∃ l9, l9 = ns ++ [(x, p, (-1 : Int))] := ⟨_, rfl⟩
    have hlen9 : ns.length + 1 = l9.length := by rw [hl9, List.length_append]; rfl
    rw [← cellsT_append, ← hl9, hlen9] at hown9
    rw [hlen9]
    obtain ⟨k1, k2, k3⟩ := HC8.out.re1 hgr9 hown9
    have HC9 := Lib.hid k3
    have HL9 := Lib.hid hl9
    obtain ⟨L9, hL9⟩ : ∃ L9, L9 = l9.length := ⟨_, rfl⟩
    rw [← hL9] at HC9 ⊢
    clear y0 y1 y2 y3 y4 k3 hlen9 hl9 hgr9 hown9 hL9 hW8 hY
    have g0 : W9.cell? ⟨g, 0, none⟩ = some (.slice pn' ns.length cn') := cB k1 0
    have f0 : W9.frozen? ⟨g, 0, none⟩ = false := frozen_blk k1 0
    clear k1 k2
    go_upto_region 16 with fail
    clear g0 f0
    obtain ⟨W10, hW10⟩ : ∃ W10, W10 = W9.setCell ⟨g, 0, none⟩ (.slice pn9 L9 cn9) := ⟨_, rfl⟩
    rw [← hW10] at HC9 ⊢
    clear hW10
    obtain ⟨y0, y1, y2, y3, y4, _⟩ := HC9.out.facts
    obtain ⟨c0, c1, c2, c3, c4⟩ := HC9.out.cb.facts
    have f1 := (HC9.out.frozen 1).1
    have f4 := (HC9.out.frozen 4).1
    go_upto_region 17 with fail
    have HC11 := Lib.hid ((HC9.out.set1 (ns.length : Int)).set4 false)
    obtain ⟨W11, hW11⟩ : ∃ W11, W11 = (W10.setCell ⟨g, 1, none⟩ (.int .i64 (ns.length : Int))).setCell ⟨g, 4, none⟩ (.bool false) := ⟨_, rfl⟩
    rw [← hW11] at HC11 ⊢
    clear hW11 y0 y1 y2 y3 y4 c0 c1 c2 c3 c4 f1 f4
    obtain ⟨y0, y1, y2, y3, y4, z0, z1, z2, z3, z4⟩ := HC11.out.facts
    have c4 : W11.cell? ⟨w.heap.size, 4, none⟩ = some (.bool em) := HC11.out.cb.facts.2.2.2.2
    have f0 := (HC11.out.frozen 0).2
    have f1 := (HC11.out.frozen 1).2
    have f2 := (HC11.out.frozen 2).2
    have f3 := (HC11.out.frozen 3).2
    have f4 := (HC11.out.frozen 4).2
    have hne : ¬ g = w.heap.size + 1 := by have := HC11.out.low; have := HC11.out.lowg; omega
    have hne' : ¬ w.heap.size + 1 = g := fun e => hne e.symm
    go_region
    obtain ⟨W12, hW12⟩ : ∃ W12, W12 = (((((W11.setCell ⟨w.heap.size + 1, 0, none⟩ (.slice pn9 L9 cn9)).setCell ⟨w.heap.size + 1, 1, none⟩ (.int .i64 (ns.length : Int))).setCell ⟨w.heap.size + 1, 2, none⟩ (.int .i64 done)).setCell ⟨w.heap.size + 1, 3, none⟩ (.slice pp6 L6 cp6)).setCell ⟨w.heap.size + 1, 4, none⟩ (.bool false)) := ⟨_, rfl⟩
    rw [← hW12]
    obtain ⟨k1, k2, k3, k4⟩ := HC11.out.out hW12
    have K1 := Lib.hid k1
    have K3 := Lib.hid k3
    have K4 := Lib.hid k4
    clear y0 y1 y2 y3 y4 z0 z1 z2 z3 z4 f0 f1 f2 f3 f4 k1 k3 k4 hW12 c4 hne hne'
    have c0 : W12.cell? ⟨w.heap.size + 1, 0, none⟩ = some (.slice pn9 L9 cn9) := cB k2 0
    have c1 : W12.cell? ⟨w.heap.size + 1, 1, none⟩ = some (.int .i64 (ns.length : Int)) := cB k2 1
    have c2 : W12.cell? ⟨w.heap.size + 1, 2, none⟩ = some (.int .i64 done) := cB k2 2
    have c3 : W12.cell? ⟨w.heap.size + 1, 3, none⟩ = some (.slice pp6 L6 cp6) := cB k2 3
    have c4 : W12.cell? ⟨w.heap.size + 1, 4, none⟩ = some (.bool false) := cB k2 4
    go_wp2_with fail
    refine bodyPost_ret (v := .tuple #[.agg #[.slice pn9 L9 cn9, .int .i64 (ns.length : Int), .int .i64 done, .slice pp6 L6 cp6, .bool false], .bool em, .int .i64 0]) (by simp [results, Try.results10, go_sem, c0, c1, c2, c3, c4]) rfl ⟨_, rfl, ⟨_, _, rfl, ?_, ?_⟩, ?_⟩
    ·rw [← HL9.out]
     exact K3.out
    ·rw [HPOS.out, ← HL6.out]
     exact K4.out
    ·exact K1.out.drew
  ·have tk : decide ((k : Int) < (ps.length : Int)) = false := decide_eq_false (by omega)
   have HPOS : Hid (posG ps p = k) := posG_of (by omega) HLOW.out (fun o ho => by
    have := (List.getElem?_eq_some_iff.1 ho).1
    omega)
   go_upto_region 14 with fail
   clear y0 y1 y2 y3 y4
   have HINK : Hid (InsC k ps (p, last, (ns.length : Int))) := by
    show InsC _ _ _
    have := HINS.out
    rw [HPOS.out] at this
    exact this
   obtain ⟨y0, y1, y2, y3, y4, _⟩ := HC.out.facts
   obtain ⟨c0, c1, c2, c3, c4⟩ := HC.out.cb.facts
   obtain ⟨X, hX⟩ : ∃ X, X = wr.heap.size := ⟨_, rfl⟩
   obtain ⟨W5, hW5⟩ : ∃ W5, W5 = wr.alloc (Obj.cells #[.int .i64 p, .int .i64 last, .int .i64 (ns.length : Int)] 102) := ⟨_, rfl⟩
   have hb5 : Below wr.heap.size wr W5 := by rw [hW5]; exact (Below.refl _ _).alloc (Nat.le_refl _) _
   have hx5 : W5.heap[X]? = some (.cells (trip (p, last, (ns.length : Int))).toArray 102 (0, 0)) := by rw [hW5, hX]; exact (MapKept.heap_alloc _ _).1
   have HX5 := Lib.hid hx5
   have HC5 := Lib.hid (HC.out.step hb5)
   have HFX : Hid ((Value.slice pp' ps.length cp').ownBlock ≠ some X) := by rw [hX]; exact own_fresh HC.out.r2
   have HB5S : Hid (W1'.heap.size ≤ W5.heap.size) := Nat.le_trans HC.out.lowg (Nat.le_of_lt (Nat.lt_of_lt_of_le (blk_lt HC.out.box) hb5.size))
   clear hb5 hx5
   go_wp2_with fail
   rw [← hW5, ← hX]
   refine (HINK.out W5 _ X _ HC5.out.r2 HB5S.out HX5.out HFX.out).mono ?_
   rintro e W6 ⟨ps6, rfl, ho6, hg6⟩
   clear hW5 hX
   obtain ⟨pp6, cp6, e6⟩ := own_slice ho6
   subst e6
   obtain ⟨l6, hl6⟩ : ∃ l6, l6 = ps.take k ++ (p, last, (ns.length : Int)) :: ps.drop k := ⟨_, rfl⟩
   rw [← hl6] at ho6
   have hlen6 : ps.length + 1 = l6.length := by rw [hl6, List.length_append, List.length_take, List.length_cons, List.length_drop]; omega
   rw [hlen6] at ho6 ⊢
   obtain ⟨k1, k2, k3⟩ := HC5.out.re2 hg6 ho6
   have HC7 := Lib.hid k3
   have HL6 := Lib.hid hl6
   obtain ⟨L6, hL6⟩ : ∃ L6, L6 = l6.length := ⟨_, rfl⟩
   rw [← hL6] at HC7 ⊢
   clear y0 y1 y2 y3 y4 c0 c1 c2 c3 c4 k3 hlen6 hl6 hg6 ho6 hL6
   have g3 : W6.cell? ⟨g, 3, none⟩ = some (.slice pp' ps.length cp') := cB k1 3
   have f3 : W6.frozen? ⟨g, 3, none⟩ = false := frozen_blk k1 3
   clear k1 k2
   go_upto_region 15 with fail
   clear g3 f3
   obtain ⟨W7, hW7⟩ : ∃ W7, W7 = W6.setCell ⟨g, 3, none⟩ (.slice pp6 L6 cp6) := ⟨_, rfl⟩
   rw [← hW7] at HC7 ⊢
   clear hW7
   obtain ⟨y0, y1, y2, y3, y4, _⟩ := HC7.out.facts
   obtain ⟨Y, hY⟩ : ∃ Y, Y = W7.heap.size := ⟨_, rfl⟩
   obtain ⟨W8, hW8⟩ : ∃ W8, W8 = W7.alloc (Obj.cells #[.int .i64 x, .int .i64 p, .int .i64 (-1)] 99) := ⟨_, rfl⟩
   have hb8 : Below W7.heap.size W7 W8 := by rw [hW8]; exact (Below.refl _ _).alloc (Nat.le_refl _) _
   have hx8 : W8.heap[Y]? = some (.cells (trip (x, p, -1)).toArray 99 (0, 0)) := by rw [hW8, hY]; exact (MapKept.heap_alloc _ _).1
   have HSRC : Hid (∀ j u, (cellsT [(x, p, (-1 : Int))])[j]? = some u → W8.cell? ((⟨Y, 0, none⟩ : Addr).add j) = some u) := by
    intro j u hj
    have e : cellsT [(x, p, (-1 : Int))] = trip (x, p, -1) := by simp [cellsT]
    rw [e] at hj
    rw [Addr.add_lit, Nat.zero_add]
    refine (cB hx8 j).trans ?_
    rw [List.getElem?_toArray]
    exact hj
   have HC8 := Lib.hid (HC7.out.step hb8)
   have HB8S : Hid (W1'.heap.size ≤ W8.heap.size) := Nat.le_trans HC8.out.lowg (Nat.le_of_lt (blk_lt HC8.out.box))
   have HNLS : Hid (ns.length ≤ 2000) := by show _ ≤ _; have := HMM.out; omega
   clear hb8 hx8
   go_wp2_with (at_builtin; rw [← hW8, ← hY]; refine wpList_append_own _ rfl _ _ 25 rfl W1'.heap.size 99 i0 (.agg #[.int .i64 0, .int .i64 0, .int .i64 0]) 3 24 Try.underlying25 HI.out HZ0.out HZ1.out HZ2.out rfl (by decide) _ _ _ rfl HC8.out.r1 ⟨Y, 0, none⟩ 1 1 (cellsT [(x, p, (-1 : Int))]) rfl rfl ?c1 ?c2 ?c3 ?c4 ?c5 ?_)
   case c1 => exact HSRC.out
   case c2 => exact cellsT_one _
   case c3 => have := HNLS.out; unfold maxLen; omega
   case c4 => have := HNLS.out; omega
   case c5 => exact HB8S.out
   intro v9 W9 hown9 hgr9 _
   rw [← hW8] at hgr9
   obtain ⟨pn9, cn9, e9⟩ := own_slice hown9
   subst e9
   obtain ⟨l9, hl9⟩ : ∃ l9, l9 = ns ++ [(x, p, (-1 : Int))] := ⟨_, rfl⟩
   have hlen9 : ns.length + 1 = l9.length := by rw [hl9, List.length_append]; rfl
   rw [← cellsT_append, ← hl9, hlen9] at hown9
   rw [hlen9]
   obtain ⟨k1, k2, k3⟩ := HC8.out.re1 hgr9 hown9
   have HC9 := Lib.hid k3
   have HL9 := Lib.hid hl9
   obtain ⟨L9, hL9⟩ : ∃ L9, L9 = l9.length := ⟨_, rfl⟩
   rw [← hL9] at HC9 ⊢
   clear y0 y1 y2 y3 y4 k3 hlen9 hl9 hgr9 hown9 hL9 hW8 hY
   have g0 : W9.cell? ⟨g, 0, none⟩ = some (.slice pn' ns.length cn') := cB k1 0
   have f0 : W9.frozen? ⟨g, 0, none⟩ = false := frozen_blk k1 0
   clear k1 k2
   go_upto_region 16 with fail
   clear g0 f0
   obtain ⟨W10, hW10⟩ : ∃ W10, W10 = W9.setCell ⟨g, 0, none⟩ (.slice pn9 L9 cn9) := ⟨_, rfl⟩
   rw [← hW10] at HC9 ⊢
   clear hW10
   obtain ⟨y0, y1, y2, y3, y4, _⟩ := HC9.out.facts
   obtain ⟨c0, c1, c2, c3, c4⟩ := HC9.out.cb.facts
   have f1 := (HC9.out.frozen 1).1
   have f4 := (HC9.out.frozen 4).1
   go_upto_region 17 with fail
   have HC11 := Lib.hid ((HC9.out.set1 (ns.length : Int)).set4 false)
   obtain ⟨W11, hW11⟩ : ∃ W11, W11 = (W10.setCell ⟨g, 1, none⟩ (.int .i64 (ns.length : Int))).setCell ⟨g, 4, none⟩ (.bool false) := ⟨_, rfl⟩
   rw [← hW11] at HC11 ⊢
   clear hW11 y0 y1 y2 y3 y4 c0 c1 c2 c3 c4 f1 f4
   obtain ⟨y0, y1, y2, y3, y4, z0, z1, z2, z3, z4⟩ := HC11.out.facts
   have c4 : W11.cell? ⟨w.heap.size, 4, none⟩ = some (.bool em) := HC11.out.cb.facts.2.2.2.2
   have f0 := (HC11.out.frozen 0).2
   have f1 := (HC11.out.frozen 1).2
   have f2 := (HC11.out.frozen 2).2
   have f3 := (HC11.out.frozen 3).2
   have f4 := (HC11.out.frozen 4).2
   have hne : ¬ g = w.heap.size + 1 := by have := HC11.out.low; have := HC11.out.lowg; omega
   have hne' : ¬ w.heap.size + 1 = g := fun e => hne e.symm
   go_region
   obtain ⟨W12, hW12⟩ : ∃ W12, W12 = (((((W11.setCell ⟨w.heap.size + 1, 0, none⟩ (.slice pn9 L9 cn9)).setCell ⟨w.heap.size + 1, 1, none⟩ (.int .i64 (ns.length : Int))).setCell ⟨w.heap.size + 1, 2, none⟩ (.int .i64 done)).setCell ⟨w.heap.size + 1, 3, none⟩ (.slice pp6 L6 cp6)).setCell ⟨w.heap.size + 1, 4, none⟩ (.bool false)) := ⟨_, rfl⟩
   rw [← hW12]
   obtain ⟨k1, k2, k3, k4⟩ := HC11.out.out hW12
   have K1 := Lib.hid k1
   have K3 := Lib.hid k3
   have K4 := Lib.hid k4
   clear y0 y1 y2 y3 y4 z0 z1 z2 z3 z4 f0 f1 f2 f3 f4 k1 k3 k4 hW12 c4 hne hne'
   have c0 : W12.cell? ⟨w.heap.size + 1, 0, none⟩ = some (.slice pn9 L9 cn9) := cB k2 0
   have c1 : W12.cell? ⟨w.heap.size + 1, 1, none⟩ = some (.int .i64 (ns.length : Int)) := cB k2 1
   have c2 : W12.cell? ⟨w.heap.size + 1, 2, none⟩ = some (.int .i64 done) := cB k2 2
   have c3 : W12.cell? ⟨w.heap.size + 1, 3, none⟩ = some (.slice pp6 L6 cp6) := cB k2 3
   have c4 : W12.cell? ⟨w.heap.size + 1, 4, none⟩ = some (.bool false) := cB k2 4
   go_wp2_with fail
   refine bodyPost_ret (v := .tuple #[.agg #[.slice pn9 L9 cn9, .int .i64 (ns.length : Int), .int .i64 done, .slice pp6 L6 cp6, .bool false], .bool em, .int .i64 0]) (by simp [results, Try.results10, go_sem, c0, c1, c2, c3, c4]) rfl ⟨_, rfl, ⟨_, _, rfl, ?_, ?_⟩, ?_⟩
   ·rw [← HL9.out]
    exact K3.out
   ·rw [HPOS.out, ← HL6.out]
    exact K4.out
   ·exact K1.out.drew
end Go.Proofs.Ytgbafpjeapkklaa.Mb
namespace Go.Proofs.Ytgbafpjeapkklaa.Mb
open Go.RowKit
set_option linter.unusedVariables false
set_option linter.unusedSimpArgs false
theorem nat_of {N : Nat} {i : Int} (h : InR N i) : ∃ d : Nat, i = (d : Int) ∧ d < N := ⟨i.toNat, by have := h.1; omega, by have := h.1; have := h.2; omega⟩
theorem pop_gn {w : World} {vn vp : Value} {m d : Int} {b : Bool} {g B : Nat} {vn' vp' : Value} {ns ps : List T3} {m' d' : Int} {b' : Bool} {W : World} (h : CO w vn vp m d b g B vn' vp' ns ps m' d' b' W) (hd : InR ns.length d') (hc : nxtG ns d' = -1) :
  Calls Try.prog 43 #[.pointer (some ⟨g, 0, none⟩)] W fun e w' => e = .returned (.tuple #[.int .i64 0, .bool false]) ∧ CO w vn vp m d b g B vn' vp' ns ps m' d' b' w' ∧ Below W.heap.size W w' := by
 obtain ⟨D, rfl, hD⟩ := nat_of hd
 obtain ⟨gn, cap, rfl, h1, h2, _, h3⟩ := own_some rfl h.r1 (by omega)
 obtain ⟨_, _, z⟩ := h3 D _ (List.getElem?_eq_getElem hD)
 rw [nxtG_of (ns := ns) (i := (D : Int)) (x := ns[D]) (by rw [Int.toNat_natCast]; exact List.getElem?_eq_getElem hD)] at hc
 rw [hc] at z
 refine (pop_no (off := 0) W h.box hD (by rw [Nat.zero_add]; exact z)).mono ?_
 rintro e w' ⟨h4, h5⟩
 exact ⟨h4, CO.step h h5, h5⟩
theorem pop_gy {w : World} {vn vp : Value} {m d : Int} {b : Bool} {g B : Nat} {vn' vp' : Value} {ns ps : List T3} {m' d' : Int} {b' : Bool} {W : World} (h : CO w vn vp m d b g B vn' vp' ns ps m' d' b' W) (hd : InR ns.length d') (hc : InR ns.length (nxtG ns d')) :
  Calls Try.prog 43 #[.pointer (some ⟨g, 0, none⟩)] W fun e w' => e = .returned (.tuple #[.int .i64 (ngt ns (nxtG ns d').toNat).1, .bool true]) ∧ CO w vn vp m d b g B vn' vp' ns ps m' (nxtG ns d') b' w' ∧ W.heap.size ≤ w'.heap.size ∧ ∀ k, k < W.heap.size → k ≠ g → w'.heap[k]? = W.heap[k]? := by
 obtain ⟨D, rfl, hD⟩ := nat_of hd
 obtain ⟨K, hK, hKl⟩ := nat_of hc
 have hx := nxtG_of (ns := ns) (i := (D : Int)) (x := ns[D]) (by rw [Int.toNat_natCast]; exact List.getElem?_eq_getElem hD)
 obtain ⟨gn, cap, rfl, h1, h2, ⟨cur, hcur⟩, h3⟩ := own_some rfl h.r1 (by omega)
 obtain ⟨_, _, z⟩ := h3 D _ (List.getElem?_eq_getElem hD)
 obtain ⟨y, _, _⟩ := h3 K _ (List.getElem?_eq_getElem hKl)
 rw [← hx, hK] at z
 have hne : gn ≠ g := by
  rintro rfl
  rw [h.box] at hcur; injection hcur with hcur; injection hcur with _ e _; cases e
 rw [hK]
 rw [show (ngt ns (K : Int).toNat).1 = ns[K].1 by rw [Int.toNat_natCast, ngt_at (List.getElem?_eq_getElem hKl)]]
 refine (pop_yes (off := 0) (k := K) (v := ns[K].1) W h.box hne hD hKl (by rw [Nat.zero_add]; exact z) (by rw [Nat.zero_add]; exact y)).mono ?_
 rintro e w' ⟨h4, W1, h5, rfl⟩
 refine ⟨h4, ?_, ?_, ?_⟩
 ·exact (CO.step h h5).set2 (K : Int)
 ·simp [World.setCell]; exact h5.size
 ·intro k hk hkg
  rw [Below.heap_setCell _ _ _ _ hkg]
  exact h5.block k hk
end Go.Proofs.Ytgbafpjeapkklaa.Mb
namespace Go.Proofs.Ytgbafpjeapkklaa.Mb
open Go.RowKit
set_option linter.unusedVariables false
set_option linter.unusedSimpArgs false
structure WG (w : World) (vn : Value) (m d : Int) (vp : Value) (em : Bool) (vs : List Int) (P : Nat) (k : Int) (u : Value) (n : Nat) (W : World) : Prop where
 bx : Gx w vn m d vp em w.heap.size W
 cell : W.heap[P]? = some (.cells #[.int .i64 k] 3 (0, 0))
 low : w.heap.size ≤ P
 row : W.ownsRow w.heap.size 3 1 u n (ints (vs.take n))
 ap : u.ownBlock ≠ some P
section
variable {w : World} {vn vp : Value} {m d : Int} {em : Bool} {vs : List Int} {P : Nat} {k : Int} {u : Value} {n : Nat} {W W' : World}
theorem WG.step (h : WG w vn m d vp em vs P k u n W) (hb : Below W.heap.size W W') : WG w vn m d vp em vs P k u n W' :=
 ⟨h.bx.step hb, (hb.block _ (blk_lt h.cell)).trans h.cell, h.low, own1_below h.row hb, h.ap⟩
theorem WG.ne (h : WG w vn m d vp em vs P k u n W) : w.heap.size ≠ P := by
 intro e
 have := h.cell
 rw [← e, h.bx.box] at this
 injection this with this
 injection this with _ e' _
 cases e'
theorem WG.set (h : WG w vn m d vp em vs P k u n W) {k' : Int} (hW : W' = W.setCell ⟨P, 0, none⟩ (.int .i64 k')) : WG w vn m d vp em vs P k' u n W' := by
 have hne := h.ne
 subst hW
 refine ⟨⟨h.bx.below.setCell (p := ⟨P, 0, none⟩) h.low _, blk_set_ne h.bx.box ⟨P, 0, none⟩ hne _⟩, blk_set h.cell 0 _, h.low, ?_, h.ap⟩
 refine ⟨h.row.1, ?_⟩
 rcases h.row.2 with h0 | ⟨g', cap, cur, h1, h2, h3, h4⟩
 ·exact .inl h0
 ·refine .inr ⟨g', cap, cur, h1, h2, blk_set_ne h3 ⟨P, 0, none⟩ ?_ _, h4⟩
  rintro rfl
  exact h.ap (by rw [h1]; rfl)
theorem WG.app (h : WG w vn m d vp em vs P k u n W) {u' : Value} (hg : W.grownBy W' u.ownBlock) (ho : W'.ownsRow w.heap.size 3 1 u' (n + 1) (ints (vs.take (n + 1)))) (hb : u'.ownBlock = u.ownBlock ∨ u'.ownBlock = some W.heap.size) : WG w vn m d vp em vs P k u' (n + 1) W' := by
 refine ⟨⟨h.bx.below.grown hg h.bx.below.size (fun k hk => by have := h.row.lt k hk; omega), ?_⟩, (hg.block _ (blk_lt h.cell) (fun e => h.ap e.symm)).trans h.cell, h.low, ho, ?_⟩
 ·refine (hg.block _ (blk_lt h.bx.box) (fun e => ?_)).trans h.bx.box
  rcases h.row.2 with ⟨rfl, _⟩ | ⟨g', cap, cur, rfl, _, hgg, _⟩
  ·simp [Value.ownBlock] at e
  ·simp [Value.ownBlock] at e
   subst e
   have := h.bx.box
   rw [hgg] at this
   injection this with this
   injection this with _ e' _
   cases e'
 ·intro e
  rcases hb with e' | e'
  ·exact h.ap (e'.symm.trans e)
  ·rw [e'] at e
   injection e with e
   have := blk_lt h.cell
   omega
theorem WG.new (h : WG w vn m d vp em vs P k u n W) (hP : w.heap.size ≤ W.heap.size) : WG w vn m d vp em vs W.heap.size k u n (W.alloc (Obj.cells #[.int .i64 k] 3)) := by
 have ha : Below W.heap.size W (W.alloc (Obj.cells #[.int .i64 k] 3)) := (Below.refl _ _).alloc (Nat.le_refl _) _
 exact { h.step ha with cell := (MapKept.heap_alloc _ _).1, low := hP, ap := fun e => by have := h.row.lt _ e; omega }
theorem WG.facts (h : WG w vn m d vp em vs P k u n W) : W.cell? ⟨P, 0, none⟩ = some (.int .i64 k) ∧ W.frozen? ⟨P, 0, none⟩ = false := ⟨cB h.cell 0, frozen_blk h.cell 0⟩
end
structure Rest (ns ps : List T3) (last done : Int) (L : List Int) (vs : List Int) : Prop where
 first : L[0]? = some done
 fin : L[vs.length]? = some last
 few : vs.length ≤ 2000
 step : ∀ n E, n < vs.length → L[n]? = some E → E ≠ last ∧ ∃ Y, L[n + 1]? = some Y ∧ InR ns.length E ∧ InR ns.length Y ∧ vs[n]? = some (ngt ns Y.toNat).1 ∧
  (nxtG ns E = Y ∨ (nxtG ns E = -1 ∧ ∃ i : Nat, i < ps.length ∧ idx (fun x => x.2.1 == E) ps = (i : Int) ∧ (pgt ps i).2.2 = Y))
set_option maxRecDepth 100000 in
set_option maxHeartbeats 8000000 in
theorem waiting_g {ns ps : List T3} {last done : Int} {em : Bool} (hr : RightS ns last done ps em) {v : Value} {L vs : List Int} (hR : Rest ns ps last done L vs) (w : World) (hv : StG w v ns last done ps em) :
  Calls Try.prog 22 #[v] w fun e w' => ∃ u, e = .returned (.tuple #[u, .int .i64 0]) ∧ w'.ownsRow w.heap.size 3 1 u vs.length (ints vs) ∧ Below w.heap.size w w' := by
 obtain ⟨hf1, hf2⟩ := hr.few
 have hN1 := hr.1.n1
 obtain ⟨vn, vp, rfl, hn, hp⟩ := hv
 have HCK : Hid (∀ W, Below w.heap.size w W → Calls Try.prog 18 #[.agg #[vn, .int .i64 last, .int .i64 done, vp, .bool em]] W fun e w' => e = .returned (.int .i64 0) ∧ Below W.heap.size W w') := fun W h => check_g ns ps last done em 0 (fun _ => rfl) (fun h => absurd hr h) vn vp W (hn.below h).1 (hp.below h).1 (by omega) (by omega)
 have HIX : Hid (∀ W (k : Int) (P : Nat), Below w.heap.size w W → W.cell? ⟨P, 0, none⟩ = some (.int .i64 k) → Calls Try.prog 57 #[vp, .func (.func 58) #[] #[.pointer (some ⟨P, 0, none⟩)]] W fun e w' => e = .returned (.int .i64 (idx (fun x => x.2.1 == k) ps)) ∧ Below W.heap.size W w') :=
  fun W k P h h2 => index58_at (by omega) k P W (hp.below h).1 h2
 have HB0 : Hid (Gx w vn last done vp em w.heap.size (w.alloc (Obj.cells #[vn, .int .i64 last, .int .i64 done, vp, .bool em] 28))) := ⟨(Below.refl _ _).alloc (Nat.le_refl _) _, (MapKept.heap_alloc _ _).1⟩
 have HNP : Hid ((∃ g off c, vn = .slice (some ⟨g, off, none⟩) ns.length c ∧ g < w.heap.size ∧ ∀ k x, ns[k]? = some x → w.cell? ⟨g, off + k * 3, none⟩ = some (.int .i64 x.1) ∧ w.cell? ⟨g, off + k * 3 + 1, none⟩ = some (.int .i64 x.2.1) ∧ w.cell? ⟨g, off + k * 3 + 2, none⟩ = some (.int .i64 x.2.2)) ∧
   (∃ p c, vp = .slice p ps.length c ∧ (ps = [] ∨ ∃ g off, p = some ⟨g, off, none⟩ ∧ g < w.heap.size ∧ ∀ (i : Nat) (o : T3), ps[i]? = some o → w.cell? ⟨g, off + i * 3 + 2, none⟩ = some (.int .i64 o.2.2)))) := by
  constructor
  ·obtain ⟨⟨p, c, e, _, h1⟩, _⟩ := hn
   rcases h1 with h1 | ⟨g, off, rfl, h2, h3⟩
   ·rw [h1] at hN1; simp at hN1
   ·exact ⟨g, off, c, e, h2, h3⟩
  ·obtain ⟨⟨p, c, e, _, h1⟩, _⟩ := hp
   refine ⟨p, c, e, ?_⟩
   rcases h1 with h1 | ⟨g, off, rfl, h2, h3⟩
   ·exact .inl h1
   ·exact .inr ⟨g, off, rfl, h2, fun i o ho => (h3 i _ ho).2.2⟩
 obtain ⟨⟨gn, offn, cn, rfl, hgn, hcn⟩, ⟨pp, cp, rfl, hpp⟩⟩ := HNP.out
 have HCN := Lib.hid hcn
 have HPP := Lib.hid hpp
 have HL0 := Lib.hid hR.first
 have HLE := Lib.hid hR.fin
 have HVS := Lib.hid hR.few
 have HST := Lib.hid hR.step
 clear hcn hpp hn hp hr HNP hR hf1 hf2 hN1
 go_enter Try.func22, Try.ntmps22
 go_upto_region 1 with fail
 generalize (w.alloc (Obj.cells #[.slice (some ⟨gn, offn, none⟩) ns.length cn, .int .i64 last, .int .i64 done, .slice pp ps.length cp, .bool em] 28)) = W0 at *
 obtain ⟨c0, c1, c2, c3, c4⟩ := HB0.out.facts
 go_wp2_with fail
 refine (HCK.out _ HB0.out.below).mono ?_
 rintro e W1 ⟨rfl, hb1⟩
 have HB1 := Lib.hid (HB0.out.step hb1)
 clear hb1 c0 c1 c2 c3 c4
 obtain ⟨c0, c1, c2, c3, c4⟩ := HB1.out.facts
 go_upto_region 6 with fail
 clear c0 c1 c2 c3 c4
 obtain ⟨P0, hP0⟩ : ∃ P0, P0 = W1.heap.size := ⟨_, rfl⟩
 obtain ⟨W2, hW2⟩ : ∃ W2, W2 = W1.alloc (Obj.cells #[.int .i64 done] 3) := ⟨_, rfl⟩
 rw [← hW2, ← hP0]
 have HW2 : Hid (WG w (.slice (some ⟨gn, offn, none⟩) ns.length cn) last done (.slice pp ps.length cp) em vs P0 done (.slice none 0 0) 0 W2) := by
  have ha : Below W1.heap.size W1 W2 := by rw [hW2]; exact (Below.refl _ _).alloc (Nat.le_refl _) _
  exact ⟨HB1.out.step ha, by rw [hW2, hP0]; exact (MapKept.heap_alloc _ _).1, by rw [hP0]; exact HB1.out.below.size, World.ownsRow_nil _ _ _ _, by simp [Value.ownBlock]⟩
 clear hW2 hP0
 go_loopw [5, 6] (fun s5 s6 wr => ∃ (n P : Nat) (E : Int), n ≤ vs.length ∧ L[n]? = some E ∧ s6 = .pointer (some ⟨P, 0, none⟩) ∧ (∃ p c, s5 = .slice p n c) ∧ WG w (.slice (some ⟨gn, offn, none⟩) ns.length cn) last done (.slice pp ps.length cp) em vs P E s5 n wr) (fun s5 _ _ => vs.length - (lenOf s5))
 case atStart => exact ⟨0, P0, done, by omega, HL0.out, rfl, ⟨_, _, rfl⟩, HW2.out⟩
 case round =>
  obtain ⟨n, P, E, hn, hE, rfl, ⟨p5, c5, rfl⟩, hwm⟩ := hrel
  have HE := Lib.hid hE; clear hE
  have HWM := Lib.hid hwm; clear hwm
  obtain ⟨x0, xf⟩ := HWM.out.facts
  obtain ⟨c0, c1, c2, c3, c4⟩ := HWM.out.bx.facts
  by_cases hlt : n < vs.length
  ·obtain ⟨hne, Y1, hY1, hIn, hIn1, hval, hst⟩ := HST.out n E hlt HE.out
   have te : (E != last) = true := by simp [hne]
   obtain ⟨E0, hE0, hE0l⟩ := nat_of hIn
   subst hE0
   obtain ⟨E1, hE1, hE1l⟩ := nat_of hIn1
   subst hE1
   have hEm : (E0 : Int) < (ns.length : Int) := by omega
   have hE1m : (E1 : Int) < (ns.length : Int) := by omega
   have HYE := Lib.hid hY1
   obtain ⟨_, _, d2⟩ := HCN.out E0 _ (List.getElem?_eq_getElem hE0l)
   have hx2 := nxtG_of (ns := ns) (i := (E0 : Int)) (x := ns[E0]) (by rw [Int.toNat_natCast]; exact List.getElem?_eq_getElem hE0l)
   rw [← hx2] at d2
   clear hx2
   have d2' : wr.cell? ⟨gn, offn + E0 * 3 + 2, none⟩ = some (.int .i64 (nxtG ns (E0 : Int))) := (HWM.out.bx.below.cell (p := ⟨gn, offn + E0 * 3 + 2, none⟩) hgn).trans d2
   obtain ⟨e0, _, _⟩ := HCN.out E1 _ (List.getElem?_eq_getElem hE1l)
   obtain ⟨x, hx⟩ : ∃ x, x = (ns[E1]).1 := ⟨_, rfl⟩
   rw [← hx] at e0
   have HX0 := Lib.hid e0
   have HVAL : Hid (vs[n]? = some x) := by
    show vs[n]? = some x
    rw [hval, hx]
    simp [ngt, List.getD_eq_getElem?_getD, List.getElem?_eq_getElem hE1l]
   have HTK : Hid (ints (vs.take n ++ [x]) = ints (vs.take (n + 1))) := by
    show _ = _
    have := HVAL.out
    rw [List.take_add_one, this]
    rfl
   have hnS : n ≤ 2000 := by have := HVS.out; omega
   have HNS := Lib.hid hnS
   clear d2 e0 hx hval hne hY1 hIn hIn1 hnS
   have tn : decide ((E1 : Int) < 0) = false := decide_eq_false (by omega)
   rcases hst with hst | ⟨hst, i, hil, hidx, hp2⟩
   ·rw [hst] at d2'
    clear hst
    go_upto_region 11 with fail
    clear d2' x0 xf c0 c1 c2 c3 c4
    have HX := HWM
    generalize hwx : wr = WX at *
    clear hwx
    obtain ⟨x0, xf⟩ := HX.out.facts
    go_upto_region 12 with fail
    obtain ⟨W7, hW7⟩ : ∃ W7, W7 = WX.setCell ⟨P, 0, none⟩ (.int .i64 (E1 : Int)) := ⟨_, rfl⟩
    rw [← hW7]
    have HW7 := Lib.hid (HX.out.set hW7)
    clear x0 xf hW7
    obtain ⟨x0, xf⟩ := HW7.out.facts
    obtain ⟨c0, c1, c2, c3, c4⟩ := HW7.out.bx.facts
    have v0 : W7.cell? ⟨gn, offn + E1 * 3, none⟩ = some (.int .i64 x) := (HW7.out.bx.below.cell (p := ⟨gn, offn + E1 * 3, none⟩) hgn).trans HX0.out
    obtain ⟨Y, hY⟩ : ∃ Y, Y = W7.heap.size := ⟨_, rfl⟩
    obtain ⟨W8, hW8⟩ : ∃ W8, W8 = W7.alloc (Obj.cells #[.int .i64 x] 3) := ⟨_, rfl⟩
    have HW8 : Hid (WG w (.slice (some ⟨gn, offn, none⟩) ns.length cn) last done (.slice pp ps.length cp) em vs P (E1 : Int) (.slice p5 n c5) n W8) := HW7.out.step (by rw [hW8]; exact (Below.refl _ _).alloc (Nat.le_refl _) _)
    have HY8 : Hid (W8.heap[Y]? = some (.cells #[.int .i64 x] 3 (0, 0))) := by rw [hW8, hY]; exact (MapKept.heap_alloc _ _).1
    obtain ⟨u9, W9, hr9, ho9, hg9, hb9, p9, c9, e9⟩ := run_append_one W8 30 HW8.out.row HY8.out (by have := HNS.out; omega) HW8.out.bx.below.size
    subst e9
    rw [hW8, hY] at hr9
    have HW9 : Hid (WG w (.slice (some ⟨gn, offn, none⟩) ns.length cn) last done (.slice pp ps.length cp) em vs P (E1 : Int) (.slice p9 (n + 1) c9) (n + 1) W9) := HW8.out.app hg9 (by rw [← HTK.out]; exact ho9) hb9
    clear hW8 hY ho9 hg9 hb9
    have HR9 := Lib.hid hr9
    clear hr9
    go_upto_region 13 with (at_builtin; refine Lib.wpList_append_run _ rfl _ _ _ _ rfl _ _ rfl rfl _ _ HR9.out ?_)
    clear x0 xf c0 c1 c2 c3 c4 v0
    obtain ⟨x0, xf⟩ := HW9.out.facts
    go_wp2_with fail
    go_roundw
    case rel =>
     exact ⟨n + 1, _, _, by omega, HYE.out, rfl, ⟨_, _, rfl⟩, HW9.out.new HW9.out.bx.below.size⟩
    case measure => simp [lenOf]; omega
   ·rw [hst] at d2'
    have HIDX : Hid (idx (fun x => x.2.1 == (E0 : Int)) ps = i) := hidx
    have hil' : (i : Int) < (ps.length : Int) := by omega
    obtain ⟨gp, offp, rfl, hgp, hcp⟩ : ∃ g off, pp = some ⟨g, off, none⟩ ∧ g < w.heap.size ∧ ∀ (i : Nat) (o : T3), ps[i]? = some o → w.cell? ⟨g, off + i * 3 + 2, none⟩ = some (.int .i64 o.2.2) := by
     rcases HPP.out with h | h
     ·rw [h] at hil; simp at hil
     ·exact h
    have hp2' := hcp i _ (List.getElem?_eq_getElem hil)
    rw [show (ps[i]).2.2 = (E1 : Int) by rw [← hp2]; simp [pgt, List.getD_eq_getElem?_getD, List.getElem?_eq_getElem hil]] at hp2'
    have HP2 := Lib.hid hp2'
    have HX00 := Lib.hid x0
    clear hst hidx hcp hp2 hp2'
    go_wp2_with fail
    refine (HIX.out _ (E0 : Int) P HWM.out.bx.below HX00.out).mono ?_
    rw [HIDX.out]
    rintro e WX ⟨rfl, hbx⟩
    have HX := Lib.hid (HWM.out.step hbx)
    clear hbx d2' x0 xf c0 c1 c2 c3 c4
    obtain ⟨c0, c1, c2, c3, c4⟩ := HX.out.bx.facts
    have p2 : WX.cell? ⟨gp, offp + i * 3 + 2, none⟩ = some (.int .i64 (E1 : Int)) := (HX.out.bx.below.cell (p := ⟨gp, offp + i * 3 + 2, none⟩) hgp).trans HP2.out
    go_upto_region 11 with fail
    clear c0 c1 c2 c3 c4 p2
    obtain ⟨x0, xf⟩ := HX.out.facts
    go_upto_region 12 with fail
    obtain ⟨W7, hW7⟩ : ∃ W7, W7 = WX.setCell ⟨P, 0, none⟩ (.int .i64 (E1 : Int)) := ⟨_, rfl⟩
    rw [← hW7]
    have HW7 := Lib.hid (HX.out.set hW7)
    clear x0 xf hW7
    obtain ⟨x0, xf⟩ := HW7.out.facts
    obtain ⟨c0, c1, c2, c3, c4⟩ := HW7.out.bx.facts
    have v0 : W7.cell? ⟨gn, offn + E1 * 3, none⟩ = some (.int .i64 x) := (HW7.out.bx.below.cell (p := ⟨gn, offn + E1 * 3, none⟩) hgn).trans HX0.out
    obtain ⟨Y, hY⟩ : ∃ Y, Y = W7.heap.size := ⟨_, rfl⟩
    obtain ⟨W8, hW8⟩ : ∃ W8, W8 = W7.alloc (Obj.cells #[.int .i64 x] 3) := ⟨_, rfl⟩
    have HW8 : Hid (WG w (.slice (some ⟨gn, offn, none⟩) ns.length cn) last done (.slice (some ⟨gp, offp, none⟩) ps.length cp) em vs P (E1 : Int) (.slice p5 n c5) n W8) := HW7.out.step (by rw [hW8]; exact (Below.refl _ _).alloc (Nat.le_refl _) _)
    have HY8 : Hid (W8.heap[Y]? = some (.cells #[.int .i64 x] 3 (0, 0))) := by rw [hW8, hY]; exact (MapKept.heap_alloc _ _).1
    obtain ⟨u9, W9, hr9, ho9, hg9, hb9, p9, c9, e9⟩ := run_append_one W8 30 HW8.out.row HY8.out (by have := HNS.out; omega) HW8.out.bx.below.size
    subst e9
    rw [hW8, hY] at hr9
    have HW9 : Hid (WG w (.slice (some ⟨gn, offn, none⟩) ns.length cn) last done (.slice (some ⟨gp, offp, none⟩) ps.length cp) em vs P (E1 : Int) (.slice p9 (n + 1) c9) (n + 1) W9) := HW8.out.app hg9 (by rw [← HTK.out]; exact ho9) hb9
    clear hW8 hY ho9 hg9 hb9
    have HR9 := Lib.hid hr9
    clear hr9
    go_upto_region 13 with (at_builtin; refine Lib.wpList_append_run _ rfl _ _ _ _ rfl _ _ rfl rfl _ _ HR9.out ?_)
    clear x0 xf c0 c1 c2 c3 c4 v0
    obtain ⟨x0, xf⟩ := HW9.out.facts
    go_wp2_with fail
    go_roundw
    case rel =>
     exact ⟨n + 1, _, _, by omega, HYE.out, rfl, ⟨_, _, rfl⟩, HW9.out.new HW9.out.bx.below.size⟩
    case measure => simp [lenOf]; omega
  ·obtain ⟨rfl, hnv⟩ : E = last ∧ n = vs.length := by
    have hnl : n = vs.length := by omega
    refine ⟨?_, hnl⟩
    have := HLE.out
    rw [← hnl, HE.out] at this
    injection this
   have te : (E != E) = false := by simp
   have HNV := Lib.hid hnv
   clear hnv
   go_wp2_with fail
   go_ret2
   refine ⟨_, rfl, ?_, HWM.out.bx.below⟩
   have h := HWM.out.row
   rw [HNV.out, List.take_length] at h
   rw [HNV.out]
   exact h
end Go.Proofs.Ytgbafpjeapkklaa.Mb
