/- Parts Rh of the proof. -/
import Derived.Test.YtgbafpjeapkklaaG5
import Derived.Test.YtgbafpjeapkklaaG7
namespace Go.Proofs.Ytgbafpjeapkklaa.PMailboxRuns
open Go.RowKit Go.Proofs.YtgbafpjeapkklaaW.PrintWords Go.Proofs.YtgbafpjeapkklaaW.PrintLast Go.Proofs.YtgbafpjeapkklaaW.PrintMore
attribute [local go_sem] max2_int min2_int max_two min_two max_three min_three max_four min_four
set_option linter.unusedVariables false
set_option linter.unusedSimpArgs false
def hackamoreref28_Begin.l0 : Nat → Int → Int → Int → Int → List (S105) → Int → Int → List (S122) → Bool → Option ((List (S105)) × Int × Int × (List (S122)) × Bool × Bool × Int)
 | 0, _, _, _, _, _, _, _, _, _ => none
 | k + 1, x1, x2, x10, x11, ae, az, b0, ac, b1 => if x11 ≥ 0 then (if 0 ≤ x11 then (if x11 < (ac.length : Int) then (if ((rZ2 ac x11).f0) = x1 then (some (([] : List (S105)), 0, 0, ([] : List (S122)), false, false, 300)) else (if ((rZ2 ac x11).f0) > x1 then (hackamoreref28_Begin.l0 k x1 x2 x11 (wrap64 (x11 - 1)) ae az b0 ac b1) else (hackamoreref28_Begin.l0 k x1 x2 x10 (wrap64 (x11 - 1)) ae az b0 ac b1))) else (none)) else (none)) else (if (ae.length : Int) = 2000 then (some (([] : List (S105)), 0, 0, ([] : List (S122)), false, false, 8)) else ((some (([] : List (S122)) : List (S122))).bind fun y232 => (if 0 ≤ x10 then (if x10 ≤ (ac.length : Int) then ((some (ac.take (x10 : Int).toNat : List (S122))).bind fun y235 => (if y232.length + y235.length < 5864062014805 then ((some (y232 ++ y235 : List (S122))).bind fun y239 => (if y239.length < 5864062014805 then ((some (y239 ++ [(⟨x1, az, (ae.length : Int)⟩ : S122)] : List (S122))).bind fun y242 => ((some (ac.drop (x10 : Int).toNat : List (S122))).bind fun y245 => (if y242.length + y245.length < 5864062014805 then ((some (([] : List (S105)) : List (S105))).bind fun y252 => (if y252.length + ae.length < 5864062014805 then ((some (y252 ++ ae : List (S105))).bind fun y255 => (if y255.length < 5864062014805 then (some ((y255 ++ [(⟨x2, x1, (-1)⟩ : S105)]), (ae.length : Int), b0, (y242 ++ y245), false, b1, 0)) else (none))) else (none))) else (none)))) else (none))) else (none))) else (none)) else (none))))
def hackamoreref28_Begin.f (k : Nat) (a4 : List (S105)) (aM : Int) (aD : Int) (a5 : List (S122)) (aH : Bool) (a1 : Int) (a2 : Int) : Option ((List (S105)) × Int × Int × (List (S122)) × Bool × Bool × Int) := (hackamoreref28_Check.f k a4 aM aD a5 aH).bind fun t231 => (if t231 = 0 then (if a1 < 0 then (some (([] : List (S105)), 0, 0, ([] : List (S122)), false, false, 1)) else (hackamoreref28_Begin.l0 k a1 a2 (a5.length : Int) (wrap64 ((a5.length : Int) - 1)) a4 aM aD a5 aH)) else (some (([] : List (S105)), 0, 0, ([] : List (S122)), false, false, t231)))
set_option maxHeartbeats 8000000 in
set_option maxRecDepth 100000 in
theorem hackamoreref28_Begin.calls (k : Nat) (aa : Option Addr) (ab : Nat) (a4 : List (S105)) (aM : Int) (aD : Int) (aW : Option Addr) (aV : Nat) (a5 : List (S122)) (aH : Bool) (a1 : Int) (a2 : Int) (r1 : List (S105)) (r2 : Int) (r3 : Int) (r4 : List (S122)) (r5 : Bool) (r6 : Bool) (r7 : Int) (w : World) (bB : Kd.C k105 w aa a4.length a4) (bC : a4.length ≤ ab) (bE : Kd.C k122 w aW a5.length a5) (bF : a5.length ≤ aV) (h : hackamoreref28_Begin.f k a4 aM aD a5 aH a1 a2 = some (r1, r2, r3, r4, r5, r6, r7)) :
  Calls Try.prog 46 #[.agg #[.slice aa a4.length ab, .int .i64 aM, .int .i64 aD, .slice aW a5.length aV, .bool aH], .int .i64 a1, .int .i64 a2] w fun e w' => ∃ v0_ v3_ : Value, e = .returned (.tuple #[.agg #[v0_, .int .i64 r2, .int .i64 r3, v3_, .bool r5], .bool r6, .int .i64 r7]) ∧ Kd.R k105 105 w' w.heap.size (fun _ => True) v0_ r1 ∧ Kd.R k122 122 w' w.heap.size (fun _ => True) v3_ r4 ∧ Below w.heap.size w w' := by
 have hu46 := Try.underlying46
 have hu122 := Try.underlying122
 have hu105 := Try.underlying105
 have b3 := Z0.mk bB
 have b7 := Z0.mk bC
 clear bB bC
 have ai := Z0.mk bE
 have al := Z0.mk bF
 clear bE bF
 have HB := Z0.mk (Below.refl w.heap.size w)
 have H : ((hackamoreref28_Check.f k a4 aM aD a5 aH).bind fun t231 => (if t231 = 0 then (if a1 < 0 then (some (([] : List (S105)), 0, 0, ([] : List (S122)), false, false, 1)) else (hackamoreref28_Begin.l0 k a1 a2 (a5.length : Int) (wrap64 ((a5.length : Int) - 1)) a4 aM aD a5 aH)) else (some (([] : List (S105)), 0, 0, ([] : List (S122)), false, false, t231)))) = some (r1, r2, r3, r4, r5, r6, r7) := h
 clear h
 replace H := Option.bind_eq_some_iff.mp H
 obtain ⟨t231, A40, H⟩ := H
 replace H : (if t231 = 0 then (if a1 < 0 then (some (([] : List (S105)), 0, 0, ([] : List (S122)), false, false, 1)) else (hackamoreref28_Begin.l0 k a1 a2 (a5.length : Int) (wrap64 ((a5.length : Int) - 1)) a4 aM aD a5 aH)) else (some (([] : List (S105)), 0, 0, ([] : List (S122)), false, false, t231))) = some (r1, r2, r3, r4, r5, r6, r7) := H
 have A4 := Z0.mk A40
 clear A40
 by_cases c5 : t231 = 0
 ·rw [if_pos c5] at H
  have c5b0 : (t231 == 0) = true := beq_iff_eq.mpr c5
  have c5b1 : (t231 != 0) = false := bne_eq_false_iff_eq.mpr c5
  clear c5
  by_cases c6 : a1 < 0
  ·rw [if_pos c6] at H
   have c6b0 : decide (a1 < 0) = true := decide_eq_true c6
   clear c6
   simp only [Option.some.injEq, Prod.mk.injEq] at H
   obtain ⟨rfl, rfl, rfl, rfl, rfl, rfl, rfl⟩ := H
   go_enter Try.func46, Try.ntmps46
   go_wp2_with (first | ((with_reducible refine gate_dst (N := 3) rfl ?_); refine box_event ?hg (N := 3) ?hd (cs := #[.slice aa a4.length ab, .int .i64 aM, .int .i64 aD, .slice aW a5.length aV, .bool aH]) (t := 46) ?hr ?_; (case hd => rfl); (case hg => rfl); (case hr => first | (go_simp; done) | (go_simp; rfl)); intro a6 hg w7 hbox hb; have aI := Z0.mk (bP (by repeat (first | (with_reducible first | apply bA | apply bN | apply bD) | exact HB.out)) hb); have aJ := Z0.mk (hbox); have aE := Z0.mk ((by rw [hg]; exact (bZ (by repeat (first | (with_reducible first | apply bA | apply bN | apply bD) | exact HB.out))) : w.heap.size ≤ a6)); have aQ := aE; clear HB; have HB := aI; have a0 := aJ; have bG := aE; have aA := aQ; clear aI aJ aE aQ; clear hb hbox hg) | ((with_reducible refine gate_dst (N := 6) rfl ?_); refine box_event ?hg (N := 6) ?hd (cs := #[.slice none 0 0, .int .i64 0, .int .i64 0, .slice none 0 0, .bool false]) (t := 46) ?hr ?_; (case hd => rfl); (case hg => rfl); (case hr => first | (go_simp; done) | (go_simp; rfl)); intro a9 hg w8 hbox hb; have aI := Z0.mk (kB (by (with_reducible repeat first | apply kN | apply kD | apply kA); exact a0.out) hb); have aJ := Z0.mk (bP (by repeat (first | (with_reducible first | apply bA | apply bN | apply bD | refine bS ?_ aA.out) | exact HB.out)) hb); have aE := Z0.mk (hbox); have aQ := Z0.mk ((by rw [hg]; exact (bZ (by repeat (first | (with_reducible first | apply bA | apply bN | apply bD | refine bS ?_ aA.out) | exact HB.out))) : w.heap.size ≤ a9)); have aj := aQ; have ak := Z0.mk ((by rw [hg]; exact Nat.ne_of_lt (blk_lt (by (with_reducible repeat first | apply kN | apply kD | apply kA); exact a0.out)) : a6 ≠ a9)); have b2 := Z0.mk (Ne.symm ak.out); clear a0 HB; have a0 := aI; have HB := aJ; have a3 := aE; have bH := aQ; have aK := aj; have aU := ak; have aN := b2; clear aI aJ aE aQ aj ak b2 hb hbox hg; have hnb9 := aU.out; have hnc9 := aN.out; obtain ⟨bO, bQ, bR, bT, bU, bV, bW, bX, bY, ba⟩ := kc5 a0.out) | ((with_reducible refine gate_callee (f := 20) rfl ?_); refine goesL_ (some 16) rfl rfl Try.func20 (by kernel_rfl) rfl #[.agg #[.slice aa a4.length ab, .int .i64 aM, .int .i64 aD, .slice aW a5.length aV, .bool aH]] rfl (by (try simp only [List.map_toArray, List.map_cons, List.map_nil]); first | done | rfl | (simp only [List.length_drop, List.length_take]; rfl)) ?_; (with_reducible refine (hackamoreref28_Check.calls k _ _ a4 aM aD _ _ a5 aH t231 _ ?side1 ?side2 ?side3 ?side4 A4.out).mono ?_); (case side1 => repeat (first | exact (Kd.C_below b3.out HB.out) | (with_reducible refine Kd.C_alloc ?_ _) | (with_reducible refine Kd.C_drewN ?_ _) | (with_reducible refine Kd.C_drew ?_))); (case side2 => exact b7.out); (case side3 => repeat (first | exact (Kd.C_below ai.out HB.out) | (with_reducible refine Kd.C_alloc ?_ _) | (with_reducible refine Kd.C_drewN ?_ _) | (with_reducible refine Kd.C_drew ?_))); (case side4 => exact al.out); rintro e w11 ⟨rfl, hb⟩; refine ⟨_, rfl, ?_⟩; have aI := Z0.mk (kB (by (with_reducible repeat first | apply kN | apply kD | apply kA); exact a0.out) hb); have aJ := Z0.mk (kB (by (with_reducible repeat first | apply kN | apply kD | apply kA); exact a3.out) hb); have aE := Z0.mk (bP (by repeat (first | (with_reducible first | apply bA | apply bN | apply bD | refine bS ?_ aA.out | refine bS ?_ aK.out) | exact HB.out)) hb); clear a0 a3 HB; have a0 := aI; have a3 := aJ; have HB := aE; clear aI aJ aE; (try clear hb); (try clear hb2); (try clear hk); (try clear hi); obtain ⟨bb, bc, bd, be, bf, bg, bh, bi, bj, bk⟩ := kc5 a3.out))
   refine bodyPost_ret (results_ctt rfl _ _ a9 46 #[.slice none 0 0, .int .i64 0, .int .i64 0, .slice none 0 0, .bool false] (0, 0) _ rfl (by (with_reducible repeat first | apply kN | apply kD | apply kA); refine blk_put (cs := #[.slice none 0 0, .int .i64 0, .int .i64 0, .slice none 0 0, .bool false]) ?_ 4 _ rfl; (with_reducible repeat first | apply kN | apply kD | apply kA); refine blk_put (cs := #[.slice none 0 0, .int .i64 0, .int .i64 0, .slice none 0 0, .bool false]) ?_ 3 _ rfl; (with_reducible repeat first | apply kN | apply kD | apply kA); refine blk_put (cs := #[.slice none 0 0, .int .i64 0, .int .i64 0, .slice none 0 0, .bool false]) ?_ 2 _ rfl; (with_reducible repeat first | apply kN | apply kD | apply kA); refine blk_put (cs := #[.slice none 0 0, .int .i64 0, .int .i64 0, .slice none 0 0, .bool false]) ?_ 1 _ rfl; (with_reducible repeat first | apply kN | apply kD | apply kA); refine blk_put (cs := #[.slice none 0 0, .int .i64 0, .int .i64 0, .slice none 0 0, .bool false]) ?_ 0 _ rfl; (with_reducible repeat first | apply kN | apply kD | apply kA); exact a3.out) Try.underlying46 rfl (by kernel_rfl)) rfl ?_
   exact ⟨_, _, by first | rfl | (simp [errW_none, errW_some] <;> rfl) | (simp [*, errW_none, errW_some] <;> rfl), by first | exact Kd.R_nil _ _ _ _ _ | exact Kd.N_nil _ _ _ _ _ | exact Kd.V_nil _ _ _ _ _ | exact Kd.Q_nil _ _ _ _ _ | exact Kd.S_nil _ _ _ _ _, by first | exact Kd.R_nil _ _ _ _ _ | exact Kd.N_nil _ _ _ _ _ | exact Kd.V_nil _ _ _ _ _ | exact Kd.Q_nil _ _ _ _ _ | exact Kd.S_nil _ _ _ _ _, by repeat (first | (with_reducible first | apply bA | apply bN | apply bD | refine bS ?_ aA.out | refine bS ?_ aK.out) | exact HB.out)⟩
  ·rw [if_neg c6] at H
   have c6b0 : decide (a1 < 0) = false := decide_eq_false c6
   clear c6
   have H' := Z0.mk H
   clear H
   go_enter Try.func46, Try.ntmps46
   go_wp2_with (first | ((with_reducible refine gate_dst (N := 3) rfl ?_); refine box_event ?hg (N := 3) ?hd (cs := #[.slice aa a4.length ab, .int .i64 aM, .int .i64 aD, .slice aW a5.length aV, .bool aH]) (t := 46) ?hr ?_; (case hd => rfl); (case hg => rfl); (case hr => first | (go_simp; done) | (go_simp; rfl)); intro a6 hg w13 hbox hb; have aI := Z0.mk (bP (by repeat (first | (with_reducible first | apply bA | apply bN | apply bD) | exact HB.out)) hb); have aJ := Z0.mk (hbox); have aE := Z0.mk ((by rw [hg]; exact (bZ (by repeat (first | (with_reducible first | apply bA | apply bN | apply bD) | exact HB.out))) : w.heap.size ≤ a6)); have aQ := aE; clear HB; have HB := aI; have a0 := aJ; have bG := aE; have aA := aQ; clear aI aJ aE aQ; clear hb hbox hg) | ((with_reducible refine gate_dst (N := 6) rfl ?_); refine box_event ?hg (N := 6) ?hd (cs := #[.slice none 0 0, .int .i64 0, .int .i64 0, .slice none 0 0, .bool false]) (t := 46) ?hr ?_; (case hd => rfl); (case hg => rfl); (case hr => first | (go_simp; done) | (go_simp; rfl)); intro a9 hg w14 hbox hb; have aI := Z0.mk (kB (by (with_reducible repeat first | apply kN | apply kD | apply kA); exact a0.out) hb); have aJ := Z0.mk (bP (by repeat (first | (with_reducible first | apply bA | apply bN | apply bD | refine bS ?_ aA.out) | exact HB.out)) hb); have aE := Z0.mk (hbox); have aQ := Z0.mk ((by rw [hg]; exact (bZ (by repeat (first | (with_reducible first | apply bA | apply bN | apply bD | refine bS ?_ aA.out) | exact HB.out))) : w.heap.size ≤ a9)); have aj := aQ; have ak := Z0.mk ((by rw [hg]; exact Nat.ne_of_lt (blk_lt (by (with_reducible repeat first | apply kN | apply kD | apply kA); exact a0.out)) : a6 ≠ a9)); have b2 := Z0.mk (Ne.symm ak.out); clear a0 HB; have a0 := aI; have HB := aJ; have a3 := aE; have bH := aQ; have aK := aj; have aU := ak; have aN := b2; clear aI aJ aE aQ aj ak b2 hb hbox hg; have hnb15 := aU.out; have hnc15 := aN.out; obtain ⟨bl, bm, bn, bo, bp, bq, br, bs, bt, bu⟩ := kc5 a0.out) | ((with_reducible refine gate_callee (f := 20) rfl ?_); refine goesL_ (some 16) rfl rfl Try.func20 (by kernel_rfl) rfl #[.agg #[.slice aa a4.length ab, .int .i64 aM, .int .i64 aD, .slice aW a5.length aV, .bool aH]] rfl (by (try simp only [List.map_toArray, List.map_cons, List.map_nil]); first | done | rfl | (simp only [List.length_drop, List.length_take]; rfl)) ?_; (with_reducible refine (hackamoreref28_Check.calls k _ _ a4 aM aD _ _ a5 aH t231 _ ?side1 ?side2 ?side3 ?side4 A4.out).mono ?_); (case side1 => repeat (first | exact (Kd.C_below b3.out HB.out) | (with_reducible refine Kd.C_alloc ?_ _) | (with_reducible refine Kd.C_drewN ?_ _) | (with_reducible refine Kd.C_drew ?_))); (case side2 => exact b7.out); (case side3 => repeat (first | exact (Kd.C_below ai.out HB.out) | (with_reducible refine Kd.C_alloc ?_ _) | (with_reducible refine Kd.C_drewN ?_ _) | (with_reducible refine Kd.C_drew ?_))); (case side4 => exact al.out); rintro e w17 ⟨rfl, hb⟩; refine ⟨_, rfl, ?_⟩; have aI := Z0.mk (kB (by (with_reducible repeat first | apply kN | apply kD | apply kA); exact a0.out) hb); have aJ := Z0.mk (kB (by (with_reducible repeat first | apply kN | apply kD | apply kA); exact a3.out) hb); have aE := Z0.mk (bP (by repeat (first | (with_reducible first | apply bA | apply bN | apply bD | refine bS ?_ aA.out | refine bS ?_ aK.out) | exact HB.out)) hb); clear a0 a3 HB; have a0 := aI; have a3 := aJ; have HB := aE; clear aI aJ aE; (try clear hb); (try clear hb2); (try clear hk); (try clear hi); obtain ⟨bv, bw, bx, bz, c0, c3, c7, c8, cA, cC⟩ := kc5 a0.out))
   go_loopg [10, 11] k (fun kq v10 v11 w' => ∃ (aC : Int) (a8 : Int) (aT : Int) (aG : Int) (a7 : Bool), v10 = .int .i64 aC ∧ v11 = .int .i64 a8 ∧ Z0 (hackamoreref28_Begin.l0 kq a1 a2 aC a8 a4 aM aD a5 aH = some (r1, r2, r3, r4, r5, r6, r7)) ∧ Z0 (kq ≤ k) ∧ Z0 (w'.heap[a6]? = some (.cells #[(.slice aa a4.length ab), .int .i64 aM, .int .i64 aD, (.slice aW a5.length aV), .bool aH] 46 (0, 0))) ∧ Z0 (w'.heap[a9]? = some (.cells #[(.slice none 0 0), .int .i64 aT, .int .i64 aG, (.slice none 0 0), .bool a7] 46 (0, 0))) ∧ Z0 (Below w.heap.size w w'))
   case atStart => exact ⟨((a5.length : Int)), (wrap64 ((a5.length : Int) - 1)), (0), (0), (false), (by first | rfl | (simp; done) | (simp [*]; done)), (by first | rfl | (simp; done) | (simp [*]; done)), H', ⟨Nat.le_refl _⟩, ⟨by (with_reducible repeat first | apply kN | apply kD | apply kA); exact a0.out⟩, ⟨by (with_reducible repeat first | apply kN | apply kD | apply kA); exact a3.out⟩, ⟨by repeat (first | (with_reducible first | apply bA | apply bN | apply bD | refine bS ?_ aA.out | refine bS ?_ aK.out) | exact HB.out)⟩⟩
   case round =>
    clear H'
    try clear c1
    try clear c2
    try clear p2
    try clear c4
    try clear c5
    try clear c5b0
    try clear c5b1
    try clear c6
    try clear c6b0
    try clear p6
    try clear c9
    try clear c15
    try clear bO
    try clear bQ
    try clear bR
    try clear bT
    try clear bU
    try clear bb
    try clear bc
    try clear bd
    try clear be
    try clear bf
    try clear bl
    try clear bm
    try clear bn
    try clear bo
    try clear bp
    try clear bv
    try clear bw
    try clear bx
    try clear bz
    try clear c0
    try clear bV
    try clear bW
    try clear bX
    try clear bY
    try clear ba
    try clear bg
    try clear bh
    try clear bi
    try clear bj
    try clear bk
    try clear bq
    try clear br
    try clear bs
    try clear bt
    try clear bu
    try clear c3
    try clear c7
    try clear c8
    try clear cA
    try clear cC
    obtain ⟨aC, a8, aT, aG, a7, rfl, rfl, HA, HK1, a0, a3, HB⟩ := hrel
    cases gk with
    | zero => exact absurd HA.out (by simp [hackamoreref28_Begin.l0])
    | succ k1 =>
     have H := HA.out
     clear HA
     simp only [hackamoreref28_Begin.l0] at H
     by_cases c19 : a8 ≥ 0
     ·rw [if_pos c19] at H
      have c19b0 : decide (0 ≤ a8) = true := decide_eq_true c19
      clear c19
      by_cases c20 : 0 ≤ a8
      ·rw [if_pos c20] at H
       have c20b0 : decide (0 ≤ a8) = true := decide_eq_true c20
       clear c20
       by_cases c21 : a8 < (a5.length : Int)
       ·rw [if_pos c21] at H
        have c21b0 : decide (a8 < (a5.length : Int)) = true := decide_eq_true c21
        clear c21
        by_cases c22 : ((rZ2 a5 a8).f0) = a1
        ·rw [if_pos c22] at H
         have c22b0 : (((rZ2 a5 a8).f0) == a1) = true := beq_iff_eq.mpr c22
         have c22b1 : (((rZ2 a5 a8).f0) != a1) = false := bne_eq_false_iff_eq.mpr c22
         clear c22
         simp only [Option.some.injEq, Prod.mk.injEq] at H
         obtain ⟨rfl, rfl, rfl, rfl, rfl, rfl, rfl⟩ := H
         have hnb23 := aU.out
         have hnc23 := aN.out
         have cP : wr.cell? ⟨a6, 0, none⟩ = some (.slice aa a4.length ab) := (kC a0.out 0).trans rfl
         have cQ : wr.cell? ⟨a6, 1, none⟩ = some (.int .i64 aM) := (kC a0.out 1).trans rfl
         have cR : wr.cell? ⟨a6, 2, none⟩ = some (.int .i64 aD) := (kC a0.out 2).trans rfl
         have cS : wr.cell? ⟨a6, 3, none⟩ = some (.slice aW a5.length aV) := (kC a0.out 3).trans rfl
         have cT : wr.cell? ⟨a6, 4, none⟩ = some (.bool aH) := (kC a0.out 4).trans rfl
         have cU := kF a0.out 0
         have cV := kF a0.out 1
         have cW := kF a0.out 2
         have cX := kF a0.out 3
         have cY := kF a0.out 4
         have p261 : 0 ≤ (a8 : Int) := of_decide_eq_true (by assumption)
         have q261 : a8 < (a5.length : Int) := of_decide_eq_true (by assumption)
         obtain ⟨ad261, e261, aX, aY, aZ⟩ := at_T122 ai.out a8 p261 q261
         cases e261
         replace aX := (HB.out.cell (World.block_lt_of_cell? w _ aX)).trans aX
         replace aY := (HB.out.cell (World.block_lt_of_cell? w _ aY)).trans aY
         replace aZ := (HB.out.cell (World.block_lt_of_cell? w _ aZ)).trans aZ
         replace p261 := eq_true p261
         replace q261 := eq_true q261
         have cZ : wr.cell? ⟨a9, 0, none⟩ = some (.slice none 0 0) := (kC a3.out 0).trans rfl
         have ca : wr.cell? ⟨a9, 1, none⟩ = some (.int .i64 aT) := (kC a3.out 1).trans rfl
         have cb : wr.cell? ⟨a9, 2, none⟩ = some (.int .i64 aG) := (kC a3.out 2).trans rfl
         have cc : wr.cell? ⟨a9, 3, none⟩ = some (.slice none 0 0) := (kC a3.out 3).trans rfl
         have cd : wr.cell? ⟨a9, 4, none⟩ = some (.bool a7) := (kC a3.out 4).trans rfl
         have ce := kF a3.out 0
         have cf := kF a3.out 1
         have cg := kF a3.out 2
         have ch := kF a3.out 3
         have ci := kF a3.out 4
         go_wp2
         refine bodyPost_ret (results_ctt rfl _ _ a9 46 #[.slice none 0 0, .int .i64 0, .int .i64 0, .slice none 0 0, .bool false] (0, 0) _ rfl (by (with_reducible repeat first | apply kN | apply kD | apply kA); refine blk_put (cs := #[.slice none 0 0, .int .i64 0, .int .i64 0, .slice none 0 0, .bool a7]) ?_ 4 _ rfl; (with_reducible repeat first | apply kN | apply kD | apply kA); refine blk_put (cs := #[.slice none 0 0, .int .i64 0, .int .i64 0, .slice none 0 0, .bool a7]) ?_ 3 _ rfl; (with_reducible repeat first | apply kN | apply kD | apply kA); refine blk_put (cs := #[.slice none 0 0, .int .i64 0, .int .i64 aG, .slice none 0 0, .bool a7]) ?_ 2 _ rfl; (with_reducible repeat first | apply kN | apply kD | apply kA); refine blk_put (cs := #[.slice none 0 0, .int .i64 aT, .int .i64 aG, .slice none 0 0, .bool a7]) ?_ 1 _ rfl; (with_reducible repeat first | apply kN | apply kD | apply kA); refine blk_put (cs := #[.slice none 0 0, .int .i64 aT, .int .i64 aG, .slice none 0 0, .bool a7]) ?_ 0 _ rfl; (with_reducible repeat first | apply kN | apply kD | apply kA); exact a3.out) Try.underlying46 rfl (by kernel_rfl)) rfl ?_
         exact ⟨_, _, by first | rfl | (simp [errW_none, errW_some] <;> rfl) | (simp [*, errW_none, errW_some] <;> rfl), by first | exact Kd.R_nil _ _ _ _ _ | exact Kd.N_nil _ _ _ _ _ | exact Kd.V_nil _ _ _ _ _ | exact Kd.Q_nil _ _ _ _ _ | exact Kd.S_nil _ _ _ _ _, by first | exact Kd.R_nil _ _ _ _ _ | exact Kd.N_nil _ _ _ _ _ | exact Kd.V_nil _ _ _ _ _ | exact Kd.Q_nil _ _ _ _ _ | exact Kd.S_nil _ _ _ _ _, by repeat (first | (with_reducible first | apply bA | apply bN | apply bD | refine bS ?_ aA.out | refine bS ?_ aK.out) | exact HB.out)⟩
        ·rw [if_neg c22] at H
         have c22b0 : (((rZ2 a5 a8).f0) == a1) = false := beq_eq_false_iff_ne.mpr c22
         have c22b1 : (((rZ2 a5 a8).f0) != a1) = true := bne_iff_ne.mpr c22
         by_cases c26 : ((rZ2 a5 a8).f0) > a1
         ·rw [if_pos c26] at H
          have c26b0 : decide (a1 < ((rZ2 a5 a8).f0)) = true := decide_eq_true c26
          clear c26
          have H' := Z0.mk H
          clear H
          have hnb27 := aU.out
          have hnc27 := aN.out
          have cj : wr.cell? ⟨a6, 0, none⟩ = some (.slice aa a4.length ab) := (kC a0.out 0).trans rfl
          have ck : wr.cell? ⟨a6, 1, none⟩ = some (.int .i64 aM) := (kC a0.out 1).trans rfl
          have cl : wr.cell? ⟨a6, 2, none⟩ = some (.int .i64 aD) := (kC a0.out 2).trans rfl
          have cm : wr.cell? ⟨a6, 3, none⟩ = some (.slice aW a5.length aV) := (kC a0.out 3).trans rfl
          have cn : wr.cell? ⟨a6, 4, none⟩ = some (.bool aH) := (kC a0.out 4).trans rfl
          have co := kF a0.out 0
          have cp := kF a0.out 1
          have cq := kF a0.out 2
          have cr := kF a0.out 3
          have ct := kF a0.out 4
          have p261 : 0 ≤ (a8 : Int) := of_decide_eq_true (by assumption)
          have q261 : a8 < (a5.length : Int) := of_decide_eq_true (by assumption)
          obtain ⟨ad261, e261, aX, aY, aZ⟩ := at_T122 ai.out a8 p261 q261
          cases e261
          replace aX := (HB.out.cell (World.block_lt_of_cell? w _ aX)).trans aX
          replace aY := (HB.out.cell (World.block_lt_of_cell? w _ aY)).trans aY
          replace aZ := (HB.out.cell (World.block_lt_of_cell? w _ aZ)).trans aZ
          replace p261 := eq_true p261
          replace q261 := eq_true q261
          have p262 : 0 ≤ (a8 : Int) := of_decide_eq_true (by assumption)
          have q262 : a8 < (a5.length : Int) := of_decide_eq_true (by assumption)
          obtain ⟨ad262, e262, af, ag, ah⟩ := at_T122 ai.out a8 p262 q262
          obtain rfl : ad261 = ad262 := (by injection e262)
          replace af := (HB.out.cell (World.block_lt_of_cell? w _ af)).trans af
          replace ag := (HB.out.cell (World.block_lt_of_cell? w _ ag)).trans ag
          replace ah := (HB.out.cell (World.block_lt_of_cell? w _ ah)).trans ah
          replace p262 := eq_true p262
          replace q262 := eq_true q262
          go_wp2
          go_roundg k1
          case measure => have := HK1.out; omega
          case rel => exact ⟨(a8), (wrap64 (a8 - 1)), (aT), (aG), (a7), (by first | rfl | (simp; done) | (simp [*]; done)), (by first | rfl | (simp; done) | (simp [*]; done)), H', ⟨by have := HK1.out; omega⟩, ⟨by (with_reducible repeat first | apply kN | apply kD | apply kA); exact a0.out⟩, ⟨by (with_reducible repeat first | apply kN | apply kD | apply kA); exact a3.out⟩, ⟨by repeat (first | (with_reducible first | apply bA | apply bN | apply bD | refine bS ?_ aA.out | refine bS ?_ aK.out) | exact HB.out)⟩⟩
         ·rw [if_neg c26] at H
          have c26b0 : decide (a1 < ((rZ2 a5 a8).f0)) = false := decide_eq_false c26
          clear c26
          have H' := Z0.mk H
          clear H
          have hnb29 := aU.out
          have hnc29 := aN.out
          have cu : wr.cell? ⟨a6, 0, none⟩ = some (.slice aa a4.length ab) := (kC a0.out 0).trans rfl
          have cv : wr.cell? ⟨a6, 1, none⟩ = some (.int .i64 aM) := (kC a0.out 1).trans rfl
          have cw : wr.cell? ⟨a6, 2, none⟩ = some (.int .i64 aD) := (kC a0.out 2).trans rfl
          have cx : wr.cell? ⟨a6, 3, none⟩ = some (.slice aW a5.length aV) := (kC a0.out 3).trans rfl
          have cy : wr.cell? ⟨a6, 4, none⟩ = some (.bool aH) := (kC a0.out 4).trans rfl
          have cz := kF a0.out 0
          have d0 := kF a0.out 1
          have d1 := kF a0.out 2
          have d2 := kF a0.out 3
          have d3 := kF a0.out 4
          have p261 : 0 ≤ (a8 : Int) := of_decide_eq_true (by assumption)
          have q261 : a8 < (a5.length : Int) := of_decide_eq_true (by assumption)
          obtain ⟨ad261, e261, aX, aY, aZ⟩ := at_T122 ai.out a8 p261 q261
          cases e261
          replace aX := (HB.out.cell (World.block_lt_of_cell? w _ aX)).trans aX
          replace aY := (HB.out.cell (World.block_lt_of_cell? w _ aY)).trans aY
          replace aZ := (HB.out.cell (World.block_lt_of_cell? w _ aZ)).trans aZ
          replace p261 := eq_true p261
          replace q261 := eq_true q261
          have p262 : 0 ≤ (a8 : Int) := of_decide_eq_true (by assumption)
          have q262 : a8 < (a5.length : Int) := of_decide_eq_true (by assumption)
          obtain ⟨ad262, e262, af, ag, ah⟩ := at_T122 ai.out a8 p262 q262
          obtain rfl : ad261 = ad262 := (by injection e262)
          replace af := (HB.out.cell (World.block_lt_of_cell? w _ af)).trans af
          replace ag := (HB.out.cell (World.block_lt_of_cell? w _ ag)).trans ag
          replace ah := (HB.out.cell (World.block_lt_of_cell? w _ ah)).trans ah
          replace p262 := eq_true p262
          replace q262 := eq_true q262
          go_wp2
          go_roundg k1
          case measure => have := HK1.out; omega
          case rel => exact ⟨(aC), (wrap64 (a8 - 1)), (aT), (aG), (a7), (by first | rfl | (simp; done) | (simp [*]; done)), (by first | rfl | (simp; done) | (simp [*]; done)), H', ⟨by have := HK1.out; omega⟩, ⟨by (with_reducible repeat first | apply kN | apply kD | apply kA); exact a0.out⟩, ⟨by (with_reducible repeat first | apply kN | apply kD | apply kA); exact a3.out⟩, ⟨by repeat (first | (with_reducible first | apply bA | apply bN | apply bD | refine bS ?_ aA.out | refine bS ?_ aK.out) | exact HB.out)⟩⟩
       ·rw [if_neg c21] at H
        exact absurd H (by simp)
      ·rw [if_neg c20] at H
       exact absurd H (by simp)
     ·rw [if_neg c19] at H
      have c19b0 : decide (0 ≤ a8) = false := decide_eq_false c19
      clear c19
      by_cases c31 : (a4.length : Int) = 2000
      ·rw [if_pos c31] at H
       have c31b0 : ((a4.length : Int) == 2000) = true := beq_iff_eq.mpr c31
       have c31b1 : ((a4.length : Int) != 2000) = false := bne_eq_false_iff_eq.mpr c31
       clear c31
       simp only [Option.some.injEq, Prod.mk.injEq] at H
       obtain ⟨rfl, rfl, rfl, rfl, rfl, rfl, rfl⟩ := H
       have hnb32 := aU.out
       have hnc32 := aN.out
       have d4 : wr.cell? ⟨a6, 0, none⟩ = some (.slice aa a4.length ab) := (kC a0.out 0).trans rfl
       have d5 : wr.cell? ⟨a6, 1, none⟩ = some (.int .i64 aM) := (kC a0.out 1).trans rfl
       have d6 : wr.cell? ⟨a6, 2, none⟩ = some (.int .i64 aD) := (kC a0.out 2).trans rfl
       have d7 : wr.cell? ⟨a6, 3, none⟩ = some (.slice aW a5.length aV) := (kC a0.out 3).trans rfl
       have d8 : wr.cell? ⟨a6, 4, none⟩ = some (.bool aH) := (kC a0.out 4).trans rfl
       have d9 := kF a0.out 0
       have dA := kF a0.out 1
       have dB := kF a0.out 2
       have dC := kF a0.out 3
       have dD := kF a0.out 4
       have dE : wr.cell? ⟨a9, 0, none⟩ = some (.slice none 0 0) := (kC a3.out 0).trans rfl
       have dF : wr.cell? ⟨a9, 1, none⟩ = some (.int .i64 aT) := (kC a3.out 1).trans rfl
       have dG : wr.cell? ⟨a9, 2, none⟩ = some (.int .i64 aG) := (kC a3.out 2).trans rfl
       have dH : wr.cell? ⟨a9, 3, none⟩ = some (.slice none 0 0) := (kC a3.out 3).trans rfl
       have dI : wr.cell? ⟨a9, 4, none⟩ = some (.bool a7) := (kC a3.out 4).trans rfl
       have dJ := kF a3.out 0
       have dK := kF a3.out 1
       have dL := kF a3.out 2
       have dM := kF a3.out 3
       have dN := kF a3.out 4
       go_wp2
       refine bodyPost_ret (results_ctt rfl _ _ a9 46 #[.slice none 0 0, .int .i64 0, .int .i64 0, .slice none 0 0, .bool false] (0, 0) _ rfl (by (with_reducible repeat first | apply kN | apply kD | apply kA); refine blk_put (cs := #[.slice none 0 0, .int .i64 0, .int .i64 0, .slice none 0 0, .bool a7]) ?_ 4 _ rfl; (with_reducible repeat first | apply kN | apply kD | apply kA); refine blk_put (cs := #[.slice none 0 0, .int .i64 0, .int .i64 0, .slice none 0 0, .bool a7]) ?_ 3 _ rfl; (with_reducible repeat first | apply kN | apply kD | apply kA); refine blk_put (cs := #[.slice none 0 0, .int .i64 0, .int .i64 aG, .slice none 0 0, .bool a7]) ?_ 2 _ rfl; (with_reducible repeat first | apply kN | apply kD | apply kA); refine blk_put (cs := #[.slice none 0 0, .int .i64 aT, .int .i64 aG, .slice none 0 0, .bool a7]) ?_ 1 _ rfl; (with_reducible repeat first | apply kN | apply kD | apply kA); refine blk_put (cs := #[.slice none 0 0, .int .i64 aT, .int .i64 aG, .slice none 0 0, .bool a7]) ?_ 0 _ rfl; (with_reducible repeat first | apply kN | apply kD | apply kA); exact a3.out) Try.underlying46 rfl (by kernel_rfl)) rfl ?_
       exact ⟨_, _, by first | rfl | (simp [errW_none, errW_some] <;> rfl) | (simp [*, errW_none, errW_some] <;> rfl), by first | exact Kd.R_nil _ _ _ _ _ | exact Kd.N_nil _ _ _ _ _ | exact Kd.V_nil _ _ _ _ _ | exact Kd.Q_nil _ _ _ _ _ | exact Kd.S_nil _ _ _ _ _, by first | exact Kd.R_nil _ _ _ _ _ | exact Kd.N_nil _ _ _ _ _ | exact Kd.V_nil _ _ _ _ _ | exact Kd.Q_nil _ _ _ _ _ | exact Kd.S_nil _ _ _ _ _, by repeat (first | (with_reducible first | apply bA | apply bN | apply bD | refine bS ?_ aA.out | refine bS ?_ aK.out) | exact HB.out)⟩
      ·rw [if_neg c31] at H
       have c31b0 : ((a4.length : Int) == 2000) = false := beq_eq_false_iff_ne.mpr c31
       have c31b1 : ((a4.length : Int) != 2000) = true := bne_iff_ne.mpr c31
       obtain ⟨y232, am⟩ : ∃ y_ : List (S122), y_ = (([] : List (S122))) := ⟨_, rfl⟩
       replace H : (if 0 ≤ aC then (if aC ≤ (a5.length : Int) then ((some (a5.take (aC : Int).toNat : List (S122))).bind fun y235 => (if y232.length + y235.length < 5864062014805 then ((some (y232 ++ y235 : List (S122))).bind fun y239 => (if y239.length < 5864062014805 then ((some (y239 ++ [(⟨a1, aM, (a4.length : Int)⟩ : S122)] : List (S122))).bind fun y242 => ((some (a5.drop (aC : Int).toNat : List (S122))).bind fun y245 => (if y242.length + y245.length < 5864062014805 then ((some (([] : List (S105)) : List (S105))).bind fun y252 => (if y252.length + a4.length < 5864062014805 then ((some (y252 ++ a4 : List (S105))).bind fun y255 => (if y255.length < 5864062014805 then (some ((y255 ++ [(⟨a2, a1, (-1)⟩ : S105)]), (a4.length : Int), aD, (y242 ++ y245), false, aH, 0)) else (none))) else (none))) else (none)))) else (none))) else (none))) else (none)) else (none)) = some (r1, r2, r3, r4, r5, r6, r7) := by first | (rw [am]; with_reducible exact H) | (have H2_ := (Option.bind_some _ _).symm.trans H; rw [am]; with_reducible exact H2_) | (have H2_ := (Option.bind_some _ _).symm.trans H; with_reducible exact H2_) | with_reducible exact H | (rw [am]; exact H) | exact H
       have bI := Z0.mk am
       clear am
       by_cases c35 : 0 ≤ aC
       ·rw [if_pos c35] at H
        have c35b0 := eq_true c35
        have c35b1 : decide (0 ≤ aC) = true := decide_eq_true c35
        clear c35
        by_cases c36 : aC ≤ (a5.length : Int)
        ·rw [if_pos c36] at H
         have c36b0 := eq_true c36
         have c36b1 : decide (aC ≤ (a5.length : Int)) = true := decide_eq_true c36
         clear c36
         obtain ⟨y235, an⟩ : ∃ y_ : List (S122), y_ = (a5.take (aC : Int).toNat) := ⟨_, rfl⟩
         replace H : (if y232.length + y235.length < 5864062014805 then ((some (y232 ++ y235 : List (S122))).bind fun y239 => (if y239.length < 5864062014805 then ((some (y239 ++ [(⟨a1, aM, (a4.length : Int)⟩ : S122)] : List (S122))).bind fun y242 => ((some (a5.drop (aC : Int).toNat : List (S122))).bind fun y245 => (if y242.length + y245.length < 5864062014805 then ((some (([] : List (S105)) : List (S105))).bind fun y252 => (if y252.length + a4.length < 5864062014805 then ((some (y252 ++ a4 : List (S105))).bind fun y255 => (if y255.length < 5864062014805 then (some ((y255 ++ [(⟨a2, a1, (-1)⟩ : S105)]), (a4.length : Int), aD, (y242 ++ y245), false, aH, 0)) else (none))) else (none))) else (none)))) else (none))) else (none)) = some (r1, r2, r3, r4, r5, r6, r7) := by first | (rw [an]; with_reducible exact H) | (have H2_ := (Option.bind_some _ _).symm.trans H; rw [an]; with_reducible exact H2_) | (have H2_ := (Option.bind_some _ _).symm.trans H; with_reducible exact H2_) | with_reducible exact H | (rw [an]; exact H) | exact H
         have bJ := Z0.mk an
         clear an
         by_cases c37 : y232.length + y235.length < 5864062014805
         ·rw [if_pos c37] at H
          have cD := Z0.mk c37
          clear c37
          obtain ⟨y239, ao⟩ : ∃ y_ : List (S122), y_ = (y232 ++ y235) := ⟨_, rfl⟩
          replace H : (if y239.length < 5864062014805 then ((some (y239 ++ [(⟨a1, aM, (a4.length : Int)⟩ : S122)] : List (S122))).bind fun y242 => ((some (a5.drop (aC : Int).toNat : List (S122))).bind fun y245 => (if y242.length + y245.length < 5864062014805 then ((some (([] : List (S105)) : List (S105))).bind fun y252 => (if y252.length + a4.length < 5864062014805 then ((some (y252 ++ a4 : List (S105))).bind fun y255 => (if y255.length < 5864062014805 then (some ((y255 ++ [(⟨a2, a1, (-1)⟩ : S105)]), (a4.length : Int), aD, (y242 ++ y245), false, aH, 0)) else (none))) else (none))) else (none)))) else (none)) = some (r1, r2, r3, r4, r5, r6, r7) := by first | (rw [ao]; with_reducible exact H) | (have H2_ := (Option.bind_some _ _).symm.trans H; rw [ao]; with_reducible exact H2_) | (have H2_ := (Option.bind_some _ _).symm.trans H; with_reducible exact H2_) | with_reducible exact H | (rw [ao]; exact H) | exact H
          have cE := Z0.mk ao
          clear ao
          by_cases c38 : y239.length < 5864062014805
          ·rw [if_pos c38] at H
           have cF := Z0.mk c38
           clear c38
           obtain ⟨y242, ap⟩ : ∃ y_ : List (S122), y_ = (y239 ++ [(⟨a1, aM, (a4.length : Int)⟩ : S122)]) := ⟨_, rfl⟩
           replace H : ((some (a5.drop (aC : Int).toNat : List (S122))).bind fun y245 => (if y242.length + y245.length < 5864062014805 then ((some (([] : List (S105)) : List (S105))).bind fun y252 => (if y252.length + a4.length < 5864062014805 then ((some (y252 ++ a4 : List (S105))).bind fun y255 => (if y255.length < 5864062014805 then (some ((y255 ++ [(⟨a2, a1, (-1)⟩ : S105)]), (a4.length : Int), aD, (y242 ++ y245), false, aH, 0)) else (none))) else (none))) else (none))) = some (r1, r2, r3, r4, r5, r6, r7) := by first | (rw [ap]; with_reducible exact H) | (have H2_ := (Option.bind_some _ _).symm.trans H; rw [ap]; with_reducible exact H2_) | (have H2_ := (Option.bind_some _ _).symm.trans H; with_reducible exact H2_) | with_reducible exact H | (rw [ap]; exact H) | exact H
           have cG := Z0.mk ap
           clear ap
           have c39b0 := eq_true (of_decide_eq_true (by assumption) : 0 ≤ aC)
           have c40b0 := eq_true (of_decide_eq_true (by assumption) : aC ≤ (a5.length : Int))
           obtain ⟨y245, aq⟩ : ∃ y_ : List (S122), y_ = (a5.drop (aC : Int).toNat) := ⟨_, rfl⟩
           replace H : (if y242.length + y245.length < 5864062014805 then ((some (([] : List (S105)) : List (S105))).bind fun y252 => (if y252.length + a4.length < 5864062014805 then ((some (y252 ++ a4 : List (S105))).bind fun y255 => (if y255.length < 5864062014805 then (some ((y255 ++ [(⟨a2, a1, (-1)⟩ : S105)]), (a4.length : Int), aD, (y242 ++ y245), false, aH, 0)) else (none))) else (none))) else (none)) = some (r1, r2, r3, r4, r5, r6, r7) := by first | (rw [aq]; with_reducible exact H) | (have H2_ := (Option.bind_some _ _).symm.trans H; rw [aq]; with_reducible exact H2_) | (have H2_ := (Option.bind_some _ _).symm.trans H; with_reducible exact H2_) | with_reducible exact H | (rw [aq]; exact H) | exact H
           have bK := Z0.mk aq
           clear aq
           by_cases c41 : y242.length + y245.length < 5864062014805
           ·rw [if_pos c41] at H
            have cH := Z0.mk c41
            clear c41
            obtain ⟨y249, ar⟩ : ∃ y_ : List (S122), y_ = (y242 ++ y245) := ⟨_, rfl⟩
            replace H : ((some (([] : List (S105)) : List (S105))).bind fun y252 => (if y252.length + a4.length < 5864062014805 then ((some (y252 ++ a4 : List (S105))).bind fun y255 => (if y255.length < 5864062014805 then (some ((y255 ++ [(⟨a2, a1, (-1)⟩ : S105)]), (a4.length : Int), aD, y249, false, aH, 0)) else (none))) else (none))) = some (r1, r2, r3, r4, r5, r6, r7) := by first | (rw [ar]; with_reducible exact H) | (have H2_ := (Option.bind_some _ _).symm.trans H; rw [ar]; with_reducible exact H2_) | (have H2_ := (Option.bind_some _ _).symm.trans H; with_reducible exact H2_) | with_reducible exact H | (rw [ar]; exact H) | exact H
            have cI := Z0.mk ar
            clear ar
            obtain ⟨y252, au⟩ : ∃ y_ : List (S105), y_ = (([] : List (S105))) := ⟨_, rfl⟩
            replace H : (if y252.length + a4.length < 5864062014805 then ((some (y252 ++ a4 : List (S105))).bind fun y255 => (if y255.length < 5864062014805 then (some ((y255 ++ [(⟨a2, a1, (-1)⟩ : S105)]), (a4.length : Int), aD, y249, false, aH, 0)) else (none))) else (none)) = some (r1, r2, r3, r4, r5, r6, r7) := by first | (rw [au]; with_reducible exact H) | (have H2_ := (Option.bind_some _ _).symm.trans H; rw [au]; with_reducible exact H2_) | (have H2_ := (Option.bind_some _ _).symm.trans H; with_reducible exact H2_) | with_reducible exact H | (rw [au]; exact H) | exact H
            have bL := Z0.mk au
            clear au
            by_cases c42 : y252.length + a4.length < 5864062014805
            ·rw [if_pos c42] at H
             have cJ := Z0.mk c42
             clear c42
             obtain ⟨y255, av⟩ : ∃ y_ : List (S105), y_ = (y252 ++ a4) := ⟨_, rfl⟩
             replace H : (if y255.length < 5864062014805 then (some ((y255 ++ [(⟨a2, a1, (-1)⟩ : S105)]), (a4.length : Int), aD, y249, false, aH, 0)) else (none)) = some (r1, r2, r3, r4, r5, r6, r7) := by first | (rw [av]; with_reducible exact H) | (have H2_ := (Option.bind_some _ _).symm.trans H; rw [av]; with_reducible exact H2_) | (have H2_ := (Option.bind_some _ _).symm.trans H; with_reducible exact H2_) | with_reducible exact H | (rw [av]; exact H) | exact H
             have cK := Z0.mk av
             clear av
             by_cases c43 : y255.length < 5864062014805
             ·rw [if_pos c43] at H
              have cL := Z0.mk c43
              clear c43
              obtain ⟨y258, aw⟩ : ∃ y_ : List (S105), y_ = (y255 ++ [(⟨a2, a1, (-1)⟩ : S105)]) := ⟨_, rfl⟩
              replace H : (some (y258, (a4.length : Int), aD, y249, false, aH, 0)) = some (r1, r2, r3, r4, r5, r6, r7) := by first | (rw [aw]; with_reducible exact H) | (have H2_ := (Option.bind_some _ _).symm.trans H; rw [aw]; with_reducible exact H2_) | (have H2_ := (Option.bind_some _ _).symm.trans H; with_reducible exact H2_) | with_reducible exact H | (rw [aw]; exact H) | exact H
              have cM := Z0.mk aw
              clear aw
              simp only [Option.some.injEq, Prod.mk.injEq] at H
              obtain ⟨rfl, rfl, rfl, rfl, rfl, rfl, rfl⟩ := H
              have hnb44 := aU.out
              have hnc44 := aN.out
              have dO : wr.cell? ⟨a6, 0, none⟩ = some (.slice aa a4.length ab) := (kC a0.out 0).trans rfl
              have dP : wr.cell? ⟨a6, 1, none⟩ = some (.int .i64 aM) := (kC a0.out 1).trans rfl
              have dQ : wr.cell? ⟨a6, 2, none⟩ = some (.int .i64 aD) := (kC a0.out 2).trans rfl
              have dR : wr.cell? ⟨a6, 3, none⟩ = some (.slice aW a5.length aV) := (kC a0.out 3).trans rfl
              have dS : wr.cell? ⟨a6, 4, none⟩ = some (.bool aH) := (kC a0.out 4).trans rfl
              have dT := kF a0.out 0
              have dU := kF a0.out 1
              have dV := kF a0.out 2
              have dW := kF a0.out 3
              have dX := kF a0.out 4
              go_wp2_with (first | ((with_reducible refine gate_dst (N := 61) rfl ?_); refine Kd.R_lit k122 _ 122 ?hg (N := 61) ?hd (xs := ([] : List (S122))) (inner := []) (ok := fun _ => True) (okp := fun _ => True) ?hr ?hp (fun _ hk => hk) trivial (Below.refl _ _) (Nat.le_refl _) (by simp) ?_; (case hd => rfl); (case hg => rfl); (case hr => first | (go_simp; done) | (go_simp; rfl)); (case hp => exact (Reps.none _ _)); intro v233 w46 ho47 hb hg_ hnew_; clear hg_ hnew_; (first | rw [← bI.out] at ho47 | (simp only [Int.reduceToNat] at ho47; rw [← bI.out] at ho47)); have aI := Z0.mk (Kd.R_lower ho47 (bZ (by repeat (first | (with_reducible first | apply bA | apply bN | apply bD | refine bS ?_ aA.out | refine bS ?_ aK.out) | exact HB.out)))); have aJ := Z0.mk (kB (by (with_reducible repeat first | apply kN | apply kD | apply kA); exact a0.out) hb); have aE := Z0.mk (kB (by (with_reducible repeat first | apply kN | apply kD | apply kA); exact a3.out) hb); have aQ := Z0.mk (bP (by repeat (first | (with_reducible first | apply bA | apply bN | apply bD | refine bS ?_ aA.out | refine bS ?_ aK.out) | exact HB.out)) hb); clear a0 a3 HB; have b4 := aI; have a0 := aJ; have a3 := aE; have HB := aQ; clear aI aJ aE aQ hb ho47; obtain ⟨dY, dZ, da, db, dc, dd, de, df, dg, dh⟩ := kc5 a0.out; have q49 : (aC : Int) ≤ ((a5.length : Int) : Int) := of_decide_eq_true (by assumption); obtain ⟨i049, hi049, _, hsz49, _⟩ := info_parts info122; have hroom49 : a5.length ≤ aV := al.out; have hC49 : Kd.C k122 _ aW a5.length a5 := ai.out; have hcut49 := cut_to (P := Try.prog) 44 122 .i64 Try.underlying44 hi049 aW a5.length aV aC (of_decide_eq_true (by assumption)) q49 hroom49; have hr49 := Kd.C_take (m := (aC : Int).toNat) hC49 (by omega); have b9 : y235.length = (aC : Int).toNat := (by rw [bJ.out, List.length_take]; omega); rw [← bJ.out] at hr49; rw [← b9] at hcut49; have cN := Z0.mk hr49; have f2 := Z0.mk (show y235.length ≤ aV from by omega); clear hr49 hC49 hroom49 hi049 hsz49; have f4 := Z0.mk b9; clear b9; replace q49 := eq_true q49) | ((with_reducible refine gate_builtin (b := .append) (xs := #[.tmp 61, .tmp 65]) rfl ?_); at_builtin; refine Kd.R_append_rows k122 (w0 := w) w.heap.size rfl (.tmp 61) (.tmp 65) 44 122 (.agg #[(.int .i64 0), (.int .i64 0), (.int .i64 0)]) 24 rfl Try.underlying44 info122 rfl (by decide) (by omega) v233 y232 y235 _ _ _ (fun _ => True) (fun _ => False) rfl rfl ?aO ?aR (fun _ _ h => h) (fun _ h => h.elim) ?aF ?aB ?aS ?aL ?_; (case aR => repeat (first | exact (Kd.C_below cN.out HB.out) | (with_reducible refine Kd.C_alloc ?_ _) | (with_reducible refine Kd.C_drewN ?_ _) | (with_reducible refine Kd.C_drew ?_))); (case aB => exact (by repeat (first | (with_reducible first | apply bA | apply bN | apply bD | refine bS ?_ aA.out | refine bS ?_ aK.out) | exact HB.out))); (case aF => exact (fun _ _ => trivial)); (case aO => exact (by (with_reducible repeat (first | apply Kd.R_alloc | apply Kd.R_drewN | apply Kd.R_drew)); exact b4.out)); (case aS => exact (bZ (by repeat (first | (with_reducible first | apply bA | apply bN | apply bD | refine bS ?_ aA.out | refine bS ?_ aK.out) | exact HB.out)))); (case aL => have := cD.out; omega); intro v240 w50 ho hb hg hat; rw [← cE.out] at ho; have aI := Z0.mk (blk_grown (by (with_reducible repeat first | apply kN | apply kD | apply kA); exact a0.out) hg (Kd.R_ne b4.out a0.out (by decide))); have aJ := Z0.mk (blk_grown (by (with_reducible repeat first | apply kN | apply kD | apply kA); exact a3.out) hg (Kd.R_ne b4.out a3.out (by decide))); have aE := Z0.mk (hb); have aQ := Z0.mk (ho); clear a0 a3 HB b4; have a0 := aI; have a3 := aJ; have HB := aE; have b5 := aQ; clear aI aJ aE aQ ho hb hg hat; obtain ⟨di, dj, dk, dl, dm, dn, dp, dq, dr, ds⟩ := kc5 a0.out) | ((with_reducible refine gate_builtin (b := .append) (xs := #[.tmp 67, .tmp 73]) rfl ?_); at_builtin; refine Kd.R_append k122 (w0 := w) w.heap.size rfl (.tmp 67) (.tmp 73) 44 122 (.agg #[(.int .i64 0), (.int .i64 0), (.int .i64 0)]) 24 rfl Try.underlying44 info122 rfl (by decide) (by omega) v240 y239 (⟨a1, aM, (a4.length : Int)⟩ : S122) [.int .i64 a1, .int .i64 aM, .int .i64 (a4.length : Int)] (fun _ => True) (fun _ => False) rfl rfl ?aP (fun _ hk => hk.elim) ?aF ?aO ?aB ?aS ?aL ?_; (case aP => exact k122_mkM _ _ _ (⟨a1, aM, (a4.length : Int)⟩ : S122)); (case aB => exact (by repeat (first | (with_reducible first | apply bA | apply bN | apply bD | refine bS ?_ aA.out | refine bS ?_ aK.out) | exact HB.out))); (case aF => exact (fun _ _ => trivial)); (case aO => exact (by (with_reducible repeat (first | apply Kd.R_alloc | apply Kd.R_drewN | apply Kd.R_drew)); exact b5.out)); (case aS => exact (bZ (by repeat (first | (with_reducible first | apply bA | apply bN | apply bD | refine bS ?_ aA.out | refine bS ?_ aK.out) | exact HB.out)))); (case aL => have := cF.out; omega); intro v243 w52 ho hb hg hat; rw [← cG.out] at ho; have aI := Z0.mk (blk_grown (by (with_reducible repeat first | apply kN | apply kD | apply kA); exact a0.out) hg (Kd.R_ne b5.out a0.out (by decide))); have aJ := Z0.mk (blk_grown (by (with_reducible repeat first | apply kN | apply kD | apply kA); exact a3.out) hg (Kd.R_ne b5.out a3.out (by decide))); have aE := Z0.mk (hb); have aQ := Z0.mk (ho); clear a0 a3 HB b5; have a0 := aI; have a3 := aJ; have HB := aE; have b6 := aQ; clear aI aJ aE aQ ho hb hg hat; obtain ⟨dt, du, dv, dw, dx, dy, dz, e0, e1, e2⟩ := kc5 a0.out; have q54 : (aC : Int) ≤ ((a5.length : Int) : Int) := of_decide_eq_true (by assumption); obtain ⟨i054, hi054, _, hsz54, _⟩ := info_parts info122; have hroom54 : a5.length ≤ aV := al.out; have hC54 : Kd.C k122 _ aW a5.length a5 := ai.out; have q054 : (0 : Int) ≤ (aC : Int) := of_decide_eq_true (by assumption); have hcut54 := cut_from (P := Try.prog) 44 122 .i64 Try.underlying44 hi054 3 hsz54 aW a5.length aV aC q054 q54; have hr54 := Kd.C_drop (m := (aC : Int).toNat) (c := aV) hC54 (by omega) hroom54; obtain ⟨A54, hA54⟩ : ∃ A1, A1 = (if aV = (aC : Int).toNat then aW else (aW : Option Addr).map (·.add ((aC : Int).toNat * 3))) := ⟨_, rfl⟩; obtain ⟨c54, hc54⟩ : ∃ c1, c1 = aV - (aC : Int).toNat := ⟨_, rfl⟩; have b8 : y245.length = a5.length - (aC : Int).toNat := (by rw [bK.out, List.length_drop] <;> omega); rw [show (a5).drop (aC : Int).toNat = y245 from bK.out.symm] at hr54; replace hr54 : Kd.C k122 _ A54 y245.length y245 := (by rw [hA54]; exact hr54); rw [← b8, ← hA54, ← hc54] at hcut54; have cO := Z0.mk hr54; have f3 := Z0.mk (show y245.length ≤ c54 from by rw [b8, hc54]; exact Nat.sub_le_sub_right hroom54 _); clear hr54 hC54 hroom54 hi054 hsz54 hc54; have f5 := Z0.mk b8; have f6 := Z0.mk hA54; clear b8 hA54; replace q54 := eq_true q54) | ((with_reducible refine gate_builtin (b := .append) (xs := #[.tmp 75, .tmp 79]) rfl ?_); at_builtin; refine Kd.R_append_rows k122 (w0 := w) w.heap.size rfl (.tmp 75) (.tmp 79) 44 122 (.agg #[(.int .i64 0), (.int .i64 0), (.int .i64 0)]) 24 rfl Try.underlying44 info122 rfl (by decide) (by omega) v243 y242 y245 _ _ _ (fun _ => True) (fun _ => False) rfl rfl ?aO ?aR (fun _ _ h => h) (fun _ h => h.elim) ?aF ?aB ?aS ?aL ?_; (case aR => repeat (first | exact (Kd.C_below cO.out HB.out) | (with_reducible refine Kd.C_alloc ?_ _) | (with_reducible refine Kd.C_drewN ?_ _) | (with_reducible refine Kd.C_drew ?_))); (case aB => exact (by repeat (first | (with_reducible first | apply bA | apply bN | apply bD | refine bS ?_ aA.out | refine bS ?_ aK.out) | exact HB.out))); (case aF => exact (fun _ _ => trivial)); (case aO => exact (by (with_reducible repeat (first | apply Kd.R_alloc | apply Kd.R_drewN | apply Kd.R_drew)); exact b6.out)); (case aS => exact (bZ (by repeat (first | (with_reducible first | apply bA | apply bN | apply bD | refine bS ?_ aA.out | refine bS ?_ aK.out) | exact HB.out)))); (case aL => have := cH.out; omega); intro v250 w55 ho hb hg hat; rw [← cI.out] at ho; have aI := Z0.mk (blk_grown (by (with_reducible repeat first | apply kN | apply kD | apply kA); exact a0.out) hg (Kd.R_ne b6.out a0.out (by decide))); have aJ := Z0.mk (blk_grown (by (with_reducible repeat first | apply kN | apply kD | apply kA); exact a3.out) hg (Kd.R_ne b6.out a3.out (by decide))); have aE := Z0.mk (hb); have aQ := Z0.mk (ho); clear a0 a3 HB b6; have a0 := aI; have a3 := aJ; have HB := aE; have ad := aQ; clear aI aJ aE aQ ho hb hg hat; obtain ⟨Ao56, co56, eo56⟩ := Kd.R_slice ad.out; subst eo56; obtain ⟨e3, e4, e5, e6, e7, e8, e9, eA, eB, eC⟩ := kc5 a0.out) | ((with_reducible refine gate_dst (N := 82) rfl ?_); refine Kd.R_lit k105 _ 105 ?hg (N := 82) ?hd (xs := ([] : List (S105))) (inner := []) (ok := fun _ => True) (okp := fun _ => True) ?hr ?hp (fun _ hk => hk) trivial (Below.refl _ _) (Nat.le_refl _) (by simp) ?_; (case hd => rfl); (case hg => rfl); (case hr => first | (go_simp; done) | (go_simp; rfl)); (case hp => exact (Reps.none _ _)); intro v253 w58 ho59 hb hg_ hnew_; clear hg_ hnew_; (first | rw [← bL.out] at ho59 | (simp only [Int.reduceToNat] at ho59; rw [← bL.out] at ho59)); have aI := Z0.mk (Kd.R_below (by (with_reducible repeat (first | apply Kd.R_alloc | apply Kd.R_drewN | apply Kd.R_drew)); exact (Kd.R_mono (Kd.R_far (p := ⟨a6, 3, none⟩) (Kd.R_types ad.out a0.out (by decide)) (fun _ hk => hk.2) (.slice Ao56 y249.length co56)) (fun _ h_ => h_.1))) hb); have aJ := Z0.mk (Kd.R_lower ho59 (bZ (by repeat (first | (with_reducible first | apply bA | apply bN | apply bD | refine bS ?_ aA.out | refine bS ?_ aK.out) | exact HB.out)))); have aE := Z0.mk (kB (g := a6) (o := .cells #[.slice aa a4.length ab, .int .i64 aM, .int .i64 aD, .slice Ao56 y249.length co56, .bool aH] 46 (0, 0)) (by (with_reducible repeat first | apply kN | apply kD | apply kA); refine blk_put (cs := #[.slice aa a4.length ab, .int .i64 aM, .int .i64 aD, .slice aW a5.length aV, .bool aH]) ?_ 3 _ rfl; (with_reducible repeat first | apply kN | apply kD | apply kA); exact a0.out) hb); have aQ := Z0.mk (kB (g := a9) (o := .cells #[.slice none 0 0, .int .i64 aT, .int .i64 aG, .slice none 0 0, .bool a7] 46 (0, 0)) (by (with_reducible repeat first | apply kN | apply kD | apply kA); refine blk_far ?_ aN.out _; (with_reducible repeat first | apply kN | apply kD | apply kA); exact a3.out) hb); have aj := Z0.mk (bP (by repeat (first | (with_reducible first | apply bA | apply bN | apply bD | refine bS ?_ aA.out | refine bS ?_ aK.out) | exact HB.out)) hb); clear ad a0 a3 HB; have ad := aI; have ax := aJ; have a0 := aE; have a3 := aQ; have HB := aj; clear aI aJ aE aQ aj hb ho59; obtain ⟨eD, eE, eF, eG, eH, eI, eJ, eK, eL, eM⟩ := kc5 a0.out) | ((with_reducible refine gate_builtin (b := .append) (xs := #[.tmp 82, .tmp 84]) rfl ?_); at_builtin; refine Kd.R_append_rows k105 (w0 := w) w.heap.size rfl (.tmp 82) (.tmp 84) 43 105 (.agg #[(.int .i64 0), (.int .i64 0), (.int .i64 0)]) 24 rfl Try.underlying43 info105 rfl (by decide) (by omega) v253 y252 a4 _ _ _ (fun _ => True) (fun _ => False) rfl rfl ?aO ?aR (fun _ _ h => h) (fun _ h => h.elim) ?aF ?aB ?aS ?aL ?_; (case aR => repeat (first | exact (Kd.C_below b3.out HB.out) | (with_reducible refine Kd.C_alloc ?_ _) | (with_reducible refine Kd.C_drewN ?_ _) | (with_reducible refine Kd.C_drew ?_))); (case aB => exact (by repeat (first | (with_reducible first | apply bA | apply bN | apply bD | refine bS ?_ aA.out | refine bS ?_ aK.out) | exact HB.out))); (case aF => exact (fun _ _ => trivial)); (case aO => exact (by (with_reducible repeat (first | apply Kd.R_alloc | apply Kd.R_drewN | apply Kd.R_drew)); exact ax.out)); (case aS => exact (bZ (by repeat (first | (with_reducible first | apply bA | apply bN | apply bD | refine bS ?_ aA.out | refine bS ?_ aK.out) | exact HB.out)))); (case aL => have := cJ.out; omega); intro v256 w61 ho hb hg hat; rw [← cK.out] at ho; have aI := Z0.mk (blk_grown (by (with_reducible repeat first | apply kN | apply kD | apply kA); exact a0.out) hg (Kd.R_ne ax.out a0.out (by decide))); have aJ := Z0.mk (blk_grown (by (with_reducible repeat first | apply kN | apply kD | apply kA); exact a3.out) hg (Kd.R_ne ax.out a3.out (by decide))); have aE := Z0.mk (Kd.R_over' (by (with_reducible repeat (first | apply Kd.R_alloc | apply Kd.R_drewN | apply Kd.R_drew)); exact ad.out) (Kd.R_typed (by (with_reducible repeat (first | apply Kd.R_alloc | apply Kd.R_drewN | apply Kd.R_drew)); exact ax.out)) (by decide) hg); have aQ := Z0.mk (hb); have aj := Z0.mk (ho); clear a0 a3 ad HB ax; have a0 := aI; have a3 := aJ; have ad := aE; have HB := aQ; have ay := aj; clear aI aJ aE aQ aj; clear ho hb hg hat) | ((with_reducible refine gate_builtin (b := .append) (xs := #[.tmp 85, .tmp 89]) rfl ?_); at_builtin; refine Kd.R_append k105 (w0 := w) w.heap.size rfl (.tmp 85) (.tmp 89) 43 105 (.agg #[(.int .i64 0), (.int .i64 0), (.int .i64 0)]) 24 rfl Try.underlying43 info105 rfl (by decide) (by omega) v256 y255 (⟨a2, a1, (-1)⟩ : S105) [.int .i64 a2, .int .i64 a1, .int .i64 (-1)] (fun _ => True) (fun _ => False) rfl rfl ?aP (fun _ hk => hk.elim) ?aF ?aO ?aB ?aS ?aL ?_; (case aP => exact k105_mkM _ _ _ (⟨a2, a1, (-1)⟩ : S105)); (case aB => exact (by repeat (first | (with_reducible first | apply bA | apply bN | apply bD | refine bS ?_ aA.out | refine bS ?_ aK.out) | exact HB.out))); (case aF => exact (fun _ _ => trivial)); (case aO => exact (by (with_reducible repeat (first | apply Kd.R_alloc | apply Kd.R_drewN | apply Kd.R_drew)); exact ay.out)); (case aS => exact (bZ (by repeat (first | (with_reducible first | apply bA | apply bN | apply bD | refine bS ?_ aA.out | refine bS ?_ aK.out) | exact HB.out)))); (case aL => have := cL.out; omega); intro v259 w62 ho hb hg hat; rw [← cM.out] at ho; have aI := Z0.mk (blk_grown (by (with_reducible repeat first | apply kN | apply kD | apply kA); exact a0.out) hg (Kd.R_ne ay.out a0.out (by decide))); have aJ := Z0.mk (blk_grown (by (with_reducible repeat first | apply kN | apply kD | apply kA); exact a3.out) hg (Kd.R_ne ay.out a3.out (by decide))); have aE := Z0.mk (Kd.R_over' (by (with_reducible repeat (first | apply Kd.R_alloc | apply Kd.R_drewN | apply Kd.R_drew)); exact ad.out) (Kd.R_typed (by (with_reducible repeat (first | apply Kd.R_alloc | apply Kd.R_drewN | apply Kd.R_drew)); exact ay.out)) (by decide) hg); have aQ := Z0.mk (hb); have aj := Z0.mk (ho); clear a0 a3 ad HB ay; have a0 := aI; have a3 := aJ; have ad := aE; have HB := aQ; have bM := aj; clear aI aJ aE aQ aj ho hb hg hat; obtain ⟨Ao63, co63, eo63⟩ := Kd.R_slice bM.out; subst eo63; obtain ⟨eN, eO, eP, eQ, eR, eS, eT, eU, eV, eW⟩ := kc5 a0.out; obtain ⟨eX, eY, eZ, ea, eb, ec, ed, ee, ef, eg⟩ := kc5 a3.out))
              refine bodyPost_ret (results_ctt rfl _ _ a9 46 #[.slice Ao63 y258.length co63, .int .i64 (a4.length : Int), .int .i64 aD, .slice Ao56 y249.length co56, .bool false] (0, 0) _ rfl (by (with_reducible repeat first | apply kN | apply kD | apply kA); refine blk_put (cs := #[.slice Ao63 y258.length co63, .int .i64 (a4.length : Int), .int .i64 aD, .slice Ao56 y249.length co56, .bool a7]) ?_ 4 _ rfl; (with_reducible repeat first | apply kN | apply kD | apply kA); refine blk_put (cs := #[.slice Ao63 y258.length co63, .int .i64 (a4.length : Int), .int .i64 aD, .slice none 0 0, .bool a7]) ?_ 3 _ rfl; (with_reducible repeat first | apply kN | apply kD | apply kA); refine blk_put (cs := #[.slice Ao63 y258.length co63, .int .i64 (a4.length : Int), .int .i64 aG, .slice none 0 0, .bool a7]) ?_ 2 _ rfl; (with_reducible repeat first | apply kN | apply kD | apply kA); refine blk_put (cs := #[.slice Ao63 y258.length co63, .int .i64 aT, .int .i64 aG, .slice none 0 0, .bool a7]) ?_ 1 _ rfl; (with_reducible repeat first | apply kN | apply kD | apply kA); refine blk_put (cs := #[.slice none 0 0, .int .i64 aT, .int .i64 aG, .slice none 0 0, .bool a7]) ?_ 0 _ rfl; (with_reducible repeat first | apply kN | apply kD | apply kA); refine blk_far ?_ aN.out _; (with_reducible repeat first | apply kN | apply kD | apply kA); refine blk_far ?_ aN.out _; (with_reducible repeat first | apply kN | apply kD | apply kA); refine blk_far ?_ aN.out _; (with_reducible repeat first | apply kN | apply kD | apply kA); exact a3.out) Try.underlying46 rfl (by kernel_rfl)) rfl ?_
              exact ⟨_, _, by first | rfl | (simp [errW_none, errW_some] <;> rfl) | (simp [*, errW_none, errW_some] <;> rfl), by (with_reducible repeat (first | apply Kd.R_alloc | apply Kd.R_drewN | apply Kd.R_drew)); exact Kd.R_mono (Kd.R_far (p := ⟨a9, 4, none⟩) (Kd.R_far (p := ⟨a9, 3, none⟩) (Kd.R_far (p := ⟨a9, 2, none⟩) (Kd.R_far (p := ⟨a9, 1, none⟩) (Kd.R_far (p := ⟨a9, 0, none⟩) (Kd.R_far (p := ⟨a6, 4, none⟩) (Kd.R_far (p := ⟨a6, 1, none⟩) (Kd.R_far (p := ⟨a6, 0, none⟩) (Kd.R_types (Kd.R_types bM.out a0.out (by decide)) a3.out (by decide)) (fun _ hk => hk.1.2) (.slice Ao63 y258.length co63)) (fun _ hk => hk.1.2) (.int .i64 (a4.length : Int))) (fun _ hk => hk.1.2) (.bool false)) (fun _ hk => hk.2) (.slice Ao63 y258.length co63)) (fun _ hk => hk.2) (.int .i64 (a4.length : Int))) (fun _ hk => hk.2) (.int .i64 aD)) (fun _ hk => hk.2) (.slice Ao56 y249.length co56)) (fun _ hk => hk.2) (.bool false)) (fun _ hk => trivial), by (with_reducible repeat (first | apply Kd.R_alloc | apply Kd.R_drewN | apply Kd.R_drew)); exact Kd.R_mono (Kd.R_far (p := ⟨a9, 4, none⟩) (Kd.R_far (p := ⟨a9, 3, none⟩) (Kd.R_far (p := ⟨a9, 2, none⟩) (Kd.R_far (p := ⟨a9, 1, none⟩) (Kd.R_far (p := ⟨a9, 0, none⟩) (Kd.R_far (p := ⟨a6, 4, none⟩) (Kd.R_far (p := ⟨a6, 1, none⟩) (Kd.R_far (p := ⟨a6, 0, none⟩) (Kd.R_types (Kd.R_types ad.out a0.out (by decide)) a3.out (by decide)) (fun _ hk => hk.1.2) (.slice Ao63 y258.length co63)) (fun _ hk => hk.1.2) (.int .i64 (a4.length : Int))) (fun _ hk => hk.1.2) (.bool false)) (fun _ hk => hk.2) (.slice Ao63 y258.length co63)) (fun _ hk => hk.2) (.int .i64 (a4.length : Int))) (fun _ hk => hk.2) (.int .i64 aD)) (fun _ hk => hk.2) (.slice Ao56 y249.length co56)) (fun _ hk => hk.2) (.bool false)) (fun _ hk => trivial), by repeat (first | (with_reducible first | apply bA | apply bN | apply bD | refine bS ?_ aA.out | refine bS ?_ aK.out) | exact HB.out)⟩
             ·rw [if_neg c43] at H
              exact absurd H (by simp)
            ·rw [if_neg c42] at H
             exact absurd H (by simp)
           ·rw [if_neg c41] at H
            exact absurd H (by simp)
          ·rw [if_neg c38] at H
           exact absurd H (by simp)
         ·rw [if_neg c37] at H
          exact absurd H (by simp)
        ·rw [if_neg c36] at H
         exact absurd H (by simp)
       ·rw [if_neg c35] at H
        exact absurd H (by simp)
 ·rw [if_neg c5] at H
  have c5b0 : (t231 == 0) = false := beq_eq_false_iff_ne.mpr c5
  have c5b1 : (t231 != 0) = true := bne_iff_ne.mpr c5
  simp only [Option.some.injEq, Prod.mk.injEq] at H
  obtain ⟨rfl, rfl, rfl, rfl, rfl, rfl, rfl⟩ := H
  go_enter Try.func46, Try.ntmps46
  go_wp2_with (first | ((with_reducible refine gate_dst (N := 3) rfl ?_); refine box_event ?hg (N := 3) ?hd (cs := #[.slice aa a4.length ab, .int .i64 aM, .int .i64 aD, .slice aW a5.length aV, .bool aH]) (t := 46) ?hr ?_; (case hd => rfl); (case hg => rfl); (case hr => first | (go_simp; done) | (go_simp; rfl)); intro a6 hg w66 hbox hb; have aI := Z0.mk (bP (by repeat (first | (with_reducible first | apply bA | apply bN | apply bD) | exact HB.out)) hb); have aJ := Z0.mk (hbox); have aE := Z0.mk ((by rw [hg]; exact (bZ (by repeat (first | (with_reducible first | apply bA | apply bN | apply bD) | exact HB.out))) : w.heap.size ≤ a6)); have aQ := aE; clear HB; have HB := aI; have a0 := aJ; have bG := aE; have aA := aQ; clear aI aJ aE aQ; clear hb hbox hg) | ((with_reducible refine gate_dst (N := 6) rfl ?_); refine box_event ?hg (N := 6) ?hd (cs := #[.slice none 0 0, .int .i64 0, .int .i64 0, .slice none 0 0, .bool false]) (t := 46) ?hr ?_; (case hd => rfl); (case hg => rfl); (case hr => first | (go_simp; done) | (go_simp; rfl)); intro a9 hg w67 hbox hb; have aI := Z0.mk (kB (by (with_reducible repeat first | apply kN | apply kD | apply kA); exact a0.out) hb); have aJ := Z0.mk (bP (by repeat (first | (with_reducible first | apply bA | apply bN | apply bD | refine bS ?_ aA.out) | exact HB.out)) hb); have aE := Z0.mk (hbox); have aQ := Z0.mk ((by rw [hg]; exact (bZ (by repeat (first | (with_reducible first | apply bA | apply bN | apply bD | refine bS ?_ aA.out) | exact HB.out))) : w.heap.size ≤ a9)); have aj := aQ; have ak := Z0.mk ((by rw [hg]; exact Nat.ne_of_lt (blk_lt (by (with_reducible repeat first | apply kN | apply kD | apply kA); exact a0.out)) : a6 ≠ a9)); have b2 := Z0.mk (Ne.symm ak.out); clear a0 HB; have a0 := aI; have HB := aJ; have a3 := aE; have bH := aQ; have aK := aj; have aU := ak; have aN := b2; clear aI aJ aE aQ aj ak b2 hb hbox hg; have hnb68 := aU.out; have hnc68 := aN.out; obtain ⟨eh, ei, ej, ek, el, em, en, eo, ep, eq⟩ := kc5 a0.out) | ((with_reducible refine gate_callee (f := 20) rfl ?_); refine goesL_ (some 16) rfl rfl Try.func20 (by kernel_rfl) rfl #[.agg #[.slice aa a4.length ab, .int .i64 aM, .int .i64 aD, .slice aW a5.length aV, .bool aH]] rfl (by (try simp only [List.map_toArray, List.map_cons, List.map_nil]); first | done | rfl | (simp only [List.length_drop, List.length_take]; rfl)) ?_; (with_reducible refine (hackamoreref28_Check.calls k _ _ a4 aM aD _ _ a5 aH t231 _ ?side1 ?side2 ?side3 ?side4 A4.out).mono ?_); (case side1 => repeat (first | exact (Kd.C_below b3.out HB.out) | (with_reducible refine Kd.C_alloc ?_ _) | (with_reducible refine Kd.C_drewN ?_ _) | (with_reducible refine Kd.C_drew ?_))); (case side2 => exact b7.out); (case side3 => repeat (first | exact (Kd.C_below ai.out HB.out) | (with_reducible refine Kd.C_alloc ?_ _) | (with_reducible refine Kd.C_drewN ?_ _) | (with_reducible refine Kd.C_drew ?_))); (case side4 => exact al.out); rintro e w70 ⟨rfl, hb⟩; refine ⟨_, rfl, ?_⟩; have aI := Z0.mk (kB (by (with_reducible repeat first | apply kN | apply kD | apply kA); exact a0.out) hb); have aJ := Z0.mk (kB (by (with_reducible repeat first | apply kN | apply kD | apply kA); exact a3.out) hb); have aE := Z0.mk (bP (by repeat (first | (with_reducible first | apply bA | apply bN | apply bD | refine bS ?_ aA.out | refine bS ?_ aK.out) | exact HB.out)) hb); clear a0 a3 HB; have a0 := aI; have a3 := aJ; have HB := aE; clear aI aJ aE; (try clear hb); (try clear hb2); (try clear hk); (try clear hi); obtain ⟨er, es, et, eu, ev, ew, ex, ey, ez, f1⟩ := kc5 a3.out))
  refine bodyPost_ret (results_ctt rfl _ _ a9 46 #[.slice none 0 0, .int .i64 0, .int .i64 0, .slice none 0 0, .bool false] (0, 0) _ rfl (by (with_reducible repeat first | apply kN | apply kD | apply kA); refine blk_put (cs := #[.slice none 0 0, .int .i64 0, .int .i64 0, .slice none 0 0, .bool false]) ?_ 4 _ rfl; (with_reducible repeat first | apply kN | apply kD | apply kA); refine blk_put (cs := #[.slice none 0 0, .int .i64 0, .int .i64 0, .slice none 0 0, .bool false]) ?_ 3 _ rfl; (with_reducible repeat first | apply kN | apply kD | apply kA); refine blk_put (cs := #[.slice none 0 0, .int .i64 0, .int .i64 0, .slice none 0 0, .bool false]) ?_ 2 _ rfl; (with_reducible repeat first | apply kN | apply kD | apply kA); refine blk_put (cs := #[.slice none 0 0, .int .i64 0, .int .i64 0, .slice none 0 0, .bool false]) ?_ 1 _ rfl; (with_reducible repeat first | apply kN | apply kD | apply kA); refine blk_put (cs := #[.slice none 0 0, .int .i64 0, .int .i64 0, .slice none 0 0, .bool false]) ?_ 0 _ rfl; (with_reducible repeat first | apply kN | apply kD | apply kA); exact a3.out) Try.underlying46 rfl (by kernel_rfl)) rfl ?_
  exact ⟨_, _, by first | rfl | (simp [errW_none, errW_some] <;> rfl) | (simp [*, errW_none, errW_some] <;> rfl), by first | exact Kd.R_nil _ _ _ _ _ | exact Kd.N_nil _ _ _ _ _ | exact Kd.V_nil _ _ _ _ _ | exact Kd.Q_nil _ _ _ _ _ | exact Kd.S_nil _ _ _ _ _, by first | exact Kd.R_nil _ _ _ _ _ | exact Kd.N_nil _ _ _ _ _ | exact Kd.V_nil _ _ _ _ _ | exact Kd.Q_nil _ _ _ _ _ | exact Kd.S_nil _ _ _ _ _, by repeat (first | (with_reducible first | apply bA | apply bN | apply bD | refine bS ?_ aA.out | refine bS ?_ aK.out) | exact HB.out)⟩
end Go.Proofs.Ytgbafpjeapkklaa.PMailboxRuns
