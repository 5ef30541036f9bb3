/- Parts Re, Rf of the proof. -/
import Derived.Test.YtgbafpjeapkklaaG5
namespace Go.Proofs.Ytgbafpjeapkklaa.PMailboxRuns
open Go.RowKit Go.Proofs.YtgbafpjeapkklaaW.PrintWords Go.Proofs.YtgbafpjeapkklaaW.PrintLast Go.Proofs.YtgbafpjeapkklaaW.PrintMore
attribute [local go_sem] max2_int min2_int max_two min_two max_three min_three max_four min_four
set_option linter.unusedVariables false
set_option linter.unusedSimpArgs false
def hackamoreref28_chain.l0 : Nat → Int → List Int → List (S105) → Int → Int → List (S122) → Bool → Option (List Int)
 | 0, _, _, _, _, _, _, _ => none
 | k + 1, x1, x5, aG, ad, ae, af, ag => if x1 = (-1) then (some x5) else (if x1 < 0 then (some ([] : List Int)) else (if x1 ≥ (aG.length : Int) then (some ([] : List Int)) else (if (x5.length : Int) > (aG.length : Int) then (some ([] : List Int)) else (if x5.length < 17592186044416 then (if 0 ≤ x1 then (if x1 < (aG.length : Int) then (hackamoreref28_chain.l0 k ((rZ5 aG x1).f2) (x5 ++ [x1]) aG ad ae af ag) else (none)) else (none)) else (none)))))
def hackamoreref28_chain.f (k : Nat) (a2 : List (S105)) (a8 : Int) (a9 : Int) (a7 : List (S122)) (aA : Bool) (a1 : Int) : Option (List Int) := hackamoreref28_chain.l0 k a1 (([] : List Int)) a2 a8 a9 a7 aA
set_option maxHeartbeats 8000000 in
set_option maxRecDepth 100000 in
theorem hackamoreref28_chain.calls (k : Nat) (aH : Option Addr) (aI : Nat) (a2 : List (S105)) (a8 : Int) (a9 : Int) (aJ : Option Addr) (aK : Nat) (a7 : List (S122)) (aA : Bool) (a1 : Int) (r : List Int) (w : World) (aY : Kd.C k105 w aH a2.length a2) (aZ : a2.length ≤ aI) (aa : Kd.C k122 w aJ a7.length a7) (ab : a7.length ≤ aK) (h : hackamoreref28_chain.f k a2 a8 a9 a7 aA a1 = some r) :
  Calls Try.prog 56 #[.agg #[.slice aH a2.length aI, .int .i64 a8, .int .i64 a9, .slice aJ a7.length aK, .bool aA], .int .i64 a1] w fun e w' => ∃ v0_ : Value, e = .returned (v0_) ∧ Kd.R (Kd.int .i64) 3 w' w.heap.size (fun _ => True) v0_ r ∧ Below w.heap.size w w' := by
 have hu46 := Try.underlying46
 have aj := Z0.mk aY
 have bc := Z0.mk aZ
 clear aY aZ
 have bd := Z0.mk aa
 have be := Z0.mk ab
 clear aa ab
 have HB := Z0.mk (Below.refl w.heap.size w)
 have H : (hackamoreref28_chain.l0 k a1 (([] : List Int)) a2 a8 a9 a7 aA) = some r := h
 clear h
 obtain ⟨y187, aM⟩ : ∃ y_ : List Int, y_ = (([] : List Int)) := ⟨_, rfl⟩
 replace H : (hackamoreref28_chain.l0 k a1 y187 a2 a8 a9 a7 aA) = some r := by first | (rw [aM]; with_reducible exact H) | (have H2_ := (Option.bind_some _ _).symm.trans H; rw [aM]; with_reducible exact H2_) | (have H2_ := (Option.bind_some _ _).symm.trans H; with_reducible exact H2_) | with_reducible exact H | (rw [aM]; exact H) | exact H
 have ac := Z0.mk aM
 clear aM
 have H' := Z0.mk H
 clear H
 go_enter Try.func56, Try.ntmps56
 go_wp2_with (first | ((with_reducible refine gate_dst (N := 2) rfl ?_); (try (refine gate_guard (by rfl) ?_; dsimp only)); refine box_event ?hg (N := 2) ?hd (cs := #[.slice aH a2.length aI, .int .i64 a8, .int .i64 a9, .slice aJ a7.length aK, .bool aA]) (t := 46) ?hr ?_; (case hd => rfl); (case hg => rfl); (case hr => first | (go_simp; done) | (go_simp; rfl)); intro a6 hg w3 hbox hb; have aW := Z0.mk (bP (by repeat (first | (with_reducible first | apply bA | apply bN | apply bD) | exact HB.out)) hb); have aX := Z0.mk (hbox); have aN := Z0.mk ((by rw [hg]; exact (bZ (by repeat (first | (with_reducible first | apply bA | apply bN | apply bD) | exact HB.out))) : w.heap.size ≤ a6)); have ao := aN; clear HB; have HB := aW; have a0 := aX; have bf := aN; have aC := ao; clear aW aX aN ao; clear hb hbox hg) | ((with_reducible refine gate_dst (N := 6) rfl ?_); (try (refine gate_guard (by rfl) ?_; dsimp only)); refine Kd.R_lit (Kd.int .i64) _ 3 ?hg (N := 6) ?hd (xs := ([] : List Int)) (inner := []) (ok := fun _ => True) (okp := fun _ => True) ?hr ?hp (fun _ hk => hk) trivial (Below.refl _ _) (Nat.le_refl _) (by simp) ?_; (case hd => rfl); (case hg => rfl); (case hr => first | (go_simp; done) | (go_simp; rfl)); (case hp => exact (Reps.none _ _)); intro v188 w4 ho5 hb hg_ hnew_; clear hg_ hnew_; (first | rw [← ac.out] at ho5 | (simp only [Int.reduceToNat] at ho5; rw [← ac.out] at ho5)); have aW := Z0.mk (Kd.R_lower ho5 (bZ (by repeat (first | (with_reducible first | apply bA | apply bN | apply bD | refine bS ?_ aC.out) | exact HB.out)))); have aX := Z0.mk (kB (by (with_reducible repeat first | apply kN | apply kD | apply kA); exact a0.out) hb); have aN := Z0.mk (bP (by repeat (first | (with_reducible first | apply bA | apply bN | apply bD | refine bS ?_ aC.out) | exact HB.out)) hb); clear a0 HB; have ak := aW; have a0 := aX; have HB := aN; clear aW aX aN; clear hb ho5))
 go_loopg [1, 5] k (fun kq v1 v5 w' => ∃ (a3 : Int) (aD : List Int), v1 = .int .i64 a3 ∧ Z0 (hackamoreref28_chain.l0 kq a3 aD a2 a8 a9 a7 aA = some r) ∧ Z0 (kq ≤ k) ∧ Z0 (Kd.R (Kd.int .i64) 3 w' w.heap.size (fun _ => True) v5 aD) ∧ Z0 (w'.heap[a6]? = some (.cells #[(.slice aH a2.length aI), .int .i64 a8, .int .i64 a9, (.slice aJ a7.length aK), .bool aA] 46 (0, 0))) ∧ Z0 (Below w.heap.size w w'))
 case atStart => exact ⟨(a1), (y187), (by first | rfl | (simp; done) | (simp [*]; done)), H', ⟨Nat.le_refl _⟩, ⟨by (with_reducible repeat (first | apply Kd.R_alloc | apply Kd.R_drewN | apply Kd.R_drew)); exact ak.out⟩, ⟨by (with_reducible repeat first | apply kN | apply kD | apply kA); exact a0.out⟩, ⟨by repeat (first | (with_reducible first | apply bA | apply bN | apply bD | refine bS ?_ aC.out) | exact HB.out)⟩⟩
 case round =>
  clear H'
  try clear p2
  try clear c5
  obtain ⟨a3, aD, rfl, HA, HK1, aR, a0, HB⟩ := hrel
  cases gk with
  | zero => exact absurd HA.out (by simp [hackamoreref28_chain.l0])
  | succ k1 =>
   have H := HA.out
   clear HA
   simp only [hackamoreref28_chain.l0] at H
   by_cases c6 : a3 = (-1)
   ·rw [if_pos c6] at H
    have c6b0 : (a3 == (-1)) = true := beq_iff_eq.mpr c6
    have c6b1 : (a3 != (-1)) = false := bne_eq_false_iff_eq.mpr c6
    clear c6
    obtain rfl := Option.some.inj H
    go_wp2
    go_ret
    exact ⟨_, by first | rfl | (simp [errW_none, errW_some] <;> rfl) | (simp [*, errW_none, errW_some] <;> rfl), by (with_reducible repeat (first | apply Kd.R_alloc | apply Kd.R_drewN | apply Kd.R_drew)); exact aR.out, by repeat (first | (with_reducible first | apply bA | apply bN | apply bD | refine bS ?_ aC.out) | exact HB.out)⟩
   ·rw [if_neg c6] at H
    have c6b0 : (a3 == (-1)) = false := beq_eq_false_iff_ne.mpr c6
    have c6b1 : (a3 != (-1)) = true := bne_iff_ne.mpr c6
    by_cases c7 : a3 < 0
    ·rw [if_pos c7] at H
     have c7b0 : decide (a3 < 0) = true := decide_eq_true c7
     clear c7
     obtain rfl := Option.some.inj H
     go_wp2
     go_ret
     exact ⟨_, by first | rfl | (simp [errW_none, errW_some] <;> rfl) | (simp [*, errW_none, errW_some] <;> rfl), by first | exact Kd.R_nil _ _ _ _ _ | exact Kd.N_nil _ _ _ _ _ | exact Kd.V_nil _ _ _ _ _ | exact Kd.Q_nil _ _ _ _ _ | exact Kd.S_nil _ _ _ _ _, by repeat (first | (with_reducible first | apply bA | apply bN | apply bD | refine bS ?_ aC.out) | exact HB.out)⟩
    ·rw [if_neg c7] at H
     have c7b0 : decide (a3 < 0) = false := decide_eq_false c7
     clear c7
     by_cases c8 : a3 ≥ (a2.length : Int)
     ·rw [if_pos c8] at H
      have c8b0 : decide ((a2.length : Int) ≤ a3) = true := decide_eq_true c8
      clear c8
      obtain rfl := Option.some.inj H
      have bO : wr.cell? ⟨a6, 0, none⟩ = some (.slice aH a2.length aI) := (kC a0.out 0).trans rfl
      have bQ : wr.cell? ⟨a6, 1, none⟩ = some (.int .i64 a8) := (kC a0.out 1).trans rfl
      have bR : wr.cell? ⟨a6, 2, none⟩ = some (.int .i64 a9) := (kC a0.out 2).trans rfl
      have bT : wr.cell? ⟨a6, 3, none⟩ = some (.slice aJ a7.length aK) := (kC a0.out 3).trans rfl
      have bU : wr.cell? ⟨a6, 4, none⟩ = some (.bool aA) := (kC a0.out 4).trans rfl
      have bV := kF a0.out 0
      have bW := kF a0.out 1
      have bX := kF a0.out 2
      have bY := kF a0.out 3
      have ba := kF a0.out 4
      go_wp2
      go_ret
      exact ⟨_, by first | rfl | (simp [errW_none, errW_some] <;> rfl) | (simp [*, errW_none, errW_some] <;> rfl), by first | exact Kd.R_nil _ _ _ _ _ | exact Kd.N_nil _ _ _ _ _ | exact Kd.V_nil _ _ _ _ _ | exact Kd.Q_nil _ _ _ _ _ | exact Kd.S_nil _ _ _ _ _, by repeat (first | (with_reducible first | apply bA | apply bN | apply bD | refine bS ?_ aC.out) | exact HB.out)⟩
     ·rw [if_neg c8] at H
      have c8b0 : decide ((a2.length : Int) ≤ a3) = false := decide_eq_false c8
      clear c8
      by_cases c10 : (aD.length : Int) > (a2.length : Int)
      ·rw [if_pos c10] at H
       have c10b0 : decide ((a2.length : Int) < (aD.length : Int)) = true := decide_eq_true c10
       have c10b1 : decide (a2.length < aD.length) = true := decide_eq_true (Int.ofNat_lt.mp c10)
       clear c10
       obtain rfl := Option.some.inj H
       have ap : wr.cell? ⟨a6, 0, none⟩ = some (.slice aH a2.length aI) := (kC a0.out 0).trans rfl
       have aq : wr.cell? ⟨a6, 1, none⟩ = some (.int .i64 a8) := (kC a0.out 1).trans rfl
       have ar : wr.cell? ⟨a6, 2, none⟩ = some (.int .i64 a9) := (kC a0.out 2).trans rfl
       have au : wr.cell? ⟨a6, 3, none⟩ = some (.slice aJ a7.length aK) := (kC a0.out 3).trans rfl
       have av : wr.cell? ⟨a6, 4, none⟩ = some (.bool aA) := (kC a0.out 4).trans rfl
       have aw := kF a0.out 0
       have ax := kF a0.out 1
       have ay := kF a0.out 2
       have az := kF a0.out 3
       have b0 := kF a0.out 4
       obtain ⟨Ao12, co12, eo12⟩ := Kd.R_slice aR.out
       subst eo12
       go_wp2
       go_ret
       exact ⟨_, by first | rfl | (simp [errW_none, errW_some] <;> rfl) | (simp [*, errW_none, errW_some] <;> rfl), by first | exact Kd.R_nil _ _ _ _ _ | exact Kd.N_nil _ _ _ _ _ | exact Kd.V_nil _ _ _ _ _ | exact Kd.Q_nil _ _ _ _ _ | exact Kd.S_nil _ _ _ _ _, by repeat (first | (with_reducible first | apply bA | apply bN | apply bD | refine bS ?_ aC.out) | exact HB.out)⟩
      ·rw [if_neg c10] at H
       have c10b0 : decide ((a2.length : Int) < (aD.length : Int)) = false := decide_eq_false c10
       have c10b1 : decide (a2.length < aD.length) = false := decide_eq_false (fun h => c10 (Int.ofNat_lt.mpr h))
       clear c10
       by_cases c13 : aD.length < 17592186044416
       ·rw [if_pos c13] at H
        have al := Z0.mk c13
        clear c13
        obtain ⟨y190, aQ⟩ : ∃ y_ : List Int, y_ = (aD ++ [a3]) := ⟨_, rfl⟩
        replace H : (if 0 ≤ a3 then (if a3 < (a2.length : Int) then (hackamoreref28_chain.l0 k1 ((rZ5 a2 a3).f2) y190 a2 a8 a9 a7 aA) else (none)) else (none)) = some r := by first | (rw [aQ]; with_reducible exact H) | (have H2_ := (Option.bind_some _ _).symm.trans H; rw [aQ]; with_reducible exact H2_) | (have H2_ := (Option.bind_some _ _).symm.trans H; with_reducible exact H2_) | with_reducible exact H | (rw [aQ]; exact H) | exact H
        have am := Z0.mk aQ
        clear aQ
        by_cases c14 : 0 ≤ a3
        ·rw [if_pos c14] at H
         have c14b0 : decide (0 ≤ a3) = true := decide_eq_true c14
         clear c14
         by_cases c15 : a3 < (a2.length : Int)
         ·rw [if_pos c15] at H
          have c15b0 : decide (a3 < (a2.length : Int)) = true := decide_eq_true c15
          clear c15
          have H' := Z0.mk H
          clear H
          have b1 : wr.cell? ⟨a6, 0, none⟩ = some (.slice aH a2.length aI) := (kC a0.out 0).trans rfl
          have b2 : wr.cell? ⟨a6, 1, none⟩ = some (.int .i64 a8) := (kC a0.out 1).trans rfl
          have b3 : wr.cell? ⟨a6, 2, none⟩ = some (.int .i64 a9) := (kC a0.out 2).trans rfl
          have b4 : wr.cell? ⟨a6, 3, none⟩ = some (.slice aJ a7.length aK) := (kC a0.out 3).trans rfl
          have b5 : wr.cell? ⟨a6, 4, none⟩ = some (.bool aA) := (kC a0.out 4).trans rfl
          have b6 := kF a0.out 0
          have b7 := kF a0.out 1
          have b8 := kF a0.out 2
          have b9 := kF a0.out 3
          have bB := kF a0.out 4
          obtain ⟨Ao17, co17, eo17⟩ := Kd.R_slice aR.out
          subst eo17
          go_wp2_with (first | ((with_reducible refine gate_builtin (b := .append) (xs := #[.tmp 26, .tmp 28]) rfl ?_); (try (refine gate_guard (by rfl) ?_; dsimp only)); at_builtin; refine Kd.R_append (Kd.int .i64) (w0 := w) w.heap.size rfl (.tmp 26) (.tmp 28) 30 3 (.int .i64 0) 8 rfl Try.underlying30 info3 rfl (by decide) (by omega) (.slice Ao17 aD.length co17) aD a3 [.int .i64 a3] (fun _ => True) (fun _ => False) rfl rfl ?aP (fun _ hk => hk.elim) ?aF ?aO ?aB ?aS ?aL ?_; (case aP => exact rfl); (case aB => exact (by repeat (first | (with_reducible first | apply bA | apply bN | apply bD | refine bS ?_ aC.out) | exact HB.out))); (case aF => exact (fun _ _ => trivial)); (case aO => exact (by (with_reducible repeat (first | apply Kd.R_alloc | apply Kd.R_drewN | apply Kd.R_drew)); exact aR.out)); (case aS => exact (bZ (by repeat (first | (with_reducible first | apply bA | apply bN | apply bD | refine bS ?_ aC.out) | exact HB.out)))); (case aL => have := al.out; omega); intro v191 w18 ho hb hg hat; rw [← am.out] at ho; have aW := Z0.mk (blk_grown (by (with_reducible repeat first | apply kN | apply kD | apply kA); exact a0.out) hg (Kd.R_ne aR.out a0.out (by decide))); have aX := Z0.mk (hb); have aN := Z0.mk (ho); clear a0 HB aR; have a0 := aW; have HB := aX; have an := aN; clear aW aX aN ho hb hg hat; obtain ⟨bC, bE, bF, bG, bH, bI, bJ, bK, bL, bM⟩ := kc5 a0.out; have p193 : 0 ≤ (a3 : Int) := of_decide_eq_true (by assumption); have q193 : a3 < (a2.length : Int) := of_decide_eq_true (by assumption); obtain ⟨ad193, e193, aT, aU, aV⟩ := at_T105 aj.out a3 p193 q193; cases e193; replace aT := (HB.out.cell (World.block_lt_of_cell? w _ aT)).trans aT; replace aU := (HB.out.cell (World.block_lt_of_cell? w _ aU)).trans aU; replace aV := (HB.out.cell (World.block_lt_of_cell? w _ aV)).trans aV; replace p193 := eq_true p193; replace q193 := eq_true q193))
          go_roundg k1
          case measure => have := HK1.out; omega
          case rel => exact ⟨((rZ5 a2 a3).f2), (y190), (by first | rfl | (simp; done) | (simp [*]; done)), H', ⟨by have := HK1.out; omega⟩, ⟨by (with_reducible repeat (first | apply Kd.R_alloc | apply Kd.R_drewN | apply Kd.R_drew)); exact an.out⟩, ⟨by (with_reducible repeat first | apply kN | apply kD | apply kA); exact a0.out⟩, ⟨by repeat (first | (with_reducible first | apply bA | apply bN | apply bD | refine bS ?_ aC.out) | exact HB.out)⟩⟩
         ·rw [if_neg c15] at H
          exact absurd H (by simp)
        ·rw [if_neg c14] at H
         exact absurd H (by simp)
       ·rw [if_neg c13] at H
        exact absurd H (by simp)
mutual
def hackamoreref28_distinct.l0 : Nat → List Int → Int → Option (List Int)
 | 0, _, _ => none
 | k + 1, x0, x3 => if x3 < (x0.length : Int) then (hackamoreref28_distinct.l1 k x0 x3 0) else (some x0)
def hackamoreref28_distinct.l1 : Nat → List Int → Int → Int → Option (List Int)
 | 0, _, _, _ => none
 | k + 1, x0, x3, x4 => if x4 < x3 then (if 0 ≤ x3 then (if x3 < (x0.length : Int) then (if 0 ≤ x4 then (if x4 < (x0.length : Int) then (if (rd x0 x3) = (rd x0 x4) then (some ([] : List Int)) else (hackamoreref28_distinct.l1 k x0 x3 (wrap64 (x4 + 1)))) else (none)) else (none)) else (none)) else (none)) else (hackamoreref28_distinct.l0 k x0 (wrap64 (x3 + 1)))
end
def hackamoreref28_distinct.f (k : Nat) (l0 : List Int) : Option (List Int) := hackamoreref28_distinct.l0 k l0 0
set_option maxHeartbeats 8000000 in
set_option maxRecDepth 100000 in
theorem hackamoreref28_distinct.calls (k : Nat) (P0_ : Nat → Prop) (u9000_ : Value) (l0 : List Int) (r : List Int) (w0 w : World) (hB : Below w0.heap.size w0 w) (ho0 : Kd.R (Kd.int .i64) 3 w w0.heap.size P0_ u9000_ l0) (h : hackamoreref28_distinct.f k l0 = some r) :
  Calls Try.prog 67 #[u9000_] w fun e w' => ∃ v0_ : Value, e = .returned (v0_) ∧ Kd.R (Kd.int .i64) 3 w' w0.heap.size (fun k_ => (P0_ k_ ∨ w.heap.size ≤ k_)) v0_ r ∧ Below w0.heap.size w0 w' ∧ Kept w w' (fun k_ => P0_ k_) := by
 have bb := Z0.mk (show Kd.R (Kd.int .i64) 3 w w0.heap.size (fun k_ => (P0_ k_ ∨ w.heap.size ≤ k_)) u9000_ l0 from Kd.R_mono ho0 (fun k_ hk => (.inl hk)))
 have HK := Z0.mk (Kept.refl w (fun k_ => P0_ k_))
 have HW0 := Z0.mk hB.size
 have HB := Z0.mk hB
 clear hB
 have H : (hackamoreref28_distinct.l0 k l0 0) = some r := h
 clear h
 have H' := Z0.mk H
 clear H
 go_enter Try.func67, Try.ntmps67
 go_wp2
 repeat (go_quiet (fail); try go_wp2)
 go_loopg [3] k (fun kq v3 w' => ∃ (a4 : Int), v3 = .int .i64 a4 ∧ Z0 (hackamoreref28_distinct.l0 kq l0 a4 = some r) ∧ Z0 (kq ≤ k) ∧ Z0 (Kd.R (Kd.int .i64) 3 w' w0.heap.size (fun k_ => (P0_ k_ ∨ w.heap.size ≤ k_)) u9000_ l0) ∧ Z0 (Kept w w' (fun k_ => P0_ k_)) ∧ Z0 (Below w0.heap.size w0 w'))
 case atStart => exact ⟨(0), (by first | rfl | (simp; done) | (simp [*]; done)), H', ⟨Nat.le_refl _⟩, ⟨by (with_reducible repeat (first | apply Kd.R_alloc | apply Kd.R_drewN | apply Kd.R_drew)); exact bb.out⟩, ⟨by repeat (first | (with_reducible first | exact HK.out | apply Kept.alloc | apply Kept.drewN | apply Kept.drew) | exact HK.out)⟩, ⟨by repeat (first | (with_reducible first | apply bA | apply bN | apply bD) | exact HB.out)⟩⟩
 case round =>
  clear H'
  obtain ⟨a4, rfl, HA, HK1, aE, HK, HB⟩ := hrel
  cases gk with
  | zero => exact absurd HA.out (by simp [hackamoreref28_distinct.l0])
  | succ k1 =>
   have H := HA.out
   clear HA
   simp only [hackamoreref28_distinct.l0] at H
   by_cases c2 : a4 < (l0.length : Int)
   ·rw [if_pos c2] at H
    have c2b0 : decide (a4 < (l0.length : Int)) = true := decide_eq_true c2
    clear c2
    have H' := Z0.mk H
    clear H
    obtain ⟨Ao3, co3, eo3⟩ := Kd.R_slice aE.out
    subst eo3
    go_wp2
    repeat (go_quiet (fail); try go_wp2)
    go_loopg [4] k1 (fun kq v4 w' => ∃ (a5 : Int), v4 = .int .i64 a5 ∧ Z0 (hackamoreref28_distinct.l1 kq l0 a4 a5 = some r) ∧ Z0 (kq ≤ k1) ∧ Z0 (Kd.R (Kd.int .i64) 3 w' w0.heap.size (fun k_ => (P0_ k_ ∨ w.heap.size ≤ k_)) (.slice Ao3 l0.length co3) l0) ∧ Z0 (Kept w w' (fun k_ => P0_ k_)) ∧ Z0 (Below w0.heap.size w0 w'))
    case atStart => exact ⟨(0), (by first | rfl | (simp; done) | (simp [*]; done)), H', ⟨Nat.le_refl _⟩, ⟨by (with_reducible repeat (first | apply Kd.R_alloc | apply Kd.R_drewN | apply Kd.R_drew)); exact aE.out⟩, ⟨by repeat (first | (with_reducible first | exact HK.out | apply Kept.alloc | apply Kept.drewN | apply Kept.drew) | exact HK.out)⟩, ⟨by repeat (first | (with_reducible first | apply bA | apply bN | apply bD) | exact HB.out)⟩⟩
    case round =>
     clear H'
     try clear c2
     try clear c2b0
     try clear p2
     obtain ⟨a5, rfl, HA, HK2, aE, HK, HB⟩ := hrel
     cases gk with
     | zero => exact absurd HA.out (by simp [hackamoreref28_distinct.l1])
     | succ k2 =>
      have H := HA.out
      clear HA
      simp only [hackamoreref28_distinct.l1] at H
      by_cases c4 : a5 < a4
      ·rw [if_pos c4] at H
       have c4b0 : decide (a5 < a4) = true := decide_eq_true c4
       clear c4
       by_cases c5 : 0 ≤ a4
       ·rw [if_pos c5] at H
        have c5b0 : decide (0 ≤ a4) = true := decide_eq_true c5
        clear c5
        by_cases c6 : a4 < (l0.length : Int)
        ·rw [if_pos c6] at H
         have c6b0 : decide (a4 < (l0.length : Int)) = true := decide_eq_true c6
         clear c6
         by_cases c7 : 0 ≤ a5
         ·rw [if_pos c7] at H
          have c7b0 : decide (0 ≤ a5) = true := decide_eq_true c7
          clear c7
          by_cases c8 : a5 < (l0.length : Int)
          ·rw [if_pos c8] at H
           have c8b0 : decide (a5 < (l0.length : Int)) = true := decide_eq_true c8
           clear c8
           by_cases c9 : (rd l0 a4) = (rd l0 a5)
           ·rw [if_pos c9] at H
            have c9b0 : ((rd l0 a4) == (rd l0 a5)) = true := beq_iff_eq.mpr c9
            have c9b1 : ((rd l0 a4) != (rd l0 a5)) = false := bne_eq_false_iff_eq.mpr c9
            clear c9
            obtain rfl := Option.some.inj H
            have p194 : 0 ≤ (a4 : Int) := of_decide_eq_true (by assumption)
            have q194 : a4 < (l0.length : Int) := of_decide_eq_true (by assumption)
            obtain ⟨ad194, e194, ah⟩ := Kd.at_int (Kd.R_reads' aE.out).2.2 a4 p194 q194
            cases e194
            replace p194 := eq_true p194
            replace q194 := eq_true q194
            have p195 : 0 ≤ (a5 : Int) := of_decide_eq_true (by assumption)
            have q195 : a5 < (l0.length : Int) := of_decide_eq_true (by assumption)
            obtain ⟨ad195, e195, ai⟩ := Kd.at_int (Kd.R_reads' aE.out).2.2 a5 p195 q195
            obtain rfl : ad194 = ad195 := (by injection e195)
            replace p195 := eq_true p195
            replace q195 := eq_true q195
            go_wp2
            repeat (go_quiet (fail); try go_wp2)
            go_ret
            exact ⟨_, by first | rfl | (simp [errW_none, errW_some] <;> rfl) | (simp [*, errW_none, errW_some] <;> rfl), by first | exact Kd.R_nil _ _ _ _ _ | exact Kd.N_nil _ _ _ _ _ | exact Kd.V_nil _ _ _ _ _ | exact Kd.Q_nil _ _ _ _ _ | exact Kd.S_nil _ _ _ _ _, by repeat (first | (with_reducible first | apply bA | apply bN | apply bD) | exact HB.out), by repeat (first | (with_reducible first | exact HK.out | apply Kept.alloc | apply Kept.drewN | apply Kept.drew) | exact HK.out)⟩
           ·rw [if_neg c9] at H
            have c9b0 : ((rd l0 a4) == (rd l0 a5)) = false := beq_eq_false_iff_ne.mpr c9
            have c9b1 : ((rd l0 a4) != (rd l0 a5)) = true := bne_iff_ne.mpr c9
            have H' := Z0.mk H
            clear H
            have p194 : 0 ≤ (a4 : Int) := of_decide_eq_true (by assumption)
            have q194 : a4 < (l0.length : Int) := of_decide_eq_true (by assumption)
            obtain ⟨ad194, e194, ah⟩ := Kd.at_int (Kd.R_reads' aE.out).2.2 a4 p194 q194
            cases e194
            replace p194 := eq_true p194
            replace q194 := eq_true q194
            have p195 : 0 ≤ (a5 : Int) := of_decide_eq_true (by assumption)
            have q195 : a5 < (l0.length : Int) := of_decide_eq_true (by assumption)
            obtain ⟨ad195, e195, ai⟩ := Kd.at_int (Kd.R_reads' aE.out).2.2 a5 p195 q195
            obtain rfl : ad194 = ad195 := (by injection e195)
            replace p195 := eq_true p195
            replace q195 := eq_true q195
            go_wp2
            repeat (go_quiet (fail); try go_wp2)
            go_roundg k2
            case measure => have := HK1.out; have := HK2.out; omega
            case rel => exact ⟨(wrap64 (a5 + 1)), (by first | rfl | (simp; done) | (simp [*]; done)), H', ⟨by have := HK1.out; have := HK2.out; omega⟩, ⟨by (with_reducible repeat (first | apply Kd.R_alloc | apply Kd.R_drewN | apply Kd.R_drew)); exact aE.out⟩, ⟨by repeat (first | (with_reducible first | exact HK.out | apply Kept.alloc | apply Kept.drewN | apply Kept.drew) | exact HK.out)⟩, ⟨by repeat (first | (with_reducible first | apply bA | apply bN | apply bD) | exact HB.out)⟩⟩
          ·rw [if_neg c8] at H
           exact absurd H (by simp)
         ·rw [if_neg c7] at H
          exact absurd H (by simp)
        ·rw [if_neg c6] at H
         exact absurd H (by simp)
       ·rw [if_neg c5] at H
        exact absurd H (by simp)
      ·rw [if_neg c4] at H
       have c4b0 : decide (a5 < a4) = false := decide_eq_false c4
       clear c4
       have H' := Z0.mk H
       clear H
       go_wp2
       repeat (go_quiet (fail); try go_wp2)
       go_roundg k2
       case measure => have := HK1.out; have := HK2.out; omega
       case rel => exact ⟨(wrap64 (a4 + 1)), (by first | rfl | (simp; done) | (simp [*]; done)), H', ⟨by have := HK1.out; have := HK2.out; omega⟩, ⟨by (with_reducible repeat (first | apply Kd.R_alloc | apply Kd.R_drewN | apply Kd.R_drew)); exact aE.out⟩, ⟨by repeat (first | (with_reducible first | exact HK.out | apply Kept.alloc | apply Kept.drewN | apply Kept.drew) | exact HK.out)⟩, ⟨by repeat (first | (with_reducible first | apply bA | apply bN | apply bD) | exact HB.out)⟩⟩
   ·rw [if_neg c2] at H
    have c2b0 : decide (a4 < (l0.length : Int)) = false := decide_eq_false c2
    clear c2
    obtain rfl := Option.some.inj H
    obtain ⟨Ao10, co10, eo10⟩ := Kd.R_slice aE.out
    subst eo10
    go_wp2
    repeat (go_quiet (fail); try go_wp2)
    go_ret
    exact ⟨_, by first | rfl | (simp [errW_none, errW_some] <;> rfl) | (simp [*, errW_none, errW_some] <;> rfl), by (with_reducible repeat (first | apply Kd.R_alloc | apply Kd.R_drewN | apply Kd.R_drew)); exact aE.out, by repeat (first | (with_reducible first | apply bA | apply bN | apply bD) | exact HB.out), by repeat (first | (with_reducible first | exact HK.out | apply Kept.alloc | apply Kept.drewN | apply Kept.drew) | exact HK.out)⟩
end Go.Proofs.Ytgbafpjeapkklaa.PMailboxRuns
namespace Go.Proofs.Ytgbafpjeapkklaa.PMailboxRuns
open Go.RowKit Go.Proofs.YtgbafpjeapkklaaW.PrintWords Go.Proofs.YtgbafpjeapkklaaW.PrintLast Go.Proofs.YtgbafpjeapkklaaW.PrintMore
attribute [local go_sem] max2_int min2_int max_two min_two max_three min_three max_four min_four
set_option linter.unusedVariables false
set_option linter.unusedSimpArgs false
mutual
def hackamoreref28_Order.l0 : Nat → List Int → Int → Int → List (S105) → Int → Int → List (S122) → Bool → Option (List Int)
 | 0, _, _, _, _, _, _, _, _ => none
 | k + 1, x3, x4, x5, aT, aU, aX, aK, aY => (hackamoreref28_chain.f k aT aU aX aK aY x5).bind fun t200 => (if (t200.length : Int) = 0 then (some ([] : List Int)) else (if x3.length + t200.length < 17592186044416 then ((some (x3 ++ t200 : List Int)).bind fun y203 => (if (y203.length : Int) > (aT.length : Int) then (some ([] : List Int)) else (if 0 ≤ (wrap64 ((t200.length : Int) - 1)) then (if (wrap64 ((t200.length : Int) - 1)) < (t200.length : Int) then (hackamoreref28_Order.l1 k y203 x4 (rd t200 (wrap64 ((t200.length : Int) - 1))) (-1) 0 aT aU aX aK aY) else (none)) else (none)))) else (none)))
def hackamoreref28_Order.l1 : Nat → List Int → Int → Int → Int → Int → List (S105) → Int → Int → List (S122) → Bool → Option (List Int)
 | 0, _, _, _, _, _, _, _, _, _, _ => none
 | k + 1, x3, x4, x7, x8, x9, aT, aU, aX, aK, aY => if x9 < (aK.length : Int) then (if 0 ≤ x9 then (if ((rZ2 aK x9).f1) = x7 then (if x8 ≥ 0 then (some ([] : List Int)) else (hackamoreref28_Order.l1 k x3 x4 x7 x9 (wrap64 (x9 + 1)) aT aU aX aK aY)) else (hackamoreref28_Order.l1 k x3 x4 x7 x8 (wrap64 (x9 + 1)) aT aU aX aK aY)) else (none)) else (if x8 < 0 then (if x7 = aU then (if x4 = (aK.length : Int) then (hackamoreref28_Order.j2 k x3 ((x3.length : Int) != (aT.length : Int))) else (hackamoreref28_Order.j2 k x3 true)) else (hackamoreref28_Order.j2 k x3 true)) else (if x7 = aU then (some ([] : List Int)) else (if 0 ≤ x8 then (if x8 < (aK.length : Int) then (hackamoreref28_Order.l0 k x3 (wrap64 (x4 + 1)) ((rZ2 aK x8).f2) aT aU aX aK aY) else (none)) else (none))))
def hackamoreref28_Order.j2 : Nat → List Int → Bool → Option (List Int)
 | 0, _, _ => none
 | k + 1, x3, x70 => if x70 = true then (some ([] : List Int)) else ((hackamoreref28_distinct.f k x3).bind fun t208 => (some t208))
end
def hackamoreref28_Order.f (k : Nat) (a3 : List (S105)) (a4 : Int) (a6 : Int) (a2 : List (S122)) (a7 : Bool) : Option (List Int) := hackamoreref28_Order.l0 k (([] : List Int)) 0 0 a3 a4 a6 a2 a7
set_option maxHeartbeats 8000000 in
set_option maxRecDepth 100000 in
theorem hackamoreref28_Order.calls (k : Nat) (aE : Option Addr) (aG : Nat) (a3 : List (S105)) (a4 : Int) (a6 : Int) (aH : Option Addr) (aI : Nat) (a2 : List (S122)) (a7 : Bool) (r : List Int) (w : World) (bk : Kd.C k105 w aE a3.length a3) (bl : a3.length ≤ aG) (bm : Kd.C k122 w aH a2.length a2) (bn : a2.length ≤ aI) (h : hackamoreref28_Order.f k a3 a4 a6 a2 a7 = some r) :
  Calls Try.prog 55 #[.agg #[.slice aE a3.length aG, .int .i64 a4, .int .i64 a6, .slice aH a2.length aI, .bool a7]] w fun e w' => ∃ v0_ : Value, e = .returned (v0_) ∧ Kd.R (Kd.int .i64) 3 w' w.heap.size (fun _ => True) v0_ r ∧ Below w.heap.size w w' := by
 have hu46 := Try.underlying46
 have bV := Z0.mk bk
 have bW := Z0.mk bl
 clear bk bl
 have aZ := Z0.mk bm
 have bX := Z0.mk bn
 clear bm bn
 have HB := Z0.mk (Below.refl w.heap.size w)
 have H : (hackamoreref28_Order.l0 k (([] : List Int)) 0 0 a3 a4 a6 a2 a7) = some r := h
 clear h
 obtain ⟨y197, ac⟩ : ∃ y_ : List Int, y_ = (([] : List Int)) := ⟨_, rfl⟩
 replace H : (hackamoreref28_Order.l0 k y197 0 0 a3 a4 a6 a2 a7) = some r := by first | (rw [ac]; with_reducible exact H) | (have H2_ := (Option.bind_some _ _).symm.trans H; rw [ac]; with_reducible exact H2_) | (have H2_ := (Option.bind_some _ _).symm.trans H; with_reducible exact H2_) | with_reducible exact H | (rw [ac]; exact H) | exact H
 have bo := Z0.mk ac
 clear ac
 have H' := Z0.mk H
 clear H
 go_enter Try.func55, Try.ntmps55
 go_wp2_with (first | ((with_reducible refine gate_dst (N := 1) rfl ?_); (try (refine gate_guard (by rfl) ?_; dsimp only)); refine box_event ?hg (N := 1) ?hd (cs := #[.slice aE a3.length aG, .int .i64 a4, .int .i64 a6, .slice aH a2.length aI, .bool a7]) (t := 46) ?hr ?_; (case hd => rfl); (case hg => rfl); (case hr => first | (go_simp; done) | (go_simp; rfl)); intro a1 hg w2 hbox hb; have aP := Z0.mk (bP (by repeat (first | (with_reducible first | apply bA | apply bN | apply bD) | exact HB.out)) hb); have aQ := Z0.mk (hbox); have aN := Z0.mk ((by rw [hg]; exact (bZ (by repeat (first | (with_reducible first | apply bA | apply bN | apply bD) | exact HB.out))) : w.heap.size ≤ a1)); have aW := aN; clear HB; have HB := aP; have a0 := aQ; have dT := aN; have a5 := aW; clear aP aQ aN aW; clear hb hbox hg) | ((with_reducible refine gate_dst (N := 10) rfl ?_); (try (refine gate_guard (by rfl) ?_; dsimp only)); refine Kd.R_lit (Kd.int .i64) _ 3 ?hg (N := 10) ?hd (xs := ([] : List Int)) (inner := []) (ok := fun _ => True) (okp := fun _ => True) ?hr ?hp (fun _ hk => hk) trivial (Below.refl _ _) (Nat.le_refl _) (by simp) ?_; (case hd => rfl); (case hg => rfl); (case hr => first | (go_simp; done) | (go_simp; rfl)); (case hp => exact (Reps.none _ _)); intro v198 w3 ho4 hb hg_ hnew_; clear hg_ hnew_; (first | rw [← bo.out] at ho4 | (simp only [Int.reduceToNat] at ho4; rw [← bo.out] at ho4)); have aP := Z0.mk (Kd.R_lower ho4 (bZ (by repeat (first | (with_reducible first | apply bA | apply bN | apply bD | refine bS ?_ a5.out) | exact HB.out)))); have aQ := Z0.mk (kB (by (with_reducible repeat first | apply kN | apply kD | apply kA); exact a0.out) hb); have aN := Z0.mk (bP (by repeat (first | (with_reducible first | apply bA | apply bN | apply bD | refine bS ?_ a5.out) | exact HB.out)) hb); clear a0 HB; have d7 := aP; have a0 := aQ; have HB := aN; clear aP aQ aN; clear hb ho4))
 go_loopg [3, 4, 5] k (fun kq v3 v4 v5 w' => ∃ (aa : List Int) (aV : Int) (ab : Int), v4 = .int .i64 aV ∧ v5 = .int .i64 ab ∧ Z0 (hackamoreref28_Order.l0 kq aa aV ab a3 a4 a6 a2 a7 = some r) ∧ Z0 (kq ≤ k) ∧ Z0 (Kd.R (Kd.int .i64) 3 w' w.heap.size (fun _ => True) v3 aa) ∧ Z0 (w'.heap[a1]? = some (.cells #[(.slice aE a3.length aG), .int .i64 a4, .int .i64 a6, (.slice aH a2.length aI), .bool a7] 46 (0, 0))) ∧ Z0 (Below w.heap.size w w'))
 case atStart => exact ⟨(y197), (0), (0), (by first | rfl | (simp; done) | (simp [*]; done)), (by first | rfl | (simp; done) | (simp [*]; done)), H', ⟨Nat.le_refl _⟩, ⟨by (with_reducible repeat (first | apply Kd.R_alloc | apply Kd.R_drewN | apply Kd.R_drew)); exact d7.out⟩, ⟨by (with_reducible repeat first | apply kN | apply kD | apply kA); exact a0.out⟩, ⟨by repeat (first | (with_reducible first | apply bA | apply bN | apply bD | refine bS ?_ a5.out) | exact HB.out)⟩⟩
 case round =>
  clear H'
  try clear p2
  obtain ⟨aa, aV, ab, rfl, rfl, HA, HK1, a8, a0, HB⟩ := hrel
  cases gk with
  | zero => exact absurd HA.out (by simp [hackamoreref28_Order.l0])
  | succ k1 =>
   have H := HA.out
   clear HA
   simp only [hackamoreref28_Order.l0] at H
   replace H := Option.bind_eq_some_iff.mp H
   obtain ⟨t200, A50, H⟩ := H
   replace H : (if (t200.length : Int) = 0 then (some ([] : List Int)) else (if aa.length + t200.length < 17592186044416 then ((some (aa ++ t200 : List Int)).bind fun y203 => (if (y203.length : Int) > (a3.length : Int) then (some ([] : List Int)) else (if 0 ≤ (wrap64 ((t200.length : Int) - 1)) then (if (wrap64 ((t200.length : Int) - 1)) < (t200.length : Int) then (hackamoreref28_Order.l1 k1 y203 aV (rd t200 (wrap64 ((t200.length : Int) - 1))) (-1) 0 a3 a4 a6 a2 a7) else (none)) else (none)))) else (none))) = some r := H
   have A5 := Z0.mk A50
   clear A50
   by_cases c6 : (t200.length : Int) = 0
   ·rw [if_pos c6] at H
    have c6b0 : ((t200.length : Int) == 0) = true := beq_iff_eq.mpr c6
    have c6b1 : ((t200.length : Int) != 0) = false := bne_eq_false_iff_eq.mpr c6
    clear c6
    obtain rfl := Option.some.inj H
    have bY : wr.cell? ⟨a1, 0, none⟩ = some (.slice aE a3.length aG) := (kC a0.out 0).trans rfl
    have ba : wr.cell? ⟨a1, 1, none⟩ = some (.int .i64 a4) := (kC a0.out 1).trans rfl
    have bb : wr.cell? ⟨a1, 2, none⟩ = some (.int .i64 a6) := (kC a0.out 2).trans rfl
    have bc : wr.cell? ⟨a1, 3, none⟩ = some (.slice aH a2.length aI) := (kC a0.out 3).trans rfl
    have bd : wr.cell? ⟨a1, 4, none⟩ = some (.bool a7) := (kC a0.out 4).trans rfl
    have be := kF a0.out 0
    have bf := kF a0.out 1
    have bg := kF a0.out 2
    have bh := kF a0.out 3
    have bi := kF a0.out 4
    go_wp2_with (first | ((with_reducible refine gate_callee (f := 56) rfl ?_); refine goesL_ (some 13) rfl rfl Try.func56 (by kernel_rfl) rfl #[.agg #[.slice aE a3.length aG, .int .i64 a4, .int .i64 a6, .slice aH a2.length aI, .bool a7], .int .i64 ab] rfl (by (try simp only [List.map_toArray, List.map_cons, List.map_nil]); first | done | rfl | (simp only [List.length_drop, List.length_take]; rfl)) ?_; (with_reducible refine (hackamoreref28_chain.calls k1 _ _ a3 a4 a6 _ _ a2 a7 ab t200 _ ?side1 ?side2 ?side3 ?side4 A5.out).mono ?_); (case side1 => repeat (first | exact (Kd.C_below bV.out HB.out) | (with_reducible refine Kd.C_alloc ?_ _) | (with_reducible refine Kd.C_drewN ?_ _) | (with_reducible refine Kd.C_drew ?_))); (case side2 => exact bW.out); (case side3 => repeat (first | exact (Kd.C_below aZ.out HB.out) | (with_reducible refine Kd.C_alloc ?_ _) | (with_reducible refine Kd.C_drewN ?_ _) | (with_reducible refine Kd.C_drew ?_))); (case side4 => exact bX.out); rintro e w8 ⟨v201, rfl, ho0, hb⟩; refine ⟨_, rfl, ?_⟩; have aP := Z0.mk (Kd.R_elder' (by (with_reducible repeat (first | apply Kd.R_alloc | apply Kd.R_drewN | apply Kd.R_drew)); exact a8.out) (Kd.R_base ho0) hb); have aQ := Z0.mk (Kd.R_lower (Kd.R_new' ho0 (Kd.R_lt (by (with_reducible repeat (first | apply Kd.R_alloc | apply Kd.R_drewN | apply Kd.R_drew)); exact a8.out))) (bZ (by repeat (first | (with_reducible first | apply bA | apply bN | apply bD | refine bS ?_ a5.out) | exact HB.out)))); have aN := Z0.mk (kB (by (with_reducible repeat first | apply kN | apply kD | apply kA); exact a0.out) hb); have aW := Z0.mk (bP (by repeat (first | (with_reducible first | apply bA | apply bN | apply bD | refine bS ?_ a5.out) | exact HB.out)) hb); clear a8 a0 HB; have a8 := aP; have aJ := aQ; have a0 := aN; have HB := aW; clear aP aQ aN aW; (try clear hb); (try clear hb2); (try clear hk); (try clear hi); (try clear ho0); obtain ⟨Ao9, co9, eo9⟩ := Kd.R_slice aJ.out; subst eo9))
    go_ret
    exact ⟨_, by first | rfl | (simp [errW_none, errW_some] <;> rfl) | (simp [*, errW_none, errW_some] <;> rfl), by first | exact Kd.R_nil _ _ _ _ _ | exact Kd.N_nil _ _ _ _ _ | exact Kd.V_nil _ _ _ _ _ | exact Kd.Q_nil _ _ _ _ _ | exact Kd.S_nil _ _ _ _ _, by repeat (first | (with_reducible first | apply bA | apply bN | apply bD | refine bS ?_ a5.out) | exact HB.out)⟩
   ·rw [if_neg c6] at H
    have c6b0 : ((t200.length : Int) == 0) = false := beq_eq_false_iff_ne.mpr c6
    have c6b1 : ((t200.length : Int) != 0) = true := bne_iff_ne.mpr c6
    have c6b2 : ¬ (t200 = []) := fun h_ => c6 (by rw [h_]; rfl)
    by_cases c10 : aa.length + t200.length < 17592186044416
    ·rw [if_pos c10] at H
     have bp := Z0.mk c10
     clear c10
     obtain ⟨y203, ad⟩ : ∃ y_ : List Int, y_ = (aa ++ t200) := ⟨_, rfl⟩
     replace H : (if (y203.length : Int) > (a3.length : Int) then (some ([] : List Int)) else (if 0 ≤ (wrap64 ((t200.length : Int) - 1)) then (if (wrap64 ((t200.length : Int) - 1)) < (t200.length : Int) then (hackamoreref28_Order.l1 k1 y203 aV (rd t200 (wrap64 ((t200.length : Int) - 1))) (-1) 0 a3 a4 a6 a2 a7) else (none)) else (none))) = some r := by first | (rw [ad]; with_reducible exact H) | (have H2_ := (Option.bind_some _ _).symm.trans H; rw [ad]; with_reducible exact H2_) | (have H2_ := (Option.bind_some _ _).symm.trans H; with_reducible exact H2_) | with_reducible exact H | (rw [ad]; exact H) | exact H
     have bq := Z0.mk ad
     clear ad
     by_cases c11 : (y203.length : Int) > (a3.length : Int)
     ·rw [if_pos c11] at H
      have c11b0 : decide ((a3.length : Int) < (y203.length : Int)) = true := decide_eq_true c11
      have c11b1 : decide (a3.length < y203.length) = true := decide_eq_true (Int.ofNat_lt.mp c11)
      clear c11
      obtain rfl := Option.some.inj H
      have aj : wr.cell? ⟨a1, 0, none⟩ = some (.slice aE a3.length aG) := (kC a0.out 0).trans rfl
      have ak : wr.cell? ⟨a1, 1, none⟩ = some (.int .i64 a4) := (kC a0.out 1).trans rfl
      have al : wr.cell? ⟨a1, 2, none⟩ = some (.int .i64 a6) := (kC a0.out 2).trans rfl
      have am : wr.cell? ⟨a1, 3, none⟩ = some (.slice aH a2.length aI) := (kC a0.out 3).trans rfl
      have an : wr.cell? ⟨a1, 4, none⟩ = some (.bool a7) := (kC a0.out 4).trans rfl
      have ao := kF a0.out 0
      have ap := kF a0.out 1
      have aq := kF a0.out 2
      have ar := kF a0.out 3
      have au := kF a0.out 4
      go_wp2_with (first | ((with_reducible refine gate_callee (f := 56) rfl ?_); refine goesL_ (some 13) rfl rfl Try.func56 (by kernel_rfl) rfl #[.agg #[.slice aE a3.length aG, .int .i64 a4, .int .i64 a6, .slice aH a2.length aI, .bool a7], .int .i64 ab] rfl (by (try simp only [List.map_toArray, List.map_cons, List.map_nil]); first | done | rfl | (simp only [List.length_drop, List.length_take]; rfl)) ?_; (with_reducible refine (hackamoreref28_chain.calls k1 _ _ a3 a4 a6 _ _ a2 a7 ab t200 _ ?side1 ?side2 ?side3 ?side4 A5.out).mono ?_); (case side1 => repeat (first | exact (Kd.C_below bV.out HB.out) | (with_reducible refine Kd.C_alloc ?_ _) | (with_reducible refine Kd.C_drewN ?_ _) | (with_reducible refine Kd.C_drew ?_))); (case side2 => exact bW.out); (case side3 => repeat (first | exact (Kd.C_below aZ.out HB.out) | (with_reducible refine Kd.C_alloc ?_ _) | (with_reducible refine Kd.C_drewN ?_ _) | (with_reducible refine Kd.C_drew ?_))); (case side4 => exact bX.out); rintro e w13 ⟨v201, rfl, ho0, hb⟩; refine ⟨_, rfl, ?_⟩; have aP := Z0.mk (Kd.R_elder' (by (with_reducible repeat (first | apply Kd.R_alloc | apply Kd.R_drewN | apply Kd.R_drew)); exact a8.out) (Kd.R_base ho0) hb); have aQ := Z0.mk (Kd.R_lower (Kd.R_new' ho0 (Kd.R_lt (by (with_reducible repeat (first | apply Kd.R_alloc | apply Kd.R_drewN | apply Kd.R_drew)); exact a8.out))) (bZ (by repeat (first | (with_reducible first | apply bA | apply bN | apply bD | refine bS ?_ a5.out) | exact HB.out)))); have aN := Z0.mk (kB (by (with_reducible repeat first | apply kN | apply kD | apply kA); exact a0.out) hb); have aW := Z0.mk (bP (by repeat (first | (with_reducible first | apply bA | apply bN | apply bD | refine bS ?_ a5.out) | exact HB.out)) hb); clear a8 a0 HB; have a8 := aP; have aJ := aQ; have a0 := aN; have HB := aW; clear aP aQ aN aW; (try clear hb); (try clear hb2); (try clear hk); (try clear hi); (try clear ho0); obtain ⟨Ao14, co14, eo14⟩ := Kd.R_slice aJ.out; subst eo14) | ((with_reducible refine gate_builtin (b := .append) (xs := #[.tmp 17, .tmp 18]) rfl ?_); (try (refine gate_guard (by rfl) ?_; dsimp only)); at_builtin; refine Kd.R_append_rows (Kd.int .i64) (w0 := w) w.heap.size rfl (.tmp 17) (.tmp 18) 30 3 (.int .i64 0) 8 rfl Try.underlying30 info3 rfl (by decide) (by omega) u3 aa t200 _ _ _ (fun k_ => some k_ ≠ (.slice Ao14 t200.length co14 : Value).ownBlock) (fun _ => False) rfl rfl ?aO ?aR (fun _ _ h => h) (fun _ h => h.elim) ?aF ?aB ?aS ?aL ?_; (case aR => repeat (first | exact (Kd.R_reads' aJ.out).2.2 | (with_reducible refine Kd.C_alloc ?_ _) | (with_reducible refine Kd.C_drewN ?_ _) | (with_reducible refine Kd.C_drew ?_))); (case aB => exact (by repeat (first | (with_reducible first | apply bA | apply bN | apply bD | refine bS ?_ a5.out) | exact HB.out))); (case aF => exact (fun k_ hk => Kd.fresh' (Kd.R_lt (by (with_reducible repeat (first | apply Kd.R_alloc | apply Kd.R_drewN | apply Kd.R_drew)); exact aJ.out)) k_ hk)); (case aO => exact (by (with_reducible repeat (first | apply Kd.R_alloc | apply Kd.R_drewN | apply Kd.R_drew)); exact Kd.R_mono a8.out (fun _ hk => hk.2))); (case aS => exact (bZ (by repeat (first | (with_reducible first | apply bA | apply bN | apply bD | refine bS ?_ a5.out) | exact HB.out)))); (case aL => have := bp.out; omega); intro v204 w15 ho hb hg hat; rw [← bq.out] at ho; have aP := Z0.mk (blk_grown (by (with_reducible repeat first | apply kN | apply kD | apply kA); exact a0.out) hg (Kd.R_ne a8.out a0.out (by decide))); have aQ := Z0.mk (Kd.R_after (ok := (fun _ => True)) (by (with_reducible repeat (first | apply Kd.R_alloc | apply Kd.R_drewN | apply Kd.R_drew)); exact aJ.out) hg hat); have aN := Z0.mk (hb); have aW := Z0.mk (ho); clear a0 aJ HB a8; have a0 := aP; have aJ := aQ; have HB := aN; have ai := aW; clear aP aQ aN aW ho hb hg hat; obtain ⟨Ao16, co16, eo16⟩ := Kd.R_slice ai.out; subst eo16; obtain ⟨av, aw, ax, ay, az, b0, b1, b2, b3, b4⟩ := kc5 a0.out))
      go_ret
      exact ⟨_, by first | rfl | (simp [errW_none, errW_some] <;> rfl) | (simp [*, errW_none, errW_some] <;> rfl), by first | exact Kd.R_nil _ _ _ _ _ | exact Kd.N_nil _ _ _ _ _ | exact Kd.V_nil _ _ _ _ _ | exact Kd.Q_nil _ _ _ _ _ | exact Kd.S_nil _ _ _ _ _, by repeat (first | (with_reducible first | apply bA | apply bN | apply bD | refine bS ?_ a5.out) | exact HB.out)⟩
     ·rw [if_neg c11] at H
      have c11b0 : decide ((a3.length : Int) < (y203.length : Int)) = false := decide_eq_false c11
      have c11b1 : decide (a3.length < y203.length) = false := decide_eq_false (fun h => c11 (Int.ofNat_lt.mpr h))
      clear c11
      obtain ⟨ji18, hji18⟩ : ∃ j_ : Int, (wrap64 ((t200.length : Int) - 1)) = j_ := ⟨_, rfl⟩
      replace H : (if 0 ≤ (ji18) then (if (ji18) < (t200.length : Int) then (hackamoreref28_Order.l1 k1 y203 aV (rd t200 (ji18)) (-1) 0 a3 a4 a6 a2 a7) else (none)) else (none)) = some r := by first | (rw [hji18] at H; exact H) | (simp only [hji18] at H ⊢; exact H)
      (try rw [hji18] at A5)
      have hji18w : (IntKind.i64.wrap ((t200.length : Int) - 1)) = ji18 := (i64_w _).trans hji18
      by_cases c19 : 0 ≤ (ji18)
      ·rw [if_pos c19] at H
       have c19b0 : decide (0 ≤ (ji18)) = true := decide_eq_true c19
       clear c19
       by_cases c20 : (ji18) < (t200.length : Int)
       ·rw [if_pos c20] at H
        have c20b0 : decide ((ji18) < (t200.length : Int)) = true := decide_eq_true c20
        clear c20
        have H' := Z0.mk H
        clear H
        have b5 : wr.cell? ⟨a1, 0, none⟩ = some (.slice aE a3.length aG) := (kC a0.out 0).trans rfl
        have b6 : wr.cell? ⟨a1, 1, none⟩ = some (.int .i64 a4) := (kC a0.out 1).trans rfl
        have b7 : wr.cell? ⟨a1, 2, none⟩ = some (.int .i64 a6) := (kC a0.out 2).trans rfl
        have b8 : wr.cell? ⟨a1, 3, none⟩ = some (.slice aH a2.length aI) := (kC a0.out 3).trans rfl
        have b9 : wr.cell? ⟨a1, 4, none⟩ = some (.bool a7) := (kC a0.out 4).trans rfl
        have bB := kF a0.out 0
        have bC := kF a0.out 1
        have bE := kF a0.out 2
        have bF := kF a0.out 3
        have bG := kF a0.out 4
        go_wp2_with (first | ((with_reducible refine gate_callee (f := 56) rfl ?_); refine goesL_ (some 13) rfl rfl Try.func56 (by kernel_rfl) rfl #[.agg #[.slice aE a3.length aG, .int .i64 a4, .int .i64 a6, .slice aH a2.length aI, .bool a7], .int .i64 ab] rfl (by (try simp only [List.map_toArray, List.map_cons, List.map_nil]); first | done | rfl | (simp only [List.length_drop, List.length_take]; rfl)) ?_; (with_reducible refine (hackamoreref28_chain.calls k1 _ _ a3 a4 a6 _ _ a2 a7 ab t200 _ ?side1 ?side2 ?side3 ?side4 A5.out).mono ?_); (case side1 => repeat (first | exact (Kd.C_below bV.out HB.out) | (with_reducible refine Kd.C_alloc ?_ _) | (with_reducible refine Kd.C_drewN ?_ _) | (with_reducible refine Kd.C_drew ?_))); (case side2 => exact bW.out); (case side3 => repeat (first | exact (Kd.C_below aZ.out HB.out) | (with_reducible refine Kd.C_alloc ?_ _) | (with_reducible refine Kd.C_drewN ?_ _) | (with_reducible refine Kd.C_drew ?_))); (case side4 => exact bX.out); rintro e w22 ⟨v201, rfl, ho0, hb⟩; refine ⟨_, rfl, ?_⟩; have aP := Z0.mk (Kd.R_elder' (by (with_reducible repeat (first | apply Kd.R_alloc | apply Kd.R_drewN | apply Kd.R_drew)); exact a8.out) (Kd.R_base ho0) hb); have aQ := Z0.mk (Kd.R_lower (Kd.R_new' ho0 (Kd.R_lt (by (with_reducible repeat (first | apply Kd.R_alloc | apply Kd.R_drewN | apply Kd.R_drew)); exact a8.out))) (bZ (by repeat (first | (with_reducible first | apply bA | apply bN | apply bD | refine bS ?_ a5.out) | exact HB.out)))); have aN := Z0.mk (kB (by (with_reducible repeat first | apply kN | apply kD | apply kA); exact a0.out) hb); have aW := Z0.mk (bP (by repeat (first | (with_reducible first | apply bA | apply bN | apply bD | refine bS ?_ a5.out) | exact HB.out)) hb); clear a8 a0 HB; have a8 := aP; have aJ := aQ; have a0 := aN; have HB := aW; clear aP aQ aN aW; (try clear hb); (try clear hb2); (try clear hk); (try clear hi); (try clear ho0); obtain ⟨Ao23, co23, eo23⟩ := Kd.R_slice aJ.out; subst eo23) | ((with_reducible refine gate_builtin (b := .append) (xs := #[.tmp 17, .tmp 18]) rfl ?_); (try (refine gate_guard (by rfl) ?_; dsimp only)); at_builtin; refine Kd.R_append_rows (Kd.int .i64) (w0 := w) w.heap.size rfl (.tmp 17) (.tmp 18) 30 3 (.int .i64 0) 8 rfl Try.underlying30 info3 rfl (by decide) (by omega) u3 aa t200 _ _ _ (fun k_ => some k_ ≠ (.slice Ao23 t200.length co23 : Value).ownBlock) (fun _ => False) rfl rfl ?aO ?aR (fun _ _ h => h) (fun _ h => h.elim) ?aF ?aB ?aS ?aL ?_; (case aR => repeat (first | exact (Kd.R_reads' aJ.out).2.2 | (with_reducible refine Kd.C_alloc ?_ _) | (with_reducible refine Kd.C_drewN ?_ _) | (with_reducible refine Kd.C_drew ?_))); (case aB => exact (by repeat (first | (with_reducible first | apply bA | apply bN | apply bD | refine bS ?_ a5.out) | exact HB.out))); (case aF => exact (fun k_ hk => Kd.fresh' (Kd.R_lt (by (with_reducible repeat (first | apply Kd.R_alloc | apply Kd.R_drewN | apply Kd.R_drew)); exact aJ.out)) k_ hk)); (case aO => exact (by (with_reducible repeat (first | apply Kd.R_alloc | apply Kd.R_drewN | apply Kd.R_drew)); exact Kd.R_mono a8.out (fun _ hk => hk.2))); (case aS => exact (bZ (by repeat (first | (with_reducible first | apply bA | apply bN | apply bD | refine bS ?_ a5.out) | exact HB.out)))); (case aL => have := bp.out; omega); intro v204 w24 ho hb hg hat; rw [← bq.out] at ho; have aP := Z0.mk (blk_grown (by (with_reducible repeat first | apply kN | apply kD | apply kA); exact a0.out) hg (Kd.R_ne a8.out a0.out (by decide))); have aQ := Z0.mk (Kd.R_after (ok := (fun _ => True)) (by (with_reducible repeat (first | apply Kd.R_alloc | apply Kd.R_drewN | apply Kd.R_drew)); exact aJ.out) hg hat); have aN := Z0.mk (hb); have aW := Z0.mk (ho); clear a0 aJ HB a8; have a0 := aP; have aJ := aQ; have HB := aN; have ai := aW; clear aP aQ aN aW ho hb hg hat; obtain ⟨Ao25, co25, eo25⟩ := Kd.R_slice ai.out; subst eo25; obtain ⟨bH, bI, bJ, bK, bL, bM, bO, bQ, bR, bT⟩ := kc5 a0.out; have p206 : 0 ≤ ((ji18) : Int) := of_decide_eq_true (by assumption); have q206 : (ji18) < (t200.length : Int) := of_decide_eq_true (by assumption); obtain ⟨ad206, e206, bU⟩ := Kd.at_int (Kd.R_reads' aJ.out).2.2 (ji18) p206 q206; cases e206; replace p206 := eq_true p206; replace q206 := eq_true q206))
        go_loopg [8, 9] k1 (fun kq v8 v9 w' => ∃ (aM : Int) (a9 : Int), v8 = .int .i64 aM ∧ v9 = .int .i64 a9 ∧ Z0 (hackamoreref28_Order.l1 kq y203 aV (rd t200 (ji18)) aM a9 a3 a4 a6 a2 a7 = some r) ∧ Z0 (kq ≤ k1) ∧ Z0 (Kd.R (Kd.int .i64) 3 w' w.heap.size (fun _ => True) (.slice Ao25 y203.length co25) y203) ∧ Z0 (w'.heap[a1]? = some (.cells #[(.slice aE a3.length aG), .int .i64 a4, .int .i64 a6, (.slice aH a2.length aI), .bool a7] 46 (0, 0))) ∧ Z0 (Below w.heap.size w w'))
        case atStart => exact ⟨((-1)), (0), (by first | rfl | (simp; done) | (simp [*]; done)), (by first | rfl | (simp; done) | (simp [*]; done)), H', ⟨Nat.le_refl _⟩, ⟨by (with_reducible repeat (first | apply Kd.R_alloc | apply Kd.R_drewN | apply Kd.R_drew)); exact Kd.R_mono ai.out (fun _ hk => trivial)⟩, ⟨by (with_reducible repeat first | apply kN | apply kD | apply kA); exact a0.out⟩, ⟨by repeat (first | (with_reducible first | apply bA | apply bN | apply bD | refine bS ?_ a5.out) | exact HB.out)⟩⟩
        case round =>
         clear H'
         try clear c1
         try clear c2
         try clear p2
         try clear q2
         try clear hx2
         try clear c5
         try clear c6
         try clear c6b0
         try clear c6b1
         try clear c6b2
         try clear p6
         try clear c10
         try clear c11
         try clear c11b0
         try clear c11b1
         try clear c19
         try clear c19b0
         try clear c20
         try clear c20b0
         try clear p20
         try clear q20
         try clear hx20
         try clear aj
         try clear ak
         try clear al
         try clear am
         try clear an
         try clear av
         try clear aw
         try clear ax
         try clear ay
         try clear az
         try clear b5
         try clear b6
         try clear b7
         try clear b8
         try clear b9
         try clear bH
         try clear bI
         try clear bJ
         try clear bK
         try clear bL
         try clear bY
         try clear ba
         try clear bb
         try clear bc
         try clear bd
         try clear ao
         try clear ap
         try clear aq
         try clear ar
         try clear au
         try clear b0
         try clear b1
         try clear b2
         try clear b3
         try clear b4
         try clear bB
         try clear bC
         try clear bE
         try clear bF
         try clear bG
         try clear bM
         try clear bO
         try clear bQ
         try clear bR
         try clear bT
         try clear be
         try clear bf
         try clear bg
         try clear bh
         try clear bi
         try clear bU
         try clear p2
         try clear p206
         try clear q206
         obtain ⟨aM, a9, rfl, rfl, HA, HK2, a8, a0, HB⟩ := hrel
         cases gk with
         | zero => exact absurd HA.out (by simp [hackamoreref28_Order.l1])
         | succ k2 =>
          have H := HA.out
          clear HA
          simp only [hackamoreref28_Order.l1] at H
          by_cases c27 : a9 < (a2.length : Int)
          ·rw [if_pos c27] at H
           have c27b0 : decide (a9 < (a2.length : Int)) = true := decide_eq_true c27
           clear c27
           by_cases c28 : 0 ≤ a9
           ·rw [if_pos c28] at H
            have c28b0 : decide (0 ≤ a9) = true := decide_eq_true c28
            clear c28
            by_cases c29 : ((rZ2 a2 a9).f1) = (rd t200 (ji18))
            ·rw [if_pos c29] at H
             have c29b0 : (((rZ2 a2 a9).f1) == (rd t200 (ji18))) = true := beq_iff_eq.mpr c29
             have c29b1 : (((rZ2 a2 a9).f1) != (rd t200 (ji18))) = false := bne_eq_false_iff_eq.mpr c29
             clear c29
             by_cases c30 : aM ≥ 0
             ·rw [if_pos c30] at H
              have c30b0 : decide (0 ≤ aM) = true := decide_eq_true c30
              clear c30
              obtain rfl := Option.some.inj H
              have br : wr.cell? ⟨a1, 0, none⟩ = some (.slice aE a3.length aG) := (kC a0.out 0).trans rfl
              have bs : wr.cell? ⟨a1, 1, none⟩ = some (.int .i64 a4) := (kC a0.out 1).trans rfl
              have bt : wr.cell? ⟨a1, 2, none⟩ = some (.int .i64 a6) := (kC a0.out 2).trans rfl
              have bu : wr.cell? ⟨a1, 3, none⟩ = some (.slice aH a2.length aI) := (kC a0.out 3).trans rfl
              have bv : wr.cell? ⟨a1, 4, none⟩ = some (.bool a7) := (kC a0.out 4).trans rfl
              have bw := kF a0.out 0
              have bx := kF a0.out 1
              have bz := kF a0.out 2
              have c0 := kF a0.out 3
              have c4 := kF a0.out 4
              have p207 : 0 ≤ (a9 : Int) := of_decide_eq_true (by assumption)
              have q207 : a9 < (a2.length : Int) := of_decide_eq_true (by assumption)
              obtain ⟨ad207, e207, aA, aC, aD⟩ := at_T122 aZ.out a9 p207 q207
              cases e207
              replace aA := (HB.out.cell (World.block_lt_of_cell? w _ aA)).trans aA
              replace aC := (HB.out.cell (World.block_lt_of_cell? w _ aC)).trans aC
              replace aD := (HB.out.cell (World.block_lt_of_cell? w _ aD)).trans aD
              replace p207 := eq_true p207
              replace q207 := eq_true q207
              go_wp2
              go_ret
              exact ⟨_, by first | rfl | (simp [errW_none, errW_some] <;> rfl) | (simp only [← hji18]; first | rfl | (simp [errW_none, errW_some] <;> rfl)) | (simp [*, errW_none, errW_some] <;> rfl), by first | exact Kd.R_nil _ _ _ _ _ | exact Kd.N_nil _ _ _ _ _ | exact Kd.V_nil _ _ _ _ _ | exact Kd.Q_nil _ _ _ _ _ | exact Kd.S_nil _ _ _ _ _, by repeat (first | (with_reducible first | apply bA | apply bN | apply bD | refine bS ?_ a5.out) | exact HB.out)⟩
             ·rw [if_neg c30] at H
              have c30b0 : decide (0 ≤ aM) = false := decide_eq_false c30
              clear c30
              have H' := Z0.mk H
              clear H
              have c7 : wr.cell? ⟨a1, 0, none⟩ = some (.slice aE a3.length aG) := (kC a0.out 0).trans rfl
              have c8 : wr.cell? ⟨a1, 1, none⟩ = some (.int .i64 a4) := (kC a0.out 1).trans rfl
              have c9 : wr.cell? ⟨a1, 2, none⟩ = some (.int .i64 a6) := (kC a0.out 2).trans rfl
              have cA : wr.cell? ⟨a1, 3, none⟩ = some (.slice aH a2.length aI) := (kC a0.out 3).trans rfl
              have cC : wr.cell? ⟨a1, 4, none⟩ = some (.bool a7) := (kC a0.out 4).trans rfl
              have cD := kF a0.out 0
              have cE := kF a0.out 1
              have cF := kF a0.out 2
              have cG := kF a0.out 3
              have cH := kF a0.out 4
              have p207 : 0 ≤ (a9 : Int) := of_decide_eq_true (by assumption)
              have q207 : a9 < (a2.length : Int) := of_decide_eq_true (by assumption)
              obtain ⟨ad207, e207, aA, aC, aD⟩ := at_T122 aZ.out a9 p207 q207
              cases e207
              replace aA := (HB.out.cell (World.block_lt_of_cell? w _ aA)).trans aA
              replace aC := (HB.out.cell (World.block_lt_of_cell? w _ aC)).trans aC
              replace aD := (HB.out.cell (World.block_lt_of_cell? w _ aD)).trans aD
              replace p207 := eq_true p207
              replace q207 := eq_true q207
              go_wp2
              go_roundg k2
              case measure => have := HK1.out; have := HK2.out; omega
              case rel => exact ⟨(a9), (wrap64 (a9 + 1)), (by first | rfl | (simp; done) | (simp [*]; done)), (by first | rfl | (simp; done) | (simp [*]; done)), H', ⟨by have := HK1.out; have := HK2.out; omega⟩, ⟨by (with_reducible repeat (first | apply Kd.R_alloc | apply Kd.R_drewN | apply Kd.R_drew)); exact a8.out⟩, ⟨by (with_reducible repeat first | apply kN | apply kD | apply kA); exact a0.out⟩, ⟨by repeat (first | (with_reducible first | apply bA | apply bN | apply bD | refine bS ?_ a5.out) | exact HB.out)⟩⟩
            ·rw [if_neg c29] at H
             have c29b0 : (((rZ2 a2 a9).f1) == (rd t200 (ji18))) = false := beq_eq_false_iff_ne.mpr c29
             have c29b1 : (((rZ2 a2 a9).f1) != (rd t200 (ji18))) = true := bne_iff_ne.mpr c29
             have H' := Z0.mk H
             clear H
             have cI : wr.cell? ⟨a1, 0, none⟩ = some (.slice aE a3.length aG) := (kC a0.out 0).trans rfl
             have cJ : wr.cell? ⟨a1, 1, none⟩ = some (.int .i64 a4) := (kC a0.out 1).trans rfl
             have cK : wr.cell? ⟨a1, 2, none⟩ = some (.int .i64 a6) := (kC a0.out 2).trans rfl
             have cL : wr.cell? ⟨a1, 3, none⟩ = some (.slice aH a2.length aI) := (kC a0.out 3).trans rfl
             have cM : wr.cell? ⟨a1, 4, none⟩ = some (.bool a7) := (kC a0.out 4).trans rfl
             have cN := kF a0.out 0
             have cO := kF a0.out 1
             have cP := kF a0.out 2
             have cQ := kF a0.out 3
             have cR := kF a0.out 4
             have p207 : 0 ≤ (a9 : Int) := of_decide_eq_true (by assumption)
             have q207 : a9 < (a2.length : Int) := of_decide_eq_true (by assumption)
             obtain ⟨ad207, e207, aA, aC, aD⟩ := at_T122 aZ.out a9 p207 q207
             cases e207
             replace aA := (HB.out.cell (World.block_lt_of_cell? w _ aA)).trans aA
             replace aC := (HB.out.cell (World.block_lt_of_cell? w _ aC)).trans aC
             replace aD := (HB.out.cell (World.block_lt_of_cell? w _ aD)).trans aD
             replace p207 := eq_true p207
             replace q207 := eq_true q207
             go_wp2
             go_roundg k2
             case measure => have := HK1.out; have := HK2.out; omega
             case rel => exact ⟨(aM), (wrap64 (a9 + 1)), (by first | rfl | (simp; done) | (simp [*]; done)), (by first | rfl | (simp; done) | (simp [*]; done)), H', ⟨by have := HK1.out; have := HK2.out; omega⟩, ⟨by (with_reducible repeat (first | apply Kd.R_alloc | apply Kd.R_drewN | apply Kd.R_drew)); exact a8.out⟩, ⟨by (with_reducible repeat first | apply kN | apply kD | apply kA); exact a0.out⟩, ⟨by repeat (first | (with_reducible first | apply bA | apply bN | apply bD | refine bS ?_ a5.out) | exact HB.out)⟩⟩
           ·rw [if_neg c28] at H
            exact absurd H (by simp)
          ·rw [if_neg c27] at H
           have c27b0 : decide (a9 < (a2.length : Int)) = false := decide_eq_false c27
           clear c27
           by_cases c34 : aM < 0
           ·rw [if_pos c34] at H
            have c34b0 : decide (aM < 0) = true := decide_eq_true c34
            clear c34
            have bj := Z0.mk H
            clear H
            have cS : wr.cell? ⟨a1, 0, none⟩ = some (.slice aE a3.length aG) := (kC a0.out 0).trans rfl
            have cT : wr.cell? ⟨a1, 1, none⟩ = some (.int .i64 a4) := (kC a0.out 1).trans rfl
            have cU : wr.cell? ⟨a1, 2, none⟩ = some (.int .i64 a6) := (kC a0.out 2).trans rfl
            have cV : wr.cell? ⟨a1, 3, none⟩ = some (.slice aH a2.length aI) := (kC a0.out 3).trans rfl
            have cW : wr.cell? ⟨a1, 4, none⟩ = some (.bool a7) := (kC a0.out 4).trans rfl
            have cX := kF a0.out 0
            have cY := kF a0.out 1
            have cZ := kF a0.out 2
            have ca := kF a0.out 3
            have cb := kF a0.out 4
            go_upto_region 20 with (fail)
            go_cut [70] (fun v70 wc => ∃ (kq : Nat) (ae : Bool), v70 = .bool ae ∧ Z0 (hackamoreref28_Order.j2 kq y203 ae = some r) ∧ Z0 (kq ≤ k2) ∧ Z0 (Kd.R (Kd.int .i64) 3 wc w.heap.size (fun _ => True) (.slice Ao25 y203.length co25) y203) ∧ Z0 (wc.heap[a1]? = some (.cells #[(.slice aE a3.length aG), .int .i64 a4, .int .i64 a6, (.slice aH a2.length aI), .bool a7] 46 (0, 0))) ∧ Z0 (Below w.heap.size w wc))
            case first =>
             have H := bj.out
             clear bj
             by_cases c37 : (rd t200 (ji18)) = a4
             ·rw [if_pos c37] at H
              have c37b0 : ((rd t200 (ji18)) == a4) = true := beq_iff_eq.mpr c37
              have c37b1 : ((rd t200 (ji18)) != a4) = false := bne_eq_false_iff_eq.mpr c37
              clear c37
              (first | rw [c37b0] | (simp only [i64_w, i32_w]; rw [c37b0]) | skip)
              by_cases c38 : aV = (a2.length : Int)
              ·rw [if_pos c38] at H
               have c38b0 : (aV == (a2.length : Int)) = true := beq_iff_eq.mpr c38
               have c38b1 : (aV != (a2.length : Int)) = false := bne_eq_false_iff_eq.mpr c38
               clear c38
               have H' := Z0.mk H
               clear H
               have cc : wr.cell? ⟨a1, 0, none⟩ = some (.slice aE a3.length aG) := (kC a0.out 0).trans rfl
               have cd : wr.cell? ⟨a1, 1, none⟩ = some (.int .i64 a4) := (kC a0.out 1).trans rfl
               have ce : wr.cell? ⟨a1, 2, none⟩ = some (.int .i64 a6) := (kC a0.out 2).trans rfl
               have cf : wr.cell? ⟨a1, 3, none⟩ = some (.slice aH a2.length aI) := (kC a0.out 3).trans rfl
               have cg : wr.cell? ⟨a1, 4, none⟩ = some (.bool a7) := (kC a0.out 4).trans rfl
               have ch := kF a0.out 0
               have ci := kF a0.out 1
               have cj := kF a0.out 2
               have ck := kF a0.out 3
               have cl := kF a0.out 4
               go_wp2
               go_meet
               case rel => exact ⟨_, (((y203.length : Int) != (a3.length : Int))), (by first | rfl | (simp; done) | (simp [*]; done)), H', ⟨by have := HK1.out; have := HK2.out; first | omega | exact Nat.le_refl _⟩, ⟨by (with_reducible repeat (first | apply Kd.R_alloc | apply Kd.R_drewN | apply Kd.R_drew)); exact a8.out⟩, ⟨by (with_reducible repeat first | apply kN | apply kD | apply kA); exact a0.out⟩, ⟨by repeat (first | (with_reducible first | apply bA | apply bN | apply bD | refine bS ?_ a5.out) | exact HB.out)⟩⟩
              ·rw [if_neg c38] at H
               have c38b0 : (aV == (a2.length : Int)) = false := beq_eq_false_iff_ne.mpr c38
               have c38b1 : (aV != (a2.length : Int)) = true := bne_iff_ne.mpr c38
               have H' := Z0.mk H
               clear H
               have cm : wr.cell? ⟨a1, 0, none⟩ = some (.slice aE a3.length aG) := (kC a0.out 0).trans rfl
               have cn : wr.cell? ⟨a1, 1, none⟩ = some (.int .i64 a4) := (kC a0.out 1).trans rfl
               have co : wr.cell? ⟨a1, 2, none⟩ = some (.int .i64 a6) := (kC a0.out 2).trans rfl
               have cp : wr.cell? ⟨a1, 3, none⟩ = some (.slice aH a2.length aI) := (kC a0.out 3).trans rfl
               have cq : wr.cell? ⟨a1, 4, none⟩ = some (.bool a7) := (kC a0.out 4).trans rfl
               have cr := kF a0.out 0
               have ct := kF a0.out 1
               have cu := kF a0.out 2
               have cv := kF a0.out 3
               have cw := kF a0.out 4
               go_wp2
               go_meet
               case rel => exact ⟨_, (true), (by first | rfl | (simp; done) | (simp [*]; done)), H', ⟨by have := HK1.out; have := HK2.out; first | omega | exact Nat.le_refl _⟩, ⟨by (with_reducible repeat (first | apply Kd.R_alloc | apply Kd.R_drewN | apply Kd.R_drew)); exact a8.out⟩, ⟨by (with_reducible repeat first | apply kN | apply kD | apply kA); exact a0.out⟩, ⟨by repeat (first | (with_reducible first | apply bA | apply bN | apply bD | refine bS ?_ a5.out) | exact HB.out)⟩⟩
             ·rw [if_neg c37] at H
              have c37b0 : ((rd t200 (ji18)) == a4) = false := beq_eq_false_iff_ne.mpr c37
              have c37b1 : ((rd t200 (ji18)) != a4) = true := bne_iff_ne.mpr c37
              (first | rw [c37b0] | (simp only [i64_w, i32_w]; rw [c37b0]) | skip)
              have H' := Z0.mk H
              clear H
              have cx : wr.cell? ⟨a1, 0, none⟩ = some (.slice aE a3.length aG) := (kC a0.out 0).trans rfl
              have cy : wr.cell? ⟨a1, 1, none⟩ = some (.int .i64 a4) := (kC a0.out 1).trans rfl
              have cz : wr.cell? ⟨a1, 2, none⟩ = some (.int .i64 a6) := (kC a0.out 2).trans rfl
              have d0 : wr.cell? ⟨a1, 3, none⟩ = some (.slice aH a2.length aI) := (kC a0.out 3).trans rfl
              have d1 : wr.cell? ⟨a1, 4, none⟩ = some (.bool a7) := (kC a0.out 4).trans rfl
              have d2 := kF a0.out 0
              have d3 := kF a0.out 1
              have d4 := kF a0.out 2
              have d5 := kF a0.out 3
              have d6 := kF a0.out 4
              go_wp2
              go_meet
              case rel => exact ⟨_, (true), (by first | rfl | (simp; done) | (simp [*]; done)), H', ⟨by have := HK1.out; have := HK2.out; first | omega | exact Nat.le_refl _⟩, ⟨by (with_reducible repeat (first | apply Kd.R_alloc | apply Kd.R_drewN | apply Kd.R_drew)); exact a8.out⟩, ⟨by (with_reducible repeat first | apply kN | apply kD | apply kA); exact a0.out⟩, ⟨by repeat (first | (with_reducible first | apply bA | apply bN | apply bD | refine bS ?_ a5.out) | exact HB.out)⟩⟩
            case rest =>
             clear bj
             try clear c1
             try clear c2
             try clear p2
             try clear q2
             try clear hx2
             try clear c3
             try clear c5
             try clear c6
             try clear c6b0
             try clear c6b1
             try clear c6b2
             try clear p6
             try clear c10
             try clear c11
             try clear c11b0
             try clear c11b1
             try clear c19
             try clear c19b0
             try clear c20
             try clear c20b0
             try clear p20
             try clear q20
             try clear hx20
             try clear c27
             try clear c27b0
             try clear c28
             try clear c28b0
             try clear c29
             try clear c29b0
             try clear c29b1
             try clear c30
             try clear c30b0
             try clear c34
             try clear c34b0
             try clear c37
             try clear c37b0
             try clear c37b1
             try clear c38
             try clear c38b0
             try clear c38b1
             try clear aj
             try clear ak
             try clear al
             try clear am
             try clear an
             try clear av
             try clear aw
             try clear ax
             try clear ay
             try clear az
             try clear b5
             try clear b6
             try clear b7
             try clear b8
             try clear b9
             try clear bH
             try clear bI
             try clear bJ
             try clear bK
             try clear bL
             try clear br
             try clear bs
             try clear bt
             try clear bu
             try clear bv
             try clear c7
             try clear c8
             try clear c9
             try clear cA
             try clear cC
             try clear cI
             try clear cJ
             try clear cK
             try clear cL
             try clear cM
             try clear cS
             try clear cT
             try clear cU
             try clear cV
             try clear cW
             try clear cc
             try clear cd
             try clear ce
             try clear cf
             try clear cg
             try clear cm
             try clear cn
             try clear co
             try clear cp
             try clear cq
             try clear cx
             try clear cy
             try clear cz
             try clear d0
             try clear d1
             try clear bY
             try clear ba
             try clear bb
             try clear bc
             try clear bd
             try clear ao
             try clear ap
             try clear aq
             try clear ar
             try clear au
             try clear b0
             try clear b1
             try clear b2
             try clear b3
             try clear b4
             try clear bB
             try clear bC
             try clear bE
             try clear bF
             try clear bG
             try clear bM
             try clear bO
             try clear bQ
             try clear bR
             try clear bT
             try clear bw
             try clear bx
             try clear bz
             try clear c0
             try clear c4
             try clear cD
             try clear cE
             try clear cF
             try clear cG
             try clear cH
             try clear cN
             try clear cO
             try clear cP
             try clear cQ
             try clear cR
             try clear cX
             try clear cY
             try clear cZ
             try clear ca
             try clear cb
             try clear ch
             try clear ci
             try clear cj
             try clear ck
             try clear cl
             try clear cr
             try clear ct
             try clear cu
             try clear cv
             try clear cw
             try clear d2
             try clear d3
             try clear d4
             try clear d5
             try clear d6
             try clear be
             try clear bf
             try clear bg
             try clear bh
             try clear bi
             try clear bU
             try clear aA
             try clear aC
             try clear aD
             try clear p2
             try clear p20
             try clear p206
             try clear p207
             try clear p6
             try clear q2
             try clear q20
             try clear q206
             try clear q207
             obtain ⟨kq, ae, rfl, HA, HJ34, a8, a0, HB⟩ := hcut
             cases kq with
             | zero => exact absurd HA.out (by simp [hackamoreref28_Order.j2])
             | succ kj34 =>
              have H := HA.out
              clear HA
              simp only [hackamoreref28_Order.j2] at H
              by_cases c42 : ae = true
              ·subst c42
               have H1 : (some ([] : List Int)) = some r := by rw [if_pos rfl] at H; exact H
               clear H
               have H := H1
               clear H1
               obtain rfl := Option.some.inj H
               go_wp2
               go_ret
               exact ⟨_, by first | rfl | (simp [errW_none, errW_some] <;> rfl) | (simp only [← hji18]; first | rfl | (simp [errW_none, errW_some] <;> rfl)) | (simp [*, errW_none, errW_some] <;> rfl), by first | exact Kd.R_nil _ _ _ _ _ | exact Kd.N_nil _ _ _ _ _ | exact Kd.V_nil _ _ _ _ _ | exact Kd.Q_nil _ _ _ _ _ | exact Kd.S_nil _ _ _ _ _, by repeat (first | (with_reducible first | apply bA | apply bN | apply bD | refine bS ?_ a5.out) | exact HB.out)⟩
              ·replace c42 := Bool.eq_false_iff.mpr c42
               subst c42
               have H1 : ((hackamoreref28_distinct.f kj34 y203).bind fun t208 => (some t208)) = some r := by rw [if_neg (show ¬ (false = true) by decide)] at H; exact H
               clear H
               have H := H1
               clear H1
               replace H := Option.bind_eq_some_iff.mp H
               obtain ⟨t208, A430, H⟩ := H
               replace H : (some t208) = some r := H
               have A43 := Z0.mk A430
               clear A430
               obtain rfl := Option.some.inj H
               go_wp2_with (first | ((with_reducible refine gate_callee (f := 67) rfl ?_); refine goesL_ (some 72) rfl rfl Try.func67 (by kernel_rfl) rfl #[.slice Ao25 y203.length co25] rfl (by (try simp only [List.map_toArray, List.map_cons, List.map_nil]); first | done | rfl | (simp only [List.length_drop, List.length_take]; rfl)) ?_; (with_reducible refine (hackamoreref28_distinct.calls kj34 (fun k_ => some k_ = (.slice Ao25 y203.length co25 : Value).ownBlock) (.slice Ao25 y203.length co25) y203 t208 w _ ?side1 ?side2 A43.out).mono ?_); (case side1 => repeat (first | (with_reducible first | apply bA | apply bN | apply bD | refine bS ?_ a5.out) | exact HB.out)); (case side2 => exact Kd.R_tight rfl a8.out); rintro e w44 ⟨v209, rfl, ho0, hb, hkp⟩; refine ⟨_, rfl, ?_⟩; have aP := Z0.mk (blk_kept (by (with_reducible repeat first | apply kN | apply kD | apply kA); exact a0.out) hkp (fun hs_ => (fun e_ => (Kd.R_ne a8.out a0.out (by decide)) e_) hs_)); have aQ := Z0.mk (Kd.R_mono (ok' := fun k_ => True) ho0 (fun k_ hk_ => trivial)); have aN := Z0.mk (hb); clear a0 HB a8; have a0 := aP; have d8 := aQ; have HB := aN; clear aP aQ aN; (try clear hb); (try clear hkp); (try clear ho0)))
               go_ret
               exact ⟨_, by first | rfl | (simp [errW_none, errW_some] <;> rfl) | (simp only [← hji18]; first | rfl | (simp [errW_none, errW_some] <;> rfl)) | (simp [*, errW_none, errW_some] <;> rfl), by (with_reducible repeat (first | apply Kd.R_alloc | apply Kd.R_drewN | apply Kd.R_drew)); exact d8.out, by repeat (first | (with_reducible first | apply bA | apply bN | apply bD | refine bS ?_ a5.out) | exact HB.out)⟩
           ·rw [if_neg c34] at H
            have c34b0 : decide (aM < 0) = false := decide_eq_false c34
            clear c34
            by_cases c45 : (rd t200 (ji18)) = a4
            ·rw [if_pos c45] at H
             have c45b0 : ((rd t200 (ji18)) == a4) = true := beq_iff_eq.mpr c45
             have c45b1 : ((rd t200 (ji18)) != a4) = false := bne_eq_false_iff_eq.mpr c45
             clear c45
             obtain rfl := Option.some.inj H
             have d9 : wr.cell? ⟨a1, 0, none⟩ = some (.slice aE a3.length aG) := (kC a0.out 0).trans rfl
             have dA : wr.cell? ⟨a1, 1, none⟩ = some (.int .i64 a4) := (kC a0.out 1).trans rfl
             have dB : wr.cell? ⟨a1, 2, none⟩ = some (.int .i64 a6) := (kC a0.out 2).trans rfl
             have dC : wr.cell? ⟨a1, 3, none⟩ = some (.slice aH a2.length aI) := (kC a0.out 3).trans rfl
             have dD : wr.cell? ⟨a1, 4, none⟩ = some (.bool a7) := (kC a0.out 4).trans rfl
             have dE := kF a0.out 0
             have dF := kF a0.out 1
             have dG := kF a0.out 2
             have dH := kF a0.out 3
             have dI := kF a0.out 4
             go_wp2
             go_ret
             exact ⟨_, by first | rfl | (simp [errW_none, errW_some] <;> rfl) | (simp only [← hji18]; first | rfl | (simp [errW_none, errW_some] <;> rfl)) | (simp [*, errW_none, errW_some] <;> rfl), by first | exact Kd.R_nil _ _ _ _ _ | exact Kd.N_nil _ _ _ _ _ | exact Kd.V_nil _ _ _ _ _ | exact Kd.Q_nil _ _ _ _ _ | exact Kd.S_nil _ _ _ _ _, by repeat (first | (with_reducible first | apply bA | apply bN | apply bD | refine bS ?_ a5.out) | exact HB.out)⟩
            ·rw [if_neg c45] at H
             have c45b0 : ((rd t200 (ji18)) == a4) = false := beq_eq_false_iff_ne.mpr c45
             have c45b1 : ((rd t200 (ji18)) != a4) = true := bne_iff_ne.mpr c45
             by_cases c47 : 0 ≤ aM
             ·rw [if_pos c47] at H
              have c47b0 : decide (0 ≤ aM) = true := decide_eq_true c47
              clear c47
              by_cases c48 : aM < (a2.length : Int)
              ·rw [if_pos c48] at H
               have c48b0 : decide (aM < (a2.length : Int)) = true := decide_eq_true c48
               clear c48
               have H' := Z0.mk H
               clear H
               have dJ : wr.cell? ⟨a1, 0, none⟩ = some (.slice aE a3.length aG) := (kC a0.out 0).trans rfl
               have dK : wr.cell? ⟨a1, 1, none⟩ = some (.int .i64 a4) := (kC a0.out 1).trans rfl
               have dL : wr.cell? ⟨a1, 2, none⟩ = some (.int .i64 a6) := (kC a0.out 2).trans rfl
               have dM : wr.cell? ⟨a1, 3, none⟩ = some (.slice aH a2.length aI) := (kC a0.out 3).trans rfl
               have dN : wr.cell? ⟨a1, 4, none⟩ = some (.bool a7) := (kC a0.out 4).trans rfl
               have dO := kF a0.out 0
               have dP := kF a0.out 1
               have dQ := kF a0.out 2
               have dR := kF a0.out 3
               have dS := kF a0.out 4
               have p211 : 0 ≤ (aM : Int) := of_decide_eq_true (by assumption)
               have q211 : aM < (a2.length : Int) := of_decide_eq_true (by assumption)
               obtain ⟨ad211, e211, af, ag, ah⟩ := at_T122 aZ.out aM p211 q211
               cases e211
               replace af := (HB.out.cell (World.block_lt_of_cell? w _ af)).trans af
               replace ag := (HB.out.cell (World.block_lt_of_cell? w _ ag)).trans ag
               replace ah := (HB.out.cell (World.block_lt_of_cell? w _ ah)).trans ah
               replace p211 := eq_true p211
               replace q211 := eq_true q211
               go_wp2
               go_roundg k2
               case measure => have := HK1.out; have := HK2.out; omega
               case rel => exact ⟨(y203), (wrap64 (aV + 1)), ((rZ2 a2 aM).f2), (by first | rfl | (simp; done) | (simp [*]; done)), (by first | rfl | (simp; done) | (simp [*]; done)), H', ⟨by have := HK1.out; have := HK2.out; omega⟩, ⟨by (with_reducible repeat (first | apply Kd.R_alloc | apply Kd.R_drewN | apply Kd.R_drew)); exact a8.out⟩, ⟨by (with_reducible repeat first | apply kN | apply kD | apply kA); exact a0.out⟩, ⟨by repeat (first | (with_reducible first | apply bA | apply bN | apply bD | refine bS ?_ a5.out) | exact HB.out)⟩⟩
              ·rw [if_neg c48] at H
               exact absurd H (by simp)
             ·rw [if_neg c47] at H
              exact absurd H (by simp)
       ·rw [if_neg c20] at H
        exact absurd H (by simp)
      ·rw [if_neg c19] at H
       exact absurd H (by simp)
    ·rw [if_neg c10] at H
     exact absurd H (by simp)
end Go.Proofs.Ytgbafpjeapkklaa.PMailboxRuns
