/- Parts Rd, Se of the proof. -/
import Derived.Test.YtgbafpjeapkklaaG5
import Derived.Test.YtgbafpjeapkklaaG11
namespace Go.Proofs.Ytgbafpjeapkklaa.PMailboxRuns
open Go.RowKit Go.Proofs.YtgbafpjeapkklaaW.PrintWords Go.Proofs.YtgbafpjeapkklaaW.PrintLast Go.Proofs.YtgbafpjeapkklaaW.PrintMore
attribute [local go_sem] max2_int min2_int max_two min_two max_three min_three max_four min_four
set_option linter.unusedVariables false
set_option linter.unusedSimpArgs false
attribute [local go_sem high] eqA99 eqA102
mutual
def hackamorelaw28_given.l0 : Nat → List (S105) → Int → Int → List (S105) → Int → Int → List (S122) → Bool → List (S99) → Int → Int → Bool → Option ((List (S99)) × Int × Int × (List (S102)) × Bool)
 | 0, _, _, _, _, _, _, _, _, _, _, _, _ => none
 | k + 1, x16, x17, x18, cw, cx, cy, bU, cz, ai, b2, b3, b4 => if x18 < x17 then (if 0 ≤ x18 then (if x18 < (x16.length : Int) then (if ai.length < 5864062014805 then (hackamorelaw28_given.l0 k x16 x17 (wrap64 (x18 + 1)) cw cx cy bU cz (ai ++ [(⟨(rZ5 x16 x18).f0, (rZ5 x16 x18).f1, (rZ5 x16 x18).f2⟩ : S99)]) b2 b3 b4) else (none)) else (none)) else (none)) else (hackamorelaw28_given.l1 k bU (bU.length : Int) 0 ai b2 b3 ([] : List (S102)) b4)
def hackamorelaw28_given.l1 : Nat → List (S122) → Int → Int → List (S99) → Int → Int → List (S102) → Bool → Option ((List (S99)) × Int × Int × (List (S102)) × Bool)
 | 0, _, _, _, _, _, _, _, _ => none
 | k + 1, x30, x31, x32, ai, b2, b3, bV, b4 => if x32 < x31 then (if 0 ≤ x32 then (if x32 < (x30.length : Int) then (if bV.length < 5864062014805 then (hackamorelaw28_given.l1 k x30 x31 (wrap64 (x32 + 1)) ai b2 b3 (bV ++ [(⟨(rZ2 x30 x32).f0, (rZ2 x30 x32).f1, (rZ2 x30 x32).f2⟩ : S102)]) b4) else (none)) else (none)) else (none)) else (some (ai, b2, b3, bV, b4))
end
def hackamorelaw28_given.f (k : Nat) (a2 : List (S105)) (a7 : Int) (a9 : Int) (a1 : List (S122)) (aC : Bool) : Option ((List (S99)) × Int × Int × (List (S102)) × Bool) := hackamorelaw28_given.l0 k a2 (a2.length : Int) 0 a2 a7 a9 a1 aC ([] : List (S99)) a7 a9 aC
set_option maxHeartbeats 8000000 in
set_option maxRecDepth 100000 in
theorem hackamorelaw28_given.calls (k : Nat) (aj : Option Addr) (ag : Nat) (a2 : List (S105)) (a7 : Int) (a9 : Int) (ak : Option Addr) (ah : Nat) (a1 : List (S122)) (aC : Bool) (r1 : List (S99)) (r2 : Int) (r3 : Int) (r4 : List (S102)) (r5 : Bool) (w : World) (bL : Kd.C k105 w aj a2.length a2) (bM : a2.length ≤ ag) (bO : Kd.C k122 w ak a1.length a1) (bQ : a1.length ≤ ah) (h : hackamorelaw28_given.f k a2 a7 a9 a1 aC = some (r1, r2, r3, r4, r5)) :
  Calls Try.prog 19 #[.agg #[.slice aj a2.length ag, .int .i64 a7, .int .i64 a9, .slice ak a1.length ah, .bool aC]] w fun e w' => ∃ v0_ v3_ : Value, e = .returned (.agg #[v0_, .int .i64 r2, .int .i64 r3, v3_, .bool r5]) ∧ Kd.R k99 99 w' w.heap.size (fun _ => True) v0_ r1 ∧ Kd.R k102 102 w' w.heap.size (fun _ => True) v3_ r4 ∧ Below w.heap.size w w' := by
 have hu46 := Try.underlying46
 have hu28 := Try.underlying28
 have hu105 := Try.underlying105
 have hu122 := Try.underlying122
 have bs := Z0.mk bL
 have cn := Z0.mk bM
 clear bL bM
 have bt := Z0.mk bO
 have co := Z0.mk bQ
 clear bO bQ
 have HB := Z0.mk (Below.refl w.heap.size w)
 have H : (hackamorelaw28_given.l0 k a2 (a2.length : Int) 0 a2 a7 a9 a1 aC ([] : List (S99)) a7 a9 aC) = some (r1, r2, r3, r4, r5) := h
 clear h
 have H' := Z0.mk H
 clear H
 go_enter Try.func19, Try.ntmps19
 go_wp2_with (first | ((with_reducible refine gate_dst (N := 1) rfl ?_); refine box_event ?hg (N := 1) ?hd (cs := #[.slice aj a2.length ag, .int .i64 a7, .int .i64 a9, .slice ak a1.length ah, .bool aC]) (t := 46) ?hr ?_; (case hd => rfl); (case hg => rfl); (case hr => first | (go_simp; done) | (go_simp; rfl)); intro aX hg w2 hbox hb; have aM := Z0.mk (bP (by repeat (first | (with_reducible first | apply bA | apply bN | apply bD) | exact HB.out)) hb); have aN := Z0.mk (hbox); have aJ := Z0.mk ((by rw [hg]; exact (bZ (by repeat (first | (with_reducible first | apply bA | apply bN | apply bD) | exact HB.out))) : w.heap.size ≤ aX)); have aK := aJ; clear HB; have HB := aM; have a3 := aN; have f3 := aJ; have aR := aK; clear aM aN aJ aK; clear hb hbox hg) | ((with_reducible refine gate_dst (N := 2) rfl ?_); refine box_event ?hg (N := 2) ?hd (cs := #[.slice none 0 0, .int .i64 0, .int .i64 0, .slice none 0 0, .bool false]) (t := 28) ?hr ?_; (case hd => rfl); (case hg => rfl); (case hr => first | (go_simp; done) | (go_simp; rfl)); intro aE hg w3 hbox hb; have aM := Z0.mk (kB (by (with_reducible repeat first | apply kN | apply kD | apply kA); exact a3.out) hb); have aN := Z0.mk (bP (by repeat (first | (with_reducible first | apply bA | apply bN | apply bD | refine bS ?_ aR.out) | exact HB.out)) hb); have aJ := Z0.mk (hbox); have aK := Z0.mk ((by rw [hg]; exact (bZ (by repeat (first | (with_reducible first | apply bA | apply bN | apply bD | refine bS ?_ aR.out) | exact HB.out))) : w.heap.size ≤ aE)); have aU := aK; have aW := Z0.mk ((by rw [hg]; exact Nat.ne_of_lt (blk_lt (by (with_reducible repeat first | apply kN | apply kD | apply kA); exact a3.out)) : aX ≠ aE)); have aZ := Z0.mk (Ne.symm aW.out); clear a3 HB; have a3 := aM; have HB := aN; have a6 := aJ; have f4 := aK; have aV := aU; have b8 := aW; have b9 := aZ; clear aM aN aJ aK aU aW aZ hb hbox hg; have hnb4 := b8.out; have hnc4 := b9.out; obtain ⟨cF, cG, cH, cI, cJ, cK, cL, cM, cN, cO⟩ := kc5 a3.out) | ((with_reducible refine gate_dst (N := 3) rfl ?_); refine box_event ?hg (N := 3) ?hd (cs := #[.slice none 0 0, .int .i64 0, .int .i64 0, .slice none 0 0, .bool false]) (t := 28) ?hr ?_; (case hd => rfl); (case hg => rfl); (case hr => first | (go_simp; done) | (go_simp; rfl)); intro aT hg w6 hbox hb; have aM := Z0.mk (kB (by (with_reducible repeat first | apply kN | apply kD | apply kA); exact a3.out) hb); have aN := Z0.mk (kB (by (with_reducible repeat first | apply kN | apply kD | apply kA); exact a6.out) hb); have aJ := Z0.mk (bP (by repeat (first | (with_reducible first | apply bA | apply bN | apply bD | refine bS ?_ aR.out | refine bS ?_ aV.out) | exact HB.out)) hb); have aK := Z0.mk (hbox); have aU := Z0.mk ((by rw [hg]; exact (bZ (by repeat (first | (with_reducible first | apply bA | apply bN | apply bD | refine bS ?_ aR.out | refine bS ?_ aV.out) | exact HB.out))) : w.heap.size ≤ aT)); have aW := aU; have aZ := Z0.mk ((by rw [hg]; exact Nat.ne_of_lt (blk_lt (by (with_reducible repeat first | apply kN | apply kD | apply kA); exact a3.out)) : aX ≠ aT)); have b6 := Z0.mk (Ne.symm aZ.out); have an := Z0.mk ((by rw [hg]; exact Nat.ne_of_lt (blk_lt (by (with_reducible repeat first | apply kN | apply kD | apply kA); exact a6.out)) : aE ≠ aT)); have b7 := Z0.mk (Ne.symm an.out); clear a3 a6 HB; have a3 := aM; have a6 := aN; have HB := aJ; have a5 := aK; have f5 := aU; have aa := aW; have aG := aZ; have af := b6; have aI := an; have ao := b7; clear aM aN aJ aK aU aW aZ b6 an b7 hb hbox hg; have hnb7 := af.out; have hnc7 := aG.out; have hnb8 := ao.out; have hnc8 := aI.out; obtain ⟨cP, cQ, cR, cS, cT, cU, cV, cW, cX, cY⟩ := kc5 a5.out; obtain ⟨bc, bd, be, bf, bg, bh, bi, bj, bk, bl⟩ := kc5 a3.out))
 go_loopg [18] k (fun kq v18 w' => ∃ (aA : Int) (aD : List (S99)) (u154000 : Value), v18 = .int .i64 aA ∧ Z0 (hackamorelaw28_given.l0 kq a2 (a2.length : Int) aA a2 a7 a9 a1 aC aD a7 a9 aC = some (r1, r2, r3, r4, r5)) ∧ Z0 (kq ≤ k) ∧ Z0 (Kd.R k99 99 w' w.heap.size (fun _ => True) u154000 aD) ∧ Z0 (w'.heap[aX]? = some (.cells #[(.slice aj a2.length ag), .int .i64 a7, .int .i64 a9, (.slice ak a1.length ah), .bool aC] 46 (0, 0))) ∧ Z0 (w'.heap[aE]? = some (.cells #[(.slice none 0 0), .int .i64 0, .int .i64 0, (.slice none 0 0), .bool false] 28 (0, 0))) ∧ Z0 (w'.heap[aT]? = some (.cells #[u154000, .int .i64 a7, .int .i64 a9, (.slice none 0 0), .bool aC] 28 (0, 0))) ∧ Z0 (Below w.heap.size w w'))
 case atStart => exact ⟨(0), (([] : List (S99))), (.slice none 0 0), (by first | rfl | (simp; done) | (simp [*]; done)), H', ⟨Nat.le_refl _⟩, ⟨by first | exact Kd.R_nil _ _ _ _ _ | exact Kd.N_nil _ _ _ _ _ | exact Kd.V_nil _ _ _ _ _ | exact Kd.Q_nil _ _ _ _ _ | exact Kd.S_nil _ _ _ _ _⟩, ⟨by (with_reducible repeat first | apply kN | apply kD | apply kA); refine blk_far ?_ aG.out _; (with_reducible repeat first | apply kN | apply kD | apply kA); refine blk_far ?_ aG.out _; (with_reducible repeat first | apply kN | apply kD | apply kA); refine blk_far ?_ aG.out _; (with_reducible repeat first | apply kN | apply kD | apply kA); refine blk_far ?_ aG.out _; (with_reducible repeat first | apply kN | apply kD | apply kA); refine blk_far ?_ aG.out _; (with_reducible repeat first | apply kN | apply kD | apply kA); exact a3.out⟩, ⟨by (with_reducible repeat first | apply kN | apply kD | apply kA); refine blk_far ?_ aI.out _; (with_reducible repeat first | apply kN | apply kD | apply kA); refine blk_far ?_ aI.out _; (with_reducible repeat first | apply kN | apply kD | apply kA); refine blk_far ?_ aI.out _; (with_reducible repeat first | apply kN | apply kD | apply kA); refine blk_far ?_ aI.out _; (with_reducible repeat first | apply kN | apply kD | apply kA); refine blk_far ?_ aI.out _; (with_reducible repeat first | apply kN | apply kD | apply kA); exact a6.out⟩, ⟨by (with_reducible repeat first | apply kN | apply kD | apply kA); refine blk_put (cs := #[.slice none 0 0, .int .i64 a7, .int .i64 a9, .slice none 0 0, .bool false]) ?_ 4 _ rfl; (with_reducible repeat first | apply kN | apply kD | apply kA); refine blk_put (cs := #[.slice none 0 0, .int .i64 a7, .int .i64 a9, .slice none 0 0, .bool false]) ?_ 3 _ rfl; (with_reducible repeat first | apply kN | apply kD | apply kA); refine blk_put (cs := #[.slice none 0 0, .int .i64 a7, .int .i64 0, .slice none 0 0, .bool false]) ?_ 2 _ rfl; (with_reducible repeat first | apply kN | apply kD | apply kA); refine blk_put (cs := #[.slice none 0 0, .int .i64 0, .int .i64 0, .slice none 0 0, .bool false]) ?_ 1 _ rfl; (with_reducible repeat first | apply kN | apply kD | apply kA); refine blk_put (cs := #[.slice none 0 0, .int .i64 0, .int .i64 0, .slice none 0 0, .bool false]) ?_ 0 _ rfl; (with_reducible repeat first | apply kN | apply kD | apply kA); exact a5.out⟩, ⟨by repeat (first | (with_reducible first | apply bA | apply bN | apply bD | refine bS ?_ aR.out | refine bS ?_ aV.out | refine bS ?_ aa.out) | exact HB.out)⟩⟩
 case round =>
  clear H'
  try clear c1
  try clear p2
  try clear c4
  try clear c7
  try clear c8
  try clear bc
  try clear bd
  try clear be
  try clear bf
  try clear bg
  try clear cF
  try clear cG
  try clear cH
  try clear cI
  try clear cJ
  try clear cP
  try clear cQ
  try clear cR
  try clear cS
  try clear cT
  try clear bh
  try clear bi
  try clear bj
  try clear bk
  try clear bl
  try clear cK
  try clear cL
  try clear cM
  try clear cN
  try clear cO
  try clear cU
  try clear cV
  try clear cW
  try clear cX
  try clear cY
  obtain ⟨aA, aD, u154000, rfl, HA, HK1, a8, a3, a6, a5, HB⟩ := hrel
  cases gk with
  | zero => exact absurd HA.out (by simp [hackamorelaw28_given.l0])
  | succ k1 =>
   have H := HA.out
   clear HA
   simp only [hackamorelaw28_given.l0] at H
   by_cases c11 : aA < (a2.length : Int)
   ·rw [if_pos c11] at H
    have c11b0 : decide (aA < (a2.length : Int)) = true := decide_eq_true c11
    clear c11
    by_cases c12 : 0 ≤ aA
    ·rw [if_pos c12] at H
     have c12b0 : decide (0 ≤ aA) = true := decide_eq_true c12
     clear c12
     by_cases c13 : aA < (a2.length : Int)
     ·rw [if_pos c13] at H
      have c13b0 : decide (aA < (a2.length : Int)) = true := decide_eq_true c13
      clear c13
      by_cases c14 : aD.length < 5864062014805
      ·rw [if_pos c14] at H
       have dh := Z0.mk c14
       clear c14
       obtain ⟨y156, bR⟩ : ∃ y_ : List (S99), y_ = (aD ++ [(⟨(rZ5 a2 aA).f0, (rZ5 a2 aA).f1, (rZ5 a2 aA).f2⟩ : S99)]) := ⟨_, rfl⟩
       replace H : (hackamorelaw28_given.l0 k1 a2 (a2.length : Int) (wrap64 (aA + 1)) a2 a7 a9 a1 aC y156 a7 a9 aC) = some (r1, r2, r3, r4, r5) := by first | (rw [bR]; with_reducible exact H) | (have H2_ := (Option.bind_some _ _).symm.trans H; rw [bR]; with_reducible exact H2_) | (have H2_ := (Option.bind_some _ _).symm.trans H; with_reducible exact H2_) | with_reducible exact H | (rw [bR]; exact H) | exact H
       have di := Z0.mk bR
       clear bR
       have H' := Z0.mk H
       clear H
       have p154 : 0 ≤ (aA : Int) := of_decide_eq_true (by assumption)
       have q154 : aA < (a2.length : Int) := of_decide_eq_true (by assumption)
       obtain ⟨ad154, e154, bF, bG, bH⟩ := at_T105 bs.out aA p154 q154
       cases e154
       replace bF := (HB.out.cell (World.block_lt_of_cell? w _ bF)).trans bF
       replace bG := (HB.out.cell (World.block_lt_of_cell? w _ bG)).trans bG
       replace bH := (HB.out.cell (World.block_lt_of_cell? w _ bH)).trans bH
       replace p154 := eq_true p154
       replace q154 := eq_true q154
       go_wp2_with (first | ((with_reducible refine gate_dst (N := 5) rfl ?_); refine box_event ?hg (N := 5) ?hd (cs := #[.int .i64 0, .int .i64 0, .int .i64 0]) (t := 105) ?hr ?_; (case hd => rfl); (case hg => rfl); (case hr => first | (go_simp; done) | (go_simp; rfl)); intro ap hg w15 hbox hb; have aM := Z0.mk (Kd.R_below (by (with_reducible repeat (first | apply Kd.R_alloc | apply Kd.R_drewN | apply Kd.R_drew)); exact a8.out) hb); have aN := Z0.mk (kB (by (with_reducible repeat first | apply kN | apply kD | apply kA); exact a3.out) hb); have aJ := Z0.mk (kB (by (with_reducible repeat first | apply kN | apply kD | apply kA); exact a6.out) hb); have aK := Z0.mk (kB (by (with_reducible repeat first | apply kN | apply kD | apply kA); exact a5.out) hb); have aU := Z0.mk (bP (by repeat (first | (with_reducible first | apply bA | apply bN | apply bD | refine bS ?_ aR.out | refine bS ?_ aV.out | refine bS ?_ aa.out) | exact HB.out)) hb); have aW := Z0.mk (hbox); have aZ := Z0.mk ((by rw [hg]; exact (bZ (by repeat (first | (with_reducible first | apply bA | apply bN | apply bD | refine bS ?_ aR.out | refine bS ?_ aV.out | refine bS ?_ aa.out) | exact HB.out))) : w.heap.size ≤ ap)); have b6 := aZ; have an := Z0.mk ((by rw [hg]; exact Nat.ne_of_lt (blk_lt (by (with_reducible repeat first | apply kN | apply kD | apply kA); exact a3.out)) : aX ≠ ap)); have b7 := Z0.mk (Ne.symm an.out); have b1 := Z0.mk ((by rw [hg]; exact Nat.ne_of_lt (blk_lt (by (with_reducible repeat first | apply kN | apply kD | apply kA); exact a6.out)) : aE ≠ ap)); have b5 := Z0.mk (Ne.symm b1.out); have bW := Z0.mk ((by rw [hg]; exact Nat.ne_of_lt (blk_lt (by (with_reducible repeat first | apply kN | apply kD | apply kA); exact a5.out)) : aT ≠ ap)); have bX := Z0.mk (Ne.symm bW.out); clear a8 a3 a6 a5 HB; have a8 := aM; have a3 := aN; have a6 := aJ; have a5 := aK; have HB := aU; have bI := aW; have f6 := aZ; have bu := b6; have aq := an; have cZ := b7; have ar := b1; have ca := b5; have au := bW; have cb := bX; clear aM aN aJ aK aU aW aZ b6 an b7 b1 b5 bW bX hb hbox hg; have hnb16 := cZ.out; have hnc16 := aq.out; have hnb17 := ca.out; have hnc17 := ar.out; have hnb18 := cb.out; have hnc18 := au.out; obtain ⟨bm, bn, bo, bp, bq, br⟩ := kc3 bI.out; have hnb20 := af.out; have hnc20 := aG.out; have hnb21 := ao.out; have hnc21 := aI.out; obtain ⟨d0, d1, d2, d3, d4, d5, d6, d7, d8, d9⟩ := kc5 a5.out) | ((with_reducible refine gate_builtin (b := .append) (xs := #[.tmp 23, .tmp 25]) rfl ?_); at_builtin; refine Kd.R_append k99 (w0 := w) w.heap.size rfl (.tmp 23) (.tmp 25) 25 99 (.agg #[(.int .i64 0), (.int .i64 0), (.int .i64 0)]) 24 rfl Try.underlying25 info99 rfl (by decide) (by omega) u154000 aD (⟨(rZ5 a2 aA).f0, (rZ5 a2 aA).f1, (rZ5 a2 aA).f2⟩ : S99) [.int .i64 ((rZ5 a2 aA).f0), .int .i64 ((rZ5 a2 aA).f1), .int .i64 ((rZ5 a2 aA).f2)] (fun _ => True) (fun _ => False) rfl (by first | (go_simp; done) | (go_simp; rfl)) ?aP (fun _ hk => hk.elim) ?aF ?aO ?aB ?aS ?aL ?_; (case aP => exact k99_mkM _ _ _ (⟨(rZ5 a2 aA).f0, (rZ5 a2 aA).f1, (rZ5 a2 aA).f2⟩ : S99)); (case aB => exact (by repeat (first | (with_reducible first | apply bA | apply bN | apply bD | refine bS ?_ aR.out | refine bS ?_ aV.out | refine bS ?_ aa.out | refine bS ?_ bu.out) | exact HB.out))); (case aF => exact (fun _ _ => trivial)); (case aO => exact (by (with_reducible repeat (first | apply Kd.R_alloc | apply Kd.R_drewN | apply Kd.R_drew)); exact Kd.R_mono (Kd.R_far (p := ⟨ap, 2, none⟩) (Kd.R_far (p := ⟨ap, 1, none⟩) (Kd.R_far (p := ⟨ap, 0, none⟩) (Kd.R_types a8.out bI.out (by decide)) (fun _ hk => hk.2) (.int .i64 ((rZ5 a2 aA).f0))) (fun _ hk => hk.2) (.int .i64 ((rZ5 a2 aA).f1))) (fun _ hk => hk.2) (.int .i64 ((rZ5 a2 aA).f2))) (fun _ hk => trivial))); (case aS => exact (bZ (by repeat (first | (with_reducible first | apply bA | apply bN | apply bD | refine bS ?_ aR.out | refine bS ?_ aV.out | refine bS ?_ aa.out | refine bS ?_ bu.out) | exact HB.out)))); (case aL => have := dh.out; omega); intro v157 w23 ho hb hg hat; rw [← di.out] at ho; have aM := Z0.mk (blk_grown (g := aX) (o := .cells #[.slice (some ad154) a2.length ag, .int .i64 a7, .int .i64 a9, .slice ak a1.length ah, .bool aC] 46 (0, 0)) (by (with_reducible repeat first | apply kN | apply kD | apply kA); refine blk_far ?_ aq.out _; (with_reducible repeat first | apply kN | apply kD | apply kA); refine blk_far ?_ aq.out _; (with_reducible repeat first | apply kN | apply kD | apply kA); refine blk_far ?_ aq.out _; (with_reducible repeat first | apply kN | apply kD | apply kA); exact a3.out) hg (Kd.R_ne a8.out a3.out (by decide))); have aN := Z0.mk (blk_grown (g := aE) (o := .cells #[.slice none 0 0, .int .i64 0, .int .i64 0, .slice none 0 0, .bool false] 28 (0, 0)) (by (with_reducible repeat first | apply kN | apply kD | apply kA); refine blk_far ?_ ar.out _; (with_reducible repeat first | apply kN | apply kD | apply kA); refine blk_far ?_ ar.out _; (with_reducible repeat first | apply kN | apply kD | apply kA); refine blk_far ?_ ar.out _; (with_reducible repeat first | apply kN | apply kD | apply kA); exact a6.out) hg (Kd.R_ne a8.out a6.out (by decide))); have aJ := Z0.mk (blk_grown (g := aT) (o := .cells #[u154000, .int .i64 a7, .int .i64 a9, .slice none 0 0, .bool aC] 28 (0, 0)) (by (with_reducible repeat first | apply kN | apply kD | apply kA); refine blk_far ?_ au.out _; (with_reducible repeat first | apply kN | apply kD | apply kA); refine blk_far ?_ au.out _; (with_reducible repeat first | apply kN | apply kD | apply kA); refine blk_far ?_ au.out _; (with_reducible repeat first | apply kN | apply kD | apply kA); exact a5.out) hg (Kd.R_ne a8.out a5.out (by decide))); have aK := Z0.mk (blk_grown (g := ap) (o := .cells #[.int .i64 ((rZ5 a2 aA).f0), .int .i64 ((rZ5 a2 aA).f1), .int .i64 ((rZ5 a2 aA).f2)] 105 (0, 0)) (by (with_reducible repeat first | apply kN | apply kD | apply kA); refine blk_put (cs := #[.int .i64 ((rZ5 a2 aA).f0), .int .i64 ((rZ5 a2 aA).f1), .int .i64 0]) ?_ 2 _ rfl; (with_reducible repeat first | apply kN | apply kD | apply kA); refine blk_put (cs := #[.int .i64 ((rZ5 a2 aA).f0), .int .i64 0, .int .i64 0]) ?_ 1 _ rfl; (with_reducible repeat first | apply kN | apply kD | apply kA); refine blk_put (cs := #[.int .i64 0, .int .i64 0, .int .i64 0]) ?_ 0 _ rfl; (with_reducible repeat first | apply kN | apply kD | apply kA); exact bI.out) hg (Kd.R_ne a8.out bI.out (by decide))); have aU := Z0.mk (hb); have aW := Z0.mk (ho); clear a3 a6 a5 bI HB a8; have a3 := aM; have a6 := aN; have a5 := aJ; have bI := aK; have HB := aU; have cp := aW; clear aM aN aJ aK aU aW ho hb hg hat; obtain ⟨Ao24, co24, eo24⟩ := Kd.R_slice cp.out; subst eo24; obtain ⟨dA, dB, dC, dD, dE, dF, dG, dH, dI, dJ⟩ := kc5 a5.out))
       go_roundg k1
       case measure => have := HK1.out; omega
       case rel => exact ⟨(wrap64 (aA + 1)), (y156), (.slice Ao24 y156.length co24), (by first | rfl | (simp; done) | (simp [*]; done)), H', ⟨by have := HK1.out; omega⟩, ⟨by (with_reducible repeat (first | apply Kd.R_alloc | apply Kd.R_drewN | apply Kd.R_drew)); exact Kd.R_mono (Kd.R_far (p := ⟨aT, 0, none⟩) (Kd.R_types cp.out a5.out (by decide)) (fun _ hk => hk.2) (.slice Ao24 y156.length co24)) (fun _ hk => trivial)⟩, ⟨by (with_reducible repeat first | apply kN | apply kD | apply kA); refine blk_far ?_ aG.out _; (with_reducible repeat first | apply kN | apply kD | apply kA); exact a3.out⟩, ⟨by (with_reducible repeat first | apply kN | apply kD | apply kA); refine blk_far ?_ aI.out _; (with_reducible repeat first | apply kN | apply kD | apply kA); exact a6.out⟩, ⟨by (with_reducible repeat first | apply kN | apply kD | apply kA); refine blk_put (cs := #[u154000, .int .i64 a7, .int .i64 a9, .slice none 0 0, .bool aC]) ?_ 0 _ rfl; (with_reducible repeat first | apply kN | apply kD | apply kA); exact a5.out⟩, ⟨by repeat (first | (with_reducible first | apply bA | apply bN | apply bD | refine bS ?_ aR.out | refine bS ?_ aV.out | refine bS ?_ aa.out | refine bS ?_ bu.out) | exact HB.out)⟩⟩
      ·rw [if_neg c14] at H
       exact absurd H (by simp)
     ·rw [if_neg c13] at H
      exact absurd H (by simp)
    ·rw [if_neg c12] at H
     exact absurd H (by simp)
   ·rw [if_neg c11] at H
    have c11b0 : decide (aA < (a2.length : Int)) = false := decide_eq_false c11
    clear c11
    have H' := Z0.mk H
    clear H
    have hnb26 := b8.out
    have hnc26 := b9.out
    have hnb27 := aG.out
    have hnc27 := af.out
    have dK : wr.cell? ⟨aX, 0, none⟩ = some (.slice aj a2.length ag) := (kC a3.out 0).trans rfl
    have dL : wr.cell? ⟨aX, 1, none⟩ = some (.int .i64 a7) := (kC a3.out 1).trans rfl
    have dM : wr.cell? ⟨aX, 2, none⟩ = some (.int .i64 a9) := (kC a3.out 2).trans rfl
    have dN : wr.cell? ⟨aX, 3, none⟩ = some (.slice ak a1.length ah) := (kC a3.out 3).trans rfl
    have dO : wr.cell? ⟨aX, 4, none⟩ = some (.bool aC) := (kC a3.out 4).trans rfl
    have dP := kF a3.out 0
    have dQ := kF a3.out 1
    have dR := kF a3.out 2
    have dS := kF a3.out 3
    have dT := kF a3.out 4
    go_wp2
    go_loopg [32] k1 (fun kq v32 w' => ∃ (a4 : Int) (aQ : List (S102)) (u154003 : Value), v32 = .int .i64 a4 ∧ Z0 (hackamorelaw28_given.l1 kq a1 (a1.length : Int) a4 aD a7 a9 aQ aC = some (r1, r2, r3, r4, r5)) ∧ Z0 (kq ≤ k1) ∧ Z0 (Kd.R k99 99 w' w.heap.size (fun _ => True) u154000 aD) ∧ Z0 (Kd.R k102 102 w' w.heap.size (fun _ => True) u154003 aQ) ∧ Z0 (w'.heap[aX]? = some (.cells #[(.slice aj a2.length ag), .int .i64 a7, .int .i64 a9, (.slice ak a1.length ah), .bool aC] 46 (0, 0))) ∧ Z0 (w'.heap[aE]? = some (.cells #[(.slice none 0 0), .int .i64 0, .int .i64 0, (.slice none 0 0), .bool false] 28 (0, 0))) ∧ Z0 (w'.heap[aT]? = some (.cells #[u154000, .int .i64 a7, .int .i64 a9, u154003, .bool aC] 28 (0, 0))) ∧ Z0 (Below w.heap.size w w'))
    case atStart => exact ⟨(0), (([] : List (S102))), (.slice none 0 0), (by first | rfl | (simp; done) | (simp [*]; done)), H', ⟨Nat.le_refl _⟩, ⟨by (with_reducible repeat (first | apply Kd.R_alloc | apply Kd.R_drewN | apply Kd.R_drew)); exact a8.out⟩, ⟨by first | exact Kd.R_nil _ _ _ _ _ | exact Kd.N_nil _ _ _ _ _ | exact Kd.V_nil _ _ _ _ _ | exact Kd.Q_nil _ _ _ _ _ | exact Kd.S_nil _ _ _ _ _⟩, ⟨by (with_reducible repeat first | apply kN | apply kD | apply kA); exact a3.out⟩, ⟨by (with_reducible repeat first | apply kN | apply kD | apply kA); exact a6.out⟩, ⟨by (with_reducible repeat first | apply kN | apply kD | apply kA); exact a5.out⟩, ⟨by repeat (first | (with_reducible first | apply bA | apply bN | apply bD | refine bS ?_ aR.out | refine bS ?_ aV.out | refine bS ?_ aa.out) | exact HB.out)⟩⟩
    case round =>
     clear H'
     try clear c1
     try clear p1
     try clear q1
     try clear hx1
     try clear c2
     try clear p2
     try clear c4
     try clear p6
     try clear c7
     try clear c8
     try clear c11
     try clear c11b0
     try clear c12
     try clear c12b0
     try clear c13
     try clear c13b0
     try clear c14
     try clear p15
     try clear q15
     try clear hx15
     try clear c16
     try clear c17
     try clear c18
     try clear c19
     try clear c20
     try clear c21
     try clear c26
     try clear c27
     try clear bc
     try clear bd
     try clear be
     try clear bf
     try clear bg
     try clear bm
     try clear bn
     try clear bo
     try clear d0
     try clear d1
     try clear d2
     try clear d3
     try clear d4
     try clear dA
     try clear dB
     try clear dC
     try clear dD
     try clear dE
     try clear dK
     try clear dL
     try clear dM
     try clear dN
     try clear dO
     try clear cF
     try clear cG
     try clear cH
     try clear cI
     try clear cJ
     try clear cP
     try clear cQ
     try clear cR
     try clear cS
     try clear cT
     try clear bh
     try clear bi
     try clear bj
     try clear bk
     try clear bl
     try clear bp
     try clear bq
     try clear br
     try clear d5
     try clear d6
     try clear d7
     try clear d8
     try clear d9
     try clear dF
     try clear dG
     try clear dH
     try clear dI
     try clear dJ
     try clear dP
     try clear dQ
     try clear dR
     try clear dS
     try clear dT
     try clear cK
     try clear cL
     try clear cM
     try clear cN
     try clear cO
     try clear cU
     try clear cV
     try clear cW
     try clear cX
     try clear cY
     try clear bF
     try clear bG
     try clear bH
     try clear p154
     try clear p2
     try clear q154
     obtain ⟨a4, aQ, u154003, rfl, HA, HK2, a8, aH, a3, a6, a5, HB⟩ := hrel
     cases gk with
     | zero => exact absurd HA.out (by simp [hackamorelaw28_given.l1])
     | succ k2 =>
      have H := HA.out
      clear HA
      simp only [hackamorelaw28_given.l1] at H
      by_cases c29 : a4 < (a1.length : Int)
      ·rw [if_pos c29] at H
       have c29b0 : decide (a4 < (a1.length : Int)) = true := decide_eq_true c29
       clear c29
       by_cases c30 : 0 ≤ a4
       ·rw [if_pos c30] at H
        have c30b0 : decide (0 ≤ a4) = true := decide_eq_true c30
        clear c30
        by_cases c31 : a4 < (a1.length : Int)
        ·rw [if_pos c31] at H
         have c31b0 : decide (a4 < (a1.length : Int)) = true := decide_eq_true c31
         clear c31
         by_cases c32 : aQ.length < 5864062014805
         ·rw [if_pos c32] at H
          have dj := Z0.mk c32
          clear c32
          obtain ⟨y161, bT⟩ : ∃ y_ : List (S102), y_ = (aQ ++ [(⟨(rZ2 a1 a4).f0, (rZ2 a1 a4).f1, (rZ2 a1 a4).f2⟩ : S102)]) := ⟨_, rfl⟩
          replace H : (hackamorelaw28_given.l1 k2 a1 (a1.length : Int) (wrap64 (a4 + 1)) aD a7 a9 y161 aC) = some (r1, r2, r3, r4, r5) := by first | (rw [bT]; with_reducible exact H) | (have H2_ := (Option.bind_some _ _).symm.trans H; rw [bT]; with_reducible exact H2_) | (have H2_ := (Option.bind_some _ _).symm.trans H; with_reducible exact H2_) | with_reducible exact H | (rw [bT]; exact H) | exact H
          have dk := Z0.mk bT
          clear bT
          have H' := Z0.mk H
          clear H
          have p159 : 0 ≤ (a4 : Int) := of_decide_eq_true (by assumption)
          have q159 : a4 < (a1.length : Int) := of_decide_eq_true (by assumption)
          obtain ⟨ad159, e159, bY, ba, bb⟩ := at_T122 bt.out a4 p159 q159
          cases e159
          replace bY := (HB.out.cell (World.block_lt_of_cell? w _ bY)).trans bY
          replace ba := (HB.out.cell (World.block_lt_of_cell? w _ ba)).trans ba
          replace bb := (HB.out.cell (World.block_lt_of_cell? w _ bb)).trans bb
          replace p159 := eq_true p159
          replace q159 := eq_true q159
          go_wp2_with (first | ((with_reducible refine gate_dst (N := 7) rfl ?_); refine box_event ?hg (N := 7) ?hd (cs := #[.int .i64 0, .int .i64 0, .int .i64 0]) (t := 122) ?hr ?_; (case hd => rfl); (case hg => rfl); (case hr => first | (go_simp; done) | (go_simp; rfl)); intro aY hg w33 hbox hb; have aM := Z0.mk (Kd.R_below (by (with_reducible repeat (first | apply Kd.R_alloc | apply Kd.R_drewN | apply Kd.R_drew)); exact a8.out) hb); have aN := Z0.mk (Kd.R_below (by (with_reducible repeat (first | apply Kd.R_alloc | apply Kd.R_drewN | apply Kd.R_drew)); exact aH.out) hb); have aJ := Z0.mk (kB (by (with_reducible repeat first | apply kN | apply kD | apply kA); exact a3.out) hb); have aK := Z0.mk (kB (by (with_reducible repeat first | apply kN | apply kD | apply kA); exact a6.out) hb); have aU := Z0.mk (kB (by (with_reducible repeat first | apply kN | apply kD | apply kA); exact a5.out) hb); have aW := Z0.mk (bP (by repeat (first | (with_reducible first | apply bA | apply bN | apply bD | refine bS ?_ aR.out | refine bS ?_ aV.out | refine bS ?_ aa.out) | exact HB.out)) hb); have aZ := Z0.mk (hbox); have b6 := Z0.mk ((by rw [hg]; exact (bZ (by repeat (first | (with_reducible first | apply bA | apply bN | apply bD | refine bS ?_ aR.out | refine bS ?_ aV.out | refine bS ?_ aa.out) | exact HB.out))) : w.heap.size ≤ aY)); have an := b6; have b7 := Z0.mk ((by rw [hg]; exact Nat.ne_of_lt (blk_lt (by (with_reducible repeat first | apply kN | apply kD | apply kA); exact a3.out)) : aX ≠ aY)); have b1 := Z0.mk (Ne.symm b7.out); have b5 := Z0.mk ((by rw [hg]; exact Nat.ne_of_lt (blk_lt (by (with_reducible repeat first | apply kN | apply kD | apply kA); exact a6.out)) : aE ≠ aY)); have bW := Z0.mk (Ne.symm b5.out); have bX := Z0.mk ((by rw [hg]; exact Nat.ne_of_lt (blk_lt (by (with_reducible repeat first | apply kN | apply kD | apply kA); exact a5.out)) : aT ≠ aY)); have dg := Z0.mk (Ne.symm bX.out); clear a8 aH a3 a6 a5 HB; have a8 := aM; have aH := aN; have a3 := aJ; have a6 := aK; have a5 := aU; have HB := aW; have av := aZ; have f7 := b6; have bv := an; have aw := b7; have cc := b1; have ax := b5; have cd := bW; have ay := bX; have ce := dg; clear aM aN aJ aK aU aW aZ b6 an b7 b1 b5 bW bX dg hb hbox hg; have hnb34 := cc.out; have hnc34 := aw.out; have hnb35 := cd.out; have hnc35 := ax.out; have hnb36 := ce.out; have hnc36 := ay.out; obtain ⟨dq, dr, ds, dt, du, dv⟩ := kc3 av.out; have hnb38 := af.out; have hnc38 := aG.out; have hnb39 := ao.out; have hnc39 := aI.out; obtain ⟨dw, dx, dy, dz, e0, e1, e2, e3, e4, e5⟩ := kc5 a5.out) | ((with_reducible refine gate_builtin (b := .append) (xs := #[.tmp 37, .tmp 39]) rfl ?_); at_builtin; refine Kd.R_append k102 (w0 := w) w.heap.size rfl (.tmp 37) (.tmp 39) 26 102 (.agg #[(.int .i64 0), (.int .i64 0), (.int .i64 0)]) 24 rfl Try.underlying26 info102 rfl (by decide) (by omega) u154003 aQ (⟨(rZ2 a1 a4).f0, (rZ2 a1 a4).f1, (rZ2 a1 a4).f2⟩ : S102) [.int .i64 ((rZ2 a1 a4).f0), .int .i64 ((rZ2 a1 a4).f1), .int .i64 ((rZ2 a1 a4).f2)] (fun _ => True) (fun _ => False) rfl (by first | (go_simp; done) | (go_simp; rfl)) ?aP (fun _ hk => hk.elim) ?aF ?aO ?aB ?aS ?aL ?_; (case aP => exact k102_mkM _ _ _ (⟨(rZ2 a1 a4).f0, (rZ2 a1 a4).f1, (rZ2 a1 a4).f2⟩ : S102)); (case aB => exact (by repeat (first | (with_reducible first | apply bA | apply bN | apply bD | refine bS ?_ aR.out | refine bS ?_ aV.out | refine bS ?_ aa.out | refine bS ?_ bv.out) | exact HB.out))); (case aF => exact (fun _ _ => trivial)); (case aO => exact (by (with_reducible repeat (first | apply Kd.R_alloc | apply Kd.R_drewN | apply Kd.R_drew)); exact Kd.R_mono (Kd.R_far (p := ⟨aY, 2, none⟩) (Kd.R_far (p := ⟨aY, 1, none⟩) (Kd.R_far (p := ⟨aY, 0, none⟩) (Kd.R_types aH.out av.out (by decide)) (fun _ hk => hk.2) (.int .i64 ((rZ2 a1 a4).f0))) (fun _ hk => hk.2) (.int .i64 ((rZ2 a1 a4).f1))) (fun _ hk => hk.2) (.int .i64 ((rZ2 a1 a4).f2))) (fun _ hk => trivial))); (case aS => exact (bZ (by repeat (first | (with_reducible first | apply bA | apply bN | apply bD | refine bS ?_ aR.out | refine bS ?_ aV.out | refine bS ?_ aa.out | refine bS ?_ bv.out) | exact HB.out)))); (case aL => have := dj.out; omega); intro v162 w41 ho hb hg hat; rw [← dk.out] at ho; have aM := Z0.mk (Kd.R_over' (by (with_reducible repeat (first | apply Kd.R_alloc | apply Kd.R_drewN | apply Kd.R_drew)); exact (Kd.R_mono (Kd.R_far (p := ⟨aY, 2, none⟩) (Kd.R_far (p := ⟨aY, 1, none⟩) (Kd.R_far (p := ⟨aY, 0, none⟩) (Kd.R_types a8.out av.out (by decide)) (fun _ hk => hk.2) (.int .i64 ((rZ2 a1 a4).f0))) (fun _ hk => hk.2) (.int .i64 ((rZ2 a1 a4).f1))) (fun _ hk => hk.2) (.int .i64 ((rZ2 a1 a4).f2))) (fun _ h_ => h_.1))) (Kd.R_typed (by (with_reducible repeat (first | apply Kd.R_alloc | apply Kd.R_drewN | apply Kd.R_drew)); exact (Kd.R_mono (Kd.R_far (p := ⟨aY, 2, none⟩) (Kd.R_far (p := ⟨aY, 1, none⟩) (Kd.R_far (p := ⟨aY, 0, none⟩) (Kd.R_types aH.out av.out (by decide)) (fun _ hk => hk.2) (.int .i64 ((rZ2 a1 a4).f0))) (fun _ hk => hk.2) (.int .i64 ((rZ2 a1 a4).f1))) (fun _ hk => hk.2) (.int .i64 ((rZ2 a1 a4).f2))) (fun _ h_ => h_.1)))) (by decide) hg); have aN := Z0.mk (blk_grown (g := aX) (o := .cells #[.slice aj a2.length ag, .int .i64 a7, .int .i64 a9, .slice (some ad159) a1.length ah, .bool aC] 46 (0, 0)) (by (with_reducible repeat first | apply kN | apply kD | apply kA); refine blk_far ?_ aw.out _; (with_reducible repeat first | apply kN | apply kD | apply kA); refine blk_far ?_ aw.out _; (with_reducible repeat first | apply kN | apply kD | apply kA); refine blk_far ?_ aw.out _; (with_reducible repeat first | apply kN | apply kD | apply kA); exact a3.out) hg (Kd.R_ne aH.out a3.out (by decide))); have aJ := Z0.mk (blk_grown (g := aE) (o := .cells #[.slice none 0 0, .int .i64 0, .int .i64 0, .slice none 0 0, .bool false] 28 (0, 0)) (by (with_reducible repeat first | apply kN | apply kD | apply kA); refine blk_far ?_ ax.out _; (with_reducible repeat first | apply kN | apply kD | apply kA); refine blk_far ?_ ax.out _; (with_reducible repeat first | apply kN | apply kD | apply kA); refine blk_far ?_ ax.out _; (with_reducible repeat first | apply kN | apply kD | apply kA); exact a6.out) hg (Kd.R_ne aH.out a6.out (by decide))); have aK := Z0.mk (blk_grown (g := aT) (o := .cells #[u154000, .int .i64 a7, .int .i64 a9, u154003, .bool aC] 28 (0, 0)) (by (with_reducible repeat first | apply kN | apply kD | apply kA); refine blk_far ?_ ay.out _; (with_reducible repeat first | apply kN | apply kD | apply kA); refine blk_far ?_ ay.out _; (with_reducible repeat first | apply kN | apply kD | apply kA); refine blk_far ?_ ay.out _; (with_reducible repeat first | apply kN | apply kD | apply kA); exact a5.out) hg (Kd.R_ne aH.out a5.out (by decide))); have aU := Z0.mk (blk_grown (g := aY) (o := .cells #[.int .i64 ((rZ2 a1 a4).f0), .int .i64 ((rZ2 a1 a4).f1), .int .i64 ((rZ2 a1 a4).f2)] 122 (0, 0)) (by (with_reducible repeat first | apply kN | apply kD | apply kA); refine blk_put (cs := #[.int .i64 ((rZ2 a1 a4).f0), .int .i64 ((rZ2 a1 a4).f1), .int .i64 0]) ?_ 2 _ rfl; (with_reducible repeat first | apply kN | apply kD | apply kA); refine blk_put (cs := #[.int .i64 ((rZ2 a1 a4).f0), .int .i64 0, .int .i64 0]) ?_ 1 _ rfl; (with_reducible repeat first | apply kN | apply kD | apply kA); refine blk_put (cs := #[.int .i64 0, .int .i64 0, .int .i64 0]) ?_ 0 _ rfl; (with_reducible repeat first | apply kN | apply kD | apply kA); exact av.out) hg (Kd.R_ne aH.out av.out (by decide))); have aW := Z0.mk (hb); have aZ := Z0.mk (ho); clear a8 a3 a6 a5 av HB aH; have a8 := aM; have a3 := aN; have a6 := aJ; have a5 := aK; have av := aU; have HB := aW; have cq := aZ; clear aM aN aJ aK aU aW aZ ho hb hg hat; obtain ⟨Ao42, co42, eo42⟩ := Kd.R_slice cq.out; subst eo42; obtain ⟨e6, e7, e8, e9, eA, eB, eC, eD, eE, eF⟩ := kc5 a5.out))
          go_roundg k2
          case measure => have := HK1.out; have := HK2.out; omega
          case rel => exact ⟨(wrap64 (a4 + 1)), (y161), (.slice Ao42 y161.length co42), (by first | rfl | (simp; done) | (simp [*]; done)), H', ⟨by have := HK1.out; have := HK2.out; omega⟩, ⟨by (with_reducible repeat (first | apply Kd.R_alloc | apply Kd.R_drewN | apply Kd.R_drew)); exact Kd.R_mono (Kd.R_far (p := ⟨aT, 3, none⟩) (Kd.R_types a8.out a5.out (by decide)) (fun _ hk => hk.2) (.slice Ao42 y161.length co42)) (fun _ hk => trivial)⟩, ⟨by (with_reducible repeat (first | apply Kd.R_alloc | apply Kd.R_drewN | apply Kd.R_drew)); exact Kd.R_mono (Kd.R_far (p := ⟨aT, 3, none⟩) (Kd.R_types cq.out a5.out (by decide)) (fun _ hk => hk.2) (.slice Ao42 y161.length co42)) (fun _ hk => trivial)⟩, ⟨by (with_reducible repeat first | apply kN | apply kD | apply kA); refine blk_far ?_ aG.out _; (with_reducible repeat first | apply kN | apply kD | apply kA); exact a3.out⟩, ⟨by (with_reducible repeat first | apply kN | apply kD | apply kA); refine blk_far ?_ aI.out _; (with_reducible repeat first | apply kN | apply kD | apply kA); exact a6.out⟩, ⟨by (with_reducible repeat first | apply kN | apply kD | apply kA); refine blk_put (cs := #[u154000, .int .i64 a7, .int .i64 a9, u154003, .bool aC]) ?_ 3 _ rfl; (with_reducible repeat first | apply kN | apply kD | apply kA); exact a5.out⟩, ⟨by repeat (first | (with_reducible first | apply bA | apply bN | apply bD | refine bS ?_ aR.out | refine bS ?_ aV.out | refine bS ?_ aa.out | refine bS ?_ bv.out) | exact HB.out)⟩⟩
         ·rw [if_neg c32] at H
          exact absurd H (by simp)
        ·rw [if_neg c31] at H
         exact absurd H (by simp)
       ·rw [if_neg c30] at H
        exact absurd H (by simp)
      ·rw [if_neg c29] at H
       have c29b0 : decide (a4 < (a1.length : Int)) = false := decide_eq_false c29
       clear c29
       simp only [Option.some.injEq, Prod.mk.injEq] at H
       obtain ⟨rfl, rfl, rfl, rfl, rfl⟩ := H
       have hnb44 := af.out
       have hnc44 := aG.out
       have hnb45 := ao.out
       have hnc45 := aI.out
       have eG : wr.cell? ⟨aT, 0, none⟩ = some (u154000) := (kC a5.out 0).trans rfl
       have eH : wr.cell? ⟨aT, 1, none⟩ = some (.int .i64 a7) := (kC a5.out 1).trans rfl
       have eI : wr.cell? ⟨aT, 2, none⟩ = some (.int .i64 a9) := (kC a5.out 2).trans rfl
       have eJ : wr.cell? ⟨aT, 3, none⟩ = some (u154003) := (kC a5.out 3).trans rfl
       have eK : wr.cell? ⟨aT, 4, none⟩ = some (.bool aC) := (kC a5.out 4).trans rfl
       have eL := kF a5.out 0
       have eM := kF a5.out 1
       have eN := kF a5.out 2
       have eO := kF a5.out 3
       have eP := kF a5.out 4
       obtain ⟨Ao47, co47, eo47⟩ := Kd.R_slice a8.out
       subst eo47
       have hnb48 := b9.out
       have hnc48 := b8.out
       have eQ : wr.cell? ⟨aE, 0, none⟩ = some (.slice none 0 0) := (kC a6.out 0).trans rfl
       have eR : wr.cell? ⟨aE, 1, none⟩ = some (.int .i64 0) := (kC a6.out 1).trans rfl
       have eS : wr.cell? ⟨aE, 2, none⟩ = some (.int .i64 0) := (kC a6.out 2).trans rfl
       have eT : wr.cell? ⟨aE, 3, none⟩ = some (.slice none 0 0) := (kC a6.out 3).trans rfl
       have eU : wr.cell? ⟨aE, 4, none⟩ = some (.bool false) := (kC a6.out 4).trans rfl
       have eV := kF a6.out 0
       have eW := kF a6.out 1
       have eX := kF a6.out 2
       have eY := kF a6.out 3
       have eZ := kF a6.out 4
       obtain ⟨Ao50, co50, eo50⟩ := Kd.R_slice aH.out
       subst eo50
       go_wp2
       refine bodyPost_ret (results_cell_row rfl _ _ aE 28 #[.slice Ao47 aD.length co47, .int .i64 a7, .int .i64 a9, .slice Ao50 aQ.length co50, .bool aC] (0, 0) _ rfl (by (with_reducible repeat first | apply kN | apply kD | apply kA); refine blk_put (cs := #[.slice Ao47 aD.length co47, .int .i64 a7, .int .i64 a9, .slice Ao50 aQ.length co50, .bool false]) ?_ 4 _ rfl; (with_reducible repeat first | apply kN | apply kD | apply kA); refine blk_put (cs := #[.slice Ao47 aD.length co47, .int .i64 a7, .int .i64 a9, .slice none 0 0, .bool false]) ?_ 3 _ rfl; (with_reducible repeat first | apply kN | apply kD | apply kA); refine blk_put (cs := #[.slice Ao47 aD.length co47, .int .i64 a7, .int .i64 0, .slice none 0 0, .bool false]) ?_ 2 _ rfl; (with_reducible repeat first | apply kN | apply kD | apply kA); refine blk_put (cs := #[.slice Ao47 aD.length co47, .int .i64 0, .int .i64 0, .slice none 0 0, .bool false]) ?_ 1 _ rfl; (with_reducible repeat first | apply kN | apply kD | apply kA); refine blk_put (cs := #[.slice none 0 0, .int .i64 0, .int .i64 0, .slice none 0 0, .bool false]) ?_ 0 _ rfl; (with_reducible repeat first | apply kN | apply kD | apply kA); exact a6.out) Try.underlying28 rfl (by kernel_rfl)) rfl ?_
       exact ⟨_, _, by first | rfl | (simp [errW_none, errW_some] <;> rfl) | (simp [*, errW_none, errW_some] <;> rfl), by (with_reducible repeat (first | apply Kd.R_alloc | apply Kd.R_drewN | apply Kd.R_drew)); exact Kd.R_mono (Kd.R_far (p := ⟨aE, 4, none⟩) (Kd.R_far (p := ⟨aE, 3, none⟩) (Kd.R_far (p := ⟨aE, 2, none⟩) (Kd.R_far (p := ⟨aE, 1, none⟩) (Kd.R_far (p := ⟨aE, 0, none⟩) (Kd.R_types a8.out a6.out (by decide)) (fun _ hk => hk.2) (.slice Ao47 aD.length co47)) (fun _ hk => hk.2) (.int .i64 a7)) (fun _ hk => hk.2) (.int .i64 a9)) (fun _ hk => hk.2) (.slice Ao50 aQ.length co50)) (fun _ hk => hk.2) (.bool aC)) (fun _ hk => trivial), by (with_reducible repeat (first | apply Kd.R_alloc | apply Kd.R_drewN | apply Kd.R_drew)); exact Kd.R_mono (Kd.R_far (p := ⟨aE, 4, none⟩) (Kd.R_far (p := ⟨aE, 3, none⟩) (Kd.R_far (p := ⟨aE, 2, none⟩) (Kd.R_far (p := ⟨aE, 1, none⟩) (Kd.R_far (p := ⟨aE, 0, none⟩) (Kd.R_types aH.out a6.out (by decide)) (fun _ hk => hk.2) (.slice Ao47 aD.length co47)) (fun _ hk => hk.2) (.int .i64 a7)) (fun _ hk => hk.2) (.int .i64 a9)) (fun _ hk => hk.2) (.slice Ao50 aQ.length co50)) (fun _ hk => hk.2) (.bool aC)) (fun _ hk => trivial), by repeat (first | (with_reducible first | apply bA | apply bN | apply bD | refine bS ?_ aR.out | refine bS ?_ aV.out | refine bS ?_ aa.out) | exact HB.out)⟩
def mailbox_Node_44.l0 : Nat → List (S99) → List (S99) → Int → Int → Option (Bool)
 | 0, _, _, _, _ => none
 | k + 1, x0, x1, x12, x13 => if x13 < x12 then (if 0 ≤ x13 then (if x13 < (x0.length : Int) then (if x13 < (x1.length : Int) then (if (!(((rd_T99 x0 x13).f0) == ((rd_T99 x1 x13).f0)) || (!(((rd_T99 x0 x13).f1) == ((rd_T99 x1 x13).f1)) || (!(((rd_T99 x0 x13).f2) == ((rd_T99 x1 x13).f2))))) = true then (some false) else (mailbox_Node_44.l0 k x0 x1 x12 (wrap64 (x13 + 1)))) else (none)) else (none)) else (none)) else (some true)
def mailbox_Node_44.f (k : Nat) (l0 : List (S99)) (l1 : List (S99)) : Option (Bool) := if (l0.length : Int) = (l1.length : Int) then (mailbox_Node_44.l0 k l0 l1 (l0.length : Int) 0) else (some false)
set_option maxHeartbeats 8000000 in
set_option maxRecDepth 100000 in
theorem mailbox_Node_44.calls (k : Nat) (A0 : Option Addr) (c0 : Nat) (l0 : List (S99)) (A1 : Option Addr) (c1 : Nat) (l1 : List (S99)) (r : Bool) (w : World) (hr0 : Kd.C k99 w A0 l0.length l0) (hc0 : l0.length ≤ c0) (hr1 : Kd.C k99 w A1 l1.length l1) (hc1 : l1.length ≤ c1) (h : mailbox_Node_44.f k l0 l1 = some r) :
  Calls Try.prog 44 #[.slice A0 l0.length c0, .slice A1 l1.length c1] w fun e w' => e = .returned (.bool r) ∧ Drawn0 w w' := by
 have hu99 := Try.underlying99
 have cf := Z0.mk hr0
 have ey := Z0.mk hc0
 clear hr0 hc0
 have cg := Z0.mk hr1
 have ez := Z0.mk hc1
 clear hr1 hc1
 have H : (if (l0.length : Int) = (l1.length : Int) then (mailbox_Node_44.l0 k l0 l1 (l0.length : Int) 0) else (some false)) = some r := h
 clear h
 by_cases c3 : (l0.length : Int) = (l1.length : Int)
 ·rw [if_pos c3] at H
  have c3b0 : ((l0.length : Int) == (l1.length : Int)) = true := beq_iff_eq.mpr c3
  have c3b1 : ((l0.length : Int) != (l1.length : Int)) = false := bne_eq_false_iff_eq.mpr c3
  have c3b2 : (l0.length == l1.length) = true := by first | simpa using c3 | (simp at c3 ⊢; omega)
  clear c3
  have H' := Z0.mk H
  clear H
  go_enter Try.func44, Try.ntmps44
  go_wp2
  repeat (go_quiet (fail); try go_wp2)
  go_loopg [13] k (fun kq v13 w' => ∃ (a0 : Int), v13 = .int .i64 a0 ∧ Z0 (mailbox_Node_44.l0 kq l0 l1 (l0.length : Int) a0 = some r) ∧ Z0 (kq ≤ k) ∧ Drawn0 w w')
  case atStart => exact ⟨(0), (by first | rfl | (simp; done) | (simp [*]; done)), H', ⟨Nat.le_refl _⟩, by repeat (first | exact Drawn0.refl _ | apply Drawn0.step)⟩
  case round =>
   clear H'
   try clear c1
   try clear p2
   try clear c3
   try clear c3b0
   try clear c3b1
   try clear c3b2
   obtain ⟨a0, rfl, HA, HK1, ⟨m1, rfl⟩⟩ := hrel
   cases gk with
   | zero => exact absurd HA.out (by simp [mailbox_Node_44.l0])
   | succ k1 =>
    have H := HA.out
    clear HA
    simp only [mailbox_Node_44.l0] at H
    by_cases c4 : a0 < (l0.length : Int)
    ·rw [if_pos c4] at H
     have c4b0 : decide (a0 < (l0.length : Int)) = true := decide_eq_true c4
     clear c4
     by_cases c5 : 0 ≤ a0
     ·rw [if_pos c5] at H
      have c5b0 : decide (0 ≤ a0) = true := decide_eq_true c5
      clear c5
      by_cases c6 : a0 < (l0.length : Int)
      ·rw [if_pos c6] at H
       have c6b0 : decide (a0 < (l0.length : Int)) = true := decide_eq_true c6
       clear c6
       by_cases c7 : a0 < (l1.length : Int)
       ·rw [if_pos c7] at H
        have c7b0 : decide (a0 < (l1.length : Int)) = true := decide_eq_true c7
        clear c7
        by_cases c8 : (!(((rd_T99 l0 a0).f0) == ((rd_T99 l1 a0).f0)) || (!(((rd_T99 l0 a0).f1) == ((rd_T99 l1 a0).f1)) || (!(((rd_T99 l0 a0).f2) == ((rd_T99 l1 a0).f2))))) = true
        ·rw [if_pos c8] at H
         have c8b0 : (!(((rd_T99 l0 a0).f0) == ((rd_T99 l1 a0).f0)) || (!(((rd_T99 l0 a0).f1) == ((rd_T99 l1 a0).f1)) || (!(((rd_T99 l0 a0).f2) == ((rd_T99 l1 a0).f2))))) = true := c8
         clear c8
         obtain rfl := Option.some.inj H
         have p164 : 0 ≤ (a0 : Int) := of_decide_eq_true (by assumption)
         have q164 : a0 < (l0.length : Int) := of_decide_eq_true (by assumption)
         obtain ⟨ad164, e164, dU, dV, dW⟩ := at_T99 cf.out a0 p164 q164
         cases e164
         replace p164 := eq_true p164
         replace q164 := eq_true q164
         have p165 : 0 ≤ (a0 : Int) := of_decide_eq_true (by assumption)
         have q165 : a0 < (l1.length : Int) := of_decide_eq_true (by assumption)
         obtain ⟨ad165, e165, dX, dY, dZ⟩ := at_T99 cg.out a0 p165 q165
         cases e165
         replace p165 := eq_true p165
         replace q165 := eq_true q165
         go_wp2
         repeat (go_quiet (fail); try go_wp2)
         go_ret
         exact ⟨by first | rfl | (simp; done) | (simp [*]; done), by repeat (first | exact Drawn0.refl _ | apply Drawn0.step)⟩
        ·rw [if_neg c8] at H
         have c8b0 : (!(((rd_T99 l0 a0).f0) == ((rd_T99 l1 a0).f0)) || (!(((rd_T99 l0 a0).f1) == ((rd_T99 l1 a0).f1)) || (!(((rd_T99 l0 a0).f2) == ((rd_T99 l1 a0).f2))))) = false := by simpa using c8
         clear c8
         have H' := Z0.mk H
         clear H
         have p164 : 0 ≤ (a0 : Int) := of_decide_eq_true (by assumption)
         have q164 : a0 < (l0.length : Int) := of_decide_eq_true (by assumption)
         obtain ⟨ad164, e164, dU, dV, dW⟩ := at_T99 cf.out a0 p164 q164
         cases e164
         replace p164 := eq_true p164
         replace q164 := eq_true q164
         have p165 : 0 ≤ (a0 : Int) := of_decide_eq_true (by assumption)
         have q165 : a0 < (l1.length : Int) := of_decide_eq_true (by assumption)
         obtain ⟨ad165, e165, dX, dY, dZ⟩ := at_T99 cg.out a0 p165 q165
         cases e165
         replace p165 := eq_true p165
         replace q165 := eq_true q165
         go_wp2
         repeat (go_quiet (fail); try go_wp2)
         go_roundg k1
         case measure => have := HK1.out; omega
         case rel => exact ⟨(wrap64 (a0 + 1)), (by first | rfl | (simp; done) | (simp [*]; done)), H', ⟨by have := HK1.out; omega⟩, by repeat (first | exact Drawn0.refl _ | apply Drawn0.step)⟩
       ·rw [if_neg c7] at H
        exact absurd H (by simp)
      ·rw [if_neg c6] at H
       exact absurd H (by simp)
     ·rw [if_neg c5] at H
      exact absurd H (by simp)
    ·rw [if_neg c4] at H
     have c4b0 : decide (a0 < (l0.length : Int)) = false := decide_eq_false c4
     clear c4
     obtain rfl := Option.some.inj H
     go_wp2
     repeat (go_quiet (fail); try go_wp2)
     go_ret
     exact ⟨by first | rfl | (simp; done) | (simp [*]; done), by repeat (first | exact Drawn0.refl _ | apply Drawn0.step)⟩
 ·rw [if_neg c3] at H
  have c3b0 : ((l0.length : Int) == (l1.length : Int)) = false := beq_eq_false_iff_ne.mpr c3
  have c3b1 : ((l0.length : Int) != (l1.length : Int)) = true := bne_iff_ne.mpr c3
  have c3b2 : (l0.length == l1.length) = false := by first | simpa using c3 | (simp at c3 ⊢; omega)
  obtain rfl := Option.some.inj H
  go_enter Try.func44, Try.ntmps44
  go_wp2
  repeat (go_quiet (fail); try go_wp2)
  go_ret
  exact ⟨by first | rfl | (simp; done) | (simp [*]; done), by repeat (first | exact Drawn0.refl _ | apply Drawn0.step)⟩
def mailbox_Push_45.l0 : Nat → List (S102) → List (S102) → Int → Int → Option (Bool)
 | 0, _, _, _, _ => none
 | k + 1, x0, x1, x12, x13 => if x13 < x12 then (if 0 ≤ x13 then (if x13 < (x0.length : Int) then (if x13 < (x1.length : Int) then (if (!(((rd_T102 x0 x13).f0) == ((rd_T102 x1 x13).f0)) || (!(((rd_T102 x0 x13).f1) == ((rd_T102 x1 x13).f1)) || (!(((rd_T102 x0 x13).f2) == ((rd_T102 x1 x13).f2))))) = true then (some false) else (mailbox_Push_45.l0 k x0 x1 x12 (wrap64 (x13 + 1)))) else (none)) else (none)) else (none)) else (some true)
def mailbox_Push_45.f (k : Nat) (l0 : List (S102)) (l1 : List (S102)) : Option (Bool) := if (l0.length : Int) = (l1.length : Int) then (mailbox_Push_45.l0 k l0 l1 (l0.length : Int) 0) else (some false)
set_option maxHeartbeats 8000000 in
set_option maxRecDepth 100000 in
theorem mailbox_Push_45.calls (k : Nat) (A0 : Option Addr) (c0 : Nat) (l0 : List (S102)) (A1 : Option Addr) (c1 : Nat) (l1 : List (S102)) (r : Bool) (w : World) (hr0 : Kd.C k102 w A0 l0.length l0) (hc0 : l0.length ≤ c0) (hr1 : Kd.C k102 w A1 l1.length l1) (hc1 : l1.length ≤ c1) (h : mailbox_Push_45.f k l0 l1 = some r) :
  Calls Try.prog 45 #[.slice A0 l0.length c0, .slice A1 l1.length c1] w fun e w' => e = .returned (.bool r) ∧ Drawn0 w w' := by
 have hu102 := Try.underlying102
 have cf := Z0.mk hr0
 have ey := Z0.mk hc0
 clear hr0 hc0
 have cg := Z0.mk hr1
 have ez := Z0.mk hc1
 clear hr1 hc1
 have H : (if (l0.length : Int) = (l1.length : Int) then (mailbox_Push_45.l0 k l0 l1 (l0.length : Int) 0) else (some false)) = some r := h
 clear h
 by_cases c3 : (l0.length : Int) = (l1.length : Int)
 ·rw [if_pos c3] at H
  have c3b0 : ((l0.length : Int) == (l1.length : Int)) = true := beq_iff_eq.mpr c3
  have c3b1 : ((l0.length : Int) != (l1.length : Int)) = false := bne_eq_false_iff_eq.mpr c3
  have c3b2 : (l0.length == l1.length) = true := by first | simpa using c3 | (simp at c3 ⊢; omega)
  clear c3
  have H' := Z0.mk H
  clear H
  go_enter Try.func45, Try.ntmps45
  go_wp2
  repeat (go_quiet (fail); try go_wp2)
  go_loopg [13] k (fun kq v13 w' => ∃ (a0 : Int), v13 = .int .i64 a0 ∧ Z0 (mailbox_Push_45.l0 kq l0 l1 (l0.length : Int) a0 = some r) ∧ Z0 (kq ≤ k) ∧ Drawn0 w w')
  case atStart => exact ⟨(0), (by first | rfl | (simp; done) | (simp [*]; done)), H', ⟨Nat.le_refl _⟩, by repeat (first | exact Drawn0.refl _ | apply Drawn0.step)⟩
  case round =>
   clear H'
   try clear c1
   try clear p2
   try clear c3
   try clear c3b0
   try clear c3b1
   try clear c3b2
   obtain ⟨a0, rfl, HA, HK1, ⟨m1, rfl⟩⟩ := hrel
   cases gk with
   | zero => exact absurd HA.out (by simp [mailbox_Push_45.l0])
   | succ k1 =>
    have H := HA.out
    clear HA
    simp only [mailbox_Push_45.l0] at H
    by_cases c4 : a0 < (l0.length : Int)
    ·rw [if_pos c4] at H
     have c4b0 : decide (a0 < (l0.length : Int)) = true := decide_eq_true c4
     clear c4
     by_cases c5 : 0 ≤ a0
     ·rw [if_pos c5] at H
      have c5b0 : decide (0 ≤ a0) = true := decide_eq_true c5
      clear c5
      by_cases c6 : a0 < (l0.length : Int)
      ·rw [if_pos c6] at H
       have c6b0 : decide (a0 < (l0.length : Int)) = true := decide_eq_true c6
       clear c6
       by_cases c7 : a0 < (l1.length : Int)
       ·rw [if_pos c7] at H
        have c7b0 : decide (a0 < (l1.length : Int)) = true := decide_eq_true c7
        clear c7
        by_cases c8 : (!(((rd_T102 l0 a0).f0) == ((rd_T102 l1 a0).f0)) || (!(((rd_T102 l0 a0).f1) == ((rd_T102 l1 a0).f1)) || (!(((rd_T102 l0 a0).f2) == ((rd_T102 l1 a0).f2))))) = true
        ·rw [if_pos c8] at H
         have c8b0 : (!(((rd_T102 l0 a0).f0) == ((rd_T102 l1 a0).f0)) || (!(((rd_T102 l0 a0).f1) == ((rd_T102 l1 a0).f1)) || (!(((rd_T102 l0 a0).f2) == ((rd_T102 l1 a0).f2))))) = true := c8
         clear c8
         obtain rfl := Option.some.inj H
         have p166 : 0 ≤ (a0 : Int) := of_decide_eq_true (by assumption)
         have q166 : a0 < (l0.length : Int) := of_decide_eq_true (by assumption)
         obtain ⟨ad166, e166, da, db, dc⟩ := at_T102 cf.out a0 p166 q166
         cases e166
         replace p166 := eq_true p166
         replace q166 := eq_true q166
         have p167 : 0 ≤ (a0 : Int) := of_decide_eq_true (by assumption)
         have q167 : a0 < (l1.length : Int) := of_decide_eq_true (by assumption)
         obtain ⟨ad167, e167, dd, de, df⟩ := at_T102 cg.out a0 p167 q167
         cases e167
         replace p167 := eq_true p167
         replace q167 := eq_true q167
         go_wp2
         repeat (go_quiet (fail); try go_wp2)
         go_ret
         exact ⟨by first | rfl | (simp; done) | (simp [*]; done), by repeat (first | exact Drawn0.refl _ | apply Drawn0.step)⟩
        ·rw [if_neg c8] at H
         have c8b0 : (!(((rd_T102 l0 a0).f0) == ((rd_T102 l1 a0).f0)) || (!(((rd_T102 l0 a0).f1) == ((rd_T102 l1 a0).f1)) || (!(((rd_T102 l0 a0).f2) == ((rd_T102 l1 a0).f2))))) = false := by simpa using c8
         clear c8
         have H' := Z0.mk H
         clear H
         have p166 : 0 ≤ (a0 : Int) := of_decide_eq_true (by assumption)
         have q166 : a0 < (l0.length : Int) := of_decide_eq_true (by assumption)
         obtain ⟨ad166, e166, da, db, dc⟩ := at_T102 cf.out a0 p166 q166
         cases e166
         replace p166 := eq_true p166
         replace q166 := eq_true q166
         have p167 : 0 ≤ (a0 : Int) := of_decide_eq_true (by assumption)
         have q167 : a0 < (l1.length : Int) := of_decide_eq_true (by assumption)
         obtain ⟨ad167, e167, dd, de, df⟩ := at_T102 cg.out a0 p167 q167
         cases e167
         replace p167 := eq_true p167
         replace q167 := eq_true q167
         go_wp2
         repeat (go_quiet (fail); try go_wp2)
         go_roundg k1
         case measure => have := HK1.out; omega
         case rel => exact ⟨(wrap64 (a0 + 1)), (by first | rfl | (simp; done) | (simp [*]; done)), H', ⟨by have := HK1.out; omega⟩, by repeat (first | exact Drawn0.refl _ | apply Drawn0.step)⟩
       ·rw [if_neg c7] at H
        exact absurd H (by simp)
      ·rw [if_neg c6] at H
       exact absurd H (by simp)
     ·rw [if_neg c5] at H
      exact absurd H (by simp)
    ·rw [if_neg c4] at H
     have c4b0 : decide (a0 < (l0.length : Int)) = false := decide_eq_false c4
     clear c4
     obtain rfl := Option.some.inj H
     go_wp2
     repeat (go_quiet (fail); try go_wp2)
     go_ret
     exact ⟨by first | rfl | (simp; done) | (simp [*]; done), by repeat (first | exact Drawn0.refl _ | apply Drawn0.step)⟩
 ·rw [if_neg c3] at H
  have c3b0 : ((l0.length : Int) == (l1.length : Int)) = false := beq_eq_false_iff_ne.mpr c3
  have c3b1 : ((l0.length : Int) != (l1.length : Int)) = true := bne_iff_ne.mpr c3
  have c3b2 : (l0.length == l1.length) = false := by first | simpa using c3 | (simp at c3 ⊢; omega)
  obtain rfl := Option.some.inj H
  go_enter Try.func45, Try.ntmps45
  go_wp2
  repeat (go_quiet (fail); try go_wp2)
  go_ret
  exact ⟨by first | rfl | (simp; done) | (simp [*]; done), by repeat (first | exact Drawn0.refl _ | apply Drawn0.step)⟩
def hackamorelaw28_alike.f (k : Nat) (a2 : List (S99)) (a7 : Int) (a9 : Int) (a1 : List (S102)) (aC : Bool) (al : List (S105)) (bB : Int) (bC : Int) (am : List (S122)) (bE : Bool) : Option (Bool) := (hackamorelaw28_given.f k al bB bC am bE).bind fun ad => (if a7 = ad.2.1 then (if a9 = ad.2.2.1 then (if (aC == ad.2.2.2.2) = true then ((mailbox_Node_44.f k a2 ad.1).bind fun t180 => (if t180 = true then ((mailbox_Push_45.f k a1 ad.2.2.2.1).bind fun t181 => (some t181)) else (some false))) else (some false)) else (some false)) else (some false))
set_option maxHeartbeats 8000000 in
set_option maxRecDepth 100000 in
theorem hackamorelaw28_alike.calls (k : Nat) (aj : Option Addr) (ag : Nat) (a2 : List (S99)) (a7 : Int) (a9 : Int) (ak : Option Addr) (ah : Nat) (a1 : List (S102)) (aC : Bool) (bw : Option Addr) (bx : Nat) (al : List (S105)) (bB : Int) (bC : Int) (bz : Option Addr) (c9 : Nat) (am : List (S122)) (bE : Bool) (r : Bool) (w : World) (bL : Kd.C k99 w aj a2.length a2) (bM : a2.length ≤ ag) (bO : Kd.C k102 w ak a1.length a1) (bQ : a1.length ≤ ah) (cr : Kd.C k105 w bw al.length al) (ct : al.length ≤ bx) (cu : Kd.C k122 w bz am.length am) (cv : am.length ≤ c9) (h : hackamorelaw28_alike.f k a2 a7 a9 a1 aC al bB bC am bE = some r) (hTT : r = true) :
  Calls Try.prog 16 #[.agg #[.slice aj a2.length ag, .int .i64 a7, .int .i64 a9, .slice ak a1.length ah, .bool aC], .agg #[.slice bw al.length bx, .int .i64 bB, .int .i64 bC, .slice bz am.length c9, .bool bE]] w fun e w' => e = .returned (.bool r) ∧ Below w.heap.size w w' := by
 have hu28 := Try.underlying28
 have hu46 := Try.underlying46
 have bs := Z0.mk bL
 have cn := Z0.mk bM
 clear bL bM
 have bt := Z0.mk bO
 have co := Z0.mk bQ
 clear bO bQ
 have dl := Z0.mk cr
 have dm := Z0.mk ct
 clear cr ct
 have dn := Z0.mk cu
 have dp := Z0.mk cv
 clear cu cv
 have HB := Z0.mk (Below.refl w.heap.size w)
 have H : ((hackamorelaw28_given.f k al bB bC am bE).bind fun ad => (if a7 = ad.2.1 then (if a9 = ad.2.2.1 then (if (aC == ad.2.2.2.2) = true then ((mailbox_Node_44.f k a2 ad.1).bind fun t180 => (if t180 = true then ((mailbox_Push_45.f k a1 ad.2.2.2.1).bind fun t181 => (some t181)) else (some false))) else (some false)) else (some false)) else (some false))) = some r := h
 clear h
 replace H := Option.bind_eq_some_iff.mp H
 obtain ⟨⟨t170, t173, t174, t175, t178⟩, A30, H⟩ := H
 replace H : (if a7 = t173 then (if a9 = t174 then (if (aC == t178) = true then ((mailbox_Node_44.f k a2 t170).bind fun t180 => (if t180 = true then ((mailbox_Push_45.f k a1 t175).bind fun t181 => (some t181)) else (some false))) else (some false)) else (some false)) else (some false)) = some r := H
 have A3 := Z0.mk A30
 clear A30
 by_cases c4 : a7 = t173
 ·rw [if_pos c4] at H
  have c4b0 : (a7 == t173) = true := beq_iff_eq.mpr c4
  have c4b1 : (a7 != t173) = false := bne_eq_false_iff_eq.mpr c4
  clear c4
  by_cases c5 : a9 = t174
  ·rw [if_pos c5] at H
   have c5b0 : (a9 == t174) = true := beq_iff_eq.mpr c5
   have c5b1 : (a9 != t174) = false := bne_eq_false_iff_eq.mpr c5
   clear c5
   by_cases c6 : (aC == t178) = true
   ·rw [if_pos c6] at H
    have c6b0 : (aC == t178) = true := c6
    (try (have c6b1 : decide (aC = t178) = true := by simpa using c6))
    (try (have c6b2 : (aC == t178) = true := by simpa using c6))
    clear c6
    replace H := Option.bind_eq_some_iff.mp H
    obtain ⟨t180, A70, H⟩ := H
    replace H : (if t180 = true then ((mailbox_Push_45.f k a1 t175).bind fun t181 => (some t181)) else (some false)) = some r := H
    have A7 := Z0.mk A70
    clear A70
    by_cases c8 : t180 = true
    ·subst c8
     have H1 : ((mailbox_Push_45.f k a1 t175).bind fun t181 => (some t181)) = some r := by rw [if_pos rfl] at H; exact H
     clear H
     have H := H1
     clear H1
     replace H := Option.bind_eq_some_iff.mp H
     obtain ⟨t181, A90, H⟩ := H
     replace H : (some t181) = some r := H
     have A9 := Z0.mk A90
     clear A90
     obtain rfl := Option.some.inj H
     clear hTT
     go_enter Try.func16, Try.ntmps16
     go_wp2_with (first | ((with_reducible refine gate_dst (N := 2) rfl ?_); refine box_event ?hg (N := 2) ?hd (cs := #[.slice aj a2.length ag, .int .i64 a7, .int .i64 a9, .slice ak a1.length ah, .bool aC]) (t := 28) ?hr ?_; (case hd => rfl); (case hg => rfl); (case hr => first | (go_simp; done) | (go_simp; rfl)); intro cA hg w10 hbox hb; have aM := Z0.mk (bP (by repeat (first | (with_reducible first | apply bA | apply bN | apply bD) | exact HB.out)) hb); have aN := Z0.mk (hbox); have aJ := Z0.mk ((by rw [hg]; exact (bZ (by repeat (first | (with_reducible first | apply bA | apply bN | apply bD) | exact HB.out))) : w.heap.size ≤ cA)); have aK := aJ; clear HB; have HB := aM; have ac := aN; have f8 := aJ; have ae := aK; clear aM aN aJ aK; clear hb hbox hg) | ((with_reducible refine gate_dst (N := 3) rfl ?_); refine box_event ?hg (N := 3) ?hd (cs := #[.slice bw al.length bx, .int .i64 bB, .int .i64 bC, .slice bz am.length c9, .bool bE]) (t := 46) ?hr ?_; (case hd => rfl); (case hg => rfl); (case hr => first | (go_simp; done) | (go_simp; rfl)); intro cC hg w11 hbox hb; have aM := Z0.mk (kB (by (with_reducible repeat first | apply kN | apply kD | apply kA); exact ac.out) hb); have aN := Z0.mk (bP (by repeat (first | (with_reducible first | apply bA | apply bN | apply bD | refine bS ?_ ae.out) | exact HB.out)) hb); have aJ := Z0.mk (hbox); have aK := Z0.mk ((by rw [hg]; exact (bZ (by repeat (first | (with_reducible first | apply bA | apply bN | apply bD | refine bS ?_ ae.out) | exact HB.out))) : w.heap.size ≤ cC)); have aU := aK; have aW := Z0.mk ((by rw [hg]; exact Nat.ne_of_lt (blk_lt (by (with_reducible repeat first | apply kN | apply kD | apply kA); exact ac.out)) : cA ≠ cC)); have aZ := Z0.mk (Ne.symm aW.out); clear ac HB; have ac := aM; have HB := aN; have az := aJ; have f9 := aK; have b0 := aU; have ch := aW; have ci := aZ; clear aM aN aJ aK aU aW aZ hb hbox hg; have hnb12 := ci.out; have hnc12 := ch.out; obtain ⟨ea, eb, ec, ed, ee, ef, eg, eh, ei, ej⟩ := kc5 az.out) | ((with_reducible refine gate_callee (f := 19) rfl ?_); refine goesL_ (some 7) rfl rfl Try.func19 (by kernel_rfl) rfl #[.agg #[.slice bw al.length bx, .int .i64 bB, .int .i64 bC, .slice bz am.length c9, .bool bE]] rfl (by (try simp only [List.map_toArray, List.map_cons, List.map_nil]); first | done | rfl | (simp only [List.length_drop, List.length_take]; rfl)) ?_; (with_reducible refine (hackamorelaw28_given.calls k _ _ al bB bC _ _ am bE t170 t173 t174 t175 t178 _ ?side1 ?side2 ?side3 ?side4 A3.out).mono ?_); (case side1 => repeat (first | exact (Kd.C_below dl.out HB.out) | (with_reducible refine Kd.C_alloc ?_ _) | (with_reducible refine Kd.C_drewN ?_ _) | (with_reducible refine Kd.C_drew ?_))); (case side2 => exact dm.out); (case side3 => repeat (first | exact (Kd.C_below dn.out HB.out) | (with_reducible refine Kd.C_alloc ?_ _) | (with_reducible refine Kd.C_drewN ?_ _) | (with_reducible refine Kd.C_drew ?_))); (case side4 => exact dp.out); rintro e w14 ⟨v171, v176, rfl, ho0, ho1, hb⟩; refine ⟨_, rfl, ?_⟩; have aM := Z0.mk (Kd.R_lower ho0 (bZ (by repeat (first | (with_reducible first | apply bA | apply bN | apply bD | refine bS ?_ ae.out | refine bS ?_ b0.out) | exact HB.out)))); have aN := Z0.mk (Kd.R_lower ho1 (bZ (by repeat (first | (with_reducible first | apply bA | apply bN | apply bD | refine bS ?_ ae.out | refine bS ?_ b0.out) | exact HB.out)))); have aJ := Z0.mk (kB (by (with_reducible repeat first | apply kN | apply kD | apply kA); exact ac.out) hb); have aK := Z0.mk (kB (by (with_reducible repeat first | apply kN | apply kD | apply kA); exact az.out) hb); have aU := Z0.mk (bP (by repeat (first | (with_reducible first | apply bA | apply bN | apply bD | refine bS ?_ ae.out | refine bS ?_ b0.out) | exact HB.out)) hb); clear ac az HB; have bJ := aM; have bK := aN; have ac := aJ; have az := aK; have HB := aU; clear aM aN aJ aK aU; (try clear hb); (try clear hb2); (try clear hk); (try clear hi); (try clear ho0); (try clear ho1)) | ((with_reducible refine gate_dst (N := 5) rfl ?_); refine box_event ?hg (N := 5) ?hd (cs := #[.slice none 0 0, .int .i64 0, .int .i64 0, .slice none 0 0, .bool false]) (t := 28) ?hr ?_; (case hd => rfl); (case hg => rfl); (case hr => first | (go_simp; done) | (go_simp; rfl)); intro ab hg w15 hbox hb; have aM := Z0.mk (Kd.R_below (by (with_reducible repeat (first | apply Kd.R_alloc | apply Kd.R_drewN | apply Kd.R_drew)); exact bJ.out) hb); have aN := Z0.mk (Kd.R_below (by (with_reducible repeat (first | apply Kd.R_alloc | apply Kd.R_drewN | apply Kd.R_drew)); exact bK.out) hb); have aJ := Z0.mk (kB (by (with_reducible repeat first | apply kN | apply kD | apply kA); exact ac.out) hb); have aK := Z0.mk (kB (by (with_reducible repeat first | apply kN | apply kD | apply kA); exact az.out) hb); have aU := Z0.mk (bP (by repeat (first | (with_reducible first | apply bA | apply bN | apply bD | refine bS ?_ ae.out | refine bS ?_ b0.out) | exact HB.out)) hb); have aW := Z0.mk (hbox); have aZ := Z0.mk ((by rw [hg]; exact (bZ (by repeat (first | (with_reducible first | apply bA | apply bN | apply bD | refine bS ?_ ae.out | refine bS ?_ b0.out) | exact HB.out))) : w.heap.size ≤ ab)); have b6 := aZ; have an := Z0.mk ((by rw [hg]; exact Nat.ne_of_lt (blk_lt (by (with_reducible repeat first | apply kN | apply kD | apply kA); exact ac.out)) : cA ≠ ab)); have b7 := Z0.mk (Ne.symm an.out); have b1 := Z0.mk ((by rw [hg]; exact Nat.ne_of_lt (blk_lt (by (with_reducible repeat first | apply kN | apply kD | apply kA); exact az.out)) : cC ≠ ab)); have b5 := Z0.mk (Ne.symm b1.out); clear bJ bK ac az HB; have bJ := aM; have bK := aN; have ac := aJ; have az := aK; have HB := aU; have cD := aW; have fA := aZ; have cE := b6; have cj := an; have ck := b7; have cl := b1; have cm := b5; clear aM aN aJ aK aU aW aZ b6 an b7 b1 b5 hb hbox hg; obtain ⟨Ao16, co16, eo16⟩ := Kd.R_slice bJ.out; subst eo16; have hnb17 := ck.out; have hnc17 := cj.out; have hnb18 := cm.out; have hnc18 := cl.out; obtain ⟨bm, bn, bo, ek, el, bp, bq, br, em, en⟩ := kc5 cD.out; obtain ⟨Ao20, co20, eo20⟩ := Kd.R_slice bK.out; subst eo20; obtain ⟨eo, ep, eq, er, es, et, eu, ev, ew, ex⟩ := kc5 ac.out) | (go_at_call 44; (with_reducible refine (mailbox_Node_44.calls k _ _ a2 _ _ t170 true _ ?side1 ?side2 ?side3 ?side4 A7.out).mono ?_); (case side1 => exact Kd.C_below bs.out (by repeat (first | (with_reducible first | apply bA | apply bN | apply bD | refine bS ?_ ae.out | refine bS ?_ b0.out | refine bS ?_ cE.out) | exact HB.out))); (case side2 => exact cn.out); (case side3 => refine (Kd.R_reads' (e := 99) (base := w.heap.size) (ok := fun k_ => True) (n := t170.length) (c := co16) ?_).2.2; exact (by (with_reducible repeat (first | apply Kd.R_alloc | apply Kd.R_drewN | apply Kd.R_drew)); exact (Kd.R_mono (Kd.R_far (p := ⟨ab, 4, none⟩) (Kd.R_far (p := ⟨ab, 3, none⟩) (Kd.R_far (p := ⟨ab, 2, none⟩) (Kd.R_far (p := ⟨ab, 1, none⟩) (Kd.R_far (p := ⟨ab, 0, none⟩) (Kd.R_types bJ.out cD.out (by decide)) (fun _ hk => hk.2) (.slice Ao16 t170.length co16)) (fun _ hk => hk.2) (.int .i64 t173)) (fun _ hk => hk.2) (.int .i64 t174)) (fun _ hk => hk.2) (.slice Ao20 t175.length co20)) (fun _ hk => hk.2) (.bool t178)) (fun _ h_ => h_.1)))); (case side4 => exact (Kd.R_reads' bJ.out).2.1); rintro e w' ⟨rfl, ⟨nd, rfl⟩⟩) | (go_at_call 45; (with_reducible refine (mailbox_Push_45.calls k _ _ a1 _ _ t175 t181 _ ?side1 ?side2 ?side3 ?side4 A9.out).mono ?_); (case side1 => exact Kd.C_below bt.out (by repeat (first | (with_reducible first | apply bA | apply bN | apply bD | refine bS ?_ ae.out | refine bS ?_ b0.out | refine bS ?_ cE.out) | exact HB.out))); (case side2 => exact co.out); (case side3 => refine (Kd.R_reads' (e := 102) (base := w.heap.size) (ok := fun k_ => True) (n := t175.length) (c := co20) ?_).2.2; exact (by (with_reducible repeat (first | apply Kd.R_alloc | apply Kd.R_drewN | apply Kd.R_drew)); exact (Kd.R_mono (Kd.R_far (p := ⟨ab, 4, none⟩) (Kd.R_far (p := ⟨ab, 3, none⟩) (Kd.R_far (p := ⟨ab, 2, none⟩) (Kd.R_far (p := ⟨ab, 1, none⟩) (Kd.R_far (p := ⟨ab, 0, none⟩) (Kd.R_types bK.out cD.out (by decide)) (fun _ hk => hk.2) (.slice Ao16 t170.length co16)) (fun _ hk => hk.2) (.int .i64 t173)) (fun _ hk => hk.2) (.int .i64 t174)) (fun _ hk => hk.2) (.slice Ao20 t175.length co20)) (fun _ hk => hk.2) (.bool t178)) (fun _ h_ => h_.1)))); (case side4 => exact (Kd.R_reads' bK.out).2.1); rintro e w' ⟨rfl, ⟨nd, rfl⟩⟩))
     go_ret
     exact ⟨by first | rfl | (simp [errW_none, errW_some] <;> rfl) | (simp [*, errW_none, errW_some] <;> rfl), by repeat (first | (with_reducible first | apply bA | apply bN | apply bD | refine bS ?_ ae.out | refine bS ?_ b0.out | refine bS ?_ cE.out) | exact HB.out)⟩
    ·replace c8 := Bool.eq_false_iff.mpr c8
     subst c8
     have H1 : (some false) = some r := by rw [if_neg (show ¬ (false = true) by decide)] at H; exact H
     clear H
     have H := H1
     clear H1
     obtain rfl := Option.some.inj H
     cases hTT
   ·rw [if_neg c6] at H
    have c6b0 : (aC == t178) = false := by simpa using c6
    (try (have c6b1 : decide (aC = t178) = false := by simpa using c6))
    (try (have c6b2 : (aC == t178) = false := by simpa using c6))
    (try (have c6b3 : ¬ (aC = t178) := by simpa using c6))
    clear c6
    obtain rfl := Option.some.inj H
    cases hTT
  ·rw [if_neg c5] at H
   have c5b0 : (a9 == t174) = false := beq_eq_false_iff_ne.mpr c5
   have c5b1 : (a9 != t174) = true := bne_iff_ne.mpr c5
   obtain rfl := Option.some.inj H
   cases hTT
 ·rw [if_neg c4] at H
  have c4b0 : (a7 == t173) = false := beq_eq_false_iff_ne.mpr c4
  have c4b1 : (a7 != t173) = true := bne_iff_ne.mpr c4
  obtain rfl := Option.some.inj H
  cases hTT
end Go.Proofs.Ytgbafpjeapkklaa.PMailboxRuns
namespace Go.Proofs.Ytgbafpjeapkklaa.Mb
open Go.RowKit Go.Proofs.YtgbafpjeapkklaaW.PrintWords PMailboxRuns
set_option linter.unusedVariables false
set_option linter.unusedSimpArgs false
def n99 (x : Int × Int × Int) : S99 := ⟨x.1, x.2.1, x.2.2⟩
def n102 (x : Int × Int × Int) : S102 := ⟨x.1, x.2.1, x.2.2⟩
def L99 (l : List (Int × Int × Int)) : List S99 := l.map n99
def L102 (l : List (Int × Int × Int)) : List S102 := l.map n102
theorem L99_get {l : List (Int × Int × Int)} {j : Nat} {x : S99} (h : (L99 l)[j]? = some x) : ∃ y, l[j]? = some y ∧ x = n99 y := by
 simp only [L99, List.getElem?_map] at h
 obtain ⟨y, h1, h2⟩ := Option.map_eq_some_iff.1 h
 exact ⟨y, h1, h2.symm⟩
theorem L102_get {l : List (Int × Int × Int)} {j : Nat} {x : S102} (h : (L102 l)[j]? = some x) : ∃ y, l[j]? = some y ∧ x = n102 y := by
 simp only [L102, List.getElem?_map] at h
 obtain ⟨y, h1, h2⟩ := Option.map_eq_some_iff.1 h
 exact ⟨y, h1, h2.symm⟩
theorem tri99 {w : World} {ns : Value} {l : List (Int × Int × Int)} (h : TriT w 99 ns l) (hl : l.length ≤ 2000) : ∃ A c, ns = .slice A (L99 l).length c ∧ (L99 l).length ≤ c ∧ Kd.C k99 w A (L99 l).length (L99 l) := by
 have e : (L99 l).length = l.length := by simp [L99]
 have ht := h.1
 obtain ⟨p, cap, rfl, hc, h1⟩ := h.1
 refine ⟨p, cap, by rw [e], by rw [e]; exact hc, rfl, by omega, fun h0 => ?_⟩
 rcases h1 with h1 | ⟨g, off, rfl, _⟩
 ·subst h1; simp [L99] at h0
 ·refine ⟨_, rfl, fun j x hx => ?_⟩
  obtain ⟨y, hy, rfl⟩ := L99_get hx
  exact ⟨trip y, rfl, k99_mk w (n99 y), trip_at ht hy⟩
theorem tri102 {w : World} {ns : Value} {l : List (Int × Int × Int)} (h : TriT w 102 ns l) (hl : l.length ≤ 2000) : ∃ A c, ns = .slice A (L102 l).length c ∧ (L102 l).length ≤ c ∧ Kd.C k102 w A (L102 l).length (L102 l) := by
 have e : (L102 l).length = l.length := by simp [L102]
 have ht := h.1
 obtain ⟨p, cap, rfl, hc, h1⟩ := h.1
 refine ⟨p, cap, by rw [e], by rw [e]; exact hc, rfl, by omega, fun h0 => ?_⟩
 rcases h1 with h1 | ⟨g, off, rfl, _⟩
 ·subst h1; simp [L102] at h0
 ·refine ⟨_, rfl, fun j x hx => ?_⟩
  obtain ⟨y, hy, rfl⟩ := L102_get hx
  exact ⟨trip y, rfl, k102_mk w (n102 y), trip_at ht hy⟩
section
variable {l m : List (Int × Int × Int)} {x1 x2 : Int} {b : Bool}
theorem rd105_at {j : Nat} {y : Int × Int × Int} (h : l[j]? = some y) : rZ5 (L105 l) (j : Int) = n105 y := by
 simp [rZ5, L105, List.getD_eq_getElem?_getD, h]
theorem rd122_at {j : Nat} {y : Int × Int × Int} (h : l[j]? = some y) : rZ2 (L122 l) (j : Int) = n122 y := by
 simp [rZ2, L122, List.getD_eq_getElem?_getD, h]
theorem given1_go (hm : m.length ≤ 2000) (xs : List S99) : ∀ d j, j + d = m.length →
  Ev (fun k => hackamorelaw28_given.l1 k (L122 m) (m.length : Int) (j : Int) xs x1 x2 (L102 (m.take j)) b) (xs, x1, x2, L102 m, b) := by
 intro d
 induction d with
 | zero =>
  intro j hj
  refine Ev.step (f := fun _ => some (xs, x1, x2, L102 m, b)) (fun k => ?_) (Ev.now _)
  simp only [hackamorelaw28_given.l1]
  rw [if_neg (by omega), List.take_of_length_le (by omega)]
 | succ d ih =>
  intro j hj
  obtain ⟨y, hy⟩ : ∃ y, m[j]? = some y := ⟨m[j], by simp [show j < m.length by omega]⟩
  refine Ev.step (fun k => ?_) (ih (j + 1) (by omega))
  simp only [hackamorelaw28_given.l1]
  have e1 : (L122 m).length = m.length := by simp [L122]
  have e2 : (L102 (m.take j)).length ≤ m.length := by simp [L102]; omega
  rw [if_pos (by omega), if_pos (by omega), e1, if_pos (by omega), if_pos (by omega), rd122_at hy, wrap_small (by omega) (by omega)]
  have e3 : L102 (m.take j) ++ [(⟨(n122 y).f0, (n122 y).f1, (n122 y).f2⟩ : S102)] = L102 (m.take (j + 1)) := by
   rw [List.take_add_one, hy]
   simp [L102, n102, n122]
  rw [e3]
  rfl
theorem given0_go (hl : l.length ≤ 2000) (hm : m.length ≤ 2000) : ∀ d j, j + d = l.length →
  Ev (fun k => hackamorelaw28_given.l0 k (L105 l) (l.length : Int) (j : Int) (L105 l) x1 x2 (L122 m) b (L99 (l.take j)) x1 x2 b) (L99 l, x1, x2, L102 m, b) := by
 intro d
 induction d with
 | zero =>
  intro j hj
  refine Ev.step (fun k => ?_) (given1_go hm (L99 l) m.length 0 (by omega))
  simp only [hackamorelaw28_given.l0]
  have e1 : (L122 m).length = m.length := by simp [L122]
  rw [if_neg (by omega), List.take_of_length_le (by omega), e1]
  rfl
 | succ d ih =>
  intro j hj
  obtain ⟨y, hy⟩ : ∃ y, l[j]? = some y := ⟨l[j], by simp [show j < l.length by omega]⟩
  refine Ev.step (fun k => ?_) (ih (j + 1) (by omega))
  simp only [hackamorelaw28_given.l0]
  have e1 : (L105 l).length = l.length := by simp [L105]
  have e2 : (L99 (l.take j)).length ≤ l.length := by simp [L99]; omega
  rw [if_pos (by omega), if_pos (by omega), e1, if_pos (by omega), if_pos (by omega), rd105_at hy, wrap_small (by omega) (by omega)]
  have e3 : L99 (l.take j) ++ [(⟨(n105 y).f0, (n105 y).f1, (n105 y).f2⟩ : S99)] = L99 (l.take (j + 1)) := by
   rw [List.take_add_one, hy]
   simp [L99, n99, n105]
  rw [e3]
  rfl
theorem given_ev (hl : l.length ≤ 2000) (hm : m.length ≤ 2000) : Ev (fun k => hackamorelaw28_given.f k (L105 l) x1 x2 (L122 m) b) (L99 l, x1, x2, L102 m, b) := by
 have := given0_go (x1 := x1) (x2 := x2) (b := b) hl hm l.length 0 (by omega)
 refine Ev.congr (fun k => ?_) this
 simp only [hackamorelaw28_given.f]
 rw [show (L105 l).length = l.length by simp [L105]]
 rfl
theorem nodes_go (hl : l.length ≤ 2000) : ∀ d j, j + d = l.length → Ev (fun k => mailbox_Node_44.l0 k (L99 l) (L99 l) (l.length : Int) (j : Int)) true := by
 have e1 : (L99 l).length = l.length := by simp [L99]
 intro d
 induction d with
 | zero =>
  intro j hj
  refine Ev.step (f := fun _ => some true) (fun k => ?_) (Ev.now _)
  simp only [mailbox_Node_44.l0]
  rw [if_neg (by omega)]
 | succ d ih =>
  intro j hj
  refine Ev.step (fun k => ?_) (ih (j + 1) (by omega))
  simp only [mailbox_Node_44.l0]
  rw [if_pos (by omega), if_pos (by omega), e1, if_pos (by omega), if_pos (by omega), if_neg (by simp), wrap_small (by omega) (by omega)]
  rfl
theorem pushes_go (hl : l.length ≤ 2000) : ∀ d j, j + d = l.length → Ev (fun k => mailbox_Push_45.l0 k (L102 l) (L102 l) (l.length : Int) (j : Int)) true := by
 have e1 : (L102 l).length = l.length := by simp [L102]
 intro d
 induction d with
 | zero =>
  intro j hj
  refine Ev.step (f := fun _ => some true) (fun k => ?_) (Ev.now _)
  simp only [mailbox_Push_45.l0]
  rw [if_neg (by omega)]
 | succ d ih =>
  intro j hj
  refine Ev.step (fun k => ?_) (ih (j + 1) (by omega))
  simp only [mailbox_Push_45.l0]
  rw [if_pos (by omega), if_pos (by omega), e1, if_pos (by omega), if_pos (by omega), if_neg (by simp), wrap_small (by omega) (by omega)]
  rfl
theorem alike_ev (hl : l.length ≤ 2000) (hm : m.length ≤ 2000) : Ev (fun k => hackamorelaw28_alike.f k (L99 l) x1 x2 (L102 m) b (L105 l) x1 x2 (L122 m) b) true := by
 refine Ev.bind (given_ev hl hm) ?_
 have h1 := nodes_go hl l.length 0 (by omega)
 have h2 := pushes_go hm m.length 0 (by omega)
 refine Ev.congr (f := fun k => (mailbox_Node_44.f k (L99 l) (L99 l)).bind fun t180 => (if t180 = true then ((mailbox_Push_45.f k (L102 m) (L102 m)).bind fun t181 => (some t181)) else (some false))) (fun k => ?_) ?_
 ·rw [if_pos rfl, if_pos rfl, if_pos (by simp)]
 ·refine Ev.bind (a := true) (Ev.congr (fun k => ?_) h1) (Ev.congr (f := fun k => (mailbox_Push_45.f k (L102 m) (L102 m)).bind fun t181 => (some t181)) (fun k => by rw [if_pos rfl]) (Ev.bind (Ev.congr (fun k => ?_) h2) (Ev.now _)))
  ·simp only [mailbox_Node_44.f]
   rw [if_pos trivial, show (L99 l).length = l.length by simp [L99]]
   rfl
  ·simp only [mailbox_Push_45.f]
   rw [if_pos trivial, show (L102 m).length = m.length by simp [L102]]
   rfl
end
theorem alike_at {w : World} {ns ps ns' ps' : Value} {l m : List (Int × Int × Int)} (h1 : TriT w 99 ns l) (h2 : TriT w 102 ps m) (h3 : TriT w 105 ns' l) (h4 : TriT w 122 ps' m) (hl : l.length ≤ 2000) (hm : m.length ≤ 2000) (x1 x2 : Int) (b : Bool) :
  Calls Try.prog 16 #[.agg #[ns, .int .i64 x1, .int .i64 x2, ps, .bool b], .agg #[ns', .int .i64 x1, .int .i64 x2, ps', .bool b]] w fun e w' => e = .returned (.bool true) ∧ Below w.heap.size w w' := by
 obtain ⟨A, c, rfl, hc, hC⟩ := tri99 h1 hl
 obtain ⟨A2, c2, rfl, hc2, hC2⟩ := tri102 h2 hm
 obtain ⟨A3, c3, rfl, hc3, hC3⟩ := tri105 h3 hl
 obtain ⟨A4, c4, rfl, hc4, hC4⟩ := tri122 h4 hm
 obtain ⟨k, hk⟩ := (alike_ev (l := l) (m := m) (x1 := x1) (x2 := x2) (b := b) hl hm).rounds
 exact hackamorelaw28_alike.calls k A c _ _ _ A2 c2 _ _ A3 c3 _ _ _ A4 c4 _ _ _ w hC hc hC2 hc2 hC3 hc3 hC4 hc4 hk rfl
theorem alike_zero {w : World} {b : Value} (h2 : StZ w b) : Calls Try.prog 16 #[zv, b] w fun e w' => e = .returned (.bool true) ∧ Below w.heap.size w w' := by
 obtain ⟨ns', ps', rfl, hn', hp'⟩ := h2
 exact alike_at ⟨⟨none, 0, rfl, Nat.le_refl _, .inl rfl⟩, fun g hg => by simp [Value.ownBlock] at hg⟩ ⟨⟨none, 0, rfl, Nat.le_refl _, .inl rfl⟩, fun g hg => by simp [Value.ownBlock] at hg⟩ hn' hp' (by simp) (by simp) _ _ _
end Go.Proofs.Ytgbafpjeapkklaa.Mb
