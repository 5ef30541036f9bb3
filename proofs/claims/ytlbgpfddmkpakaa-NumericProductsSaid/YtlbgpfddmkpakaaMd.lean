/- Numeric: NumericProducts, the walk and the law. -/
import Derived.Test.YtlbgpfddmkpakaaMa
import Derived.Test.YtlbgpfddmkpakaaJc
import Derived.Test.YtlbgpfddmkpakaaJg
import Derived.Test.YtlbgpfddmkpakaaGa
namespace Go.Proofs.Ytlbgpfddmkpakaa.Nu
open Go.RowKit
set_option linter.unusedVariables false
set_option linter.unusedSimpArgs false
def Six (W : World) (b : Nat) (X : Nat → Int × Int) : Prop := W.heap[b]? = some (.cells (six X) 64 (0, 0))
theorem Six.step {W W' : World} {b : Nat} {X : Nat → Int × Int} (h : Six W b X) (hb : Below W.heap.size W W') : Six W' b X := (hb.block _ (blk_lt h)).trans h
theorem Six.cells {W : World} {b : Nat} {X : Nat → Int × Int} (h : Six W b X) : W.cell? ⟨b, 0, none⟩ = some (.int .i8 (X 0).1) ∧ W.cell? ⟨b, 1, none⟩ = some (.int .i8 (X 0).2) ∧ W.cell? ⟨b, 2, none⟩ = some (.int .i8 (X 1).1) ∧
    W.cell? ⟨b, 3, none⟩ = some (.int .i8 (X 1).2) ∧ W.cell? ⟨b, 4, none⟩ = some (.int .i8 (X 2).1) ∧ W.cell? ⟨b, 5, none⟩ = some (.int .i8 (X 2).2) := by
  refine ⟨?_, ?_, ?_, ?_, ?_, ?_⟩ <;> (rw [cell_blk h]; rfl)
theorem cutL_nl (X : Nat → Int × Int) (hX : ∀ j, In8 (X j)) (m : Nat) : NL 9 (cutL X m) (upto (fun j => ((X j).1.tmod 10, (X j).2.tmod 10)) m) := by
  have key : ∀ j, Bd 9 ((X j).1.tmod 10, (X j).2.tmod 10) := by
    intro j
    obtain ⟨a, b, _, _⟩ := rem_in 10 (by decide) (by decide) (hX j).1
    obtain ⟨c, d, _, _⟩ := rem_in 10 (by decide) (by decide) (hX j).2
    exact ⟨by show ((X j).1.tmod 10).natAbs ≤ 9; omega, by show ((X j).2.tmod 10).natAbs ≤ 9; omega⟩
  refine ⟨by rw [upto_length]; exact upto_length _ _, fun i => ?_, fun i => ?_⟩
  · unfold cutL
    rw [el_upto, elz_upto]
    split
    · have k := key i
      exact nw_nb (Nat.le_trans k.1 (by decide)) (Nat.le_trans k.2 (by decide))
    · exact nz_zero
  · rw [elz_upto]
    split
    · exact key i
    · exact ⟨Nat.zero_le _, Nat.zero_le _⟩
theorem pOf_few {a b : List (Nat × Nat)} (ha : a.length ≤ 3) (hb : b.length ≤ 3) : pOf a b = (prod a b, 0) := by
  unfold pOf
  rw [if_neg (by omega)]
theorem prod_few {a b : List (Nat × Nat)} (ha : a.length ≤ 3) (hb : b.length ≤ 3) : (prod a b).length ≤ 1000 := by
  unfold prod
  split
  · exact Nat.zero_le _
  · rw [upto_length]; omega
theorem det_poly {cs : List (Nat × Nat)} {x0 x1 a b : Nat} {v : Value} {w : World} (h : (a, b) = ho (x0, x1) cs) (hr : Row w v cs) (hl : cs.length ≤ 1000) :
    Calls Try.prog 28 #[v, .agg #[.int .u32 x0, .int .u32 x1]] w fun e w' => e = .returned (.agg #[.int .u32 a, .int .u32 b]) ∧ Below w.heap.size w w' := by
  refine (ppoly_all v cs x0 x1 w hr hl).mono ?_
  rintro e w' ⟨p, q, he, hp, hb⟩
  obtain ⟨rfl, rfl⟩ := Prod.mk.inj (hp.trans h.symm)
  exact ⟨he, hb⟩
set_option maxRecDepth 100000 in
set_option maxHeartbeats 4000000 in
theorem products_walk (X Y : Nat → Int × Int) (hX : ∀ j, In8 (X j)) (hY : ∀ j, In8 (Y j)) (s t : Int) (hs : (Lit.int .u8 s).wf = true) (ht : (Lit.int .u8 t).wf = true) (z : Int × Int) (hz : In8 z) (w : World) :
    Calls Try.prog 6 #[.agg (six X), .agg (six Y), .int .u8 s, .int .u8 t, .agg #[.int .i8 z.1, .int .i8 z.2]] w fun e w' => e = .returned (.bool true) ∧ Below w.heap.size w w' := by
  obtain ⟨z0, z1⟩ := z
  obtain ⟨m, hm, hsm⟩ := rem4 hs
  obtain ⟨n, hn, htn⟩ := rem4 ht
  have HX := Lib.hid hX
  have HY := Lib.hid hY
  have HZ := Lib.hid hz
  have HS := Lib.hid hs
  have HT := Lib.hid ht
  have HM := Lib.hid (And.intro hm hsm)
  have HN := Lib.hid (And.intro hn htn)
  clear hX hY hz hs ht hm hsm hn htn
  go_enter Try.func6, Try.ntmps6
  go_upto_region 2 with fail
  have u0 : Below w.heap.size w (w.alloc (Obj.cells (six X) 64)) := (Below.refl _ _).alloc (Nat.le_refl _) _
  have m0 : Six (w.alloc (Obj.cells (six X) 64)) w.heap.size X := heap_six w _ 64
  have z1' : (w.alloc (Obj.cells (six X) 64)).heap.size = w.heap.size + 1 := by simp
  generalize w.alloc (Obj.cells (six X) 64) = W1 at *
  have u1 : Below W1.heap.size W1 (W1.alloc (Obj.cells (six Y) 64)) := (Below.refl _ _).alloc (Nat.le_refl _) _
  have m1 : Six (W1.alloc (Obj.cells (six Y) 64)) W1.heap.size Y := heap_six W1 _ 64
  have z2' : (W1.alloc (Obj.cells (six Y) 64)).heap.size = w.heap.size + 1 + 1 := by simp [z1']
  generalize W1.alloc (Obj.cells (six Y) 64) = W2 at *
  have u2 : Below W2.heap.size W2 (W2.alloc (Obj.cells #[.int .i8 z0, .int .i8 z1] 63)) := (Below.refl _ _).alloc (Nat.le_refl _) _
  have m2 : B2 _ W2.heap.size 63 (.int .i8 z0) (.int .i8 z1) := B2.made W2 (.int .i8 z0) (.int .i8 z1) 63
  have HA := Lib.hid ((m0.step u1).step u2)
  have HB := Lib.hid (m1.step u2)
  have HC := Lib.hid m2
  have HL := Lib.hid ((u0.trans (u1.mono u0.size)).trans (u2.mono (Nat.le_trans u0.size u1.size)))
  rw [z1'] at HB
  rw [z2'] at HC
  generalize W2.alloc (Obj.cells #[.int .i8 z0, .int .i8 z1] 63) = W0 at *
  clear u0 u1 u2 m0 m1 m2 z1' z2'
  generalize w.heap.size + 1 + 1 = XC at *
  generalize w.heap.size + 1 = XB at *
  obtain ⟨XA, hXA⟩ : ∃ XA, XA = w.heap.size := ⟨_, rfl⟩
  rw [← hXA]
  rw [← hXA] at HA
  clear hXA
  obtain ⟨V, hV⟩ : ∃ V : Nat → Value, V = fun i => ([.func (.func 32) #[] #[], .agg (six X), .int .u8 s, undef, .func (.func 32) #[] #[], .agg (six Y), .int .u8 t, undef, undef, undef] : List Value).getD i undef := ⟨_, rfl⟩
  have v0 : Hid (V 0 = .func (.func 32) #[] #[]) := Lib.hid (by rw [hV]; rfl)
  have v1 : Hid (V 1 = .agg (six X)) := Lib.hid (by rw [hV]; rfl)
  have v2 : Hid (V 2 = .int .u8 s) := Lib.hid (by rw [hV]; rfl)
  have v4 : Hid (V 4 = .func (.func 32) #[] #[]) := Lib.hid (by rw [hV]; rfl)
  have v5 : Hid (V 5 = .agg (six Y)) := Lib.hid (by rw [hV]; rfl)
  have v6 : Hid (V 6 = .int .u8 t) := Lib.hid (by rw [hV]; rfl)
  have vo : Hid (∀ i, 10 ≤ i → V i = undef) := Lib.hid (by intro i hi; rw [hV]; simp only [List.getD_eq_getElem?_getD]; rw [List.getElem?_eq_none (by simpa using hi)]; rfl)
  obtain ⟨R, hR⟩ : ∃ R : Nat → Option (List (Nat × Nat)), R = fun i => if i = 3 ∨ i = 8 then some (cutL X m) else if i = 7 ∨ i = 9 then some (cutL Y n) else none := ⟨_, rfl⟩
  have r0 : Hid (R 0 = none) := Lib.hid (by rw [hR]; rfl)
  have r1 : Hid (R 1 = none) := Lib.hid (by rw [hR]; rfl)
  have r2 : Hid (R 2 = none) := Lib.hid (by rw [hR]; rfl)
  have r3 : Hid (R 3 = some (cutL X m)) := Lib.hid (by rw [hR]; rfl)
  have r4 : Hid (R 4 = none) := Lib.hid (by rw [hR]; rfl)
  have r5 : Hid (R 5 = none) := Lib.hid (by rw [hR]; rfl)
  have r6 : Hid (R 6 = none) := Lib.hid (by rw [hR]; rfl)
  have r7 : Hid (R 7 = some (cutL Y n)) := Lib.hid (by rw [hR]; rfl)
  have r8 : Hid (R 8 = some (cutL X m)) := Lib.hid (by rw [hR]; rfl)
  have r9 : Hid (R 9 = some (cutL Y n)) := Lib.hid (by rw [hR]; rfl)
  have ro : Hid (∀ i, 10 ≤ i → R i = none) := Lib.hid (by intro i hi; rw [hR]; show (if _ then _ else if _ then _ else _) = _; rw [if_neg (by omega), if_neg (by omega)])
  clear hV hR
  refine (wpIn_wide (n := 20)).1 ?_
  refine wpIn_region_inv (by kernel_rfl) (back_of (by kernel_rfl)) (fun d act Wx => ∃ y : Nat → Value, act = { tmps := #[.agg (six X), .agg (six Y), .int .u8 s, .int .u8 t, .agg #[.int .i8 z0, .int .i8 z1], .pointer (some ⟨XA, 0, none⟩), .pointer (some ⟨XB, 0, none⟩), undef, undef, .pointer (some ⟨XC, 0, none⟩), .bool false, .func (.func 32) #[] #[], y 8, y 9, undef, undef, undef, y 0, y 1, y 2, y 3, y 4, y 5, y 6, y 7, undef, undef, undef, undef, undef, undef, undef, undef, undef, undef, undef, undef, undef, undef, undef, undef, undef, undef, undef, undef, undef, undef, undef, undef, undef, undef, undef, undef, undef, undef, undef, undef, undef], defers := [] } ∧ QR W0 V R d y Wx) ?r2 ?s2 ?f2
  case r2 => exact fun d hd => ⟨fun _ => undef, rfl, QR.start 10 (fun i hi => ⟨ro.out i hi, vo.out i hi⟩) hd⟩
  case s2 =>
    rintro i oi hop d act Wx ⟨y, rfl, hR⟩ hSi hdep
    have hi : i < 10 := (Array.getElem?_eq_some_iff.1 hop).1
    have HQ := Lib.hid hR
    have HD := Lib.hid hdep
    clear hR hdep hSi
    obtain rfl | rfl | rfl | rfl | rfl | rfl | rfl | rfl | rfl | rfl : i = 0 ∨ i = 1 ∨ i = 2 ∨ i = 3 ∨ i = 4 ∨ i = 5 ∨ i = 6 ∨ i = 7 ∨ i = 8 ∨ i = 9 := by omega
    · have hoo := hop
      obtain rfl := Option.some.inj hop
      clear HD
      refine op_wanted hoo (by kernel_rfl) fun K hK => ?_
      clear hoo
      refine wpIn_val (v := .func (.func 32) #[] #[]) (fun _ _ => trivial) (by go_simp) ?_
      exact hK _ _ ⟨upd y 0 (V 0), by rw [v0.out]; kernel_rfl, HQ.out.pure (i := 0) r0.out⟩
    · have hoo := hop
      obtain rfl := Option.some.inj hop
      obtain ⟨k0, k1, k2, k3, k4, k5⟩ := Six.cells ((HQ.out.bu.block _ (blk_lt HA.out)).trans HA.out)
      clear HD
      refine op_wanted hoo (by kernel_rfl) fun K hK => ?_
      clear hoo
      refine wpIn_val (v := .agg (six X)) (fun _ _ => trivial) (by go_simp <;> rfl) ?_
      exact hK _ _ ⟨upd y 1 (V 1), by rw [v1.out]; kernel_rfl, HQ.out.pure (i := 1) r1.out⟩
    · have hoo := hop
      obtain rfl := Option.some.inj hop
      clear HD
      refine op_wanted hoo (by kernel_rfl) fun K hK => ?_
      clear hoo
      refine wpIn_val (v := .int .u8 s) (fun _ _ => trivial) (by go_simp) ?_
      exact hK _ _ ⟨upd y 2 (V 2), by rw [v2.out]; kernel_rfl, HQ.out.pure (i := 2) r2.out⟩
    · have hoo := hop
      obtain rfl := Option.some.inj hop
      have t0 : d 0 = true := HD.out ⟨0, .data⟩ (by simp) rfl
      have e0 : y 0 = .func (.func 32) #[] #[] := (HQ.out.val 0 r0.out t0).trans v0.out
      have t1 : d 1 = true := HD.out ⟨1, .data⟩ (by simp) rfl
      have e1 : y 1 = .agg (six X) := (HQ.out.val 1 r1.out t1).trans v1.out
      have t2 : d 2 = true := HD.out ⟨2, .data⟩ (by simp) rfl
      have e2 : y 2 = .int .u8 s := (HQ.out.val 2 r2.out t2).trans v2.out
      clear HD
      refine op_wanted hoo (by kernel_rfl) fun K hK => ?_
      clear hoo
      refine wpIn_row (l := cutL X m) (by go_simp) ((cut_at X HX.out _ HS.out _ HM.out.1 HM.out.2 _).mono fun e W' ⟨v, h1, h2, h3⟩ => ⟨v, h1, h2.row, h3⟩) fun v Wn hr hb => ?_
      exact hK _ _ ⟨upd y 3 v, by kernel_rfl, (HQ.out.walk hb).put (i := 3) r3.out hr⟩
    · have hoo := hop
      obtain rfl := Option.some.inj hop
      clear HD
      refine op_wanted hoo (by kernel_rfl) fun K hK => ?_
      clear hoo
      refine wpIn_val (v := .func (.func 32) #[] #[]) (fun _ _ => trivial) (by go_simp) ?_
      exact hK _ _ ⟨upd y 4 (V 4), by rw [v4.out]; kernel_rfl, HQ.out.pure (i := 4) r4.out⟩
    · have hoo := hop
      obtain rfl := Option.some.inj hop
      obtain ⟨k0, k1, k2, k3, k4, k5⟩ := Six.cells ((HQ.out.bu.block _ (blk_lt HB.out)).trans HB.out)
      clear HD
      refine op_wanted hoo (by kernel_rfl) fun K hK => ?_
      clear hoo
      refine wpIn_val (v := .agg (six Y)) (fun _ _ => trivial) (by go_simp <;> rfl) ?_
      exact hK _ _ ⟨upd y 5 (V 5), by rw [v5.out]; kernel_rfl, HQ.out.pure (i := 5) r5.out⟩
    · have hoo := hop
      obtain rfl := Option.some.inj hop
      clear HD
      refine op_wanted hoo (by kernel_rfl) fun K hK => ?_
      clear hoo
      refine wpIn_val (v := .int .u8 t) (fun _ _ => trivial) (by go_simp) ?_
      exact hK _ _ ⟨upd y 6 (V 6), by rw [v6.out]; kernel_rfl, HQ.out.pure (i := 6) r6.out⟩
    · have hoo := hop
      obtain rfl := Option.some.inj hop
      have t4 : d 4 = true := HD.out ⟨4, .data⟩ (by simp) rfl
      have e4 : y 4 = .func (.func 32) #[] #[] := (HQ.out.val 4 r4.out t4).trans v4.out
      have t5 : d 5 = true := HD.out ⟨5, .data⟩ (by simp) rfl
      have e5 : y 5 = .agg (six Y) := (HQ.out.val 5 r5.out t5).trans v5.out
      have t6 : d 6 = true := HD.out ⟨6, .data⟩ (by simp) rfl
      have e6 : y 6 = .int .u8 t := (HQ.out.val 6 r6.out t6).trans v6.out
      clear HD
      refine op_wanted hoo (by kernel_rfl) fun K hK => ?_
      clear hoo
      refine wpIn_row (l := cutL Y n) (by go_simp) ((cut_at Y HY.out _ HT.out _ HN.out.1 HN.out.2 _).mono fun e W' ⟨v, h1, h2, h3⟩ => ⟨v, h1, h2.row, h3⟩) fun v Wn hr hb => ?_
      exact hK _ _ ⟨upd y 7 v, by kernel_rfl, (HQ.out.walk hb).put (i := 7) r7.out hr⟩
    · have hoo := hop
      obtain rfl := Option.some.inj hop
      have t3 : d 3 = true := HD.out ⟨3, .data⟩ (by simp) rfl
      clear HD
      refine op_wanted hoo (by kernel_rfl) fun K hK => ?_
      clear hoo
      refine wpIn_val (v := y 3) (fun _ _ => trivial) (by go_simp) ?_
      exact hK _ _ ⟨upd y 8 (y 3), by kernel_rfl, HQ.out.put (i := 8) r8.out (HQ.out.row 3 _ r3.out t3)⟩
    · have hoo := hop
      obtain rfl := Option.some.inj hop
      have t7 : d 7 = true := HD.out ⟨7, .data⟩ (by simp) rfl
      clear HD
      refine op_wanted hoo (by kernel_rfl) fun K hK => ?_
      clear hoo
      refine wpIn_val (v := y 7) (fun _ _ => trivial) (by go_simp) ?_
      exact hK _ _ ⟨upd y 9 (y 7), by kernel_rfl, HQ.out.put (i := 9) r9.out (HQ.out.row 7 _ r7.out t7)⟩
  case f2 =>
    rintro d act Wx ⟨y, rfl, hR⟩ hall
    have RA := Lib.hid (hR.row 8 _ r8.out (hall 8 (by decide)))
    have RB := Lib.hid (hR.row 9 _ r9.out (hall 9 (by decide)))
    have HL2 := Lib.hid (HL.out.trans (hR.bu.mono HL.out.size))
    have HC2 := Lib.hid ((hR.bu.block _ (blk_lt HC.out)).trans HC.out)
    clear hR hall HA HB HC HL
    clear v0 v1 v2 v4 v5 v6 r0 r1 r2 r3 r4 r5 r6 r7 r8 r9 ro vo
    clear V R d
    generalize y 8 = va at *
    generalize y 9 = vb at *
    have zz : Hid (B2 Wx XC 63 (.int .i8 z0) (.int .i8 z1)) := HC2
    obtain ⟨_, _, w1, w2⟩ := rem_in 4 (by decide) (by decide) HZ.out.1
    obtain ⟨_, _, w3, w4⟩ := rem_in 4 (by decide) (by decide) HZ.out.2
    dsimp only at w1 w2 w3 w4
    obtain ⟨c0, c1⟩ := B2.cells zz.out
    clear HC2
    go_wp2_with fail
    refine (nw_at (z0.tmod 4) (z1.tmod 4) _).mono ?_
    rintro e W3 ⟨rfl, hb⟩
    have RA3 := Lib.hid (RA.out.below hb)
    have RB3 := Lib.hid (RB.out.below hb)
    have HL3 := Lib.hid (HL2.out.trans (hb.mono HL2.out.size))
    clear hb RA RB HL2 zz c0 c1 w1 w2 w3 w4
    generalize hnz : nw (z0.tmod 4) (z1.tmod 4) = nz at *
    obtain ⟨n0, n1⟩ := nz
    have HNZ := Lib.hid hnz
    clear hnz
    go_wp2_with fail
    have hbz : Below W3.heap.size W3 (W3.alloc (Obj.cells #[.int .u32 (n0 : Nat), .int .u32 (n1 : Nat)] 26)) := (Below.refl _ _).alloc (Nat.le_refl _) _
    have PZ : Hid (Pt _ W3.heap.size 26 (n0, n1)) := B2.made W3 (.int .u32 (n0 : Nat)) (.int .u32 (n1 : Nat)) 26
    have RA4 := Lib.hid (RA3.out.below hbz)
    have RB4 := Lib.hid (RB3.out.below hbz)
    have HL4 := Lib.hid (HL3.out.trans (hbz.mono HL3.out.size))
    clear hbz RA3 RB3 HL3
    generalize W3.alloc (Obj.cells #[.int .u32 (n0 : Nat), .int .u32 (n1 : Nat)] 26) = W4 at *
    generalize W3.heap.size = XZ at *
    refine (pproduct_all va vb _ _ _ RA4.out RB4.out).mono ?_
    rintro e W5 ⟨vp, rfl, ho1, hb⟩
    have lA : Hid ((cutL X m).length ≤ 3) := Lib.hid (by show (upto _ _).length ≤ 3; rw [upto_length]; exact HM.out.1)
    have lB : Hid ((cutL Y n).length ≤ 3) := Lib.hid (by show (upto _ _).length ≤ 3; rw [upto_length]; exact HN.out.1)
    have hpo := pOf_few lA.out lB.out
    rw [hpo] at ho1 ⊢
    have RA5 := Lib.hid (RA4.out.below hb)
    have RB5 := Lib.hid (RB4.out.below hb)
    have RP5 := Lib.hid ho1.row
    have HL5 := Lib.hid (HL4.out.trans (hb.mono HL4.out.size))
    have PZ5 : Hid (Pt W5 XZ 26 (n0, n1)) := B2.step PZ.out hb
    have LP : Hid ((prod (cutL X m) (cutL Y n)).length ≤ 1000) := Lib.hid (prod_few lA.out lB.out)
    obtain ⟨_, _, _, _⟩ := rem_in 4 (by decide) (by decide) HZ.out.1
    obtain ⟨_, _, _, _⟩ := rem_in 4 (by decide) (by decide) HZ.out.2
    have NZ : Nz (n0, n1) (z0.tmod 4, z1.tmod 4) := by
      show Nb _ _ _
      rw [← HNZ.out]
      dsimp only at *
      exact nw_nb (by omega) (by omega)
    have BZ : Bd 3 (z0.tmod 4, z1.tmod 4) := by
      dsimp only at *
      exact ⟨by show (z0.tmod 4).natAbs ≤ 3; omega, by show (z1.tmod 4).natAbs ≤ 3; omega⟩
    obtain ⟨u, hu1, hu2⟩ := products_plain NZ BZ (cutL_nl X HX.out m) (cutL_nl Y HY.out n) lA.out lB.out
    obtain ⟨ga, gb, hg⟩ : ∃ a b, (a, b) = ho (n0, n1) (prod (cutL X m) (cutL Y n)) := ⟨_, _, rfl⟩
    obtain ⟨ha, hb', hh⟩ : ∃ a b, (a, b) = ho (n0, n1) (cutL X m) := ⟨_, _, rfl⟩
    obtain ⟨ka, kb, hk⟩ : ∃ a b, (a, b) = ho (n0, n1) (cutL Y n) := ⟨_, _, rfl⟩
    obtain ⟨ma, mb, hmm⟩ : ∃ a b, (a, b) = mulc (ha, hb') (ka, kb) := ⟨_, _, rfl⟩
    rw [← hh, ← hk, ← hmm] at hu2
    rw [← hg] at hu1
    have G1 := Lib.hid hg
    have G2 := Lib.hid hh
    have G3 := Lib.hid hk
    have G4 := Lib.hid hmm
    have U1 := Lib.hid hu1
    have U2 := Lib.hid hu2
    clear hb ho1 hpo RA4 RB4 HL4 PZ NZ BZ hu1 hu2 hg hh hk hmm
    go_wp2_with fail
    obtain ⟨V, hV⟩ : ∃ V : Nat → Value, V = fun i => ([.int .i64 0, .bool true, .bool true, vp, .agg #[.int .u32 n0, .int .u32 n1], .agg #[.int .u32 ga, .int .u32 gb], va, .agg #[.int .u32 n0, .int .u32 n1], .agg #[.int .u32 ha, .int .u32 hb'], vb, .agg #[.int .u32 n0, .int .u32 n1], .agg #[.int .u32 ka, .int .u32 kb], .agg #[.int .u32 ma, .int .u32 mb], .bool true, .bool true, .bool true, .bool true, .bool true, .bool true] : List Value).getD i undef := ⟨_, rfl⟩
    have v0 : Hid (V 0 = .int .i64 0) := Lib.hid (by rw [hV]; rfl)
    have v1 : Hid (V 1 = .bool true) := Lib.hid (by rw [hV]; rfl)
    have v2 : Hid (V 2 = .bool true) := Lib.hid (by rw [hV]; rfl)
    have v3 : Hid (V 3 = vp) := Lib.hid (by rw [hV]; rfl)
    have v4 : Hid (V 4 = .agg #[.int .u32 n0, .int .u32 n1]) := Lib.hid (by rw [hV]; rfl)
    have v5 : Hid (V 5 = .agg #[.int .u32 ga, .int .u32 gb]) := Lib.hid (by rw [hV]; rfl)
    have v6 : Hid (V 6 = va) := Lib.hid (by rw [hV]; rfl)
    have v7 : Hid (V 7 = .agg #[.int .u32 n0, .int .u32 n1]) := Lib.hid (by rw [hV]; rfl)
    have v8 : Hid (V 8 = .agg #[.int .u32 ha, .int .u32 hb']) := Lib.hid (by rw [hV]; rfl)
    have v9 : Hid (V 9 = vb) := Lib.hid (by rw [hV]; rfl)
    have v10 : Hid (V 10 = .agg #[.int .u32 n0, .int .u32 n1]) := Lib.hid (by rw [hV]; rfl)
    have v11 : Hid (V 11 = .agg #[.int .u32 ka, .int .u32 kb]) := Lib.hid (by rw [hV]; rfl)
    have v12 : Hid (V 12 = .agg #[.int .u32 ma, .int .u32 mb]) := Lib.hid (by rw [hV]; rfl)
    have v13 : Hid (V 13 = .bool true) := Lib.hid (by rw [hV]; rfl)
    have v14 : Hid (V 14 = .bool true) := Lib.hid (by rw [hV]; rfl)
    have v15 : Hid (V 15 = .bool true) := Lib.hid (by rw [hV]; rfl)
    have v16 : Hid (V 16 = .bool true) := Lib.hid (by rw [hV]; rfl)
    have v17 : Hid (V 17 = .bool true) := Lib.hid (by rw [hV]; rfl)
    have v18 : Hid (V 18 = .bool true) := Lib.hid (by rw [hV]; rfl)
    clear hV
    refine (wpIn_wide (n := 20)).1 ?_
    refine wpIn_region_inv (by kernel_rfl) (back_of (by kernel_rfl)) (fun d act Wn => ∃ g : Nat → Value, act = { tmps := #[.agg (six X), .agg (six Y), .int .u8 s, .int .u8 t, .agg #[.int .i8 z0, .int .i8 z1], .pointer (some ⟨XA, 0, none⟩), .pointer (some ⟨XB, 0, none⟩), undef, undef, .pointer (some ⟨XC, 0, none⟩), g 18, .func (.func 32) #[] #[], va, vb, .pointer (some ⟨XZ, 0, none⟩), vp, .int .i64 0, y 0, y 1, y 2, y 3, y 4, y 5, y 6, y 7, .pointer (some ⟨XC, 0, none⟩), .int .i8 z0, .int .i64 z0, .int .i64 (z0.tmod 4), .pointer (some ⟨XC, 1, none⟩), .int .i8 z1, .int .i64 z1, .int .i64 (z1.tmod 4), .agg #[.int .u32 n0, .int .u32 n1], .tuple #[vp, .int .i64 0], va, vb, .tuple #[vp, .int .i64 0], vp, .int .i64 0, g 0, g 1, g 2, g 3, g 4, g 5, g 6, g 7, g 8, g 9, g 10, g 11, g 12, g 13, g 14, g 15, g 16, g 17], defers := [] } ∧ QA W5 V 19 0 (fun _ => (0, 0)) d g Wn) ?r5 ?s5 ?f5
    case r5 => exact fun d hd => ⟨(upd (fun _ => undef) 18 (.bool false)), rfl, QA.start 19 (by omega) hd⟩
    case s5 =>
      rintro i oi hop d act Wt ⟨g, rfl, hR⟩ hSi hdep
      have hi : i < 19 := (Array.getElem?_eq_some_iff.1 hop).1
      have HQ := Lib.hid hR
      have HD := Lib.hid hdep
      clear hR hdep hSi
      obtain rfl | rfl | rfl | rfl | rfl | rfl | rfl | rfl | rfl | rfl | rfl | rfl | rfl | rfl | rfl | rfl | rfl | rfl | rfl : i = 0 ∨ i = 1 ∨ i = 2 ∨ i = 3 ∨ i = 4 ∨ i = 5 ∨ i = 6 ∨ i = 7 ∨ i = 8 ∨ i = 9 ∨ i = 10 ∨ i = 11 ∨ i = 12 ∨ i = 13 ∨ i = 14 ∨ i = 15 ∨ i = 16 ∨ i = 17 ∨ i = 18 := by omega
      · have hoo := hop
        obtain rfl := Option.some.inj hop
        clear HD
        refine op_wanted hoo (by kernel_rfl) fun K hK => ?_
        clear hoo
        refine wpIn_val (v := .int .i64 0) (fun _ _ => trivial) (by go_simp) ?_
        exact hK _ _ ⟨upd g 0 (V 0), by rw [v0.out]; kernel_rfl, HQ.out.pure (i := 0) (by omega)⟩
      · have hoo := hop
        obtain rfl := Option.some.inj hop
        have t0 : d 0 = true := HD.out ⟨0, .data⟩ (by simp) rfl
        have e0 : g 0 = .int .i64 0 := (HQ.out.val 0 (by omega) t0).trans v0.out
        clear HD t0
        refine op_wanted hoo (by kernel_rfl) fun K hK => ?_
        clear hoo
        refine wpIn_val (v := .bool true) (fun _ _ => trivial) (by go_simp) ?_
        exact hK _ _ ⟨upd g 1 (V 1), by rw [v1.out]; kernel_rfl, HQ.out.pure (i := 1) (by omega)⟩
      · have hoo := hop
        obtain rfl := Option.some.inj hop
        have t1 : d 1 = true := HD.out ⟨1, .data⟩ (by simp) rfl
        have e1 : g 1 = .bool true := (HQ.out.val 1 (by omega) t1).trans v1.out
        clear HD t1
        refine op_wanted hoo (by kernel_rfl) fun K hK => ?_
        clear hoo
        refine wpIn_val (v := .bool true) (fun _ _ => trivial) (by go_simp) ?_
        exact hK _ _ ⟨upd g 2 (V 2), by rw [v2.out]; kernel_rfl, HQ.out.pure (i := 2) (by omega)⟩
      · have hoo := hop
        obtain rfl := Option.some.inj hop
        have t2 : d 2 = true := HD.out ⟨2, .guard⟩ (by simp) rfl
        have e2 : g 2 = .bool true := (HQ.out.val 2 (by omega) t2).trans v2.out
        clear HD t2
        refine op_wanted hoo (by rw [e2]; kernel_rfl) fun K hK => ?_
        clear hoo
        refine wpIn_val (v := vp) (fun _ _ => trivial) (by go_simp) ?_
        exact hK _ _ ⟨upd g 3 (V 3), by rw [v3.out]; kernel_rfl, HQ.out.pure (i := 3) (by omega)⟩
      · have hoo := hop
        obtain rfl := Option.some.inj hop
        have t2 : d 2 = true := HD.out ⟨2, .guard⟩ (by simp) rfl
        have e2 : g 2 = .bool true := (HQ.out.val 2 (by omega) t2).trans v2.out
        obtain ⟨k0, k1⟩ := B2.cells ((HQ.out.bu.block _ (blk_lt PZ5.out)).trans PZ5.out)
        clear HD t2
        refine op_wanted hoo (by rw [e2]; kernel_rfl) fun K hK => ?_
        clear hoo
        refine wpIn_val (v := .agg #[.int .u32 n0, .int .u32 n1]) (fun _ _ => trivial) (by go_simp) ?_
        exact hK _ _ ⟨upd g 4 (V 4), by rw [v4.out]; kernel_rfl, HQ.out.pure (i := 4) (by omega)⟩
      · have hoo := hop
        obtain rfl := Option.some.inj hop
        have t3 : d 3 = true := HD.out ⟨3, .data⟩ (by simp) rfl
        have e3 : g 3 = vp := (HQ.out.val 3 (by omega) t3).trans v3.out
        have t4 : d 4 = true := HD.out ⟨4, .data⟩ (by simp) rfl
        have e4 : g 4 = .agg #[.int .u32 n0, .int .u32 n1] := (HQ.out.val 4 (by omega) t4).trans v4.out
        have t2 : d 2 = true := HD.out ⟨2, .guard⟩ (by simp) rfl
        have e2 : g 2 = .bool true := (HQ.out.val 2 (by omega) t2).trans v2.out
        clear HD t3 t4 t2
        refine op_wanted hoo (by rw [e2]; kernel_rfl) fun K hK => ?_
        clear hoo
        refine wpIn_det' (v := .agg #[.int .u32 ga, .int .u32 gb]) (by go_simp) (det_poly G1.out (RP5.out.below HQ.out.bu) LP.out) fun Wn hb => ?_
        exact hK _ _ ⟨upd g 5 (V 5), by rw [v5.out]; kernel_rfl, (HQ.out.walk hb).pure (i := 5) (by omega)⟩
      · have hoo := hop
        obtain rfl := Option.some.inj hop
        have t2 : d 2 = true := HD.out ⟨2, .guard⟩ (by simp) rfl
        have e2 : g 2 = .bool true := (HQ.out.val 2 (by omega) t2).trans v2.out
        clear HD t2
        refine op_wanted hoo (by rw [e2]; kernel_rfl) fun K hK => ?_
        clear hoo
        refine wpIn_val (v := va) (fun _ _ => trivial) (by go_simp) ?_
        exact hK _ _ ⟨upd g 6 (V 6), by rw [v6.out]; kernel_rfl, HQ.out.pure (i := 6) (by omega)⟩
      · have hoo := hop
        obtain rfl := Option.some.inj hop
        have t2 : d 2 = true := HD.out ⟨2, .guard⟩ (by simp) rfl
        have e2 : g 2 = .bool true := (HQ.out.val 2 (by omega) t2).trans v2.out
        obtain ⟨k0, k1⟩ := B2.cells ((HQ.out.bu.block _ (blk_lt PZ5.out)).trans PZ5.out)
        clear HD t2
        refine op_wanted hoo (by rw [e2]; kernel_rfl) fun K hK => ?_
        clear hoo
        refine wpIn_val (v := .agg #[.int .u32 n0, .int .u32 n1]) (fun _ _ => trivial) (by go_simp) ?_
        exact hK _ _ ⟨upd g 7 (V 7), by rw [v7.out]; kernel_rfl, HQ.out.pure (i := 7) (by omega)⟩
      · have hoo := hop
        obtain rfl := Option.some.inj hop
        have t6 : d 6 = true := HD.out ⟨6, .data⟩ (by simp) rfl
        have e6 : g 6 = va := (HQ.out.val 6 (by omega) t6).trans v6.out
        have t7 : d 7 = true := HD.out ⟨7, .data⟩ (by simp) rfl
        have e7 : g 7 = .agg #[.int .u32 n0, .int .u32 n1] := (HQ.out.val 7 (by omega) t7).trans v7.out
        have t2 : d 2 = true := HD.out ⟨2, .guard⟩ (by simp) rfl
        have e2 : g 2 = .bool true := (HQ.out.val 2 (by omega) t2).trans v2.out
        clear HD t6 t7 t2
        refine op_wanted hoo (by rw [e2]; kernel_rfl) fun K hK => ?_
        clear hoo
        refine wpIn_det' (v := .agg #[.int .u32 ha, .int .u32 hb']) (by go_simp) (det_poly G2.out (RA5.out.below HQ.out.bu) (Nat.le_trans lA.out (by decide))) fun Wn hb => ?_
        exact hK _ _ ⟨upd g 8 (V 8), by rw [v8.out]; kernel_rfl, (HQ.out.walk hb).pure (i := 8) (by omega)⟩
      · have hoo := hop
        obtain rfl := Option.some.inj hop
        have t2 : d 2 = true := HD.out ⟨2, .guard⟩ (by simp) rfl
        have e2 : g 2 = .bool true := (HQ.out.val 2 (by omega) t2).trans v2.out
        clear HD t2
        refine op_wanted hoo (by rw [e2]; kernel_rfl) fun K hK => ?_
        clear hoo
        refine wpIn_val (v := vb) (fun _ _ => trivial) (by go_simp) ?_
        exact hK _ _ ⟨upd g 9 (V 9), by rw [v9.out]; kernel_rfl, HQ.out.pure (i := 9) (by omega)⟩
      · have hoo := hop
        obtain rfl := Option.some.inj hop
        have t2 : d 2 = true := HD.out ⟨2, .guard⟩ (by simp) rfl
        have e2 : g 2 = .bool true := (HQ.out.val 2 (by omega) t2).trans v2.out
        obtain ⟨k0, k1⟩ := B2.cells ((HQ.out.bu.block _ (blk_lt PZ5.out)).trans PZ5.out)
        clear HD t2
        refine op_wanted hoo (by rw [e2]; kernel_rfl) fun K hK => ?_
        clear hoo
        refine wpIn_val (v := .agg #[.int .u32 n0, .int .u32 n1]) (fun _ _ => trivial) (by go_simp) ?_
        exact hK _ _ ⟨upd g 10 (V 10), by rw [v10.out]; kernel_rfl, HQ.out.pure (i := 10) (by omega)⟩
      · have hoo := hop
        obtain rfl := Option.some.inj hop
        have t9 : d 9 = true := HD.out ⟨9, .data⟩ (by simp) rfl
        have e9 : g 9 = vb := (HQ.out.val 9 (by omega) t9).trans v9.out
        have t10 : d 10 = true := HD.out ⟨10, .data⟩ (by simp) rfl
        have e10 : g 10 = .agg #[.int .u32 n0, .int .u32 n1] := (HQ.out.val 10 (by omega) t10).trans v10.out
        have t2 : d 2 = true := HD.out ⟨2, .guard⟩ (by simp) rfl
        have e2 : g 2 = .bool true := (HQ.out.val 2 (by omega) t2).trans v2.out
        clear HD t9 t10 t2
        refine op_wanted hoo (by rw [e2]; kernel_rfl) fun K hK => ?_
        clear hoo
        refine wpIn_det' (v := .agg #[.int .u32 ka, .int .u32 kb]) (by go_simp) (det_poly G3.out (RB5.out.below HQ.out.bu) (Nat.le_trans lB.out (by decide))) fun Wn hb => ?_
        exact hK _ _ ⟨upd g 11 (V 11), by rw [v11.out]; kernel_rfl, (HQ.out.walk hb).pure (i := 11) (by omega)⟩
      · have hoo := hop
        obtain rfl := Option.some.inj hop
        have t8 : d 8 = true := HD.out ⟨8, .data⟩ (by simp) rfl
        have e8 : g 8 = .agg #[.int .u32 ha, .int .u32 hb'] := (HQ.out.val 8 (by omega) t8).trans v8.out
        have t11 : d 11 = true := HD.out ⟨11, .data⟩ (by simp) rfl
        have e11 : g 11 = .agg #[.int .u32 ka, .int .u32 kb] := (HQ.out.val 11 (by omega) t11).trans v11.out
        have t2 : d 2 = true := HD.out ⟨2, .guard⟩ (by simp) rfl
        have e2 : g 2 = .bool true := (HQ.out.val 2 (by omega) t2).trans v2.out
        clear HD t8 t11 t2
        refine op_wanted hoo (by rw [e2]; kernel_rfl) fun K hK => ?_
        clear hoo
        refine wpIn_det' (v := .agg #[.int .u32 ma, .int .u32 mb]) (by go_simp) (det_mul G4.out _) fun Wn hb => ?_
        exact hK _ _ ⟨upd g 12 (V 12), by rw [v12.out]; kernel_rfl, (HQ.out.walk hb).pure (i := 12) (by omega)⟩
      · have hoo := hop
        obtain rfl := Option.some.inj hop
        have t5 : d 5 = true := HD.out ⟨5, .data⟩ (by simp) rfl
        have e5 : g 5 = .agg #[.int .u32 ga, .int .u32 gb] := (HQ.out.val 5 (by omega) t5).trans v5.out
        have t12 : d 12 = true := HD.out ⟨12, .data⟩ (by simp) rfl
        have e12 : g 12 = .agg #[.int .u32 ma, .int .u32 mb] := (HQ.out.val 12 (by omega) t12).trans v12.out
        have t2 : d 2 = true := HD.out ⟨2, .guard⟩ (by simp) rfl
        have e2 : g 2 = .bool true := (HQ.out.val 2 (by omega) t2).trans v2.out
        clear HD t5 t12 t2
        refine op_wanted hoo (by rw [e2]; kernel_rfl) fun K hK => ?_
        clear hoo
        refine wpIn_det' (v := .bool true) (by go_simp) (det_eq U1.out U2.out _) fun Wn hb => ?_
        exact hK _ _ ⟨upd g 13 (V 13), by rw [v13.out]; kernel_rfl, (HQ.out.walk hb).pure (i := 13) (by omega)⟩
      · have hoo := hop
        obtain rfl := Option.some.inj hop
        have t2 : d 2 = true := HD.out ⟨2, .data⟩ (by simp) rfl
        have e2 : g 2 = .bool true := (HQ.out.val 2 (by omega) t2).trans v2.out
        have t13 : d 13 = true := HD.out ⟨13, .data⟩ (by simp) rfl
        have e13 : g 13 = .bool true := (HQ.out.val 13 (by omega) t13).trans v13.out
        clear HD t2 t13
        refine op_wanted hoo (by kernel_rfl) fun K hK => ?_
        clear hoo
        refine wpIn_val (v := .bool true) (fun _ _ => trivial) (by go_simp) ?_
        exact hK _ _ ⟨upd g 14 (V 14), by rw [v14.out]; kernel_rfl, HQ.out.pure (i := 14) (by omega)⟩
      · have hoo := hop
        obtain rfl := Option.some.inj hop
        have t14 : d 14 = true := HD.out ⟨14, .data⟩ (by simp) rfl
        have e14 : g 14 = .bool true := (HQ.out.val 14 (by omega) t14).trans v14.out
        clear HD t14
        refine op_wanted hoo (by kernel_rfl) fun K hK => ?_
        clear hoo
        refine wpIn_val (v := .bool true) (fun _ _ => trivial) (by go_simp) ?_
        exact hK _ _ ⟨upd g 15 (V 15), by rw [v15.out]; kernel_rfl, HQ.out.pure (i := 15) (by omega)⟩
      · have hoo := hop
        obtain rfl := Option.some.inj hop
        have t15 : d 15 = true := HD.out ⟨15, .guard⟩ (by simp) rfl
        have e15 : g 15 = .bool true := (HQ.out.val 15 (by omega) t15).trans v15.out
        clear HD t15
        refine op_wanted hoo (by rw [e15]; kernel_rfl) fun K hK => ?_
        clear hoo
        refine wpIn_det' (v := .bool true) (by go_simp) (det_awake _) fun Wn hb => ?_
        exact hK _ _ ⟨upd g 16 (V 16), by rw [v16.out]; kernel_rfl, (HQ.out.walk hb).pure (i := 16) (by omega)⟩
      · have hoo := hop
        obtain rfl := Option.some.inj hop
        have t15 : d 15 = true := HD.out ⟨15, .data⟩ (by simp) rfl
        have e15 : g 15 = .bool true := (HQ.out.val 15 (by omega) t15).trans v15.out
        have t16 : d 16 = true := HD.out ⟨16, .data⟩ (by simp) rfl
        have e16 : g 16 = .bool true := (HQ.out.val 16 (by omega) t16).trans v16.out
        clear HD t15 t16
        refine op_wanted hoo (by kernel_rfl) fun K hK => ?_
        clear hoo
        refine wpIn_val (v := .bool true) (fun _ _ => trivial) (by go_simp) ?_
        exact hK _ _ ⟨upd g 17 (V 17), by rw [v17.out]; kernel_rfl, HQ.out.pure (i := 17) (by omega)⟩
      · have hoo := hop
        obtain rfl := Option.some.inj hop
        have t17 : d 17 = true := HD.out ⟨17, .data⟩ (by simp) rfl
        have e17 : g 17 = .bool true := (HQ.out.val 17 (by omega) t17).trans v17.out
        clear HD t17
        refine op_wanted hoo (by kernel_rfl) fun K hK => ?_
        clear hoo
        refine wpIn_val (v := .bool true) (fun _ _ => trivial) (by go_simp) ?_
        exact hK _ _ ⟨upd g 18 (V 18), by rw [v18.out]; kernel_rfl, HQ.out.pure (i := 18) (by omega)⟩
    case f5 =>
      rintro d act Wt ⟨g, rfl, hR⟩ hall
      have q18 := (hR.val 18 (by omega) (hall 18 (by decide))).trans v18.out
      have q18' : g 18 = .bool true := q18
      rw [q18']
      have HBE := Lib.hid (HL5.out.trans (hR.bu.mono HL5.out.size))
      clear hR hall
      dsimp only
      go_wp2_with fail
      go_ret
      exact ⟨rfl, HBE.out⟩
end Go.Proofs.Ytlbgpfddmkpakaa.Nu
namespace Go.Proofs.Ytlbgpfddmkpakaa.Nu
open Go.RowKit Go.ChangeShapes
set_option linter.unusedVariables false
set_option linter.unusedSimpArgs false
theorem cells63 : Try.prog.cellsOf 63 = 2 := by kernel_rfl
theorem cells62 : Try.prog.cellsOf 62 = 1 := by kernel_rfl
theorem cells64 : Try.prog.cellsOf 64 = 6 := by kernel_rfl
theorem und62 : Try.prog.underlying 62 = some (.int .i8) := by kernel_rfl
theorem und63 : Try.prog.underlying 63 = some (.array 2 62) := by kernel_rfl
theorem und64 : Try.prog.underlying 64 = some (.array 3 63) := by kernel_rfl
theorem in_i8 {z : Int} (h : (Lit.int .i8 z).wf = true) : -128 ≤ z ∧ z ≤ 127 := by
  have h1 : IntKind.i8.min = -128 := by kernel_rfl
  have h2 : IntKind.i8.max = 127 := by kernel_rfl
  simp [Lit.wf] at h
  rw [h1, h2] at h
  exact h
set_option maxRecDepth 100000 in
/-- Two elements of an array. -/
theorem two_of {H : Type} {enc : TypeId × Value → H} {W : World} {ls : List Value} {x : DataW H × List MemPlace} {fuel : Nat} {t e : TypeId} {k : IntKind} (ut : Try.prog.underlying t = some (.array 2 e)) (ct : Try.prog.cellsOf t = 2) (ue : Try.prog.underlying e = some (.int k)) (ce : Try.prog.cellsOf e = 1)
    (h : DataW.trod enc Try.prog W 0 (fun _ => true) true fuel t ls = some x) : ∃ xs : Int × Int, ls = [.int k xs.1, .int k xs.2] ∧ (Lit.int k xs.1).wf = true ∧ (Lit.int k xs.2).wf = true := by
  obtain ⟨xs, m, hk, hxy, hlen, hxl, hf⟩ := DataW.trod_array ut h
  rw [ct] at hlen
  match xs, hxl, ls, hlen with
  | [y0, y1], _, [v0, v1], _ =>
    have g0 := hf 0 (by omega)
    have g1 := hf 1 (by omega)
    simp [ce] at g0 g1
    obtain ⟨z0, q0, _, w0⟩ := DataW.trod_int ue g0
    obtain ⟨z1, q1, _, w1⟩ := DataW.trod_int ue g1
    simp at q0 q1
    subst q0 q1
    exact ⟨(z0, z1), rfl, w0, w1⟩
set_option maxRecDepth 100000 in
theorem arrb2_of {H : Type} {enc : TypeId × Value → H} {W : World} {v : Value} {d : DataW H} {ps : List MemPlace} {r : Reach} {b0 : Nat} (hval : Value.okWide Try.prog W r b0 63 v) (h : DataW.Trod enc Try.prog W 0 (fun _ => true) true 63 v d ps) :
    ∃ xs : Int × Int, v = .agg #[.int .i8 xs.1, .int .i8 xs.2] ∧ In8 xs := by
  simp only [Value.okWide, und63] at hval
  obtain ⟨cs, rfl, _⟩ := hval
  obtain ⟨fuel, h⟩ := h
  obtain ⟨ls⟩ := cs
  obtain ⟨xs, e, w0, w1⟩ := two_of und63 cells63 und62 cells62 h
  simp only [Value.cells] at e
  rw [e]
  exact ⟨xs, rfl, in_i8 w0, in_i8 w1⟩
set_option maxRecDepth 100000 in
theorem arrb32_of {H : Type} {enc : TypeId × Value → H} {W : World} {v : Value} {d : DataW H} {ps : List MemPlace} {r : Reach} {b0 : Nat} (hval : Value.okWide Try.prog W r b0 64 v) (h : DataW.Trod enc Try.prog W 0 (fun _ => true) true 64 v d ps) :
    ∃ X : Nat → Int × Int, v = .agg (six X) ∧ ∀ j, In8 (X j) := by
  simp only [Value.okWide, und64] at hval
  obtain ⟨cs, rfl, _⟩ := hval
  obtain ⟨fuel, h⟩ := h
  obtain ⟨xs, k, hk, hxy, hlen, hxl, hf⟩ := DataW.trod_array und64 h
  obtain ⟨ls⟩ := cs
  simp only [Value.cells] at h hlen hf
  rw [cells64] at hlen
  match xs, hxl, ls, hlen with
  | [y0, y1, y2], _, [v0, v1, v2, v3, v4, v5], _ =>
    have g0 := hf 0 (by omega)
    have g1 := hf 1 (by omega)
    have g2 := hf 2 (by omega)
    simp [cells63] at g0 g1 g2
    obtain ⟨a, e0, a0, a1⟩ := two_of und63 cells63 und62 cells62 g0
    obtain ⟨b, e1, b0', b1⟩ := two_of und63 cells63 und62 cells62 g1
    obtain ⟨c, e2, c0, c1⟩ := two_of und63 cells63 und62 cells62 g2
    simp at e0 e1 e2
    obtain ⟨rfl, rfl⟩ := e0
    obtain ⟨rfl, rfl⟩ := e1
    obtain ⟨rfl, rfl⟩ := e2
    refine ⟨fun j => if j = 0 then a else if j = 1 then b else c, rfl, fun j => ?_⟩
    show In8 (if j = 0 then a else if j = 1 then b else c)
    split
    · exact ⟨in_i8 a0, in_i8 a1⟩
    · split
      · exact ⟨in_i8 b0', in_i8 b1⟩
      · exact ⟨in_i8 c0, in_i8 c1⟩
theorem law_products (X Y : Nat → Int × Int) (s : Int) (hs : (Lit.int .u8 s).wf = true) (t : Int) (ht : (Lit.int .u8 t).wf = true) (z : Int × Int) (w : World) (hX : ∀ j, In8 (X j)) (hY : ∀ j, In8 (Y j)) (hz : In8 z) :
    Calls Try.prog 6 #[.agg (six X), .agg (six Y), .int .u8 s, .int .u8 t, .agg #[.int .i8 z.1, .int .i8 z.2]] w fun e w' => e = .returned (.bool true) ∧ Below w.heap.size w w' :=
  products_walk X Y hX hY s t hs ht z hz w
end Go.Proofs.Ytlbgpfddmkpakaa.Nu
