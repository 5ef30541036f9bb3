/- Numeric: the reference's forward. -/
import Derived.Test.YtlbgpfddmkpakaaDb
namespace Go.Proofs.Ytlbgpfddmkpakaa.Nu
open Go.RowKit
set_option linter.unusedVariables false
set_option linter.unusedSimpArgs false

theorem pow_pts {k : Nat} (hk : k ≤ 6) : ((2 ^ k : Nat) : Int) ∈ pts := by
  match k, hk with
  | 0, _ => decide
  | 1, _ => decide
  | 2, _ => decide
  | 3, _ => decide
  | 4, _ => decide
  | 5, _ => decide
  | 6, _ => decide
  | k + 7, h => omega
theorem halfOf_length {l : List (Nat × Nat)} {k a : Nat} (ha : a ≤ 1) (hl : l.length = 2 ^ (k + 1)) : (halfOf l a).length = 2 ^ k := by
  unfold halfOf
  rw [upto_length, hl, Nat.pow_succ]
  omega
/-- What forward does. -/
abbrev FwdAt (k : Nat) (v : Value) (l : List (Nat × Nat)) (w : World) : Prop :=
  Calls Try.prog 50 #[v] w fun e w' => ∃ v', e = .returned v' ∧ Own 57 w.heap.size w' v' (fft k l) ∧ Below w.heap.size w w'

set_option maxRecDepth 100000 in
set_option maxHeartbeats 8000000 in
theorem forward_step (k : Nat) (ih : ∀ (v : Value) (l : List (Nat × Nat)) (w : World), Row w v l → l.length = 2 ^ k → FwdAt k v l w)
    (v : Value) (l : List (Nat × Nat)) (w : World) (hk : k ≤ 5) (hr : Row w v l) (hl : l.length = 2 ^ (k + 1)) : FwdAt (k + 1) v l w := by
  have IH := Lib.hid ih
  have hk1 := Nat.one_le_two_pow (n := k)
  obtain ⟨M, hM⟩ : ∃ M, M = 2 ^ k := ⟨_, rfl⟩
  have hM32 : M ≤ 32 := by rw [hM]; exact Nat.pow_le_pow_right (by decide) hk
  obtain ⟨n, hn⟩ : ∃ n, n = l.length := ⟨_, rfl⟩
  have hnM : n = 2 * M := by rw [hn, hl, Nat.pow_succ, hM]; omega
  have hpts : (n : Int) ∈ pts := by rw [hn, hl]; exact pow_pts (by omega)
  obtain ⟨g, off, cap, rfl, hcap, hrd⟩ := hr.rd (by intro e; rw [e] at hl; have := Nat.one_le_two_pow (n := k + 1); simp only [List.length_nil] at hl; omega)
  rw [← hn] at hcap ⊢
  have h2 : 2 ≤ n := by omega
  have t1 : ((n : Int) == 1) = false := by simp; omega
  have HL := Lib.hid hl
  have HN := Lib.hid hn
  have HRD := Lib.hid hrd
  have HM := Lib.hid hM
  have HNM := Lib.hid hnM
  have HP := Lib.hid hpts
  have H1 := Lib.hid (show 1 ≤ M by omega)
  have HM32 := Lib.hid hM32
  have HCAP := Lib.hid hcap
  clear ih hr hn hl hrd hk1 hM hnM hpts hM32 hcap hk
  go_enter Try.func50, Try.ntmps50
  go_upto_region 5 with fail
  have HT := Lib.hid (TN.empty2 w 57)
  generalize (w.alloc (Obj.cells #[] 57)).alloc (Obj.cells #[] 57) = W0 at *
  have HE : Hid (∃ g1 c1 g2 c2, Value.slice (some ⟨w.heap.size, 0, none⟩) 0 0 = .slice (some ⟨g1, 0, none⟩) 0 c1 ∧ Value.slice (some ⟨w.heap.size + 1, 0, none⟩) 0 0 = .slice (some ⟨g2, 0, none⟩) 0 c2) := ⟨_, _, _, _, rfl, rfl⟩
  generalize Value.slice (some ⟨w.heap.size, 0, none⟩) 0 0 = u0 at *
  generalize Value.slice (some ⟨w.heap.size + 1, 0, none⟩) 0 0 = v0 at *
  go_wp2_with fail
  go_loopw [4, 5, 6] (fun s4 s5 s6 wr => ∃ j i g1 c1 g2 c2 : Nat, i = 2 * j ∧ j ≤ M ∧ s6 = .int .i64 i ∧ s4 = .slice (some ⟨g1, 0, none⟩) j c1 ∧ s5 = .slice (some ⟨g2, 0, none⟩) j c2 ∧
      TN 57 w s4 (upto (second l 0) j) s5 (upto (second l 1) j) [] wr) (fun _ _ s6 _ => n - (intOf s6).toNat)
  case atStart =>
    obtain ⟨g1, c1, g2, c2, rfl, rfl⟩ := HE.out
    exact ⟨0, 0, g1, c1, g2, c2, rfl, Nat.zero_le _, rfl, rfl, rfl, HT.out⟩
  case round =>
    obtain ⟨j, i, g1, c1, g2, c2, hi, hj, rfl, rfl, rfl, ht⟩ := hrel
    have HT1 := Lib.hid ht
    clear ht HT HE
    by_cases hlt : i < n
    · have hij := HNM.out
      have hjM : j < M := by omega
      have tl : decide ((i : Int) < (n : Int)) = true := decide_eq_true (by omega)
      have tl' : decide (i < n) = true := decide_eq_true hlt
      have hx0 := el_get (l := l) (j := i) (by rw [← HN.out]; exact hlt)
      have hx1 := el_get (l := l) (j := i + 1) (by rw [← HN.out]; omega)
      have hs0 : second l 0 j = el l i := by unfold second el; rw [hi]; congr 1; omega
      have hs1 : second l 1 j = el l (i + 1) := by unfold second el; rw [hi]; congr 1; omega
      have HS0 := Lib.hid hs0
      have HS1 := Lib.hid hs1
      obtain ⟨c0, c1'⟩ := (HT1.out.rd HRD.out).2 _ _ hx0
      have HX1 := Lib.hid hx1
      generalize el l i = a at *
      generalize el l (i + 1) = b at *
      obtain ⟨a0, a1⟩ := a
      obtain ⟨b0, b1⟩ := b
      have hb32 := HM32.out
      have ek1 : wrap64 ((i : Int) + 1) = ((i + 1 : Nat) : Int) := by unfold wrap64; omega
      have ek2 : wrap64 ((i : Int) + 2) = ((i + 2 : Nat) : Int) := by unfold wrap64; omega
      have bi : (i : Int) < (n : Int) := by omega
      have bi1 : ((i + 1 : Nat) : Int) < (n : Int) := by omega
      have bin : i + 1 < n := by omega
      have en1 : ((i + 1 : Nat) : Int).toNat = i + 1 := by omega
      have len1 : (upto (second l 0) j).length = j := upto_length _ _
      have len2 : (upto (second l 1) j).length = j := upto_length _ _
      have L1 := Lib.hid len1
      have L2 := Lib.hid len2
      have HI := Lib.hid hi
      have HJM := Lib.hid hjM
      have HLT := Lib.hid hlt
      clear hb32 hi hj hlt hjM hij hx0 hx1 hs0 hs1 len1 len2
      go_upto_region 9 with (at_builtin; refine wpList_TN1 nt57 (HT1.out.alloc a0 a1) List.mem_cons_self rfl _ _ rfl rfl rfl L1.out (by have := HJM.out; have := HM32.out; omega) ?_; intro p8 k8 W8 h8; have HT8 := Lib.hid (h8.forget (fr' := []) (fun y hy => by cases hy)); clear h8; obtain ⟨d0, d1⟩ := (HT8.out.rd HRD.out).2 _ _ HX1.out)
      go_wp2_with (at_builtin; refine wpList_TN2 nt57 (HT8.out.alloc b0 b1) List.mem_cons_self rfl _ _ rfl rfl rfl L2.out (by have := HJM.out; have := HM32.out; omega) ?_; intro p9 k9 W9 h9; have HT9 := Lib.hid (h9.forget (fr' := []) (fun y hy => by cases hy)); clear h9)
      try rw [ek2]
      go_roundw
      case rel => exact ⟨j + 1, i + 2, p8, k8, p9, k9, by have := HI.out; omega, by have := HJM.out; omega, rfl, rfl, rfl, by rw [upto_succ, upto_succ, HS0.out, HS1.out]; exact HT9.out⟩
      case measure =>
        have := HLT.out
        show n - ((i + 2 : Nat) : Int).toNat < n - (i : Int).toNat
        omega
    · have hij := HNM.out
      have hjM : M = j := by omega
      have tl : decide ((i : Int) < (n : Int)) = false := decide_eq_false (by omega)
      have tl' : decide (i < n) = false := decide_eq_false hlt
      subst hjM
      have e0 : upto (second l 0) M = halfOf l 0 := by unfold halfOf; congr 1; rw [← HN.out]; omega
      have e1 : upto (second l 1) M = halfOf l 1 := by unfold halfOf; congr 1; rw [← HN.out]; omega
      have ht := HT1.out
      rw [e0, e1] at ht
      have HT2 := Lib.hid ht
      have lh0 := Lib.hid (halfOf_length (a := 0) (by decide) HL.out)
      have lh1 := Lib.hid (halfOf_length (a := 1) (by decide) HL.out)
      clear ht HT1 e0 e1 hlt hi hij hj
      go_wp2_with fail
      refine (IH.out _ _ _ HT2.out.o1.row lh0.out).mono ?_
      rintro e W1 ⟨ve, rfl, ho1, hb1⟩
      have HO1 := Lib.hid ho1
      have HB1 := Lib.hid hb1
      clear ho1 hb1
      go_wp2_with fail
      refine (IH.out _ _ _ (HT2.out.o2.row.below HB1.out) lh1.out).mono ?_
      rintro e W2 ⟨vo, rfl, ho2, hb2⟩
      have HO2 := Lib.hid ho2
      have HB2 := Lib.hid hb2
      clear ho2 hb2
      go_wp2_with fail
      refine (rtw_all HP.out W2).mono ?_
      rintro e W3 ⟨vw, rfl, ho3, hb3⟩
      have HB : Hid (Below w.heap.size w W3) := (HT2.out.below.trans ((HB1.out.mono HT2.out.below.size).trans (HB2.out.mono (Nat.le_trans HT2.out.below.size HB1.out.size)))).trans (hb3.mono (Nat.le_trans HT2.out.below.size (Nat.le_trans HB1.out.size HB2.out.size)))
      have h1 := (own_step (own_step HO1.out HB2.out) hb3 : Own 57 wr.heap.size W3 ve (fft k (halfOf l 0)))
      have h2' := (own_step HO2.out hb3 : Own 57 W1.heap.size W3 vo (fft k (halfOf l 1)))
      have h3 : Own 57 W2.heap.size W3 vw (upto (tw (wOf n)) n) := by show W3.ownsRow _ _ _ _ (upto _ n).length _; rw [upto_length]; exact ho3
      have k1 := fft_length k (halfOf l 0)
      have k2 := fft_length k (halfOf l 1)
      rw [← HM.out] at k1 k2
      obtain ⟨E, hE⟩ : ∃ E, E = fft k (halfOf l 0) := ⟨_, rfl⟩
      obtain ⟨O, hO⟩ : ∃ O, O = fft k (halfOf l 1) := ⟨_, rfl⟩
      have HF : Hid (fft (k + 1) l = upto (fun j => addc (el E j) (mulc (tw (wOf n) j) (el O j))) M ++ upto (fun j => subc (el E j) (mulc (tw (wOf n) j) (el O j))) M) := by
        show _ = _
        rw [hE, hO, HN.out, HL.out, HM.out]
        rfl
      rw [← hE] at h1 k1
      rw [← hO] at h2' k2
      have hj1 := H1.out
      have q1 := Own.rd h1 (by intro e; rw [e] at k1; simp only [List.length_nil] at k1; omega)
      have q2 := Own.rd h2' (by intro e; rw [e] at k2; simp only [List.length_nil] at k2; omega)
      have q3 := Own.rd h3 (by intro e; have := congrArg List.length e; rw [upto_length] at this; simp only [List.length_nil] at this; omega)
      rw [k1] at q1
      rw [k2] at q2
      rw [upto_length] at q3
      obtain ⟨ge, ce, rfl, l1, _, r1⟩ := q1
      obtain ⟨gO, cO, rfl, l2, _, r2⟩ := q2
      obtain ⟨gw, cw, rfl, l3, _, r3⟩ := q3
      have R1 := Lib.hid r1
      have R2 := Lib.hid r2
      have R3 := Lib.hid r3
      have K1 := Lib.hid k1
      have K2 := Lib.hid k2
      clear ho3 hb3 h1 h2' h3 k1 k2 hE hO r1 r2 r3 hj1 l1 l2 l3 HT2 HO1 HO2 HB1 HB2 lh0 lh1
      go_upto_region 13 with fail
      have HT := Lib.hid (TN.empty2 W3 57)
      generalize (W3.alloc (Obj.cells #[] 57)).alloc (Obj.cells #[] 57) = W4 at *
      have HE : Hid (∃ g1 c1 g2 c2, Value.slice (some ⟨W3.heap.size, 0, none⟩) 0 0 = .slice (some ⟨g1, 0, none⟩) 0 c1 ∧ Value.slice (some ⟨W3.heap.size + 1, 0, none⟩) 0 0 = .slice (some ⟨g2, 0, none⟩) 0 c2) := ⟨_, _, _, _, rfl, rfl⟩
      generalize Value.slice (some ⟨W3.heap.size, 0, none⟩) 0 0 = u0' at *
      generalize Value.slice (some ⟨W3.heap.size + 1, 0, none⟩) 0 0 = v0' at *
      go_wp2_with fail
      obtain ⟨f1, hf1⟩ : ∃ f : Nat → Nat × Nat, f = fun j => addc (el E j) (mulc (tw (wOf n) j) (el O j)) := ⟨_, rfl⟩
      obtain ⟨f2, hf2⟩ : ∃ f : Nat → Nat × Nat, f = fun j => subc (el E j) (mulc (tw (wOf n) j) (el O j)) := ⟨_, rfl⟩
      have HF' := Lib.hid HF.out
      rw [← hf1, ← hf2] at HF'
      have F1 := Lib.hid hf1
      have F2 := Lib.hid hf2
      clear HF hf1 hf2
      have ed : (n : Int) / 2 = (M : Int) := by have := HNM.out; omega
      have ed2 : (n : Int).tdiv 2 = (M : Int) := by rw [Int.tdiv_eq_ediv_of_nonneg (by omega)]; exact ed
      go_loopw [11, 12, 13] (fun s11 s12 s13 wr => ∃ j g1 c1 g2 c2 : Nat, j ≤ M ∧ s13 = .int .i64 j ∧ s11 = .slice (some ⟨g1, 0, none⟩) j c1 ∧ s12 = .slice (some ⟨g2, 0, none⟩) j c2 ∧
          TN 57 W3 s11 (upto f1 j) s12 (upto f2 j) [] wr) (fun _ _ s13 _ => M - (intOf s13).toNat)
      case atStart =>
        obtain ⟨g1, c1, g2, c2, rfl, rfl⟩ := HE.out
        exact ⟨0, g1, c1, g2, c2, Nat.zero_le _, rfl, rfl, rfl, HT.out⟩
      case round =>
        obtain ⟨m, h1, d1, h2', d2, hm, rfl, rfl, rfl, ht⟩ := hrel
        have ED := Lib.hid (And.intro ed ed2)
        clear ed ed2
        have HT1 := Lib.hid ht
        clear ht HT HE
        by_cases hlt : m < M
        · have tm : decide ((m : Int) < (M : Int)) = true := decide_eq_true (by omega)
          have tm' : decide (m < M) = true := decide_eq_true hlt
          have hb32 := HM32.out
          have hnm := HNM.out
          have EW := Lib.hid (show wrap64 (M : Int) = (M : Int) by unfold wrap64; omega)
          have ek1 : wrap64 ((m : Int) + 1) = ((m + 1 : Nat) : Int) := by unfold wrap64; omega
          have bi : (m : Int) < (n : Int) := by omega
          have bi1 : (m : Int) < (M : Int) := by omega
          have bin : m < n := by omega
          have hx0 := el_get (l := E) (j := m) (by rw [K1.out]; exact hlt)
          have hx1 := el_get (l := O) (j := m) (by rw [K2.out]; exact hlt)
          have hx2 := upto_get (tw (wOf n)) (k := n) (j := m) bin
          have hv1 : f1 m = addc (el E m) (mulc (tw (wOf n) m) (el O m)) := by rw [F1.out]
          have hv2 : f2 m = subc (el E m) (mulc (tw (wOf n) m) (el O m)) := by rw [F2.out]
          generalize el E m = a at *
          generalize el O m = b at *
          generalize tw (wOf n) m = t at *
          obtain ⟨a0, a1⟩ := a
          obtain ⟨b0, b1⟩ := b
          obtain ⟨t0, t1'⟩ := t
          have X0 := Lib.hid hx0
          have X1 := Lib.hid hx1
          have X2 := Lib.hid hx2
          have V1 := Lib.hid hv1
          have V2 := Lib.hid hv2
          have L1 := Lib.hid (upto_length f1 m)
          have L2 := Lib.hid (upto_length f2 m)
          have HMM := Lib.hid hlt
          have HLE : Hid (m ≤ 2000) := by show m ≤ 2000; omega
          clear hx0 hx1 hx2 hv1 hv2 hb32 hnm hlt hm
          obtain ⟨ed, ed2⟩ := ED.out
          have ew := EW.out
          go_upto_region 16 with fail
          clear ed ed2 ew
          go_region_held3 (fun W => W.cell? ⟨gw, m * 2, none⟩ = some (.int .u32 t0) ∧ W.cell? ⟨gw, m * 2 + 1, none⟩ = some (.int .u32 t1') ∧ W.cell? ⟨gO, m * 2, none⟩ = some (.int .u32 b0) ∧ W.cell? ⟨gO, m * 2 + 1, none⟩ = some (.int .u32 b1))
            (first | with_reducible exact HT6.out.two R3.out R2.out X2.out X1.out | with_reducible exact (TN.alloc0 HT6.out).two R3.out R2.out X2.out X1.out | with_reducible exact (TN.store1 HT6.out rfl).two R3.out R2.out X2.out X1.out | with_reducible exact (HT6.out.alloc _ _).two R3.out R2.out X2.out X1.out | with_reducible exact HT1.out.two R3.out R2.out X2.out X1.out | with_reducible exact HT1.out.drew.two R3.out R2.out X2.out X1.out | with_reducible exact (TN.alloc0 HT1.out).two R3.out R2.out X2.out X1.out | with_reducible exact (TN.alloc0 HT1.out).drew.two R3.out R2.out X2.out X1.out | (trace_state; fail))
            (first
              | (with_reducible refine (R.mulc_at t0 t1' b0 b1 wr.drew).mono ?_; rintro e W6 ⟨ta, tb, rfl, hpq, hb6⟩; have HT6 := Lib.hid (HT1.out.drew.step hb6); have HPQ := Lib.hid hpq; clear hb6 hpq)
              | (with_reducible refine (R.mulc_at t0 t1' b0 b1 (wr.alloc _).drew).mono ?_; rintro e W6 ⟨ta, tb, rfl, hpq, hb6⟩; have HT6 := Lib.hid ((TN.alloc0 HT1.out).drew.step hb6); have HPQ := Lib.hid hpq; clear hb6 hpq; obtain ⟨y0, y1⟩ := (HT6.out.fresh _ (List.mem_singleton.2 rfl)).1.cells; obtain ⟨z0, z1⟩ := (HT6.out.fresh _ (List.mem_singleton.2 rfl)).1.frz))
          all_goals
            first
              | (have HT7 := Lib.hid (TN.store1 (a := ta) (b := tb) HT6.out rfl); clear y0 y1 z0 z1; generalize (W6.setCell ⟨wr.heap.size, 0, none⟩ (.int .u32 ta)).setCell ⟨wr.heap.size, 1, none⟩ (.int .u32 tb) = W7 at *; generalize wr.heap.size = X at *)
              | (have HT7 := Lib.hid (HT6.out.alloc ta tb); generalize W6.alloc (Obj.cells #[.int .u32 ta, .int .u32 tb] 57) = W7 at *; generalize W6.heap.size = X at *)
            clear HT6
            obtain ⟨e1', e2', e3', e4'⟩ := HT7.out.one R1.out X0.out (List.mem_singleton.2 rfl)
            go_upto_region 17 with fail
            go_region_held3 (fun W => W.cell? ⟨ge, m * 2, none⟩ = some (.int .u32 a0) ∧ W.cell? ⟨ge, m * 2 + 1, none⟩ = some (.int .u32 a1) ∧ W.cell? ⟨X, 0, none⟩ = some (.int .u32 ta) ∧ W.cell? ⟨X, 1, none⟩ = some (.int .u32 tb))
              (first | with_reducible exact HT9.out.one R1.out X0.out (List.mem_singleton.2 rfl) | with_reducible exact (HT8.out.alloc _ _).one R1.out X0.out (List.mem_cons_of_mem _ (List.mem_singleton.2 rfl)) | with_reducible exact HT8.out.one R1.out X0.out (List.mem_singleton.2 rfl) | with_reducible exact HT7.out.one R1.out X0.out (List.mem_singleton.2 rfl) | with_reducible exact HT7.out.drew.one R1.out X0.out (List.mem_singleton.2 rfl) | (trace_state; fail))
              (first
                | (with_reducible refine (raddc_at a0 a1 ta tb _).mono ?_; rintro e W8 ⟨pa, pb, rfl, hpq, hb8⟩; have HT8 := Lib.hid (HT7.out.drew.step hb8); have HV1 := Lib.hid ((V1.out.trans (by rw [← HPQ.out])).trans hpq.symm); clear hb8 hpq)
                | (refine step_TN1 nt57 (HT8.out.alloc pa pb) List.mem_cons_self rfl (.tmp 79) (.tmp 86) rfl rfl rfl L1.out HLE.out ?_; intro p9 k9 W9 h9; have HT9 := Lib.hid (h9.forget (fr' := [(X, ta, tb)]) (fun y hy => List.mem_cons_of_mem _ hy)); clear h9))
            obtain ⟨e1', e2', e3', e4'⟩ := HT9.out.one R1.out X0.out (List.mem_singleton.2 rfl)
            go_upto_region 18 with fail
            go_region_held3 (fun W => W.cell? ⟨ge, m * 2, none⟩ = some (.int .u32 a0) ∧ W.cell? ⟨ge, m * 2 + 1, none⟩ = some (.int .u32 a1) ∧ W.cell? ⟨X, 0, none⟩ = some (.int .u32 ta) ∧ W.cell? ⟨X, 1, none⟩ = some (.int .u32 tb))
              (first | with_reducible exact HT11.out.one R1.out X0.out (List.mem_singleton.2 rfl) | with_reducible exact (HT10.out.alloc _ _).one R1.out X0.out (List.mem_cons_of_mem _ (List.mem_singleton.2 rfl)) | with_reducible exact HT10.out.one R1.out X0.out (List.mem_singleton.2 rfl) | with_reducible exact HT9.out.one R1.out X0.out (List.mem_singleton.2 rfl) | with_reducible exact HT9.out.drew.one R1.out X0.out (List.mem_singleton.2 rfl) | (trace_state; fail))
              (first
                | (with_reducible refine (rsubc_at a0 a1 ta tb _).mono ?_; rintro e W10 ⟨qa, qb, rfl, hpq, hb8⟩; have HT10 := Lib.hid (HT9.out.drew.step hb8); have HV2 := Lib.hid ((V2.out.trans (by rw [← HPQ.out])).trans hpq.symm); clear hb8 hpq)
                | (refine step_TN2 nt57 (HT10.out.alloc qa qb) List.mem_cons_self rfl (.tmp 88) (.tmp 95) rfl rfl rfl L2.out HLE.out ?_; intro p11 k11 W11 h11; have HT11 := Lib.hid (h11.forget (fr' := [(X, ta, tb)]) (fun y hy => List.mem_cons_of_mem _ hy)); clear h11))
            go_wp2_with fail
            try rw [ek1]
            go_roundw
            case rel => exact ⟨m + 1, p9, k9, p11, k11, by have := HMM.out; omega, rfl, rfl, rfl, by rw [upto_succ, upto_succ, HV1.out, HV2.out]; exact HT11.out.forget (fun y hy => by cases hy)⟩
            case measure =>
              have := HMM.out
              show M - ((m + 1 : Nat) : Int).toNat < M - (m : Int).toNat
              omega
        · have hmM : m = M := by omega
          have tm : decide ((m : Int) < (M : Int)) = false := decide_eq_false (by omega)
          have tm' : decide (m < M) = false := decide_eq_false hlt
          have hb32 := HM32.out
          have ew : wrap64 (M : Int) = (M : Int) := by unfold wrap64; omega
          have HMM := Lib.hid hmM
          clear hlt hm hmM hb32
          obtain ⟨ed, ed2⟩ := ED.out
          go_wp2_with (at_builtin; refine wpList_TN12 nt57 HT1.out (by intro e; have := congrArg List.length e; rw [upto_length] at this; simp only [List.length_nil] at this; have h1 := H1.out; have h2 := HMM.out; omega) rfl _ _ rfl rfl rfl (by rw [upto_length, upto_length]; have h1 := HM32.out; have h2 := HMM.out; omega) ?_)
          intro u5 W5 ho5 hb5
          have HO5 := Lib.hid ho5
          have HB5 := Lib.hid (HB.out.trans (hb5.mono HB.out.size))
          clear ho5 hb5 ed ed2 ew
          go_wp2_with fail
          go_ret
          refine ⟨_, rfl, ?_, HB5.out⟩
          have h := HO5.out
          rw [HMM.out, ← HF'.out] at h
          exact Own.base h HB.out.size

end Go.Proofs.Ytlbgpfddmkpakaa.Nu
