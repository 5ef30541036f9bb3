/- Numeric: the reference's Spectrum. -/
import Derived.Test.YtlbgpfddmkpakaaEf
import Derived.Test.YtlbgpfddmkpakaaDf
namespace Go.Proofs.Ytlbgpfddmkpakaa.Nu
open Go.RowKit
set_option linter.unusedVariables false
set_option linter.unusedSimpArgs false

theorem TU.two {W0 : World} {u : Value} {xs : List Nat} {W : World} (h : TU W0 u xs W) {g j : Nat} {l : List (Nat × Nat)} {p : Nat × Nat} (r : Rd W0 g 0 l) (hj : l[j]? = some p) :
    W.cell? ⟨g, j * 2, none⟩ = some (.int .u32 p.1) ∧ W.cell? ⟨g, j * 2 + 1, none⟩ = some (.int .u32 p.2) := (r.step h.below r.1).get0 hj
theorem TU.drew {W0 : World} {u : Value} {xs : List Nat} {W : World} (h : TU W0 u xs W) : TU W0 u xs W.drew := h.step (Below.refl _ _).drew
theorem pts_pow {n : Nat} (hp : (n : Int) ∈ pts) : ∃ k, k ≤ 6 ∧ n = 2 ^ k := by
  rcases R.pts_nat hp with h | h | h | h | h | h | h
  · exact ⟨0, by omega, h⟩
  · exact ⟨1, by omega, h⟩
  · exact ⟨2, by omega, h⟩
  · exact ⟨3, by omega, h⟩
  · exact ⟨4, by omega, h⟩
  · exact ⟨5, by omega, h⟩
  · exact ⟨6, by omega, h⟩
set_option maxRecDepth 100000 in
set_option maxHeartbeats 8000000 in
theorem rspectrum_at (v : Value) (l : List Nat) (w : World) (hr : Row32 w v l) (h70 : l.length ≤ 70) :
    Calls Try.prog 26 #[v] w (SpecPost l w) := by
  obtain ⟨p, cap, rfl, hcap, hrr⟩ := hr
  have HRR := Lib.hid hrr
  obtain ⟨n, hn⟩ : ∃ n, n = l.length := ⟨_, rfl⟩
  have HN := Lib.hid hn
  rw [← hn] at h70 hcap ⊢
  have H70 := Lib.hid h70
  clear hrr hn h70
  go_enter Try.func26, Try.ntmps26
  go_upto_region 2 with fail
  have HT := Lib.hid (TN.empty1 w 57)
  generalize w.alloc (Obj.cells #[] 57) = W0 at *
  have HE : Hid (∃ p1 c1, Value.slice (some ⟨w.heap.size, 0, none⟩) 0 0 = .slice p1 0 c1) := ⟨_, _, rfl⟩
  generalize Value.slice (some ⟨w.heap.size, 0, none⟩) 0 0 = u0 at *
  go_wp2_with fail
  go_loopw [4, 5] (fun s4 s5 wr => ∃ j : Nat, ∃ c1 : Value, j ≤ n ∧ s5 = .int .i64 j ∧ s4 = c1 ∧ TN 57 w c1 (smp l j) (.slice none 0 0) [] [] wr) (fun _ s5 _ => n - (intOf s5).toNat)
  case atStart => exact ⟨0, _, Nat.zero_le _, rfl, rfl, HT.out⟩
  case round =>
    obtain ⟨j, c1, hj, rfl, rfl, ht⟩ := hrel
    have HT1 := Lib.hid ht
    obtain ⟨pu, cu, rfl⟩ := ht.o1.slice
    clear ht HT HE
    have L1 : Hid ((smp l j).length = j) := upto_length _ _
    rw [L1.out] at HT1 ⊢
    by_cases hlt : j < n
    · have tl : decide ((j : Int) < (n : Int)) = true := decide_eq_true (by omega)
      have tl' : decide (j < n) = true := decide_eq_true hlt
      rcases HRR.out with h | ⟨g, off, rfl, hg, hc⟩
      · exfalso; have := HN.out; rw [h] at this; simp only [List.length_nil] at this; omega
      have hx0 : l[j]? = some (l.getD j 0) := by rw [List.getD_eq_getElem?_getD, List.getElem?_eq_getElem (by rw [← HN.out]; exact hlt)]; rfl
      have c0 := (HT1.out.below.cell (p := ⟨g, off + j, none⟩) hg).trans (hc _ _ hx0)
      have h64 := H70.out
      have ek1 : wrap64 ((j : Int) + 1) = ((j + 1 : Nat) : Int) := by unfold wrap64; omega
      have bi : (j : Int) < (n : Int) := by omega
      have HC : Hid (smp l (j + 1) = smp l j ++ [(l.getD j 0, 0)]) := upto_succ _ _
      generalize l.getD j 0 = a0 at *
      have HLT := Lib.hid hlt
      have HLE : Hid (j ≤ 2000) := by show j ≤ 2000; omega
      clear hj hlt hx0 h64 hg hc
      go_wp2_with (at_builtin; refine wpList_TN1 nt57 (HT1.out.allocL a0) List.mem_cons_self rfl _ _ rfl rfl rfl L1.out HLE.out ?_; intro p8 k8 W8 h8; have HT8 := Lib.hid (h8.forget (fr' := []) (fun y hy => by cases hy)); clear h8)
      try rw [ek1]
      go_roundw
      case rel => exact ⟨j + 1, _, HLT.out, rfl, rfl, by rw [HC.out]; exact HT8.out⟩
      case measure =>
        have := HLT.out
        show n - ((j + 1 : Nat) : Int).toNat < n - (j : Int).toNat
        omega
    · have hjn : n = j := by omega
      have tl : decide ((j : Int) < (n : Int)) = false := decide_eq_false (by omega)
      have tl' : decide (j < n) = false := decide_eq_false hlt
      subst hjn
      clear hlt hj
      by_cases hp : (n : Int) ∈ pts
      · obtain ⟨k, hk, hnk⟩ := pts_pow hp
        have HP := Lib.hid hp
        have HK := Lib.hid hk
        have HNK := Lib.hid hnk
        clear hp hk hnk
        go_wp2_with fail
        refine (rtransform_fwd k HK.out _ _ _ HT1.out.o1.row (L1.out.trans HNK.out)).mono ?_
        rintro e W1 ⟨ve, rfl, ho1, hb1⟩
        have HB : Hid (Below w.heap.size w W1) := HT1.out.below.trans (hb1.mono HT1.out.below.size)
        have k1 := fft_length k (smp l n)
        obtain ⟨E, hE⟩ : ∃ E, E = fft k (smp l n) := ⟨_, rfl⟩
        rw [← hE] at ho1 k1
        rw [← HNK.out] at k1
        have hn1 : 1 ≤ n := by have := R.pts_nat HP.out; omega
        have q1 := Own.rd ho1 (by intro e; rw [e] at k1; simp only [List.length_nil] at k1; omega)
        rw [k1] at q1
        obtain ⟨ge, ce, rfl, l1, _, r1⟩ := q1
        have R1 := Lib.hid r1
        have K1 := Lib.hid k1
        have HEE := Lib.hid hE
        obtain ⟨h, hh⟩ : ∃ h, h = n / 2 := ⟨_, rfl⟩
        have h64 := H70.out
        have hmn : h < n := by omega
        have ed : (n : Int) / 2 = (h : Int) := by omega
        have ed2 : (n : Int).tdiv 2 = (h : Int) := by rw [Int.tdiv_eq_ediv_of_nonneg (by omega)]; exact ed
        have ew : wrap64 (h : Int) = (h : Int) := by clear ed ed2; unfold wrap64; omega
        have HH := Lib.hid hh
        have HMN := Lib.hid hmn
        have HMV : Hid (h + 1 = min (n / 2 + 1) n) := by show _ = _; rw [← hh]; clear ed ed2 ew; omega
        have ED := Lib.hid (And.intro ed (And.intro ed2 ew))
        clear ho1 hb1 HT1 hE k1 r1 hh hmn h64 hn1 l1 ed ed2 ew
        go_upto_region 10 with fail
        have HT := Lib.hid (TU.empty W1)
        generalize W1.alloc (Obj.cells #[] 24) = W4 at *
        generalize Value.slice (some ⟨W1.heap.size, 0, none⟩) 0 0 = u0' at *
        obtain ⟨f1, hf1⟩ : ∃ f : Nat → Nat, f = fun j => pw (el E j) := ⟨_, rfl⟩
        have F1 := Lib.hid hf1
        clear hf1
        go_wp2_with fail
        go_loopw [8, 9] (fun s8 s9 wr => ∃ j : Nat, ∃ c1 : Value, j ≤ h + 1 ∧ s9 = .int .i64 j ∧ s8 = c1 ∧ TU W1 c1 (upto f1 j) wr) (fun _ s9 _ => h + 1 - (intOf s9).toNat)
        case atStart => exact ⟨0, _, Nat.zero_le _, rfl, rfl, HT.out⟩
        case round =>
          obtain ⟨j, c1, hj, rfl, rfl, ht⟩ := hrel
          have HT1 := Lib.hid ht
          obtain ⟨pu', cu', rfl⟩ := ht.o1.slice
          clear ht HT
          have L1 := Lib.hid (upto_length f1 j)
          rw [L1.out] at HT1 ⊢
          by_cases hlt : j ≤ h
          · have tm : decide ((j : Int) ≤ (h : Int)) = true := decide_eq_true (by omega)
            have tm' : decide (j ≤ h) = true := decide_eq_true hlt
            have h64 := H70.out
            have hmn2 := HMN.out
            have tn : decide ((j : Int) < (n : Int)) = true := decide_eq_true (by omega)
            have tn' : decide (j < n) = true := decide_eq_true (by omega)
            have ek1 : wrap64 ((j : Int) + 1) = ((j + 1 : Nat) : Int) := by unfold wrap64; omega
            have bi : (j : Int) < (n : Int) := by omega
            have bj : j < n := by omega
            have hx0 := el_get (l := E) (j := j) (by rw [K1.out]; omega)
            have hv1 : f1 j = pw (el E j) := by rw [F1.out]
            generalize el E j = a at *
            obtain ⟨a0, a1⟩ := a
            have HX0 := Lib.hid hx0
            obtain ⟨c0, c1'⟩ := HT1.out.two R1.out hx0
            have HMM := Lib.hid hlt
            have HLE : Hid (j ≤ 2000) := by show j ≤ 2000; omega
            have V1 := Lib.hid hv1
            clear hx0 hv1 h64 hlt hj hmn2
            obtain ⟨ed, ed2, ew⟩ := ED.out
            go_upto_region 14 with fail
            clear ed ed2 ew
            have HTc := Lib.hid HT1.out.drew
            go_region_held3 (fun W => W.cell? ⟨ge, j * 2, none⟩ = some (.int .u32 a0) ∧ W.cell? ⟨ge, j * 2 + 1, none⟩ = some (.int .u32 a1))
              (first | with_reducible exact HTc.out.two R1.out HX0.out | with_reducible exact HT1.out.two R1.out HX0.out | (trace_state; fail))
              (first
                | (with_reducible refine (rf_at a0 _).mono ?_; rintro e Wn ⟨rfl, hb⟩; have HTn := Lib.hid (HTc.out.step hb); clear hb HTc; have HTc := HTn; clear HTn)
                | (with_reducible refine (rf_at a1 _).mono ?_; rintro e Wn ⟨rfl, hb⟩; have HTn := Lib.hid (HTc.out.step hb); clear hb HTc; have HTc := HTn; clear HTn))
            go_wp2_with fail
            refine (rtimes_at a0 a0 _).mono ?_
            rintro e W4 ⟨q0, rfl, _, hq0, hb⟩
            have HT4 := Lib.hid (HTc.out.step hb)
            have HQ0 := Lib.hid hq0
            clear hb hq0
            go_wp2_with fail
            refine (rtimes_at a1 a1 _).mono ?_
            rintro e W5 ⟨q1, rfl, _, hq1, hb⟩
            have HT5 := Lib.hid (HT4.out.step hb)
            have HQ1 := Lib.hid hq1
            clear hb hq1
            go_wp2_with fail
            refine (rplus_at q0 q1 _).mono ?_
            rintro e W6 ⟨q2, rfl, _, hq2, hb⟩
            have HT6 := Lib.hid (HT5.out.step hb)
            have HQ2 := Lib.hid hq2
            clear hb hq2
            go_wp2_with fail
            refine (rbits_at q2 _).mono ?_
            rintro e W7 ⟨rfl, hb⟩
            have HT7 := Lib.hid (HT6.out.step hb)
            clear hb
            obtain ⟨d, hd⟩ : ∃ d, cb (canon q2) = d := ⟨_, rfl⟩
            have HV : Hid (f1 j = d) := by show _ = _; rw [V1.out, ← hd, HQ2.out, HQ0.out, HQ1.out]; rfl
            rw [hd]
            clear hd
            go_wp2_with (at_builtin; refine wpList_TU HT7.out d rfl _ _ rfl rfl rfl L1.out HLE.out ?_; intro p8 k8 W8 h8; have HT8 := Lib.hid h8; clear h8)
            try rw [ek1]
            go_roundw
            case rel => exact ⟨j + 1, _, Nat.succ_le_succ HMM.out, rfl, rfl, by rw [upto_succ, HV.out]; exact HT8.out⟩
            case measure =>
              have := HMM.out
              show h + 1 - ((j + 1 : Nat) : Int).toNat < h + 1 - (j : Int).toNat
              omega
          · have hmM : h + 1 = j := by omega
            have tm : decide ((j : Int) ≤ (h : Int)) = false := decide_eq_false (by omega)
            have tm' : decide (j ≤ h) = false := decide_eq_false hlt
            have HMJ := Lib.hid hmM
            clear hlt hj hmM
            obtain ⟨ed, ed2, ew⟩ := ED.out
            go_wp2_with fail
            clear ed ed2 ew
            refine bodyPost_ret (v := .tuple #[.slice pu' j cu', .int .i64 0]) (by simp [results, Try.results26, go_sem]) rfl ⟨fun h => absurd (by rw [← HN.out]; exact HP.out) h, fun k' hk' hl' => ?_, HB.out.trans (HT1.out.below.mono HB.out.size)⟩
            have ek : k' = k := pow_inj (by rw [← hl', ← HN.out, HNK.out])
            subst ek
            refine ⟨_, rfl, ?_⟩
            have hs : spec k' l = upto f1 j := by
              rw [← HMJ.out]
              unfold spec
              rw [← HNK.out, F1.out, HEE.out, ← HMV.out]
            rw [hs]
            exact OwnU.base HT1.out.o1 HB.out.size
      · have HP := Lib.hid hp
        clear hp
        go_wp2_with fail
        refine (rtransform_no _ _ _ _ _ HP.out).mono ?_
        rintro e W1 ⟨rfl, rfl⟩
        go_wp2_with fail
        refine bodyPost_ret (v := .tuple #[.slice none 0 0, .int .i64 4]) (by simp [results, Try.results26, go_sem]) rfl ⟨fun _ => rfl, fun k hk hl => ?_, HT1.out.below⟩
        exact absurd (by rw [HN.out, hl]; exact pow_pts hk) HP.out
end Go.Proofs.Ytlbgpfddmkpakaa.Nu
