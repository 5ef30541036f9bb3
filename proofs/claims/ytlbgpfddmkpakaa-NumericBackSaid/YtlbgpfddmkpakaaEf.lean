/- Numeric: the program's Spectrum. -/
import Derived.Test.YtlbgpfddmkpakaaEe
namespace Go.Proofs.Ytlbgpfddmkpakaa.Nu
open Go.RowKit
set_option linter.unusedVariables false
set_option linter.unusedSimpArgs false

/-- What Spectrum does. -/
def SpecPost (l : List Nat) (w : World) (e : Ending) (w' : World) : Prop :=
  ((l.length : Int) ∉ pts → e = .returned (.tuple #[.slice none 0 0, .int .i64 4])) ∧ (∀ k, k ≤ 6 → l.length = 2 ^ k → ∃ v', e = .returned (.tuple #[v', .int .i64 0]) ∧ OwnU w.heap.size w' v' (spec k l)) ∧ Below w.heap.size w w'
theorem pow_inj {k j : Nat} (h : 2 ^ k = 2 ^ j) : k = j := (Nat.pow_right_inj (by decide)).1 h
set_option maxRecDepth 100000 in
set_option maxHeartbeats 8000000 in
theorem spectrum_at (v : Value) (l : List Nat) (w : World) (hr : Row32 w v l) (h70 : l.length ≤ 70) :
    Calls Try.prog 25 #[v] w (SpecPost l w) := by
  obtain ⟨p, cap, rfl, hcap, hrr⟩ := hr
  have HRR := Lib.hid hrr
  obtain ⟨n, hn⟩ : ∃ n, n = l.length := ⟨_, rfl⟩
  have HN := Lib.hid hn
  rw [← hn] at h70 hcap ⊢
  have H70 := Lib.hid h70
  clear hrr hn h70
  go_enter Try.func25, Try.ntmps25
  go_wp2_with fail
  go_loopw [4, 6, 16] (fun s4 _ s16 wr => ∃ j : Nat, ∃ c1 : Value, j ≤ n ∧ s16 = .int .i64 j ∧ s4 = c1 ∧ TN 26 w c1 (smp l j) (.slice none 0 0) [] [] wr) (fun _ _ s16 _ => n - (intOf s16).toNat)
  case atStart => exact ⟨0, _, Nat.zero_le _, rfl, rfl, TN.start w 26⟩
  case round =>
    obtain ⟨j, c1, hj, rfl, rfl, ht⟩ := hrel
    have HT1 := Lib.hid ht
    obtain ⟨pu, cu, rfl⟩ := ht.o1.slice
    clear ht
    have L1 : Hid ((smp l j).length = j) := upto_length _ _
    rw [L1.out] at HT1 ⊢
    by_cases hlt : j < n
    · have tl : decide ((j : Int) < (n : Int)) = true := decide_eq_true (by omega)
      have tl' : decide (j < n) = true := decide_eq_true hlt
      rcases HRR.out with h | ⟨g, off, rfl, hg, hc⟩
      · exfalso; have := HN.out; rw [h] at this; simp only [List.length_nil] at this; omega
      have hx0 : l[j]? = some (l.getD j 0) := by rw [List.getD_eq_getElem?_getD, List.getElem?_eq_getElem (by rw [← HN.out]; exact hlt)]; rfl
      have c0 := (HT1.out.below.cell (p := ⟨g, off + j, none⟩) hg).trans (hc _ _ hx0)
      have h64 := H70.out
      have ek1 : wrap64 ((j : Int) + 1) = ((j + 1 : Nat) : Int) := by unfold wrap64; omega
      have bi : (j : Int) < (n : Int) := by omega
      have HC : Hid (smp l (j + 1) = smp l j ++ [(l.getD j 0, 0)]) := upto_succ _ _
      generalize l.getD j 0 = a0 at *
      have HLT := Lib.hid hlt
      have HLE : Hid (j ≤ 2000) := by show j ≤ 2000; omega
      clear hj hlt hx0 h64 hg hc
      go_wp2_with (at_builtin; refine wpList_TN1 nt26 (HT1.out.allocL a0) List.mem_cons_self rfl _ _ rfl rfl rfl L1.out HLE.out ?_; intro p8 k8 W8 h8; have HT8 := Lib.hid (h8.forget (fr' := []) (fun y hy => by cases hy)); clear h8)
      try rw [ek1]
      go_roundw
      case rel => exact ⟨j + 1, _, HLT.out, rfl, rfl, by rw [HC.out]; exact HT8.out⟩
      case measure =>
        have := HLT.out
        show n - ((j + 1 : Nat) : Int).toNat < n - (j : Int).toNat
        omega
    · have hjn : n = j := by omega
      have tl : decide ((j : Int) < (n : Int)) = false := decide_eq_false (by omega)
      have tl' : decide (j < n) = false := decide_eq_false hlt
      subst hjn
      clear hlt hj
      by_cases hp : (n : Int) ∈ pts
      · obtain ⟨k, hk, hnk⟩ : ∃ k, k ≤ 6 ∧ n = 2 ^ k := by
          rcases R.pts_nat hp with h | h | h | h | h | h | h
          · exact ⟨0, by omega, h⟩
          · exact ⟨1, by omega, h⟩
          · exact ⟨2, by omega, h⟩
          · exact ⟨3, by omega, h⟩
          · exact ⟨4, by omega, h⟩
          · exact ⟨5, by omega, h⟩
          · exact ⟨6, by omega, h⟩
        have HP := Lib.hid hp
        have HK := Lib.hid hk
        have HNK := Lib.hid hnk
        clear hp hk hnk
        go_wp2_with fail
        refine (ptransform_fwd k HK.out _ _ _ HT1.out.o1.row (L1.out.trans HNK.out)).mono ?_
        rintro e W1 ⟨ve, rfl, ho1, hb1⟩
        have HB : Hid (Below w.heap.size w W1) := HT1.out.below.trans (hb1.mono HT1.out.below.size)
        have k1 := fft_length k (smp l n)
        obtain ⟨E, hE⟩ : ∃ E, E = fft k (smp l n) := ⟨_, rfl⟩
        rw [← hE] at ho1 k1
        rw [← HNK.out] at k1
        have hn1 : 1 ≤ n := by have := R.pts_nat HP.out; omega
        have q1 := Own.rd ho1 (by intro e; rw [e] at k1; simp only [List.length_nil] at k1; omega)
        rw [k1] at q1
        obtain ⟨ge, ce, rfl, l1, _, r1⟩ := q1
        have R1 := Lib.hid r1
        have K1 := Lib.hid k1
        have HE := Lib.hid hE
        obtain ⟨h, hh⟩ : ∃ h, h = n / 2 := ⟨_, rfl⟩
        obtain ⟨m, hm⟩ : ∃ m, m = min (h + 1) n := ⟨_, rfl⟩
        have h64 := H70.out
        have hmn : m ≤ n := by omega
        have hmm : m = h + 1 ∧ h + 1 ≤ n ∨ m = n ∧ n < h + 1 := by omega
        have ed : (n : Int) / 2 = (h : Int) := by omega
        have ed2 : (n : Int).tdiv 2 = (h : Int) := by rw [Int.tdiv_eq_ediv_of_nonneg (by omega)]; exact ed
        have ew : wrap64 (h : Int) = (h : Int) := by clear ed ed2; unfold wrap64; omega
        have ew2 : wrap64 ((h : Int) + 1) = (h : Int) + 1 := by clear ed ed2 ew; unfold wrap64; omega
        have HM := Lib.hid hm
        have HH := Lib.hid hh
        have HMN := Lib.hid hmn
        have l1' : n ≤ ce := l1
        rcases hmm with ⟨e1, e2⟩ | ⟨e1, e2⟩
        · have b1 : ((h : Int) + 1) ≤ (n : Int) := by clear ed ed2 ew ew2; omega
          have b2 : h + 1 ≤ n := e2
          have b3 : h + 1 ≤ ce := by clear ed ed2 ew ew2; omega
          have b4 : ((h : Int) + 1).toNat = h + 1 := by clear ed ed2 ew ew2; omega
          have b5 : (0 : Int) ≤ (h : Int) + 1 := by clear ed ed2 ew ew2; omega
          clear ho1 hb1 HT1 hE k1 r1 hh hm hmn h64 hn1 l1 e2
          go_wp2_with fail
          have HMV : Hid (m = min (n / 2 + 1) n) := by show _ = _; rw [HM.out, HH.out]
          rw [ew2, ew, show ((h : Int) + 1) = ((m : Nat) : Int) by rw [e1]; rfl, show h + 1 = m from e1.symm]
          clear ed ed2 ew ew2 b1 b2 b3 b4 b5 e1
          obtain ⟨f1, hf1⟩ : ∃ f : Nat → Nat, f = fun j => pw (el E j) := ⟨_, rfl⟩
          have F1 := Lib.hid hf1
          clear hf1
          go_loopw [9, 44] (fun s9 s44 wr => ∃ j : Nat, ∃ c1 : Value, j ≤ m ∧ s44 = .int .i64 j ∧ s9 = c1 ∧ TU W1 c1 (upto f1 j) wr) (fun _ s44 _ => m - (intOf s44).toNat)
          case atStart => exact ⟨0, _, Nat.zero_le _, rfl, rfl, TU.start W1⟩
          case round =>
            obtain ⟨j, c1, hj, rfl, rfl, ht⟩ := hrel
            have HT1 := Lib.hid ht
            obtain ⟨pu', cu', rfl⟩ := ht.o1.slice
            clear ht
            have L1 := Lib.hid (upto_length f1 j)
            rw [L1.out] at HT1 ⊢
            by_cases hlt : j < m
            · have tm : decide ((j : Int) < (m : Int)) = true := decide_eq_true (by omega)
              have tm' : decide (j < m) = true := decide_eq_true hlt
              have h64 := H70.out
              have hmn2 := HMN.out
              have ek1 : wrap64 ((j : Int) + 1) = ((j + 1 : Nat) : Int) := by unfold wrap64; omega
              have bi : (j : Int) < (m : Int) := by omega
              have hx0 := el_get (l := E) (j := j) (by rw [K1.out]; omega)
              have hv1 : f1 j = pw (el E j) := by rw [F1.out]
              generalize el E j = a at *
              obtain ⟨a0, a1⟩ := a
              obtain ⟨c0, c1'⟩ := (R1.out.step HT1.out.below R1.out.1).get0 hx0
              have HMM := Lib.hid hlt
              have HLE : Hid (j ≤ 2000) := by show j ≤ 2000; omega
              have V1 := Lib.hid hv1
              clear hx0 hv1 h64 hlt hj hmn2
              go_upto_region 14 with fail
              have HX := Lib.hid (B2.made wr (.int .u32 (a0 : Nat)) (.int .u32 (a1 : Nat)) 26)
              have HT2 := Lib.hid (HT1.out.step ((Below.refl _ _).alloc (Nat.le_refl _) (Obj.cells #[.int .u32 (a0 : Nat), .int .u32 (a1 : Nat)] 26)))
              generalize wr.alloc (Obj.cells #[.int .u32 a0, .int .u32 a1] 26) = W2 at *
              generalize wr.heap.size = X at *
              clear c0 c1'
              obtain ⟨x0, x1⟩ := HX.out.cells
              go_wp2_with fail
              refine (parts_at a0 a1 _).mono ?_
              rintro e W3 ⟨rfl, hb⟩
              have HT3 := Lib.hid (HT2.out.step hb)
              clear hb x0 x1 HX HT2
              go_wp2_with fail
              refine (times_at (cc a0) (cc a0) _).mono ?_
              rintro e W4 ⟨q0, rfl, _, hq0, hb⟩
              have HT4 := Lib.hid (HT3.out.step hb)
              have HQ0 := Lib.hid hq0
              clear hb hq0
              go_wp2_with fail
              refine (times_at (cc a1) (cc a1) _).mono ?_
              rintro e W5 ⟨q1, rfl, _, hq1, hb⟩
              have HT5 := Lib.hid (HT4.out.step hb)
              have HQ1 := Lib.hid hq1
              clear hb hq1
              obtain ⟨d, hd⟩ : ∃ d, cb (fop .add (canon q0) (canon q1)) = d := ⟨_, rfl⟩
              have HV : Hid (f1 j = d) := by show _ = _; rw [V1.out, ← hd, HQ0.out, HQ1.out, canon_cc, canon_cc]; rfl
              have D0 := Lib.hid hd
              clear hd
              rcases fop_split (op := .add) (.inl rfl) 31 q0 q1 with ⟨ra, hqa, qa⟩ | ⟨ra, hqa, qa⟩
              all_goals
                have HQA := Lib.hid hqa
                clear hqa
                go_wp2_with fail
                refine (bits_at _ _).mono ?_
                rintro e W6 ⟨rfl, hb⟩
                first
                  | have HT6 := Lib.hid (HT5.out.step hb)
                  | have HT6 := Lib.hid (HT5.out.step ((one_drew (.inr rfl)).trans (hb.mono (one_drew (.inr rfl)).size)))
                rw [HQA.out, D0.out]
                clear hb qa
                go_wp2_with (at_builtin; refine wpList_TU HT6.out d rfl _ _ rfl rfl rfl L1.out HLE.out ?_; intro p8 k8 W8 h8; have HT8 := Lib.hid h8; clear h8)
                try rw [ek1]
                go_roundw
                case rel => exact ⟨j + 1, _, HMM.out, rfl, rfl, by rw [upto_succ, HV.out]; exact HT8.out⟩
                case measure =>
                  have := HMM.out
                  show m - ((j + 1 : Nat) : Int).toNat < m - (j : Int).toNat
                  omega
            · have hmM : m = j := by omega
              have tm : decide ((j : Int) < (m : Int)) = false := decide_eq_false (by omega)
              have tm' : decide (j < m) = false := decide_eq_false hlt
              have HMJ := Lib.hid hmM
              clear hlt hj hmM
              go_wp2_with fail
              refine bodyPost_ret (v := .tuple #[.slice pu' j cu', .int .i64 0]) (by simp [results, Try.results25, go_sem]) rfl ⟨fun h => absurd (by rw [← HN.out]; exact HP.out) h, fun k' hk' hl' => ?_, HB.out.trans (HT1.out.below.mono HB.out.size)⟩
              have ek : k' = k := pow_inj (by rw [← hl', ← HN.out, HNK.out])
              subst ek
              refine ⟨_, rfl, ?_⟩
              have hs : spec k' l = upto f1 j := by
                rw [← HMJ.out]
                unfold spec
                rw [← HNK.out, F1.out, HE.out, ← HMV.out]
              rw [hs]
              exact OwnU.base HT1.out.o1 HB.out.size
        · have b1 : ¬ ((h : Int) + 1) ≤ (n : Int) := by clear ed ed2 ew ew2; omega
          have b2 : ¬ h + 1 ≤ n := by clear ed ed2 ew ew2; omega
          have b3 : (n : Int) < (h : Int) + 1 := by clear ed ed2 ew ew2; omega
          have b5 : n < h + 1 := e2
          have HMV : Hid (n = min (n / 2 + 1) n) := by show _ = _; rw [← HH.out]; clear ed ed2 ew ew2; omega
          clear ho1 hb1 HT1 hE k1 r1 hh hm hmn h64 hn1 l1 e1 e2
          go_wp2_with fail

          try rw [ew2]
          try rw [ew]
          clear ed ed2 ew ew2 b1 b2 b3 b5
          obtain ⟨f1, hf1⟩ : ∃ f : Nat → Nat, f = fun j => pw (el E j) := ⟨_, rfl⟩
          have F1 := Lib.hid hf1
          clear hf1
          have HMN : Hid (n ≤ n) := Nat.le_refl _
          go_loopw [9, 44] (fun s9 s44 wr => ∃ j : Nat, ∃ c1 : Value, j ≤ n ∧ s44 = .int .i64 j ∧ s9 = c1 ∧ TU W1 c1 (upto f1 j) wr) (fun _ s44 _ => n - (intOf s44).toNat)
          case atStart => exact ⟨0, _, Nat.zero_le _, rfl, rfl, TU.start W1⟩
          case round =>
            obtain ⟨j, c1, hj, rfl, rfl, ht⟩ := hrel
            have HT1 := Lib.hid ht
            obtain ⟨pu', cu', rfl⟩ := ht.o1.slice
            clear ht
            have L1 := Lib.hid (upto_length f1 j)
            rw [L1.out] at HT1 ⊢
            by_cases hlt : j < n
            · have tm : decide ((j : Int) < (n : Int)) = true := decide_eq_true (by omega)
              have tm' : decide (j < n) = true := decide_eq_true hlt
              have h64 := H70.out
              have hmn2 := HMN.out
              have ek1 : wrap64 ((j : Int) + 1) = ((j + 1 : Nat) : Int) := by unfold wrap64; omega
              have bi : (j : Int) < (n : Int) := by omega
              have hx0 := el_get (l := E) (j := j) (by rw [K1.out]; omega)
              have hv1 : f1 j = pw (el E j) := by rw [F1.out]
              generalize el E j = a at *
              obtain ⟨a0, a1⟩ := a
              obtain ⟨c0, c1'⟩ := (R1.out.step HT1.out.below R1.out.1).get0 hx0
              have HMM := Lib.hid hlt
              have HLE : Hid (j ≤ 2000) := by show j ≤ 2000; omega
              have V1 := Lib.hid hv1
              clear hx0 hv1 h64 hlt hj hmn2
              go_upto_region 14 with fail
              have HX := Lib.hid (B2.made wr (.int .u32 (a0 : Nat)) (.int .u32 (a1 : Nat)) 26)
              have HT2 := Lib.hid (HT1.out.step ((Below.refl _ _).alloc (Nat.le_refl _) (Obj.cells #[.int .u32 (a0 : Nat), .int .u32 (a1 : Nat)] 26)))
              generalize wr.alloc (Obj.cells #[.int .u32 a0, .int .u32 a1] 26) = W2 at *
              generalize wr.heap.size = X at *
              clear c0 c1'
              obtain ⟨x0, x1⟩ := HX.out.cells
              go_wp2_with fail
              refine (parts_at a0 a1 _).mono ?_
              rintro e W3 ⟨rfl, hb⟩
              have HT3 := Lib.hid (HT2.out.step hb)
              clear hb x0 x1 HX HT2
              go_wp2_with fail
              refine (times_at (cc a0) (cc a0) _).mono ?_
              rintro e W4 ⟨q0, rfl, _, hq0, hb⟩
              have HT4 := Lib.hid (HT3.out.step hb)
              have HQ0 := Lib.hid hq0
              clear hb hq0
              go_wp2_with fail
              refine (times_at (cc a1) (cc a1) _).mono ?_
              rintro e W5 ⟨q1, rfl, _, hq1, hb⟩
              have HT5 := Lib.hid (HT4.out.step hb)
              have HQ1 := Lib.hid hq1
              clear hb hq1
              obtain ⟨d, hd⟩ : ∃ d, cb (fop .add (canon q0) (canon q1)) = d := ⟨_, rfl⟩
              have HV : Hid (f1 j = d) := by show _ = _; rw [V1.out, ← hd, HQ0.out, HQ1.out, canon_cc, canon_cc]; rfl
              have D0 := Lib.hid hd
              clear hd
              rcases fop_split (op := .add) (.inl rfl) 31 q0 q1 with ⟨ra, hqa, qa⟩ | ⟨ra, hqa, qa⟩
              all_goals
                have HQA := Lib.hid hqa
                clear hqa
                go_wp2_with fail
                refine (bits_at _ _).mono ?_
                rintro e W6 ⟨rfl, hb⟩
                first
                  | have HT6 := Lib.hid (HT5.out.step hb)
                  | have HT6 := Lib.hid (HT5.out.step ((one_drew (.inr rfl)).trans (hb.mono (one_drew (.inr rfl)).size)))
                rw [HQA.out, D0.out]
                clear hb qa
                go_wp2_with (at_builtin; refine wpList_TU HT6.out d rfl _ _ rfl rfl rfl L1.out HLE.out ?_; intro p8 k8 W8 h8; have HT8 := Lib.hid h8; clear h8)
                try rw [ek1]
                go_roundw
                case rel => exact ⟨j + 1, _, HMM.out, rfl, rfl, by rw [upto_succ, HV.out]; exact HT8.out⟩
                case measure =>
                  have := HMM.out
                  show n - ((j + 1 : Nat) : Int).toNat < n - (j : Int).toNat
                  omega
            · have hmM : n = j := by omega
              have tm : decide ((j : Int) < (n : Int)) = false := decide_eq_false (by omega)
              have tm' : decide (j < n) = false := decide_eq_false hlt
              have HMJ := Lib.hid hmM
              clear hlt hj hmM
              go_wp2_with fail
              refine bodyPost_ret (v := .tuple #[.slice pu' j cu', .int .i64 0]) (by simp [results, Try.results25, go_sem]) rfl ⟨fun h => absurd (by rw [← HN.out]; exact HP.out) h, fun k' hk' hl' => ?_, HB.out.trans (HT1.out.below.mono HB.out.size)⟩
              have ek : k' = k := pow_inj (by rw [← hl', ← HN.out, HNK.out])
              subst ek
              refine ⟨_, rfl, ?_⟩
              have hs : spec k' l = upto f1 j := by
                rw [← HMJ.out]
                unfold spec
                rw [← HNK.out, F1.out, HE.out, ← HMV.out]
              rw [hs]
              exact OwnU.base HT1.out.o1 HB.out.size
      · have HP := Lib.hid hp
        clear hp
        go_wp2_with fail
        refine (ptransform_no _ _ _ _ _ HP.out).mono ?_
        rintro e W1 ⟨rfl, rfl⟩
        go_wp2_with fail
        refine bodyPost_ret (v := .tuple #[.slice none 0 0, .int .i64 4]) (by simp [results, Try.results25, go_sem]) rfl ⟨fun _ => rfl, fun k hk hl => ?_, HT1.out.below⟩
        exact absurd (by rw [HN.out, hl]; exact pow_pts hk) HP.out
end Go.Proofs.Ytlbgpfddmkpakaa.Nu
