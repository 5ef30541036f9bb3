/- Numeric: the program's Transform. -/
import Derived.Test.YtlbgpfddmkpakaaEc
namespace Go.Proofs.Ytlbgpfddmkpakaa.Nu
open Go.RowKit
set_option linter.unusedVariables false
set_option linter.unusedSimpArgs false

theorem transform_at (k : Nat) (hk : k ≤ 6) : ∀ (v : Value) (l : List (Nat × Nat)) (r : Nat) (w : World), Row w v l → l.length = 2 ^ k → FMap w r → TrAt k v l r w := by
  induction k with
  | zero => exact fun v l r w hr hl hm => transform_zero v l r w hr hl hm
  | succ k ih => exact fun v l r w hr hl hm => transform_tail k (ih (by omega)) v l r w (by omega) hr hl hm
/-- Behind a map that is made, what the transform leaves is behind the old memory. -/
theorem Below.viaMap {w w1 w2 : World} {r : Nat} (h : Below w.heap.size w w1) (hg : w1.grownBy w2 (some r)) (hr : w.heap.size ≤ r) : Below w.heap.size w w2 :=
  h.grown hg h.size (fun k hk => by injection hk with hk; omega)

set_option maxRecDepth 100000 in
set_option maxHeartbeats 1000000 in
theorem ptransform_no (p : Option Addr) (n cap : Nat) (b : Bool) (w : World) (hn : (n : Int) ∉ pts) : Calls Try.prog 21 #[.slice p n cap, .bool b] w fun e w' => e = .returned (.tuple #[.slice none 0 0, .int .i64 4]) ∧ w' = w := by
  have tp : decide ((n : Int) ∈ pts) = false := decide_eq_false hn
  clear hn
  go_enter Try.func21, Try.ntmps21
  go_wp2_with fail
  refine (points_at _ _).mono ?_
  rintro e w' ⟨rfl, rfl⟩
  rw [tp]
  clear tp
  go_wp2_with fail
  exact bodyPost_ret (v := .tuple #[.slice none 0 0, .int .i64 4]) (by simp [results, Try.results21, go_sem]) rfl ⟨rfl, rfl⟩
set_option maxRecDepth 100000 in
set_option maxHeartbeats 1000000 in
theorem ptransform_fwd (k : Nat) (hk : k ≤ 6) (v : Value) (l : List (Nat × Nat)) (w : World) (hr : Row w v l) (hl : l.length = 2 ^ k) :
    Calls Try.prog 21 #[v, .bool false] w fun e w' => ∃ v', e = .returned (.tuple #[v', .int .i64 0]) ∧ Own 26 w.heap.size w' v' (fft k l) ∧ Below w.heap.size w w' := by
  have HF := Lib.hid (fun w r hr hm => transform_at k hk v l r w hr hl hm)
  have HR := Lib.hid hr
  obtain ⟨p, cap, rfl, _⟩ := hr
  have tp : decide ((l.length : Int) ∈ pts) = true := decide_eq_true (by rw [hl]; exact pow_pts hk)
  generalize l.length = n at *
  clear hl
  have hmk := mk_map 88 w
  go_enter Try.func21, Try.ntmps21
  go_wp2_with fail
  refine (points_at _ _).mono ?_
  rintro e w' ⟨rfl, rfl⟩
  rw [tp]
  clear tp
  go_wp2_with fail
  clear hmk
  have hbm : Below w'.heap.size w' (w'.alloc (.map #[] 0)) := (Below.refl _ _).alloc (Nat.le_refl _) _
  refine (HF.out _ _ (HR.out.below hbm) (FMap.made w')).mono ?_
  rintro e w2 ⟨v', rfl, ho, hg, _⟩
  have HO := Lib.hid (Own.base ho hbm.size)
  have HB := Lib.hid (Below.viaMap hbm hg (Nat.le_refl _))
  clear ho hg hbm
  go_wp2_with fail
  exact bodyPost_ret (v := .tuple #[v', .int .i64 0]) (by simp [results, Try.results21, go_sem]) rfl ⟨_, rfl, HO.out, HB.out⟩
set_option maxRecDepth 100000 in
set_option maxHeartbeats 8000000 in
theorem ptransform_inv (k : Nat) (hk : k ≤ 6) (v : Value) (l : List (Nat × Nat)) (w : World) (hr : Row w v l) (hl : l.length = 2 ^ k) :
    Calls Try.prog 21 #[v, .bool true] w fun e w' => ∃ v', e = .returned (.tuple #[v', .int .i64 0]) ∧ Own 26 w.heap.size w' v' (inv k l) ∧ Below w.heap.size w w' := by
  have HF := Lib.hid (fun v l r w hr hl hm => transform_at k hk v l r w hr hl hm)
  have hk1 := Nat.one_le_two_pow (n := k)
  obtain ⟨n, hn⟩ : ∃ n, n = l.length := ⟨_, rfl⟩
  have hpts : (n : Int) ∈ pts := by rw [hn, hl]; exact pow_pts (by omega)
  obtain ⟨g, off, cap, rfl, hcap, hrd⟩ := hr.rd (by intro e; rw [e] at hl; simp only [List.length_nil] at hl; omega)
  have hn64 : n ≤ 64 := by have := R.pts_nat hpts; omega
  have tp : decide ((n : Int) ∈ pts) = true := decide_eq_true hpts
  have HI : Hid (inv k l = upto (fun j => divc (nOf n) (conjc (el (fft k (conjL l n)) j))) n) := by show _ = _; rw [hn, hl]; rfl
  have HK : Hid (n = 2 ^ k) := hn.trans hl
  rw [← hn] at hcap ⊢
  have HN := Lib.hid hn
  have HRD0 := Lib.hid hrd
  have HP := Lib.hid hpts
  have H64 := Lib.hid hn64
  have cv := conv_n hpts
  have CV := Lib.hid cv
  have hmk := mk_map 88 w
  clear hr hn hl hrd hk1 hpts hn64 hcap hk cv
  go_enter Try.func21, Try.ntmps21
  go_wp2_with fail
  refine (points_at _ _).mono ?_
  rintro e w' ⟨rfl, rfl⟩
  rw [tp]
  clear tp
  go_upto_region 6 with fail
  clear hmk
  have HBM : Hid (Below w'.heap.size w' (w'.alloc (.map #[] 0))) := (Below.refl _ _).alloc (Nat.le_refl _) _
  have HFM := Lib.hid (FMap.made w')
  obtain ⟨r, hrr⟩ : ∃ r, r = w'.heap.size := ⟨_, rfl⟩
  rw [← hrr] at HFM ⊢
  have HRR : Hid (w'.heap.size ≤ r) := Nat.le_of_eq hrr.symm
  clear hrr
  generalize w'.alloc (.map #[] 0) = W0 at *
  have HRD : Hid (Rd W0 g off l) := HRD0.out.step HBM.out HRD0.out.1
  clear HRD0
  go_wp2_with fail
  go_loopw [7, 28] (fun s7 s28 wr => ∃ j : Nat, ∃ c1 : Value, j ≤ n ∧ s28 = .int .i64 j ∧ s7 = c1 ∧ TN 26 W0 c1 (conjL l j) (.slice none 0 0) [] [] wr) (fun _ s28 _ => n - (intOf s28).toNat)
  case atStart => exact ⟨0, _, Nat.zero_le _, rfl, rfl, TN.start W0 26⟩
  case round =>
    obtain ⟨j, c1, hj, rfl, rfl, ht⟩ := hrel
    have HT1 := Lib.hid ht
    obtain ⟨pu, cu, rfl⟩ := ht.o1.slice
    clear ht
    by_cases hlt : j < n
    · have tl : decide ((j : Int) < (n : Int)) = true := decide_eq_true (by omega)
      have tl' : decide (j < n) = true := decide_eq_true hlt
      have hx0 := el_get (l := l) (j := j) (by rw [← HN.out]; exact hlt)
      obtain ⟨c0, c1'⟩ := (HT1.out.rd HRD.out).2 _ _ hx0
      have h64 := H64.out
      have ek1 : wrap64 ((j : Int) + 1) = ((j + 1 : Nat) : Int) := by unfold wrap64; omega
      have bi : (j : Int) < (n : Int) := by omega
      have HC : Hid (conjL l (j + 1) = conjL l j ++ [conjc (el l j)]) := upto_succ _ _
      generalize el l j = a at *
      obtain ⟨a0, a1⟩ := a
      have L1 : Hid ((conjL l j).length = j) := upto_length _ _
      have HLT := Lib.hid hlt
      have HLE : Hid (j ≤ 2000) := by show j ≤ 2000; omega
      rw [L1.out] at HT1 ⊢
      clear hj hlt hx0 h64
      go_upto_region 10 with fail
      have HT2 := Lib.hid (HT1.out.alloc a0 a1)
      generalize wr.alloc (Obj.cells #[.int .u32 a0, .int .u32 a1] 26) = W2 at *
      generalize wr.heap.size = X at *
      clear c0 c1'
      obtain ⟨x0, x1⟩ := HT2.out.ptX
      go_wp2_with fail
      refine (conjc_at a0 a1 _).mono ?_
      rintro e W3 ⟨pa, pb, rfl, hpq, hb⟩
      have HT3 := Lib.hid (HT2.out.step hb)
      have HPQ := Lib.hid hpq
      clear hb hpq x0 x1
      go_wp2_with (at_builtin; refine wpList_TN1 nt26 (HT3.out.alloc pa pb) List.mem_cons_self rfl _ _ rfl rfl rfl L1.out HLE.out ?_; intro p8 k8 W8 h8; have HT8 := Lib.hid (h8.forget (fr' := []) (fun y hy => by cases hy)); clear h8)
      try rw [ek1]
      go_roundw
      case rel => exact ⟨j + 1, _, HLT.out, rfl, rfl, by rw [HC.out, ← HPQ.out]; exact HT8.out⟩
      case measure =>
        have := HLT.out
        show n - ((j + 1 : Nat) : Int).toNat < n - (j : Int).toNat
        omega
    · have hjn : n = j := by omega
      have tl : decide ((j : Int) < (n : Int)) = false := decide_eq_false (by omega)
      have tl' : decide (j < n) = false := decide_eq_false hlt
      subst hjn
      have L1 : Hid ((conjL l n).length = n) := upto_length _ _
      rw [L1.out] at HT1 ⊢
      clear hlt hj
      have cv := CV.out
      go_wp2_with fail
      clear cv
      have hlc : (conjL l n).length = 2 ^ k := by rw [← HK.out]; exact upto_length _ _
      have hfm := HFM.out.step HT1.out.below
      refine (HF.out _ _ r _ HT1.out.o1.row hlc hfm).mono ?_
      rintro e W1 ⟨ve, rfl, ho1, hg1, _⟩
      have hb0 : Below w'.heap.size w' wr := HBM.out.trans (HT1.out.below.mono HBM.out.size)
      have HB : Hid (Below w'.heap.size w' W1) := Below.viaMap hb0 hg1 HRR.out
      have k1 := fft_length k (conjL l n)
      obtain ⟨E, hE⟩ : ∃ E, E = fft k (conjL l n) := ⟨_, rfl⟩
      rw [← hE] at ho1 k1
      have HI' := HI.out
      rw [← hE] at HI'
      rw [← HK.out] at k1
      have h64 := H64.out
      have hn0 : 1 ≤ n := by have := R.pts_nat HP.out; omega
      have q1 := Own.rd ho1 (by intro e; rw [e] at k1; simp only [List.length_nil] at k1; omega)
      rw [k1] at q1
      obtain ⟨ge, ce, rfl, l1, _, r1⟩ := q1
      have R1 := Lib.hid r1
      have K1 := Lib.hid k1
      have HII := Lib.hid HI'
      clear ho1 hg1 HI HT1 hE k1 r1 HI' l1 h64 hn0 hlc hfm hb0
      generalize nOf n = nb at *
      obtain ⟨f1, hf1⟩ : ∃ f : Nat → Nat × Nat, f = fun j => divc nb (conjc (el E j)) := ⟨_, rfl⟩
      have HIJ : Hid (inv k l = upto f1 n) := by show _ = _; rw [HII.out, hf1]
      have F1 := Lib.hid hf1
      clear hf1 HII
      go_wp2_with fail
      go_loopw [8, 45] (fun s8 s45 wr => ∃ j : Nat, ∃ c1 : Value, j ≤ n ∧ s45 = .int .i64 j ∧ s8 = c1 ∧ TN 26 W1 c1 (upto f1 j) (.slice none 0 0) [] [] wr) (fun _ s45 _ => n - (intOf s45).toNat)
      case atStart => exact ⟨0, _, Nat.zero_le _, rfl, rfl, TN.start W1 26⟩
      case round =>
        obtain ⟨m, c1, hm, rfl, rfl, ht⟩ := hrel
        have HT1 := Lib.hid ht
        obtain ⟨pu', cu', rfl⟩ := ht.o1.slice
        clear ht
        have L1 := Lib.hid (upto_length f1 m)
        rw [L1.out] at HT1 ⊢
        by_cases hlt : m < n
        · have tm : decide ((m : Int) < (n : Int)) = true := decide_eq_true (by omega)
          have tm' : decide (m < n) = true := decide_eq_true hlt
          have h64 := H64.out
          have ek1 : wrap64 ((m : Int) + 1) = ((m + 1 : Nat) : Int) := by unfold wrap64; omega
          have bi : (m : Int) < (n : Int) := by omega
          have hx0 := el_get (l := E) (j := m) (by rw [K1.out]; exact hlt)
          have hv1 : f1 m = divc nb (conjc (el E m)) := by rw [F1.out]
          generalize el E m = a at *
          obtain ⟨a0, a1⟩ := a
          obtain ⟨c0, c1'⟩ := (HT1.out.rd R1.out).get0 hx0
          have HMM := Lib.hid hlt
          have HLE : Hid (m ≤ 2000) := by show m ≤ 2000; omega
          have V1 := Lib.hid hv1
          clear hx0 hv1 h64 hlt hm
          go_upto_region 16 with fail
          have HT2 := Lib.hid (HT1.out.alloc a0 a1)
          generalize wr.alloc (Obj.cells #[.int .u32 a0, .int .u32 a1] 26) = W2 at *
          generalize wr.heap.size = X at *
          clear c0 c1'
          obtain ⟨x0, x1⟩ := HT2.out.ptX
          go_wp2_with fail
          refine (conjc_at a0 a1 _).mono ?_
          rintro e W3 ⟨p0, p1, rfl, hpq, hb⟩
          have HT3 := Lib.hid (HT2.out.step hb)
          have HPQ := Lib.hid hpq
          clear hb hpq x0 x1
          go_wp2_with fail
          refine (parts_at p0 p1 _).mono ?_
          rintro e W4 ⟨rfl, hb⟩
          have HT4 := Lib.hid (HT3.out.step hb)
          clear hb
          go_upto_region 17 with fail
          obtain ⟨d0, hd0⟩ : ∃ d, cb (fop .quo (canon p0) (canon nb)) = d := ⟨_, rfl⟩
          obtain ⟨d1, hd1⟩ : ∃ d, cb (fop .quo (canon p1) (canon nb)) = d := ⟨_, rfl⟩
          have HV : Hid (f1 m = (d0, d1)) := by show _ = _; rw [V1.out, ← HPQ.out, ← hd0, ← hd1]; rfl
          have D0 := Lib.hid hd0
          have D1 := Lib.hid hd1
          clear hd0 hd1
          have C0 := Lib.hid (canon_cc p0)
          have C1 := Lib.hid (canon_cc p1)
          generalize cc p0 = z0 at *
          generalize cc p1 = z1 at *
          rcases fop_split (op := .quo) (.inr (.inr (.inr rfl))) 31 z0 nb with ⟨ra, hqa, qa⟩ | ⟨ra, hqa, qa⟩ <;>
          rcases fop_split (op := .quo) (.inr (.inr (.inr rfl))) 31 z1 nb with ⟨rb, hqb, qb⟩ | ⟨rb, hqb, qb⟩
          all_goals
            have HQA := Lib.hid hqa
            have HQB := Lib.hid hqb
            clear hqa hqb
            go_wp2_with fail
            refine (of_at _ _ _).mono ?_
            rintro e W5 ⟨rfl, hb⟩
            first
              | have HT5 := Lib.hid (HT4.out.step hb)
              | have HT5 := Lib.hid (HT4.out.drew.step hb)
              | have HT5 := Lib.hid (HT4.out.drew.drew.step hb)
            rw [HQA.out, HQB.out, C0.out, C1.out, D0.out, D1.out]
            clear hb qa qb
            go_wp2_with (at_builtin; refine wpList_TN1 nt26 (HT5.out.alloc d0 d1) List.mem_cons_self rfl _ _ rfl rfl rfl L1.out HLE.out ?_; intro p8 k8 W8 h8; have HT8 := Lib.hid (h8.forget (fr' := []) (fun y hy => by cases hy)); clear h8)
            try rw [ek1]
            go_roundw
            case rel => exact ⟨m + 1, _, HMM.out, rfl, rfl, by rw [upto_succ, HV.out]; exact HT8.out⟩
            case measure =>
              have := HMM.out
              show n - ((m + 1 : Nat) : Int).toNat < n - (m : Int).toNat
              omega
        · have hmM : n = m := by omega
          have tm : decide ((m : Int) < (n : Int)) = false := decide_eq_false (by omega)
          have tm' : decide (m < n) = false := decide_eq_false hlt
          subst hmM
          clear hlt hm
          go_wp2_with fail
          refine bodyPost_ret (v := .tuple #[.slice pu' n cu', .int .i64 0]) (by simp [results, Try.results21, go_sem]) rfl ⟨_, rfl, ?_, HB.out.trans (HT1.out.below.mono HB.out.size)⟩
          rw [HIJ.out]
          exact Own.base HT1.out.o1 HB.out.size
end Go.Proofs.Ytlbgpfddmkpakaa.Nu
