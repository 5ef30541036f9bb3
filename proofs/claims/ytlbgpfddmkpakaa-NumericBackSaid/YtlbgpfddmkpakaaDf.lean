/- Numeric: the reference's Transform. -/
import Derived.Test.YtlbgpfddmkpakaaDe
namespace Go.Proofs.Ytlbgpfddmkpakaa.Nu
open Go.RowKit
set_option linter.unusedVariables false
set_option linter.unusedSimpArgs false

set_option maxRecDepth 100000 in
set_option maxHeartbeats 1000000 in
theorem rtransform_no (p : Option Addr) (n cap : Nat) (b : Bool) (w : World) (hn : (n : Int) ∉ pts) : Calls Try.prog 23 #[.slice p n cap, .bool b] w fun e w' => e = .returned (.tuple #[.slice none 0 0, .int .i64 4]) ∧ w' = w := by
  have tp : decide ((n : Int) ∈ pts) = false := decide_eq_false hn
  clear hn
  go_enter Try.func23, Try.ntmps23
  go_wp2_with fail
  refine (rpoints_at _ _).mono ?_
  rintro e w' ⟨rfl, rfl⟩
  rw [tp]
  clear tp
  go_wp2_with fail
  exact bodyPost_ret (v := .tuple #[.slice none 0 0, .int .i64 4]) (by simp [results, Try.results23, go_sem]) rfl ⟨rfl, rfl⟩
set_option maxRecDepth 100000 in
set_option maxHeartbeats 1000000 in
theorem rtransform_fwd (k : Nat) (hk : k ≤ 6) (v : Value) (l : List (Nat × Nat)) (w : World) (hr : Row w v l) (hl : l.length = 2 ^ k) :
    Calls Try.prog 23 #[v, .bool false] w fun e w' => ∃ v', e = .returned (.tuple #[v', .int .i64 0]) ∧ Own 57 w.heap.size w' v' (fft k l) ∧ Below w.heap.size w w' := by
  have HF := Lib.hid (fun w hr => forward_at k hk v l w hr hl)
  have HR := Lib.hid hr
  obtain ⟨p, cap, rfl, _⟩ := hr
  have tp : decide ((l.length : Int) ∈ pts) = true := decide_eq_true (by rw [hl]; exact pow_pts hk)
  generalize l.length = n at *
  clear hl
  go_enter Try.func23, Try.ntmps23
  go_wp2_with fail
  refine (rpoints_at _ _).mono ?_
  rintro e w' ⟨rfl, rfl⟩
  rw [tp]
  clear tp
  go_wp2_with fail
  refine (HF.out _ HR.out).mono ?_
  rintro e w2 ⟨v', rfl, ho, hb⟩
  have HO := Lib.hid ho
  have HB := Lib.hid hb
  clear ho hb
  go_wp2_with fail
  exact bodyPost_ret (v := .tuple #[v', .int .i64 0]) (by simp [results, Try.results23, go_sem]) rfl ⟨_, rfl, HO.out, HB.out⟩
set_option maxRecDepth 100000 in
set_option maxHeartbeats 20000000 in
theorem rtransform_inv (k : Nat) (hk : k ≤ 6) (v : Value) (l : List (Nat × Nat)) (w : World) (hr : Row w v l) (hl : l.length = 2 ^ k) :
    Calls Try.prog 23 #[v, .bool true] w fun e w' => ∃ v', e = .returned (.tuple #[v', .int .i64 0]) ∧ Own 57 w.heap.size w' v' (inv k l) ∧ Below w.heap.size w w' := by
  have HF := Lib.hid (fun v l w hr hl => forward_at k hk v l w hr hl)
  have hk1 := Nat.one_le_two_pow (n := k)
  obtain ⟨n, hn⟩ : ∃ n, n = l.length := ⟨_, rfl⟩
  have hpts : (n : Int) ∈ pts := by rw [hn, hl]; exact pow_pts (by omega)
  obtain ⟨g, off, cap, rfl, hcap, hrd⟩ := hr.rd (by intro e; rw [e] at hl; simp only [List.length_nil] at hl; omega)
  have hn64 : n ≤ 64 := by have := R.pts_nat hpts; omega
  have tp : decide ((n : Int) ∈ pts) = true := decide_eq_true hpts
  have HI : Hid (inv k l = upto (fun j => divc (nOf n) (conjc (el (fft k (conjL l n)) j))) n) := by show _ = _; rw [hn, hl]; rfl
  have HK : Hid (n = 2 ^ k) := hn.trans hl
  rw [← hn] at hcap ⊢
  have HN := Lib.hid hn
  have HRD := Lib.hid hrd
  have HP := Lib.hid hpts
  have H64 := Lib.hid hn64
  have cv := conv_n hpts
  have CV := Lib.hid cv
  clear hr hn hl hrd hk1 hpts hn64 hcap hk cv
  go_enter Try.func23, Try.ntmps23
  go_wp2_with fail
  refine (rpoints_at _ _).mono ?_
  rintro e w' ⟨rfl, rfl⟩
  rw [tp]
  clear tp
  go_upto_region 6 with fail
  have HT := Lib.hid (TN.empty1 w' 57)
  generalize w'.alloc (Obj.cells #[] 57) = W0 at *
  have HE : Hid (∃ g1 c1, Value.slice (some ⟨w'.heap.size, 0, none⟩) 0 0 = .slice (some ⟨g1, 0, none⟩) 0 c1) := ⟨_, _, rfl⟩
  generalize Value.slice (some ⟨w'.heap.size, 0, none⟩) 0 0 = u0 at *
  go_wp2_with fail
  go_loopw [6, 7] (fun s6 s7 wr => ∃ j g1 c1 : Nat, j ≤ n ∧ s7 = .int .i64 j ∧ s6 = .slice (some ⟨g1, 0, none⟩) j c1 ∧ TN 57 w' s6 (conjL l j) (.slice none 0 0) [] [] wr) (fun _ s7 _ => n - (intOf s7).toNat)
  case atStart =>
    obtain ⟨g1, c1, rfl⟩ := HE.out
    exact ⟨0, g1, c1, Nat.zero_le _, rfl, rfl, HT.out⟩
  case round =>
    obtain ⟨j, g1, c1, hj, rfl, rfl, ht⟩ := hrel
    have HT1 := Lib.hid ht
    clear ht HT HE
    by_cases hlt : j < n
    · have tl : decide ((j : Int) < (n : Int)) = true := decide_eq_true (by omega)
      have tl' : decide (j < n) = true := decide_eq_true hlt
      have hx0 := el_get (l := l) (j := j) (by rw [← HN.out]; exact hlt)
      obtain ⟨c0, c1'⟩ := (HT1.out.rd HRD.out).2 _ _ hx0
      have h64 := H64.out
      have ek1 : wrap64 ((j : Int) + 1) = ((j + 1 : Nat) : Int) := by unfold wrap64; omega
      have bi : (j : Int) < (n : Int) := by omega
      have HC : Hid (conjL l (j + 1) = conjL l j ++ [conjc (el l j)]) := upto_succ _ _
      generalize el l j = a at *
      obtain ⟨a0, a1⟩ := a
      have L1 : Hid ((conjL l j).length = j) := upto_length _ _
      have HLT := Lib.hid hlt
      have HLE : Hid (j ≤ 2000) := by show j ≤ 2000; omega
      clear hj hlt hx0 h64
      go_wp2_with fail
      refine (rconjc_at a0 a1 _).mono ?_
      rintro e W1 ⟨pa, pb, rfl, hpq, hb⟩
      have HT2 := Lib.hid (HT1.out.step hb)
      have HPQ := Lib.hid hpq
      clear hb hpq c0 c1'
      go_wp2_with (at_builtin; refine wpList_TN1 nt57 (HT2.out.alloc pa pb) List.mem_cons_self rfl _ _ rfl rfl rfl L1.out HLE.out ?_; intro p8 k8 W8 h8; have HT8 := Lib.hid (h8.forget (fr' := []) (fun y hy => by cases hy)); clear h8)
      try rw [ek1]
      go_roundw
      case rel => exact ⟨j + 1, p8, k8, HLT.out, rfl, rfl, by rw [HC.out, ← HPQ.out]; exact HT8.out⟩
      case measure =>
        have := HLT.out
        show n - ((j + 1 : Nat) : Int).toNat < n - (j : Int).toNat
        omega
    · have hjn : n = j := by omega
      have tl : decide ((j : Int) < (n : Int)) = false := decide_eq_false (by omega)
      have tl' : decide (j < n) = false := decide_eq_false hlt
      subst hjn
      clear hlt hj
      go_wp2_with fail
      have hlc : (conjL l n).length = 2 ^ k := by rw [← HK.out]; exact upto_length _ _
      refine (HF.out _ _ _ HT1.out.o1.row hlc).mono ?_
      rintro e W1 ⟨ve, rfl, ho1, hb1⟩
      have HB : Hid (Below w'.heap.size w' W1) := HT1.out.below.trans (hb1.mono HT1.out.below.size)
      have k1 := fft_length k (conjL l n)
      obtain ⟨E, hE⟩ : ∃ E, E = fft k (conjL l n) := ⟨_, rfl⟩
      rw [← hE] at ho1 k1
      have HI' := HI.out
      rw [← hE] at HI'
      rw [← HK.out] at k1
      have h64 := H64.out
      have hn0 : 1 ≤ n := by have := R.pts_nat HP.out; omega
      have q1 := Own.rd ho1 (by intro e; rw [e] at k1; simp only [List.length_nil] at k1; omega)
      rw [k1] at q1
      obtain ⟨ge, ce, rfl, l1, _, r1⟩ := q1
      have R1 := Lib.hid r1
      have K1 := Lib.hid k1
      have HII := Lib.hid HI'
      clear ho1 hb1 HI HT1 hE k1 r1 HI' l1 h64 hn0 hlc
      have cv := CV.out
      go_upto_region 13 with fail
      clear cv
      have HT := Lib.hid (TN.empty1 W1 57)
      generalize W1.alloc (Obj.cells #[] 57) = W4 at *
      have HE : Hid (∃ g1 c1, Value.slice (some ⟨W1.heap.size, 0, none⟩) 0 0 = .slice (some ⟨g1, 0, none⟩) 0 c1) := ⟨_, _, rfl⟩
      generalize Value.slice (some ⟨W1.heap.size, 0, none⟩) 0 0 = u0' at *
      generalize nOf n = nb at *
      obtain ⟨f1, hf1⟩ : ∃ f : Nat → Nat × Nat, f = fun j => divc nb (conjc (el E j)) := ⟨_, rfl⟩
      have HIJ : Hid (inv k l = upto f1 n) := by show _ = _; rw [HII.out, hf1]
      have F1 := Lib.hid hf1
      clear hf1 HII
      go_wp2_with fail
      go_loopw [9, 10] (fun s9 s10 wr => ∃ j g1 c1 : Nat, j ≤ n ∧ s10 = .int .i64 j ∧ s9 = .slice (some ⟨g1, 0, none⟩) j c1 ∧ TN 57 W1 s9 (upto f1 j) (.slice none 0 0) [] [] wr) (fun _ s10 _ => n - (intOf s10).toNat)
      case atStart =>
        obtain ⟨g1, c1, rfl⟩ := HE.out
        exact ⟨0, g1, c1, Nat.zero_le _, rfl, rfl, HT.out⟩
      case round =>
        obtain ⟨m, h1, d1', hm, rfl, rfl, ht⟩ := hrel
        have HT1 := Lib.hid ht
        clear ht HT HE
        by_cases hlt : m < n
        · have tm : decide ((m : Int) < (n : Int)) = true := decide_eq_true (by omega)
          have tm' : decide (m < n) = true := decide_eq_true hlt
          have h64 := H64.out
          have ek1 : wrap64 ((m : Int) + 1) = ((m + 1 : Nat) : Int) := by unfold wrap64; omega
          have bi : (m : Int) < (n : Int) := by omega
          have hx0 := el_get (l := E) (j := m) (by rw [K1.out]; exact hlt)
          have hv1 : f1 m = divc nb (conjc (el E m)) := by rw [F1.out]
          generalize el E m = a at *
          obtain ⟨a0, a1⟩ := a
          obtain ⟨c0, c1'⟩ := (HT1.out.rd R1.out).get0 hx0
          have L1 := Lib.hid (upto_length f1 m)
          have HMM := Lib.hid hlt
          have HLE : Hid (m ≤ 2000) := by show m ≤ 2000; omega
          have V1 := Lib.hid hv1
          clear hx0 hv1 h64 hlt hm
          go_wp2_with fail
          refine (rconjc_at a0 a1 _).mono ?_
          rintro e W2 ⟨p0, p1, rfl, hpq, hb⟩
          have HT2 := Lib.hid (HT1.out.step hb)
          have HPQ := Lib.hid hpq
          clear hb hpq c0 c1'
          go_upto_region 17 with fail
          have HT7 := Lib.hid (HT2.out.alloc p0 p1)
          generalize W2.alloc (Obj.cells #[.int .u32 p0, .int .u32 p1] 57) = W7 at *
          generalize W2.heap.size = X at *
          clear HT2
          obtain ⟨d0, hd0⟩ : ∃ d, cb (fop .quo (canon p0) (canon nb)) = d := ⟨_, rfl⟩
          obtain ⟨d1, hd1⟩ : ∃ d, cb (fop .quo (canon p1) (canon nb)) = d := ⟨_, rfl⟩
          have HV : Hid (f1 m = (d0, d1)) := by show _ = _; rw [V1.out, ← HPQ.out, ← hd0, ← hd1]; rfl
          have D0 := Lib.hid hd0
          have D1 := Lib.hid hd1
          clear hd0 hd1
          rcases fop_split (op := .quo) (.inr (.inr (.inr rfl))) 31 p0 nb with ⟨ra, hqa, qa⟩ | ⟨ra, hqa, qa⟩
          all_goals have HQA := Lib.hid hqa; clear hqa
          · rcases fop_split (op := .quo) (.inr (.inr (.inr rfl))) 31 p1 nb with ⟨rb, hqb, qb⟩ | ⟨rb, hqb, qb⟩
            all_goals have HQB := Lib.hid hqb; clear hqb
            · skip
              refine wp_region_held_drew (S := fun W => W.cell? ⟨X, 0, none⟩ = some (.int .u32 p0) ∧ W.cell? ⟨X, 1, none⟩ = some (.int .u32 p1)) (by kernel_rfl) ?_ (fun hHeld => ?_)
              · exact HT7.out.drew.ptX
              have HTc := Lib.hid HT7.out.drew
              (refine wpAnyH_take (i := 0) (v := ?_) rfl (by kernel_rfl) (by kernel_rfl) (by kernel_rfl) (fun _ _ _ h => h) (Or.inl ⟨by rfl, ?_⟩) (by assumption) ?_; rotate_left; · (intro w hSw; (try dsimp only at hSw); go_simp; first | done | with_reducible rfl); try simp only [Act.put, List.setIfInBounds_toArray, List.set_cons_zero, List.set_cons_succ, List.getElem_toArray, List.getElem_cons_succ, List.getElem_cons_zero])
              (refine wpAnyH_take (i := 1) (v := ?_) rfl (by kernel_rfl) (by kernel_rfl) (by kernel_rfl) (fun _ _ _ h => h) (Or.inl ⟨by rfl, ?_⟩) (by assumption) ?_; rotate_left; · (intro w hSw; (try dsimp only at hSw); go_simp; first | done | with_reducible rfl); try simp only [Act.put, List.setIfInBounds_toArray, List.set_cons_zero, List.set_cons_succ, List.getElem_toArray, List.getElem_cons_succ, List.getElem_cons_zero])
              (refine wpAnyH_take (i := 2) (v := ?_) rfl (by kernel_rfl) (by kernel_rfl) (by kernel_rfl) (fun _ _ _ h => h) (Or.inl ⟨by rfl, ?_⟩) (by assumption) ?_; rotate_left; · (intro w hSw; (try dsimp only at hSw); go_simp; first | done | with_reducible rfl); try simp only [Act.put, List.setIfInBounds_toArray, List.set_cons_zero, List.set_cons_succ, List.getElem_toArray, List.getElem_cons_succ, List.getElem_cons_zero])
              (refine wpAnyH_take (i := 4) (v := ?_) rfl (by kernel_rfl) (by kernel_rfl) (by kernel_rfl) (fun _ _ _ h => h) (Or.inl ⟨by rfl, ?_⟩) (by assumption) ?_; rotate_left; · (intro w hSw; (try dsimp only at hSw); go_simp; first | done | with_reducible rfl); try simp only [Act.put, List.setIfInBounds_toArray, List.set_cons_zero, List.set_cons_succ, List.getElem_toArray, List.getElem_cons_succ, List.getElem_cons_zero])
              (refine wpAnyH_take (i := 6) (v := ?_) rfl (by kernel_rfl) (by kernel_rfl) (by kernel_rfl) (fun _ _ _ h => h) (Or.inl ⟨by rfl, ?_⟩) (by assumption) ?_; rotate_left; · (intro w hSw; (try dsimp only at hSw); go_simp; first | done | with_reducible rfl); try simp only [Act.put, List.setIfInBounds_toArray, List.set_cons_zero, List.set_cons_succ, List.getElem_toArray, List.getElem_cons_succ, List.getElem_cons_zero])
              (refine wpAnyH_take (i := 7) (v := ?_) rfl (by kernel_rfl) (by kernel_rfl) (by kernel_rfl) (fun _ _ _ h => h) (Or.inl ⟨by rfl, ?_⟩) (by assumption) ?_; rotate_left; · (intro w hSw; (try dsimp only at hSw); go_simp; first | done | with_reducible rfl); try simp only [Act.put, List.setIfInBounds_toArray, List.set_cons_zero, List.set_cons_succ, List.getElem_toArray, List.getElem_cons_succ, List.getElem_cons_zero])
              (refine wpAnyH_take (i := 9) (v := ?_) rfl (by kernel_rfl) (by kernel_rfl) (by kernel_rfl) (fun _ _ _ h => h) (Or.inl ⟨by rfl, ?_⟩) (by assumption) ?_; rotate_left; · (intro w hSw; (try dsimp only at hSw); go_simp; first | done | with_reducible rfl); try simp only [Act.put, List.setIfInBounds_toArray, List.set_cons_zero, List.set_cons_succ, List.getElem_toArray, List.getElem_cons_succ, List.getElem_cons_zero])
              refine wpAnyH_ready (rs := [3]) (by kernel_rfl) (by simp) ?_
              refine AllReadyH.cons rfl (fun K hK => ?_) AllReadyH.nil
              · go_simp
                refine (rf_at p0 _).mono ?_
                rintro e Wn ⟨rfl, hb⟩
                have HTn := Lib.hid (HTc.out.step hb)
                clear hb HTc; have HTc := HTn; clear HTn
                go_wp2_with fail
                refine hK.out _ _ ?_ (fun hHeld => ?_)
                · exact HTc.out.ptX
                clear hK K
                try simp only [Act.put, List.setIfInBounds_toArray, List.set_cons_zero, List.set_cons_succ, List.getElem_toArray, List.getElem_cons_succ, List.getElem_cons_zero]
                (refine wpAnyH_take (i := 5) (v := ?_) rfl (by kernel_rfl) (by kernel_rfl) (by kernel_rfl) (fun _ _ _ h => h) (Or.inl ⟨by rfl, ?_⟩) (by assumption) ?_; rotate_left; · (intro w hSw; (try dsimp only at hSw); go_simp; first | done | with_reducible rfl); try simp only [Act.put, List.setIfInBounds_toArray, List.set_cons_zero, List.set_cons_succ, List.getElem_toArray, List.getElem_cons_succ, List.getElem_cons_zero])
                refine wpAnyH_ready (rs := [8]) (by kernel_rfl) (by simp) ?_
                refine AllReadyH.cons rfl (fun K hK => ?_) AllReadyH.nil
                · go_simp
                  refine (rf_at p1 _).mono ?_
                  rintro e Wn ⟨rfl, hb⟩
                  have HTn := Lib.hid (HTc.out.step hb)
                  clear hb HTc; have HTc := HTn; clear HTn
                  go_wp2_with fail
                  refine hK.out _ _ ?_ (fun hHeld => ?_)
                  · exact HTc.out.ptX
                  clear hK K
                  try simp only [Act.put, List.setIfInBounds_toArray, List.set_cons_zero, List.set_cons_succ, List.getElem_toArray, List.getElem_cons_succ, List.getElem_cons_zero]
                  (refine wpAnyH_take (i := 10) (v := ?_) rfl (by kernel_rfl) (by kernel_rfl) (by kernel_rfl) (fun _ _ _ h => h) (Or.inl ⟨by rfl, ?_⟩) (by assumption) ?_; rotate_left; · (intro w hSw; (try dsimp only at hSw); go_simp; first | done | with_reducible rfl); try simp only [Act.put, List.setIfInBounds_toArray, List.set_cons_zero, List.set_cons_succ, List.getElem_toArray, List.getElem_cons_succ, List.getElem_cons_zero])
                  refine wpAnyH_ready (rs := [11]) (by kernel_rfl) (by simp) ?_
                  refine AllReadyH.cons rfl (fun K hK => ?_) AllReadyH.nil
                  go_simp
                  refine (rof_at _ _ _).mono ?_
                  rintro e Wn ⟨rfl, hb⟩
                  rw [HQA.out, HQB.out, D0.out, D1.out]
                  have HTn := Lib.hid (HTc.out.step hb)
                  clear hb HTc; have HTc := HTn; clear HTn
                  go_wp2_with fail
                  refine hK.out _ _ ?_ (fun hHeld => ?_)
                  · exact HTc.out.ptX
                  clear hK K
                  try simp only [Act.put, List.setIfInBounds_toArray, List.set_cons_zero, List.set_cons_succ, List.getElem_toArray, List.getElem_cons_succ, List.getElem_cons_zero]
                  refine wpAnyH_ready (rs := [12]) (by kernel_rfl) (by simp) ?_
                  refine AllReadyH.cons rfl (fun K hK => ?_) AllReadyH.nil
                  go_simp
                  have HTa := Lib.hid (HTc.out.alloc d0 d1)
                  refine hK.out _ _ ?_ (fun hHeld => ?_)
                  · exact HTa.out.pt (List.mem_cons_of_mem _ (List.mem_singleton.2 rfl))
                  clear hK K HTc
                  try simp only [Act.put, List.setIfInBounds_toArray, List.set_cons_zero, List.set_cons_succ, List.getElem_toArray, List.getElem_cons_succ, List.getElem_cons_zero]
                  refine wpAnyH_ready (rs := [13]) (by kernel_rfl) (by simp) ?_
                  refine AllReadyH.cons rfl (fun K hK => ?_) AllReadyH.nil
                  refine step_TN1 nt57 HTa.out List.mem_cons_self rfl (.tmp 52) (.tmp 64) rfl rfl rfl L1.out HLE.out ?_
                  intro p9 k9 W9 h9
                  have HT9 := Lib.hid (h9.forget (fr' := [(X, p0, p1)]) (fun y hy => List.mem_cons_of_mem _ hy)); clear h9 HTa
                  refine hK.out _ _ ?_ (fun hHeld => ?_)
                  · exact HT9.out.ptX
                  clear hK K
                  try simp only [Act.put, List.setIfInBounds_toArray, List.set_cons_zero, List.set_cons_succ, List.getElem_toArray, List.getElem_cons_succ, List.getElem_cons_zero]
                  (refine wpAnyH_take (i := 14) (v := ?_) rfl (by kernel_rfl) (by kernel_rfl) (by kernel_rfl) (fun _ _ _ h => h) (Or.inl ⟨by rfl, ?_⟩) (by assumption) ?_; rotate_left; · (intro w hSw; (try dsimp only at hSw); go_simp; first | done | with_reducible rfl); try simp only [Act.put, List.setIfInBounds_toArray, List.set_cons_zero, List.set_cons_succ, List.getElem_toArray, List.getElem_cons_succ, List.getElem_cons_zero])
                  refine wpAnyH_done (by kernel_rfl) ?_ _
                  clear qa qb
                  go_wp2_with fail
                  try rw [ek1]
                  go_roundw
                  case rel => exact ⟨m + 1, p9, k9, HMM.out, rfl, rfl, by rw [upto_succ, HV.out]; exact HT9.out.forget (fun y hy => by cases hy)⟩
                  case measure =>
                    have := HMM.out
                    show n - ((m + 1 : Nat) : Int).toNat < n - (m : Int).toNat
                    omega
            · skip
              refine wp_region_held_drew (S := fun W => W.cell? ⟨X, 0, none⟩ = some (.int .u32 p0) ∧ W.cell? ⟨X, 1, none⟩ = some (.int .u32 p1)) (by kernel_rfl) ?_ (fun hHeld => ?_)
              · exact HT7.out.drew.ptX
              have HTc := Lib.hid HT7.out.drew
              (refine wpAnyH_take (i := 0) (v := ?_) rfl (by kernel_rfl) (by kernel_rfl) (by kernel_rfl) (fun _ _ _ h => h) (Or.inl ⟨by rfl, ?_⟩) (by assumption) ?_; rotate_left; · (intro w hSw; (try dsimp only at hSw); go_simp; first | done | with_reducible rfl); try simp only [Act.put, List.setIfInBounds_toArray, List.set_cons_zero, List.set_cons_succ, List.getElem_toArray, List.getElem_cons_succ, List.getElem_cons_zero])
              (refine wpAnyH_take (i := 1) (v := ?_) rfl (by kernel_rfl) (by kernel_rfl) (by kernel_rfl) (fun _ _ _ h => h) (Or.inl ⟨by rfl, ?_⟩) (by assumption) ?_; rotate_left; · (intro w hSw; (try dsimp only at hSw); go_simp; first | done | with_reducible rfl); try simp only [Act.put, List.setIfInBounds_toArray, List.set_cons_zero, List.set_cons_succ, List.getElem_toArray, List.getElem_cons_succ, List.getElem_cons_zero])
              (refine wpAnyH_take (i := 2) (v := ?_) rfl (by kernel_rfl) (by kernel_rfl) (by kernel_rfl) (fun _ _ _ h => h) (Or.inl ⟨by rfl, ?_⟩) (by assumption) ?_; rotate_left; · (intro w hSw; (try dsimp only at hSw); go_simp; first | done | with_reducible rfl); try simp only [Act.put, List.setIfInBounds_toArray, List.set_cons_zero, List.set_cons_succ, List.getElem_toArray, List.getElem_cons_succ, List.getElem_cons_zero])
              (refine wpAnyH_take (i := 4) (v := ?_) rfl (by kernel_rfl) (by kernel_rfl) (by kernel_rfl) (fun _ _ _ h => h) (Or.inl ⟨by rfl, ?_⟩) (by assumption) ?_; rotate_left; · (intro w hSw; (try dsimp only at hSw); go_simp; first | done | with_reducible rfl); try simp only [Act.put, List.setIfInBounds_toArray, List.set_cons_zero, List.set_cons_succ, List.getElem_toArray, List.getElem_cons_succ, List.getElem_cons_zero])
              (refine wpAnyH_take (i := 6) (v := ?_) rfl (by kernel_rfl) (by kernel_rfl) (by kernel_rfl) (fun _ _ _ h => h) (Or.inl ⟨by rfl, ?_⟩) (by assumption) ?_; rotate_left; · (intro w hSw; (try dsimp only at hSw); go_simp; first | done | with_reducible rfl); try simp only [Act.put, List.setIfInBounds_toArray, List.set_cons_zero, List.set_cons_succ, List.getElem_toArray, List.getElem_cons_succ, List.getElem_cons_zero])
              (refine wpAnyH_take (i := 7) (v := ?_) rfl (by kernel_rfl) (by kernel_rfl) (by kernel_rfl) (fun _ _ _ h => h) (Or.inl ⟨by rfl, ?_⟩) (by assumption) ?_; rotate_left; · (intro w hSw; (try dsimp only at hSw); go_simp; first | done | with_reducible rfl); try simp only [Act.put, List.setIfInBounds_toArray, List.set_cons_zero, List.set_cons_succ, List.getElem_toArray, List.getElem_cons_succ, List.getElem_cons_zero])
              (refine wpAnyH_take (i := 9) (v := ?_) rfl (by kernel_rfl) (by kernel_rfl) (by kernel_rfl) (fun _ _ _ h => h) (Or.inl ⟨by rfl, ?_⟩) (by assumption) ?_; rotate_left; · (intro w hSw; (try dsimp only at hSw); go_simp; first | done | with_reducible rfl); try simp only [Act.put, List.setIfInBounds_toArray, List.set_cons_zero, List.set_cons_succ, List.getElem_toArray, List.getElem_cons_succ, List.getElem_cons_zero])
              refine wpAnyH_ready (rs := [3]) (by kernel_rfl) (by simp) ?_
              refine AllReadyH.cons rfl (fun K hK => ?_) AllReadyH.nil
              · go_simp
                refine (rf_at p0 _).mono ?_
                rintro e Wn ⟨rfl, hb⟩
                have HTn := Lib.hid (HTc.out.step hb)
                clear hb HTc; have HTc := HTn; clear HTn
                go_wp2_with fail
                refine hK.out _ _ ?_ (fun hHeld => ?_)
                · exact HTc.out.ptX
                clear hK K
                try simp only [Act.put, List.setIfInBounds_toArray, List.set_cons_zero, List.set_cons_succ, List.getElem_toArray, List.getElem_cons_succ, List.getElem_cons_zero]
                (refine wpAnyH_take (i := 5) (v := ?_) rfl (by kernel_rfl) (by kernel_rfl) (by kernel_rfl) (fun _ _ _ h => h) (Or.inl ⟨by rfl, ?_⟩) (by assumption) ?_; rotate_left; · (intro w hSw; (try dsimp only at hSw); go_simp; first | done | with_reducible rfl); try simp only [Act.put, List.setIfInBounds_toArray, List.set_cons_zero, List.set_cons_succ, List.getElem_toArray, List.getElem_cons_succ, List.getElem_cons_zero])
                refine wpAnyH_ready (rs := [8]) (by kernel_rfl) (by simp) ?_
                refine AllReadyH.cons rfl (fun K hK => ?_) AllReadyH.nil
                · go_simp
                  refine (rf_at p1 _).mono ?_
                  rintro e Wn ⟨rfl, hb⟩
                  have HTn := Lib.hid (HTc.out.step hb)
                  clear hb HTc; have HTc := HTn; clear HTn
                  go_wp2_with fail
                  refine hK.out _ _ ?_ (fun hHeld => ?_)
                  · exact HTc.out.ptX
                  clear hK K
                  try simp only [Act.put, List.setIfInBounds_toArray, List.set_cons_zero, List.set_cons_succ, List.getElem_toArray, List.getElem_cons_succ, List.getElem_cons_zero]
                  refine wpAnyH_ready (rs := [10]) (by kernel_rfl) (by simp) ?_
                  refine AllReadyH.cons rfl (fun K hK => ?_) AllReadyH.nil
                  · go_simp
                    have HTn := Lib.hid HTc.out.drew
                    clear HTc; have HTc := HTn; clear HTn
                    refine hK.out _ _ ?_ (fun hHeld => ?_)
                    · exact HTc.out.ptX
                    clear hK K
                    try simp only [Act.put, List.setIfInBounds_toArray, List.set_cons_zero, List.set_cons_succ, List.getElem_toArray, List.getElem_cons_succ, List.getElem_cons_zero]
                    refine wpAnyH_ready (rs := [11]) (by kernel_rfl) (by simp) ?_
                    refine AllReadyH.cons rfl (fun K hK => ?_) AllReadyH.nil
                    go_simp
                    refine (rof_at _ _ _).mono ?_
                    rintro e Wn ⟨rfl, hb⟩
                    rw [HQA.out, HQB.out, D0.out, D1.out]
                    have HTn := Lib.hid (HTc.out.step hb)
                    clear hb HTc; have HTc := HTn; clear HTn
                    go_wp2_with fail
                    refine hK.out _ _ ?_ (fun hHeld => ?_)
                    · exact HTc.out.ptX
                    clear hK K
                    try simp only [Act.put, List.setIfInBounds_toArray, List.set_cons_zero, List.set_cons_succ, List.getElem_toArray, List.getElem_cons_succ, List.getElem_cons_zero]
                    refine wpAnyH_ready (rs := [12]) (by kernel_rfl) (by simp) ?_
                    refine AllReadyH.cons rfl (fun K hK => ?_) AllReadyH.nil
                    go_simp
                    have HTa := Lib.hid (HTc.out.alloc d0 d1)
                    refine hK.out _ _ ?_ (fun hHeld => ?_)
                    · exact HTa.out.pt (List.mem_cons_of_mem _ (List.mem_singleton.2 rfl))
                    clear hK K HTc
                    try simp only [Act.put, List.setIfInBounds_toArray, List.set_cons_zero, List.set_cons_succ, List.getElem_toArray, List.getElem_cons_succ, List.getElem_cons_zero]
                    refine wpAnyH_ready (rs := [13]) (by kernel_rfl) (by simp) ?_
                    refine AllReadyH.cons rfl (fun K hK => ?_) AllReadyH.nil
                    refine step_TN1 nt57 HTa.out List.mem_cons_self rfl (.tmp 52) (.tmp 64) rfl rfl rfl L1.out HLE.out ?_
                    intro p9 k9 W9 h9
                    have HT9 := Lib.hid (h9.forget (fr' := [(X, p0, p1)]) (fun y hy => List.mem_cons_of_mem _ hy)); clear h9 HTa
                    refine hK.out _ _ ?_ (fun hHeld => ?_)
                    · exact HT9.out.ptX
                    clear hK K
                    try simp only [Act.put, List.setIfInBounds_toArray, List.set_cons_zero, List.set_cons_succ, List.getElem_toArray, List.getElem_cons_succ, List.getElem_cons_zero]
                    (refine wpAnyH_take (i := 14) (v := ?_) rfl (by kernel_rfl) (by kernel_rfl) (by kernel_rfl) (fun _ _ _ h => h) (Or.inl ⟨by rfl, ?_⟩) (by assumption) ?_; rotate_left; · (intro w hSw; (try dsimp only at hSw); go_simp; first | done | with_reducible rfl); try simp only [Act.put, List.setIfInBounds_toArray, List.set_cons_zero, List.set_cons_succ, List.getElem_toArray, List.getElem_cons_succ, List.getElem_cons_zero])
                    refine wpAnyH_done (by kernel_rfl) ?_ _
                    clear qa qb
                    go_wp2_with fail
                    try rw [ek1]
                    go_roundw
                    case rel => exact ⟨m + 1, p9, k9, HMM.out, rfl, rfl, by rw [upto_succ, HV.out]; exact HT9.out.forget (fun y hy => by cases hy)⟩
                    case measure =>
                      have := HMM.out
                      show n - ((m + 1 : Nat) : Int).toNat < n - (m : Int).toNat
                      omega
          · rcases fop_split (op := .quo) (.inr (.inr (.inr rfl))) 31 p1 nb with ⟨rb, hqb, qb⟩ | ⟨rb, hqb, qb⟩
            all_goals have HQB := Lib.hid hqb; clear hqb
            · skip
              refine wp_region_held_drew (S := fun W => W.cell? ⟨X, 0, none⟩ = some (.int .u32 p0) ∧ W.cell? ⟨X, 1, none⟩ = some (.int .u32 p1)) (by kernel_rfl) ?_ (fun hHeld => ?_)
              · exact HT7.out.drew.ptX
              have HTc := Lib.hid HT7.out.drew
              (refine wpAnyH_take (i := 0) (v := ?_) rfl (by kernel_rfl) (by kernel_rfl) (by kernel_rfl) (fun _ _ _ h => h) (Or.inl ⟨by rfl, ?_⟩) (by assumption) ?_; rotate_left; · (intro w hSw; (try dsimp only at hSw); go_simp; first | done | with_reducible rfl); try simp only [Act.put, List.setIfInBounds_toArray, List.set_cons_zero, List.set_cons_succ, List.getElem_toArray, List.getElem_cons_succ, List.getElem_cons_zero])
              (refine wpAnyH_take (i := 1) (v := ?_) rfl (by kernel_rfl) (by kernel_rfl) (by kernel_rfl) (fun _ _ _ h => h) (Or.inl ⟨by rfl, ?_⟩) (by assumption) ?_; rotate_left; · (intro w hSw; (try dsimp only at hSw); go_simp; first | done | with_reducible rfl); try simp only [Act.put, List.setIfInBounds_toArray, List.set_cons_zero, List.set_cons_succ, List.getElem_toArray, List.getElem_cons_succ, List.getElem_cons_zero])
              (refine wpAnyH_take (i := 2) (v := ?_) rfl (by kernel_rfl) (by kernel_rfl) (by kernel_rfl) (fun _ _ _ h => h) (Or.inl ⟨by rfl, ?_⟩) (by assumption) ?_; rotate_left; · (intro w hSw; (try dsimp only at hSw); go_simp; first | done | with_reducible rfl); try simp only [Act.put, List.setIfInBounds_toArray, List.set_cons_zero, List.set_cons_succ, List.getElem_toArray, List.getElem_cons_succ, List.getElem_cons_zero])
              (refine wpAnyH_take (i := 4) (v := ?_) rfl (by kernel_rfl) (by kernel_rfl) (by kernel_rfl) (fun _ _ _ h => h) (Or.inl ⟨by rfl, ?_⟩) (by assumption) ?_; rotate_left; · (intro w hSw; (try dsimp only at hSw); go_simp; first | done | with_reducible rfl); try simp only [Act.put, List.setIfInBounds_toArray, List.set_cons_zero, List.set_cons_succ, List.getElem_toArray, List.getElem_cons_succ, List.getElem_cons_zero])
              (refine wpAnyH_take (i := 6) (v := ?_) rfl (by kernel_rfl) (by kernel_rfl) (by kernel_rfl) (fun _ _ _ h => h) (Or.inl ⟨by rfl, ?_⟩) (by assumption) ?_; rotate_left; · (intro w hSw; (try dsimp only at hSw); go_simp; first | done | with_reducible rfl); try simp only [Act.put, List.setIfInBounds_toArray, List.set_cons_zero, List.set_cons_succ, List.getElem_toArray, List.getElem_cons_succ, List.getElem_cons_zero])
              (refine wpAnyH_take (i := 7) (v := ?_) rfl (by kernel_rfl) (by kernel_rfl) (by kernel_rfl) (fun _ _ _ h => h) (Or.inl ⟨by rfl, ?_⟩) (by assumption) ?_; rotate_left; · (intro w hSw; (try dsimp only at hSw); go_simp; first | done | with_reducible rfl); try simp only [Act.put, List.setIfInBounds_toArray, List.set_cons_zero, List.set_cons_succ, List.getElem_toArray, List.getElem_cons_succ, List.getElem_cons_zero])
              (refine wpAnyH_take (i := 9) (v := ?_) rfl (by kernel_rfl) (by kernel_rfl) (by kernel_rfl) (fun _ _ _ h => h) (Or.inl ⟨by rfl, ?_⟩) (by assumption) ?_; rotate_left; · (intro w hSw; (try dsimp only at hSw); go_simp; first | done | with_reducible rfl); try simp only [Act.put, List.setIfInBounds_toArray, List.set_cons_zero, List.set_cons_succ, List.getElem_toArray, List.getElem_cons_succ, List.getElem_cons_zero])
              refine wpAnyH_ready (rs := [3]) (by kernel_rfl) (by simp) ?_
              refine AllReadyH.cons rfl (fun K hK => ?_) AllReadyH.nil
              · go_simp
                refine (rf_at p0 _).mono ?_
                rintro e Wn ⟨rfl, hb⟩
                have HTn := Lib.hid (HTc.out.step hb)
                clear hb HTc; have HTc := HTn; clear HTn
                go_wp2_with fail
                refine hK.out _ _ ?_ (fun hHeld => ?_)
                · exact HTc.out.ptX
                clear hK K
                try simp only [Act.put, List.setIfInBounds_toArray, List.set_cons_zero, List.set_cons_succ, List.getElem_toArray, List.getElem_cons_succ, List.getElem_cons_zero]
                refine wpAnyH_ready (rs := [5, 8]) (by kernel_rfl) (by simp) ?_
                refine AllReadyH.cons rfl (fun K hK => ?_) (AllReadyH.cons rfl (fun K hK => ?_) AllReadyH.nil)
                · go_simp
                  have HTn := Lib.hid HTc.out.drew
                  clear HTc; have HTc := HTn; clear HTn
                  refine hK.out _ _ ?_ (fun hHeld => ?_)
                  · exact HTc.out.ptX
                  clear hK K
                  try simp only [Act.put, List.setIfInBounds_toArray, List.set_cons_zero, List.set_cons_succ, List.getElem_toArray, List.getElem_cons_succ, List.getElem_cons_zero]
                  refine wpAnyH_ready (rs := [8]) (by kernel_rfl) (by simp) ?_
                  refine AllReadyH.cons rfl (fun K hK => ?_) AllReadyH.nil
                  · go_simp
                    refine (rf_at p1 _).mono ?_
                    rintro e Wn ⟨rfl, hb⟩
                    have HTn := Lib.hid (HTc.out.step hb)
                    clear hb HTc; have HTc := HTn; clear HTn
                    go_wp2_with fail
                    refine hK.out _ _ ?_ (fun hHeld => ?_)
                    · exact HTc.out.ptX
                    clear hK K
                    try simp only [Act.put, List.setIfInBounds_toArray, List.set_cons_zero, List.set_cons_succ, List.getElem_toArray, List.getElem_cons_succ, List.getElem_cons_zero]
                    (refine wpAnyH_take (i := 10) (v := ?_) rfl (by kernel_rfl) (by kernel_rfl) (by kernel_rfl) (fun _ _ _ h => h) (Or.inl ⟨by rfl, ?_⟩) (by assumption) ?_; rotate_left; · (intro w hSw; (try dsimp only at hSw); go_simp; first | done | with_reducible rfl); try simp only [Act.put, List.setIfInBounds_toArray, List.set_cons_zero, List.set_cons_succ, List.getElem_toArray, List.getElem_cons_succ, List.getElem_cons_zero])
                    refine wpAnyH_ready (rs := [11]) (by kernel_rfl) (by simp) ?_
                    refine AllReadyH.cons rfl (fun K hK => ?_) AllReadyH.nil
                    go_simp
                    refine (rof_at _ _ _).mono ?_
                    rintro e Wn ⟨rfl, hb⟩
                    rw [HQA.out, HQB.out, D0.out, D1.out]
                    have HTn := Lib.hid (HTc.out.step hb)
                    clear hb HTc; have HTc := HTn; clear HTn
                    go_wp2_with fail
                    refine hK.out _ _ ?_ (fun hHeld => ?_)
                    · exact HTc.out.ptX
                    clear hK K
                    try simp only [Act.put, List.setIfInBounds_toArray, List.set_cons_zero, List.set_cons_succ, List.getElem_toArray, List.getElem_cons_succ, List.getElem_cons_zero]
                    refine wpAnyH_ready (rs := [12]) (by kernel_rfl) (by simp) ?_
                    refine AllReadyH.cons rfl (fun K hK => ?_) AllReadyH.nil
                    go_simp
                    have HTa := Lib.hid (HTc.out.alloc d0 d1)
                    refine hK.out _ _ ?_ (fun hHeld => ?_)
                    · exact HTa.out.pt (List.mem_cons_of_mem _ (List.mem_singleton.2 rfl))
                    clear hK K HTc
                    try simp only [Act.put, List.setIfInBounds_toArray, List.set_cons_zero, List.set_cons_succ, List.getElem_toArray, List.getElem_cons_succ, List.getElem_cons_zero]
                    refine wpAnyH_ready (rs := [13]) (by kernel_rfl) (by simp) ?_
                    refine AllReadyH.cons rfl (fun K hK => ?_) AllReadyH.nil
                    refine step_TN1 nt57 HTa.out List.mem_cons_self rfl (.tmp 52) (.tmp 64) rfl rfl rfl L1.out HLE.out ?_
                    intro p9 k9 W9 h9
                    have HT9 := Lib.hid (h9.forget (fr' := [(X, p0, p1)]) (fun y hy => List.mem_cons_of_mem _ hy)); clear h9 HTa
                    refine hK.out _ _ ?_ (fun hHeld => ?_)
                    · exact HT9.out.ptX
                    clear hK K
                    try simp only [Act.put, List.setIfInBounds_toArray, List.set_cons_zero, List.set_cons_succ, List.getElem_toArray, List.getElem_cons_succ, List.getElem_cons_zero]
                    (refine wpAnyH_take (i := 14) (v := ?_) rfl (by kernel_rfl) (by kernel_rfl) (by kernel_rfl) (fun _ _ _ h => h) (Or.inl ⟨by rfl, ?_⟩) (by assumption) ?_; rotate_left; · (intro w hSw; (try dsimp only at hSw); go_simp; first | done | with_reducible rfl); try simp only [Act.put, List.setIfInBounds_toArray, List.set_cons_zero, List.set_cons_succ, List.getElem_toArray, List.getElem_cons_succ, List.getElem_cons_zero])
                    refine wpAnyH_done (by kernel_rfl) ?_ _
                    clear qa qb
                    go_wp2_with fail
                    try rw [ek1]
                    go_roundw
                    case rel => exact ⟨m + 1, p9, k9, HMM.out, rfl, rfl, by rw [upto_succ, HV.out]; exact HT9.out.forget (fun y hy => by cases hy)⟩
                    case measure =>
                      have := HMM.out
                      show n - ((m + 1 : Nat) : Int).toNat < n - (m : Int).toNat
                      omega
                · go_simp
                  refine (rf_at p1 _).mono ?_
                  rintro e Wn ⟨rfl, hb⟩
                  have HTn := Lib.hid (HTc.out.step hb)
                  clear hb HTc; have HTc := HTn; clear HTn
                  go_wp2_with fail
                  refine hK.out _ _ ?_ (fun hHeld => ?_)
                  · exact HTc.out.ptX
                  clear hK K
                  try simp only [Act.put, List.setIfInBounds_toArray, List.set_cons_zero, List.set_cons_succ, List.getElem_toArray, List.getElem_cons_succ, List.getElem_cons_zero]
                  (refine wpAnyH_take (i := 10) (v := ?_) rfl (by kernel_rfl) (by kernel_rfl) (by kernel_rfl) (fun _ _ _ h => h) (Or.inl ⟨by rfl, ?_⟩) (by assumption) ?_; rotate_left; · (intro w hSw; (try dsimp only at hSw); go_simp; first | done | with_reducible rfl); try simp only [Act.put, List.setIfInBounds_toArray, List.set_cons_zero, List.set_cons_succ, List.getElem_toArray, List.getElem_cons_succ, List.getElem_cons_zero])
                  refine wpAnyH_ready (rs := [5]) (by kernel_rfl) (by simp) ?_
                  refine AllReadyH.cons rfl (fun K hK => ?_) AllReadyH.nil
                  · go_simp
                    have HTn := Lib.hid HTc.out.drew
                    clear HTc; have HTc := HTn; clear HTn
                    refine hK.out _ _ ?_ (fun hHeld => ?_)
                    · exact HTc.out.ptX
                    clear hK K
                    try simp only [Act.put, List.setIfInBounds_toArray, List.set_cons_zero, List.set_cons_succ, List.getElem_toArray, List.getElem_cons_succ, List.getElem_cons_zero]
                    refine wpAnyH_ready (rs := [11]) (by kernel_rfl) (by simp) ?_
                    refine AllReadyH.cons rfl (fun K hK => ?_) AllReadyH.nil
                    go_simp
                    refine (rof_at _ _ _).mono ?_
                    rintro e Wn ⟨rfl, hb⟩
                    rw [HQA.out, HQB.out, D0.out, D1.out]
                    have HTn := Lib.hid (HTc.out.step hb)
                    clear hb HTc; have HTc := HTn; clear HTn
                    go_wp2_with fail
                    refine hK.out _ _ ?_ (fun hHeld => ?_)
                    · exact HTc.out.ptX
                    clear hK K
                    try simp only [Act.put, List.setIfInBounds_toArray, List.set_cons_zero, List.set_cons_succ, List.getElem_toArray, List.getElem_cons_succ, List.getElem_cons_zero]
                    refine wpAnyH_ready (rs := [12]) (by kernel_rfl) (by simp) ?_
                    refine AllReadyH.cons rfl (fun K hK => ?_) AllReadyH.nil
                    go_simp
                    have HTa := Lib.hid (HTc.out.alloc d0 d1)
                    refine hK.out _ _ ?_ (fun hHeld => ?_)
                    · exact HTa.out.pt (List.mem_cons_of_mem _ (List.mem_singleton.2 rfl))
                    clear hK K HTc
                    try simp only [Act.put, List.setIfInBounds_toArray, List.set_cons_zero, List.set_cons_succ, List.getElem_toArray, List.getElem_cons_succ, List.getElem_cons_zero]
                    refine wpAnyH_ready (rs := [13]) (by kernel_rfl) (by simp) ?_
                    refine AllReadyH.cons rfl (fun K hK => ?_) AllReadyH.nil
                    refine step_TN1 nt57 HTa.out List.mem_cons_self rfl (.tmp 52) (.tmp 64) rfl rfl rfl L1.out HLE.out ?_
                    intro p9 k9 W9 h9
                    have HT9 := Lib.hid (h9.forget (fr' := [(X, p0, p1)]) (fun y hy => List.mem_cons_of_mem _ hy)); clear h9 HTa
                    refine hK.out _ _ ?_ (fun hHeld => ?_)
                    · exact HT9.out.ptX
                    clear hK K
                    try simp only [Act.put, List.setIfInBounds_toArray, List.set_cons_zero, List.set_cons_succ, List.getElem_toArray, List.getElem_cons_succ, List.getElem_cons_zero]
                    (refine wpAnyH_take (i := 14) (v := ?_) rfl (by kernel_rfl) (by kernel_rfl) (by kernel_rfl) (fun _ _ _ h => h) (Or.inl ⟨by rfl, ?_⟩) (by assumption) ?_; rotate_left; · (intro w hSw; (try dsimp only at hSw); go_simp; first | done | with_reducible rfl); try simp only [Act.put, List.setIfInBounds_toArray, List.set_cons_zero, List.set_cons_succ, List.getElem_toArray, List.getElem_cons_succ, List.getElem_cons_zero])
                    refine wpAnyH_done (by kernel_rfl) ?_ _
                    clear qa qb
                    go_wp2_with fail
                    try rw [ek1]
                    go_roundw
                    case rel => exact ⟨m + 1, p9, k9, HMM.out, rfl, rfl, by rw [upto_succ, HV.out]; exact HT9.out.forget (fun y hy => by cases hy)⟩
                    case measure =>
                      have := HMM.out
                      show n - ((m + 1 : Nat) : Int).toNat < n - (m : Int).toNat
                      omega
            · skip
              refine wp_region_held_drew (S := fun W => W.cell? ⟨X, 0, none⟩ = some (.int .u32 p0) ∧ W.cell? ⟨X, 1, none⟩ = some (.int .u32 p1)) (by kernel_rfl) ?_ (fun hHeld => ?_)
              · exact HT7.out.drew.ptX
              have HTc := Lib.hid HT7.out.drew
              (refine wpAnyH_take (i := 0) (v := ?_) rfl (by kernel_rfl) (by kernel_rfl) (by kernel_rfl) (fun _ _ _ h => h) (Or.inl ⟨by rfl, ?_⟩) (by assumption) ?_; rotate_left; · (intro w hSw; (try dsimp only at hSw); go_simp; first | done | with_reducible rfl); try simp only [Act.put, List.setIfInBounds_toArray, List.set_cons_zero, List.set_cons_succ, List.getElem_toArray, List.getElem_cons_succ, List.getElem_cons_zero])
              (refine wpAnyH_take (i := 1) (v := ?_) rfl (by kernel_rfl) (by kernel_rfl) (by kernel_rfl) (fun _ _ _ h => h) (Or.inl ⟨by rfl, ?_⟩) (by assumption) ?_; rotate_left; · (intro w hSw; (try dsimp only at hSw); go_simp; first | done | with_reducible rfl); try simp only [Act.put, List.setIfInBounds_toArray, List.set_cons_zero, List.set_cons_succ, List.getElem_toArray, List.getElem_cons_succ, List.getElem_cons_zero])
              (refine wpAnyH_take (i := 2) (v := ?_) rfl (by kernel_rfl) (by kernel_rfl) (by kernel_rfl) (fun _ _ _ h => h) (Or.inl ⟨by rfl, ?_⟩) (by assumption) ?_; rotate_left; · (intro w hSw; (try dsimp only at hSw); go_simp; first | done | with_reducible rfl); try simp only [Act.put, List.setIfInBounds_toArray, List.set_cons_zero, List.set_cons_succ, List.getElem_toArray, List.getElem_cons_succ, List.getElem_cons_zero])
              (refine wpAnyH_take (i := 4) (v := ?_) rfl (by kernel_rfl) (by kernel_rfl) (by kernel_rfl) (fun _ _ _ h => h) (Or.inl ⟨by rfl, ?_⟩) (by assumption) ?_; rotate_left; · (intro w hSw; (try dsimp only at hSw); go_simp; first | done | with_reducible rfl); try simp only [Act.put, List.setIfInBounds_toArray, List.set_cons_zero, List.set_cons_succ, List.getElem_toArray, List.getElem_cons_succ, List.getElem_cons_zero])
              (refine wpAnyH_take (i := 6) (v := ?_) rfl (by kernel_rfl) (by kernel_rfl) (by kernel_rfl) (fun _ _ _ h => h) (Or.inl ⟨by rfl, ?_⟩) (by assumption) ?_; rotate_left; · (intro w hSw; (try dsimp only at hSw); go_simp; first | done | with_reducible rfl); try simp only [Act.put, List.setIfInBounds_toArray, List.set_cons_zero, List.set_cons_succ, List.getElem_toArray, List.getElem_cons_succ, List.getElem_cons_zero])
              (refine wpAnyH_take (i := 7) (v := ?_) rfl (by kernel_rfl) (by kernel_rfl) (by kernel_rfl) (fun _ _ _ h => h) (Or.inl ⟨by rfl, ?_⟩) (by assumption) ?_; rotate_left; · (intro w hSw; (try dsimp only at hSw); go_simp; first | done | with_reducible rfl); try simp only [Act.put, List.setIfInBounds_toArray, List.set_cons_zero, List.set_cons_succ, List.getElem_toArray, List.getElem_cons_succ, List.getElem_cons_zero])
              (refine wpAnyH_take (i := 9) (v := ?_) rfl (by kernel_rfl) (by kernel_rfl) (by kernel_rfl) (fun _ _ _ h => h) (Or.inl ⟨by rfl, ?_⟩) (by assumption) ?_; rotate_left; · (intro w hSw; (try dsimp only at hSw); go_simp; first | done | with_reducible rfl); try simp only [Act.put, List.setIfInBounds_toArray, List.set_cons_zero, List.set_cons_succ, List.getElem_toArray, List.getElem_cons_succ, List.getElem_cons_zero])
              refine wpAnyH_ready (rs := [3]) (by kernel_rfl) (by simp) ?_
              refine AllReadyH.cons rfl (fun K hK => ?_) AllReadyH.nil
              · go_simp
                refine (rf_at p0 _).mono ?_
                rintro e Wn ⟨rfl, hb⟩
                have HTn := Lib.hid (HTc.out.step hb)
                clear hb HTc; have HTc := HTn; clear HTn
                go_wp2_with fail
                refine hK.out _ _ ?_ (fun hHeld => ?_)
                · exact HTc.out.ptX
                clear hK K
                try simp only [Act.put, List.setIfInBounds_toArray, List.set_cons_zero, List.set_cons_succ, List.getElem_toArray, List.getElem_cons_succ, List.getElem_cons_zero]
                refine wpAnyH_ready (rs := [5, 8]) (by kernel_rfl) (by simp) ?_
                refine AllReadyH.cons rfl (fun K hK => ?_) (AllReadyH.cons rfl (fun K hK => ?_) AllReadyH.nil)
                · go_simp
                  have HTn := Lib.hid HTc.out.drew
                  clear HTc; have HTc := HTn; clear HTn
                  refine hK.out _ _ ?_ (fun hHeld => ?_)
                  · exact HTc.out.ptX
                  clear hK K
                  try simp only [Act.put, List.setIfInBounds_toArray, List.set_cons_zero, List.set_cons_succ, List.getElem_toArray, List.getElem_cons_succ, List.getElem_cons_zero]
                  refine wpAnyH_ready (rs := [8]) (by kernel_rfl) (by simp) ?_
                  refine AllReadyH.cons rfl (fun K hK => ?_) AllReadyH.nil
                  · go_simp
                    refine (rf_at p1 _).mono ?_
                    rintro e Wn ⟨rfl, hb⟩
                    have HTn := Lib.hid (HTc.out.step hb)
                    clear hb HTc; have HTc := HTn; clear HTn
                    go_wp2_with fail
                    refine hK.out _ _ ?_ (fun hHeld => ?_)
                    · exact HTc.out.ptX
                    clear hK K
                    try simp only [Act.put, List.setIfInBounds_toArray, List.set_cons_zero, List.set_cons_succ, List.getElem_toArray, List.getElem_cons_succ, List.getElem_cons_zero]
                    refine wpAnyH_ready (rs := [10]) (by kernel_rfl) (by simp) ?_
                    refine AllReadyH.cons rfl (fun K hK => ?_) AllReadyH.nil
                    · go_simp
                      have HTn := Lib.hid HTc.out.drew
                      clear HTc; have HTc := HTn; clear HTn
                      refine hK.out _ _ ?_ (fun hHeld => ?_)
                      · exact HTc.out.ptX
                      clear hK K
                      try simp only [Act.put, List.setIfInBounds_toArray, List.set_cons_zero, List.set_cons_succ, List.getElem_toArray, List.getElem_cons_succ, List.getElem_cons_zero]
                      refine wpAnyH_ready (rs := [11]) (by kernel_rfl) (by simp) ?_
                      refine AllReadyH.cons rfl (fun K hK => ?_) AllReadyH.nil
                      go_simp
                      refine (rof_at _ _ _).mono ?_
                      rintro e Wn ⟨rfl, hb⟩
                      rw [HQA.out, HQB.out, D0.out, D1.out]
                      have HTn := Lib.hid (HTc.out.step hb)
                      clear hb HTc; have HTc := HTn; clear HTn
                      go_wp2_with fail
                      refine hK.out _ _ ?_ (fun hHeld => ?_)
                      · exact HTc.out.ptX
                      clear hK K
                      try simp only [Act.put, List.setIfInBounds_toArray, List.set_cons_zero, List.set_cons_succ, List.getElem_toArray, List.getElem_cons_succ, List.getElem_cons_zero]
                      refine wpAnyH_ready (rs := [12]) (by kernel_rfl) (by simp) ?_
                      refine AllReadyH.cons rfl (fun K hK => ?_) AllReadyH.nil
                      go_simp
                      have HTa := Lib.hid (HTc.out.alloc d0 d1)
                      refine hK.out _ _ ?_ (fun hHeld => ?_)
                      · exact HTa.out.pt (List.mem_cons_of_mem _ (List.mem_singleton.2 rfl))
                      clear hK K HTc
                      try simp only [Act.put, List.setIfInBounds_toArray, List.set_cons_zero, List.set_cons_succ, List.getElem_toArray, List.getElem_cons_succ, List.getElem_cons_zero]
                      refine wpAnyH_ready (rs := [13]) (by kernel_rfl) (by simp) ?_
                      refine AllReadyH.cons rfl (fun K hK => ?_) AllReadyH.nil
                      refine step_TN1 nt57 HTa.out List.mem_cons_self rfl (.tmp 52) (.tmp 64) rfl rfl rfl L1.out HLE.out ?_
                      intro p9 k9 W9 h9
                      have HT9 := Lib.hid (h9.forget (fr' := [(X, p0, p1)]) (fun y hy => List.mem_cons_of_mem _ hy)); clear h9 HTa
                      refine hK.out _ _ ?_ (fun hHeld => ?_)
                      · exact HT9.out.ptX
                      clear hK K
                      try simp only [Act.put, List.setIfInBounds_toArray, List.set_cons_zero, List.set_cons_succ, List.getElem_toArray, List.getElem_cons_succ, List.getElem_cons_zero]
                      (refine wpAnyH_take (i := 14) (v := ?_) rfl (by kernel_rfl) (by kernel_rfl) (by kernel_rfl) (fun _ _ _ h => h) (Or.inl ⟨by rfl, ?_⟩) (by assumption) ?_; rotate_left; · (intro w hSw; (try dsimp only at hSw); go_simp; first | done | with_reducible rfl); try simp only [Act.put, List.setIfInBounds_toArray, List.set_cons_zero, List.set_cons_succ, List.getElem_toArray, List.getElem_cons_succ, List.getElem_cons_zero])
                      refine wpAnyH_done (by kernel_rfl) ?_ _
                      clear qa qb
                      go_wp2_with fail
                      try rw [ek1]
                      go_roundw
                      case rel => exact ⟨m + 1, p9, k9, HMM.out, rfl, rfl, by rw [upto_succ, HV.out]; exact HT9.out.forget (fun y hy => by cases hy)⟩
                      case measure =>
                        have := HMM.out
                        show n - ((m + 1 : Nat) : Int).toNat < n - (m : Int).toNat
                        omega
                · go_simp
                  refine (rf_at p1 _).mono ?_
                  rintro e Wn ⟨rfl, hb⟩
                  have HTn := Lib.hid (HTc.out.step hb)
                  clear hb HTc; have HTc := HTn; clear HTn
                  go_wp2_with fail
                  refine hK.out _ _ ?_ (fun hHeld => ?_)
                  · exact HTc.out.ptX
                  clear hK K
                  try simp only [Act.put, List.setIfInBounds_toArray, List.set_cons_zero, List.set_cons_succ, List.getElem_toArray, List.getElem_cons_succ, List.getElem_cons_zero]
                  refine wpAnyH_ready (rs := [5, 10]) (by kernel_rfl) (by simp) ?_
                  refine AllReadyH.cons rfl (fun K hK => ?_) (AllReadyH.cons rfl (fun K hK => ?_) AllReadyH.nil)
                  · go_simp
                    have HTn := Lib.hid HTc.out.drew
                    clear HTc; have HTc := HTn; clear HTn
                    refine hK.out _ _ ?_ (fun hHeld => ?_)
                    · exact HTc.out.ptX
                    clear hK K
                    try simp only [Act.put, List.setIfInBounds_toArray, List.set_cons_zero, List.set_cons_succ, List.getElem_toArray, List.getElem_cons_succ, List.getElem_cons_zero]
                    refine wpAnyH_ready (rs := [10]) (by kernel_rfl) (by simp) ?_
                    refine AllReadyH.cons rfl (fun K hK => ?_) AllReadyH.nil
                    · go_simp
                      have HTn := Lib.hid HTc.out.drew
                      clear HTc; have HTc := HTn; clear HTn
                      refine hK.out _ _ ?_ (fun hHeld => ?_)
                      · exact HTc.out.ptX
                      clear hK K
                      try simp only [Act.put, List.setIfInBounds_toArray, List.set_cons_zero, List.set_cons_succ, List.getElem_toArray, List.getElem_cons_succ, List.getElem_cons_zero]
                      refine wpAnyH_ready (rs := [11]) (by kernel_rfl) (by simp) ?_
                      refine AllReadyH.cons rfl (fun K hK => ?_) AllReadyH.nil
                      go_simp
                      refine (rof_at _ _ _).mono ?_
                      rintro e Wn ⟨rfl, hb⟩
                      rw [HQA.out, HQB.out, D0.out, D1.out]
                      have HTn := Lib.hid (HTc.out.step hb)
                      clear hb HTc; have HTc := HTn; clear HTn
                      go_wp2_with fail
                      refine hK.out _ _ ?_ (fun hHeld => ?_)
                      · exact HTc.out.ptX
                      clear hK K
                      try simp only [Act.put, List.setIfInBounds_toArray, List.set_cons_zero, List.set_cons_succ, List.getElem_toArray, List.getElem_cons_succ, List.getElem_cons_zero]
                      refine wpAnyH_ready (rs := [12]) (by kernel_rfl) (by simp) ?_
                      refine AllReadyH.cons rfl (fun K hK => ?_) AllReadyH.nil
                      go_simp
                      have HTa := Lib.hid (HTc.out.alloc d0 d1)
                      refine hK.out _ _ ?_ (fun hHeld => ?_)
                      · exact HTa.out.pt (List.mem_cons_of_mem _ (List.mem_singleton.2 rfl))
                      clear hK K HTc
                      try simp only [Act.put, List.setIfInBounds_toArray, List.set_cons_zero, List.set_cons_succ, List.getElem_toArray, List.getElem_cons_succ, List.getElem_cons_zero]
                      refine wpAnyH_ready (rs := [13]) (by kernel_rfl) (by simp) ?_
                      refine AllReadyH.cons rfl (fun K hK => ?_) AllReadyH.nil
                      refine step_TN1 nt57 HTa.out List.mem_cons_self rfl (.tmp 52) (.tmp 64) rfl rfl rfl L1.out HLE.out ?_
                      intro p9 k9 W9 h9
                      have HT9 := Lib.hid (h9.forget (fr' := [(X, p0, p1)]) (fun y hy => List.mem_cons_of_mem _ hy)); clear h9 HTa
                      refine hK.out _ _ ?_ (fun hHeld => ?_)
                      · exact HT9.out.ptX
                      clear hK K
                      try simp only [Act.put, List.setIfInBounds_toArray, List.set_cons_zero, List.set_cons_succ, List.getElem_toArray, List.getElem_cons_succ, List.getElem_cons_zero]
                      (refine wpAnyH_take (i := 14) (v := ?_) rfl (by kernel_rfl) (by kernel_rfl) (by kernel_rfl) (fun _ _ _ h => h) (Or.inl ⟨by rfl, ?_⟩) (by assumption) ?_; rotate_left; · (intro w hSw; (try dsimp only at hSw); go_simp; first | done | with_reducible rfl); try simp only [Act.put, List.setIfInBounds_toArray, List.set_cons_zero, List.set_cons_succ, List.getElem_toArray, List.getElem_cons_succ, List.getElem_cons_zero])
                      refine wpAnyH_done (by kernel_rfl) ?_ _
                      clear qa qb
                      go_wp2_with fail
                      try rw [ek1]
                      go_roundw
                      case rel => exact ⟨m + 1, p9, k9, HMM.out, rfl, rfl, by rw [upto_succ, HV.out]; exact HT9.out.forget (fun y hy => by cases hy)⟩
                      case measure =>
                        have := HMM.out
                        show n - ((m + 1 : Nat) : Int).toNat < n - (m : Int).toNat
                        omega
                  · go_simp
                    have HTn := Lib.hid HTc.out.drew
                    clear HTc; have HTc := HTn; clear HTn
                    refine hK.out _ _ ?_ (fun hHeld => ?_)
                    · exact HTc.out.ptX
                    clear hK K
                    try simp only [Act.put, List.setIfInBounds_toArray, List.set_cons_zero, List.set_cons_succ, List.getElem_toArray, List.getElem_cons_succ, List.getElem_cons_zero]
                    refine wpAnyH_ready (rs := [5]) (by kernel_rfl) (by simp) ?_
                    refine AllReadyH.cons rfl (fun K hK => ?_) AllReadyH.nil
                    · go_simp
                      have HTn := Lib.hid HTc.out.drew
                      clear HTc; have HTc := HTn; clear HTn
                      refine hK.out _ _ ?_ (fun hHeld => ?_)
                      · exact HTc.out.ptX
                      clear hK K
                      try simp only [Act.put, List.setIfInBounds_toArray, List.set_cons_zero, List.set_cons_succ, List.getElem_toArray, List.getElem_cons_succ, List.getElem_cons_zero]
                      refine wpAnyH_ready (rs := [11]) (by kernel_rfl) (by simp) ?_
                      refine AllReadyH.cons rfl (fun K hK => ?_) AllReadyH.nil
                      go_simp
                      refine (rof_at _ _ _).mono ?_
                      rintro e Wn ⟨rfl, hb⟩
                      rw [HQA.out, HQB.out, D0.out, D1.out]
                      have HTn := Lib.hid (HTc.out.step hb)
                      clear hb HTc; have HTc := HTn; clear HTn
                      go_wp2_with fail
                      refine hK.out _ _ ?_ (fun hHeld => ?_)
                      · exact HTc.out.ptX
                      clear hK K
                      try simp only [Act.put, List.setIfInBounds_toArray, List.set_cons_zero, List.set_cons_succ, List.getElem_toArray, List.getElem_cons_succ, List.getElem_cons_zero]
                      refine wpAnyH_ready (rs := [12]) (by kernel_rfl) (by simp) ?_
                      refine AllReadyH.cons rfl (fun K hK => ?_) AllReadyH.nil
                      go_simp
                      have HTa := Lib.hid (HTc.out.alloc d0 d1)
                      refine hK.out _ _ ?_ (fun hHeld => ?_)
                      · exact HTa.out.pt (List.mem_cons_of_mem _ (List.mem_singleton.2 rfl))
                      clear hK K HTc
                      try simp only [Act.put, List.setIfInBounds_toArray, List.set_cons_zero, List.set_cons_succ, List.getElem_toArray, List.getElem_cons_succ, List.getElem_cons_zero]
                      refine wpAnyH_ready (rs := [13]) (by kernel_rfl) (by simp) ?_
                      refine AllReadyH.cons rfl (fun K hK => ?_) AllReadyH.nil
                      refine step_TN1 nt57 HTa.out List.mem_cons_self rfl (.tmp 52) (.tmp 64) rfl rfl rfl L1.out HLE.out ?_
                      intro p9 k9 W9 h9
                      have HT9 := Lib.hid (h9.forget (fr' := [(X, p0, p1)]) (fun y hy => List.mem_cons_of_mem _ hy)); clear h9 HTa
                      refine hK.out _ _ ?_ (fun hHeld => ?_)
                      · exact HT9.out.ptX
                      clear hK K
                      try simp only [Act.put, List.setIfInBounds_toArray, List.set_cons_zero, List.set_cons_succ, List.getElem_toArray, List.getElem_cons_succ, List.getElem_cons_zero]
                      (refine wpAnyH_take (i := 14) (v := ?_) rfl (by kernel_rfl) (by kernel_rfl) (by kernel_rfl) (fun _ _ _ h => h) (Or.inl ⟨by rfl, ?_⟩) (by assumption) ?_; rotate_left; · (intro w hSw; (try dsimp only at hSw); go_simp; first | done | with_reducible rfl); try simp only [Act.put, List.setIfInBounds_toArray, List.set_cons_zero, List.set_cons_succ, List.getElem_toArray, List.getElem_cons_succ, List.getElem_cons_zero])
                      refine wpAnyH_done (by kernel_rfl) ?_ _
                      clear qa qb
                      go_wp2_with fail
                      try rw [ek1]
                      go_roundw
                      case rel => exact ⟨m + 1, p9, k9, HMM.out, rfl, rfl, by rw [upto_succ, HV.out]; exact HT9.out.forget (fun y hy => by cases hy)⟩
                      case measure =>
                        have := HMM.out
                        show n - ((m + 1 : Nat) : Int).toNat < n - (m : Int).toNat
                        omega
        · have hmM : n = m := by omega
          have tm : decide ((m : Int) < (n : Int)) = false := decide_eq_false (by omega)
          have tm' : decide (m < n) = false := decide_eq_false hlt
          have hb64 := H64.out
          subst hmM
          clear hlt hm hb64
          go_wp2_with fail
          refine bodyPost_ret (v := .tuple #[.slice (some ⟨h1, 0, none⟩) n d1', .int .i64 0]) (by simp [results, Try.results23, go_sem]) rfl ⟨_, rfl, ?_, HB.out.trans (HT1.out.below.mono HB.out.size)⟩
          rw [HIJ.out]
          exact Own.base HT1.out.o1 HB.out.size
end Go.Proofs.Ytlbgpfddmkpakaa.Nu
