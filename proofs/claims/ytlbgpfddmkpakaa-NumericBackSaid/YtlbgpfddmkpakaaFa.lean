/- Numeric: the law's helpers: given, own, alike, Equal. -/
import Derived.Test.YtlbgpfddmkpakaaEg
import Derived.Test.YtlbgpfddmkpakaaEq
namespace Go.Proofs.Ytlbgpfddmkpakaa.Nu
open Go.RowKit
set_option linter.unusedVariables false
set_option linter.unusedSimpArgs false
attribute [local go_sem high] eqn26 eqn57

theorem upto_el (l : List (Nat × Nat)) : upto (el l) l.length = l := by
  apply List.ext_getElem?
  intro i
  by_cases h : i < l.length
  · rw [upto_get _ h, el_get h]
  · rw [List.getElem?_eq_none (by rw [upto_length]; omega), List.getElem?_eq_none (by omega)]
set_option maxRecDepth 100000 in
set_option maxHeartbeats 4000000 in
theorem given_at (v : Value) (l : List (Nat × Nat)) (w : World) (hr : Row w v l) (h70 : l.length ≤ 1000) :
    Calls Try.prog 22 #[v] w fun e w' => ∃ v', e = .returned v' ∧ Own 26 w.heap.size w' v' l ∧ Below w.heap.size w w' := by
  obtain ⟨p, cap, rfl, hcap, hrr⟩ := hr
  have HRR := Lib.hid hrr
  obtain ⟨n, hn⟩ : ∃ n, n = l.length := ⟨_, rfl⟩
  have HN := Lib.hid hn
  rw [← hn] at h70 hcap ⊢
  have H70 := Lib.hid h70
  clear hrr hn h70
  go_enter Try.func22, Try.ntmps22
  go_wp2_with fail
  go_loopw [3, 8] (fun s3 s8 wr => ∃ j : Nat, ∃ c1 : Value, j ≤ n ∧ s8 = .int .i64 j ∧ s3 = c1 ∧ TN 26 w c1 (upto (el l) j) (.slice none 0 0) [] [] wr) (fun _ s8 _ => n - (intOf s8).toNat)
  case atStart => exact ⟨0, _, Nat.zero_le _, rfl, rfl, TN.start w 26⟩
  case round =>
    obtain ⟨j, c1, hj, rfl, rfl, ht⟩ := hrel
    have HT1 := Lib.hid ht
    obtain ⟨pu, cu, rfl⟩ := ht.o1.slice
    clear ht
    have L1 : Hid ((upto (el l) j).length = j) := upto_length _ _
    rw [L1.out] at HT1 ⊢
    by_cases hlt : j < n
    · have tl : decide ((j : Int) < (n : Int)) = true := decide_eq_true (by omega)
      have tl' : decide (j < n) = true := decide_eq_true hlt
      rcases HRR.out with h | ⟨g, off, rfl, hg, hc⟩
      · exfalso; have := HN.out; rw [h] at this; simp only [List.length_nil] at this; omega
      have hx0 := el_get (l := l) (j := j) (by rw [← HN.out]; exact hlt)
      obtain ⟨c0, c1⟩ := hc _ _ hx0
      have c0 := (HT1.out.below.cell (p := ⟨g, off + j * 2, none⟩) hg).trans c0
      have c1 := (HT1.out.below.cell (p := ⟨g, off + j * 2 + 1, none⟩) hg).trans c1
      have h64 := H70.out
      have ek1 : wrap64 ((j : Int) + 1) = ((j + 1 : Nat) : Int) := by unfold wrap64; omega
      have bi : (j : Int) < (n : Int) := by omega
      have HC : Hid (upto (el l) (j + 1) = upto (el l) j ++ [el l j]) := upto_succ _ _
      generalize el l j = a at *
      obtain ⟨a0, a1⟩ := a
      have HLT := Lib.hid hlt
      have HLE : Hid (j ≤ 2000) := by show j ≤ 2000; omega
      clear hj hlt hx0 h64 hg hc
      go_upto_region 5 with fail
      have HX := Lib.hid (B2.made wr (.int .u32 (a0 : Nat)) (.int .u32 (a1 : Nat)) 55)
      have HT2 := Lib.hid (HT1.out.allocs (Obj.cells #[.int .u32 (a0 : Nat), .int .u32 (a1 : Nat)] 55))
      generalize wr.alloc (Obj.cells #[.int .u32 a0, .int .u32 a1] 55) = W2 at *
      generalize wr.heap.size = X at *
      clear c0 c1
      obtain ⟨x0, x1⟩ := HX.out.cells
      go_wp2_with (at_builtin; refine wpList_TN1 nt26 (HT2.out.alloc a0 a1) List.mem_cons_self rfl _ _ rfl rfl rfl L1.out HLE.out ?_; intro p8 k8 W8 h8; have HT8 := Lib.hid (h8.forget (fr' := []) (fun y hy => by cases hy)); clear h8)
      try rw [ek1]
      go_roundw
      case rel => exact ⟨j + 1, _, HLT.out, rfl, rfl, by rw [HC.out]; exact HT8.out⟩
      case measure =>
        have := HLT.out
        show n - ((j + 1 : Nat) : Int).toNat < n - (j : Int).toNat
        omega
    · have hjn : n = j := by omega
      have tl : decide ((j : Int) < (n : Int)) = false := decide_eq_false (by omega)
      have tl' : decide (j < n) = false := decide_eq_false hlt
      subst hjn
      clear hlt hj
      go_wp2_with fail
      go_ret
      have h := HT1.out.o1
      rw [HN.out, upto_el] at h
      refine ⟨_, rfl, ?_, HT1.out.below⟩
      rw [← HN.out] at h
      exact h
set_option maxRecDepth 100000 in
set_option maxHeartbeats 4000000 in
theorem own_at (v : Value) (l : List (Nat × Nat)) (w : World) (hr : Row w v l) (h70 : l.length ≤ 1000) :
    Calls Try.prog 24 #[v] w fun e w' => ∃ v', e = .returned v' ∧ Own 57 w.heap.size w' v' l ∧ Below w.heap.size w w' := by
  obtain ⟨p, cap, rfl, hcap, hrr⟩ := hr
  have HRR := Lib.hid hrr
  obtain ⟨n, hn⟩ : ∃ n, n = l.length := ⟨_, rfl⟩
  have HN := Lib.hid hn
  rw [← hn] at h70 hcap ⊢
  have H70 := Lib.hid h70
  clear hrr hn h70
  go_enter Try.func24, Try.ntmps24
  go_wp2_with fail
  go_loopw [3, 8] (fun s3 s8 wr => ∃ j : Nat, ∃ c1 : Value, j ≤ n ∧ s8 = .int .i64 j ∧ s3 = c1 ∧ TN 57 w c1 (upto (el l) j) (.slice none 0 0) [] [] wr) (fun _ s8 _ => n - (intOf s8).toNat)
  case atStart => exact ⟨0, _, Nat.zero_le _, rfl, rfl, TN.start w 57⟩
  case round =>
    obtain ⟨j, c1, hj, rfl, rfl, ht⟩ := hrel
    have HT1 := Lib.hid ht
    obtain ⟨pu, cu, rfl⟩ := ht.o1.slice
    clear ht
    have L1 : Hid ((upto (el l) j).length = j) := upto_length _ _
    rw [L1.out] at HT1 ⊢
    by_cases hlt : j < n
    · have tl : decide ((j : Int) < (n : Int)) = true := decide_eq_true (by omega)
      have tl' : decide (j < n) = true := decide_eq_true hlt
      rcases HRR.out with h | ⟨g, off, rfl, hg, hc⟩
      · exfalso; have := HN.out; rw [h] at this; simp only [List.length_nil] at this; omega
      have hx0 := el_get (l := l) (j := j) (by rw [← HN.out]; exact hlt)
      obtain ⟨c0, c1⟩ := hc _ _ hx0
      have c0 := (HT1.out.below.cell (p := ⟨g, off + j * 2, none⟩) hg).trans c0
      have c1 := (HT1.out.below.cell (p := ⟨g, off + j * 2 + 1, none⟩) hg).trans c1
      have h64 := H70.out
      have ek1 : wrap64 ((j : Int) + 1) = ((j + 1 : Nat) : Int) := by unfold wrap64; omega
      have bi : (j : Int) < (n : Int) := by omega
      have HC : Hid (upto (el l) (j + 1) = upto (el l) j ++ [el l j]) := upto_succ _ _
      generalize el l j = a at *
      obtain ⟨a0, a1⟩ := a
      have HLT := Lib.hid hlt
      have HLE : Hid (j ≤ 2000) := by show j ≤ 2000; omega
      clear hj hlt hx0 h64 hg hc
      go_upto_region 5 with fail
      have HX := Lib.hid (B2.made wr (.int .u32 (a0 : Nat)) (.int .u32 (a1 : Nat)) 55)
      have HT2 := Lib.hid (HT1.out.allocs (Obj.cells #[.int .u32 (a0 : Nat), .int .u32 (a1 : Nat)] 55))
      generalize wr.alloc (Obj.cells #[.int .u32 a0, .int .u32 a1] 55) = W2 at *
      generalize wr.heap.size = X at *
      clear c0 c1
      obtain ⟨x0, x1⟩ := HX.out.cells
      go_wp2_with (at_builtin; refine wpList_TN1 nt57 (HT2.out.alloc a0 a1) List.mem_cons_self rfl _ _ rfl rfl rfl L1.out HLE.out ?_; intro p8 k8 W8 h8; have HT8 := Lib.hid (h8.forget (fr' := []) (fun y hy => by cases hy)); clear h8)
      try rw [ek1]
      go_roundw
      case rel => exact ⟨j + 1, _, HLT.out, rfl, rfl, by rw [HC.out]; exact HT8.out⟩
      case measure =>
        have := HLT.out
        show n - ((j + 1 : Nat) : Int).toNat < n - (j : Int).toNat
        omega
    · have hjn : n = j := by omega
      have tl : decide ((j : Int) < (n : Int)) = false := decide_eq_false (by omega)
      have tl' : decide (j < n) = false := decide_eq_false hlt
      subst hjn
      clear hlt hj
      go_wp2_with fail
      go_ret
      have h := HT1.out.o1
      rw [HN.out, upto_el] at h
      refine ⟨_, rfl, ?_, HT1.out.below⟩
      rw [← HN.out] at h
      exact h
set_option maxRecDepth 100000 in
set_option maxHeartbeats 4000000 in
theorem alike_at (v u : Value) (l m : List (Nat × Nat)) (w : World) (hr : Row w v l) (hs : Row w u m) (h70 : l.length ≤ 1000) :
    Calls Try.prog 20 #[v, u] w fun e w' => e = .returned (.bool (decide (l = m))) ∧ Below w.heap.size w w' := by
  obtain ⟨p, cap, rfl, hcap, hrr⟩ := hr
  obtain ⟨q, cap2, rfl, hcap2, hss⟩ := hs
  have HRR := Lib.hid hrr
  have HSS := Lib.hid hss
  by_cases hlen : l.length = m.length
  · rw [← hlen] at hcap2 ⊢
    obtain ⟨n, hn⟩ : ∃ n, n = l.length := ⟨_, rfl⟩
    have HN := Lib.hid hn
    have HM : Hid (n = m.length) := hn.trans hlen
    rw [← hn] at h70 hcap hcap2 ⊢
    have H70 := Lib.hid h70
    obtain ⟨b, hb⟩ : ∃ b, b = decide (l = m) := ⟨_, rfl⟩
    rw [← hb]
    have HB := Lib.hid hb
    clear hrr hss hn h70 hlen hb
    have te : ((n : Int) == (n : Int)) = true := by simp
    go_enter Try.func20, Try.ntmps20
    go_wp2_with fail
    go_loopw [5, 13] (fun _ s13 wr => ∃ j : Nat, j ≤ n ∧ s13 = .int .i64 j ∧ (∀ i, i < j → el l i = el m i) ∧ Below w.heap.size w wr) (fun _ s13 _ => n - (intOf s13).toNat)
    case atStart => exact ⟨0, Nat.zero_le _, rfl, fun i hi => absurd hi (Nat.not_lt_zero _), Below.refl _ _⟩
    case round =>
      obtain ⟨j, hj, rfl, hall, hbw⟩ := hrel
      have HA := Lib.hid hall
      have HBW := Lib.hid hbw
      clear hall hbw
      by_cases hlt : j < n
      · have tl : decide ((j : Int) < (n : Int)) = true := decide_eq_true (by omega)
        have tl' : decide (j < n) = true := decide_eq_true hlt
        rcases HRR.out with h | ⟨g, off, rfl, hg, hc⟩
        · exfalso; have := HN.out; rw [h] at this; simp only [List.length_nil] at this; omega
        rcases HSS.out with h | ⟨g2, off2, rfl, hg2, hc2⟩
        · exfalso; have := HM.out; rw [h] at this; simp only [List.length_nil] at this; omega
        have hx0 := el_get (l := l) (j := j) (by rw [← HN.out]; exact hlt)
        have hx1 := el_get (l := m) (j := j) (by rw [← HM.out]; exact hlt)
        obtain ⟨c0, c1⟩ := hc _ _ hx0
        obtain ⟨d0, d1⟩ := hc2 _ _ hx1
        have c0 := (HBW.out.cell (p := ⟨g, off + j * 2, none⟩) hg).trans c0
        have c1 := (HBW.out.cell (p := ⟨g, off + j * 2 + 1, none⟩) hg).trans c1
        have d0 := (HBW.out.cell (p := ⟨g2, off2 + j * 2, none⟩) hg2).trans d0
        have d1 := (HBW.out.cell (p := ⟨g2, off2 + j * 2 + 1, none⟩) hg2).trans d1
        have h64 := H70.out
        have ek1 : wrap64 ((j : Int) + 1) = ((j + 1 : Nat) : Int) := by unfold wrap64; omega
        have bi : (j : Int) < (n : Int) := by omega
        have bj : j < n := hlt
        have HLT := Lib.hid hlt
        obtain ⟨a, ha⟩ : ∃ a, a = el l j := ⟨_, rfl⟩
        obtain ⟨z, hz⟩ : ∃ z, z = el m j := ⟨_, rfl⟩
        rw [← ha] at c0 c1
        rw [← hz] at d0 d1
        have HAA := Lib.hid ha
        have HZZ := Lib.hid hz
        clear hj hlt hx0 hx1 h64 hg hc hg2 hc2 ha hz
        obtain ⟨a0, a1⟩ := a
        obtain ⟨z0, z1⟩ := z
        dsimp only at c0 c1 d0 d1
        have key : (a0 = z0 ∧ a1 = z1) ∨ ¬ (a0 = z0 ∧ a1 = z1) := Classical.em _
        rcases key with ⟨rfl, rfl⟩ | hne
        · have f0 : ((a0 : Int) == (a0 : Int)) = true := by simp
          have f1 : ((a1 : Int) == (a1 : Int)) = true := by simp
          go_upto_region 6 with fail
          go_quiet (fail)
          go_wp2_with fail
          try rw [ek1]
          go_roundw
          case rel => exact ⟨j + 1, HLT.out, rfl, fun i hi => by
            rcases Nat.lt_or_ge i j with h | h
            · exact HA.out i h
            · have : i = j := by omega
              rw [this, ← HAA.out, ← HZZ.out], below_drewN HBW.out _⟩
          case measure =>
            have := HLT.out
            show n - ((j + 1 : Nat) : Int).toNat < n - (j : Int).toNat
            omega
        · have hb0 : b = false := by
            rw [HB.out]
            refine decide_eq_false fun e => hne ?_
            have h1 := HAA.out
            rw [e, ← HZZ.out] at h1
            injection h1 with h1 h2
            exact ⟨h1, h2⟩
          subst hb0
          by_cases h0 : a0 = z0
          · have h1 : a1 ≠ z1 := fun e => hne ⟨h0, e⟩
            have f0 : ((a0 : Int) == (z0 : Int)) = true := by rw [h0]; simp
            have f1 : ((a1 : Int) == (z1 : Int)) = false := beq_false_of_ne (fun e => h1 (by omega))
            clear hne h0 h1
            go_upto_region 6 with fail
            go_quiet (fail)
            go_wp2_with fail
            go_ret
            exact ⟨rfl, below_drewN HBW.out _⟩
          · have f0 : ((a0 : Int) == (z0 : Int)) = false := beq_false_of_ne (fun e => h0 (by omega))
            clear hne h0
            go_upto_region 6 with fail
            go_quiet (fail)
            go_wp2_with fail
            go_ret
            exact ⟨rfl, below_drewN HBW.out _⟩
      · have hjn : n = j := by omega
        have tl : decide ((j : Int) < (n : Int)) = false := decide_eq_false (by omega)
        have tl' : decide (j < n) = false := decide_eq_false hlt
        have hb0 : b = true := by
          rw [HB.out]
          refine decide_eq_true ?_
          apply List.ext_getElem?
          intro i
          by_cases h : i < n
          · rw [el_get (by rw [← HN.out]; exact h), el_get (by rw [← HM.out]; exact h), HA.out i (by omega)]
          · rw [List.getElem?_eq_none (by rw [← HN.out]; omega), List.getElem?_eq_none (by rw [← HM.out]; omega)]
        subst hb0
        subst hjn
        clear hlt hj
        go_wp2_with fail
        go_ret
        exact ⟨rfl, HBW.out⟩
  · have hb0 : decide (l = m) = false := decide_eq_false fun e => hlen (by rw [e])
    rw [hb0]
    have te : ((l.length : Int) == (m.length : Int)) = false := beq_false_of_ne (fun e => hlen (by omega))
    generalize l.length = n1 at *
    generalize m.length = n2 at *
    clear hrr hss hb0 HRR HSS hlen
    go_enter Try.func20, Try.ntmps20
    go_wp2_with fail
    go_ret
    exact ⟨rfl, Below.refl _ _⟩
end Go.Proofs.Ytlbgpfddmkpakaa.Nu
