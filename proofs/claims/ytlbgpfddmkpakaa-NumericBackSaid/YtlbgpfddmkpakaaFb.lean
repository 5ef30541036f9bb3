/- Numeric: Equal of words; awake. -/
import Derived.Test.YtlbgpfddmkpakaaFa
namespace Go.Proofs.Ytlbgpfddmkpakaa.Nu
open Go.RowKit
set_option linter.unusedVariables false
set_option linter.unusedSimpArgs false

theorem getD_get {l : List Nat} {j : Nat} (h : j < l.length) : l[j]? = some (l.getD j 0) := by
  rw [List.getD_eq_getElem?_getD, List.getElem?_eq_getElem h]; rfl
set_option maxRecDepth 100000 in
set_option maxHeartbeats 4000000 in
theorem eq32_at (v u : Value) (l m : List Nat) (w : World) (hr : Row32 w v l) (hs : Row32 w u m) (h70 : l.length ≤ 1000) :
    Calls Try.prog 27 #[v, u] w fun e w' => e = .returned (.bool (decide (l = m))) ∧ Below w.heap.size w w' := by
  obtain ⟨p, cap, rfl, hcap, hrr⟩ := hr
  obtain ⟨q, cap2, rfl, hcap2, hss⟩ := hs
  have HRR := Lib.hid hrr
  have HSS := Lib.hid hss
  by_cases hlen : l.length = m.length
  · rw [← hlen] at hcap2 ⊢
    obtain ⟨n, hn⟩ : ∃ n, n = l.length := ⟨_, rfl⟩
    have HN := Lib.hid hn
    have HM : Hid (n = m.length) := hn.trans hlen
    rw [← hn] at h70 hcap hcap2 ⊢
    have H70 := Lib.hid h70
    obtain ⟨b, hb⟩ : ∃ b, b = decide (l = m) := ⟨_, rfl⟩
    rw [← hb]
    have HB := Lib.hid hb
    clear hrr hss hn h70 hlen hb
    have te : ((n : Int) == (n : Int)) = true := by simp
    go_enter Try.func27, Try.ntmps27
    go_wp2_with fail
    go_loopw [5, 13] (fun _ s13 wr => ∃ j : Nat, j ≤ n ∧ s13 = .int .i64 j ∧ (∀ i, i < j → l.getD i 0 = m.getD i 0) ∧ Below w.heap.size w wr) (fun _ s13 _ => n - (intOf s13).toNat)
    case atStart => exact ⟨0, Nat.zero_le _, rfl, fun i hi => absurd hi (Nat.not_lt_zero _), Below.refl _ _⟩
    case round =>
      obtain ⟨j, hj, rfl, hall, hbw⟩ := hrel
      have HA := Lib.hid hall
      have HBW := Lib.hid hbw
      clear hall hbw
      by_cases hlt : j < n
      · have tl : decide ((j : Int) < (n : Int)) = true := decide_eq_true (by omega)
        have tl' : decide (j < n) = true := decide_eq_true hlt
        rcases HRR.out with h | ⟨g, off, rfl, hg, hc⟩
        · exfalso; have := HN.out; rw [h] at this; simp only [List.length_nil] at this; omega
        rcases HSS.out with h | ⟨g2, off2, rfl, hg2, hc2⟩
        · exfalso; have := HM.out; rw [h] at this; simp only [List.length_nil] at this; omega
        have hx0 : l[j]? = some (l.getD j 0) := getD_get (by rw [← HN.out]; exact hlt)
        have hx1 : m[j]? = some (m.getD j 0) := getD_get (by rw [← HM.out]; exact hlt)
        have c0 := hc _ _ hx0
        have d0 := hc2 _ _ hx1
        have c0 := (HBW.out.cell (p := ⟨g, off + j, none⟩) hg).trans c0
        have d0 := (HBW.out.cell (p := ⟨g2, off2 + j, none⟩) hg2).trans d0
        have h64 := H70.out
        have ek1 : wrap64 ((j : Int) + 1) = ((j + 1 : Nat) : Int) := by unfold wrap64; omega
        have bi : (j : Int) < (n : Int) := by omega
        have bj : j < n := hlt
        have HLT := Lib.hid hlt
        obtain ⟨a, ha⟩ : ∃ a, a = l.getD j 0 := ⟨_, rfl⟩
        obtain ⟨z, hz⟩ : ∃ z, z = m.getD j 0 := ⟨_, rfl⟩
        rw [← ha] at c0
        rw [← hz] at d0
        have HAA := Lib.hid ha
        have HZZ := Lib.hid hz
        clear hj hlt hx0 hx1 h64 hg hc hg2 hc2 ha hz
        rcases Classical.em (a = z) with rfl | hne
        · have f0 : ((a : Int) == (a : Int)) = true := by simp
          go_upto_region 6 with fail
          go_quiet (fail)
          go_wp2_with fail
          try rw [ek1]
          go_roundw
          case rel => exact ⟨j + 1, HLT.out, rfl, fun i hi => by
            rcases Nat.lt_or_ge i j with h | h
            · exact HA.out i h
            · have : i = j := by omega
              rw [this, ← HAA.out, ← HZZ.out], below_drewN HBW.out _⟩
          case measure =>
            have := HLT.out
            show n - ((j + 1 : Nat) : Int).toNat < n - (j : Int).toNat
            omega
        · have hb0 : b = false := by
            rw [HB.out]
            refine decide_eq_false fun e => hne ?_
            have h1 := HAA.out
            rw [e, ← HZZ.out] at h1
            exact h1
          subst hb0
          have f0 : ((a : Int) == (z : Int)) = false := beq_false_of_ne (fun e => hne (by omega))
          clear hne
          go_upto_region 6 with fail
          go_quiet (fail)
          go_wp2_with fail
          go_ret
          exact ⟨rfl, below_drewN HBW.out _⟩
      · have hjn : n = j := by omega
        have tl : decide ((j : Int) < (n : Int)) = false := decide_eq_false (by omega)
        have tl' : decide (j < n) = false := decide_eq_false hlt
        have hb0 : b = true := by
          rw [HB.out]
          refine decide_eq_true ?_
          apply List.ext_getElem?
          intro i
          by_cases h : i < n
          · rw [getD_get (l := l) (by rw [← HN.out]; exact h), getD_get (l := m) (by rw [← HM.out]; exact h), HA.out i (by omega)]
          · rw [List.getElem?_eq_none (by rw [← HN.out]; omega), List.getElem?_eq_none (by rw [← HM.out]; omega)]
        subst hb0
        subst hjn
        clear hlt hj
        go_wp2_with fail
        go_ret
        exact ⟨rfl, HBW.out⟩
  · have hb0 : decide (l = m) = false := decide_eq_false fun e => hlen (by rw [e])
    rw [hb0]
    have te : ((l.length : Int) == (m.length : Int)) = false := beq_false_of_ne (fun e => hlen (by omega))
    generalize l.length = n1 at *
    generalize m.length = n2 at *
    clear hrr hss hb0 HRR HSS hlen
    go_enter Try.func27, Try.ntmps27
    go_wp2_with fail
    go_ret
    exact ⟨rfl, Below.refl _ _⟩
end Go.Proofs.Ytlbgpfddmkpakaa.Nu
