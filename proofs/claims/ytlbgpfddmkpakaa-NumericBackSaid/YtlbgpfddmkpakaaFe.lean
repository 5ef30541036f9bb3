/- Numeric: NumericTransforms, the walk. -/
import Derived.Test.YtlbgpfddmkpakaaFd
namespace Go.Proofs.Ytlbgpfddmkpakaa.Nu
open Go.RowKit
set_option linter.unusedVariables false
set_option linter.unusedSimpArgs false

theorem row_nil (w : World) : Row w (.slice none 0 0) [] := ⟨none, 0, rfl, Nat.le_refl _, .inl rfl⟩
theorem row32_nil (w : World) : Row32 w (.slice none 0 0) [] := ⟨none, 0, rfl, Nat.le_refl _, .inl rfl⟩
theorem log2_pow (k : Nat) : Nat.log2 (2 ^ k) = k := Nat.log2_two_pow
/-- What Twiddles, Transform, Spectrum give. -/
def twOf (n : Int) : List (Nat × Nat) × Int := if n ∈ pts then (twL n.toNat, 0) else ([], 4)
def trOf (b : Bool) (l : List (Nat × Nat)) : List (Nat × Nat) × Int := if (l.length : Int) ∈ pts then (if b then inv (Nat.log2 l.length) l else fft (Nat.log2 l.length) l, 0) else ([], 4)
def spOf (l : List Nat) : List Nat × Int := if (l.length : Int) ∈ pts then (spec (Nat.log2 l.length) l, 0) else ([], 4)
theorem pts_pos {n : Int} (h : n ∈ pts) : ((n.toNat : Nat) : Int) = n := by
  simp only [pts, List.mem_cons, List.not_mem_nil, or_false] at h; omega
theorem ptw_all (n : Int) (w : World) : Calls Try.prog 18 #[.int .i64 n] w fun e w' => ∃ v, e = .returned (.tuple #[v, .int .i64 (twOf n).2]) ∧ Row w' v (twOf n).1 ∧ Below w.heap.size w w' := by
  by_cases hp : n ∈ pts
  · have e := pts_pos hp
    have h := tw_all (n := n.toNat) (by rw [e]; exact hp) w
    unfold TwAt at h
    rw [e] at h
    refine h.mono ?_
    rintro e w' ⟨v, rfl, ho, hb⟩
    refine ⟨v, by simp [twOf, hp], ?_, hb⟩
    have h2 : Own 26 w.heap.size w' v (twL n.toNat) := by show w'.ownsRow _ _ _ _ (upto _ _).length _; rw [upto_length]; exact ho
    simpa [twOf, hp] using h2.row
  · rw [show twOf n = ([], 4) by simp [twOf, hp]]
    refine (tw_no hp w).mono ?_
    rintro e w' ⟨rfl, rfl⟩
    exact ⟨_, rfl, row_nil _, Below.refl _ _⟩
theorem rtw_all' (n : Int) (w : World) : Calls Try.prog 19 #[.int .i64 n] w fun e w' => ∃ v, e = .returned (.tuple #[v, .int .i64 (twOf n).2]) ∧ Row w' v (twOf n).1 ∧ Below w.heap.size w w' := by
  by_cases hp : n ∈ pts
  · have e := pts_pos hp
    have h := rtw_all (n := n.toNat) (by rw [e]; exact hp) w
    unfold RTwAt at h
    rw [e] at h
    refine h.mono ?_
    rintro e w' ⟨v, rfl, ho, hb⟩
    refine ⟨v, by simp [twOf, hp], ?_, hb⟩
    have h2 : Own 57 w.heap.size w' v (twL n.toNat) := by show w'.ownsRow _ _ _ _ (upto _ _).length _; rw [upto_length]; exact ho
    simpa [twOf, hp] using h2.row
  · rw [show twOf n = ([], 4) by simp [twOf, hp]]
    refine (rtw_no hp w).mono ?_
    rintro e w' ⟨rfl, rfl⟩
    exact ⟨_, rfl, row_nil _, Below.refl _ _⟩
theorem ptr_all (b : Bool) (v : Value) (l : List (Nat × Nat)) (w : World) (hr : Row w v l) : Calls Try.prog 21 #[v, .bool b] w fun e w' => ∃ v', e = .returned (.tuple #[v', .int .i64 (trOf b l).2]) ∧ Row w' v' (trOf b l).1 ∧ Below w.heap.size w w' := by
  by_cases hp : (l.length : Int) ∈ pts
  · obtain ⟨k, hk, hl⟩ := pts_pow hp
    have e1 : (trOf b l).2 = 0 := by simp [trOf, hp]
    have e2 : (trOf b l).1 = if b then inv k l else fft k l := by simp only [trOf, hp, if_true]; rw [hl, log2_pow]
    rw [e1, e2]
    cases b with
    | true =>
      refine (ptransform_inv k hk v l w hr hl).mono ?_
      rintro e w' ⟨v', rfl, ho, hb⟩
      exact ⟨v', rfl, ho.row, hb⟩
    | false =>
      refine (ptransform_fwd k hk v l w hr hl).mono ?_
      rintro e w' ⟨v', rfl, ho, hb⟩
      exact ⟨v', rfl, ho.row, hb⟩
  · have e1 : trOf b l = ([], 4) := by simp [trOf, hp]
    rw [e1]
    obtain ⟨p, cap, rfl, _⟩ := hr
    refine (ptransform_no p _ cap b w hp).mono ?_
    rintro e w' ⟨rfl, rfl⟩
    exact ⟨_, rfl, row_nil _, Below.refl _ _⟩
theorem rtr_all (b : Bool) (v : Value) (l : List (Nat × Nat)) (w : World) (hr : Row w v l) : Calls Try.prog 23 #[v, .bool b] w fun e w' => ∃ v', e = .returned (.tuple #[v', .int .i64 (trOf b l).2]) ∧ Row w' v' (trOf b l).1 ∧ Below w.heap.size w w' := by
  by_cases hp : (l.length : Int) ∈ pts
  · obtain ⟨k, hk, hl⟩ := pts_pow hp
    have e1 : (trOf b l).2 = 0 := by simp [trOf, hp]
    have e2 : (trOf b l).1 = if b then inv k l else fft k l := by simp only [trOf, hp, if_true]; rw [hl, log2_pow]
    rw [e1, e2]
    cases b with
    | true =>
      refine (rtransform_inv k hk v l w hr hl).mono ?_
      rintro e w' ⟨v', rfl, ho, hb⟩
      exact ⟨v', rfl, ho.row, hb⟩
    | false =>
      refine (rtransform_fwd k hk v l w hr hl).mono ?_
      rintro e w' ⟨v', rfl, ho, hb⟩
      exact ⟨v', rfl, ho.row, hb⟩
  · have e1 : trOf b l = ([], 4) := by simp [trOf, hp]
    rw [e1]
    obtain ⟨p, cap, rfl, _⟩ := hr
    refine (rtransform_no p _ cap b w hp).mono ?_
    rintro e w' ⟨rfl, rfl⟩
    exact ⟨_, rfl, row_nil _, Below.refl _ _⟩
theorem sp_post {l : List Nat} {w : World} {e : Ending} {w' : World} (h : SpecPost l w e w') : ∃ v', e = .returned (.tuple #[v', .int .i64 (spOf l).2]) ∧ Row32 w' v' (spOf l).1 ∧ Below w.heap.size w w' := by
  obtain ⟨h1, h2, h3⟩ := h
  by_cases hp : (l.length : Int) ∈ pts
  · obtain ⟨k, hk, hl⟩ := pts_pow hp
    obtain ⟨v', rfl, ho⟩ := h2 k hk hl
    refine ⟨v', by simp [spOf, hp], ?_, h3⟩
    have e2 : (spOf l).1 = spec k l := by simp only [spOf, hp, if_true]; rw [hl, log2_pow]
    rw [e2]
    exact OwnU.row ho
  · rw [show spOf l = ([], 4) by simp [spOf, hp]]
    exact ⟨_, h1 hp, row32_nil _, h3⟩
theorem tr_len (b : Bool) (l : List (Nat × Nat)) : (trOf b l).1.length ≤ 1000 := by
  by_cases hp : (l.length : Int) ∈ pts
  · obtain ⟨k, hk, hl⟩ := pts_pow hp
    have : 2 ^ k ≤ 2 ^ 6 := Nat.pow_le_pow_right (by decide) hk
    have e2 : (trOf b l).1 = if b then inv k l else fft k l := by simp only [trOf, hp, if_true]; rw [hl, log2_pow]
    rw [e2]
    cases b
    · rw [if_neg (by decide), fft_length]; omega
    · rw [if_pos rfl]; unfold inv; rw [upto_length]; omega
  · simp [trOf, hp]
theorem sp_len (l : List Nat) : (spOf l).1.length ≤ 1000 := by
  by_cases hp : (l.length : Int) ∈ pts
  · obtain ⟨k, hk, hl⟩ := pts_pow hp
    have : 2 ^ k ≤ 2 ^ 6 := Nat.pow_le_pow_right (by decide) hk
    have e2 : (spOf l).1 = spec k l := by simp only [spOf, hp, if_true]; rw [hl, log2_pow]
    rw [e2]
    unfold spec; rw [upto_length]; omega
  · simp [spOf, hp]
theorem tw_len (n : Int) : (twOf n).1.length ≤ 1000 := by
  by_cases hp : n ∈ pts
  · have e2 : (twOf n).1 = twL n.toNat := by simp [twOf, hp]
    rw [e2, upto_length]
    have := pts_pos hp
    simp only [pts, List.mem_cons, List.not_mem_nil, or_false] at hp; omega
  · simp [twOf, hp]
set_option maxRecDepth 100000 in
set_option maxHeartbeats 8000000 in
theorem transforms_walk (n : Int) (v u : Value) (l : List (Nat × Nat)) (s : List Nat) (b : Bool) (w : World) (hr : Row w v l) (hs : Row32 w u s) :
    Calls Try.prog 4 #[.int .i64 n, v, u, .bool b] w fun e w' => e = .returned (.bool true) ∧ Below w.heap.size w w' := by
  have HR := Lib.hid hr
  have HS := Lib.hid hs
  obtain ⟨p, cap, rfl, _⟩ := hr
  obtain ⟨q, cap2, rfl, _⟩ := hs
  obtain ⟨N, hN⟩ : ∃ N, N = l.length := ⟨_, rfl⟩
  obtain ⟨M, hM⟩ : ∃ M, M = s.length := ⟨_, rfl⟩
  rw [← hN] at HR ⊢
  rw [← hM] at HS ⊢
  have HN := Lib.hid hN
  have HM := Lib.hid hM
  clear hN hM
  by_cases h1 : 70 < N
  · have t1 : decide (70 < (N : Int)) = true := decide_eq_true (by omega)
    clear h1
    go_enter Try.func4, Try.ntmps4
    go_wp2_with fail
    refine (awake_at _).mono ?_
    rintro e w1 ⟨rfl, hb⟩
    have HB := Lib.hid hb
    clear hb
    go_wp2_with fail
    go_ret
    exact ⟨rfl, HB.out⟩
  · have t1 : decide (70 < (N : Int)) = false := decide_eq_false (by omega)
    by_cases h2 : 70 < M
    · have t2 : decide (70 < (M : Int)) = true := decide_eq_true (by omega)
      clear h1 h2
      go_enter Try.func4, Try.ntmps4
      go_wp2_with fail
      refine (awake_at _).mono ?_
      rintro e w1 ⟨rfl, hb⟩
      have HB := Lib.hid hb
      clear hb
      go_wp2_with fail
      go_ret
      exact ⟨rfl, HB.out⟩
    · have t2 : decide (70 < (M : Int)) = false := decide_eq_false (by omega)
      have HN70 : Hid (l.length ≤ 70) := by have := HN.out; show _ ≤ _; omega
      have HM70 : Hid (s.length ≤ 70) := by have := HM.out; show _ ≤ _; omega
      clear h1 h2
      go_enter Try.func4, Try.ntmps4
      go_wp2_with fail
      refine (ptw_all n _).mono ?_
      rintro e w1 ⟨va, rfl, hra, hb⟩
      have HB1 := Lib.hid hb
      have HA := Lib.hid hra
      clear hb hra
      go_wp2_with fail
      refine (rtw_all' n _).mono ?_
      rintro e w2 ⟨vb, rfl, hrb, hb⟩
      have HB2 := Lib.hid (HB1.out.trans (hb.mono HB1.out.size))
      have HA2 := Lib.hid (HA.out.below hb)
      have HBB := Lib.hid hrb
      clear hb hrb
      have htl := Lib.hid (tw_len n)
      generalize (twOf n).1 = TL at *
      generalize (twOf n).2 = te at *
      go_wp2_with fail
      refine (alike_at va vb TL TL _ HA2.out HBB.out htl.out).mono ?_
      rintro e w3 ⟨rfl, hb⟩
      have HB3 := Lib.hid (HB2.out.trans (hb.mono HB2.out.size))
      clear hb
      rw [decide_eq_true (rfl : TL = TL)]
      have t3 : (te == te) = true := by simp
      have t4 : (te != te) = false := by simp
      go_wp2_with fail
      refine (given_at _ l _ (HR.out.below HB3.out) (by have := HN70.out; omega)).mono ?_
      rintro e w4 ⟨vg, rfl, ho, hb⟩
      have HB4 := Lib.hid (HB3.out.trans (hb.mono HB3.out.size))
      have HO4 := Lib.hid ho.row
      clear hb ho
      go_wp2_with fail
      refine (ptr_all b vg l _ HO4.out).mono ?_
      rintro e w5 ⟨v5, rfl, hr5, hb⟩
      have HB5 := Lib.hid (HB4.out.trans (hb.mono HB4.out.size))
      have HR5 := Lib.hid hr5
      clear hb hr5
      go_wp2_with fail
      refine (own_at _ l _ (HR.out.below HB5.out) (by have := HN70.out; omega)).mono ?_
      rintro e w6 ⟨vg2, rfl, ho, hb⟩
      have HB6 := Lib.hid (HB5.out.trans (hb.mono HB5.out.size))
      have HO6 := Lib.hid ho.row
      have HR6 := Lib.hid (HR5.out.below hb)
      clear hb ho
      go_wp2_with fail
      refine (rtr_all b vg2 l _ HO6.out).mono ?_
      rintro e w7 ⟨v7, rfl, hr7, hb⟩
      have HB7 := Lib.hid (HB6.out.trans (hb.mono HB6.out.size))
      have HR7 := Lib.hid hr7
      have HR57 := Lib.hid (HR6.out.below hb)
      clear hb hr7
      go_wp2_with fail
      refine (spectrum_at _ s _ (HS.out.below HB7.out) HM70.out).mono ?_
      intro e w8 hsp
      obtain ⟨v8, rfl, hr8, hb⟩ := sp_post hsp
      have HB8 := Lib.hid (HB7.out.trans (hb.mono HB7.out.size))
      have HR8 := Lib.hid hr8
      have HR58 := Lib.hid (HR57.out.below hb)
      have HR78 := Lib.hid (HR7.out.below hb)
      clear hb hr8 hsp
      go_wp2_with fail
      refine (rspectrum_at _ s _ (HS.out.below HB8.out) HM70.out).mono ?_
      intro e w9 hsp
      obtain ⟨v9, rfl, hr9, hb⟩ := sp_post hsp
      have HB9 := Lib.hid (HB8.out.trans (hb.mono HB8.out.size))
      have HR9 := Lib.hid hr9
      have HR59 := Lib.hid (HR58.out.below hb)
      have HR79 := Lib.hid (HR78.out.below hb)
      have HR89 := Lib.hid (HR8.out.below hb)
      clear hb hr9 hsp
      have htr := Lib.hid (tr_len b l)
      have hsp := Lib.hid (sp_len s)
      generalize (trOf b l).1 = RL at *
      generalize (trOf b l).2 = re at *
      generalize (spOf s).1 = SL at *
      generalize (spOf s).2 = se at *
      have t5 : (re == re) = true := by simp
      have t6 : (se == se) = true := by simp
      go_wp2_with fail
      refine (alike_at v5 v7 RL RL _ HR59.out HR79.out htr.out).mono ?_
      rintro e w10 ⟨rfl, hb⟩
      have HB10 := Lib.hid (HB9.out.trans (hb.mono HB9.out.size))
      have HRA := Lib.hid (HR89.out.below hb)
      have HRB := Lib.hid (HR9.out.below hb)
      clear hb
      rw [decide_eq_true (rfl : RL = RL)]
      go_wp2_with fail
      refine (eq32_at v8 v9 SL SL _ HRA.out HRB.out hsp.out).mono ?_
      rintro e w11 ⟨rfl, hb⟩
      have HB11 := Lib.hid (HB10.out.trans (hb.mono HB10.out.size))
      clear hb
      rw [decide_eq_true (rfl : SL = SL)]
      go_wp2_with fail
      refine (awake_at _).mono ?_
      rintro e w12 ⟨rfl, hb⟩
      have HB12 := Lib.hid (HB11.out.trans (hb.mono HB11.out.size))
      clear hb
      go_wp2_with fail
      go_ret
      exact ⟨rfl, HB12.out⟩
end Go.Proofs.Ytlbgpfddmkpakaa.Nu
