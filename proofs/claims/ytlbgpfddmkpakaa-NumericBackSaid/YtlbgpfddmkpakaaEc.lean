/- Numeric: the program's transform, a step. -/
import Derived.Test.YtlbgpfddmkpakaaEb
namespace Go.Proofs.Ytlbgpfddmkpakaa.Nu
open Go.RowKit
set_option linter.unusedVariables false
set_option linter.unusedSimpArgs false

theorem own_map {e : TypeId} {B : Nat} {W : World} {v : Value} {L : List (Nat × Nat)} (h : Own e B W v L) {r : Nat} (hm : ∃ es c, W.heap[r]? = some (.map es c)) : v.ownBlock = none ∨ v.ownBlock ≠ some r := by
  rcases h.2 with ⟨rfl, _⟩ | ⟨g, cap, cur, rfl, _, hg, _⟩
  · exact .inl rfl
  · right
    intro e
    injection e with e
    obtain ⟨es, c, hm⟩ := hm
    dsimp only at e
    rw [e, hm] at hg
    cases hg
theorem Own.grown {e : TypeId} {B : Nat} {W W' : World} {v : Value} {L : List (Nat × Nat)} (h : Own e B W v L) {r : Nat} (hm : ∃ es c, W.heap[r]? = some (.map es c)) (hg : W.grownBy W' (some r)) : Own e B W' v L :=
  h.kept hg (own_map h hm)
theorem mk_row (W0 : World) (n : Nat) (hn : n ≤ 1000) : ∃ W', (Instr.makeSlice 39 (.int .i64 n) (.int .i64 n)).run Try.prog W0 = .ok (.slice (some ⟨W0.heap.size, 0, none⟩) n n) W' ∧
    TN 26 W0 (.slice (some ⟨W0.heap.size, 0, none⟩) n n) (upto (fun _ => (0, 0)) n) (.slice none 0 0) [] [] W' := by
  obtain ⟨i0, hi, hz0, hz1, hz2⟩ := info_parts info26
  obtain ⟨W', h1, h2, h3⟩ := run_makeSlice_full (P := Try.prog) W0 W0.heap.size 39 26 i0 (.agg #[.int .u32 0, .int .u32 0]) 2 und39 hi hz0 hz1 .i64 .i64 n (by omega) (by rw [hz2]; omega) (by unfold maxLen; omega) (Nat.le_refl _)
  refine ⟨W', h1, ⟨⟨h3.os, h3.tape, h3.output, h3.size, fun k hk => h3.block k hk (by simp)⟩, ?_, own_nil _ _ _, (fun g _ h => by cases h), (fun y hy => by cases hy), (fun y hy => by cases hy)⟩⟩
  have e : (madeCells (Value.agg #[.int .u32 0, .int .u32 0]).cells (n * 2)).toList = cellsN (upto (fun _ => (0, 0)) n) := by
    rw [cellsN_zeros]
    refine List.eq_replicate_iff.2 ⟨by simp [madeCells], fun x hx => ?_⟩
    simp only [madeCells, Array.toList_map, List.mem_map] at hx
    obtain ⟨j, _, rfl⟩ := hx
    have hj : j % 2 < 2 := Nat.mod_lt _ (by decide)
    show (#[Value.int .u32 0, Value.int .u32 0])[j % 2]! = _
    rcases Nat.lt_or_ge (j % 2) 1 with h | h
    · rw [show j % 2 = 0 by omega]; rfl
    · rw [show j % 2 = 1 by omega]; rfl
  rw [e] at h2
  show W'.ownsRow W0.heap.size 26 2 _ (upto (fun _ => (0, 0)) n).length _
  rw [upto_length]
  exact h2
section
variable {e st : TypeId} {W0 : World} {u : Value} {xs : List (Nat × Nat)} {v : Value} {ys : List (Nat × Nat)} {fr : List (Nat × Nat × Nat)} {W W' : World}
theorem TN.twoG (h : TN e W0 u xs v ys fr W) {g off g' j : Nat} {l l' : List (Nat × Nat)} {p p' : Nat × Nat} (r : Rd W0 g off l) (r' : Rd W0 g' 0 l') (hj : l[j]? = some p) (hj' : l'[j]? = some p') :
    W.cell? ⟨g, off + j * 2, none⟩ = some (.int .u32 p.1) ∧ W.cell? ⟨g, off + j * 2 + 1, none⟩ = some (.int .u32 p.2) ∧ W.cell? ⟨g', j * 2, none⟩ = some (.int .u32 p'.1) ∧ W.cell? ⟨g', j * 2 + 1, none⟩ = some (.int .u32 p'.2) :=
  ⟨((h.rd r).2 _ _ hj).1, ((h.rd r).2 _ _ hj).2, ((h.rd r').get0 hj').1, ((h.rd r').get0 hj').2⟩
end
theorem pmulc_at (a b c d : Nat) (w : World) : Calls Try.prog 10 #[.agg #[.int .u32 a, .int .u32 b], .agg #[.int .u32 c, .int .u32 d]] w fun e w' => ∃ pa pb : Nat, e = .returned (.agg #[.int .u32 pa, .int .u32 pb]) ∧ (pa, pb) = mulc (a, b) (c, d) ∧ Below w.heap.size w w' := mulc_at a b c d w

set_option maxRecDepth 100000 in
set_option maxHeartbeats 16000000 in
theorem transform_tail (k : Nat) (ih : ∀ (v : Value) (l : List (Nat × Nat)) (r : Nat) (w : World), Row w v l → l.length = 2 ^ k → FMap w r → TrAt k v l r w)
    (v : Value) (l : List (Nat × Nat)) (r : Nat) (w : World) (hk : k ≤ 5) (hr : Row w v l) (hl : l.length = 2 ^ (k + 1)) (hm : FMap w r) : TrAt (k + 1) v l r w := by
  have IH := Lib.hid ih
  have hk1 := Nat.one_le_two_pow (n := k)
  obtain ⟨M, hM⟩ : ∃ M, M = 2 ^ k := ⟨_, rfl⟩
  have hM32 : M ≤ 32 := by rw [hM]; exact Nat.pow_le_pow_right (by decide) hk
  obtain ⟨n, hn⟩ : ∃ n, n = l.length := ⟨_, rfl⟩
  have hnM : n = 2 * M := by rw [hn, hl, Nat.pow_succ, hM]; omega
  have hpts : (n : Int) ∈ pts := by rw [hn, hl]; exact pow_pts (by omega)
  have HR := Lib.hid hr
  have HNE : Hid (l ≠ []) := by intro e; rw [e] at hl; have := Nat.one_le_two_pow (n := k + 1); simp only [List.length_nil] at hl; omega
  obtain ⟨p, cap, rfl, hcap, hrd⟩ := hr
  have HL := Lib.hid hl
  have HN := Lib.hid hn
  rw [← hn] at HR ⊢
  have h2 : 2 ≤ n := by omega
  have t1 : ((n : Int) == 1) = false := by simp; omega
  have HM := Lib.hid hM
  have HNM := Lib.hid hnM
  have HP := Lib.hid hpts
  have H1 := Lib.hid (show 1 ≤ M by omega)
  have HM32 := Lib.hid hM32
  have HF := Lib.hid hm
  have HLK := Lib.hid (hm.look hpts)
  have lh0 := Lib.hid (halfOf_length (a := 0) (by decide) hl)
  have lh1 := Lib.hid (halfOf_length (a := 1) (by decide) hl)
  clear ih hl hn hk1 hM hnM hpts hM32 hcap hk hrd hm
  rcases HLK.out with ⟨vw, hrow, hlk⟩ | ⟨hlk, hput⟩
  · have HRW := Lib.hid hrow
    have HG : Hid (w.grownBy w (some r)) := Below.toGrown (Below.refl _ _) _
    clear hrow HLK
    go_enter Try.func49, Try.ntmps49
    go_upto_region 8 with fail
    clear hlk
    go_wp2_with fail
    refine (every_at _ _ _ 0 _).mono ?_
    rintro e W3 ⟨Bf, Bs, rfl, hf, hs, hb3⟩
    have HF3 := Lib.hid (HF.out.step hb3)
    have HR3 := Lib.hid (HR.out.below hb3)
    have HG3 := Lib.hid (Grown.trans HG.out (Below.toGrown hb3 _))
    have HRW3 := Lib.hid (HRW.out.below hb3)
    have HC3 := Lib.hid (And.intro hf hs)
    have hlen : l.length ≤ 1000 := by have h1 := HN.out; have h2 := HNM.out; have h3 := HM32.out; omega
    have HLEN := Lib.hid hlen
    clear hf hs hb3 HF HR HG HRW hlen
    go_wp2_with fail
    refine (halves_at Bf Bs 0 HNE.out HLEN.out (by decide) W3 HR3.out HC3.out.1 HC3.out.2).mono ?_
    rintro e W4 ⟨vE, rfl, ho4, hb4⟩
    have HF4 := Lib.hid (HF3.out.step hb4)
    have HR4 := Lib.hid (HR3.out.below hb4)
    have HG4 := Lib.hid (Grown.trans HG3.out (Below.toGrown hb4 _))
    have HRW4 := Lib.hid (HRW3.out.below hb4)
    have HO4 := Lib.hid ho4
    clear ho4 hb4 HF3 HR3 HG3 HRW3 HC3
    go_wp2_with fail
    refine (IH.out _ _ r _ HO4.out.row lh0.out HF4.out).mono ?_
    rintro e W5 ⟨ve, rfl, ho5, hg5, hf5⟩
    have HF5 := Lib.hid hf5
    have HR5 := Lib.hid (HR4.out.grown HF4.out.isMap hg5)
    have HG5 := Lib.hid (Grown.trans HG4.out hg5)
    have HRW5 := Lib.hid (HRW4.out.grown HF4.out.isMap hg5)
    have HO5 := Lib.hid ho5
    clear ho5 hg5 hf5 HF4 HR4 HG4 HRW4 HO4
    go_wp2_with fail
    refine (every_at _ _ _ 1 _).mono ?_
    rintro e W6 ⟨Bf', Bs', rfl, hf, hs, hb6⟩
    have HF6 := Lib.hid (HF5.out.step hb6)
    have HR6 := Lib.hid (HR5.out.below hb6)
    have HG6 := Lib.hid (Grown.trans HG5.out (Below.toGrown hb6 _))
    have HRW6 := Lib.hid (HRW5.out.below hb6)
    have HC6 := Lib.hid (And.intro hf hs)
    have HO6 : Hid (Own 26 W4.heap.size W6 ve (fft k (halfOf l 0))) := own_step HO5.out hb6
    clear hf hs hb6 HF5 HR5 HG5 HRW5 HO5
    go_wp2_with fail
    refine (halves_at Bf' Bs' 1 HNE.out HLEN.out (by decide) W6 HR6.out HC6.out.1 HC6.out.2).mono ?_
    rintro e W7 ⟨vO, rfl, ho7, hb7⟩
    have HF7 := Lib.hid (HF6.out.step hb7)
    have HG7 := Lib.hid (Grown.trans HG6.out (Below.toGrown hb7 _))
    have HRW7 := Lib.hid (HRW6.out.below hb7)
    have HO7 := Lib.hid ho7
    have HE7 : Hid (Own 26 W4.heap.size W7 ve (fft k (halfOf l 0))) := own_step HO6.out hb7
    clear ho7 hb7 HF6 HR6 HG6 HRW6 HC6 HO6
    go_wp2_with fail
    refine (IH.out _ _ r _ HO7.out.row lh1.out HF7.out).mono ?_
    rintro e W8 ⟨vo, rfl, ho8, hg8, hf8⟩
    have HF8 := Lib.hid hf8
    have HG8 := Lib.hid (Grown.trans HG7.out hg8)
    have hw8 := HRW7.out.grown HF7.out.isMap hg8
    have he8 : Own 26 W4.heap.size W8 ve (fft k (halfOf l 0)) := Own.grown HE7.out HF7.out.isMap hg8
    have k1 := fft_length k (halfOf l 0)
    have k2 := fft_length k (halfOf l 1)
    rw [← HM.out] at k1 k2
    obtain ⟨E, hE⟩ : ∃ E, E = fft k (halfOf l 0) := ⟨_, rfl⟩
    obtain ⟨O, hO⟩ : ∃ O, O = fft k (halfOf l 1) := ⟨_, rfl⟩
    have HFF : Hid (fft (k + 1) l = upto (fun j => addc (el E j) (mulc (tw (wOf n) j) (el O j))) M ++ upto (fun j => subc (el E j) (mulc (tw (wOf n) j) (el O j))) M) := by
      show _ = _
      rw [hE, hO, HN.out, HL.out, HM.out]
      rfl
    rw [← hE] at he8 k1
    rw [← hO] at ho8 k2
    have hj1 := H1.out
    have q1 := Own.rd he8 (by intro e; rw [e] at k1; simp only [List.length_nil] at k1; omega)
    have q2 := Own.rd ho8 (by intro e; rw [e] at k2; simp only [List.length_nil] at k2; omega)
    have q3 := Row.rd hw8 (by intro e; have := congrArg List.length e; rw [upto_length] at this; simp only [List.length_nil] at this; omega)
    rw [k1] at q1
    rw [k2] at q2
    rw [upto_length] at q3
    obtain ⟨ge, ce, rfl, l1, _, r1⟩ := q1
    obtain ⟨gO, cO, rfl, l2, _, r2⟩ := q2
    obtain ⟨gw, ow, cw, rfl, l3, r3⟩ := q3
    have R1 := Lib.hid r1
    have R2 := Lib.hid r2
    have R3 := Lib.hid r3
    have K1 := Lib.hid k1
    have K2 := Lib.hid k2
    have ed : (n : Int) / 2 = (M : Int) := by have := HNM.out; omega
    have ed2 : (n : Int).tdiv 2 = (M : Int) := by rw [Int.tdiv_eq_ediv_of_nonneg (by omega)]; exact ed
    have ew : wrap64 (M : Int) = (M : Int) := by have := HM32.out; unfold wrap64; clear ed ed2; omega
    clear ho8 hg8 hf8 hw8 he8 k1 k2 hE hO r1 r2 r3 hj1 l1 l2 l3 HF7 HG7 HRW7 HO7 HE7 lh0 lh1 HLEN HNE
    obtain ⟨f1, hf1⟩ : ∃ f : Nat → Nat × Nat, f = fun j => addc (el E j) (mulc (tw (wOf n) j) (el O j)) := ⟨_, rfl⟩
    obtain ⟨f2, hf2⟩ : ∃ f : Nat → Nat × Nat, f = fun j => subc (el E j) (mulc (tw (wOf n) j) (el O j)) := ⟨_, rfl⟩
    have HFF' := Lib.hid HFF.out
    rw [← hf1, ← hf2, ← outL_end] at HFF'
    have F1 := Lib.hid hf1
    have F2 := Lib.hid hf2
    clear HFF hf1 hf2
    obtain ⟨W9, hmk, ht9⟩ := mk_row W8 n (by have h2 := HNM.out; have h3 := HM32.out; clear ed ed2 ew; omega)
    rw [show upto (fun _ => (0, 0)) n = outL f1 f2 M 0 from by rw [outL_zero, HNM.out]] at ht9
    have HT := Lib.hid ht9
    go_upto_region 10 with fail
    clear hmk ht9
    obtain ⟨G, hG⟩ : ∃ G, G = W8.heap.size := ⟨_, rfl⟩
    rw [← hG] at HT ⊢
    have HGG : Hid (W8.heap.size = G) := hG.symm
    clear hG
    go_wp2_with fail
    try rw [ew]
    have ED := Lib.hid (And.intro ed (And.intro ed2 ew))
    go_loopw [52] (fun s52 wr => ∃ m : Nat, m ≤ M ∧ s52 = .int .i64 m ∧ TN 26 W8 (.slice (some ⟨G, 0, none⟩) n n) (outL f1 f2 M m) (.slice none 0 0) [] [] wr) (fun s52 _ => M - (intOf s52).toNat)
    case atStart => exact ⟨0, Nat.zero_le _, rfl, HT.out⟩
    case round =>
      obtain ⟨m, hm, rfl, ht⟩ := hrel
      have HT1 := Lib.hid ht
      clear ht HT ed ed2 ew
      by_cases hlt : m < M
      · have tm : decide ((m : Int) < (M : Int)) = true := decide_eq_true (by omega)
        have tm' : decide (m < M) = true := decide_eq_true hlt
        have hb32 := HM32.out
        have hnm := HNM.out
        have ek1 : wrap64 ((m : Int) + 1) = ((m + 1 : Nat) : Int) := by unfold wrap64; omega
        have bi : (m : Int) < (n : Int) := by omega
        have bi1 : (m : Int) < (M : Int) := by omega
        have bin : m < n := by omega
        have bmM : m + M < n := by omega
        have ekM : wrap64 ((m : Int) + (M : Int)) = ((m + M : Nat) : Int) := by unfold wrap64; omega
        have bi2 : ((m + M : Nat) : Int) < (n : Int) := by omega
        have en2 : ((m + M : Nat) : Int).toNat = m + M := by omega
        have hx0 := el_get (l := E) (j := m) (by rw [K1.out]; exact hlt)
        have hx1 := el_get (l := O) (j := m) (by rw [K2.out]; exact hlt)
        have hx2 := upto_get (tw (wOf n)) (k := n) (j := m) bin
        have hv1 : f1 m = addc (el E m) (mulc (tw (wOf n) m) (el O m)) := by rw [F1.out]
        have hv2 : f2 m = subc (el E m) (mulc (tw (wOf n) m) (el O m)) := by rw [F2.out]
        have HST := Lib.hid (outL_step f1 f2 hlt)
        generalize el E m = a at *
        generalize el O m = b at *
        generalize tw (wOf n) m = t at *
        obtain ⟨a0, a1⟩ := a
        obtain ⟨b0, b1⟩ := b
        obtain ⟨t0, t1'⟩ := t
        have X0 := Lib.hid hx0
        have X1 := Lib.hid hx1
        have X2 := Lib.hid hx2
        have V1 := Lib.hid hv1
        have V2 := Lib.hid hv2
        have LL : Hid ((outL f1 f2 M m).length = n) := by show _ = _; rw [outL_length, hnm]
        have HMM := Lib.hid hlt
        have BMM := Lib.hid (And.intro bin bmM)
        clear hx0 hx1 hx2 hv1 hv2 hb32 hnm hlt hm
        obtain ⟨c1', c2', c3', c4'⟩ := HT1.out.twoG R3.out R2.out X2.out X1.out
        go_upto_region 13 with fail
        go_region_held3 (fun W => W.cell? ⟨gw, ow + m * 2, none⟩ = some (.int .u32 t0) ∧ W.cell? ⟨gw, ow + m * 2 + 1, none⟩ = some (.int .u32 t1') ∧ W.cell? ⟨gO, m * 2, none⟩ = some (.int .u32 b0) ∧ W.cell? ⟨gO, m * 2 + 1, none⟩ = some (.int .u32 b1))
          (first | with_reducible exact HT6.out.twoG R3.out R2.out X2.out X1.out | with_reducible exact (TN.alloc0 HT6.out).twoG R3.out R2.out X2.out X1.out | with_reducible exact (TN.store1 HT6.out rfl).twoG R3.out R2.out X2.out X1.out | with_reducible exact (HT6.out.alloc _ _).twoG R3.out R2.out X2.out X1.out | with_reducible exact HT1.out.twoG R3.out R2.out X2.out X1.out | with_reducible exact HT1.out.drew.twoG R3.out R2.out X2.out X1.out | with_reducible exact (TN.alloc0 HT1.out).twoG R3.out R2.out X2.out X1.out | with_reducible exact (TN.alloc0 HT1.out).drew.twoG R3.out R2.out X2.out X1.out | (trace_state; fail))
          (first
            | (with_reducible refine (pmulc_at t0 t1' b0 b1 wr.drew).mono ?_; rintro e W10 ⟨ta, tb, rfl, hpq, hb6⟩; have HT6 := Lib.hid (HT1.out.drew.step hb6); have HPQ := Lib.hid hpq; clear hb6 hpq)
            | (with_reducible refine (pmulc_at t0 t1' b0 b1 (wr.alloc _).drew).mono ?_; rintro e W10 ⟨ta, tb, rfl, hpq, hb6⟩; have HT6 := Lib.hid ((TN.alloc0 HT1.out).drew.step hb6); have HPQ := Lib.hid hpq; clear hb6 hpq; obtain ⟨y0, y1⟩ := (HT6.out.fresh _ (List.mem_singleton.2 rfl)).1.cells; obtain ⟨z0, z1⟩ := (HT6.out.fresh _ (List.mem_singleton.2 rfl)).1.frz))
        all_goals
          first
            | (have HT7 := Lib.hid (TN.store1 (a := ta) (b := tb) HT6.out rfl); clear y0 y1 z0 z1; generalize (W10.setCell ⟨wr.heap.size, 0, none⟩ (.int .u32 ta)).setCell ⟨wr.heap.size, 1, none⟩ (.int .u32 tb) = W7 at *; generalize wr.heap.size = X at *)
            | (have HT7 := Lib.hid (HT6.out.alloc ta tb); generalize W10.alloc (Obj.cells #[.int .u32 ta, .int .u32 tb] 26) = W7 at *; generalize W10.heap.size = X at *)
          clear HT6
          have HV1 : Hid (f1 m = addc (a0, a1) (ta, tb)) := by show _ = _; rw [V1.out, ← HPQ.out]
          have HV2 : Hid (f2 m = subc (a0, a1) (ta, tb)) := by show _ = _; rw [V2.out, ← HPQ.out]
          obtain ⟨ed, ed2, ew⟩ := ED.out
          go_upto_region 14 with fail
          have ekW : IntKind.i64.wrap ((m : Int) + (M : Int)) = ((m + M : Nat) : Int) := (Go.IntWalk.i64_left _).trans ekM
          have ewW : IntKind.i64.wrap (M : Int) = (M : Int) := (Go.IntWalk.i64_left _).trans ew
          have b3 : (0 : Int) ≤ (m : Int) + (M : Int) := by clear ed ed2 ew ewW ekW; omega
          have b4 : (m : Int) + (M : Int) < (n : Int) := by have := BMM.out.2; clear ed ed2 ew ewW ekW; omega
          have b5 : ((m : Int) + (M : Int)).toNat = m + M := by clear ed ed2 ew ewW ekW; omega
          have bw1 : m < n := BMM.out.1
          have bw2 : m + M < n := BMM.out.2
          refine wp_region_noPanic ?_
          refine wp_region_held_drew (S := fun W => W.cell? ⟨ge, m * 2, none⟩ = some (.int .u32 a0) ∧ W.cell? ⟨ge, m * 2 + 1, none⟩ = some (.int .u32 a1) ∧ W.cell? ⟨X, 0, none⟩ = some (.int .u32 ta) ∧ W.cell? ⟨X, 1, none⟩ = some (.int .u32 tb)) (by kernel_rfl) ?_ (fun hHeld => ?_)
          · exact HT7.out.drew.one R1.out X0.out (List.mem_singleton.2 rfl)
          (refine wpAnyH_take (i := 0) (v := ?_) rfl (by kernel_rfl) (by kernel_rfl) (by kernel_rfl) (fun _ _ _ h => h) (Or.inl ⟨by rfl, ?_⟩) (by assumption) ?_; rotate_left; · (intro w hSw; (try dsimp only at hSw); go_simp; first | done | with_reducible rfl); try simp only [Act.put, List.setIfInBounds_toArray, List.set_cons_zero, List.set_cons_succ, List.getElem_toArray, List.getElem_cons_succ, List.getElem_cons_zero])
          (refine wpAnyH_take (i := 1) (v := ?_) rfl (by kernel_rfl) (by kernel_rfl) (by kernel_rfl) (fun _ _ _ h => h) (Or.inl ⟨by rfl, ?_⟩) (by assumption) ?_; rotate_left; · (intro w hSw; (try dsimp only at hSw); go_simp; first | done | with_reducible rfl); try simp only [Act.put, List.setIfInBounds_toArray, List.set_cons_zero, List.set_cons_succ, List.getElem_toArray, List.getElem_cons_succ, List.getElem_cons_zero])
          (refine wpAnyH_take (i := 2) (v := ?_) rfl (by kernel_rfl) (by kernel_rfl) (by kernel_rfl) (fun _ _ _ h => h) (Or.inl ⟨by rfl, ?_⟩) (by assumption) ?_; rotate_left; · (intro w hSw; (try dsimp only at hSw); go_simp; first | done | with_reducible rfl); try simp only [Act.put, List.setIfInBounds_toArray, List.set_cons_zero, List.set_cons_succ, List.getElem_toArray, List.getElem_cons_succ, List.getElem_cons_zero])
          (refine wpAnyH_take (i := 3) (v := ?_) rfl (by kernel_rfl) (by kernel_rfl) (by kernel_rfl) (fun _ _ _ h => h) (Or.inl ⟨by rfl, ?_⟩) (by assumption) ?_; rotate_left; · (intro w hSw; (try dsimp only at hSw); go_simp; first | done | with_reducible rfl); try simp only [Act.put, List.setIfInBounds_toArray, List.set_cons_zero, List.set_cons_succ, List.getElem_toArray, List.getElem_cons_succ, List.getElem_cons_zero])
          (refine wpAnyH_take (i := 4) (v := ?_) rfl (by kernel_rfl) (by kernel_rfl) (by kernel_rfl) (fun _ _ _ h => h) (Or.inl ⟨by rfl, ?_⟩) (by assumption) ?_; rotate_left; · (intro w hSw; (try dsimp only at hSw); go_simp; first | done | with_reducible rfl); try simp only [Act.put, List.setIfInBounds_toArray, List.set_cons_zero, List.set_cons_succ, List.getElem_toArray, List.getElem_cons_succ, List.getElem_cons_zero])
          (refine wpAnyH_take (i := 5) (v := ?_) rfl (by kernel_rfl) (by kernel_rfl) (by kernel_rfl) (fun _ _ _ h => h) (Or.inl ⟨by rfl, ?_⟩) (by assumption) ?_; rotate_left; · (intro w hSw; (try dsimp only at hSw); go_simp; first | done | with_reducible rfl); try simp only [Act.put, List.setIfInBounds_toArray, List.set_cons_zero, List.set_cons_succ, List.getElem_toArray, List.getElem_cons_succ, List.getElem_cons_zero])
          (refine wpAnyH_take (i := 6) (v := ?_) rfl (by kernel_rfl) (by kernel_rfl) (by kernel_rfl) (fun _ _ _ h => h) (Or.inl ⟨by rfl, ?_⟩) (by assumption) ?_; rotate_left; · (intro w hSw; (try dsimp only at hSw); go_simp; first | done | with_reducible rfl); try simp only [Act.put, List.setIfInBounds_toArray, List.set_cons_zero, List.set_cons_succ, List.getElem_toArray, List.getElem_cons_succ, List.getElem_cons_zero])
          (refine wpAnyH_take (i := 7) (v := ?_) rfl (by kernel_rfl) (by kernel_rfl) (by kernel_rfl) (fun _ _ _ h => h) (Or.inl ⟨by rfl, ?_⟩) (by assumption) ?_; rotate_left; · (intro w hSw; (try dsimp only at hSw); go_simp; first | done | with_reducible rfl); try simp only [Act.put, List.setIfInBounds_toArray, List.set_cons_zero, List.set_cons_succ, List.getElem_toArray, List.getElem_cons_succ, List.getElem_cons_zero])
          (refine wpAnyH_take (i := 8) (v := ?_) rfl (by kernel_rfl) (by kernel_rfl) (by kernel_rfl) (fun _ _ _ h => h) (Or.inl ⟨by rfl, ?_⟩) (by assumption) ?_; rotate_left; · (intro w hSw; (try dsimp only at hSw); go_simp; first | done | with_reducible rfl); try simp only [Act.put, List.setIfInBounds_toArray, List.set_cons_zero, List.set_cons_succ, List.getElem_toArray, List.getElem_cons_succ, List.getElem_cons_zero])
          (refine wpAnyH_take (i := 9) (v := ?_) rfl (by kernel_rfl) (by kernel_rfl) (by kernel_rfl) (fun _ _ _ h => h) (Or.inl ⟨by rfl, ?_⟩) (by assumption) ?_; rotate_left; · (intro w hSw; (try dsimp only at hSw); go_simp; first | done | with_reducible rfl); try simp only [Act.put, List.setIfInBounds_toArray, List.set_cons_zero, List.set_cons_succ, List.getElem_toArray, List.getElem_cons_succ, List.getElem_cons_zero])
          (refine wpAnyH_take (i := 10) (v := ?_) rfl (by kernel_rfl) (by kernel_rfl) (by kernel_rfl) (fun _ _ _ h => h) (Or.inl ⟨by rfl, ?_⟩) (by assumption) ?_; rotate_left; · (intro w hSw; (try dsimp only at hSw); go_simp; first | done | with_reducible rfl); try simp only [Act.put, List.setIfInBounds_toArray, List.set_cons_zero, List.set_cons_succ, List.getElem_toArray, List.getElem_cons_succ, List.getElem_cons_zero])
          (refine wpAnyH_take (i := 11) (v := ?_) rfl (by kernel_rfl) (by kernel_rfl) (by kernel_rfl) (fun _ _ _ h => h) (Or.inl ⟨by rfl, ?_⟩) (by assumption) ?_; rotate_left; · (intro w hSw; (try dsimp only at hSw); go_simp; first | done | with_reducible rfl); try simp only [Act.put, List.setIfInBounds_toArray, List.set_cons_zero, List.set_cons_succ, List.getElem_toArray, List.getElem_cons_succ, List.getElem_cons_zero])
          (refine wpAnyH_take (i := 13) (v := ?_) rfl (by kernel_rfl) (by kernel_rfl) (by kernel_rfl) (fun _ _ _ h => h) (Or.inl ⟨by rfl, ?_⟩) (by assumption) ?_; rotate_left; · (intro w hSw; (try dsimp only at hSw); go_simp; first | done | with_reducible rfl); try simp only [Act.put, List.setIfInBounds_toArray, List.set_cons_zero, List.set_cons_succ, List.getElem_toArray, List.getElem_cons_succ, List.getElem_cons_zero])
          (refine wpAnyH_take (i := 14) (v := ?_) rfl (by kernel_rfl) (by kernel_rfl) (by kernel_rfl) (fun _ _ _ h => h) (Or.inl ⟨by rfl, ?_⟩) (by assumption) ?_; rotate_left; · (intro w hSw; (try dsimp only at hSw); go_simp; first | done | with_reducible rfl); try simp only [Act.put, List.setIfInBounds_toArray, List.set_cons_zero, List.set_cons_succ, List.getElem_toArray, List.getElem_cons_succ, List.getElem_cons_zero])
          (refine wpAnyH_take (i := 15) (v := ?_) rfl (by kernel_rfl) (by kernel_rfl) (by kernel_rfl) (fun _ _ _ h => h) (Or.inl ⟨by rfl, ?_⟩) (by assumption) ?_; rotate_left; · (intro w hSw; (try dsimp only at hSw); go_simp; first | done | with_reducible rfl); try simp only [Act.put, List.setIfInBounds_toArray, List.set_cons_zero, List.set_cons_succ, List.getElem_toArray, List.getElem_cons_succ, List.getElem_cons_zero])
          (refine wpAnyH_take (i := 16) (v := ?_) rfl (by kernel_rfl) (by kernel_rfl) (by kernel_rfl) (fun _ _ _ h => h) (Or.inl ⟨by rfl, ?_⟩) (by assumption) ?_; rotate_left; · (intro w hSw; (try dsimp only at hSw); go_simp; first | done | with_reducible rfl); try simp only [Act.put, List.setIfInBounds_toArray, List.set_cons_zero, List.set_cons_succ, List.getElem_toArray, List.getElem_cons_succ, List.getElem_cons_zero])
          (refine wpAnyH_take (i := 17) (v := ?_) rfl (by kernel_rfl) (by kernel_rfl) (by kernel_rfl) (fun _ _ _ h => h) (Or.inl ⟨by rfl, ?_⟩) (by assumption) ?_; rotate_left; · (intro w hSw; (try dsimp only at hSw); go_simp; first | done | with_reducible rfl); try simp only [Act.put, List.setIfInBounds_toArray, List.set_cons_zero, List.set_cons_succ, List.getElem_toArray, List.getElem_cons_succ, List.getElem_cons_zero])
          clear ekW ewW ed ed2 ew
          refine wpAnyH_ready (rs := [12]) (by kernel_rfl) (by simp) ?_
          refine AllReadyH.cons rfl (fun K hK => ?_) AllReadyH.nil
          go_simp
          refine (addc_at a0 a1 ta tb _).mono ?_
          rintro e W11 ⟨pa, pb, rfl, hpq, hb8⟩
          have HT8 := Lib.hid (HT7.out.drew.step hb8)
          have HP1 := Lib.hid (HV1.out.trans hpq.symm)
          clear hb8 hpq
          go_wp2_with fail
          refine hK.out _ _ ?_ (fun hHeld => ?_)
          · exact HT8.out.one R1.out X0.out (List.mem_singleton.2 rfl)
          clear hK K
          try simp only [Act.put, List.setIfInBounds_toArray, List.set_cons_zero, List.set_cons_succ, List.getElem_toArray, List.getElem_cons_succ, List.getElem_cons_zero]
          refine wpAnyH_ready (rs := [18]) (by kernel_rfl) (by simp) ?_
          refine AllReadyH.cons rfl (fun K hK => ?_) AllReadyH.nil
          go_simp
          refine (subc_at a0 a1 ta tb _).mono ?_
          rintro e W12 ⟨qa, qb, rfl, hpq, hb8⟩
          have HT9 := Lib.hid (HT8.out.step hb8)
          have HP2 := Lib.hid (HV2.out.trans hpq.symm)
          clear hb8 hpq
          go_wp2_with fail
          refine hK.out _ _ ?_ (fun hHeld => ?_)
          · exact HT9.out.one R1.out X0.out (List.mem_singleton.2 rfl)
          clear hK K
          try simp only [Act.put, List.setIfInBounds_toArray, List.set_cons_zero, List.set_cons_succ, List.getElem_toArray, List.getElem_cons_succ, List.getElem_cons_zero]
          (refine wpAnyH_take (i := 19) (v := ?_) rfl (by kernel_rfl) (by kernel_rfl) (by kernel_rfl) (fun _ _ _ h => h) (Or.inl ⟨by rfl, ?_⟩) (by assumption) ?_; rotate_left; · (intro w hSw; (try dsimp only at hSw); go_simp; first | done | with_reducible rfl); try simp only [Act.put, List.setIfInBounds_toArray, List.set_cons_zero, List.set_cons_succ, List.getElem_toArray, List.getElem_cons_succ, List.getElem_cons_zero])
          have hj : m < (outL f1 f2 M m).length := by rw [LL.out]; exact BMM.out.1
          have hTS := TN.set (a := pa) (b := pb) HT9.out hj rfl
          have HT10 := Lib.hid hTS
          have hTT := TN.there HT9.out hj
          clear hTS hj
          obtain ⟨y0, y1, z0, z1⟩ := hTT
          refine wpAnyH_ready (rs := [20]) (by kernel_rfl) (by simp) ?_
          refine AllReadyH.cons rfl (fun K hK => ?_) AllReadyH.nil
          go_simp
          clear y0 y1 z0 z1
          refine hK.out _ _ ?_ (fun hHeld => ?_)
          · exact HT10.out.one R1.out X0.out (List.mem_singleton.2 rfl)
          clear hK K
          try simp only [Act.put, List.setIfInBounds_toArray, List.set_cons_zero, List.set_cons_succ, List.getElem_toArray, List.getElem_cons_succ, List.getElem_cons_zero]
          generalize (W12.setCell ⟨G, m * 2, none⟩ (.int .u32 pa)).setCell ⟨G, m * 2 + 1, none⟩ (.int .u32 pb) = W13 at *
          (refine wpAnyH_take (i := 21) (v := ?_) rfl (by kernel_rfl) (by kernel_rfl) (by kernel_rfl) (fun _ _ _ h => h) (Or.inl ⟨by rfl, ?_⟩) (by assumption) ?_; rotate_left; · (intro w hSw; (try dsimp only at hSw); go_simp; first | done | with_reducible rfl); try simp only [Act.put, List.setIfInBounds_toArray, List.set_cons_zero, List.set_cons_succ, List.getElem_toArray, List.getElem_cons_succ, List.getElem_cons_zero])
          have hj : m + M < ((outL f1 f2 M m).set m (pa, pb)).length := by rw [List.length_set, LL.out]; exact BMM.out.2
          have hTS := TN.set (a := qa) (b := qb) HT10.out hj rfl
          have HT11 := Lib.hid hTS
          have hTT := TN.there HT10.out hj
          clear hTS hj
          obtain ⟨y0, y1, z0, z1⟩ := hTT
          refine wpAnyH_ready (rs := [22]) (by kernel_rfl) (by simp) ?_
          refine AllReadyH.cons rfl (fun K hK => ?_) AllReadyH.nil
          go_simp
          clear y0 y1 z0 z1
          refine hK.out _ _ ?_ (fun hHeld => ?_)
          · exact HT11.out.one R1.out X0.out (List.mem_singleton.2 rfl)
          clear hK K
          try simp only [Act.put, List.setIfInBounds_toArray, List.set_cons_zero, List.set_cons_succ, List.getElem_toArray, List.getElem_cons_succ, List.getElem_cons_zero]
          generalize (W13.setCell ⟨G, (m + M) * 2, none⟩ (.int .u32 qa)).setCell ⟨G, (m + M) * 2 + 1, none⟩ (.int .u32 qb) = W14 at *
          refine wpAnyH_done (by kernel_rfl) ?_ _
          refine NoPanic.normal ?_
          clear bw1 bw2 b3 b4 b5
          go_wp2_with fail
          try rw [ek1]
          go_roundw
          case rel => exact ⟨m + 1, HMM.out, rfl, by rw [← HST.out, HP1.out, HP2.out]; exact HT11.out.forget (fun y hy => by cases hy)⟩
          case measure =>
            have := HMM.out
            show M - ((m + 1 : Nat) : Int).toNat < M - (m : Int).toNat
            omega
      · have hmM : m = M := by omega
        have tm : decide ((m : Int) < (M : Int)) = false := decide_eq_false (by omega)
        have tm' : decide (m < M) = false := decide_eq_false hlt
        have HMM := Lib.hid hmM
        clear hlt hm hmM
        go_wp2_with fail
        go_ret
        have h := HT1.out
        rw [HMM.out, ← HFF'.out] at h
        have hg := Below.toGrown h.below (some r)
        exact ⟨_, rfl, Own.base h.o1 HG8.out.size, Grown.trans HG8.out hg, HF8.out.step h.below⟩
  · have HPUT := Lib.hid hput
    clear hput HLK
    go_enter Try.func49, Try.ntmps49
    go_wp2_with fail
    clear hlk
    refine (tw_all HP.out w).mono ?_
    rintro e W1 ⟨vw, rfl, ho, hb⟩
    have hrw : Row W1 vw (twL n) := by
      have h : Own 26 w.heap.size W1 vw (twL n) := by show W1.ownsRow _ _ _ _ (upto _ n).length _; rw [upto_length]; exact ho
      exact h.row
    obtain ⟨W2, hpt, hfm, hg2⟩ := HPUT.out W1 vw (Below.toGrown hb none) hrw
    have HG : Hid (w.grownBy W2 (some r)) := Grown.trans (Below.toGrown hb _) hg2
    have hm1 : ∃ es c, W1.heap[r]? = some (.map es c) := (HF.out.step hb).isMap
    have HRW := Lib.hid (hrw.grown hm1 hg2)
    have HR2 := Lib.hid ((HR.out.below hb).grown hm1 hg2)
    have HF2 := Lib.hid hfm
    clear HR HF hrw hfm hg2 hm1 ho hb HPUT
    have HR := HR2
    have HF := HF2
    clear HR2 HF2
    go_upto_region 8 with fail
    clear hpt
    go_wp2_with fail
    refine (every_at _ _ _ 0 _).mono ?_
    rintro e W3 ⟨Bf, Bs, rfl, hf, hs, hb3⟩
    have HF3 := Lib.hid (HF.out.step hb3)
    have HR3 := Lib.hid (HR.out.below hb3)
    have HG3 := Lib.hid (Grown.trans HG.out (Below.toGrown hb3 _))
    have HRW3 := Lib.hid (HRW.out.below hb3)
    have HC3 := Lib.hid (And.intro hf hs)
    have hlen : l.length ≤ 1000 := by have h1 := HN.out; have h2 := HNM.out; have h3 := HM32.out; omega
    have HLEN := Lib.hid hlen
    clear hf hs hb3 HF HR HG HRW hlen
    go_wp2_with fail
    refine (halves_at Bf Bs 0 HNE.out HLEN.out (by decide) W3 HR3.out HC3.out.1 HC3.out.2).mono ?_
    rintro e W4 ⟨vE, rfl, ho4, hb4⟩
    have HF4 := Lib.hid (HF3.out.step hb4)
    have HR4 := Lib.hid (HR3.out.below hb4)
    have HG4 := Lib.hid (Grown.trans HG3.out (Below.toGrown hb4 _))
    have HRW4 := Lib.hid (HRW3.out.below hb4)
    have HO4 := Lib.hid ho4
    clear ho4 hb4 HF3 HR3 HG3 HRW3 HC3
    go_wp2_with fail
    refine (IH.out _ _ r _ HO4.out.row lh0.out HF4.out).mono ?_
    rintro e W5 ⟨ve, rfl, ho5, hg5, hf5⟩
    have HF5 := Lib.hid hf5
    have HR5 := Lib.hid (HR4.out.grown HF4.out.isMap hg5)
    have HG5 := Lib.hid (Grown.trans HG4.out hg5)
    have HRW5 := Lib.hid (HRW4.out.grown HF4.out.isMap hg5)
    have HO5 := Lib.hid ho5
    clear ho5 hg5 hf5 HF4 HR4 HG4 HRW4 HO4
    go_wp2_with fail
    refine (every_at _ _ _ 1 _).mono ?_
    rintro e W6 ⟨Bf', Bs', rfl, hf, hs, hb6⟩
    have HF6 := Lib.hid (HF5.out.step hb6)
    have HR6 := Lib.hid (HR5.out.below hb6)
    have HG6 := Lib.hid (Grown.trans HG5.out (Below.toGrown hb6 _))
    have HRW6 := Lib.hid (HRW5.out.below hb6)
    have HC6 := Lib.hid (And.intro hf hs)
    have HO6 : Hid (Own 26 W4.heap.size W6 ve (fft k (halfOf l 0))) := own_step HO5.out hb6
    clear hf hs hb6 HF5 HR5 HG5 HRW5 HO5
    go_wp2_with fail
    refine (halves_at Bf' Bs' 1 HNE.out HLEN.out (by decide) W6 HR6.out HC6.out.1 HC6.out.2).mono ?_
    rintro e W7 ⟨vO, rfl, ho7, hb7⟩
    have HF7 := Lib.hid (HF6.out.step hb7)
    have HG7 := Lib.hid (Grown.trans HG6.out (Below.toGrown hb7 _))
    have HRW7 := Lib.hid (HRW6.out.below hb7)
    have HO7 := Lib.hid ho7
    have HE7 : Hid (Own 26 W4.heap.size W7 ve (fft k (halfOf l 0))) := own_step HO6.out hb7
    clear ho7 hb7 HF6 HR6 HG6 HRW6 HC6 HO6
    go_wp2_with fail
    refine (IH.out _ _ r _ HO7.out.row lh1.out HF7.out).mono ?_
    rintro e W8 ⟨vo, rfl, ho8, hg8, hf8⟩
    have HF8 := Lib.hid hf8
    have HG8 := Lib.hid (Grown.trans HG7.out hg8)
    have hw8 := HRW7.out.grown HF7.out.isMap hg8
    have he8 : Own 26 W4.heap.size W8 ve (fft k (halfOf l 0)) := Own.grown HE7.out HF7.out.isMap hg8
    have k1 := fft_length k (halfOf l 0)
    have k2 := fft_length k (halfOf l 1)
    rw [← HM.out] at k1 k2
    obtain ⟨E, hE⟩ : ∃ E, E = fft k (halfOf l 0) := ⟨_, rfl⟩
    obtain ⟨O, hO⟩ : ∃ O, O = fft k (halfOf l 1) := ⟨_, rfl⟩
    have HFF : Hid (fft (k + 1) l = upto (fun j => addc (el E j) (mulc (tw (wOf n) j) (el O j))) M ++ upto (fun j => subc (el E j) (mulc (tw (wOf n) j) (el O j))) M) := by
      show _ = _
      rw [hE, hO, HN.out, HL.out, HM.out]
      rfl
    rw [← hE] at he8 k1
    rw [← hO] at ho8 k2
    have hj1 := H1.out
    have q1 := Own.rd he8 (by intro e; rw [e] at k1; simp only [List.length_nil] at k1; omega)
    have q2 := Own.rd ho8 (by intro e; rw [e] at k2; simp only [List.length_nil] at k2; omega)
    have q3 := Row.rd hw8 (by intro e; have := congrArg List.length e; rw [upto_length] at this; simp only [List.length_nil] at this; omega)
    rw [k1] at q1
    rw [k2] at q2
    rw [upto_length] at q3
    obtain ⟨ge, ce, rfl, l1, _, r1⟩ := q1
    obtain ⟨gO, cO, rfl, l2, _, r2⟩ := q2
    obtain ⟨gw, ow, cw, rfl, l3, r3⟩ := q3
    have R1 := Lib.hid r1
    have R2 := Lib.hid r2
    have R3 := Lib.hid r3
    have K1 := Lib.hid k1
    have K2 := Lib.hid k2
    have ed : (n : Int) / 2 = (M : Int) := by have := HNM.out; omega
    have ed2 : (n : Int).tdiv 2 = (M : Int) := by rw [Int.tdiv_eq_ediv_of_nonneg (by omega)]; exact ed
    have ew : wrap64 (M : Int) = (M : Int) := by have := HM32.out; unfold wrap64; clear ed ed2; omega
    clear ho8 hg8 hf8 hw8 he8 k1 k2 hE hO r1 r2 r3 hj1 l1 l2 l3 HF7 HG7 HRW7 HO7 HE7 lh0 lh1 HLEN HNE
    obtain ⟨f1, hf1⟩ : ∃ f : Nat → Nat × Nat, f = fun j => addc (el E j) (mulc (tw (wOf n) j) (el O j)) := ⟨_, rfl⟩
    obtain ⟨f2, hf2⟩ : ∃ f : Nat → Nat × Nat, f = fun j => subc (el E j) (mulc (tw (wOf n) j) (el O j)) := ⟨_, rfl⟩
    have HFF' := Lib.hid HFF.out
    rw [← hf1, ← hf2, ← outL_end] at HFF'
    have F1 := Lib.hid hf1
    have F2 := Lib.hid hf2
    clear HFF hf1 hf2
    obtain ⟨W9, hmk, ht9⟩ := mk_row W8 n (by have h2 := HNM.out; have h3 := HM32.out; clear ed ed2 ew; omega)
    rw [show upto (fun _ => (0, 0)) n = outL f1 f2 M 0 from by rw [outL_zero, HNM.out]] at ht9
    have HT := Lib.hid ht9
    go_upto_region 10 with fail
    clear hmk ht9
    obtain ⟨G, hG⟩ : ∃ G, G = W8.heap.size := ⟨_, rfl⟩
    rw [← hG] at HT ⊢
    have HGG : Hid (W8.heap.size = G) := hG.symm
    clear hG
    go_wp2_with fail
    try rw [ew]
    have ED := Lib.hid (And.intro ed (And.intro ed2 ew))
    go_loopw [52] (fun s52 wr => ∃ m : Nat, m ≤ M ∧ s52 = .int .i64 m ∧ TN 26 W8 (.slice (some ⟨G, 0, none⟩) n n) (outL f1 f2 M m) (.slice none 0 0) [] [] wr) (fun s52 _ => M - (intOf s52).toNat)
    case atStart => exact ⟨0, Nat.zero_le _, rfl, HT.out⟩
    case round =>
      obtain ⟨m, hm, rfl, ht⟩ := hrel
      have HT1 := Lib.hid ht
      clear ht HT ed ed2 ew
      by_cases hlt : m < M
      · have tm : decide ((m : Int) < (M : Int)) = true := decide_eq_true (by omega)
        have tm' : decide (m < M) = true := decide_eq_true hlt
        have hb32 := HM32.out
        have hnm := HNM.out
        have ek1 : wrap64 ((m : Int) + 1) = ((m + 1 : Nat) : Int) := by unfold wrap64; omega
        have bi : (m : Int) < (n : Int) := by omega
        have bi1 : (m : Int) < (M : Int) := by omega
        have bin : m < n := by omega
        have bmM : m + M < n := by omega
        have ekM : wrap64 ((m : Int) + (M : Int)) = ((m + M : Nat) : Int) := by unfold wrap64; omega
        have bi2 : ((m + M : Nat) : Int) < (n : Int) := by omega
        have en2 : ((m + M : Nat) : Int).toNat = m + M := by omega
        have hx0 := el_get (l := E) (j := m) (by rw [K1.out]; exact hlt)
        have hx1 := el_get (l := O) (j := m) (by rw [K2.out]; exact hlt)
        have hx2 := upto_get (tw (wOf n)) (k := n) (j := m) bin
        have hv1 : f1 m = addc (el E m) (mulc (tw (wOf n) m) (el O m)) := by rw [F1.out]
        have hv2 : f2 m = subc (el E m) (mulc (tw (wOf n) m) (el O m)) := by rw [F2.out]
        have HST := Lib.hid (outL_step f1 f2 hlt)
        generalize el E m = a at *
        generalize el O m = b at *
        generalize tw (wOf n) m = t at *
        obtain ⟨a0, a1⟩ := a
        obtain ⟨b0, b1⟩ := b
        obtain ⟨t0, t1'⟩ := t
        have X0 := Lib.hid hx0
        have X1 := Lib.hid hx1
        have X2 := Lib.hid hx2
        have V1 := Lib.hid hv1
        have V2 := Lib.hid hv2
        have LL : Hid ((outL f1 f2 M m).length = n) := by show _ = _; rw [outL_length, hnm]
        have HMM := Lib.hid hlt
        have BMM := Lib.hid (And.intro bin bmM)
        clear hx0 hx1 hx2 hv1 hv2 hb32 hnm hlt hm
        obtain ⟨c1', c2', c3', c4'⟩ := HT1.out.twoG R3.out R2.out X2.out X1.out
        go_upto_region 13 with fail
        go_region_held3 (fun W => W.cell? ⟨gw, ow + m * 2, none⟩ = some (.int .u32 t0) ∧ W.cell? ⟨gw, ow + m * 2 + 1, none⟩ = some (.int .u32 t1') ∧ W.cell? ⟨gO, m * 2, none⟩ = some (.int .u32 b0) ∧ W.cell? ⟨gO, m * 2 + 1, none⟩ = some (.int .u32 b1))
          (first | with_reducible exact HT6.out.twoG R3.out R2.out X2.out X1.out | with_reducible exact (TN.alloc0 HT6.out).twoG R3.out R2.out X2.out X1.out | with_reducible exact (TN.store1 HT6.out rfl).twoG R3.out R2.out X2.out X1.out | with_reducible exact (HT6.out.alloc _ _).twoG R3.out R2.out X2.out X1.out | with_reducible exact HT1.out.twoG R3.out R2.out X2.out X1.out | with_reducible exact HT1.out.drew.twoG R3.out R2.out X2.out X1.out | with_reducible exact (TN.alloc0 HT1.out).twoG R3.out R2.out X2.out X1.out | with_reducible exact (TN.alloc0 HT1.out).drew.twoG R3.out R2.out X2.out X1.out | (trace_state; fail))
          (first
            | (with_reducible refine (pmulc_at t0 t1' b0 b1 wr.drew).mono ?_; rintro e W10 ⟨ta, tb, rfl, hpq, hb6⟩; have HT6 := Lib.hid (HT1.out.drew.step hb6); have HPQ := Lib.hid hpq; clear hb6 hpq)
            | (with_reducible refine (pmulc_at t0 t1' b0 b1 (wr.alloc _).drew).mono ?_; rintro e W10 ⟨ta, tb, rfl, hpq, hb6⟩; have HT6 := Lib.hid ((TN.alloc0 HT1.out).drew.step hb6); have HPQ := Lib.hid hpq; clear hb6 hpq; obtain ⟨y0, y1⟩ := (HT6.out.fresh _ (List.mem_singleton.2 rfl)).1.cells; obtain ⟨z0, z1⟩ := (HT6.out.fresh _ (List.mem_singleton.2 rfl)).1.frz))
        all_goals
          first
            | (have HT7 := Lib.hid (TN.store1 (a := ta) (b := tb) HT6.out rfl); clear y0 y1 z0 z1; generalize (W10.setCell ⟨wr.heap.size, 0, none⟩ (.int .u32 ta)).setCell ⟨wr.heap.size, 1, none⟩ (.int .u32 tb) = W7 at *; generalize wr.heap.size = X at *)
            | (have HT7 := Lib.hid (HT6.out.alloc ta tb); generalize W10.alloc (Obj.cells #[.int .u32 ta, .int .u32 tb] 26) = W7 at *; generalize W10.heap.size = X at *)
          clear HT6
          have HV1 : Hid (f1 m = addc (a0, a1) (ta, tb)) := by show _ = _; rw [V1.out, ← HPQ.out]
          have HV2 : Hid (f2 m = subc (a0, a1) (ta, tb)) := by show _ = _; rw [V2.out, ← HPQ.out]
          obtain ⟨ed, ed2, ew⟩ := ED.out
          go_upto_region 14 with fail
          have ekW : IntKind.i64.wrap ((m : Int) + (M : Int)) = ((m + M : Nat) : Int) := (Go.IntWalk.i64_left _).trans ekM
          have ewW : IntKind.i64.wrap (M : Int) = (M : Int) := (Go.IntWalk.i64_left _).trans ew
          have b3 : (0 : Int) ≤ (m : Int) + (M : Int) := by clear ed ed2 ew ewW ekW; omega
          have b4 : (m : Int) + (M : Int) < (n : Int) := by have := BMM.out.2; clear ed ed2 ew ewW ekW; omega
          have b5 : ((m : Int) + (M : Int)).toNat = m + M := by clear ed ed2 ew ewW ekW; omega
          have bw1 : m < n := BMM.out.1
          have bw2 : m + M < n := BMM.out.2
          refine wp_region_noPanic ?_
          refine wp_region_held_drew (S := fun W => W.cell? ⟨ge, m * 2, none⟩ = some (.int .u32 a0) ∧ W.cell? ⟨ge, m * 2 + 1, none⟩ = some (.int .u32 a1) ∧ W.cell? ⟨X, 0, none⟩ = some (.int .u32 ta) ∧ W.cell? ⟨X, 1, none⟩ = some (.int .u32 tb)) (by kernel_rfl) ?_ (fun hHeld => ?_)
          · exact HT7.out.drew.one R1.out X0.out (List.mem_singleton.2 rfl)
          (refine wpAnyH_take (i := 0) (v := ?_) rfl (by kernel_rfl) (by kernel_rfl) (by kernel_rfl) (fun _ _ _ h => h) (Or.inl ⟨by rfl, ?_⟩) (by assumption) ?_; rotate_left; · (intro w hSw; (try dsimp only at hSw); go_simp; first | done | with_reducible rfl); try simp only [Act.put, List.setIfInBounds_toArray, List.set_cons_zero, List.set_cons_succ, List.getElem_toArray, List.getElem_cons_succ, List.getElem_cons_zero])
          (refine wpAnyH_take (i := 1) (v := ?_) rfl (by kernel_rfl) (by kernel_rfl) (by kernel_rfl) (fun _ _ _ h => h) (Or.inl ⟨by rfl, ?_⟩) (by assumption) ?_; rotate_left; · (intro w hSw; (try dsimp only at hSw); go_simp; first | done | with_reducible rfl); try simp only [Act.put, List.setIfInBounds_toArray, List.set_cons_zero, List.set_cons_succ, List.getElem_toArray, List.getElem_cons_succ, List.getElem_cons_zero])
          (refine wpAnyH_take (i := 2) (v := ?_) rfl (by kernel_rfl) (by kernel_rfl) (by kernel_rfl) (fun _ _ _ h => h) (Or.inl ⟨by rfl, ?_⟩) (by assumption) ?_; rotate_left; · (intro w hSw; (try dsimp only at hSw); go_simp; first | done | with_reducible rfl); try simp only [Act.put, List.setIfInBounds_toArray, List.set_cons_zero, List.set_cons_succ, List.getElem_toArray, List.getElem_cons_succ, List.getElem_cons_zero])
          (refine wpAnyH_take (i := 3) (v := ?_) rfl (by kernel_rfl) (by kernel_rfl) (by kernel_rfl) (fun _ _ _ h => h) (Or.inl ⟨by rfl, ?_⟩) (by assumption) ?_; rotate_left; · (intro w hSw; (try dsimp only at hSw); go_simp; first | done | with_reducible rfl); try simp only [Act.put, List.setIfInBounds_toArray, List.set_cons_zero, List.set_cons_succ, List.getElem_toArray, List.getElem_cons_succ, List.getElem_cons_zero])
          (refine wpAnyH_take (i := 4) (v := ?_) rfl (by kernel_rfl) (by kernel_rfl) (by kernel_rfl) (fun _ _ _ h => h) (Or.inl ⟨by rfl, ?_⟩) (by assumption) ?_; rotate_left; · (intro w hSw; (try dsimp only at hSw); go_simp; first | done | with_reducible rfl); try simp only [Act.put, List.setIfInBounds_toArray, List.set_cons_zero, List.set_cons_succ, List.getElem_toArray, List.getElem_cons_succ, List.getElem_cons_zero])
          (refine wpAnyH_take (i := 5) (v := ?_) rfl (by kernel_rfl) (by kernel_rfl) (by kernel_rfl) (fun _ _ _ h => h) (Or.inl ⟨by rfl, ?_⟩) (by assumption) ?_; rotate_left; · (intro w hSw; (try dsimp only at hSw); go_simp; first | done | with_reducible rfl); try simp only [Act.put, List.setIfInBounds_toArray, List.set_cons_zero, List.set_cons_succ, List.getElem_toArray, List.getElem_cons_succ, List.getElem_cons_zero])
          (refine wpAnyH_take (i := 6) (v := ?_) rfl (by kernel_rfl) (by kernel_rfl) (by kernel_rfl) (fun _ _ _ h => h) (Or.inl ⟨by rfl, ?_⟩) (by assumption) ?_; rotate_left; · (intro w hSw; (try dsimp only at hSw); go_simp; first | done | with_reducible rfl); try simp only [Act.put, List.setIfInBounds_toArray, List.set_cons_zero, List.set_cons_succ, List.getElem_toArray, List.getElem_cons_succ, List.getElem_cons_zero])
          (refine wpAnyH_take (i := 7) (v := ?_) rfl (by kernel_rfl) (by kernel_rfl) (by kernel_rfl) (fun _ _ _ h => h) (Or.inl ⟨by rfl, ?_⟩) (by assumption) ?_; rotate_left; · (intro w hSw; (try dsimp only at hSw); go_simp; first | done | with_reducible rfl); try simp only [Act.put, List.setIfInBounds_toArray, List.set_cons_zero, List.set_cons_succ, List.getElem_toArray, List.getElem_cons_succ, List.getElem_cons_zero])
          (refine wpAnyH_take (i := 8) (v := ?_) rfl (by kernel_rfl) (by kernel_rfl) (by kernel_rfl) (fun _ _ _ h => h) (Or.inl ⟨by rfl, ?_⟩) (by assumption) ?_; rotate_left; · (intro w hSw; (try dsimp only at hSw); go_simp; first | done | with_reducible rfl); try simp only [Act.put, List.setIfInBounds_toArray, List.set_cons_zero, List.set_cons_succ, List.getElem_toArray, List.getElem_cons_succ, List.getElem_cons_zero])
          (refine wpAnyH_take (i := 9) (v := ?_) rfl (by kernel_rfl) (by kernel_rfl) (by kernel_rfl) (fun _ _ _ h => h) (Or.inl ⟨by rfl, ?_⟩) (by assumption) ?_; rotate_left; · (intro w hSw; (try dsimp only at hSw); go_simp; first | done | with_reducible rfl); try simp only [Act.put, List.setIfInBounds_toArray, List.set_cons_zero, List.set_cons_succ, List.getElem_toArray, List.getElem_cons_succ, List.getElem_cons_zero])
          (refine wpAnyH_take (i := 10) (v := ?_) rfl (by kernel_rfl) (by kernel_rfl) (by kernel_rfl) (fun _ _ _ h => h) (Or.inl ⟨by rfl, ?_⟩) (by assumption) ?_; rotate_left; · (intro w hSw; (try dsimp only at hSw); go_simp; first | done | with_reducible rfl); try simp only [Act.put, List.setIfInBounds_toArray, List.set_cons_zero, List.set_cons_succ, List.getElem_toArray, List.getElem_cons_succ, List.getElem_cons_zero])
          (refine wpAnyH_take (i := 11) (v := ?_) rfl (by kernel_rfl) (by kernel_rfl) (by kernel_rfl) (fun _ _ _ h => h) (Or.inl ⟨by rfl, ?_⟩) (by assumption) ?_; rotate_left; · (intro w hSw; (try dsimp only at hSw); go_simp; first | done | with_reducible rfl); try simp only [Act.put, List.setIfInBounds_toArray, List.set_cons_zero, List.set_cons_succ, List.getElem_toArray, List.getElem_cons_succ, List.getElem_cons_zero])
          (refine wpAnyH_take (i := 13) (v := ?_) rfl (by kernel_rfl) (by kernel_rfl) (by kernel_rfl) (fun _ _ _ h => h) (Or.inl ⟨by rfl, ?_⟩) (by assumption) ?_; rotate_left; · (intro w hSw; (try dsimp only at hSw); go_simp; first | done | with_reducible rfl); try simp only [Act.put, List.setIfInBounds_toArray, List.set_cons_zero, List.set_cons_succ, List.getElem_toArray, List.getElem_cons_succ, List.getElem_cons_zero])
          (refine wpAnyH_take (i := 14) (v := ?_) rfl (by kernel_rfl) (by kernel_rfl) (by kernel_rfl) (fun _ _ _ h => h) (Or.inl ⟨by rfl, ?_⟩) (by assumption) ?_; rotate_left; · (intro w hSw; (try dsimp only at hSw); go_simp; first | done | with_reducible rfl); try simp only [Act.put, List.setIfInBounds_toArray, List.set_cons_zero, List.set_cons_succ, List.getElem_toArray, List.getElem_cons_succ, List.getElem_cons_zero])
          (refine wpAnyH_take (i := 15) (v := ?_) rfl (by kernel_rfl) (by kernel_rfl) (by kernel_rfl) (fun _ _ _ h => h) (Or.inl ⟨by rfl, ?_⟩) (by assumption) ?_; rotate_left; · (intro w hSw; (try dsimp only at hSw); go_simp; first | done | with_reducible rfl); try simp only [Act.put, List.setIfInBounds_toArray, List.set_cons_zero, List.set_cons_succ, List.getElem_toArray, List.getElem_cons_succ, List.getElem_cons_zero])
          (refine wpAnyH_take (i := 16) (v := ?_) rfl (by kernel_rfl) (by kernel_rfl) (by kernel_rfl) (fun _ _ _ h => h) (Or.inl ⟨by rfl, ?_⟩) (by assumption) ?_; rotate_left; · (intro w hSw; (try dsimp only at hSw); go_simp; first | done | with_reducible rfl); try simp only [Act.put, List.setIfInBounds_toArray, List.set_cons_zero, List.set_cons_succ, List.getElem_toArray, List.getElem_cons_succ, List.getElem_cons_zero])
          (refine wpAnyH_take (i := 17) (v := ?_) rfl (by kernel_rfl) (by kernel_rfl) (by kernel_rfl) (fun _ _ _ h => h) (Or.inl ⟨by rfl, ?_⟩) (by assumption) ?_; rotate_left; · (intro w hSw; (try dsimp only at hSw); go_simp; first | done | with_reducible rfl); try simp only [Act.put, List.setIfInBounds_toArray, List.set_cons_zero, List.set_cons_succ, List.getElem_toArray, List.getElem_cons_succ, List.getElem_cons_zero])
          clear ekW ewW ed ed2 ew
          refine wpAnyH_ready (rs := [12]) (by kernel_rfl) (by simp) ?_
          refine AllReadyH.cons rfl (fun K hK => ?_) AllReadyH.nil
          go_simp
          refine (addc_at a0 a1 ta tb _).mono ?_
          rintro e W11 ⟨pa, pb, rfl, hpq, hb8⟩
          have HT8 := Lib.hid (HT7.out.drew.step hb8)
          have HP1 := Lib.hid (HV1.out.trans hpq.symm)
          clear hb8 hpq
          go_wp2_with fail
          refine hK.out _ _ ?_ (fun hHeld => ?_)
          · exact HT8.out.one R1.out X0.out (List.mem_singleton.2 rfl)
          clear hK K
          try simp only [Act.put, List.setIfInBounds_toArray, List.set_cons_zero, List.set_cons_succ, List.getElem_toArray, List.getElem_cons_succ, List.getElem_cons_zero]
          refine wpAnyH_ready (rs := [18]) (by kernel_rfl) (by simp) ?_
          refine AllReadyH.cons rfl (fun K hK => ?_) AllReadyH.nil
          go_simp
          refine (subc_at a0 a1 ta tb _).mono ?_
          rintro e W12 ⟨qa, qb, rfl, hpq, hb8⟩
          have HT9 := Lib.hid (HT8.out.step hb8)
          have HP2 := Lib.hid (HV2.out.trans hpq.symm)
          clear hb8 hpq
          go_wp2_with fail
          refine hK.out _ _ ?_ (fun hHeld => ?_)
          · exact HT9.out.one R1.out X0.out (List.mem_singleton.2 rfl)
          clear hK K
          try simp only [Act.put, List.setIfInBounds_toArray, List.set_cons_zero, List.set_cons_succ, List.getElem_toArray, List.getElem_cons_succ, List.getElem_cons_zero]
          (refine wpAnyH_take (i := 19) (v := ?_) rfl (by kernel_rfl) (by kernel_rfl) (by kernel_rfl) (fun _ _ _ h => h) (Or.inl ⟨by rfl, ?_⟩) (by assumption) ?_; rotate_left; · (intro w hSw; (try dsimp only at hSw); go_simp; first | done | with_reducible rfl); try simp only [Act.put, List.setIfInBounds_toArray, List.set_cons_zero, List.set_cons_succ, List.getElem_toArray, List.getElem_cons_succ, List.getElem_cons_zero])
          have hj : m < (outL f1 f2 M m).length := by rw [LL.out]; exact BMM.out.1
          have hTS := TN.set (a := pa) (b := pb) HT9.out hj rfl
          have HT10 := Lib.hid hTS
          have hTT := TN.there HT9.out hj
          clear hTS hj
          obtain ⟨y0, y1, z0, z1⟩ := hTT
          refine wpAnyH_ready (rs := [20]) (by kernel_rfl) (by simp) ?_
          refine AllReadyH.cons rfl (fun K hK => ?_) AllReadyH.nil
          go_simp
          clear y0 y1 z0 z1
          refine hK.out _ _ ?_ (fun hHeld => ?_)
          · exact HT10.out.one R1.out X0.out (List.mem_singleton.2 rfl)
          clear hK K
          try simp only [Act.put, List.setIfInBounds_toArray, List.set_cons_zero, List.set_cons_succ, List.getElem_toArray, List.getElem_cons_succ, List.getElem_cons_zero]
          generalize (W12.setCell ⟨G, m * 2, none⟩ (.int .u32 pa)).setCell ⟨G, m * 2 + 1, none⟩ (.int .u32 pb) = W13 at *
          (refine wpAnyH_take (i := 21) (v := ?_) rfl (by kernel_rfl) (by kernel_rfl) (by kernel_rfl) (fun _ _ _ h => h) (Or.inl ⟨by rfl, ?_⟩) (by assumption) ?_; rotate_left; · (intro w hSw; (try dsimp only at hSw); go_simp; first | done | with_reducible rfl); try simp only [Act.put, List.setIfInBounds_toArray, List.set_cons_zero, List.set_cons_succ, List.getElem_toArray, List.getElem_cons_succ, List.getElem_cons_zero])
          have hj : m + M < ((outL f1 f2 M m).set m (pa, pb)).length := by rw [List.length_set, LL.out]; exact BMM.out.2
          have hTS := TN.set (a := qa) (b := qb) HT10.out hj rfl
          have HT11 := Lib.hid hTS
          have hTT := TN.there HT10.out hj
          clear hTS hj
          obtain ⟨y0, y1, z0, z1⟩ := hTT
          refine wpAnyH_ready (rs := [22]) (by kernel_rfl) (by simp) ?_
          refine AllReadyH.cons rfl (fun K hK => ?_) AllReadyH.nil
          go_simp
          clear y0 y1 z0 z1
          refine hK.out _ _ ?_ (fun hHeld => ?_)
          · exact HT11.out.one R1.out X0.out (List.mem_singleton.2 rfl)
          clear hK K
          try simp only [Act.put, List.setIfInBounds_toArray, List.set_cons_zero, List.set_cons_succ, List.getElem_toArray, List.getElem_cons_succ, List.getElem_cons_zero]
          generalize (W13.setCell ⟨G, (m + M) * 2, none⟩ (.int .u32 qa)).setCell ⟨G, (m + M) * 2 + 1, none⟩ (.int .u32 qb) = W14 at *
          refine wpAnyH_done (by kernel_rfl) ?_ _
          refine NoPanic.normal ?_
          clear bw1 bw2 b3 b4 b5
          go_wp2_with fail
          try rw [ek1]
          go_roundw
          case rel => exact ⟨m + 1, HMM.out, rfl, by rw [← HST.out, HP1.out, HP2.out]; exact HT11.out.forget (fun y hy => by cases hy)⟩
          case measure =>
            have := HMM.out
            show M - ((m + 1 : Nat) : Int).toNat < M - (m : Int).toNat
            omega
      · have hmM : m = M := by omega
        have tm : decide ((m : Int) < (M : Int)) = false := decide_eq_false (by omega)
        have tm' : decide (m < M) = false := decide_eq_false hlt
        have HMM := Lib.hid hmM
        clear hlt hm hmM
        go_wp2_with fail
        go_ret
        have h := HT1.out
        rw [HMM.out, ← HFF'.out] at h
        have hg := Below.toGrown h.below (some r)
        exact ⟨_, rfl, Own.base h.o1 HG8.out.size, Grown.trans HG8.out hg, HF8.out.step h.below⟩
end Go.Proofs.Ytlbgpfddmkpakaa.Nu
