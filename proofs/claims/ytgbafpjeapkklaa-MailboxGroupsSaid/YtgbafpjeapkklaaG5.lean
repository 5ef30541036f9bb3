/- Parts Uk of the proof. -/
import Derived.Test.YtgbafpjeapkklaaG4
namespace Go.Proofs.Ytgbafpjeapkklaa.Mb
open Go.RowKit
set_option linter.unusedVariables false
set_option linter.unusedSimpArgs false
theorem var3 (W : World) (v0 v1 v2 : Value) {W' : World} (hW : W' = W.alloc (Obj.cells #[v0, v1, v2] 68)) : W'.heap[W.heap.size]? = some (.cells #[v0, v1, v2] 68 (0, 0)) ∧ Below W.heap.size W W' := by
  subst hW
  exact ⟨(MapKept.heap_alloc W _).1, (Below.refl _ _).alloc (Nat.le_refl _) _⟩
theorem meas_lt (k n : Nat) (h : k < n) : n - (intOf (.int .i64 ((k + 1 : Nat) : Int))).toNat < n - (intOf (.int .i64 (k : Int))).toNat := by simp [intOf]; omega
set_option maxRecDepth 100000 in
set_option maxHeartbeats 8000000 in
theorem rnext_none {B : Nat} {b : Value} {most : List Int} {mail : List (List Int)} {grp : List Int} (w : World) (hb : BR w B b most mail grp) (hB : B ≤ w.heap.size) (hgl : grp.length ≤ 64) (hv : ∀ k, k < grp.length → ∃ (m : Nat) (l0 : List Int), grp[k]? = some (m : Int) ∧ mail[m]? = some l0) (he : ∀ (k m : Nat) (l0 : List Int), grp[k]? = some (m : Int) → mail[m]? = some l0 → l0 = []) :
    Calls Try.prog 27 #[b] w fun e w' => e = .returned (.tuple #[b, .int .i64 0, .int .i64 (-1), .bool false]) ∧ Below w.heap.size w w' := by
  obtain ⟨v0, v1, v2, vs, rfl, h0, h1, h2, h3⟩ := hb
  obtain ⟨q0, k0, rfl⟩ := own1_slice h0
  obtain ⟨q1, k1, rfl⟩ := own1_slice h1
  obtain ⟨q2, k2, rfl⟩ := own1_slice h2
  have HN := Lib.hid hgl
  have HV := Lib.hid hv
  have HE := Lib.hid he
  have HBB := Lib.hid hB
  have H0 := Lib.hid h0
  have H1 := Lib.hid h1
  have H2 := Lib.hid h2
  have H3 := Lib.hid h3
  clear h0 h1 h2 h3 hgl hv he hB
  have HB0 : Hid (R3 w (.slice q0 most.length k0) (.slice q1 mail.length k1) (.slice q2 grp.length k2) ((w.alloc (Obj.cells #[.slice q0 most.length k0, .slice q1 mail.length k1, .slice q2 grp.length k2] 68)).alloc (Obj.cells #[.slice none 0 0, .slice none 0 0, .slice none 0 0] 68))) := R3.mk' w _ _ _
  go_enter Try.func27, Try.ntmps27
  go_upto_region 1 with fail
  generalize ((w.alloc (Obj.cells #[.slice q0 most.length k0, .slice q1 mail.length k1, .slice q2 grp.length k2] 68)).alloc (Obj.cells #[.slice none 0 0, .slice none 0 0, .slice none 0 0] 68)) = W0 at *
  go_wp2_with fail
  go_loopw [6] (fun s wr => wr = W0 ∧ ∃ k : Nat, k ≤ grp.length ∧ s = .int .i64 k) (fun s _ => grp.length - (intOf s).toNat)
  case atStart => exact ⟨rfl, 0, by omega, rfl⟩
  case round =>
    obtain ⟨rfl, k, hk, rfl⟩ := hrel
    obtain ⟨c0, c1, c2⟩ := HB0.out.facts
    by_cases hlt : k < grp.length
    · skip
      have tl : decide ((k : Int) < (grp.length : Int)) = true := decide_eq_true (by omega)
      have tl' : (k : Int) < (grp.length : Int) := by omega
      obtain ⟨m, l0, hm, hl0⟩ : ∃ (m : Nat) (l0 : List Int), grp[k]? = some (m : Int) ∧ mail[m]? = some l0 := HV.out k hlt
      have hml := (List.getElem?_eq_some_iff.1 hl0).1
      have tm : (m : Int) < (mail.length : Int) := by omega
      obtain ⟨g2, cp2, e, _, _, ⟨_, hg2⟩, hxs⟩ := own_at H2.out (by omega)
      injection e with e _ e3
      subst e e3
      have c3 : wr.cell? ⟨g2, k, none⟩ = some (.int .i64 (m : Int)) := (HB0.out.below.cell (p := ⟨g2, k, none⟩) (blk_lt hg2)).trans (hxs k _ (by simp [ints, hm]))
      obtain ⟨g1, cp1, e, _, _, ⟨_, hg1⟩, hys⟩ := own_at H1.out (by omega)
      injection e with e _ e3
      subst e e3
      obtain ⟨x, hx⟩ : ∃ x, vs[m]? = some x := ⟨vs[m]'(by have := H1.out.1; omega), by simp⟩
      obtain ⟨q3, k3, rfl⟩ := own1_slice (H3.out m x l0 hx hl0)
      have c4 : wr.cell? ⟨g1, m, none⟩ = some (.slice q3 l0.length k3) := (HB0.out.below.cell (p := ⟨g1, m, none⟩) (blk_lt hg1)).trans (hys m _ hx)
      have HM := Lib.hid hm
      have HL0 := Lib.hid hl0
      clear hm hxs hys hg1 hg2 hx hl0 hml
      have hnil : Hid (l0 = []) := HE.out k m l0 HM.out HL0.out
      have hlt' := (show k + 1 ≤ grp.length from hlt)
      have tc : ((l0.length : Int) == 0) = true := by rw [hnil.out]; rfl
      go_wp2_with fail
      have ew : wrap64 ((k : Int) + 1) = ((k + 1 : Nat) : Int) := by have := HN.out; unfold wrap64; omega
      rw [ew]
      go_roundw
      case rel =>
        exact ⟨by first | rfl | trivial, k + 1, hlt', rfl⟩
      case measure => exact meas_lt k grp.length hlt
    · have tl : decide ((k : Int) < (grp.length : Int)) = false := decide_eq_false (by omega)
      obtain ⟨z0, z1, z2⟩ := HB0.out.zero
      have f0 := (HB0.out.frz 0).2
      have f1 := (HB0.out.frz 1).2
      have f2 := (HB0.out.frz 2).2
      go_wp2_with fail
      obtain ⟨W5, hW5⟩ : ∃ W5, W5 = (((wr.setCell ⟨w.heap.size + 1, 0, none⟩ (.slice q0 most.length k0)).setCell ⟨w.heap.size + 1, 1, none⟩ (.slice q1 mail.length k1)).setCell ⟨w.heap.size + 1, 2, none⟩ (.slice q2 grp.length k2)) := ⟨_, rfl⟩
      rw [← hW5]
      obtain ⟨k1', d0, d1, d2, _⟩ := HB0.out.fin hW5
      have K1 := Lib.hid k1'
      clear c0 c1 c2 z0 z1 z2 f0 f1 f2 k1' hW5
      refine bodyPost_ret (v := .tuple #[.agg #[.slice q0 most.length k0, .slice q1 mail.length k1, .slice q2 grp.length k2], .int .i64 0, .int .i64 (-1), .bool false]) (by simp [results, Try.results27, go_sem, d0, d1, d2]) rfl ⟨rfl, K1.out⟩
set_option maxRecDepth 100000 in
set_option maxHeartbeats 8000000 in
theorem rnext_some {B : Nat} {b : Value} {most : List Int} {mail : List (List Int)} {grp : List Int} {K M : Nat} {n : Int} {l : List Int} (w : World) (hb : BR w B b most mail grp) (hB : B ≤ w.heap.size) (hgl : grp.length ≤ 64) (hv : ∀ k, k < grp.length → ∃ (m : Nat) (l0 : List Int), grp[k]? = some (m : Int) ∧ mail[m]? = some l0) (hl1 : most.length = mail.length) (hll : l.length ≤ 2000) (hl2 : mail.length ≤ 1000) (hg : grp[K]? = some (M : Int)) (hml : mail[M]? = some (n :: l)) (he : ∀ (k m : Nat) (l0 : List Int), k < K → grp[k]? = some (m : Int) → mail[m]? = some l0 → l0 = []) :
    Calls Try.prog 27 #[b] w fun e w' => ∃ b', e = .returned (.tuple #[b', .int .i64 n, .int .i64 K, .bool true]) ∧ BR w' B b' most (mail.set M l) (grp.take K ++ grp.drop (K + 1) ++ [(M : Int)]) ∧ Below w.heap.size w w' := by
  have HBR := Lib.hid hb
  have hKl := (List.getElem?_eq_some_iff.1 hg).1
  obtain ⟨v0, v1, v2, vs, rfl, h0, h1, h2, h3⟩ := hb
  obtain ⟨q0, k0, rfl⟩ := own1_slice h0
  obtain ⟨q1, k1, rfl⟩ := own1_slice h1
  obtain ⟨q2, k2, rfl⟩ := own1_slice h2
  have HT : Hid (∀ W, Below w.heap.size w W → Calls Try.prog 31 #[.agg #[.slice q0 most.length k0, .slice q1 mail.length k1, .slice q2 grp.length k2], .int .i64 M] W fun e w' => ∃ b', e = .returned (.tuple #[b', .int .i64 n, .bool true]) ∧ BR w' B b' most (mail.set M l) grp ∧ Below W.heap.size W w') := fun W hW => rtake_yes W (BR.below HBR.out hW) (Nat.le_trans hB hW.size) hl1 hll hl2 hml
  have HG := Lib.hid hg
  have HML := Lib.hid hml
  have HKL := Lib.hid hKl
  clear HBR hl1 hll hl2 hg hml hKl
  have HN := Lib.hid hgl
  have HV := Lib.hid hv
  have HE := Lib.hid he
  have HBB := Lib.hid hB
  have H0 := Lib.hid h0
  have H1 := Lib.hid h1
  have H2 := Lib.hid h2
  have H3 := Lib.hid h3
  clear h0 h1 h2 h3 hgl hv he hB
  have HB0 : Hid (R3 w (.slice q0 most.length k0) (.slice q1 mail.length k1) (.slice q2 grp.length k2) ((w.alloc (Obj.cells #[.slice q0 most.length k0, .slice q1 mail.length k1, .slice q2 grp.length k2] 68)).alloc (Obj.cells #[.slice none 0 0, .slice none 0 0, .slice none 0 0] 68))) := R3.mk' w _ _ _
  go_enter Try.func27, Try.ntmps27
  go_upto_region 1 with fail
  generalize ((w.alloc (Obj.cells #[.slice q0 most.length k0, .slice q1 mail.length k1, .slice q2 grp.length k2] 68)).alloc (Obj.cells #[.slice none 0 0, .slice none 0 0, .slice none 0 0] 68)) = W0 at *
  go_wp2_with fail
  go_loopw [6] (fun s wr => wr = W0 ∧ ∃ k : Nat, k ≤ K ∧ s = .int .i64 k) (fun s _ => grp.length - (intOf s).toNat)
  case atStart => exact ⟨rfl, 0, by omega, rfl⟩
  case round =>
    obtain ⟨rfl, k, hk, rfl⟩ := hrel
    obtain ⟨c0, c1, c2⟩ := HB0.out.facts
    have hlt : k < grp.length := Nat.lt_of_le_of_lt hk HKL.out
    by_cases hkK : k < K
    · skip
      have tl : decide ((k : Int) < (grp.length : Int)) = true := decide_eq_true (by omega)
      have tl' : (k : Int) < (grp.length : Int) := by omega
      obtain ⟨m, l0, hm, hl0⟩ : ∃ (m : Nat) (l0 : List Int), grp[k]? = some (m : Int) ∧ mail[m]? = some l0 := HV.out k hlt
      have hml := (List.getElem?_eq_some_iff.1 hl0).1
      have tm : (m : Int) < (mail.length : Int) := by omega
      obtain ⟨g2, cp2, e, _, _, ⟨_, hg2⟩, hxs⟩ := own_at H2.out (by omega)
      injection e with e _ e3
      subst e e3
      have c3 : wr.cell? ⟨g2, k, none⟩ = some (.int .i64 (m : Int)) := (HB0.out.below.cell (p := ⟨g2, k, none⟩) (blk_lt hg2)).trans (hxs k _ (by simp [ints, hm]))
      obtain ⟨g1, cp1, e, _, _, ⟨_, hg1⟩, hys⟩ := own_at H1.out (by omega)
      injection e with e _ e3
      subst e e3
      obtain ⟨x, hx⟩ : ∃ x, vs[m]? = some x := ⟨vs[m]'(by have := H1.out.1; omega), by simp⟩
      obtain ⟨q3, k3, rfl⟩ := own1_slice (H3.out m x l0 hx hl0)
      have c4 : wr.cell? ⟨g1, m, none⟩ = some (.slice q3 l0.length k3) := (HB0.out.below.cell (p := ⟨g1, m, none⟩) (blk_lt hg1)).trans (hys m _ hx)
      have HM := Lib.hid hm
      have HL0 := Lib.hid hl0
      clear hm hxs hys hg1 hg2 hx hl0 hml
      have hnil : Hid (l0 = []) := HE.out k m l0 hkK HM.out HL0.out
      have hlt' := (show k + 1 ≤ K from hkK)
      have tc : ((l0.length : Int) == 0) = true := by rw [hnil.out]; rfl
      go_wp2_with fail
      have ew : wrap64 ((k : Int) + 1) = ((k + 1 : Nat) : Int) := by have := HN.out; unfold wrap64; omega
      rw [ew]
      go_roundw
      case rel =>
        exact ⟨by first | rfl | trivial, k + 1, hlt', rfl⟩
      case measure => exact meas_lt k grp.length hlt
    · obtain rfl : k = K := by omega
      have tl : decide ((k : Int) < (grp.length : Int)) = true := decide_eq_true (by omega)
      have tl' : (k : Int) < (grp.length : Int) := by omega
      obtain ⟨m, l0, hm, hl0⟩ : ∃ (m : Nat) (l0 : List Int), grp[k]? = some (m : Int) ∧ mail[m]? = some l0 := HV.out k hlt
      have hml := (List.getElem?_eq_some_iff.1 hl0).1
      have tm : (m : Int) < (mail.length : Int) := by omega
      obtain ⟨g2, cp2, e, _, _, ⟨_, hg2⟩, hxs⟩ := own_at H2.out (by omega)
      injection e with e _ e3
      subst e e3
      have c3 : wr.cell? ⟨g2, k, none⟩ = some (.int .i64 (m : Int)) := (HB0.out.below.cell (p := ⟨g2, k, none⟩) (blk_lt hg2)).trans (hxs k _ (by simp [ints, hm]))
      obtain ⟨g1, cp1, e, _, _, ⟨_, hg1⟩, hys⟩ := own_at H1.out (by omega)
      injection e with e _ e3
      subst e e3
      obtain ⟨x, hx⟩ : ∃ x, vs[m]? = some x := ⟨vs[m]'(by have := H1.out.1; omega), by simp⟩
      obtain ⟨q3, k3, rfl⟩ := own1_slice (H3.out m x l0 hx hl0)
      have c4 : wr.cell? ⟨g1, m, none⟩ = some (.slice q3 l0.length k3) := (HB0.out.below.cell (p := ⟨g1, m, none⟩) (blk_lt hg1)).trans (hys m _ hx)
      have HM := Lib.hid hm
      have HL0 := Lib.hid hl0
      clear hm hxs hys hg1 hg2 hx hl0 hml
      obtain rfl : m = M := by have := HM.out; rw [HG.out] at this; injection this with this; omega
      obtain rfl : l0 = n :: l := by have := HL0.out; rw [HML.out] at this; injection this with this; exact this.symm
      have tc : (((n :: l).length : Int) == 0) = false := by rw [beq_eq_false_iff_ne, List.length_cons]; omega
      go_wp2_with fail
      refine (HT.out _ HB0.out.below).mono ?_
      rintro e W1 ⟨b', rfl, ⟨v0, v1, v2, vs', rfl, r0, r1, r2, r3⟩, hb1⟩
      simp only [List.length_set] at r1
      obtain ⟨p0, e0, rfl⟩ := own1_slice r0
      obtain ⟨p1, e1, rfl⟩ := own1_slice r1
      obtain ⟨g4, e4, h4, _, hcp4, _, _⟩ := own_at r2 (by omega)
      subst h4
      have HB1 := Lib.hid (HB0.out.step hb1)
      have R0 := Lib.hid r0
      have R1 := Lib.hid r1
      have R2 := Lib.hid r2
      have R3' := Lib.hid r3
      have HCP := Lib.hid hcp4
      clear r0 r1 r2 r3 hcp4 hb1 c0 c1 c2 c3 c4 tl tc
      obtain ⟨c0, c1, c2⟩ := HB1.out.facts
      go_upto_region 7 with fail
      obtain ⟨W2, hW2⟩ : ∃ W2, W2 = W1.alloc (Obj.cells #[.slice p0 most.length e0, .slice p1 mail.length e1, .slice (some ⟨g4, 0, none⟩) grp.length e4] 68) := ⟨_, rfl⟩
      rw [← hW2]
      obtain ⟨hv3, hb2⟩ := var3 W1 _ _ _ hW2
      have HVAR := Lib.hid hv3
      have HB2 := Lib.hid hb2
      clear hW2 hv3 hb2 c0 c1 c2
      have HG2 := Lib.hid (own_lower (own1_below R2.out HB2.out) (Nat.zero_le _))
      have HSA : Hid (Src W2 (.slice (some ⟨g4, 0, none⟩) k e4) (ints (grp.take k))) := src_head HG2.out (Nat.le_of_lt hlt)
      obtain ⟨sb, hsb, hsr⟩ := src_drop HG2.out hlt HCP.out
      have HSB := Lib.hid hsb
      have HSR := Lib.hid hsr
      clear hsb hsr
      have HLE : Hid (k + 1 ≤ grp.length ∧ grp.length ≤ 64) := ⟨hlt, HN.out⟩
      have EW : Hid (IntKind.i64.wrap ((k : Int) + 1) = (k : Int) + 1) := by show _ = _; have := HLE.out; rw [IntKind.wrap_i64]; omega
      have D0 := (DA.start W2).row
      obtain ⟨u1, W3, hr1, D1⟩ := D0.app 30 HSA.out (by have := HLE.out; simp [ints] <;> omega)
      rw [show 0 + (ints (grp.take k)).length = k by have := HLE.out; simp [ints] <;> omega, List.nil_append] at D1
      obtain ⟨u2, W4, hr2, D2⟩ := D1.app 30 HSR.out (by have := HLE.out; simp [ints]; omega)
      rw [show k + (ints (grp.drop (k + 1))).length = grp.length - 1 by have := HLE.out; simp [ints]; omega] at D2
      obtain ⟨u3, W5, hr3, D3⟩ := (D2.cell (.int .i64 (m : Int))).one 30 (List.mem_cons_self ..) rfl (by have := HLE.out; omega)
      rw [show grp.length - 1 + 1 = grp.length by have := HLE.out; omega, show ints (grp.take k) ++ ints (grp.drop (k + 1)) ++ [Value.int .i64 (m : Int)] = ints (grp.take k ++ grp.drop (k + 1) ++ [(m : Int)]) by simp [ints]] at D3
      obtain ⟨s1, t1, hs1⟩ := own1_slice D1.own
      obtain ⟨s2, t2, hs2⟩ := own1_slice D2.own
      obtain ⟨s3, t3, hs3⟩ := own1_slice D3.own
      subst hs1 hs2 hs3
      have X0 : Hid (W2.alloc (Obj.cells #[] 3) = W2.alloc (Obj.cells #[] 3)) := rfl
      have HD0 := Lib.hid D0
      have HD1 := Lib.hid D1
      have HD2 := Lib.hid D2
      have HD3 := Lib.hid D3
      have HR1 := Lib.hid hr1
      have HR2 := Lib.hid hr2
      have HR3 := Lib.hid hr3
      clear D0 D1 D2 D3 hr1 hr2 hr3
      have HC : Hid (∀ W, Below W2.heap.size W2 W → W.cell? ⟨W1.heap.size, 2, none⟩ = some (.slice (some ⟨g4, 0, none⟩) grp.length e4)) := fun W h => cell_blk ((h.block _ (blk_lt HVAR.out)).trans HVAR.out) 2
      have i1 := HLE.out.1
      have i3 := HCP.out
      have i4 : (k : Int) ≤ (e4 : Int) := by omega
      have i5 : (0 : Int) ≤ (k : Int) := by omega
      have i6 : (k : Int) + 1 ≤ (grp.length : Int) := by omega
      have i7 : (0 : Int) ≤ (k : Int) + 1 := by omega
      have s9 := HSB.out
      have ew := EW.out
      have c2 := HC.out _ HD0.out.below
      go_upto_region 8 with (at_builtin; refine Lib.wpList_append_run _ rfl _ _ _ _ rfl (.slice (some ⟨W2.heap.size, 0, none⟩) 0 0) (.slice (some ⟨g4, 0, none⟩) k e4) rfl rfl _ _ HR1.out ?_)
      clear c2
      have c2 := HC.out _ HD1.out.below
      go_upto_region 9 with (at_builtin; refine Lib.wpList_append_run _ rfl _ _ _ _ rfl (.slice s1 k t1) (.slice (some sb) (grp.length - (k + 1)) (e4 - (k + 1))) rfl rfl _ _ HR2.out ?_)
      clear c2
      have c2 := HC.out _ HD3.out.below
      have f2 : W5.frozen? ⟨W1.heap.size, 2, none⟩ = false := frozen_blk ((HD3.out.below.block _ (blk_lt HVAR.out)).trans HVAR.out) 2
      go_upto_region 10 with (at_builtin; refine Lib.wpList_append_run _ rfl _ _ _ _ rfl (.slice s2 (grp.length - 1) t2) (.slice (some ⟨W4.heap.size, 0, none⟩) 1 1) rfl rfl _ _ HR3.out ?_)
      clear c2 f2 i1 i3 i4 i5 i6 i7 s9 ew
      have HV5 : Hid (W5.heap[W1.heap.size]? = some (.cells #[.slice p0 most.length e0, .slice p1 mail.length e1, .slice (some ⟨g4, 0, none⟩) grp.length e4] 68 (0, 0))) := (HD3.out.below.block _ (blk_lt HVAR.out)).trans HVAR.out
      have HB5 : Hid (Below W1.heap.size W1 W5) := HB2.out.trans (HD3.out.below.mono HB2.out.size)
      have HV6 : Hid ((W5.setCell ⟨W1.heap.size, 2, none⟩ (.slice s3 grp.length t3)).heap[W1.heap.size]? = some (.cells #[.slice p0 most.length e0, .slice p1 mail.length e1, .slice s3 grp.length t3] 68 (0, 0))) := blk_set HV5.out 2 _
      have HB6 : Hid (R3 w (.slice q0 most.length k0) (.slice (some ⟨g1, 0, none⟩) mail.length k1) (.slice (some ⟨g2, 0, none⟩) grp.length k2) (W5.setCell ⟨W1.heap.size, 2, none⟩ (.slice s3 grp.length t3))) := (HB1.out.step HB5.out).off W1.heap.size 2 (by exact blk_lt HB1.out.out) _
      have O0 : Hid ((W5.setCell ⟨W1.heap.size, 2, none⟩ (.slice s3 grp.length t3)).ownsRow B 3 1 (.slice p0 most.length e0) most.length (ints most)) := own_other (own1_below R0.out HB5.out) HV5.out (by decide) 2 _
      have O1 : Hid ((W5.setCell ⟨W1.heap.size, 2, none⟩ (.slice s3 grp.length t3)).ownsRow B 30 1 (.slice p1 mail.length e1) mail.length vs') := own_other (own1_below R1.out HB5.out) HV5.out (by decide) 2 _
      have O2 : Hid ((W5.setCell ⟨W1.heap.size, 2, none⟩ (.slice s3 grp.length t3)).ownsRow B 3 1 (.slice s3 grp.length t3) grp.length (ints (grp.take k ++ grp.drop (k + 1) ++ [(m : Int)]))) := own_lower (own_other HD3.out.own HV5.out (by decide) 2 _) (Nat.le_trans HBB.out (Nat.le_trans HB1.out.below.size HB2.out.size))
      have O3 : Hid (∀ (i : Nat) (x : Value) (l' : List Int), vs'[i]? = some x → (mail.set m l)[i]? = some l' → (W5.setCell ⟨W1.heap.size, 2, none⟩ (.slice s3 grp.length t3)).ownsRow B 3 1 x l'.length (ints l')) := fun i x l' hx hl => own_other (own1_below (R3'.out i x l' hx hl) HB5.out) HV5.out (by decide) 2 _
      generalize W5.setCell ⟨W1.heap.size, 2, none⟩ (.slice s3 grp.length t3) = W6 at *
      clear HT HBB HN HV HE
      have c0 : W6.cell? ⟨W1.heap.size, 0, none⟩ = some (.slice p0 most.length e0) := cell_blk HV6.out 0
      have c1 : W6.cell? ⟨W1.heap.size, 1, none⟩ = some (.slice p1 mail.length e1) := cell_blk HV6.out 1
      have c2 : W6.cell? ⟨W1.heap.size, 2, none⟩ = some (.slice s3 grp.length t3) := cell_blk HV6.out 2
      obtain ⟨z0, z1, z2⟩ := HB6.out.zero
      have f0 := (HB6.out.frz 0).2
      have f1 := (HB6.out.frz 1).2
      have f2 := (HB6.out.frz 2).2
      go_wp2_with fail
      obtain ⟨W7, hW7⟩ : ∃ W7, W7 = (((W6.setCell ⟨w.heap.size + 1, 0, none⟩ (.slice p0 most.length e0)).setCell ⟨w.heap.size + 1, 1, none⟩ (.slice p1 mail.length e1)).setCell ⟨w.heap.size + 1, 2, none⟩ (.slice s3 grp.length t3)) := ⟨_, rfl⟩
      rw [← hW7]
      obtain ⟨k1', d0, d1, d2, hk⟩ := HB6.out.fin hW7
      have K1 := Lib.hid k1'
      have HK := Lib.hid hk
      clear c0 c1 c2 z0 z1 z2 f0 f1 f2 k1' hW7 hk
      refine bodyPost_ret (v := .tuple #[.agg #[.slice p0 most.length e0, .slice p1 mail.length e1, .slice s3 grp.length t3], .int .i64 n, .int .i64 k, .bool true]) (by simp [results, Try.results27, go_sem, d0, d1, d2]) rfl ⟨_, rfl, ⟨_, _, _, vs', rfl, ?_, ?_, ?_, ?_⟩, K1.out⟩
      · exact own_keep O0.out (fun g C f hg => HK.out g C 3 f (.inl rfl) hg)
      · rw [List.length_set]
        exact own_keep O1.out (fun g C f hg => HK.out g C 30 f (.inr rfl) hg)
      · have hlen : (grp.take k ++ (grp.drop (k + 1) ++ [(m : Int)])).length = grp.length := by have := HLE.out; simp; omega
        rw [hlen, ← List.append_assoc]
        exact own_keep O2.out (fun g C f hg => HK.out g C 3 f (.inl rfl) hg)
      · exact fun i x l' hx hl => own_keep (O3.out i x l' hx hl) (fun g C f hg => HK.out g C 3 f (.inl rfl) hg)
end Go.Proofs.Ytgbafpjeapkklaa.Mb
