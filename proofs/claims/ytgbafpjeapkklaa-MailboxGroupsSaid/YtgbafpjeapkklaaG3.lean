/- Parts Uh of the proof. -/
import Derived.Test.YtgbafpjeapkklaaG2
namespace Go.Proofs.Ytgbafpjeapkklaa.Mb
open Go.RowKit
set_option linter.unusedVariables false
set_option linter.unusedSimpArgs false
theorem src_tail {W : World} {B g cp : Nat} {n : Int} {l : List Int} (h : W.ownsRow B 3 1 (.slice (some ⟨g, 0, none⟩) (l.length + 1) cp) (l.length + 1) (ints (n :: l))) (hcp : l.length + 1 ≤ cp) :
    ∃ sa, (if cp = 1 then some (⟨g, 0, none⟩ : Addr) else some ⟨g, 1, none⟩) = some sa ∧ Src W (.slice (some sa) l.length (cp - 1)) (ints l) := by
  by_cases h1 : cp = 1
  · have : l = [] := List.eq_nil_of_length_eq_zero (by omega)
    subst this
    exact ⟨_, by rw [if_pos h1], .inr ⟨⟨g, 0, none⟩, cp - 1, rfl, fun j x hx => by simp [ints] at hx, ints_one []⟩⟩
  · refine ⟨_, by rw [if_neg h1], .inr ⟨⟨g, 1, none⟩, cp - 1, by simp [ints], fun j x hx => ?_, ints_one l⟩⟩
    have := h.cells (g := g) rfl (j + 1) x (by simpa [ints] using hx)
    rw [Addr.add_lit, Nat.zero_add] at this
    rw [Addr.add_lit, Nat.add_comm]
    exact this
set_option maxRecDepth 100000 in
set_option maxHeartbeats 8000000 in
theorem rtake_no {B : Nat} {b : Value} {most : List Int} {mail : List (List Int)} {grp : List Int} {k : Nat} (w : World) (hb : BR w B b most mail grp) (hl0 : most.length = mail.length) {l : List Int} (hl : mail[k]? = some l) (hn : l = []) :
    Calls Try.prog 31 #[b, .int .i64 k] w fun e w' => e = .returned (.tuple #[b, .int .i64 0, .bool false]) ∧ Below w.heap.size w w' := by
  obtain ⟨c, hm⟩ : ∃ c, most[k]? = some c := ⟨most[k]'(by have := (List.getElem?_eq_some_iff.1 hl).1; omega), by simp⟩
  obtain ⟨g0, k0, g1, k1, q2, k2, vs, q, k3, rfl, ⟨h0, h1, h2, h3⟩, hg0, x0, hg1, x1, hvx, hrow⟩ := hb.at hm hl
  have hk := (List.getElem?_eq_some_iff.1 hl).1
  have hk0 := (List.getElem?_eq_some_iff.1 hm).1
  have ti : (k : Int) < (mail.length : Int) := by omega
  have ti0 : (k : Int) < (most.length : Int) := by omega
  have X0 : Hid (∀ W, Below w.heap.size w W → W.cell? ⟨g0, k, none⟩ = some (.int .i64 c)) := fun W h => (h.cell (p := ⟨g0, k, none⟩) hg0).trans x0
  have X1 : Hid (∀ W, Below w.heap.size w W → W.cell? ⟨g1, k, none⟩ = some (.slice q l.length k3)) := fun W h => (h.cell (p := ⟨g1, k, none⟩) hg1).trans x1
  have tc : ((l.length : Int) == 0) = true := by rw [hn]; rfl
  clear h0 h1 h2 h3 hg0 x0 hg1 x1 hvx hrow hk hk0 hm hl hl0 hn
  have HB0 : Hid (R3 w (.slice (some ⟨g0, 0, none⟩) most.length k0) (.slice (some ⟨g1, 0, none⟩) mail.length k1) (.slice q2 grp.length k2) ((w.alloc (Obj.cells #[.slice (some ⟨g0, 0, none⟩) most.length k0, .slice (some ⟨g1, 0, none⟩) mail.length k1, .slice q2 grp.length k2] 68)).alloc (Obj.cells #[.slice none 0 0, .slice none 0 0, .slice none 0 0] 68))) := R3.mk' w _ _ _
  go_enter Try.func31, Try.ntmps31
  go_upto_region 1 with fail
  generalize ((w.alloc (Obj.cells #[.slice (some ⟨g0, 0, none⟩) most.length k0, .slice (some ⟨g1, 0, none⟩) mail.length k1, .slice q2 grp.length k2] 68)).alloc (Obj.cells #[.slice none 0 0, .slice none 0 0, .slice none 0 0] 68)) = W0 at *
  obtain ⟨c0, c1, c2⟩ := HB0.out.facts
  have y1 := X1.out _ HB0.out.below
  go_upto_region 2 with fail
  obtain ⟨z0, z1, z2⟩ := HB0.out.zero
  have f0 := (HB0.out.frz 0).2
  have f1 := (HB0.out.frz 1).2
  have f2 := (HB0.out.frz 2).2
  go_wp2_with fail
  obtain ⟨W5, hW5⟩ : ∃ W5, W5 = (((W0.setCell ⟨w.heap.size + 1, 0, none⟩ (.slice (some ⟨g0, 0, none⟩) most.length k0)).setCell ⟨w.heap.size + 1, 1, none⟩ (.slice (some ⟨g1, 0, none⟩) mail.length k1)).setCell ⟨w.heap.size + 1, 2, none⟩ (.slice q2 grp.length k2)) := ⟨_, rfl⟩
  rw [← hW5]
  obtain ⟨k1', d0, d1, d2, _⟩ := HB0.out.fin hW5
  have K1 := Lib.hid k1'
  clear c0 c1 c2 z0 z1 z2 f0 f1 f2 k1' hW5
  refine bodyPost_ret (v := .tuple #[.agg #[.slice (some ⟨g0, 0, none⟩) most.length k0, .slice (some ⟨g1, 0, none⟩) mail.length k1, .slice q2 grp.length k2], .int .i64 0, .bool false]) (by simp [results, Try.results31, go_sem, d0, d1, d2]) rfl ⟨rfl, K1.out⟩
set_option maxRecDepth 100000 in
set_option maxHeartbeats 8000000 in
theorem rtake_yes {B : Nat} {b : Value} {most : List Int} {mail : List (List Int)} {grp : List Int} {n : Int} {k : Nat} {l : List Int} (w : World) (hb : BR w B b most mail grp) (hB : B ≤ w.heap.size) (hl0 : most.length = mail.length) (hll : l.length ≤ 2000) (hl2 : mail.length ≤ 1000) (hl : mail[k]? = some (n :: l)) :
    Calls Try.prog 31 #[b, .int .i64 k] w fun e w' => ∃ b', e = .returned (.tuple #[b', .int .i64 n, .bool true]) ∧ BR w' B b' most (mail.set k l) grp ∧ Below w.heap.size w w' := by
  obtain ⟨c, hm⟩ : ∃ c, most[k]? = some c := ⟨most[k]'(by have := (List.getElem?_eq_some_iff.1 hl).1; omega), by simp⟩
  obtain ⟨g0, k0, g1, k1, q2, k2, vs, q, k3, rfl, ⟨h0, h1, h2, h3⟩, hg0, x0, hg1, x1, hvx, hrow⟩ := hb.at hm hl
  have hk := (List.getElem?_eq_some_iff.1 hl).1
  have hk0 := (List.getElem?_eq_some_iff.1 hm).1
  have ti : (k : Int) < (mail.length : Int) := by omega
  have ti0 : (k : Int) < (most.length : Int) := by omega
  have X0 : Hid (∀ W, Below w.heap.size w W → W.cell? ⟨g0, k, none⟩ = some (.int .i64 c)) := fun W h => (h.cell (p := ⟨g0, k, none⟩) hg0).trans x0
  have X1 : Hid (∀ W, Below w.heap.size w W → W.cell? ⟨g1, k, none⟩ = some (.slice q (l.length + 1) k3)) := fun W h => (h.cell (p := ⟨g1, k, none⟩) hg1).trans x1
  obtain ⟨g3, cp3, hq, hB3, hcp3, ⟨_, hg3⟩, hx3⟩ := own_at hrow (by simp)
  injection hq with hq _ hq3
  subst hq hq3
  have X3 : Hid (∀ W, Below w.heap.size w W → W.cell? ⟨g3, 0, none⟩ = some (.int .i64 n)) := fun W h => (h.cell (p := ⟨g3, 0, none⟩) (blk_lt hg3)).trans (hx3 0 _ (by simp [ints]))
  have tc : (((l.length + 1 : Nat) : Int) == 0) = false := by rw [beq_eq_false_iff_ne]; omega
  have ti3 : (0 : Int) < ((l.length + 1 : Nat) : Int) := by omega
  have HC3 := Lib.hid hcp3
  have H0 := Lib.hid h0
  have H1 := Lib.hid h1
  have H2 := Lib.hid h2
  have H3 := Lib.hid h3
  have HR := Lib.hid hrow
  have HVX := Lib.hid hvx
  have HML := Lib.hid hl
  have HLL := Lib.hid hll
  have HL2 := Lib.hid hl2
  have HBB := Lib.hid hB
  clear h0 h1 h2 h3 hg0 x0 hg1 x1 hvx hrow hk hk0 hm hl hB hll hl2 hl0 hB3 hg3 hx3 hcp3
  have HB0 : Hid (R3 w (.slice (some ⟨g0, 0, none⟩) most.length k0) (.slice (some ⟨g1, 0, none⟩) mail.length k1) (.slice q2 grp.length k2) ((w.alloc (Obj.cells #[.slice (some ⟨g0, 0, none⟩) most.length k0, .slice (some ⟨g1, 0, none⟩) mail.length k1, .slice q2 grp.length k2] 68)).alloc (Obj.cells #[.slice none 0 0, .slice none 0 0, .slice none 0 0] 68))) := R3.mk' w _ _ _
  go_enter Try.func31, Try.ntmps31
  go_upto_region 1 with fail
  generalize ((w.alloc (Obj.cells #[.slice (some ⟨g0, 0, none⟩) most.length k0, .slice (some ⟨g1, 0, none⟩) mail.length k1, .slice q2 grp.length k2] 68)).alloc (Obj.cells #[.slice none 0 0, .slice none 0 0, .slice none 0 0] 68)) = W0 at *
  obtain ⟨c0, c1, c2⟩ := HB0.out.facts
  have y1 := X1.out _ HB0.out.below
  have y3 := X3.out _ HB0.out.below
  go_upto_region 3 with fail
  go_upto_region 4 with fail
  clear y1 y3
  have HB1 := HB0
  clear c0 c1 c2
  obtain ⟨c0, c1, c2⟩ := HB1.out.facts
  have hv1 := own_lower (own1_below H1.out HB1.out.below) (Nat.zero_le _)
  obtain ⟨u4, W4, hr4, ho4, hb4, p4, kU, hs4⟩ := copy_row rk66 W0 66 hv1 (one_slices hv1 (fun i x hx => by
    obtain ⟨l, hl⟩ : ∃ l, mail[i]? = some l := ⟨mail[i]'(by have h := (List.getElem?_eq_some_iff.1 hx).1; rw [hv1.1] at h; omega), by simp⟩
    exact own_one_cell (H3.out i x l hx hl))) (by have := HL2.out; omega)
  subst hs4
  have HR4 := Lib.hid hr4
  have HO4 := Lib.hid ho4
  have HB4 := Lib.hid (HB1.out.step hb4)
  have HS1 : Hid (w.heap.size ≤ W0.heap.size) := HB1.out.below.size
  clear hv1 hr4 ho4 hb4
  obtain ⟨_, a1, _⟩ := (HB1.out.step ((Below.refl _ _).alloc (Nat.le_refl _) (Obj.cells #[] 30))).facts
  obtain ⟨d0, d1, d2⟩ := HB4.out.facts
  have g1' := (HB4.out.frz 1).1
  go_upto_region 5 with (at_builtin; refine Lib.wpList_append_run _ rfl _ _ _ _ rfl (.slice (some ⟨W0.heap.size, 0, none⟩) 0 0) (.slice (some ⟨g1, 0, none⟩) mail.length k1) rfl rfl _ _ HR4.out ?_)
  clear a1 d0 d1 d2 g1' c0 c1 c2
  have HB5 := Lib.hid (HB4.out.set1 (.slice p4 mail.length kU))
  have HO5 := Lib.hid (own_keep HO4.out (fun g C f hg => HB4.out.keeps 1 (.slice p4 mail.length kU) g C 30 f (.inr rfl) hg))
  generalize W4.setCell ⟨w.heap.size, 1, none⟩ (.slice p4 mail.length kU) = W5 at *
  obtain ⟨gU, eU, hpU, hgU, _, ⟨curU, hcU⟩, hxU⟩ := own_at HO5.out (by omega)
  injection hpU with hp1 _ hp3
  subst hp1 hp3
  have HU : Hid (W0.heap.size ≤ gU ∧ W5.heap[gU]? = some (.cells curU 30 (0, 0)) ∧ W5.cell? ⟨gU, k, none⟩ = some (.slice (some ⟨g3, 0, none⟩) (l.length + 1) k3)) := ⟨hgU, hcU, hxU k _ HVX.out⟩
  have HR5 := Lib.hid (own_lower (own1_below HR.out HB5.out.below) (Nat.zero_le _))
  have HXB : Hid (∀ W, Below W5.heap.size W5 W → W.heap[w.heap.size]? = some (.cells #[.slice (some ⟨g0, 0, none⟩) most.length k0, .slice (some ⟨gU, 0, none⟩) mail.length kU, .slice q2 grp.length k2] 68 (0, 0))) := fun W h => (h.block _ (blk_lt HB5.out.box)).trans HB5.out.box
  have HX1 : Hid (∀ W, Below W5.heap.size W5 W → W.cell? ⟨w.heap.size, 1, none⟩ = some (.slice (some ⟨gU, 0, none⟩) mail.length kU)) := fun W h => cell_blk (HXB.out W h) 1
  have HUX : Hid (∀ W, Below W5.heap.size W5 W → W.cell? ⟨gU, k, none⟩ = some (.slice (some ⟨g3, 0, none⟩) (l.length + 1) k3)) := fun W h => (h.cell (p := ⟨gU, k, none⟩) (blk_lt HU.out.2.1)).trans HU.out.2.2
  have HNE : Hid (w.heap.size ≠ gU) := by
    show _ ≠ _
    have h1 := blk_lt HB1.out.box
    have h2 := HU.out.1
    omega
  have HXS : Hid (∀ W v, Below W5.heap.size W5 W → (W.setCell ⟨gU, k, none⟩ v).cell? ⟨w.heap.size, 1, none⟩ = some (.slice (some ⟨gU, 0, none⟩) mail.length kU)) := fun W v h => cell_blk (blk_set_ne (HXB.out W h) ⟨gU, k, none⟩ HNE.out v) 1
  clear hgU hcU hxU
  have hll := HLL.out
  have HGT : Hid (w.heap.size + 1 < gU) := by
    show _ < _
    have h1 := blk_lt HB1.out.out
    have h2 := HU.out.1
    omega
  have HD := Lib.hid (DA.start W5)
  have HGF : Hid (∀ W, Below W5.heap.size W5 W → W.frozen? ⟨gU, k, none⟩ = false) := fun W h => frozen_blk ((h.block _ (blk_lt HU.out.2.1)).trans HU.out.2.1) k
  obtain ⟨sa, hsa, hsr⟩ := src_tail HR5.out HC3.out
  have HSA := Lib.hid hsa
  have HSR := Lib.hid hsr
  clear hsa hsr
  have HI3 : Hid ((1 : Int) ≤ (l.length : Int) + 1) := by show (1 : Int) ≤ _; omega
  obtain ⟨V, hV⟩ : ∃ V : Nat → Value, V = fun vv => ([.pointer (some ⟨w.heap.size, 1, none⟩), .slice (some ⟨gU, 0, none⟩) mail.length kU, .int .i64 k, undef, .pointer (some ⟨w.heap.size, 1, none⟩), .slice (some ⟨gU, 0, none⟩) mail.length kU, .int .i64 k, .pointer (some ⟨gU, k, none⟩), .slice (some ⟨g3, 0, none⟩) (l.length + 1) k3, .slice (some sa) l.length (k3 - 1), undef, .pointer (some ⟨gU, k, none⟩), undef] : List Value).getD vv undef := ⟨_, rfl⟩
  have vv0 : Hid (V 0 = .pointer (some ⟨w.heap.size, 1, none⟩)) := Lib.hid (by rw [hV]; rfl)
  have vv1 : Hid (V 1 = .slice (some ⟨gU, 0, none⟩) mail.length kU) := Lib.hid (by rw [hV]; rfl)
  have vv2 : Hid (V 2 = .int .i64 k) := Lib.hid (by rw [hV]; rfl)
  have vv4 : Hid (V 4 = .pointer (some ⟨w.heap.size, 1, none⟩)) := Lib.hid (by rw [hV]; rfl)
  have vv5 : Hid (V 5 = .slice (some ⟨gU, 0, none⟩) mail.length kU) := Lib.hid (by rw [hV]; rfl)
  have vv6 : Hid (V 6 = .int .i64 k) := Lib.hid (by rw [hV]; rfl)
  have vv7 : Hid (V 7 = .pointer (some ⟨gU, k, none⟩)) := Lib.hid (by rw [hV]; rfl)
  have vv8 : Hid (V 8 = .slice (some ⟨g3, 0, none⟩) (l.length + 1) k3) := Lib.hid (by rw [hV]; rfl)
  have vv9 : Hid (V 9 = .slice (some sa) l.length (k3 - 1)) := Lib.hid (by rw [hV]; rfl)
  have vv11 : Hid (V 11 = .pointer (some ⟨gU, k, none⟩)) := Lib.hid (by rw [hV]; rfl)
  clear hV
  refine (wpIn_wide (n := 20)).1 ?_
  refine wpIn_region_cl (by kernel_rfl) (back_of (by kernel_rfl)) (fun d act Wn => ∃ y : Nat → Value, act = { tmps := #[.agg #[.slice (some ⟨g0, 0, none⟩) most.length k0, .slice (some ⟨g1, 0, none⟩) mail.length k1, .slice q2 grp.length k2], .int .i64 k, .pointer (some ⟨w.heap.size, 0, none⟩), undef, .pointer (some ⟨w.heap.size + 1, 0, none⟩), .int .i64 0, .bool false, .int .i64 n, .pointer (some ⟨w.heap.size, 1, none⟩), .slice (some ⟨g1, 0, none⟩) mail.length k1, .int .i64 k, .pointer (some ⟨g1, k, none⟩), .slice (some ⟨g3, 0, none⟩) (l.length + 1) k3, .int .i64 (l.length + 1), .bool false, undef, .pointer (some ⟨w.heap.size, 1, none⟩), .slice (some ⟨g1, 0, none⟩) mail.length k1, .int .i64 k, .pointer (some ⟨g1, k, none⟩), .slice (some ⟨g3, 0, none⟩) (l.length + 1) k3, .pointer (some ⟨g3, 0, none⟩), .int .i64 n, .slice (some ⟨W0.heap.size, 0, none⟩) 0 0, .pointer (some ⟨w.heap.size, 1, none⟩), .slice (some ⟨g1, 0, none⟩) mail.length k1, .slice (some ⟨gU, 0, none⟩) mail.length kU, .pointer (some ⟨w.heap.size, 1, none⟩), y 0, y 1, y 2, y 3, y 4, y 5, y 6, y 7, y 8, y 9, y 10, y 11, undef, undef], defers := [] } ∧ IS W5 V (fun i => [0, 1, 2, 4, 5, 6, 7, 8, 9, 11].contains i) 3 3 10 3 12 False ⟨gU, k, none⟩ 0 l.length [] (ints l) (.int .i64 0) d y Wn) ?r0 ?s0 ?f0
  case r0 => exact fun d hd => ⟨(fun _ => undef), rfl, IS.start _ (fun i hi => hd i (by simp at hi; show i < 13; omega)) (hd _ (by decide)) (hd _ (by decide)) (hd _ (by decide)) (fun h => h.elim) (hd _ (by decide))⟩
  case s0 =>
    rintro ix oi hop d act Wx ⟨y, rfl, hR⟩ hSi hdep hcl
    have hix : ix < 13 := (Array.getElem?_eq_some_iff.1 hop).1
    have HQ := Lib.hid hR
    have HD := Lib.hid hdep
    have HS := Lib.hid hSi
    have HCL := Lib.hid hcl
    clear hR hdep hSi hcl
    obtain rfl | rfl | rfl | rfl | rfl | rfl | rfl | rfl | rfl | rfl | rfl | rfl | rfl : ix = 0 ∨ ix = 1 ∨ ix = 2 ∨ ix = 3 ∨ ix = 4 ∨ ix = 5 ∨ ix = 6 ∨ ix = 7 ∨ ix = 8 ∨ ix = 9 ∨ ix = 10 ∨ ix = 11 ∨ ix = 12 := by omega
    all_goals (have hoo := hop; obtain rfl := Option.some.inj hop)
    · refine op_wanted hoo (by kernel_rfl) fun K hK => ?_
      clear hoo
      refine wpIn_val (v := .pointer (some ⟨w.heap.size, 1, none⟩)) (fun _ _ => trivial) (by go_simp) ?_
      exact hK _ _ ⟨upd y 0 (V 0), by rw [vv0.out]; kernel_rfl, HQ.out.pure rfl rfl rfl rfl (fun h => h.elim) rfl⟩
    · have t0 : d 0 = true := HD.out ⟨0, .data⟩ (by simp) rfl
      have e0 : y 0 = .pointer (some ⟨w.heap.size, 1, none⟩) := (HQ.out.val 0 rfl t0).trans vv0.out
      refine op_wanted hoo (by kernel_rfl) fun K hK => ?_
      have hst : d 12 = false := HCL.out.no (i := 1) (j := 12) rfl HS.out (by kernel_rfl)
      have hlv := HQ.out.live hst
      have c1 := HX1.out _ hlv
      clear hlv hst
      clear hoo t0
      refine wpIn_val (v := .slice (some ⟨gU, 0, none⟩) mail.length kU) (fun _ _ => trivial) (by go_simp) ?_
      exact hK _ _ ⟨upd y 1 (V 1), by rw [vv1.out]; kernel_rfl, HQ.out.pure rfl rfl rfl rfl (fun h => h.elim) rfl⟩
    · refine op_wanted hoo (by kernel_rfl) fun K hK => ?_
      clear hoo
      refine wpIn_val (v := .int .i64 k) (fun _ _ => trivial) (by go_simp) ?_
      exact hK _ _ ⟨upd y 2 (V 2), by rw [vv2.out]; kernel_rfl, HQ.out.pure rfl rfl rfl rfl (fun h => h.elim) rfl⟩
    · have hst : d 12 = false := HCL.out.no (i := 3) (j := 12) rfl HS.out (by kernel_rfl)
      have h10 : d 10 = false := (HCL.out.no (i := 3) (j := 10) rfl HS.out (by kernel_rfl))
      refine op_wanted hoo (by kernel_rfl) fun K hK => ?_
      clear hoo
      refine wpIn_new (v := .slice (some ⟨Wx.heap.size, 0, none⟩) 0 0) (w' := Wx.alloc (Obj.cells #[] 3)) (fun _ _ => trivial) (by go_simp) ?_
      exact hK _ _ ⟨upd y 3 (.slice (some ⟨Wx.heap.size, 0, none⟩) 0 0), by kernel_rfl, HQ.out.build0 HS.out HS.out h10 hst rfl (by decide) (fun h => h.elim) (by decide) (fun _ => ⟨rfl, rfl⟩)⟩
    · refine op_wanted hoo (by kernel_rfl) fun K hK => ?_
      clear hoo
      refine wpIn_val (v := .pointer (some ⟨w.heap.size, 1, none⟩)) (fun _ _ => trivial) (by go_simp) ?_
      exact hK _ _ ⟨upd y 4 (V 4), by rw [vv4.out]; kernel_rfl, HQ.out.pure rfl rfl rfl rfl (fun h => h.elim) rfl⟩
    · have t4 : d 4 = true := HD.out ⟨4, .data⟩ (by simp) rfl
      have e4 : y 4 = .pointer (some ⟨w.heap.size, 1, none⟩) := (HQ.out.val 4 rfl t4).trans vv4.out
      refine op_wanted hoo (by kernel_rfl) fun K hK => ?_
      have hst : d 12 = false := HCL.out.no (i := 5) (j := 12) rfl HS.out (by kernel_rfl)
      have hlv := HQ.out.live hst
      have c1 := HX1.out _ hlv
      clear hlv hst
      clear hoo t4
      refine wpIn_val (v := .slice (some ⟨gU, 0, none⟩) mail.length kU) (fun _ _ => trivial) (by go_simp) ?_
      exact hK _ _ ⟨upd y 5 (V 5), by rw [vv5.out]; kernel_rfl, HQ.out.pure rfl rfl rfl rfl (fun h => h.elim) rfl⟩
    · refine op_wanted hoo (by kernel_rfl) fun K hK => ?_
      clear hoo
      refine wpIn_val (v := .int .i64 k) (fun _ _ => trivial) (by go_simp) ?_
      exact hK _ _ ⟨upd y 6 (V 6), by rw [vv6.out]; kernel_rfl, HQ.out.pure rfl rfl rfl rfl (fun h => h.elim) rfl⟩
    · have t5 : d 5 = true := HD.out ⟨5, .data⟩ (by simp) rfl
      have e5 : y 5 = .slice (some ⟨gU, 0, none⟩) mail.length kU := (HQ.out.val 5 rfl t5).trans vv5.out
      have t6 : d 6 = true := HD.out ⟨6, .data⟩ (by simp) rfl
      have e6 : y 6 = .int .i64 k := (HQ.out.val 6 rfl t6).trans vv6.out
      refine op_wanted hoo (by kernel_rfl) fun K hK => ?_
      clear hoo t5 t6
      refine wpIn_val (v := .pointer (some ⟨gU, k, none⟩)) (fun _ _ => trivial) (by go_simp) ?_
      exact hK _ _ ⟨upd y 7 (V 7), by rw [vv7.out]; kernel_rfl, HQ.out.pure rfl rfl rfl rfl (fun h => h.elim) rfl⟩
    · have t7 : d 7 = true := HD.out ⟨7, .data⟩ (by simp) rfl
      have e7 : y 7 = .pointer (some ⟨gU, k, none⟩) := (HQ.out.val 7 rfl t7).trans vv7.out
      refine op_wanted hoo (by kernel_rfl) fun K hK => ?_
      have hst : d 12 = false := HCL.out.no (i := 8) (j := 12) rfl HS.out (by kernel_rfl)
      have hlv := HQ.out.live hst
      have m0 := HUX.out _ hlv
      clear hlv hst
      clear hoo t7
      refine wpIn_val (v := .slice (some ⟨g3, 0, none⟩) (l.length + 1) k3) (fun _ _ => trivial) (by go_simp) ?_
      exact hK _ _ ⟨upd y 8 (V 8), by rw [vv8.out]; kernel_rfl, HQ.out.pure rfl rfl rfl rfl (fun h => h.elim) rfl⟩
    · have t8 : d 8 = true := HD.out ⟨8, .data⟩ (by simp) rfl
      have e8 : y 8 = .slice (some ⟨g3, 0, none⟩) (l.length + 1) k3 := (HQ.out.val 8 rfl t8).trans vv8.out
      refine op_wanted hoo (by kernel_rfl) fun K hK => ?_
      have hst : d 12 = false := HCL.out.no (i := 9) (j := 12) rfl HS.out (by kernel_rfl)
      have hlv := HQ.out.live hst
      have c9 := HC3.out
      have s9 := HSA.out
      have i9 := HI3.out
      clear hlv hst
      clear hoo t8
      refine wpIn_val (v := .slice (some sa) l.length (k3 - 1)) (fun _ _ => trivial) (by go_simp) ?_
      exact hK _ _ ⟨upd y 9 (V 9), by rw [vv9.out]; kernel_rfl, HQ.out.pure rfl rfl rfl rfl (fun h => h.elim) rfl⟩
    · have hst : d 12 = false := HCL.out.no (i := 10) (j := 12) rfl HS.out (by kernel_rfl)
      have t3 : d 3 = true := HD.out ⟨3, .data⟩ (by simp) rfl
      have t9 : d 9 = true := HD.out ⟨9, .data⟩ (by simp) rfl
      have tb : d 3 = true := t3
      obtain ⟨fr, hD, hf⟩ := HQ.out.acc2 t3 HS.out hst
      have e9 : y 9 = .slice (some sa) l.length (k3 - 1) := (HQ.out.val 9 rfl t9).trans vv9.out
      obtain ⟨u7, W7, hr7, hD7⟩ := hD.app 30 HSR.out (by have := HLL.out; simp [ints]; omega)
      refine op_wanted hoo (by kernel_rfl) fun K hK => ?_
      refine wpIn_app (.tmp 31) (.tmp 37) 30 rfl (u := y 3) (v := .slice (some sa) l.length (k3 - 1)) rfl (by rw [← e9]; rfl) hr7 ?_
      rw [show 0 + (ints l).length = l.length by simp [ints], List.nil_append] at hD7
      exact hK _ _ ⟨upd y 10 u7, by kernel_rfl, HQ.out.put2 t3 tb hst rfl (by decide) (by decide) (fun h => h.elim) (by decide) hD7 hf⟩
    · have t1 : d 1 = true := HD.out ⟨1, .data⟩ (by simp) rfl
      have e1 : y 1 = .slice (some ⟨gU, 0, none⟩) mail.length kU := (HQ.out.val 1 rfl t1).trans vv1.out
      have t2 : d 2 = true := HD.out ⟨2, .data⟩ (by simp) rfl
      have e2 : y 2 = .int .i64 k := (HQ.out.val 2 rfl t2).trans vv2.out
      refine op_wanted hoo (by kernel_rfl) fun K hK => ?_
      clear hoo t1 t2
      refine wpIn_val (v := .pointer (some ⟨gU, k, none⟩)) (fun _ _ => trivial) (by go_simp) ?_
      exact hK _ _ ⟨upd y 11 (V 11), by rw [vv11.out]; kernel_rfl, HQ.out.pure rfl rfl rfl rfl (fun h => h.elim) rfl⟩
    · have t11 : d 11 = true := HD.out ⟨11, .data⟩ (by simp) rfl
      have t10 : d 10 = true := HD.out ⟨10, .data⟩ (by simp) rfl
      have e11 : y 11 = .pointer (some ⟨gU, k, none⟩) := (HQ.out.val 11 rfl t11).trans vv11.out
      have hlv := HQ.out.live HS.out
      have m0 := HUX.out _ hlv
      have g8 := HGF.out _ hlv
      clear hlv
      refine op_wanted hoo (by kernel_rfl) fun K hK => ?_
      obtain ⟨q9, k9, hq9⟩ := HQ.out.last t10 HS.out
      refine wpIn_skip (w' := Wx.setCell ⟨gU, k, none⟩ (.slice q9 (l.length) k9)) (fun _ _ => trivial) (by rw [hq9]; go_simp) ?_
      rw [← hq9]
      exact hK _ _ ⟨y, by kernel_rfl, HQ.out.store t10 HS.out rfl (by decide) (by decide) (by decide) (fun h => h.elim)⟩
  case f0 =>
    rintro d act Wx ⟨y, rfl, hR⟩ hall
    obtain ⟨Wm, fr, hWx, hDA⟩ := hR.fin (hall 12 (by decide)) (hall 10 (by decide))
    have HB6 := Lib.hid ((HB5.out.step hDA.below).off gU k HGT.out (y 10))
    have HO6 : Hid (Wx.ownsRow W0.heap.size 30 1 (.slice (some ⟨gU, 0, none⟩) mail.length kU) mail.length (vs.set k (y 10))) := by
      show World.ownsRow _ _ _ _ _ _ _
      rw [hWx]
      exact own_put (own1_below HO5.out hDA.below) k _
    have HP6 : Hid (Wx.ownsRow W5.heap.size 3 1 (y 10) l.length (ints l)) := by
      show World.ownsRow _ _ _ _ _ _ _
      rw [hWx]
      exact own_other hDA.own ((hDA.below.block _ (blk_lt HU.out.2.1)).trans HU.out.2.1) (by decide) k _
    rw [← hWx] at HB6
    generalize y 10 = ynew at *
    clear hWx hDA hall hR HXB HX1 HUX HXS HGF HSR HR4 HB4 HB1 HD X0 X1
    obtain ⟨c0, c1, c2⟩ := HB6.out.facts
    obtain ⟨z0, z1, z2⟩ := HB6.out.zero
    have f0 := (HB6.out.frz 0).2
    have f1 := (HB6.out.frz 1).2
    have f2 := (HB6.out.frz 2).2
    go_wp2_with fail
    obtain ⟨W7, hW7⟩ : ∃ W7, W7 = (((Wx.setCell ⟨w.heap.size + 1, 0, none⟩ (.slice (some ⟨g0, 0, none⟩) most.length k0)).setCell ⟨w.heap.size + 1, 1, none⟩ (.slice (some ⟨gU, 0, none⟩) mail.length kU)).setCell ⟨w.heap.size + 1, 2, none⟩ (.slice q2 grp.length k2)) := ⟨_, rfl⟩
    rw [← hW7]
    obtain ⟨k1', d0, d1, d2, hk⟩ := HB6.out.fin hW7
    have K1 := Lib.hid k1'
    have HK := Lib.hid hk
    clear c0 c1 c2 z0 z1 z2 f0 f1 f2 k1' hW7 hk
    refine bodyPost_ret (v := .tuple #[.agg #[.slice (some ⟨g0, 0, none⟩) most.length k0, .slice (some ⟨gU, 0, none⟩) mail.length kU, .slice q2 grp.length k2], .int .i64 n, .bool true]) (by simp [results, Try.results31, go_sem, d0, d1, d2]) rfl ⟨_, rfl, ⟨_, _, _, vs.set k ynew, rfl, ?_, ?_, ?_, ?_⟩, K1.out⟩
    · exact own1_below H0.out K1.out
    · rw [show (mail.set k l).length = mail.length by simp]
      exact own_lower (own_keep HO6.out (fun g C f hg => HK.out g C 30 f (.inr rfl) hg)) (Nat.le_trans HBB.out HS1.out)
    · exact own1_below H2.out K1.out
    · intro i x l' hx hl'
      have hvl : vs.length = mail.length := by have := H1.out.1; omega
      have hk := (List.getElem?_eq_some_iff.1 HML.out).1
      by_cases hik : i = k
      · subst hik
        rw [List.getElem?_set_self (by omega)] at hx
        rw [List.getElem?_set_self hk] at hl'
        injection hx with hx
        injection hl' with hl'
        subst hx hl'
        exact own_lower (own_keep HP6.out (fun g C f hg => HK.out g C 3 f (.inl rfl) hg)) (Nat.le_trans HBB.out HB5.out.below.size)
      · rw [List.getElem?_set_ne (by omega)] at hx hl'
        exact own1_below (H3.out i x l' hx hl') K1.out
end Go.Proofs.Ytgbafpjeapkklaa.Mb
