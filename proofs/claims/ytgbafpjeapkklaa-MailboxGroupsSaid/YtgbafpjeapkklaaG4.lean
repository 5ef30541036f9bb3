/- Parts Ui, Uj of the proof. -/
import Derived.Test.YtgbafpjeapkklaaG3
namespace Go.Proofs.Ytgbafpjeapkklaa.Mb
open Go.RowKit
set_option linter.unusedVariables false
set_option linter.unusedSimpArgs false
theorem src_head {W : World} {B g cp N k : Nat} {l : List Int} (h : W.ownsRow B 3 1 (.slice (some ⟨g, 0, none⟩) N cp) N (ints l)) (hk : k ≤ N) : Src W (.slice (some ⟨g, 0, none⟩) k cp) (ints (l.take k)) := by
  have hl : l.length = N := by have := h.1; simpa [ints] using this
  refine .inr ⟨⟨g, 0, none⟩, cp, by simp [ints, Nat.min_eq_left (by omega : k ≤ l.length)], fun j x hx => ?_, ints_one _⟩
  have hj : j < k := by have := (List.getElem?_eq_some_iff.1 hx).1; simp [ints] at this; omega
  refine h.cells (g := g) rfl j x ?_
  rw [← hx]
  simp [ints, List.getElem?_take, hj]
theorem src_drop {W : World} {B g cp N k : Nat} {l : List Int} (h : W.ownsRow B 3 1 (.slice (some ⟨g, 0, none⟩) N cp) N (ints l)) (hk : k < N) (hcp : N ≤ cp) :
    ∃ sb, (if cp = k + 1 then some (⟨g, 0, none⟩ : Addr) else some ⟨g, k + 1, none⟩) = some sb ∧ Src W (.slice (some sb) (N - (k + 1)) (cp - (k + 1))) (ints (l.drop (k + 1))) := by
  have hl : l.length = N := by have := h.1; simpa [ints] using this
  by_cases h1 : cp = k + 1
  · have : l.drop (k + 1) = [] := List.drop_eq_nil_of_le (by omega)
    rw [this]
    exact ⟨_, by rw [if_pos h1], .inr ⟨⟨g, 0, none⟩, cp - (k + 1), by rw [show N - (k + 1) = 0 by omega]; rfl, fun j x hx => by simp [ints] at hx, ints_one []⟩⟩
  · refine ⟨_, by rw [if_neg h1], .inr ⟨⟨g, k + 1, none⟩, cp - (k + 1), by simp [ints, hl], fun j x hx => ?_, ints_one _⟩⟩
    have := h.cells (g := g) rfl (k + 1 + j) x (by rw [← hx]; simp [ints, List.getElem?_drop])
    rw [Addr.add_lit, Nat.zero_add] at this
    rw [Addr.add_lit]
    exact this
def gix (g : List Int) (i : Int) : Int := idx (fun x => x == i) g
set_option maxRecDepth 100000 in
set_option maxHeartbeats 8000000 in
theorem rindex {B : Nat} {b : Value} {most : List Int} {mail : List (List Int)} {grp : List Int} (w : World) (hb : BR w B b most mail grp) (hgl : grp.length ≤ 64) (i : Int) :
    Calls Try.prog 37 #[b, .int .i64 i] w fun e w' => e = .returned (.int .i64 (gix grp i)) ∧ Below w.heap.size w w' := by
  obtain ⟨v0, v1, v2, vs, rfl, h0, h1, h2, h3⟩ := hb
  obtain ⟨q0, k0, rfl⟩ := own1_slice h0
  obtain ⟨q1, k1, rfl⟩ := own1_slice h1
  obtain ⟨q2, k2, rfl⟩ := own1_slice h2
  have HN := Lib.hid hgl
  have H2 := Lib.hid h2
  obtain ⟨W0, hW0⟩ : ∃ W0, W0 = w.alloc (Obj.cells #[.slice q0 most.length k0, .slice q1 mail.length k1, .slice q2 grp.length k2] 68) := ⟨_, rfl⟩
  have HB : Hid (Below w.heap.size w W0) := by show Below _ _ _; rw [hW0]; exact (Below.refl _ _).alloc (Nat.le_refl _) _
  have HX : Hid (W0.heap[w.heap.size]? = some (.cells #[.slice q0 most.length k0, .slice q1 mail.length k1, .slice q2 grp.length k2] 68 (0, 0))) := by show _ = _; rw [hW0]; exact (MapKept.heap_alloc w _).1
  clear h0 h1 h2 h3 hgl
  go_enter Try.func37, Try.ntmps37
  go_upto_region 1 with fail
  rw [← hW0]
  clear hW0
  go_wp2_with fail
  go_loopw [5] (fun s wr => wr = W0 ∧ ∃ k : Nat, k ≤ grp.length ∧ s = .int .i64 k ∧ (∀ (j : Nat) (x : Int), j < k → grp[j]? = some x → (x == i) = false)) (fun s _ => grp.length - (intOf s).toNat)
  case atStart => exact ⟨rfl, 0, by omega, rfl, fun j o hj => by omega⟩
  case round =>
    obtain ⟨rfl, k, hk, rfl, hno⟩ := hrel
    have HNO := Lib.hid hno; clear hno
    have c2 : wr.cell? ⟨w.heap.size, 2, none⟩ = some (.slice q2 grp.length k2) := cell_blk HX.out 2
    by_cases hlt : k < grp.length
    · have tl : decide ((k : Int) < (grp.length : Int)) = true := decide_eq_true (by omega)
      have tl' : (k : Int) < (grp.length : Int) := by omega
      obtain ⟨x, hx⟩ : ∃ x, grp[k]? = some x := ⟨grp[k]'hlt, by simp⟩
      obtain ⟨g2, cp2, e, _, _, ⟨_, hg2⟩, hxs⟩ := own_at H2.out (by omega)
      injection e with e _ e3
      subst e e3
      have c3 : wr.cell? ⟨g2, k, none⟩ = some (.int .i64 x) := (HB.out.cell (p := ⟨g2, k, none⟩) (blk_lt hg2)).trans (hxs k _ (by simp [ints, hx]))
      have HO := Lib.hid hx
      clear hx hxs hg2
      cases hn : (x == i) with
      | true =>
        have hany : Hid (gix grp i = k) := idx_found HO.out hn (fun j y hj hy => HNO.out j y hj hy)
        go_wp2_with fail
        go_ret
        exact ⟨by rw [hany.out]; rfl, HB.out⟩
      | false =>
        have HF := Lib.hid hn
        go_wp2_with fail
        have ew : wrap64 ((k : Int) + 1) = ((k + 1 : Nat) : Int) := by have := HN.out; unfold wrap64; omega
        rw [ew]
        go_roundw
        case rel =>
          refine ⟨by first | rfl | trivial, k + 1, by omega, rfl, fun j o' hj ho' => ?_⟩
          by_cases e : j = k
          · subst e; rw [HO.out] at ho'; cases ho'; exact HF.out
          · exact HNO.out j o' (by omega) ho'
        case measure => simp [intOf]; omega
    · have tl : decide ((k : Int) < (grp.length : Int)) = false := decide_eq_false (by omega)
      have hany : Hid (gix grp i = -1) := by
        refine idx_none fun y hy => ?_
        obtain ⟨j, hj, e⟩ := List.getElem_of_mem hy
        exact HNO.out j y (by omega) (by rw [← e]; simp)
      go_wp2_with fail
      go_ret
      exact ⟨by rw [hany.out]; rfl, HB.out⟩
theorem BR.below {W W' : World} {B : Nat} {b : Value} {most : List Int} {mail : List (List Int)} {grp : List Int} (h : BR W B b most mail grp) (hb : Below W.heap.size W W') : BR W' B b most mail grp := by
  obtain ⟨v0, v1, v2, vs, rfl, h0, h1, h2, h3⟩ := h
  exact ⟨v0, v1, v2, vs, rfl, own1_below h0 hb, own1_below h1 hb, own1_below h2 hb, fun i x l hx hl => own1_below (h3 i x l hx hl) hb⟩
set_option maxRecDepth 100000 in
set_option maxHeartbeats 8000000 in
theorem rdrop_no {B : Nat} {b : Value} {most : List Int} {mail : List (List Int)} {grp : List Int} {i : Int} (w : World) (hb : BR w B b most mail grp) (hgl : grp.length ≤ 64) (hi : gix grp i = -1) :
    Calls Try.prog 34 #[b, .int .i64 i] w fun e w' => e = .returned (.tuple #[b, .int .i64 5]) ∧ Below w.heap.size w w' := by
  have HBR := Lib.hid hb
  obtain ⟨v0, v1, v2, vs, rfl, h0, h1, h2, h3⟩ := hb
  obtain ⟨q0, k0, rfl⟩ := own1_slice h0
  obtain ⟨q1, k1, rfl⟩ := own1_slice h1
  obtain ⟨q2, k2, rfl⟩ := own1_slice h2
  have HIX : Hid (∀ W, Below w.heap.size w W → Calls Try.prog 37 #[.agg #[.slice q0 most.length k0, .slice q1 mail.length k1, .slice q2 grp.length k2], .int .i64 i] W fun e w' => e = .returned (.int .i64 (gix grp i)) ∧ Below W.heap.size W w') := fun W hW => rindex W (BR.below HBR.out hW) hgl i
  rw [hi] at HIX
  clear h0 h1 h2 h3 hgl hi HBR
  have HB0 : Hid (R3 w (.slice q0 most.length k0) (.slice q1 mail.length k1) (.slice q2 grp.length k2) ((w.alloc (Obj.cells #[.slice q0 most.length k0, .slice q1 mail.length k1, .slice q2 grp.length k2] 68)).alloc (Obj.cells #[.slice none 0 0, .slice none 0 0, .slice none 0 0] 68))) := R3.mk' w _ _ _
  go_enter Try.func34, Try.ntmps34
  go_upto_region 1 with fail
  generalize ((w.alloc (Obj.cells #[.slice q0 most.length k0, .slice q1 mail.length k1, .slice q2 grp.length k2] 68)).alloc (Obj.cells #[.slice none 0 0, .slice none 0 0, .slice none 0 0] 68)) = W0 at *
  obtain ⟨c0, c1, c2⟩ := HB0.out.facts
  go_wp2_with fail
  refine (HIX.out _ HB0.out.below).mono ?_
  rintro e W1 ⟨rfl, hb1⟩
  have HB1 := Lib.hid (HB0.out.step hb1)
  clear hb1 c0 c1 c2
  obtain ⟨c0, c1, c2⟩ := HB1.out.facts
  obtain ⟨z0, z1, z2⟩ := HB1.out.zero
  have f0 := (HB1.out.frz 0).2
  have f1 := (HB1.out.frz 1).2
  have f2 := (HB1.out.frz 2).2
  go_wp2_with fail
  obtain ⟨W5, hW5⟩ : ∃ W5, W5 = (((W1.setCell ⟨w.heap.size + 1, 0, none⟩ (.slice q0 most.length k0)).setCell ⟨w.heap.size + 1, 1, none⟩ (.slice q1 mail.length k1)).setCell ⟨w.heap.size + 1, 2, none⟩ (.slice q2 grp.length k2)) := ⟨_, rfl⟩
  rw [← hW5]
  obtain ⟨k1', d0, d1, d2, _⟩ := HB1.out.fin hW5
  have K1 := Lib.hid k1'
  clear c0 c1 c2 z0 z1 z2 f0 f1 f2 k1' hW5
  refine bodyPost_ret (v := .tuple #[.agg #[.slice q0 most.length k0, .slice q1 mail.length k1, .slice q2 grp.length k2], .int .i64 5]) (by simp [results, Try.results34, go_sem, d0, d1, d2]) rfl ⟨rfl, K1.out⟩
set_option maxRecDepth 100000 in
set_option maxHeartbeats 8000000 in
theorem rdrop_yes {B : Nat} {b : Value} {most : List Int} {mail : List (List Int)} {grp : List Int} {i : Int} {k : Nat} (w : World) (hb : BR w B b most mail grp) (hB : B ≤ w.heap.size) (hgl : grp.length ≤ 64) (hg : grp[k]? = some i) (hi : gix grp i = (k : Int)) :
    Calls Try.prog 34 #[b, .int .i64 i] w fun e w' => ∃ b', e = .returned (.tuple #[b', .int .i64 0]) ∧ BR w' B b' most mail (grp.take k ++ grp.drop (k + 1)) ∧ Below w.heap.size w w' := by
  have HBR := Lib.hid hb
  obtain ⟨v0, v1, v2, vs, rfl, h0, h1, h2, h3⟩ := hb
  obtain ⟨q0, k0, rfl⟩ := own1_slice h0
  obtain ⟨q1, k1, rfl⟩ := own1_slice h1
  obtain ⟨q2, k2, rfl⟩ := own1_slice h2
  have hkl := (List.getElem?_eq_some_iff.1 hg).1
  obtain ⟨g2, cp2, e, _, hcp, ⟨_, hg2⟩, hxs⟩ := own_at h2 (by omega)
  injection e with e _ e3
  subst e e3
  have HIX : Hid (∀ W, Below w.heap.size w W → Calls Try.prog 37 #[.agg #[.slice q0 most.length k0, .slice q1 mail.length k1, .slice (some ⟨g2, 0, none⟩) grp.length k2], .int .i64 i] W fun e w' => e = .returned (.int .i64 (gix grp i)) ∧ Below W.heap.size W w') := fun W hW => rindex W (BR.below HBR.out hW) hgl i
  rw [hi] at HIX
  have HKL := Lib.hid hkl
  have HCP := Lib.hid hcp
  have HGL := Lib.hid hgl
  have HBB := Lib.hid hB
  have H0 := Lib.hid h0
  have H1 := Lib.hid h1
  have H2 := Lib.hid h2
  have H3 := Lib.hid h3
  have tk : decide ((k : Int) < 0) = false := decide_eq_false (by omega)
  clear h0 h1 h2 h3 hgl hi hkl hg hcp hg2 hxs HBR
  have HB0 : Hid (R3 w (.slice q0 most.length k0) (.slice q1 mail.length k1) (.slice (some ⟨g2, 0, none⟩) grp.length k2) ((w.alloc (Obj.cells #[.slice q0 most.length k0, .slice q1 mail.length k1, .slice (some ⟨g2, 0, none⟩) grp.length k2] 68)).alloc (Obj.cells #[.slice none 0 0, .slice none 0 0, .slice none 0 0] 68))) := R3.mk' w _ _ _
  go_enter Try.func34, Try.ntmps34
  go_upto_region 1 with fail
  generalize ((w.alloc (Obj.cells #[.slice q0 most.length k0, .slice q1 mail.length k1, .slice (some ⟨g2, 0, none⟩) grp.length k2] 68)).alloc (Obj.cells #[.slice none 0 0, .slice none 0 0, .slice none 0 0] 68)) = W0 at *
  obtain ⟨c0, c1, c2⟩ := HB0.out.facts
  go_wp2_with fail
  refine (HIX.out _ HB0.out.below).mono ?_
  rintro e W1 ⟨rfl, hb1⟩
  have HB1 := Lib.hid (HB0.out.step hb1)
  clear hb1 c0 c1 c2
  obtain ⟨c0, c1, c2⟩ := HB1.out.facts
  go_upto_region 4 with fail
  clear c0 c1 c2 tk
  have HX2 : Hid (∀ W, Below W1.heap.size W1 W → W.cell? ⟨w.heap.size, 2, none⟩ = some (.slice (some ⟨g2, 0, none⟩) grp.length k2)) := fun W h => (HB1.out.step h).facts.2.2
  have HFZ : Hid (∀ W, Below W1.heap.size W1 W → W.frozen? ⟨w.heap.size, 2, none⟩ = false) := fun W h => ((HB1.out.step h).frz 2).1
  have HG2 := Lib.hid (own_lower (own1_below H2.out HB1.out.below) (Nat.zero_le _))
  have HSA : Hid (Src W1 (.slice (some ⟨g2, 0, none⟩) k k2) (ints (grp.take k))) := src_head HG2.out (Nat.le_of_lt HKL.out)
  obtain ⟨sb, hsb, hsr⟩ := src_drop HG2.out HKL.out HCP.out
  have HSB := Lib.hid hsb
  have HSR := Lib.hid hsr
  clear hsb hsr
  have HLE : Hid (k + 1 ≤ grp.length ∧ grp.length ≤ 64) := ⟨HKL.out, HGL.out⟩
  have EW : Hid (IntKind.i64.wrap ((k : Int) + 1) = (k : Int) + 1) := by show _ = _; have := HLE.out; rw [IntKind.wrap_i64]; omega
  obtain ⟨V, hV⟩ : ∃ V : Nat → Value, V = fun vv => ([undef, .pointer (some ⟨w.heap.size, 2, none⟩), .slice (some ⟨g2, 0, none⟩) grp.length k2, .int .i64 k, .slice (some ⟨g2, 0, none⟩) k k2, undef, .pointer (some ⟨w.heap.size, 2, none⟩), .slice (some ⟨g2, 0, none⟩) grp.length k2, .int .i64 k, .int .i64 ((k : Int) + 1), .slice (some sb) (grp.length - (k + 1)) (k2 - (k + 1)), undef, .pointer (some ⟨w.heap.size, 2, none⟩), undef] : List Value).getD vv undef := ⟨_, rfl⟩
  have vv1 : Hid (V 1 = .pointer (some ⟨w.heap.size, 2, none⟩)) := Lib.hid (by rw [hV]; rfl)
  have vv2 : Hid (V 2 = .slice (some ⟨g2, 0, none⟩) grp.length k2) := Lib.hid (by rw [hV]; rfl)
  have vv3 : Hid (V 3 = .int .i64 k) := Lib.hid (by rw [hV]; rfl)
  have vv4 : Hid (V 4 = .slice (some ⟨g2, 0, none⟩) k k2) := Lib.hid (by rw [hV]; rfl)
  have vv6 : Hid (V 6 = .pointer (some ⟨w.heap.size, 2, none⟩)) := Lib.hid (by rw [hV]; rfl)
  have vv7 : Hid (V 7 = .slice (some ⟨g2, 0, none⟩) grp.length k2) := Lib.hid (by rw [hV]; rfl)
  have vv8 : Hid (V 8 = .int .i64 k) := Lib.hid (by rw [hV]; rfl)
  have vv9 : Hid (V 9 = .int .i64 ((k : Int) + 1)) := Lib.hid (by rw [hV]; rfl)
  have vv10 : Hid (V 10 = .slice (some sb) (grp.length - (k + 1)) (k2 - (k + 1))) := Lib.hid (by rw [hV]; rfl)
  have vv12 : Hid (V 12 = .pointer (some ⟨w.heap.size, 2, none⟩)) := Lib.hid (by rw [hV]; rfl)
  clear hV
  refine (wpIn_wide (n := 20)).1 ?_
  refine wpIn_region_cl (by kernel_rfl) (back_of (by kernel_rfl)) (fun d act Wn => ∃ y : Nat → Value, act = { tmps := #[.agg #[.slice q0 most.length k0, .slice q1 mail.length k1, .slice (some ⟨g2, 0, none⟩) grp.length k2], .int .i64 i, .pointer (some ⟨w.heap.size, 0, none⟩), undef, .pointer (some ⟨w.heap.size + 1, 0, none⟩), .int .i64 0, .int .i64 k, .agg #[.slice q0 most.length k0, .slice q1 mail.length k1, .slice (some ⟨g2, 0, none⟩) grp.length k2], .int .i64 i, .int .i64 k, .int .i64 k, .bool false, undef, y 0, y 1, y 2, y 3, y 4, y 5, y 6, y 7, y 8, y 9, y 10, y 11, y 12, undef], defers := [] } ∧ IS W1 V (fun i => [1, 2, 3, 4, 6, 7, 8, 9, 10, 12].contains i) 0 5 11 0 13 False ⟨w.heap.size, 2, none⟩ k (grp.length - 1) (ints (grp.take k)) (ints (grp.take k ++ grp.drop (k + 1))) (.int .i64 0) d y Wn) ?r0 ?s0 ?f0
  case r0 => exact fun d hd => ⟨(fun _ => undef), rfl, IS.start _ (fun i hi => hd i (by simp at hi; show i < 14; omega)) (hd _ (by decide)) (hd _ (by decide)) (hd _ (by decide)) (fun h => h.elim) (hd _ (by decide))⟩
  case s0 =>
    rintro ix oi hop d act Wx ⟨y, rfl, hR⟩ hSi hdep hcl
    have hix : ix < 14 := (Array.getElem?_eq_some_iff.1 hop).1
    have HQ := Lib.hid hR
    have HD := Lib.hid hdep
    have HS := Lib.hid hSi
    have HCL := Lib.hid hcl
    clear hR hdep hSi hcl
    obtain rfl | rfl | rfl | rfl | rfl | rfl | rfl | rfl | rfl | rfl | rfl | rfl | rfl | rfl : ix = 0 ∨ ix = 1 ∨ ix = 2 ∨ ix = 3 ∨ ix = 4 ∨ ix = 5 ∨ ix = 6 ∨ ix = 7 ∨ ix = 8 ∨ ix = 9 ∨ ix = 10 ∨ ix = 11 ∨ ix = 12 ∨ ix = 13 := by omega
    all_goals (have hoo := hop; obtain rfl := Option.some.inj hop)
    · have hst : d 13 = false := HCL.out.no (i := 0) (j := 13) rfl HS.out (by kernel_rfl)
      have h5 : d 5 = false := (HCL.out.no (i := 0) (j := 5) rfl HS.out (by kernel_rfl))
      have h11 : d 11 = false := (HCL.out.no (i := 5) (j := 11) rfl (HCL.out.no (i := 0) (j := 5) rfl HS.out (by kernel_rfl)) (by kernel_rfl))
      refine op_wanted hoo (by kernel_rfl) fun K hK => ?_
      clear hoo
      refine wpIn_new (v := .slice (some ⟨Wx.heap.size, 0, none⟩) 0 0) (w' := Wx.alloc (Obj.cells #[] 3)) (fun _ _ => trivial) (by go_simp) ?_
      exact hK _ _ ⟨upd y 0 (.slice (some ⟨Wx.heap.size, 0, none⟩) 0 0), by kernel_rfl, HQ.out.build0 HS.out h5 h11 hst rfl (by decide) (fun h => h.elim) (by decide) (fun h => absurd h (by decide))⟩
    · refine op_wanted hoo (by kernel_rfl) fun K hK => ?_
      clear hoo
      refine wpIn_val (v := .pointer (some ⟨w.heap.size, 2, none⟩)) (fun _ _ => trivial) (by go_simp) ?_
      exact hK _ _ ⟨upd y 1 (V 1), by rw [vv1.out]; kernel_rfl, HQ.out.pure rfl rfl rfl rfl (fun h => h.elim) rfl⟩
    · have t1 : d 1 = true := HD.out ⟨1, .data⟩ (by simp) rfl
      have e1 : y 1 = .pointer (some ⟨w.heap.size, 2, none⟩) := (HQ.out.val 1 rfl t1).trans vv1.out
      refine op_wanted hoo (by kernel_rfl) fun K hK => ?_
      have hst : d 13 = false := HCL.out.no (i := 2) (j := 13) rfl HS.out (by kernel_rfl)
      have hlv := HQ.out.live hst
      have c1 := HX2.out _ hlv
      clear hlv hst
      clear hoo t1
      refine wpIn_val (v := .slice (some ⟨g2, 0, none⟩) grp.length k2) (fun _ _ => trivial) (by go_simp) ?_
      exact hK _ _ ⟨upd y 2 (V 2), by rw [vv2.out]; kernel_rfl, HQ.out.pure rfl rfl rfl rfl (fun h => h.elim) rfl⟩
    · refine op_wanted hoo (by kernel_rfl) fun K hK => ?_
      clear hoo
      refine wpIn_val (v := .int .i64 k) (fun _ _ => trivial) (by go_simp) ?_
      exact hK _ _ ⟨upd y 3 (V 3), by rw [vv3.out]; kernel_rfl, HQ.out.pure rfl rfl rfl rfl (fun h => h.elim) rfl⟩
    · have t2 : d 2 = true := HD.out ⟨2, .data⟩ (by simp) rfl
      have e2 : y 2 = .slice (some ⟨g2, 0, none⟩) grp.length k2 := (HQ.out.val 2 rfl t2).trans vv2.out
      have t3 : d 3 = true := HD.out ⟨3, .data⟩ (by simp) rfl
      have e3 : y 3 = .int .i64 k := (HQ.out.val 3 rfl t3).trans vv3.out
      refine op_wanted hoo (by kernel_rfl) fun K hK => ?_
      have hst : d 13 = false := HCL.out.no (i := 4) (j := 13) rfl HS.out (by kernel_rfl)
      have hlv := HQ.out.live hst
      have i1 := HLE.out.1
      have i3 := HCP.out
      have i4 : (k : Int) ≤ (k2 : Int) := by omega
      have i5 : (0 : Int) ≤ (k : Int) := by omega
      clear hlv hst
      clear hoo t2 t3
      refine wpIn_val (v := .slice (some ⟨g2, 0, none⟩) k k2) (fun _ _ => trivial) (by go_simp) ?_
      exact hK _ _ ⟨upd y 4 (V 4), by rw [vv4.out]; kernel_rfl, HQ.out.pure rfl rfl rfl rfl (fun h => h.elim) rfl⟩
    · have hst : d 13 = false := HCL.out.no (i := 5) (j := 13) rfl HS.out (by kernel_rfl)
      have t0 : d 0 = true := HD.out ⟨0, .data⟩ (by simp) rfl
      have t4 : d 4 = true := HD.out ⟨4, .data⟩ (by simp) rfl
      have h11 : d 11 = false := (HCL.out.no (i := 5) (j := 11) rfl HS.out (by kernel_rfl))
      have e4 : y 4 = .slice (some ⟨g2, 0, none⟩) k k2 := (HQ.out.val 4 rfl t4).trans vv4.out
      obtain ⟨u7, W7, hr7, hI7⟩ := HQ.out.app1 t0 HS.out h11 hst rfl (by decide) (by decide) (fun h => h.elim) (by decide) 30 HSA.out (by have := HLE.out; simp [ints] <;> omega) (by have := HLE.out; simp <;> omega)
      refine op_wanted hoo (by kernel_rfl) fun K hK => ?_
      refine wpIn_app (.tmp 13) (.tmp 17) 30 rfl (u := y 0) (v := .slice (some ⟨g2, 0, none⟩) k k2) rfl (by rw [← e4]; rfl) hr7 ?_
      exact hK _ _ ⟨upd y 5 u7, by kernel_rfl, hI7⟩
    · refine op_wanted hoo (by kernel_rfl) fun K hK => ?_
      clear hoo
      refine wpIn_val (v := .pointer (some ⟨w.heap.size, 2, none⟩)) (fun _ _ => trivial) (by go_simp) ?_
      exact hK _ _ ⟨upd y 6 (V 6), by rw [vv6.out]; kernel_rfl, HQ.out.pure rfl rfl rfl rfl (fun h => h.elim) rfl⟩
    · have t6 : d 6 = true := HD.out ⟨6, .data⟩ (by simp) rfl
      have e6 : y 6 = .pointer (some ⟨w.heap.size, 2, none⟩) := (HQ.out.val 6 rfl t6).trans vv6.out
      refine op_wanted hoo (by kernel_rfl) fun K hK => ?_
      have hst : d 13 = false := HCL.out.no (i := 7) (j := 13) rfl HS.out (by kernel_rfl)
      have hlv := HQ.out.live hst
      have c1 := HX2.out _ hlv
      clear hlv hst
      clear hoo t6
      refine wpIn_val (v := .slice (some ⟨g2, 0, none⟩) grp.length k2) (fun _ _ => trivial) (by go_simp) ?_
      exact hK _ _ ⟨upd y 7 (V 7), by rw [vv7.out]; kernel_rfl, HQ.out.pure rfl rfl rfl rfl (fun h => h.elim) rfl⟩
    · refine op_wanted hoo (by kernel_rfl) fun K hK => ?_
      clear hoo
      refine wpIn_val (v := .int .i64 k) (fun _ _ => trivial) (by go_simp) ?_
      exact hK _ _ ⟨upd y 8 (V 8), by rw [vv8.out]; kernel_rfl, HQ.out.pure rfl rfl rfl rfl (fun h => h.elim) rfl⟩
    · have t8 : d 8 = true := HD.out ⟨8, .data⟩ (by simp) rfl
      have e8 : y 8 = .int .i64 k := (HQ.out.val 8 rfl t8).trans vv8.out
      refine op_wanted hoo (by kernel_rfl) fun K hK => ?_
      have hst : d 13 = false := HCL.out.no (i := 9) (j := 13) rfl HS.out (by kernel_rfl)
      have hlv := HQ.out.live hst
      have ew := EW.out
      clear hlv hst
      clear hoo t8
      refine wpIn_val (v := .int .i64 ((k : Int) + 1)) (fun _ _ => trivial) (by go_simp) ?_
      exact hK _ _ ⟨upd y 9 (V 9), by rw [vv9.out]; kernel_rfl, HQ.out.pure rfl rfl rfl rfl (fun h => h.elim) rfl⟩
    · have t7 : d 7 = true := HD.out ⟨7, .data⟩ (by simp) rfl
      have e7 : y 7 = .slice (some ⟨g2, 0, none⟩) grp.length k2 := (HQ.out.val 7 rfl t7).trans vv7.out
      have t9 : d 9 = true := HD.out ⟨9, .data⟩ (by simp) rfl
      have e9 : y 9 = .int .i64 ((k : Int) + 1) := (HQ.out.val 9 rfl t9).trans vv9.out
      refine op_wanted hoo (by kernel_rfl) fun K hK => ?_
      have hst : d 13 = false := HCL.out.no (i := 10) (j := 13) rfl HS.out (by kernel_rfl)
      have hlv := HQ.out.live hst
      have i1 := HLE.out.1
      have i3 := HCP.out
      have i4 : (k : Int) + 1 ≤ (grp.length : Int) := by omega
      have i5 : (0 : Int) ≤ (k : Int) + 1 := by omega
      have s9 := HSB.out
      clear hlv hst
      clear hoo t7 t9
      refine wpIn_val (v := .slice (some sb) (grp.length - (k + 1)) (k2 - (k + 1))) (fun _ _ => trivial) (by go_simp) ?_
      exact hK _ _ ⟨upd y 10 (V 10), by rw [vv10.out]; kernel_rfl, HQ.out.pure rfl rfl rfl rfl (fun h => h.elim) rfl⟩
    · have hst : d 13 = false := HCL.out.no (i := 11) (j := 13) rfl HS.out (by kernel_rfl)
      have t5 : d 5 = true := HD.out ⟨5, .data⟩ (by simp) rfl
      have t10 : d 10 = true := HD.out ⟨10, .data⟩ (by simp) rfl
      have tb : d 0 = true := HCL.out 5 _ rfl t5 ⟨0, .data⟩ (by simp) rfl
      obtain ⟨fr, hD, hf⟩ := HQ.out.acc2 t5 HS.out hst
      have e10 : y 10 = .slice (some sb) (grp.length - (k + 1)) (k2 - (k + 1)) := (HQ.out.val 10 rfl t10).trans vv10.out
      obtain ⟨u7, W7, hr7, hD7⟩ := hD.app 30 HSR.out (by have := HLE.out; simp [ints]; omega)
      refine op_wanted hoo (by kernel_rfl) fun K hK => ?_
      refine wpIn_app (.tmp 18) (.tmp 23) 30 rfl (u := y 5) (v := .slice (some sb) (grp.length - (k + 1)) (k2 - (k + 1))) rfl (by rw [← e10]; rfl) hr7 ?_
      rw [show k + (ints (grp.drop (k + 1))).length = grp.length - 1 by have := HLE.out; simp [ints]; omega, show ints (grp.take k) ++ ints (grp.drop (k + 1)) = ints (grp.take k ++ grp.drop (k + 1)) by simp [ints]] at hD7
      exact hK _ _ ⟨upd y 11 u7, by kernel_rfl, HQ.out.put2 t5 tb hst rfl (by decide) (by decide) (fun h => h.elim) (by decide) hD7 hf⟩
    · refine op_wanted hoo (by kernel_rfl) fun K hK => ?_
      clear hoo
      refine wpIn_val (v := .pointer (some ⟨w.heap.size, 2, none⟩)) (fun _ _ => trivial) (by go_simp) ?_
      exact hK _ _ ⟨upd y 12 (V 12), by rw [vv12.out]; kernel_rfl, HQ.out.pure rfl rfl rfl rfl (fun h => h.elim) rfl⟩
    · have t12 : d 12 = true := HD.out ⟨12, .data⟩ (by simp) rfl
      have t11 : d 11 = true := HD.out ⟨11, .data⟩ (by simp) rfl
      have e12 : y 12 = .pointer (some ⟨w.heap.size, 2, none⟩) := (HQ.out.val 12 rfl t12).trans vv12.out
      have hlv := HQ.out.live HS.out
      have m0 := HX2.out _ hlv
      have g8 := HFZ.out _ hlv
      clear hlv
      refine op_wanted hoo (by kernel_rfl) fun K hK => ?_
      obtain ⟨q9, k9, hq9⟩ := HQ.out.last t11 HS.out
      refine wpIn_skip (w' := Wx.setCell ⟨w.heap.size, 2, none⟩ (.slice q9 ((grp.length - 1)) k9)) (fun _ _ => trivial) (by rw [hq9]; go_simp) ?_
      rw [← hq9]
      exact hK _ _ ⟨y, by kernel_rfl, HQ.out.store t11 HS.out rfl (by decide) (by decide) (by decide) (fun h => h.elim)⟩
  case f0 =>
    rintro d act Wx ⟨y, rfl, hR⟩ hall
    obtain ⟨Wm, fr, hWx, hDA⟩ := hR.fin (hall 13 (by decide)) (hall 11 (by decide))
    have HB6 := Lib.hid ((HB1.out.step hDA.below).set2 (y 11))
    have HP6 : Hid (Wx.ownsRow W1.heap.size 3 1 (y 11) (grp.length - 1) (ints (grp.take k ++ grp.drop (k + 1)))) := by
      show World.ownsRow _ _ _ _ _ _ _
      rw [hWx]
      exact ownsRow_setCell_below hDA.own (a := ⟨w.heap.size, 2, none⟩) (blk_lt HB1.out.box) _
    rw [← hWx] at HB6
    obtain ⟨q9, k9, hq9⟩ := own1_slice HP6.out
    rw [hq9] at HB6 HP6
    clear hWx hDA hall hR HX2 HFZ HSA HSB HSR HIX
    obtain ⟨c0, c1, c2⟩ := HB6.out.facts
    obtain ⟨z0, z1, z2⟩ := HB6.out.zero
    have f0 := (HB6.out.frz 0).2
    have f1 := (HB6.out.frz 1).2
    have f2 := (HB6.out.frz 2).2
    go_wp2_with fail
    obtain ⟨W7, hW7⟩ : ∃ W7, W7 = (((Wx.setCell ⟨w.heap.size + 1, 0, none⟩ (.slice q0 most.length k0)).setCell ⟨w.heap.size + 1, 1, none⟩ (.slice q1 mail.length k1)).setCell ⟨w.heap.size + 1, 2, none⟩ (.slice q9 (grp.length - 1) k9)) := ⟨_, rfl⟩
    rw [← hW7]
    obtain ⟨k1', d0, d1, d2, hk⟩ := HB6.out.fin hW7
    have K1 := Lib.hid k1'
    have HK := Lib.hid hk
    clear c0 c1 c2 z0 z1 z2 f0 f1 f2 k1' hW7 hk
    have hgl2 : (grp.take k ++ grp.drop (k + 1)).length = grp.length - 1 := by have := HLE.out; simp; omega
    refine bodyPost_ret (v := .tuple #[.agg #[.slice q0 most.length k0, .slice q1 mail.length k1, .slice q9 (grp.length - 1) k9], .int .i64 0]) (by simp [results, Try.results34, go_sem, d0, d1, d2]) rfl ⟨_, rfl, ⟨_, _, _, _, rfl, own1_below H0.out K1.out, own1_below H1.out K1.out, ?_, fun i x l hx hl => own1_below (H3.out i x l hx hl) K1.out⟩, K1.out⟩
    rw [hgl2]
    exact own_lower (own_keep HP6.out (fun g C f hg => HK.out g C 3 f (.inl rfl) hg)) (Nat.le_trans HBB.out HB1.out.below.size)
end Go.Proofs.Ytgbafpjeapkklaa.Mb
namespace Go.Proofs.Ytgbafpjeapkklaa.Mb
open Go.RowKit
set_option linter.unusedVariables false
set_option linter.unusedSimpArgs false
set_option maxRecDepth 100000 in
set_option maxHeartbeats 8000000 in
theorem rjoin_twice {B : Nat} {b : Value} {most : List Int} {mail : List (List Int)} {grp : List Int} {i : Int} {k : Nat} (w : World) (hb : BR w B b most mail grp) (hgl : grp.length ≤ 64) (hi : gix grp i = (k : Int)) :
    Calls Try.prog 32 #[b, .int .i64 i] w fun e w' => e = .returned (.tuple #[b, .int .i64 6]) ∧ Below w.heap.size w w' := by
  have HBR := Lib.hid hb
  obtain ⟨v0, v1, v2, vs, rfl, h0, h1, h2, h3⟩ := hb
  obtain ⟨q0, k0, rfl⟩ := own1_slice h0
  obtain ⟨q1, k1, rfl⟩ := own1_slice h1
  obtain ⟨q2, k2, rfl⟩ := own1_slice h2
  have HIX : Hid (∀ W, Below w.heap.size w W → Calls Try.prog 37 #[.agg #[.slice q0 most.length k0, .slice q1 mail.length k1, .slice q2 grp.length k2], .int .i64 i] W fun e w' => e = .returned (.int .i64 (gix grp i)) ∧ Below W.heap.size W w') := fun W hW => rindex W (BR.below HBR.out hW) hgl i
  rw [hi] at HIX
  have tk : decide ((0 : Int) ≤ (k : Int)) = true := decide_eq_true (by omega)
  clear h0 h1 h2 h3 hgl hi HBR
  have HB0 : Hid (R3 w (.slice q0 most.length k0) (.slice q1 mail.length k1) (.slice q2 grp.length k2) ((w.alloc (Obj.cells #[.slice q0 most.length k0, .slice q1 mail.length k1, .slice q2 grp.length k2] 68)).alloc (Obj.cells #[.slice none 0 0, .slice none 0 0, .slice none 0 0] 68))) := R3.mk' w _ _ _
  go_enter Try.func32, Try.ntmps32
  go_upto_region 1 with fail
  generalize ((w.alloc (Obj.cells #[.slice q0 most.length k0, .slice q1 mail.length k1, .slice q2 grp.length k2] 68)).alloc (Obj.cells #[.slice none 0 0, .slice none 0 0, .slice none 0 0] 68)) = W0 at *
  obtain ⟨c0, c1, c2⟩ := HB0.out.facts
  go_wp2_with fail
  refine (HIX.out _ HB0.out.below).mono ?_
  rintro e W1 ⟨rfl, hb1⟩
  have HB1 := Lib.hid (HB0.out.step hb1)
  clear hb1 c0 c1 c2
  obtain ⟨c0, c1, c2⟩ := HB1.out.facts
  obtain ⟨z0, z1, z2⟩ := HB1.out.zero
  have f0 := (HB1.out.frz 0).2
  have f1 := (HB1.out.frz 1).2
  have f2 := (HB1.out.frz 2).2
  go_wp2_with fail
  obtain ⟨W5, hW5⟩ : ∃ W5, W5 = (((W1.setCell ⟨w.heap.size + 1, 0, none⟩ (.slice q0 most.length k0)).setCell ⟨w.heap.size + 1, 1, none⟩ (.slice q1 mail.length k1)).setCell ⟨w.heap.size + 1, 2, none⟩ (.slice q2 grp.length k2)) := ⟨_, rfl⟩
  rw [← hW5]
  obtain ⟨k1', d0, d1, d2, _⟩ := HB1.out.fin hW5
  have K1 := Lib.hid k1'
  clear c0 c1 c2 z0 z1 z2 f0 f1 f2 k1' hW5
  refine bodyPost_ret (v := .tuple #[.agg #[.slice q0 most.length k0, .slice q1 mail.length k1, .slice q2 grp.length k2], .int .i64 6]) (by simp [results, Try.results32, go_sem, d0, d1, d2]) rfl ⟨rfl, K1.out⟩
set_option maxRecDepth 100000 in
set_option maxHeartbeats 8000000 in
theorem rjoin_full {B : Nat} {b : Value} {most : List Int} {mail : List (List Int)} {grp : List Int} {i : Int} (w : World) (hb : BR w B b most mail grp) (hgl : grp.length = 64) (hi : gix grp i = -1) :
    Calls Try.prog 32 #[b, .int .i64 i] w fun e w' => e = .returned (.tuple #[b, .int .i64 8]) ∧ Below w.heap.size w w' := by
  have HBR := Lib.hid hb
  have hgl2 : grp.length ≤ 64 := by omega
  obtain ⟨v0, v1, v2, vs, rfl, h0, h1, h2, h3⟩ := hb
  obtain ⟨q0, k0, rfl⟩ := own1_slice h0
  obtain ⟨q1, k1, rfl⟩ := own1_slice h1
  obtain ⟨q2, k2, rfl⟩ := own1_slice h2
  have HIX : Hid (∀ W, Below w.heap.size w W → Calls Try.prog 37 #[.agg #[.slice q0 most.length k0, .slice q1 mail.length k1, .slice q2 grp.length k2], .int .i64 i] W fun e w' => e = .returned (.int .i64 (gix grp i)) ∧ Below W.heap.size W w') := fun W hW => rindex W (BR.below HBR.out hW) hgl2 i
  rw [hi] at HIX
  have tg : ((grp.length : Int) == 64) = true := by simp [hgl]
  clear h0 h1 h2 h3 hgl hgl2 hi HBR
  have HB0 : Hid (R3 w (.slice q0 most.length k0) (.slice q1 mail.length k1) (.slice q2 grp.length k2) ((w.alloc (Obj.cells #[.slice q0 most.length k0, .slice q1 mail.length k1, .slice q2 grp.length k2] 68)).alloc (Obj.cells #[.slice none 0 0, .slice none 0 0, .slice none 0 0] 68))) := R3.mk' w _ _ _
  go_enter Try.func32, Try.ntmps32
  go_upto_region 1 with fail
  generalize ((w.alloc (Obj.cells #[.slice q0 most.length k0, .slice q1 mail.length k1, .slice q2 grp.length k2] 68)).alloc (Obj.cells #[.slice none 0 0, .slice none 0 0, .slice none 0 0] 68)) = W0 at *
  obtain ⟨c0, c1, c2⟩ := HB0.out.facts
  go_wp2_with fail
  refine (HIX.out _ HB0.out.below).mono ?_
  rintro e W1 ⟨rfl, hb1⟩
  have HB1 := Lib.hid (HB0.out.step hb1)
  clear hb1 c0 c1 c2
  obtain ⟨c0, c1, c2⟩ := HB1.out.facts
  obtain ⟨z0, z1, z2⟩ := HB1.out.zero
  have f0 := (HB1.out.frz 0).2
  have f1 := (HB1.out.frz 1).2
  have f2 := (HB1.out.frz 2).2
  go_wp2_with fail
  obtain ⟨W5, hW5⟩ : ∃ W5, W5 = (((W1.setCell ⟨w.heap.size + 1, 0, none⟩ (.slice q0 most.length k0)).setCell ⟨w.heap.size + 1, 1, none⟩ (.slice q1 mail.length k1)).setCell ⟨w.heap.size + 1, 2, none⟩ (.slice q2 grp.length k2)) := ⟨_, rfl⟩
  rw [← hW5]
  obtain ⟨k1', d0, d1, d2, _⟩ := HB1.out.fin hW5
  have K1 := Lib.hid k1'
  clear c0 c1 c2 z0 z1 z2 f0 f1 f2 k1' hW5
  refine bodyPost_ret (v := .tuple #[.agg #[.slice q0 most.length k0, .slice q1 mail.length k1, .slice q2 grp.length k2], .int .i64 8]) (by simp [results, Try.results32, go_sem, d0, d1, d2]) rfl ⟨rfl, K1.out⟩
set_option maxRecDepth 100000 in
set_option maxHeartbeats 8000000 in
theorem rjoin_yes {B : Nat} {b : Value} {most : List Int} {mail : List (List Int)} {grp : List Int} {i : Int} (w : World) (hb : BR w B b most mail grp) (hB : B ≤ w.heap.size) (hgl : grp.length < 64) (hi : gix grp i = -1) :
    Calls Try.prog 32 #[b, .int .i64 i] w fun e w' => ∃ b', e = .returned (.tuple #[b', .int .i64 0]) ∧ BR w' B b' most mail (grp ++ [i]) ∧ Below w.heap.size w w' := by
  have HBR := Lib.hid hb
  have hgl2 : grp.length ≤ 64 := by omega
  obtain ⟨v0, v1, v2, vs, rfl, h0, h1, h2, h3⟩ := hb
  obtain ⟨q0, k0, rfl⟩ := own1_slice h0
  obtain ⟨q1, k1, rfl⟩ := own1_slice h1
  obtain ⟨q2, k2, rfl⟩ := own1_slice h2
  have HIX : Hid (∀ W, Below w.heap.size w W → Calls Try.prog 37 #[.agg #[.slice q0 most.length k0, .slice q1 mail.length k1, .slice q2 grp.length k2], .int .i64 i] W fun e w' => e = .returned (.int .i64 (gix grp i)) ∧ Below W.heap.size W w') := fun W hW => rindex W (BR.below HBR.out hW) hgl2 i
  rw [hi] at HIX
  have tg : ((grp.length : Int) == 64) = false := by rw [beq_eq_false_iff_ne]; omega
  have HGL := Lib.hid hgl2
  have HBB := Lib.hid hB
  have H0 := Lib.hid h0
  have H1 := Lib.hid h1
  have H2 := Lib.hid h2
  have H3 := Lib.hid h3
  clear h0 h1 h2 h3 hgl hgl2 hi HBR hB
  have HB0 : Hid (R3 w (.slice q0 most.length k0) (.slice q1 mail.length k1) (.slice q2 grp.length k2) ((w.alloc (Obj.cells #[.slice q0 most.length k0, .slice q1 mail.length k1, .slice q2 grp.length k2] 68)).alloc (Obj.cells #[.slice none 0 0, .slice none 0 0, .slice none 0 0] 68))) := R3.mk' w _ _ _
  go_enter Try.func32, Try.ntmps32
  go_upto_region 1 with fail
  generalize ((w.alloc (Obj.cells #[.slice q0 most.length k0, .slice q1 mail.length k1, .slice q2 grp.length k2] 68)).alloc (Obj.cells #[.slice none 0 0, .slice none 0 0, .slice none 0 0] 68)) = W0 at *
  obtain ⟨c0, c1, c2⟩ := HB0.out.facts
  go_wp2_with fail
  refine (HIX.out _ HB0.out.below).mono ?_
  rintro e W1 ⟨rfl, hb1⟩
  have HB1 := Lib.hid (HB0.out.step hb1)
  clear hb1 c0 c1 c2
  obtain ⟨c0, c1, c2⟩ := HB1.out.facts
  go_upto_region 5 with fail
  clear tg HIX
  have f0 := (HB1.out.frz 2).1
  obtain ⟨u1, W3, hr1, ho1, hb1, p1, e1, hs1⟩ := copy_row rk30 W1 30 (own_lower (own1_below H2.out HB1.out.below) (Nat.zero_le _)) (ints_one _) (by have := HGL.out; omega)
  subst hs1
  obtain ⟨u2, W2, hr2, ho2, hg2, p2, e2, hs2⟩ := more_row rk30 W3 30 (.int .i64 i) ho1 rfl (by have := HGL.out; omega) hb1.size
  subst hs2
  have hb2 : Below W1.heap.size W1 W2 := hb1.grown hg2 hb1.size (fun k hk => by have := ho1.lt k hk; omega)
  have HR1 := Lib.hid hr1
  have HR2 := Lib.hid hr2
  have HO2 : Hid (W2.ownsRow W1.heap.size 3 1 (.slice p2 (grp.length + 1) e2) (grp.length + 1) (ints (grp ++ [i]))) := by
    have : ints (grp ++ [i]) = ints grp ++ [.int .i64 i] := by simp [ints]
    show World.ownsRow _ _ _ _ _ _ _
    rw [this]
    exact ho2
  have HB2 := Lib.hid (HB1.out.step hb2)
  clear hr1 ho1 hb1 hr2 ho2 hg2 hb2
  obtain ⟨_, _, a2⟩ := (HB1.out.step ((Below.refl _ _).alloc (Nat.le_refl _) (Obj.cells #[] 3))).facts
  obtain ⟨d0, d1, d2⟩ := HB2.out.facts
  have g0 := (HB2.out.frz 2).1
  go_upto_region 6 with (first | (at_builtin; refine Lib.wpList_append_run _ rfl _ _ _ _ rfl (.slice (some ⟨W1.heap.size, 0, none⟩) 0 0) (.slice q2 grp.length k2) rfl rfl _ _ HR1.out ?_) | (at_builtin; refine Lib.wpList_append_run _ rfl _ _ _ _ rfl (.slice p1 grp.length e1) (.slice (some ⟨W3.heap.size, 0, none⟩) 1 1) rfl rfl _ _ HR2.out ?_))
  clear a2 d0 d1 d2 g0 c0 c1 c2 f0
  have HB3 := Lib.hid (HB2.out.set2 (.slice p2 (grp.length + 1) e2))
  have HO3 : Hid ((W2.setCell ⟨w.heap.size, 2, none⟩ (.slice p2 (grp.length + 1) e2)).ownsRow W1.heap.size 3 1 (.slice p2 (grp.length + 1) e2) (grp.length + 1) (ints (grp ++ [i]))) := own_keep HO2.out (fun g C f hg => HB2.out.keeps 2 _ g C 3 f (.inl rfl) hg)
  generalize W2.setCell ⟨w.heap.size, 2, none⟩ (.slice p2 (grp.length + 1) e2) = W4 at *
  obtain ⟨c0, c1, c2⟩ := HB3.out.facts
  obtain ⟨z0, z1, z2⟩ := HB3.out.zero
  have f0 := (HB3.out.frz 0).2
  have f1 := (HB3.out.frz 1).2
  have f2 := (HB3.out.frz 2).2
  go_wp2_with fail
  obtain ⟨W7, hW7⟩ : ∃ W7, W7 = (((W4.setCell ⟨w.heap.size + 1, 0, none⟩ (.slice q0 most.length k0)).setCell ⟨w.heap.size + 1, 1, none⟩ (.slice q1 mail.length k1)).setCell ⟨w.heap.size + 1, 2, none⟩ (.slice p2 (grp.length + 1) e2)) := ⟨_, rfl⟩
  rw [← hW7]
  obtain ⟨k1', d0, d1, d2, hk⟩ := HB3.out.fin hW7
  have K1 := Lib.hid k1'
  have HK := Lib.hid hk
  clear c0 c1 c2 z0 z1 z2 f0 f1 f2 k1' hW7 hk
  refine bodyPost_ret (v := .tuple #[.agg #[.slice q0 most.length k0, .slice q1 mail.length k1, .slice p2 (grp.length + 1) e2], .int .i64 0]) (by simp [results, Try.results32, go_sem, d0, d1, d2]) rfl ⟨_, rfl, ⟨_, _, _, _, rfl, own1_below H0.out K1.out, own1_below H1.out K1.out, ?_, fun j x l hx hl => own1_below (H3.out j x l hx hl) K1.out⟩, K1.out⟩
  rw [show (grp ++ [i]).length = grp.length + 1 by simp]
  exact own_lower (own_keep HO3.out (fun g C f hg => HK.out g C 3 f (.inl rfl) hg)) (Nat.le_trans HBB.out HB1.out.below.size)
end Go.Proofs.Ytgbafpjeapkklaa.Mb
