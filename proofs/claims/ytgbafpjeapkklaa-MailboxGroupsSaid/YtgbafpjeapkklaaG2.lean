/- Parts Ue of the proof. -/
import Derived.Test.YtgbafpjeapkklaaG1
namespace Go.Proofs.Ytgbafpjeapkklaa.Mb
open Go.RowKit
set_option linter.unusedVariables false
set_option linter.unusedSimpArgs false
theorem own_at {W : World} {B : Nat} {e : TypeId} {v : Value} {n : Nat} {xs : List Value} (h : W.ownsRow B e 1 v n xs) (h0 : 0 < n) : ∃ g cap, v = .slice (some ⟨g, 0, none⟩) n cap ∧ B ≤ g ∧ n ≤ cap ∧ (∃ cur, W.heap[g]? = some (.cells cur e (0, 0))) ∧ ∀ k u, xs[k]? = some u → W.cell? ⟨g, k, none⟩ = some u := by
  have hc := fun g hg => h.cells (g := g) hg
  rcases h.2 with ⟨rfl, h1⟩ | ⟨g, cap, cur, rfl, hb, hg, hcap, _⟩
  · omega
  · refine ⟨g, cap, rfl, hb, hcap, ⟨cur, hg⟩, fun k u hu => ?_⟩
    have := hc g rfl k u hu
    rwa [Addr.add_lit, Nat.zero_add] at this
theorem own_src {W : World} {B n : Nat} {v : Value} {l : List Int} (h : W.ownsRow B 3 1 v n (ints l)) : Src W v (ints l) := by
  have hl : (ints l).length = n := by have := h.1; omega
  rcases h.2 with ⟨rfl, h0⟩ | ⟨g, cap, cur, rfl, _⟩
  · exact .inl ⟨rfl, List.eq_nil_of_length_eq_zero (by omega)⟩
  · exact .inr ⟨_, cap, by rw [hl], h.cells (g := g) rfl, ints_one l⟩
theorem wpIn_skip {F : Fence} {n : Nat} {o : Oper} {a : Act} {w w' : World} {K : Act → World → Prop} {Q : Exit → Act → World → Prop} (hab : ∀ f, o.about Try.prog w a.eval = some f → F.fn f) (h : (o.semAt F.round a.eval).run Try.prog w = .ok .skip w') (hK : K (a.put o.dst undef) w') : Oper.wpIn F n Try.prog o a w K Q :=
  ⟨hab, by rw [h]; exact hK⟩
theorem own_put {W : World} {B g m cp : Nat} {e : TypeId} {vs : List Value} (h : W.ownsRow B e 1 (.slice (some ⟨g, 0, none⟩) m cp) m vs) (k : Nat) (x : Value) : (W.setCell ⟨g, k, none⟩ x).ownsRow B e 1 (.slice (some ⟨g, 0, none⟩) m cp) m (vs.set k x) := by
  refine ⟨by rw [List.length_set]; exact h.1, ?_⟩
  rcases h.2 with ⟨h0, _⟩ | ⟨g', cap, cur, h1, h2, h3, h4, h5, h6, h7⟩
  · cases h0
  · injection h1 with h1 _ h1c
    injection h1 with h1
    injection h1 with h1
    subst h1 h1c
    refine .inr ⟨_, _, _, rfl, h2, blk_set h3 k x, h4, h5, by simpa using h6, ?_⟩
    rw [← h7, Array.toList_setIfInBounds, List.take_set]
theorem own_other {W : World} {B g n : Nat} {e t : TypeId} {v : Value} {xs : List Value} {C : Array Value} {f : Nat × Nat} (h : W.ownsRow B e 1 v n xs) (hg : W.heap[g]? = some (.cells C t f)) (ht : e ≠ t) (o : Nat) (u : Value) : (W.setCell ⟨g, o, none⟩ u).ownsRow B e 1 v n xs := by
  refine ownsRow_setCell_other h (a := ⟨g, o, none⟩) ?_ u
  rcases h.2 with ⟨rfl, _⟩ | ⟨g', cap, cur, rfl, _, h3, _⟩
  · intro e; cases e
  · intro e
    have e' : g' = g := by injection e
    subst e'
    rw [hg] at h3
    injection h3 with h3
    injection h3 with _ h3 _
    exact ht h3.symm
theorem R3.off {w : World} {v0 v1 v2 : Value} {W : World} (h : R3 w v0 v1 v2 W) (g k : Nat) (hg : w.heap.size + 1 < g) (u : Value) : R3 w v0 v1 v2 (W.setCell ⟨g, k, none⟩ u) :=
  ⟨h.below.setCell (p := ⟨g, k, none⟩) (by show _ ≤ g; omega) _, blk_set_ne h.box ⟨g, k, none⟩ (by show w.heap.size ≠ g; omega) _, blk_set_ne h.out ⟨g, k, none⟩ (by show w.heap.size + 1 ≠ g; omega) _⟩
theorem IS.last {W0 : World} {V : Nat → Value} {Pu : Nat → Bool} {b a1 a2 f st : Nat} {F : Prop} {A : Addr} {n1 n2 : Nat} {x1 x2 : List Value} {c : Value} {d : Nat → Bool} {y : Nat → Value} {Wx : World} (h : IS W0 V Pu b a1 a2 f st F A n1 n2 x1 x2 c d y Wx) (h2 : d a2 = true) (hst : d st = false) : ∃ q k, y a2 = .slice q n2 k := by
  obtain ⟨Wm, u, nn, xs, fr, e, hD, q0, q1, q2, q3, q4⟩ := h.mem
  obtain ⟨r1, r2, r3⟩ := q3 h2
  rw [r1, ← r2]
  exact own1_slice hD.own
theorem BR.at {W : World} {B : Nat} {b : Value} {most : List Int} {mail : List (List Int)} {grp : List Int} (hb : BR W B b most mail grp) {k : Nat} {c : Int} {l : List Int} (hm : most[k]? = some c) (hl : mail[k]? = some l) :
    ∃ g0 k0 g1 k1 q2 k2 vs q k3, b = .agg #[.slice (some ⟨g0, 0, none⟩) most.length k0, .slice (some ⟨g1, 0, none⟩) mail.length k1, .slice q2 grp.length k2] ∧
      (W.ownsRow B 3 1 (.slice (some ⟨g0, 0, none⟩) most.length k0) most.length (ints most) ∧ W.ownsRow B 30 1 (.slice (some ⟨g1, 0, none⟩) mail.length k1) mail.length vs ∧ W.ownsRow B 3 1 (.slice q2 grp.length k2) grp.length (ints grp) ∧
      ∀ (i : Nat) (x : Value) (l : List Int), vs[i]? = some x → mail[i]? = some l → W.ownsRow B 3 1 x l.length (ints l)) ∧
      g0 < W.heap.size ∧ W.cell? ⟨g0, k, none⟩ = some (.int .i64 c) ∧ g1 < W.heap.size ∧ W.cell? ⟨g1, k, none⟩ = some (.slice q l.length k3) ∧ vs[k]? = some (.slice q l.length k3) ∧ W.ownsRow B 3 1 (.slice q l.length k3) l.length (ints l) := by
  obtain ⟨v0, v1, v2, vs, rfl, h0, h1, h2, h3⟩ := hb
  have hk := (List.getElem?_eq_some_iff.1 hl).1
  have hk0 := (List.getElem?_eq_some_iff.1 hm).1
  obtain ⟨g0, k0, rfl, _, _, ⟨_, hc0⟩, x0⟩ := own_at h0 (by omega)
  obtain ⟨g1, k1, rfl, _, _, ⟨_, hc1⟩, x1⟩ := own_at h1 (by omega)
  obtain ⟨q2, k2, rfl⟩ := own1_slice h2
  have hvl : vs.length = mail.length := by have := h1.1; omega
  obtain ⟨x, hx⟩ : ∃ x, vs[k]? = some x := ⟨vs[k]'(by omega), by simp⟩
  have hr := h3 k x l hx hl
  obtain ⟨q, k3, rfl⟩ := own1_slice hr
  exact ⟨g0, k0, g1, k1, q2, k2, vs, q, k3, rfl, ⟨h0, h1, h2, h3⟩, blk_lt hc0, x0 k _ (by simp [ints, hm]), blk_lt hc1, x1 k _ hx, hx, hr⟩
set_option maxRecDepth 100000 in
set_option maxHeartbeats 8000000 in
theorem rsend_no {B : Nat} {b : Value} {most : List Int} {mail : List (List Int)} {grp : List Int} {n c : Int} {k : Nat} {l : List Int} (w : World) (hb : BR w B b most mail grp) (hm : most[k]? = some c) (hl : mail[k]? = some l) (hc : (l.length : Int) = c) :
    Calls Try.prog 28 #[b, .int .i64 k, .int .i64 n] w fun e w' => e = .returned (.tuple #[b, .int .i64 8]) ∧ Below w.heap.size w w' := by
  obtain ⟨g0, k0, g1, k1, q2, k2, vs, q, k3, rfl, ⟨h0, h1, h2, h3⟩, hg0, x0, hg1, x1, hvx, hrow⟩ := hb.at hm hl
  have hk := (List.getElem?_eq_some_iff.1 hl).1
  have hk0 := (List.getElem?_eq_some_iff.1 hm).1
  have ti : (k : Int) < (mail.length : Int) := by omega
  have ti0 : (k : Int) < (most.length : Int) := by omega
  have X0 : Hid (∀ W, Below w.heap.size w W → W.cell? ⟨g0, k, none⟩ = some (.int .i64 c)) := fun W h => (h.cell (p := ⟨g0, k, none⟩) hg0).trans x0
  have X1 : Hid (∀ W, Below w.heap.size w W → W.cell? ⟨g1, k, none⟩ = some (.slice q l.length k3)) := fun W h => (h.cell (p := ⟨g1, k, none⟩) hg1).trans x1
  have tc : ((l.length : Int) == c) = true := by simp [hc]
  clear h0 h1 h2 h3 hg0 x0 hg1 x1 hvx hrow hk hk0 hm hl hc
  have HB0 : Hid (R3 w (.slice (some ⟨g0, 0, none⟩) most.length k0) (.slice (some ⟨g1, 0, none⟩) mail.length k1) (.slice q2 grp.length k2) ((w.alloc (Obj.cells #[.slice (some ⟨g0, 0, none⟩) most.length k0, .slice (some ⟨g1, 0, none⟩) mail.length k1, .slice q2 grp.length k2] 68)).alloc (Obj.cells #[.slice none 0 0, .slice none 0 0, .slice none 0 0] 68))) := R3.mk' w _ _ _
  go_enter Try.func28, Try.ntmps28
  go_upto_region 1 with fail
  generalize ((w.alloc (Obj.cells #[.slice (some ⟨g0, 0, none⟩) most.length k0, .slice (some ⟨g1, 0, none⟩) mail.length k1, .slice q2 grp.length k2] 68)).alloc (Obj.cells #[.slice none 0 0, .slice none 0 0, .slice none 0 0] 68)) = W0 at *
  obtain ⟨c0, c1, c2⟩ := HB0.out.facts
  have y0 := X0.out _ HB0.out.below
  have y1 := X1.out _ HB0.out.below
  go_region
  go_upto_region 2 with fail
  have HB1 := Lib.hid (HB0.out.step (Below.refl _ _).drew)
  generalize W0.drew = W1 at *
  clear c0 c1 c2 y0 y1
  obtain ⟨c0, c1, c2⟩ := HB1.out.facts
  obtain ⟨z0, z1, z2⟩ := HB1.out.zero
  have f0 := (HB1.out.frz 0).2
  have f1 := (HB1.out.frz 1).2
  have f2 := (HB1.out.frz 2).2
  go_wp2_with fail
  obtain ⟨W5, hW5⟩ : ∃ W5, W5 = (((W1.setCell ⟨w.heap.size + 1, 0, none⟩ (.slice (some ⟨g0, 0, none⟩) most.length k0)).setCell ⟨w.heap.size + 1, 1, none⟩ (.slice (some ⟨g1, 0, none⟩) mail.length k1)).setCell ⟨w.heap.size + 1, 2, none⟩ (.slice q2 grp.length k2)) := ⟨_, rfl⟩
  rw [← hW5]
  obtain ⟨k1', d0, d1, d2, _⟩ := HB1.out.fin hW5
  have K1 := Lib.hid k1'
  clear c0 c1 c2 z0 z1 z2 f0 f1 f2 k1' hW5
  refine bodyPost_ret (v := .tuple #[.agg #[.slice (some ⟨g0, 0, none⟩) most.length k0, .slice (some ⟨g1, 0, none⟩) mail.length k1, .slice q2 grp.length k2], .int .i64 8]) (by simp [results, Try.results28, go_sem, d0, d1, d2]) rfl ⟨rfl, K1.out⟩
set_option maxRecDepth 100000 in
set_option maxHeartbeats 8000000 in
theorem rsend_yes {B : Nat} {b : Value} {most : List Int} {mail : List (List Int)} {grp : List Int} {n c : Int} {k : Nat} {l : List Int} (w : World) (hb : BR w B b most mail grp) (hB : B ≤ w.heap.size) (hll : l.length ≤ 2000) (hl2 : mail.length ≤ 1000) (hm : most[k]? = some c) (hl : mail[k]? = some l) (hc : (l.length : Int) ≠ c) :
    Calls Try.prog 28 #[b, .int .i64 k, .int .i64 n] w fun e w' => ∃ b', e = .returned (.tuple #[b', .int .i64 0]) ∧ BR w' B b' most (mail.set k (l ++ [n])) grp ∧ Below w.heap.size w w' := by
  obtain ⟨g0, k0, g1, k1, q2, k2, vs, q, k3, rfl, ⟨h0, h1, h2, h3⟩, hg0, x0, hg1, x1, hvx, hrow⟩ := hb.at hm hl
  have hk := (List.getElem?_eq_some_iff.1 hl).1
  have hk0 := (List.getElem?_eq_some_iff.1 hm).1
  have ti : (k : Int) < (mail.length : Int) := by omega
  have ti0 : (k : Int) < (most.length : Int) := by omega
  have X0 : Hid (∀ W, Below w.heap.size w W → W.cell? ⟨g0, k, none⟩ = some (.int .i64 c)) := fun W h => (h.cell (p := ⟨g0, k, none⟩) hg0).trans x0
  have X1 : Hid (∀ W, Below w.heap.size w W → W.cell? ⟨g1, k, none⟩ = some (.slice q l.length k3)) := fun W h => (h.cell (p := ⟨g1, k, none⟩) hg1).trans x1
  have tc : ((l.length : Int) == c) = false := by simp [hc]
  have H0 := Lib.hid h0
  have H1 := Lib.hid h1
  have H2 := Lib.hid h2
  have H3 := Lib.hid h3
  have HR := Lib.hid hrow
  have HVX := Lib.hid hvx
  have HML := Lib.hid hl
  have HLL := Lib.hid hll
  have HL2 := Lib.hid hl2
  have HBB := Lib.hid hB
  clear h0 h1 h2 h3 hg0 x0 hg1 x1 hvx hrow hk hk0 hm hl hc hB hll hl2
  have HB0 : Hid (R3 w (.slice (some ⟨g0, 0, none⟩) most.length k0) (.slice (some ⟨g1, 0, none⟩) mail.length k1) (.slice q2 grp.length k2) ((w.alloc (Obj.cells #[.slice (some ⟨g0, 0, none⟩) most.length k0, .slice (some ⟨g1, 0, none⟩) mail.length k1, .slice q2 grp.length k2] 68)).alloc (Obj.cells #[.slice none 0 0, .slice none 0 0, .slice none 0 0] 68))) := R3.mk' w _ _ _
  go_enter Try.func28, Try.ntmps28
  go_upto_region 1 with fail
  generalize ((w.alloc (Obj.cells #[.slice (some ⟨g0, 0, none⟩) most.length k0, .slice (some ⟨g1, 0, none⟩) mail.length k1, .slice q2 grp.length k2] 68)).alloc (Obj.cells #[.slice none 0 0, .slice none 0 0, .slice none 0 0] 68)) = W0 at *
  obtain ⟨c0, c1, c2⟩ := HB0.out.facts
  have y0 := X0.out _ HB0.out.below
  have y1 := X1.out _ HB0.out.below
  go_region
  go_upto_region 3 with fail
  have HB1 := Lib.hid (HB0.out.step (Below.refl _ _).drew)
  generalize W0.drew = W1 at *
  clear c0 c1 c2 y0 y1 tc
  obtain ⟨c0, c1, c2⟩ := HB1.out.facts
  have hv1 := own_lower (own1_below H1.out HB1.out.below) (Nat.zero_le _)
  obtain ⟨u4, W4, hr4, ho4, hb4, p4, kU, hs4⟩ := copy_row rk66 W1 66 hv1 (one_slices hv1 (fun i x hx => by
    obtain ⟨l, hl⟩ : ∃ l, mail[i]? = some l := ⟨mail[i]'(by have h := (List.getElem?_eq_some_iff.1 hx).1; rw [hv1.1] at h; omega), by simp⟩
    exact own_one_cell (H3.out i x l hx hl))) (by have := HL2.out; omega)
  subst hs4
  have HR4 := Lib.hid hr4
  have HO4 := Lib.hid ho4
  have HB4 := Lib.hid (HB1.out.step hb4)
  have HS1 : Hid (w.heap.size ≤ W1.heap.size) := HB1.out.below.size
  clear hv1 hr4 ho4 hb4
  obtain ⟨_, a1, _⟩ := (HB1.out.step ((Below.refl _ _).alloc (Nat.le_refl _) (Obj.cells #[] 30))).facts
  obtain ⟨d0, d1, d2⟩ := HB4.out.facts
  have g1' := (HB4.out.frz 1).1
  go_upto_region 4 with (at_builtin; refine Lib.wpList_append_run _ rfl _ _ _ _ rfl (.slice (some ⟨W1.heap.size, 0, none⟩) 0 0) (.slice (some ⟨g1, 0, none⟩) mail.length k1) rfl rfl _ _ HR4.out ?_)
  clear a1 d0 d1 d2 g1' c0 c1 c2
  have HB5 := Lib.hid (HB4.out.set1 (.slice p4 mail.length kU))
  have HO5 := Lib.hid (own_keep HO4.out (fun g C f hg => HB4.out.keeps 1 (.slice p4 mail.length kU) g C 30 f (.inr rfl) hg))
  generalize W4.setCell ⟨w.heap.size, 1, none⟩ (.slice p4 mail.length kU) = W5 at *
  obtain ⟨gU, eU, hpU, hgU, _, ⟨curU, hcU⟩, hxU⟩ := own_at HO5.out (by omega)
  injection hpU with hp1 _ hp3
  subst hp1 hp3
  have HU : Hid (W1.heap.size ≤ gU ∧ W5.heap[gU]? = some (.cells curU 30 (0, 0)) ∧ W5.cell? ⟨gU, k, none⟩ = some (.slice q l.length k3)) := ⟨hgU, hcU, hxU k _ HVX.out⟩
  have HR5 := Lib.hid (own_lower (own1_below HR.out HB5.out.below) (Nat.zero_le _))
  have HXB : Hid (∀ W, Below W5.heap.size W5 W → W.heap[w.heap.size]? = some (.cells #[.slice (some ⟨g0, 0, none⟩) most.length k0, .slice (some ⟨gU, 0, none⟩) mail.length kU, .slice q2 grp.length k2] 68 (0, 0))) := fun W h => (h.block _ (blk_lt HB5.out.box)).trans HB5.out.box
  have HX1 : Hid (∀ W, Below W5.heap.size W5 W → W.cell? ⟨w.heap.size, 1, none⟩ = some (.slice (some ⟨gU, 0, none⟩) mail.length kU)) := fun W h => cell_blk (HXB.out W h) 1
  have HUX : Hid (∀ W, Below W5.heap.size W5 W → W.cell? ⟨gU, k, none⟩ = some (.slice q l.length k3)) := fun W h => (h.cell (p := ⟨gU, k, none⟩) (blk_lt HU.out.2.1)).trans HU.out.2.2
  have HNE : Hid (w.heap.size ≠ gU) := by
    show _ ≠ _
    have h1 := blk_lt HB1.out.box
    have h2 := HU.out.1
    omega
  have HXS : Hid (∀ W v, Below W5.heap.size W5 W → (W.setCell ⟨gU, k, none⟩ v).cell? ⟨w.heap.size, 1, none⟩ = some (.slice (some ⟨gU, 0, none⟩) mail.length kU)) := fun W v h => cell_blk (blk_set_ne (HXB.out W h) ⟨gU, k, none⟩ HNE.out v) 1
  clear hgU hcU hxU
  have hll := HLL.out
  have HGT : Hid (w.heap.size + 1 < gU) := by
    show _ < _
    have h1 := blk_lt HB1.out.out
    have h2 := HU.out.1
    omega
  have HD := Lib.hid (DA.start W5)
  have HGF : Hid (∀ W, Below W5.heap.size W5 W → W.frozen? ⟨gU, k, none⟩ = false) := fun W h => frozen_blk ((h.block _ (blk_lt HU.out.2.1)).trans HU.out.2.1) k
  have HSR : Hid (Src W5 (.slice q l.length k3) (ints l)) := own_src HR5.out
  obtain ⟨V, hV⟩ : ∃ V : Nat → Value, V = fun vv => ([.pointer (some ⟨w.heap.size, 1, none⟩), .slice (some ⟨gU, 0, none⟩) mail.length kU, .int .i64 k, undef, .pointer (some ⟨w.heap.size, 1, none⟩), .slice (some ⟨gU, 0, none⟩) mail.length kU, .int .i64 k, .pointer (some ⟨gU, k, none⟩), .slice q l.length k3, undef, .int .i64 n, undef, undef, .pointer (some ⟨gU, k, none⟩), undef] : List Value).getD vv undef := ⟨_, rfl⟩
  have vv0 : Hid (V 0 = .pointer (some ⟨w.heap.size, 1, none⟩)) := Lib.hid (by rw [hV]; rfl)
  have vv1 : Hid (V 1 = .slice (some ⟨gU, 0, none⟩) mail.length kU) := Lib.hid (by rw [hV]; rfl)
  have vv2 : Hid (V 2 = .int .i64 k) := Lib.hid (by rw [hV]; rfl)
  have vv4 : Hid (V 4 = .pointer (some ⟨w.heap.size, 1, none⟩)) := Lib.hid (by rw [hV]; rfl)
  have vv5 : Hid (V 5 = .slice (some ⟨gU, 0, none⟩) mail.length kU) := Lib.hid (by rw [hV]; rfl)
  have vv6 : Hid (V 6 = .int .i64 k) := Lib.hid (by rw [hV]; rfl)
  have vv7 : Hid (V 7 = .pointer (some ⟨gU, k, none⟩)) := Lib.hid (by rw [hV]; rfl)
  have vv8 : Hid (V 8 = .slice q l.length k3) := Lib.hid (by rw [hV]; rfl)
  have vv10 : Hid (V 10 = .int .i64 n) := Lib.hid (by rw [hV]; rfl)
  have vv13 : Hid (V 13 = .pointer (some ⟨gU, k, none⟩)) := Lib.hid (by rw [hV]; rfl)
  clear hV
  refine (wpIn_wide (n := 20)).1 ?_
  refine wpIn_region_cl (by kernel_rfl) (back_of (by kernel_rfl)) (fun d act Wn => ∃ y : Nat → Value, act = { tmps := #[.agg #[.slice (some ⟨g0, 0, none⟩) most.length k0, .slice (some ⟨g1, 0, none⟩) mail.length k1, .slice q2 grp.length k2], .int .i64 k, .int .i64 n, .pointer (some ⟨w.heap.size, 0, none⟩), undef, undef, .pointer (some ⟨w.heap.size + 1, 0, none⟩), .int .i64 0, .pointer (some ⟨w.heap.size, 1, none⟩), .slice (some ⟨g1, 0, none⟩) mail.length k1, .int .i64 k, .pointer (some ⟨g1, k, none⟩), .slice q l.length k3, .int .i64 l.length, .pointer (some ⟨w.heap.size, 0, none⟩), .slice (some ⟨g0, 0, none⟩) most.length k0, .int .i64 k, .pointer (some ⟨g0, k, none⟩), .int .i64 c, .bool false, undef, .slice (some ⟨W1.heap.size, 0, none⟩) 0 0, .pointer (some ⟨w.heap.size, 1, none⟩), .slice (some ⟨g1, 0, none⟩) mail.length k1, .slice (some ⟨gU, 0, none⟩) mail.length kU, .pointer (some ⟨w.heap.size, 1, none⟩), y 0, y 1, y 2, y 3, y 4, y 5, y 6, y 7, y 8, y 9, y 10, y 11, y 12, y 13, undef], defers := [] } ∧ IS W5 V (fun i => [0, 1, 2, 4, 5, 6, 7, 8, 10, 13].contains i) 3 9 12 11 14 True ⟨gU, k, none⟩ l.length (l.length + 1) (ints l) (ints (l ++ [n])) (.int .i64 n) d y Wn) ?r0 ?s0 ?f0
  case r0 => exact fun d hd => ⟨(fun _ => undef), rfl, IS.start _ (fun i hi => hd i (by simp at hi; show i < 15; omega)) (hd _ (by decide)) (hd _ (by decide)) (hd _ (by decide)) (fun _ => hd _ (by decide)) (hd _ (by decide))⟩
  case s0 =>
    rintro ix oi hop d act Wx ⟨y, rfl, hR⟩ hSi hdep hcl
    have hix : ix < 15 := (Array.getElem?_eq_some_iff.1 hop).1
    have HQ := Lib.hid hR
    have HD := Lib.hid hdep
    have HS := Lib.hid hSi
    have HCL := Lib.hid hcl
    clear hR hdep hSi hcl
    obtain rfl | rfl | rfl | rfl | rfl | rfl | rfl | rfl | rfl | rfl | rfl | rfl | rfl | rfl | rfl : ix = 0 ∨ ix = 1 ∨ ix = 2 ∨ ix = 3 ∨ ix = 4 ∨ ix = 5 ∨ ix = 6 ∨ ix = 7 ∨ ix = 8 ∨ ix = 9 ∨ ix = 10 ∨ ix = 11 ∨ ix = 12 ∨ ix = 13 ∨ ix = 14 := by omega
    all_goals (have hoo := hop; obtain rfl := Option.some.inj hop)
    · refine op_wanted hoo (by kernel_rfl) fun K hK => ?_
      clear hoo
      refine wpIn_val (v := .pointer (some ⟨w.heap.size, 1, none⟩)) (fun _ _ => trivial) (by go_simp) ?_
      exact hK _ _ ⟨upd y 0 (V 0), by rw [vv0.out]; kernel_rfl, HQ.out.pure rfl rfl rfl rfl (fun _ => rfl) rfl⟩
    · have t0 : d 0 = true := HD.out ⟨0, .data⟩ (by simp) rfl
      have e0 : y 0 = .pointer (some ⟨w.heap.size, 1, none⟩) := (HQ.out.val 0 rfl t0).trans vv0.out
      refine op_wanted hoo (by kernel_rfl) fun K hK => ?_
      have hst : d 14 = false := HCL.out.no (i := 1) (j := 14) rfl HS.out (by kernel_rfl)
      have hlv := HQ.out.live hst
      have c1 := HX1.out _ hlv
      clear hlv hst
      clear hoo t0
      refine wpIn_val (v := .slice (some ⟨gU, 0, none⟩) mail.length kU) (fun _ _ => trivial) (by go_simp) ?_
      exact hK _ _ ⟨upd y 1 (V 1), by rw [vv1.out]; kernel_rfl, HQ.out.pure rfl rfl rfl rfl (fun _ => rfl) rfl⟩
    · refine op_wanted hoo (by kernel_rfl) fun K hK => ?_
      clear hoo
      refine wpIn_val (v := .int .i64 k) (fun _ _ => trivial) (by go_simp) ?_
      exact hK _ _ ⟨upd y 2 (V 2), by rw [vv2.out]; kernel_rfl, HQ.out.pure rfl rfl rfl rfl (fun _ => rfl) rfl⟩
    · have hst : d 14 = false := HCL.out.no (i := 3) (j := 14) rfl HS.out (by kernel_rfl)
      have h9 : d 9 = false := (HCL.out.no (i := 3) (j := 9) rfl HS.out (by kernel_rfl))
      have h12 : d 12 = false := (HCL.out.no (i := 9) (j := 12) rfl (HCL.out.no (i := 3) (j := 9) rfl HS.out (by kernel_rfl)) (by kernel_rfl))
      refine op_wanted hoo (by kernel_rfl) fun K hK => ?_
      clear hoo
      refine wpIn_new (v := .slice (some ⟨Wx.heap.size, 0, none⟩) 0 0) (w' := Wx.alloc (Obj.cells #[] 3)) (fun _ _ => trivial) (by go_simp) ?_
      exact hK _ _ ⟨upd y 3 (.slice (some ⟨Wx.heap.size, 0, none⟩) 0 0), by kernel_rfl, HQ.out.build0 HS.out h9 h12 hst rfl (by decide) (fun _ => by decide) (by decide) (fun h => absurd h (by decide))⟩
    · refine op_wanted hoo (by kernel_rfl) fun K hK => ?_
      clear hoo
      refine wpIn_val (v := .pointer (some ⟨w.heap.size, 1, none⟩)) (fun _ _ => trivial) (by go_simp) ?_
      exact hK _ _ ⟨upd y 4 (V 4), by rw [vv4.out]; kernel_rfl, HQ.out.pure rfl rfl rfl rfl (fun _ => rfl) rfl⟩
    · have t4 : d 4 = true := HD.out ⟨4, .data⟩ (by simp) rfl
      have e4 : y 4 = .pointer (some ⟨w.heap.size, 1, none⟩) := (HQ.out.val 4 rfl t4).trans vv4.out
      refine op_wanted hoo (by kernel_rfl) fun K hK => ?_
      have hst : d 14 = false := HCL.out.no (i := 5) (j := 14) rfl HS.out (by kernel_rfl)
      have hlv := HQ.out.live hst
      have c1 := HX1.out _ hlv
      clear hlv hst
      clear hoo t4
      refine wpIn_val (v := .slice (some ⟨gU, 0, none⟩) mail.length kU) (fun _ _ => trivial) (by go_simp) ?_
      exact hK _ _ ⟨upd y 5 (V 5), by rw [vv5.out]; kernel_rfl, HQ.out.pure rfl rfl rfl rfl (fun _ => rfl) rfl⟩
    · refine op_wanted hoo (by kernel_rfl) fun K hK => ?_
      clear hoo
      refine wpIn_val (v := .int .i64 k) (fun _ _ => trivial) (by go_simp) ?_
      exact hK _ _ ⟨upd y 6 (V 6), by rw [vv6.out]; kernel_rfl, HQ.out.pure rfl rfl rfl rfl (fun _ => rfl) rfl⟩
    · have t5 : d 5 = true := HD.out ⟨5, .data⟩ (by simp) rfl
      have e5 : y 5 = .slice (some ⟨gU, 0, none⟩) mail.length kU := (HQ.out.val 5 rfl t5).trans vv5.out
      have t6 : d 6 = true := HD.out ⟨6, .data⟩ (by simp) rfl
      have e6 : y 6 = .int .i64 k := (HQ.out.val 6 rfl t6).trans vv6.out
      refine op_wanted hoo (by kernel_rfl) fun K hK => ?_
      clear hoo t5 t6
      refine wpIn_val (v := .pointer (some ⟨gU, k, none⟩)) (fun _ _ => trivial) (by go_simp) ?_
      exact hK _ _ ⟨upd y 7 (V 7), by rw [vv7.out]; kernel_rfl, HQ.out.pure rfl rfl rfl rfl (fun _ => rfl) rfl⟩
    · have t7 : d 7 = true := HD.out ⟨7, .data⟩ (by simp) rfl
      have e7 : y 7 = .pointer (some ⟨gU, k, none⟩) := (HQ.out.val 7 rfl t7).trans vv7.out
      refine op_wanted hoo (by kernel_rfl) fun K hK => ?_
      have hst : d 14 = false := HCL.out.no (i := 8) (j := 14) rfl HS.out (by kernel_rfl)
      have hlv := HQ.out.live hst
      have m0 := HUX.out _ hlv
      clear hlv hst
      clear hoo t7
      refine wpIn_val (v := .slice q l.length k3) (fun _ _ => trivial) (by go_simp) ?_
      exact hK _ _ ⟨upd y 8 (V 8), by rw [vv8.out]; kernel_rfl, HQ.out.pure rfl rfl rfl rfl (fun _ => rfl) rfl⟩
    · have hst : d 14 = false := HCL.out.no (i := 9) (j := 14) rfl HS.out (by kernel_rfl)
      have t3 : d 3 = true := HD.out ⟨3, .data⟩ (by simp) rfl
      have t8 : d 8 = true := HD.out ⟨8, .data⟩ (by simp) rfl
      have h12 : d 12 = false := (HCL.out.no (i := 9) (j := 12) rfl HS.out (by kernel_rfl))
      have e8 : y 8 = .slice q l.length k3 := (HQ.out.val 8 rfl t8).trans vv8.out
      obtain ⟨u7, W7, hr7, hI7⟩ := HQ.out.app1 t3 HS.out h12 hst rfl (by decide) (by decide) (fun _ => by decide) (by decide) 30 HSR.out (by simp [ints]) (by have := HLL.out; simp; omega)
      refine op_wanted hoo (by kernel_rfl) fun K hK => ?_
      refine wpIn_app (.tmp 29) (.tmp 34) 30 rfl (u := y 3) (v := .slice q l.length k3) rfl (by rw [← e8]; rfl) hr7 ?_
      exact hK _ _ ⟨upd y 9 u7, by kernel_rfl, hI7⟩
    · refine op_wanted hoo (by kernel_rfl) fun K hK => ?_
      clear hoo
      refine wpIn_val (v := .int .i64 n) (fun _ _ => trivial) (by go_simp) ?_
      exact hK _ _ ⟨upd y 10 (V 10), by rw [vv10.out]; kernel_rfl, HQ.out.pure rfl rfl rfl rfl (fun _ => rfl) rfl⟩
    · have hst : d 14 = false := HCL.out.no (i := 11) (j := 14) rfl HS.out (by kernel_rfl)
      have t10 : d 10 = true := HD.out ⟨10, .data⟩ (by simp) rfl
      have e10 : y 10 = .int .i64 n := (HQ.out.val 10 rfl t10).trans vv10.out
      refine op_wanted hoo (by kernel_rfl) fun K hK => ?_
      clear hoo t10
      refine wpIn_new (v := .slice (some ⟨Wx.heap.size, 0, none⟩) 1 1) (w' := Wx.alloc (Obj.cells #[(.int .i64 n)] 3)) (fun _ _ => trivial) (by go_simp) ?_
      exact hK _ _ ⟨upd y 11 (.slice (some ⟨Wx.heap.size, 0, none⟩) 1 1), by kernel_rfl, HQ.out.build1 trivial hst rfl (by decide) (by decide) (by decide) (by decide)⟩
    · have hst : d 14 = false := HCL.out.no (i := 12) (j := 14) rfl HS.out (by kernel_rfl)
      have t9 : d 9 = true := HD.out ⟨9, .data⟩ (by simp) rfl
      have t11 : d 11 = true := HD.out ⟨11, .data⟩ (by simp) rfl
      have tb : d 3 = true := HCL.out 9 _ rfl t9 ⟨3, .data⟩ (by simp) rfl
      obtain ⟨fr, hD, hf⟩ := HQ.out.acc2 t9 HS.out hst
      obtain ⟨g9, hg9, hm9⟩ := hf trivial t11
      obtain ⟨u7, W7, hr7, hD7⟩ := hD.one 30 hm9 rfl (by have := HLL.out; simp; omega)
      refine op_wanted hoo (by kernel_rfl) fun K hK => ?_
      refine wpIn_app (.tmp 35) (.tmp 37) 30 rfl (u := y 9) (v := .slice (some ⟨g9, 0, none⟩) 1 1) rfl (by rw [← hg9]; rfl) hr7 ?_
      rw [show ints l ++ [Value.int .i64 n] = ints (l ++ [n]) by simp [ints]] at hD7
      exact hK _ _ ⟨upd y 12 u7, by kernel_rfl, HQ.out.put2 t9 tb hst rfl (by decide) (by decide) (fun _ => by decide) (by decide) hD7 hf⟩
    · have t1 : d 1 = true := HD.out ⟨1, .data⟩ (by simp) rfl
      have e1 : y 1 = .slice (some ⟨gU, 0, none⟩) mail.length kU := (HQ.out.val 1 rfl t1).trans vv1.out
      have t2 : d 2 = true := HD.out ⟨2, .data⟩ (by simp) rfl
      have e2 : y 2 = .int .i64 k := (HQ.out.val 2 rfl t2).trans vv2.out
      refine op_wanted hoo (by kernel_rfl) fun K hK => ?_
      clear hoo t1 t2
      refine wpIn_val (v := .pointer (some ⟨gU, k, none⟩)) (fun _ _ => trivial) (by go_simp) ?_
      exact hK _ _ ⟨upd y 13 (V 13), by rw [vv13.out]; kernel_rfl, HQ.out.pure rfl rfl rfl rfl (fun _ => rfl) rfl⟩
    · have t13 : d 13 = true := HD.out ⟨13, .data⟩ (by simp) rfl
      have t12 : d 12 = true := HD.out ⟨12, .data⟩ (by simp) rfl
      have e13 : y 13 = .pointer (some ⟨gU, k, none⟩) := (HQ.out.val 13 rfl t13).trans vv13.out
      have hlv := HQ.out.live HS.out
      have m0 := HUX.out _ hlv
      have g8 := HGF.out _ hlv
      clear hlv
      refine op_wanted hoo (by kernel_rfl) fun K hK => ?_
      obtain ⟨q9, k9, hq9⟩ := HQ.out.last t12 HS.out
      refine wpIn_skip (w' := Wx.setCell ⟨gU, k, none⟩ (.slice q9 ((l.length + 1)) k9)) (fun _ _ => trivial) (by rw [hq9]; go_simp) ?_
      rw [← hq9]
      exact hK _ _ ⟨y, by kernel_rfl, HQ.out.store t12 HS.out rfl (by decide) (by decide) (by decide) (fun _ => by decide)⟩
  case f0 =>
    rintro d act Wx ⟨y, rfl, hR⟩ hall
    obtain ⟨Wm, fr, hWx, hDA⟩ := hR.fin (hall 14 (by decide)) (hall 12 (by decide))
    have HB6 := Lib.hid ((HB5.out.step hDA.below).off gU k HGT.out (y 12))
    have HO6 : Hid (Wx.ownsRow W1.heap.size 30 1 (.slice (some ⟨gU, 0, none⟩) mail.length kU) mail.length (vs.set k (y 12))) := by
      show World.ownsRow _ _ _ _ _ _ _
      rw [hWx]
      exact own_put (own1_below HO5.out hDA.below) k _
    have HP6 : Hid (Wx.ownsRow W5.heap.size 3 1 (y 12) (l.length + 1) (ints (l ++ [n]))) := by
      show World.ownsRow _ _ _ _ _ _ _
      rw [hWx]
      exact own_other hDA.own ((hDA.below.block _ (blk_lt HU.out.2.1)).trans HU.out.2.1) (by decide) k _
    rw [← hWx] at HB6
    generalize y 12 = ynew at *
    clear hWx hDA hall hR HXB HX1 HUX HXS HGF HSR HR4 HB4 HB1 HD X0 X1
    obtain ⟨c0, c1, c2⟩ := HB6.out.facts
    obtain ⟨z0, z1, z2⟩ := HB6.out.zero
    have f0 := (HB6.out.frz 0).2
    have f1 := (HB6.out.frz 1).2
    have f2 := (HB6.out.frz 2).2
    go_wp2_with fail
    obtain ⟨W7, hW7⟩ : ∃ W7, W7 = (((Wx.setCell ⟨w.heap.size + 1, 0, none⟩ (.slice (some ⟨g0, 0, none⟩) most.length k0)).setCell ⟨w.heap.size + 1, 1, none⟩ (.slice (some ⟨gU, 0, none⟩) mail.length kU)).setCell ⟨w.heap.size + 1, 2, none⟩ (.slice q2 grp.length k2)) := ⟨_, rfl⟩
    rw [← hW7]
    obtain ⟨k1', d0, d1, d2, hk⟩ := HB6.out.fin hW7
    have K1 := Lib.hid k1'
    have HK := Lib.hid hk
    clear c0 c1 c2 z0 z1 z2 f0 f1 f2 k1' hW7 hk
    refine bodyPost_ret (v := .tuple #[.agg #[.slice (some ⟨g0, 0, none⟩) most.length k0, .slice (some ⟨gU, 0, none⟩) mail.length kU, .slice q2 grp.length k2], .int .i64 0]) (by simp [results, Try.results28, go_sem, d0, d1, d2]) rfl ⟨_, rfl, ⟨_, _, _, vs.set k ynew, rfl, ?_, ?_, ?_, ?_⟩, K1.out⟩
    · exact own1_below H0.out K1.out
    · rw [show (mail.set k (l ++ [n])).length = mail.length by simp]
      exact own_lower (own_keep HO6.out (fun g C f hg => HK.out g C 30 f (.inr rfl) hg)) (Nat.le_trans HBB.out HS1.out)
    · exact own1_below H2.out K1.out
    · intro i x l' hx hl'
      have hvl : vs.length = mail.length := by have := H1.out.1; omega
      have hk := (List.getElem?_eq_some_iff.1 HML.out).1
      by_cases hik : i = k
      · subst hik
        rw [List.getElem?_set_self (by omega)] at hx
        rw [List.getElem?_set_self hk] at hl'
        injection hx with hx
        injection hl' with hl'
        subst hx hl'
        rw [show (l ++ [n]).length = l.length + 1 by simp]
        exact own_lower (own_keep HP6.out (fun g C f hg => HK.out g C 3 f (.inl rfl) hg)) (Nat.le_trans HBB.out HB5.out.below.size)
      · rw [List.getElem?_set_ne (by omega)] at hx hl'
        exact own1_below (H3.out i x l' hx hl') K1.out
end Go.Proofs.Ytgbafpjeapkklaa.Mb
