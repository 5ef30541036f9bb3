/- Parts Uu, Uw of the proof. -/
import Derived.Deep.DeepCutAuto
import Derived.Deep.CutBlock
import Derived.Test.YtgbafpjeapkklaaG0
import Derived.Test.YtgbafpjeapkklaaG8
namespace Go.Proofs.Ytgbafpjeapkklaa.Mb
open Go.RowKit
set_option linter.unusedVariables false
set_option linter.unusedSimpArgs false
structure LI (w : World) (X G : Nat) (W : World) (k : Nat) (bv : Value) : Prop where
  ex : ∃ (most : List Nat) (mail : List (List Int)) (grp ps cs : List Nat) (v0 v1 v2 : Value), LR W w.heap.size X most mail grp v0 v1 v2 ∧ LP W w.heap.size G most mail grp ps cs ∧ W.ownsRow w.heap.size 75 1 bv ps.length (ps.map fun p => .pointer (some ⟨p, 0, none⟩)) ∧ ps.length ≤ k
  below : Below w.heap.size w W
theorem BR.parts {W : World} {B : Nat} {b : Value} {most : List Int} {mail : List (List Int)} {grp : List Int} (h : BR W B b most mail grp) : ∃ p0 n0 c0 p1 n1 c1 p2 n2 c2, b = .agg #[.slice p0 n0 c0, .slice p1 n1 c1, .slice p2 n2 c2] := by
  obtain ⟨v0, v1, v2, vs, rfl, h0, h1, h2, _⟩ := h
  obtain ⟨p0, c0, rfl⟩ := own1_slice h0
  obtain ⟨p1, c1, rfl⟩ := own1_slice h1
  obtain ⟨p2, c2, rfl⟩ := own1_slice h2
  exact ⟨_, _, _, _, _, _, _, _, _, rfl⟩
theorem LP.ll {W : World} {B G : Nat} {most : List Nat} {mail : List (List Int)} {grp ps cs : List Nat} (h : LP W B G most mail grp ps cs) (hn : ps.length ≤ 1000) : LL most mail grp := by
  obtain ⟨l1, l2, l3⟩ := h.len
  refine ⟨by omega, by omega, fun i m l hm hl => ?_, fun i hi => by have := h.lt i hi; omega, h.g64⟩
  have hi := (List.getElem?_eq_some_iff.1 hl).1
  obtain ⟨p, c, m', l', s, r, _, _, hm', hl', _, _, _, h1, h2⟩ := h.at (i := i) (by omega)
  rw [hm] at hm'
  rw [hl] at hl'
  injection hm' with hm'
  injection hl' with hl'
  subst hm' hl'
  exact ⟨h1, h2⟩
structure SX (w : World) (X G : Nat) (most ps cs : List Nat) (bv : Value) (q c : Nat) (W : World) : Prop where
  ex : ∃ (mail : List (List Int)) (grp : List Nat) (v0 v1 v2 : Value), LR W w.heap.size X most mail grp v0 v1 v2 ∧ LP W w.heap.size G most mail grp ps cs
  row : W.ownsRow w.heap.size 75 1 bv ps.length (ps.map fun p => .pointer (some ⟨p, 0, none⟩))
  below : Below w.heap.size w W
  box : W.heap[q]? = some (.cells #[.chan (some c)] 86 (0, 0))
structure CBX (W2 : World) (q c : Nat) (W : World) : Prop where
  box : W.heap[q]? = some (.cells #[.chan (some c)] 86 (0, 0))
  below : Below W2.heap.size W2 W
theorem BR.pk {W W' : World} {B B' : Nat} {b : Value} {most : List Int} {mail : List (List Int)} {grp : List Int} (h : BR W B b most mail grp) (hk : PK B' W W') : BR W' B b most mail grp :=
  h.kinds fun g C e f he hg => hk.cells g C e f (by rcases he with rfl | rfl <;> decide) (by rcases he with rfl | rfl <;> decide) hg
theorem row_pk {W W' : World} {B B' n : Nat} {v : Value} {xs : List Value} (h : W.ownsRow B 75 1 v n xs) (hk : PK B' W W') : W'.ownsRow B 75 1 v n xs := own_keep h fun g C f hg => (hk.cells g C 75 f (by decide) (by decide) hg).trans hg.symm
theorem row_off68 {W W' : World} {B n : Nat} {v : Value} {xs : List Value} (h : W.ownsRow B 75 1 v n xs) (hk : ∀ (g : Nat) (x : Obj), W.heap[g]? = some x → (∀ C f, x ≠ .cells C 68 f) → W'.heap[g]? = some x) : W'.ownsRow B 75 1 v n xs := own_keep h fun g C f hg => (hk g _ hg fun _ _ e => by injection e with _ e; cases e).trans hg.symm
structure CS2 (Pu : Nat → Bool) (V Y0 : Nat → Value) (wf : (Nat → Bool) → World) (d : Nat → Bool) (y : Nat → Value) (Wx : World) : Prop where
  val : ∀ i, Pu i = true → d i = true → y i = V i
  ini : ∀ i, Pu i = true → d i = false → y i = Y0 i
  mem : Wx = wf d
theorem CS2.put {Pu : Nat → Bool} {V Y0 : Nat → Value} {wf : (Nat → Bool) → World} {d : Nat → Bool} {y : Nat → Value} {Wx W' : World} (h : CS2 Pu V Y0 wf d y Wx) {i : Nat} (hi : Pu i = true) (hW : W' = wf (fun j => j == i || d j)) : CS2 Pu V Y0 wf (fun j => j == i || d j) (upd y i (V i)) W' := by
  refine ⟨fun j hj hd => ?_, fun j hj hd => ?_, hW⟩
  · by_cases hji : j = i
    · subst hji; exact upd_same _ _ _
    · rw [upd_other _ _ hji]
      rw [d_other hji] at hd
      exact h.val j hj hd
  · have hji : j ≠ i := fun e => by subst e; simp at hd
    rw [upd_other _ _ hji]
    rw [d_other hji] at hd
    exact h.ini j hj hd
theorem CS2.skip {Pu : Nat → Bool} {V Y0 : Nat → Value} {wf : (Nat → Bool) → World} {d : Nat → Bool} {y : Nat → Value} {Wx W' : World} (h : CS2 Pu V Y0 wf d y Wx) {i : Nat} (hi : Pu i = false) (hW : W' = wf (fun j => j == i || d j)) : CS2 Pu V Y0 wf (fun j => j == i || d j) y W' := by
  have ne : ∀ j, Pu j = true → j ≠ i := fun j hj e => by rw [e, hi] at hj; cases hj
  exact ⟨fun j hj hd => h.val j hj (by rwa [d_other (ne j hj)] at hd), fun j hj hd => h.ini j hj (by rwa [d_other (ne j hj)] at hd), hW⟩
theorem grown75 {W W' : World} {B n : Nat} {u : Value} {xs : List Value} (ho : W.ownsRow B 75 1 u n xs) (hg : W.drew.grownBy W' u.ownBlock) (hB : B ≤ W.heap.size) : Below B W W' ∧ ∀ (g : Nat) (x : Obj), W.heap[g]? = some x → (∀ C f, x ≠ .cells C 75 f) → W'.heap[g]? = some x := by
  have hd : Below W.heap.size W W.drew := (Below.refl _ _).drew
  refine ⟨(hd.mono hB).trans ⟨hg.os, hg.tape, hg.output, hg.size, fun k hk => hg.block k (Nat.lt_of_lt_of_le hk (Nat.le_trans hB hd.size)) fun e => ?_⟩, fun g x hx n1 => ?_⟩
  · rcases ho.2 with ⟨rfl, _⟩ | ⟨g', cap, cur, rfl, hb, _⟩
    · cases e
    · have e' : k = g' := by injection e
      omega
  · refine ((hg.block g (Nat.lt_of_lt_of_le (blk_lt hx) hd.size) fun e => ?_).trans (hd.block g (blk_lt hx))).trans hx
    rcases ho.2 with ⟨rfl, _⟩ | ⟨g', cap, cur, rfl, _, h3, _⟩
    · cases e
    · have e' : g = g' := by injection e
      subst e'
      rw [hx] at h3
      injection h3 with h3
      exact n1 _ _ h3
theorem LP.off75 {W W' : World} {B G : Nat} {most : List Nat} {mail : List (List Int)} {grp ps cs : List Nat} (h : LP W B G most mail grp ps cs) (hk : ∀ (g : Nat) (x : Obj), W.heap[g]? = some x → (∀ C f, x ≠ .cells C 75 f) → W'.heap[g]? = some x) : LP W' B G most mail grp ps cs :=
  h.kinds fun g x hg hx => hk g x hg fun C f e => by rcases hx C 75 f e with h | h | h <;> cases h
theorem LR.off75 {W W' : World} {B X : Nat} {most : List Nat} {mail : List (List Int)} {grp : List Nat} {v0 v1 v2 : Value} (h : LR W B X most mail grp v0 v1 v2) (hk : ∀ (g : Nat) (x : Obj), W.heap[g]? = some x → (∀ C f, x ≠ .cells C 75 f) → W'.heap[g]? = some x) : LR W' B X most mail grp v0 v1 v2 :=
  h.kinds fun g C e f he hg => hk g _ hg fun _ _ e' => by injection e' with _ e'; subst e'; rcases he with h | h | h <;> cases h
theorem BR.off75 {W W' : World} {B : Nat} {b : Value} {most : List Int} {mail : List (List Int)} {grp : List Int} (h : BR W B b most mail grp) (hk : ∀ (g : Nat) (x : Obj), W.heap[g]? = some x → (∀ C f, x ≠ .cells C 75 f) → W'.heap[g]? = some x) : BR W' B b most mail grp :=
  h.kinds fun g C e f he hg => hk g _ hg fun _ _ e' => by injection e' with _ e'; subst e'; rcases he with h | h <;> cases h
theorem BR.len_at {W : World} {B : Nat} {v0 v1 v2 : Value} {most : List Int} {mail : List (List Int)} {grp : List Int} (h : BR W B (.agg #[v0, v1, v2]) most mail grp) {i : Nat} (hi : i < mail.length) :
    ∃ g1 k1 q3 k3 lm, v1 = .slice (some ⟨g1, 0, none⟩) mail.length k1 ∧ (mail.getD i []).length = List.length (α := Int) lm ∧ W.cell? ⟨g1, i, none⟩ = some (.slice q3 lm.length k3) ∧ g1 < W.heap.size := by
  obtain ⟨a0, a1, a2, vs, e, h0, h1, h2, h3⟩ := h
  injection e with e
  simp only [Array.mk.injEq, List.cons.injEq, and_true] at e
  obtain ⟨rfl, rfl, rfl⟩ := e
  obtain ⟨g1, k1, hv, _, _, ⟨_, hg⟩, hx⟩ := own_at h1 (by omega)
  have hl : mail[i]? = some (mail[i]'hi) := by simp
  have hvl : vs.length = mail.length := by have := h1.1; omega
  have hvi : vs[i]? = some (vs[i]'(by omega)) := by simp
  obtain ⟨q3, k3, hs⟩ := own1_slice (h3 i _ _ hvi hl)
  exact ⟨g1, k1, q3, k3, mail[i]'hi, hv, by rw [getD_of hl], by rw [← hs]; exact hx i _ hvi, blk_lt hg⟩
theorem nats_more (l : List Nat) (n : Nat) : nats (l ++ [n]) = nats l ++ [(n : Int)] := by simp [nats]
theorem wrap_k {k : Nat} (h : k < 60) : wrap64 ((k : Int) + 1) = ((k + 1 : Nat) : Int) := by unfold wrap64; omega
theorem mod_k {n : Nat} {b : Int} (hn : ¬ n = 0) (hb : 0 ≤ b) : ∃ i : Nat, i < n ∧ b.tmod (n : Int) = (i : Int) := by
  refine ⟨b.toNat % n, Nat.mod_lt _ (by omega), ?_⟩
  rw [Int.tmod_eq_emod_of_nonneg hb]
  obtain ⟨m, rfl⟩ := Int.eq_ofNat_of_zero_le hb
  simp
theorem LI.start {w W : World} {X G : Nat} (hW : W = (w.alloc (Obj.cells #[.slice none 0 0, .slice none 0 0, .slice none 0 0] 68)).alloc (Obj.cells #[.slice none 0 0] 72)) (hX : X = w.heap.size) (hG : G = w.heap.size + 1) : LI w X G W 0 (.slice none 0 0) := by
  have ha : Below w.heap.size w (w.alloc (Obj.cells #[.slice none 0 0, .slice none 0 0, .slice none 0 0] 68)) := (Below.refl _ _).alloc (Nat.le_refl _) _
  have h1 := (MapKept.heap_alloc w (Obj.cells #[.slice none 0 0, .slice none 0 0, .slice none 0 0] 68)).1
  have h2 := (MapKept.heap_alloc (w.alloc (Obj.cells #[.slice none 0 0, .slice none 0 0, .slice none 0 0] 68)) (Obj.cells #[.slice none 0 0] 72)).1
  have hb : Below (w.alloc (Obj.cells #[.slice none 0 0, .slice none 0 0, .slice none 0 0] 68)).heap.size (w.alloc (Obj.cells #[.slice none 0 0, .slice none 0 0, .slice none 0 0] 68)) W := by rw [hW]; exact (Below.refl _ _).alloc (Nat.le_refl _) _
  rw [← hW] at h2
  have hX' : W.heap[X]? = some (.cells #[.slice none 0 0, .slice none 0 0, .slice none 0 0] 68 (0, 0)) := by rw [hX]; exact (hb.block _ (blk_lt h1)).trans h1
  have hG' : W.heap[G]? = some (.cells #[.slice none 0 0] 72 (0, 0)) := by rw [hG]; simpa using h2
  refine ⟨⟨[], [], [], [], [], _, _, _, ⟨hX', ⟨_, _, _, [], rfl, World.ownsRow_nil _ _ _ _, World.ownsRow_nil _ _ _ _, World.ownsRow_nil _ _ _ _, fun i x l hx => by simp at hx⟩, by omega⟩, ⟨fun i p hp => by simp at hp, fun i c hc => by simp at hc, List.nodup_nil, ⟨rfl, rfl, rfl⟩, ⟨_, hG', World.ownsRow_nil _ _ _ _⟩, fun i hi => by simp at hi, by simp, by omega⟩, World.ownsRow_nil _ _ _ _, Nat.le_refl _⟩, ha.trans (hb.mono ha.size)⟩
set_option maxRecDepth 100000 in
set_option maxHeartbeats 8000000 in
theorem groups_long (v : Value) (w : World) {A : Option Addr} {l : List OpG} {cap : Nat} (hv : v = .slice A l.length cap) (hl : 60 < l.length) : Calls Try.prog 7 #[v] w fun e w' => e = .returned (.bool true) ∧ Below w.heap.size w w' := by
  subst hv
  have tl : decide (60 < (l.length : Int)) = true := decide_eq_true (by omega)
  go_enter Try.func7, Try.ntmps7
  go_wp2_with fail
  refine (awake_at w).mono ?_
  rintro e W9 ⟨rfl, hb9⟩
  have HB9 := Lib.hid hb9
  clear hb9
  go_wp2_with fail
  go_ret
  exact ⟨rfl, HB9.out⟩
set_option maxRecDepth 100000 in
set_option maxHeartbeats 8000000 in
theorem groups_walk (v : Value) (w : World) {A : Option Addr} {l : List OpG} {cap : Nat} (hv : v = .slice A l.length cap) (ho : OpT w A l) (hl : l.length ≤ 60) : Calls Try.prog 7 #[v] w fun e w' => e = .returned (.bool true) ∧ Below w.heap.size w w' := by
  subst hv
  have tl : decide (60 < (l.length : Int)) = false := decide_eq_false (by omega)
  have HO := Lib.hid ho
  have HL := Lib.hid hl
  clear ho hl
  go_enter Try.func7, Try.ntmps7
  go_upto_region 7 with fail
  obtain ⟨W1, hW1⟩ : ∃ W1, W1 = (w.alloc (Obj.cells #[.slice none 0 0, .slice none 0 0, .slice none 0 0] 68)).alloc (Obj.cells #[.slice none 0 0] 72) := ⟨_, rfl⟩
  rw [← hW1]
  obtain ⟨X, hX⟩ : ∃ X, X = w.heap.size := ⟨_, rfl⟩
  obtain ⟨G, hG⟩ : ∃ G, G = w.heap.size + 1 := ⟨_, rfl⟩
  have HI : Hid (LI w X G W1 0 (.slice none 0 0)) := LI.start hW1 hX hG
  rw [← hG, ← hX]
  clear hW1 hX hG tl
  go_loopw [3, 48] (fun s3 s48 wr => ∃ k : Nat, k ≤ l.length ∧ s48 = .int .i64 k ∧ LI w X G wr k s3) (fun _ s48 _ => l.length - (intOf s48).toNat)
  case atStart => exact ⟨0, by omega, rfl, HI.out⟩
  case round =>
    clear HI
    obtain ⟨k, hk, rfl, hi⟩ := hrel
    have HI := Lib.hid hi
    clear hi
    by_cases hlt : k < l.length
    · have tl : decide ((k : Int) < (l.length : Int)) = true := decide_eq_true (by omega)
      have tl' : (k : Int) < (l.length : Int) := by omega
      obtain ⟨o, hok⟩ : ∃ o, l[k]? = some o := ⟨l[k]'hlt, by simp⟩
      obtain ⟨g, off, rfl, hgl, a0, a1, a2, a3⟩ := HO.out.at' k o hok
      have HRG := Lib.hid (HO.out.rng k o hok)
      obtain ⟨kd, bx, v, cp⟩ := o
      simp only at a0 a1 a2 a3
      have hbl := HI.out.below
      have c0 : wr.cell? ⟨g, off + k * 4, none⟩ = some (.int .u8 kd) := (hbl.cell (p := ⟨g, off + k * 4, none⟩) hgl).trans a0
      have c1 : wr.cell? ⟨g, off + k * 4 + 1, none⟩ = some (.int .u8 bx) := (hbl.cell (p := ⟨g, off + k * 4 + 1, none⟩) hgl).trans a1
      have c2 : wr.cell? ⟨g, off + k * 4 + 2, none⟩ = some (.int .i16 v) := (hbl.cell (p := ⟨g, off + k * 4 + 2, none⟩) hgl).trans a2
      have c3 : wr.cell? ⟨g, off + k * 4 + 3, none⟩ = some (.bool cp) := (hbl.cell (p := ⟨g, off + k * 4 + 3, none⟩) hgl).trans a3
      clear a0 a1 a2 a3 hgl hok hbl
      go_upto_region 9 with fail
      obtain ⟨W2, hW2⟩ : ∃ W2, W2 = wr.alloc (Obj.cells #[.int .u8 kd, .int .u8 bx, .int .i16 v, .bool cp] 74) := ⟨_, rfl⟩
      rw [← hW2]
      have HO2 : Hid (W2.heap[wr.heap.size]? = some (.cells #[.int .u8 kd, .int .u8 bx, .int .i16 v, .bool cp] 74 (0, 0))) := by show _ = _; rw [hW2]; exact (MapKept.heap_alloc wr _).1
      have HB2 : Hid (Below wr.heap.size wr W2) := by show Below _ _ _; rw [hW2]; exact (Below.refl _ _).alloc (Nat.le_refl _) _
      obtain ⟨most, mail, grp, ps, cs, v0, v1, v2, hR, hP, hrow, hpk⟩ := HI.out.ex
      have HR := Lib.hid (hR.below HB2.out)
      have HP := Lib.hid (hP.below HB2.out)
      have HROW := Lib.hid (own1_below hrow HB2.out)
      have HBW : Hid (Below w.heap.size w W2) := HI.out.below.trans (HB2.out.mono HI.out.below.size)
      have HLL : Hid (LL most mail grp) := hP.ll (by have := HL.out; omega)
      have HPK := Lib.hid hpk
      clear hW2 c0 c1 c2 c3 tl tl' hR hP hrow hpk HB2 HI
      generalize wr.heap.size = O at *
      have d0 := cell_blk HO2.out 0
      have d1 := cell_blk HO2.out 1
      have d2 := cell_blk HO2.out 2
      have d3 := cell_blk HO2.out 3
      have hq6 : kd.tmod 6 = 0 ∨ kd.tmod 6 = 5 ∨ (kd.tmod 6 = 1 ∨ kd.tmod 6 = 2 ∨ kd.tmod 6 = 3 ∨ kd.tmod 6 = 4) := by have := HRG.out.1; rw [Int.tmod_eq_emod_of_nonneg (by omega)]; omega
      rcases hq6 with hq | hq | hq
      · have hvr : -32768 ≤ v ∧ v ≤ 32767 := HRG.out.2.2
        have wv : IntKind.i64.wrap v = v := by rw [IntKind.wrap_i64]; omega
        by_cases hv : v < 1 ∨ 1000 < v
        · have HV := Lib.hid hv
          clear hv hvr
          go_wp2_with fail
          refine (newB_no W2 HV.out).mono ?_
          rintro e w' ⟨rfl, hw⟩
          rw [hw]
          clear hw w'
          have x0 := cell_blk HR.out.var 0
          have x1 := cell_blk HR.out.var 1
          have x2 := cell_blk HR.out.var 2
          go_wp2_with fail
          refine (rnew_no W2 HR.out.br HV.out).mono ?_
          rintro e W4 ⟨rfl, hb4⟩
          obtain ⟨p0, n0, e0, p1, n1, e1, p2, n2, e2, hb'⟩ := HR.out.br.parts
          have HR4 := Lib.hid (HR.out.below hb4)
          have HP4 := Lib.hid (HP.out.below hb4)
          have HROW4 := Lib.hid (own1_below HROW.out hb4)
          have HBW4 : Hid (Below w.heap.size w W4) := HBW.out.trans (hb4.mono HBW.out.size)
          injection hb' with hb'
          simp only [Array.mk.injEq, List.cons.injEq, and_true] at hb'
          obtain ⟨rfl, rfl, rfl⟩ := hb'
          clear x0 x1 x2 d0 d1 d2 d3 hb4 HR HP HROW HBW
          have HN : Hid (Below W4.heap.size W4 (W4.alloc (Obj.cells #[.slice p0 n0 e0, .slice p1 n1 e1, .slice p2 n2 e2] 68))) := (Below.refl _ _).alloc (Nat.le_refl _) _
          have HN2 : Hid (LI w X G (W4.alloc (Obj.cells #[.slice p0 n0 e0, .slice p1 n1 e1, .slice p2 n2 e2] 68)) (k + 1) u3) := ⟨⟨_, _, _, _, _, _, _, _, HR4.out.below HN.out, HP4.out.below HN.out, own1_below HROW4.out HN.out, Nat.le_succ_of_le HPK.out⟩, HBW4.out.trans (HN.out.mono HBW4.out.size)⟩
          go_wp2_with fail
          have ew : wrap64 ((k : Int) + 1) = ((k + 1 : Nat) : Int) := wrap_k (Nat.lt_of_lt_of_le hlt HL.out)
          rw [ew]
          go_roundw
          case rel => exact ⟨k + 1, hlt, rfl, HN2.out⟩
          case measure => exact meas_lt k l.length hlt
        · as_aux_lemma =>
            obtain ⟨N, hN⟩ : ∃ N : Nat, v = (N : Int) := ⟨v.toNat, by omega⟩
            subst hN
            have h1 : 1 ≤ N := by omega
            have h2 : N ≤ 1000 := by omega
            clear hv hvr
            go_wp2_with fail
            refine (newB_yes W2 h1 h2).mono ?_
            rintro e W3 ⟨rfl, hw3⟩
            have hP3 := HP.out.more HBW.out.size HP.out.cs_lt h2 hw3
            have hb3 : Below W2.heap.size W2 W3 := by rw [hw3]; exact ((Below.refl _ _).alloc (Nat.le_refl _) _).alloc ((Below.refl _ _).alloc (Nat.le_refl _) _).size _
            have HR3 := Lib.hid (HR.out.below hb3)
            have HP3 := Lib.hid hP3
            have HROW3 := Lib.hid (own1_below HROW.out hb3)
            have HBW3 : Hid (Below w.heap.size w W3) := HBW.out.trans (hb3.mono HBW.out.size)
            have HH1 := Lib.hid h1
            have HH2 := Lib.hid h2
            have d2' : W3.cell? ⟨O, 2, none⟩ = some (.int .i16 (N : Int)) := cell_blk ((hb3.block _ (blk_lt HO2.out)).trans HO2.out) 2
            generalize W2.heap.size = C at *
            clear d0 d1 d2 d3 hw3 hb3 hP3 HR HP HROW HBW h1 h2 HO2
            have x0 := cell_blk HR3.out.var 0
            have x1 := cell_blk HR3.out.var 1
            have x2 := cell_blk HR3.out.var 2
            go_wp2_with fail
            refine (rnew_yes W3 HR3.out.br HBW3.out.size (by rw [nats_len, HLL.out.len]; exact HLL.out.few) HLL.out.few (by have := HH1.out; omega) (by have := HH2.out; omega)).mono ?_
            rintro e W4 ⟨b', rfl, hbr, hb4⟩
            obtain ⟨p0, n0, e0, p1, n1, e1, p2, n2, e2, hb'⟩ := hbr.parts
            subst hb'
            have HR4 := Lib.hid (HR3.out.below hb4)
            have HP4 := Lib.hid (HP3.out.below hb4)
            have HROW4 := Lib.hid (own1_below HROW3.out hb4)
            have HBR4 := Lib.hid hbr
            have HBW4 : Hid (Below w.heap.size w W4) := HBW3.out.trans (hb4.mono HBW3.out.size)
            clear x0 x1 x2 d2' hbr hb4 HR3 HP3 HROW3 HBW3
            obtain ⟨W5, hW5⟩ : ∃ W5, W5 = W4.alloc (Obj.cells #[.slice p0 n0 e0, .slice p1 n1 e1, .slice p2 n2 e2] 68) := ⟨_, rfl⟩
            have hb5 : Below W4.heap.size W4 W5 := by rw [hW5]; exact (Below.refl _ _).alloc (Nat.le_refl _) _
            have hv5 : W5.heap[W4.heap.size]? = some (.cells #[.slice p0 n0 e0, .slice p1 n1 e1, .slice p2 n2 e2] 68 (0, 0)) := by rw [hW5]; exact (MapKept.heap_alloc W4 _).1
            have HR5 := Lib.hid (HR4.out.below hb5)
            have HP5 := Lib.hid (HP4.out.below hb5)
            have HROW5 := Lib.hid (own1_below HROW4.out hb5)
            have HBR5 := Lib.hid (BR.below HBR4.out hb5)
            have HBW5 : Hid (Below w.heap.size w W5) := HBW4.out.trans (hb5.mono HBW4.out.size)
            have HV5 := Lib.hid hv5
            go_upto_region 15 with fail
            rw [← hW5]
            clear hW5 hb5 hv5 HR4 HP4 HROW4 HBR4 HBW4
            generalize W4.heap.size = P at *
            have hd : Below W5.heap.size W5 W5.drew := (Below.refl _ _).drew
            obtain ⟨u8, W8, hr8, ho8, hg8, p8, e8, hs8⟩ := more_row rk65 W5.drew 65 (.pointer (some ⟨C + 1, 0, none⟩)) (own1_below HROW5.out hd) rfl (by have := HPK.out; have := HL.out; omega) HBW5.out.size
            subst hs8
            have HK8 := Lib.hid (grown75 HROW5.out hg8 HBW5.out.size)
            have HA8 := Lib.hid hr8
            have HR8 := Lib.hid (HR5.out.off75 HK8.out.2)
            have HP8 := Lib.hid (HP5.out.off75 HK8.out.2)
            have HBR8 := Lib.hid (HBR5.out.off75 HK8.out.2)
            have HBW8 : Hid (Below w.heap.size w W8) := HBW5.out.trans HK8.out.1
            have HO8 := Lib.hid ho8
            have HPB : Hid (∀ W, (W = W8 ∨ W = (W5.drew.alloc (Obj.cells #[.pointer (some ⟨C + 1, 0, none⟩)] 75)) ∨ W = W5.drew) → W.heap[P]? = some (.cells #[.slice p0 n0 e0, .slice p1 n1 e1, .slice p2 n2 e2] 68 (0, 0))) := by
              rintro W (rfl | rfl | rfl)
              · exact HK8.out.2 _ _ HV5.out fun _ _ e => by injection e with _ e; cases e
              · exact ((hd.alloc (Nat.le_refl _) _).block _ (blk_lt HV5.out)).trans HV5.out
              · exact (hd.block _ (blk_lt HV5.out)).trans HV5.out
            clear hd hr8 ho8 hg8 HR5 HP5 HROW5 HBR5 HBW5
            obtain ⟨V, hV⟩ : ∃ V : Nat → Value, V = fun vv => ([u3, .pointer (some ⟨C + 1, 0, none⟩), .slice (some ⟨W5.heap.size, 0, none⟩) 1 1, .slice p8 (ps.length + 1) e8, .agg #[.slice p0 n0 e0, .slice p1 n1 e1, .slice p2 n2 e2], .slice p8 (ps.length + 1) e8, undef] : List Value).getD vv undef := ⟨_, rfl⟩
            have vv0 : Hid (V 0 = u3) := Lib.hid (by rw [hV]; rfl)
            have vv1 : Hid (V 1 = .pointer (some ⟨C + 1, 0, none⟩)) := Lib.hid (by rw [hV]; rfl)
            have vv2 : Hid (V 2 = .slice (some ⟨W5.heap.size, 0, none⟩) 1 1) := Lib.hid (by rw [hV]; rfl)
            have vv3 : Hid (V 3 = .slice p8 (ps.length + 1) e8) := Lib.hid (by rw [hV]; rfl)
            have vv4 : Hid (V 4 = .agg #[.slice p0 n0 e0, .slice p1 n1 e1, .slice p2 n2 e2]) := Lib.hid (by rw [hV]; rfl)
            have vv5 : Hid (V 5 = .slice p8 (ps.length + 1) e8) := Lib.hid (by rw [hV]; rfl)
            clear hV
            refine (wpIn_wide (n := 20)).1 ?_
            refine wpIn_region_cl2 (by kernel_rfl) (back_of2 (by kernel_rfl)) (fun d act Wn => ∃ y : Nat → Value, act = { tmps := #[.slice (some ⟨g, off, none⟩) l.length cap, undef, u2, y 5, .pointer (some ⟨X, 0, none⟩), .pointer (some ⟨G, 0, none⟩), undef, .pointer (some ⟨O, 0, none⟩), .pointer (some ⟨C + 1, 0, none⟩), .int .i64 0, .pointer (some ⟨P, 0, none⟩), .int .i64 0, u12, u13, u14, u15, u16, u17, u18, u19, u20, u21, u22, u23, u24, u25, u26, u27, u28, u29, u30, u31, u32, undef, undef, undef, undef, undef, undef, undef, .slice (some ⟨g, off, none⟩) l.length cap, .int .i64 l.length, .bool false, undef, .agg #[.slice none 0 0], .pointer (some ⟨G, 0, none⟩), .slice (some ⟨g, off, none⟩) l.length cap, .int .i64 l.length, .int .i64 k, .bool true, .pointer (some ⟨g, off + k * 4, none⟩), .agg #[.int .u8 kd, .int .u8 bx, .int .i16 N, .bool cp], .pointer (some ⟨O, 0, none⟩), .int .u8 kd, .int .u8 0, .bool true, .tuple #[.pointer (some ⟨C + 1, 0, none⟩), .int .i64 0], .pointer (some ⟨O, 2, none⟩), .int .i16 N, .int .i64 N, .tuple #[.pointer (some ⟨C + 1, 0, none⟩), .int .i64 0], .pointer (some ⟨C + 1, 0, none⟩), .int .i64 0, .tuple #[.agg #[.slice p0 n0 e0, .slice p1 n1 e1, .slice p2 n2 e2], .int .i64 0], .agg #[v0, v1, v2], .pointer (some ⟨O, 2, none⟩), .int .i16 N, .int .i64 N, .tuple #[.agg #[.slice p0 n0 e0, .slice p1 n1 e1, .slice p2 n2 e2], .int .i64 0], .agg #[.slice p0 n0 e0, .slice p1 n1 e1, .slice p2 n2 e2], .int .i64 0, .int .i64 0, .int .i64 0, .bool false, .bool false, .int .i64 0, .bool true, .bool true, .pointer (some ⟨C + 1, 0, none⟩), .bool false, .bool false, .bool false, .int .i64 0, .bool true, y 0, y 1, y 2, y 3, y 4, u89, u90, u91, u92, u93, u94, u95, u96, u97, u98, u99, u100, u101, u102, u103, u104, u105, u106, u107, u108, u109, u110, u111, u112, u113, u114, u115, u116, u117, u118, u119, u120, u121, u122, u123, u124, u125, u126, u127, u128, u129, u130, u131, u132, u133, u134, u135, u136, u137, u138, u139, u140, u141, u142, u143, u144, u145, u146, u147, u148, u149, u150, u151, u152, u153, u154, u155, u156, u157, u158, u159, u160, u161, u162, u163, u164, u165, u166, u167, u168, u169, u170, u171, u172, u173, u174, u175, u176, u177, u178, u179, u180, u181, u182, u183, u184, u185, u186, u187, u188, u189, u190, u191, u192, u193, u194, u195, u196, u197, u198, u199, u200, u201, u202, u203, u204, u205, u206, u207, u208, u209, u210, u211, u212, u213, u214, u215, u216, u217, u218, u219, u220, u221, u222, u223, u224, u225, u226, u227, undef, undef, undef, undef, undef, undef, undef, undef, undef, undef, undef, undef, undef, undef, undef, undef, undef, undef, undef, undef, undef, undef, undef, undef, undef, undef, undef, undef, undef, undef, undef, undef, undef, undef, undef, undef, undef, undef, undef, undef, undef, undef, undef, undef, undef, undef, undef, undef, undef, undef, undef, undef, undef, undef, undef, undef, undef, undef, undef, undef, undef, undef, undef, undef, undef, undef, undef], defers := [] } ∧ CS2 (fun i => [0, 1, 2, 3, 4, 5].contains i) V (upd (upd (upd (upd (upd (upd (fun _ => undef) 0 (u84)) 1 (u85)) 2 (u86)) 3 (u87)) 4 (u88)) 5 (u3)) (fun d => if d 6 = true then (((W8.setCell ⟨X, 0, none⟩ (.slice p0 n0 e0)).setCell ⟨X, 1, none⟩ (.slice p1 n1 e1)).setCell ⟨X, 2, none⟩ (.slice p2 n2 e2)) else if d 3 = true then W8 else if d 2 = true then (W5.drew.alloc (Obj.cells #[.pointer (some ⟨C + 1, 0, none⟩)] 75)) else W5.drew) d y Wn) ?r15 ?s15 ?f15
            case r15 => exact fun d hd => ⟨(upd (upd (upd (upd (upd (upd (fun _ => undef) 0 (u84)) 1 (u85)) 2 (u86)) 3 (u87)) 4 (u88)) 5 (u3)), rfl, ⟨fun i hi h => (by have hh := hd i (by simp at hi; show i < 7; omega); rw [hh] at h; cases h), fun _ _ _ => rfl, by simp only [hd 2 (by decide), hd 3 (by decide), hd 6 (by decide), Bool.false_eq_true, if_false]; try rfl⟩⟩
            case s15 =>
              rintro ix oi hop d act Wx ⟨y, rfl, hR⟩ hSi hdep hcl
              have hix : ix < 7 := (Array.getElem?_eq_some_iff.1 hop).1
              have HQ := Lib.hid hR
              have HD := Lib.hid hdep
              have HS := Lib.hid hSi
              have HCL := Lib.hid hcl
              clear hR hdep hSi hcl
              obtain rfl | rfl | rfl | rfl | rfl | rfl | rfl : ix = 0 ∨ ix = 1 ∨ ix = 2 ∨ ix = 3 ∨ ix = 4 ∨ ix = 5 ∨ ix = 6 := by omega
              all_goals (have hoo := hop; obtain rfl := Option.some.inj hop)
              · have h5 : d 5 = false := (HCL.out.no (i := 0) (j := 5) rfl HS.out (by kernel_rfl))
                have q5 : y 5 = u3 := (HQ.out.ini 5 rfl h5).trans rfl
                refine op_wanted hoo (by kernel_rfl) fun K hK => ?_
                refine wpIn_val (v := u3) (fun _ _ => trivial) (by go_simp) ?_
                exact hK _ _ ⟨upd y 0 (V 0), by rw [vv0.out]; kernel_rfl, HQ.out.put rfl (HQ.out.mem.trans (by simp))⟩
              · refine op_wanted hoo (by kernel_rfl) fun K hK => ?_
                refine wpIn_val (v := .pointer (some ⟨C + 1, 0, none⟩)) (fun _ _ => trivial) (by go_simp) ?_
                exact hK _ _ ⟨upd y 1 (V 1), by rw [vv1.out]; kernel_rfl, HQ.out.put rfl (HQ.out.mem.trans (by simp))⟩
              · have t1 : d 1 = true := HD.out ⟨1, .data⟩ (by simp) rfl
                have q1 : y 1 = .pointer (some ⟨C + 1, 0, none⟩) := (HQ.out.val 1 rfl t1).trans vv1.out
                have h3 : d 3 = false := (HCL.out.no (i := 2) (j := 3) rfl HS.out (by kernel_rfl))
                have h6 : d 6 = false := (HCL.out.no (i := 2) (j := 6) rfl HS.out (by kernel_rfl))
                have hw : Wx = W5.drew := HQ.out.mem.trans (by simp [h3, h6, HS.out])
                have HW := Lib.hid hw
                rw [hw] at HQ ⊢
                clear hw HW
                refine op_wanted hoo (by kernel_rfl) fun K hK => ?_
                refine wpIn_new (v := .slice (some ⟨W5.heap.size, 0, none⟩) 1 1) (w' := (W5.drew.alloc (Obj.cells #[.pointer (some ⟨C + 1, 0, none⟩)] 75))) (fun _ _ => trivial) (by go_simp) ?_
                exact hK _ _ ⟨upd y 2 (V 2), by rw [vv2.out]; kernel_rfl, HQ.out.put rfl (by simp [h3, h6])⟩
              · have t0 : d 0 = true := HD.out ⟨0, .data⟩ (by simp) rfl
                have q0 : y 0 = u3 := (HQ.out.val 0 rfl t0).trans vv0.out
                have t2 : d 2 = true := HD.out ⟨2, .data⟩ (by simp) rfl
                have q2 : y 2 = .slice (some ⟨W5.heap.size, 0, none⟩) 1 1 := (HQ.out.val 2 rfl t2).trans vv2.out
                have h6 : d 6 = false := (HCL.out.no (i := 3) (j := 6) rfl HS.out (by kernel_rfl))
                have hw : Wx = (W5.drew.alloc (Obj.cells #[.pointer (some ⟨C + 1, 0, none⟩)] 75)) := HQ.out.mem.trans (by simp [h6, HS.out, t2])
                have HW := Lib.hid hw
                rw [hw] at HQ ⊢
                clear hw HW
                refine op_wanted hoo (by kernel_rfl) fun K hK => ?_
                refine wpIn_app (.tmp 84) (.tmp 86) 65 rfl (u := u3) (v := .slice (some ⟨W5.heap.size, 0, none⟩) 1 1) (by rw [← q0]; rfl) (by rw [← q2]; rfl) HA8.out ?_
                exact hK _ _ ⟨upd y 3 (V 3), by rw [vv3.out]; kernel_rfl, HQ.out.put rfl (by simp [h6])⟩
              · have h6 : d 6 = false := (HCL.out.no (i := 4) (j := 6) rfl HS.out (by kernel_rfl))
                have hm := HQ.out.mem
                simp only [h6, Bool.false_eq_true, if_false] at hm
                have hb : Wx.heap[P]? = some (.cells #[.slice p0 n0 e0, .slice p1 n1 e1, .slice p2 n2 e2] 68 (0, 0)) := HPB.out _ (by rw [hm]; split; exact .inl rfl; split; exact .inr (.inl rfl); exact .inr (.inr rfl))
                have z0 := cell_blk hb 0
                have z1 := cell_blk hb 1
                have z2 := cell_blk hb 2
                clear hm hb
                refine op_wanted hoo (by kernel_rfl) fun K hK => ?_
                refine wpIn_val (v := .agg #[.slice p0 n0 e0, .slice p1 n1 e1, .slice p2 n2 e2]) (fun _ _ => trivial) (by go_simp) ?_
                exact hK _ _ ⟨upd y 4 (V 4), by rw [vv4.out]; kernel_rfl, HQ.out.put rfl (HQ.out.mem.trans (by simp))⟩
              · have t3 : d 3 = true := HD.out ⟨3, .data⟩ (by simp) rfl
                have q3 : y 3 = .slice p8 (ps.length + 1) e8 := (HQ.out.val 3 rfl t3).trans vv3.out
                refine op_wanted hoo (by kernel_rfl) fun K hK => ?_
                refine wpIn_val (v := .slice p8 (ps.length + 1) e8) (fun _ _ => trivial) (by go_simp) ?_
                exact hK _ _ ⟨upd y 5 (V 5), by rw [vv5.out]; kernel_rfl, HQ.out.put rfl (HQ.out.mem.trans (by simp))⟩
              · have t4 : d 4 = true := HD.out ⟨4, .data⟩ (by simp) rfl
                have q4 : y 4 = .agg #[.slice p0 n0 e0, .slice p1 n1 e1, .slice p2 n2 e2] := (HQ.out.val 4 rfl t4).trans vv4.out
                have t3 : d 3 = true := HD.out ⟨3, .phase⟩ (by simp) rfl
                have hw : Wx = W8 := HQ.out.mem.trans (by simp [HS.out, t3])
                have HW := Lib.hid hw
                rw [hw] at HQ ⊢
                clear hw HW
                have z0 := cell_blk HR8.out.var 0
                have z1 := cell_blk HR8.out.var 1
                have z2 := cell_blk HR8.out.var 2
                have f0 : W8.frozen? ⟨X, 0, none⟩ = false := frozen_blk HR8.out.var 0
                have f1 : W8.frozen? ⟨X, 1, none⟩ = false := frozen_blk HR8.out.var 1
                have f2 : W8.frozen? ⟨X, 2, none⟩ = false := frozen_blk HR8.out.var 2
                refine op_wanted hoo (by kernel_rfl) fun K hK => ?_
                refine wpIn_skip (w' := (((W8.setCell ⟨X, 0, none⟩ (.slice p0 n0 e0)).setCell ⟨X, 1, none⟩ (.slice p1 n1 e1)).setCell ⟨X, 2, none⟩ (.slice p2 n2 e2))) (fun _ _ => trivial) (by go_simp; try exact rfl) ?_
                exact hK _ _ ⟨y, by kernel_rfl, HQ.out.skip rfl (by simp)⟩
            case f15 =>
              rintro d act Wx ⟨y, rfl, hR⟩ hall
              obtain rfl : Wx = (((W8.setCell ⟨X, 0, none⟩ (.slice p0 n0 e0)).setCell ⟨X, 1, none⟩ (.slice p1 n1 e1)).setCell ⟨X, 2, none⟩ (.slice p2 n2 e2)) := hR.mem.trans (by simp [hall 6 (by decide)])
              have q0 : y 0 = u3 := (hR.val 0 rfl (hall 0 (by decide))).trans vv0.out
              have q1 : y 1 = .pointer (some ⟨C + 1, 0, none⟩) := (hR.val 1 rfl (hall 1 (by decide))).trans vv1.out
              have q2 : y 2 = .slice (some ⟨W5.heap.size, 0, none⟩) 1 1 := (hR.val 2 rfl (hall 2 (by decide))).trans vv2.out
              have q3 : y 3 = .slice p8 (ps.length + 1) e8 := (hR.val 3 rfl (hall 3 (by decide))).trans vv3.out
              have q4 : y 4 = .agg #[.slice p0 n0 e0, .slice p1 n1 e1, .slice p2 n2 e2] := (hR.val 4 rfl (hall 4 (by decide))).trans vv4.out
              have q5 : y 5 = .slice p8 (ps.length + 1) e8 := (hR.val 5 rfl (hall 5 (by decide))).trans vv5.out
              rw [q5]
              clear q0 q1 q2 q3 q4 q5 hR hall
              obtain ⟨W9, hW9⟩ : ∃ W9, W9 = (((W8.setCell ⟨X, 0, none⟩ (.slice p0 n0 e0)).setCell ⟨X, 1, none⟩ (.slice p1 n1 e1)).setCell ⟨X, 2, none⟩ (.slice p2 n2 e2)) := ⟨_, rfl⟩
              rw [← hW9]
              have HST := HR8.out.store (most' := most ++ [N]) (mail' := mail ++ [[]]) (grp' := grp) (by rw [nats_more]; exact HBR8.out) hW9
              have HN : Hid (LI w X G W9 (k + 1) (.slice p8 (ps.length + 1) e8)) := by
                refine ⟨⟨_, _, _, ps ++ [C + 1], _, _, _, _, HST.1, HP8.out.off68 HST.2.2, ?_, ?_⟩, HBW8.out.trans HST.2.1⟩
                · rw [List.length_append, List.map_append]
                  exact row_off68 HO8.out HST.2.2
                · rw [List.length_append]
                  exact Nat.succ_le_succ HPK.out
              clear hW9 HST
              go_wp2_with fail
              have ew : wrap64 ((k : Int) + 1) = ((k + 1 : Nat) : Int) := wrap_k (Nat.lt_of_lt_of_le hlt HL.out)
              rw [ew]
              go_roundw
              case rel => exact ⟨k + 1, hlt, rfl, HN.out⟩
              case measure => exact meas_lt k l.length hlt
      · as_aux_lemma =>
          go_wp2_with fail
          refine (gnext HP.out).mono ?_
          rintro e W3 ⟨rfl, hk3, hp3⟩
          have HR3 := Lib.hid (HR.out.pk hk3)
          have HP3 := Lib.hid hp3
          have HROW3 : Hid (W3.ownsRow w.heap.size 75 1 u3 ps.length (ps.map fun p => .pointer (some ⟨p, 0, none⟩))) := own_keep HROW.out fun g C f hg => (hk3.cells g C 75 f (by decide) (by decide) hg).trans hg.symm
          have HBW3 : Hid (Below w.heap.size w W3) := HBW.out.trans hk3.below
          clear d0 d1 d2 d3 hk3 hp3 HR HP HROW HBW HO2
          have x0 := cell_blk HR3.out.var 0
          have x1 := cell_blk HR3.out.var 1
          have x2 := cell_blk HR3.out.var 2
          go_wp2_with fail
          refine (rnext HLL.out HR3.out.br HBW3.out.size).mono ?_
          rintro e W4 ⟨b', rfl, hbr, hb4⟩
          obtain ⟨p0, n0, e0, p1, n1, e1, p2, n2, e2, hb'⟩ := hbr.parts
          subst hb'
          have HR4 := Lib.hid (HR3.out.below hb4)
          have HP4 := Lib.hid (HP3.out.below hb4)
          have HROW4 := Lib.hid (own1_below HROW3.out hb4)
          have HBR4 := Lib.hid hbr
          have HBW4 : Hid (Below w.heap.size w W4) := HBW3.out.trans (hb4.mono HBW3.out.size)
          clear x0 x1 x2 hbr hb4 HR3 HP3 HROW3 HBW3
          generalize nextS mail grp = N at *
          obtain ⟨m', g', a', b', c'⟩ := N
          simp only at *
          obtain ⟨W5, hW5⟩ : ∃ W5, W5 = W4.alloc (Obj.cells #[.slice p0 n0 e0, .slice p1 n1 e1, .slice p2 n2 e2] 68) := ⟨_, rfl⟩
          have hb5 : Below W4.heap.size W4 W5 := by rw [hW5]; exact (Below.refl _ _).alloc (Nat.le_refl _) _
          have hv5 : W5.heap[W4.heap.size]? = some (.cells #[.slice p0 n0 e0, .slice p1 n1 e1, .slice p2 n2 e2] 68 (0, 0)) := by rw [hW5]; exact (MapKept.heap_alloc W4 _).1
          have HR5 := Lib.hid (HR4.out.below hb5)
          have HP5 := Lib.hid (HP4.out.below hb5)
          have HROW5 := Lib.hid (own1_below HROW4.out hb5)
          have HBR5 := Lib.hid (BR.below HBR4.out hb5)
          have HBW5 : Hid (Below w.heap.size w W5) := HBW4.out.trans (hb5.mono HBW4.out.size)
          have HV5 := Lib.hid hv5
          go_upto_region 19 with fail
          rw [← hW5]
          clear hW5 hb5 hv5 HR4 HP4 HROW4 HBR4 HBW4
          generalize W4.heap.size = P at *
          have x0 := cell_blk HV5.out 0
          have x1 := cell_blk HV5.out 1
          have x2 := cell_blk HV5.out 2
          have y0 := cell_blk HR5.out.var 0
          have y1 := cell_blk HR5.out.var 1
          have y2 := cell_blk HR5.out.var 2
          have f0 : W5.frozen? ⟨X, 0, none⟩ = false := frozen_blk HR5.out.var 0
          have f1 : W5.frozen? ⟨X, 1, none⟩ = false := frozen_blk HR5.out.var 1
          have f2 : W5.frozen? ⟨X, 2, none⟩ = false := frozen_blk HR5.out.var 2
          go_wp2_with fail
          obtain ⟨W6, hW6⟩ : ∃ W6, W6 = (((W5.setCell ⟨X, 0, none⟩ (.slice p0 n0 e0)).setCell ⟨X, 1, none⟩ (.slice p1 n1 e1)).setCell ⟨X, 2, none⟩ (.slice p2 n2 e2)) := ⟨_, rfl⟩
          rw [← hW6]
          have HST := HR5.out.store HBR5.out hW6
          have HN : Hid (LI w X G W6 (k + 1) u3) := ⟨⟨_, _, _, _, _, _, _, _, HST.1, HP5.out.off68 HST.2.2, own_keep HROW5.out fun g C f hg => (HST.2.2 g _ hg fun _ _ e => by injection e with _ e; cases e).trans hg.symm, Nat.le_succ_of_le HPK.out⟩, HBW5.out.trans HST.2.1⟩
          have ew : wrap64 ((k : Int) + 1) = ((k + 1 : Nat) : Int) := wrap_k (Nat.lt_of_lt_of_le hlt HL.out)
          rw [ew]
          go_roundw
          case rel => exact ⟨k + 1, hlt, rfl, HN.out⟩
          case measure => exact meas_lt k l.length hlt
      · obtain ⟨qb, capb, hu3⟩ := own1_slice HROW.out
        subst hu3
        have t60 : (kd.tmod 6 == 0) = false := by rcases hq with h | h | h | h <;> (rw [h]; rfl)
        have t65 : (kd.tmod 6 == 5) = false := by rcases hq with h | h | h | h <;> (rw [h]; rfl)
        have HQ4 := Lib.hid hq
        clear hq
        by_cases hn : ps.length = 0
        · have HN : Hid (LI w X G W2 (k + 1) (.slice qb ps.length capb)) := ⟨⟨_, _, _, _, _, _, _, _, HR.out, HP.out, HROW.out, Nat.le_succ_of_le HPK.out⟩, HBW.out⟩
          have tn : ((ps.length : Int) == 0) = true := by simp [hn]
          clear HR HP HROW HBW HPK HRG HO2 hn
          go_wp2_with fail
          have ew : wrap64 ((k : Int) + 1) = ((k + 1 : Nat) : Int) := wrap_k (Nat.lt_of_lt_of_le hlt HL.out)
          rw [ew]
          go_roundw
          case rel => exact ⟨k + 1, hlt, rfl, HN.out⟩
          case measure => exact meas_lt k l.length hlt
        · have tn : ((ps.length : Int) == 0) = false := by rw [beq_eq_false_iff_ne]; omega
          have tnz : ¬ ((ps.length : Int) = 0) := by omega
          obtain ⟨i, hi, him⟩ : ∃ i : Nat, i < ps.length ∧ bx.tmod (ps.length : Int) = (i : Int) := mod_k hn HRG.out.2.1.1
          have ti : (i : Int) < (ps.length : Int) := by omega
          have hbx : 0 ≤ bx ∧ bx ≤ 255 := HRG.out.2.1
          have wb : IntKind.i64.wrap bx = bx := by rw [IntKind.wrap_i64]; omega
          obtain ⟨p, c, m, lm, s, r, hpi, hci, hm, hlm, hbox, hchan, hBc, hle, hm1⟩ := HP.out.at hi
          obtain ⟨gb, cb, e, _, _, ⟨_, hgb⟩, hxs⟩ := own_at HROW.out (by omega)
          injection e with e _ e3
          subst e e3
          have b0 : W2.cell? ⟨gb, i, none⟩ = some (.pointer (some ⟨p, 0, none⟩)) := hxs i _ (by simp [hpi])
          have b1 : W2.cell? ⟨p, 0, none⟩ = some (.chan (some c)) := cell_blk hbox 0
          have HCI := Lib.hid hci
          have HLT := Lib.hid hi
          have HBX := Lib.hid hbox
          have HIM : Hid (i < mail.length) := by have := HP.out.len; exact this.2.2 ▸ hi
          clear hn hxs hgb hpi hci hm hlm hbox hchan hBc hle hm1 hi
          go_upto_if 134 with fail
          go_cut [20] (fun sb wx => ∃ q : Nat, sb = .pointer (some ⟨q, 0, none⟩) ∧ CBX W2 q c wx)
          case first =>
            cases cp with
            | false =>
              go_wp2_with fail
              go_meet
              exact ⟨_, rfl, HBX.out, Below.refl _ _⟩
            | true =>
              go_wp2_with fail
              go_meet
              exact ⟨_, rfl, (MapKept.heap_alloc W2 _).1, (Below.refl _ _).alloc (Nat.le_refl _) _⟩
          case rest =>
            obtain ⟨q, rfl, hcb⟩ := hcut
            have HR3 := Lib.hid (HR.out.below hcb.below)
            have HP3 := Lib.hid (HP.out.below hcb.below)
            have HROW3 := Lib.hid (own1_below HROW.out hcb.below)
            have HBW3 : Hid (Below w.heap.size w wc) := HBW.out.trans (hcb.below.mono HBW.out.size)
            have HO3 : Hid (wc.heap[O]? = some (.cells #[.int .u8 kd, .int .u8 bx, .int .i16 v, .bool cp] 74 (0, 0))) := (hcb.below.block _ (blk_lt HO2.out)).trans HO2.out
            have HX3 := Lib.hid hcb.box
            clear hcb b0 b1 d0 d1 d2 d3 HR HP HROW HBW HO2 HBX
            have d0 := cell_blk HO3.out 0
            have d1 := cell_blk HO3.out 1
            have d2 := cell_blk HO3.out 2
            have d3 := cell_blk HO3.out 3
            have wv : IntKind.i64.wrap v = v := by have h : -32768 ≤ v ∧ v ≤ 32767 := HRG.out.2.2; rw [IntKind.wrap_i64]; omega
            go_upto_block 2 with fail
            go_cut [] (fun wx => SX w X G most ps cs (.slice (some ⟨gb, 0, none⟩) ps.length capb) q c wx)
            case first =>
              rcases HQ4.out with hq | hq | hq | hq
              · as_aux_lemma =>
                  have t61 : (kd.tmod 6 == 1) = true := by rw [hq]; rfl
                  clear hq
                  have x0 := cell_blk HR3.out.var 0
                  have x1 := cell_blk HR3.out.var 1
                  have x2 := cell_blk HR3.out.var 2
                  go_wp2_with fail
                  refine (rsend HLL.out HR3.out.br HBW3.out.size HIM.out v).mono ?_
                  rintro e W4 ⟨b', rfl, hbr, hb4⟩
                  obtain ⟨p0, n0, e0, p1, n1, e1, p2, n2, e2, hb'⟩ := hbr.parts
                  subst hb'
                  have hb3 := hb4
                  have HR4 := Lib.hid (HR3.out.below hb4)
                  have HP4 := Lib.hid (HP3.out.below hb4)
                  have HROW4 := Lib.hid (own1_below HROW3.out hb4)
                  have HBR4 := Lib.hid hbr
                  have HO4 := Lib.hid ((hb4.block _ (blk_lt HO3.out)).trans HO3.out)
                  have HX4 := Lib.hid ((hb4.block _ (blk_lt HX3.out)).trans HX3.out)
                  have HBW4 : Hid (Below w.heap.size w W4) := HBW3.out.trans (hb4.mono HBW3.out.size)
                  clear x0 x1 x2 hbr hb4 hb3 HR3 HP3 HROW3 HBW3 HO3 HX3 d0 d1 d2 d3
                  obtain ⟨W5, hW5⟩ : ∃ W5, W5 = W4.alloc (Obj.cells #[.slice p0 n0 e0, .slice p1 n1 e1, .slice p2 n2 e2] 68) := ⟨_, rfl⟩
                  have hb5 : Below W4.heap.size W4 W5 := by rw [hW5]; exact (Below.refl _ _).alloc (Nat.le_refl _) _
                  have hv5 : W5.heap[W4.heap.size]? = some (.cells #[.slice p0 n0 e0, .slice p1 n1 e1, .slice p2 n2 e2] 68 (0, 0)) := by rw [hW5]; exact (MapKept.heap_alloc W4 _).1
                  have HR5 := Lib.hid (HR4.out.below hb5)
                  have HP5 := Lib.hid (HP4.out.below hb5)
                  have HROW5 := Lib.hid (own1_below HROW4.out hb5)
                  have HBR5 := Lib.hid (BR.below HBR4.out hb5)
                  have HO5 := Lib.hid ((hb5.block _ (blk_lt HO4.out)).trans HO4.out)
                  have HX5 := Lib.hid ((hb5.block _ (blk_lt HX4.out)).trans HX4.out)
                  have HBW5 : Hid (Below w.heap.size w W5) := HBW4.out.trans (hb5.mono HBW4.out.size)
                  have HV5 := Lib.hid hv5
                  go_upto_region 35 with fail
                  rw [← hW5]
                  clear hW5 hb5 hv5 HR4 HP4 HROW4 HBR4 HBW4 HO4 HX4
                  generalize W4.heap.size = P at *
                  have g0 := cell_blk HX5.out 0
                  have d2 := cell_blk HO5.out 2
                  go_wp2_with fail
                  refine (gsend HP5.out HCI.out g0 v).mono ?_
                  rintro e W6 ⟨rfl, hk, hp⟩
                  have HR6 := Lib.hid (HR5.out.pk hk)
                  have HP6 := Lib.hid hp
                  have HROW6 := Lib.hid (row_pk HROW5.out hk)
                  have HX6 := Lib.hid (hk.cells _ _ 86 _ (by decide) (by decide) HX5.out)
                  have HO6 := Lib.hid (hk.cells _ _ 74 _ (by decide) (by decide) HO5.out)
                  have HBW6 : Hid (Below w.heap.size w W6) := HBW5.out.trans hk.below
                  have HBR6 := Lib.hid (HBR5.out.pk hk)
                  have HV6 := Lib.hid (hk.cells _ _ 68 _ (by decide) (by decide) HV5.out)
                  clear g0 d2 hk hp HR5 HP5 HROW5 HX5 HO5 HBW5 HBR5 HV5
                  generalize sendS most mail i v = N at *
                  obtain ⟨m', a'⟩ := N
                  simp only at *
                  have x0 := cell_blk HV6.out 0
                  have x1 := cell_blk HV6.out 1
                  have x2 := cell_blk HV6.out 2
                  have y0 := cell_blk HR6.out.var 0
                  have y1 := cell_blk HR6.out.var 1
                  have y2 := cell_blk HR6.out.var 2
                  have f0 : W6.frozen? ⟨X, 0, none⟩ = false := frozen_blk HR6.out.var 0
                  have f1 : W6.frozen? ⟨X, 1, none⟩ = false := frozen_blk HR6.out.var 1
                  have f2 : W6.frozen? ⟨X, 2, none⟩ = false := frozen_blk HR6.out.var 2
                  go_wp2_with fail
                  go_meet
                  obtain ⟨W7, hW7⟩ : ∃ W7, W7 = (((W6.setCell ⟨X, 0, none⟩ (.slice p0 n0 e0)).setCell ⟨X, 1, none⟩ (.slice p1 n1 e1)).setCell ⟨X, 2, none⟩ (.slice p2 n2 e2)) := ⟨_, rfl⟩
                  rw [← hW7]
                  have HST := HR6.out.store HBR6.out hW7
                  exact ⟨⟨_, _, _, _, _, HST.1, HP6.out.off68 HST.2.2⟩, row_off68 HROW6.out HST.2.2, HBW6.out.trans HST.2.1, HST.2.2 _ _ HX6.out fun _ _ e => by injection e with _ e; cases e⟩
              · as_aux_lemma =>
                  have t61 : (kd.tmod 6 == 1) = false := by rw [hq]; rfl
                  have t62 : (kd.tmod 6 == 2) = true := by rw [hq]; rfl
                  clear hq
                  have g0 := cell_blk HX3.out 0
                  go_wp2_with fail
                  refine (gtake HP3.out HCI.out g0).mono ?_
                  rintro e W8 ⟨rfl, hk, hp⟩
                  have HR8 := Lib.hid (HR3.out.pk hk)
                  have HP8 := Lib.hid hp
                  have HROW8 := Lib.hid (row_pk HROW3.out hk)
                  have HX8 := Lib.hid (hk.cells _ _ 86 _ (by decide) (by decide) HX3.out)
                  have HO8 := Lib.hid (hk.cells _ _ 74 _ (by decide) (by decide) HO3.out)
                  have HBW8 : Hid (Below w.heap.size w W8) := HBW3.out.trans hk.below
                  clear g0 hk hp HR3 HP3 HROW3 HX3 HO3 HBW3 d0 d1 d2 d3
                  have x0 := cell_blk HR8.out.var 0
                  have x1 := cell_blk HR8.out.var 1
                  have x2 := cell_blk HR8.out.var 2
                  go_wp2_with fail
                  refine (rtake HLL.out HR8.out.br HBW8.out.size HIM.out).mono ?_
                  rintro e W4 ⟨b', rfl, hbr, hb4⟩
                  obtain ⟨p0, n0, e0, p1, n1, e1, p2, n2, e2, hb'⟩ := hbr.parts
                  subst hb'
                  have hb8 := hb4
                  have HR4 := Lib.hid (HR8.out.below hb4)
                  have HP4 := Lib.hid (HP8.out.below hb4)
                  have HROW4 := Lib.hid (own1_below HROW8.out hb4)
                  have HBR4 := Lib.hid hbr
                  have HO4 := Lib.hid ((hb4.block _ (blk_lt HO8.out)).trans HO8.out)
                  have HX4 := Lib.hid ((hb4.block _ (blk_lt HX8.out)).trans HX8.out)
                  have HBW4 : Hid (Below w.heap.size w W4) := HBW8.out.trans (hb4.mono HBW8.out.size)
                  clear x0 x1 x2 hbr hb4 hb8 HR8 HP8 HROW8 HBW8 HO8 HX8
                  obtain ⟨W5, hW5⟩ : ∃ W5, W5 = W4.alloc (Obj.cells #[.slice p0 n0 e0, .slice p1 n1 e1, .slice p2 n2 e2] 68) := ⟨_, rfl⟩
                  have hb5 : Below W4.heap.size W4 W5 := by rw [hW5]; exact (Below.refl _ _).alloc (Nat.le_refl _) _
                  have hv5 : W5.heap[W4.heap.size]? = some (.cells #[.slice p0 n0 e0, .slice p1 n1 e1, .slice p2 n2 e2] 68 (0, 0)) := by rw [hW5]; exact (MapKept.heap_alloc W4 _).1
                  have HR5 := Lib.hid (HR4.out.below hb5)
                  have HP5 := Lib.hid (HP4.out.below hb5)
                  have HROW5 := Lib.hid (own1_below HROW4.out hb5)
                  have HBR5 := Lib.hid (BR.below HBR4.out hb5)
                  have HO5 := Lib.hid ((hb5.block _ (blk_lt HO4.out)).trans HO4.out)
                  have HX5 := Lib.hid ((hb5.block _ (blk_lt HX4.out)).trans HX4.out)
                  have HBW5 : Hid (Below w.heap.size w W5) := HBW4.out.trans (hb5.mono HBW4.out.size)
                  have HV5 := Lib.hid hv5
                  go_upto_region 41 with fail
                  rw [← hW5]
                  clear hW5 hb5 hv5 HR4 HP4 HROW4 HBR4 HBW4 HO4 HX4
                  generalize W4.heap.size = P at *
                  generalize takeS mail i = N at *
                  obtain ⟨m', a', c'⟩ := N
                  simp only at *
                  have x0 := cell_blk HV5.out 0
                  have x1 := cell_blk HV5.out 1
                  have x2 := cell_blk HV5.out 2
                  have y0 := cell_blk HR5.out.var 0
                  have y1 := cell_blk HR5.out.var 1
                  have y2 := cell_blk HR5.out.var 2
                  have f0 : W5.frozen? ⟨X, 0, none⟩ = false := frozen_blk HR5.out.var 0
                  have f1 : W5.frozen? ⟨X, 1, none⟩ = false := frozen_blk HR5.out.var 1
                  have f2 : W5.frozen? ⟨X, 2, none⟩ = false := frozen_blk HR5.out.var 2
                  go_wp2_with fail
                  go_meet
                  obtain ⟨W7, hW7⟩ : ∃ W7, W7 = (((W5.setCell ⟨X, 0, none⟩ (.slice p0 n0 e0)).setCell ⟨X, 1, none⟩ (.slice p1 n1 e1)).setCell ⟨X, 2, none⟩ (.slice p2 n2 e2)) := ⟨_, rfl⟩
                  rw [← hW7]
                  have HST := HR5.out.store HBR5.out hW7
                  exact ⟨⟨_, _, _, _, _, HST.1, HP5.out.off68 HST.2.2⟩, row_off68 HROW5.out HST.2.2, HBW5.out.trans HST.2.1, HST.2.2 _ _ HX5.out fun _ _ e => by injection e with _ e; cases e⟩
              · as_aux_lemma =>
                  have t61 : (kd.tmod 6 == 1) = false := by rw [hq]; rfl
                  have t62 : (kd.tmod 6 == 2) = false := by rw [hq]; rfl
                  have t63 : (kd.tmod 6 == 3) = true := by rw [hq]; rfl
                  clear hq
                  have x0 := cell_blk HR3.out.var 0
                  have x1 := cell_blk HR3.out.var 1
                  have x2 := cell_blk HR3.out.var 2
                  go_wp2_with fail
                  refine (rjoin HLL.out HR3.out.br HBW3.out.size i).mono ?_
                  rintro e W4 ⟨b', rfl, hbr, hb4⟩
                  obtain ⟨p0, n0, e0, p1, n1, e1, p2, n2, e2, hb'⟩ := hbr.parts
                  subst hb'
                  have hb3 := hb4
                  have HR4 := Lib.hid (HR3.out.below hb4)
                  have HP4 := Lib.hid (HP3.out.below hb4)
                  have HROW4 := Lib.hid (own1_below HROW3.out hb4)
                  have HBR4 := Lib.hid hbr
                  have HO4 := Lib.hid ((hb4.block _ (blk_lt HO3.out)).trans HO3.out)
                  have HX4 := Lib.hid ((hb4.block _ (blk_lt HX3.out)).trans HX3.out)
                  have HBW4 : Hid (Below w.heap.size w W4) := HBW3.out.trans (hb4.mono HBW3.out.size)
                  clear x0 x1 x2 hbr hb4 hb3 HR3 HP3 HROW3 HBW3 HO3 HX3 d0 d1 d2 d3
                  obtain ⟨W5, hW5⟩ : ∃ W5, W5 = W4.alloc (Obj.cells #[.slice p0 n0 e0, .slice p1 n1 e1, .slice p2 n2 e2] 68) := ⟨_, rfl⟩
                  have hb5 : Below W4.heap.size W4 W5 := by rw [hW5]; exact (Below.refl _ _).alloc (Nat.le_refl _) _
                  have hv5 : W5.heap[W4.heap.size]? = some (.cells #[.slice p0 n0 e0, .slice p1 n1 e1, .slice p2 n2 e2] 68 (0, 0)) := by rw [hW5]; exact (MapKept.heap_alloc W4 _).1
                  have HR5 := Lib.hid (HR4.out.below hb5)
                  have HP5 := Lib.hid (HP4.out.below hb5)
                  have HROW5 := Lib.hid (own1_below HROW4.out hb5)
                  have HBR5 := Lib.hid (BR.below HBR4.out hb5)
                  have HO5 := Lib.hid ((hb5.block _ (blk_lt HO4.out)).trans HO4.out)
                  have HX5 := Lib.hid ((hb5.block _ (blk_lt HX4.out)).trans HX4.out)
                  have HBW5 : Hid (Below w.heap.size w W5) := HBW4.out.trans (hb5.mono HBW4.out.size)
                  have HV5 := Lib.hid hv5
                  go_upto_region 46 with fail
                  rw [← hW5]
                  clear hW5 hb5 hv5 HR4 HP4 HROW4 HBR4 HBW4 HO4 HX4
                  generalize W4.heap.size = P at *
                  have g0 := cell_blk HX5.out 0
                  go_wp2_with fail
                  refine (gjoin HP5.out HLT.out HCI.out g0).mono ?_
                  rintro e W6 ⟨rfl, hk, hp⟩
                  have HR6 := Lib.hid (HR5.out.pk hk)
                  have HP6 := Lib.hid hp
                  have HROW6 := Lib.hid (row_pk HROW5.out hk)
                  have HX6 := Lib.hid (hk.cells _ _ 86 _ (by decide) (by decide) HX5.out)
                  have HO6 := Lib.hid (hk.cells _ _ 74 _ (by decide) (by decide) HO5.out)
                  have HBW6 : Hid (Below w.heap.size w W6) := HBW5.out.trans hk.below
                  have HBR6 := Lib.hid (HBR5.out.pk hk)
                  have HV6 := Lib.hid (hk.cells _ _ 68 _ (by decide) (by decide) HV5.out)
                  clear g0 hk hp HR5 HP5 HROW5 HX5 HO5 HBW5 HBR5 HV5
                  generalize joinS grp i = N at *
                  obtain ⟨m', a'⟩ := N
                  simp only at *
                  have x0 := cell_blk HV6.out 0
                  have x1 := cell_blk HV6.out 1
                  have x2 := cell_blk HV6.out 2
                  have y0 := cell_blk HR6.out.var 0
                  have y1 := cell_blk HR6.out.var 1
                  have y2 := cell_blk HR6.out.var 2
                  have f0 : W6.frozen? ⟨X, 0, none⟩ = false := frozen_blk HR6.out.var 0
                  have f1 : W6.frozen? ⟨X, 1, none⟩ = false := frozen_blk HR6.out.var 1
                  have f2 : W6.frozen? ⟨X, 2, none⟩ = false := frozen_blk HR6.out.var 2
                  go_wp2_with fail
                  go_meet
                  obtain ⟨W7, hW7⟩ : ∃ W7, W7 = (((W6.setCell ⟨X, 0, none⟩ (.slice p0 n0 e0)).setCell ⟨X, 1, none⟩ (.slice p1 n1 e1)).setCell ⟨X, 2, none⟩ (.slice p2 n2 e2)) := ⟨_, rfl⟩
                  rw [← hW7]
                  have HST := HR6.out.store HBR6.out hW7
                  exact ⟨⟨_, _, _, _, _, HST.1, HP6.out.off68 HST.2.2⟩, row_off68 HROW6.out HST.2.2, HBW6.out.trans HST.2.1, HST.2.2 _ _ HX6.out fun _ _ e => by injection e with _ e; cases e⟩
              · as_aux_lemma =>
                  have t61 : (kd.tmod 6 == 1) = false := by rw [hq]; rfl
                  have t62 : (kd.tmod 6 == 2) = false := by rw [hq]; rfl
                  have t63 : (kd.tmod 6 == 3) = false := by rw [hq]; rfl
                  clear hq
                  have x0 := cell_blk HR3.out.var 0
                  have x1 := cell_blk HR3.out.var 1
                  have x2 := cell_blk HR3.out.var 2
                  go_wp2_with fail
                  refine (rdrop HLL.out HR3.out.br HBW3.out.size i).mono ?_
                  rintro e W4 ⟨b', rfl, hbr, hb4⟩
                  obtain ⟨p0, n0, e0, p1, n1, e1, p2, n2, e2, hb'⟩ := hbr.parts
                  subst hb'
                  have hb3 := hb4
                  have HR4 := Lib.hid (HR3.out.below hb4)
                  have HP4 := Lib.hid (HP3.out.below hb4)
                  have HROW4 := Lib.hid (own1_below HROW3.out hb4)
                  have HBR4 := Lib.hid hbr
                  have HO4 := Lib.hid ((hb4.block _ (blk_lt HO3.out)).trans HO3.out)
                  have HX4 := Lib.hid ((hb4.block _ (blk_lt HX3.out)).trans HX3.out)
                  have HBW4 : Hid (Below w.heap.size w W4) := HBW3.out.trans (hb4.mono HBW3.out.size)
                  clear x0 x1 x2 hbr hb4 hb3 HR3 HP3 HROW3 HBW3 HO3 HX3 d0 d1 d2 d3
                  obtain ⟨W5, hW5⟩ : ∃ W5, W5 = W4.alloc (Obj.cells #[.slice p0 n0 e0, .slice p1 n1 e1, .slice p2 n2 e2] 68) := ⟨_, rfl⟩
                  have hb5 : Below W4.heap.size W4 W5 := by rw [hW5]; exact (Below.refl _ _).alloc (Nat.le_refl _) _
                  have hv5 : W5.heap[W4.heap.size]? = some (.cells #[.slice p0 n0 e0, .slice p1 n1 e1, .slice p2 n2 e2] 68 (0, 0)) := by rw [hW5]; exact (MapKept.heap_alloc W4 _).1
                  have HR5 := Lib.hid (HR4.out.below hb5)
                  have HP5 := Lib.hid (HP4.out.below hb5)
                  have HROW5 := Lib.hid (own1_below HROW4.out hb5)
                  have HBR5 := Lib.hid (BR.below HBR4.out hb5)
                  have HO5 := Lib.hid ((hb5.block _ (blk_lt HO4.out)).trans HO4.out)
                  have HX5 := Lib.hid ((hb5.block _ (blk_lt HX4.out)).trans HX4.out)
                  have HBW5 : Hid (Below w.heap.size w W5) := HBW4.out.trans (hb5.mono HBW4.out.size)
                  have HV5 := Lib.hid hv5
                  go_upto_region 30 with fail
                  rw [← hW5]
                  clear hW5 hb5 hv5 HR4 HP4 HROW4 HBR4 HBW4 HO4 HX4
                  generalize W4.heap.size = P at *
                  have g0 := cell_blk HX5.out 0
                  go_wp2_with fail
                  refine (gdrop HP5.out HCI.out g0).mono ?_
                  rintro e W6 ⟨rfl, hk, hp⟩
                  have HR6 := Lib.hid (HR5.out.pk hk)
                  have HP6 := Lib.hid hp
                  have HROW6 := Lib.hid (row_pk HROW5.out hk)
                  have HX6 := Lib.hid (hk.cells _ _ 86 _ (by decide) (by decide) HX5.out)
                  have HO6 := Lib.hid (hk.cells _ _ 74 _ (by decide) (by decide) HO5.out)
                  have HBW6 : Hid (Below w.heap.size w W6) := HBW5.out.trans hk.below
                  have HBR6 := Lib.hid (HBR5.out.pk hk)
                  have HV6 := Lib.hid (hk.cells _ _ 68 _ (by decide) (by decide) HV5.out)
                  clear g0 hk hp HR5 HP5 HROW5 HX5 HO5 HBW5 HBR5 HV5
                  generalize dropS grp i = N at *
                  obtain ⟨m', a'⟩ := N
                  simp only at *
                  have x0 := cell_blk HV6.out 0
                  have x1 := cell_blk HV6.out 1
                  have x2 := cell_blk HV6.out 2
                  have y0 := cell_blk HR6.out.var 0
                  have y1 := cell_blk HR6.out.var 1
                  have y2 := cell_blk HR6.out.var 2
                  have f0 : W6.frozen? ⟨X, 0, none⟩ = false := frozen_blk HR6.out.var 0
                  have f1 : W6.frozen? ⟨X, 1, none⟩ = false := frozen_blk HR6.out.var 1
                  have f2 : W6.frozen? ⟨X, 2, none⟩ = false := frozen_blk HR6.out.var 2
                  go_wp2_with fail
                  go_meet
                  obtain ⟨W7, hW7⟩ : ∃ W7, W7 = (((W6.setCell ⟨X, 0, none⟩ (.slice p0 n0 e0)).setCell ⟨X, 1, none⟩ (.slice p1 n1 e1)).setCell ⟨X, 2, none⟩ (.slice p2 n2 e2)) := ⟨_, rfl⟩
                  rw [← hW7]
                  have HST := HR6.out.store HBR6.out hW7
                  exact ⟨⟨_, _, _, _, _, HST.1, HP6.out.off68 HST.2.2⟩, row_off68 HROW6.out HST.2.2, HBW6.out.trans HST.2.1, HST.2.2 _ _ HX6.out fun _ _ e => by injection e with _ e; cases e⟩
            case rest =>
              as_aux_lemma =>
                clear d0 d1 d2 d3 HR3 HP3 HROW3 HBW3 HO3 HX3
                obtain ⟨mail', grp', u0', u1', u2', hR, hP⟩ := hcut.ex
                have HR := Lib.hid hR
                have HP := Lib.hid hP
                have HROW := Lib.hid hcut.row
                have HBW := Lib.hid hcut.below
                have HX := Lib.hid hcut.box
                clear hR hP hcut
                have HML : Hid ((i : Int) < (mail'.length : Int) ∧ i < mail'.length) := by have h1 := HP.out.len; have h2 := HLT.out; exact ⟨by omega, by omega⟩
                obtain ⟨g1, k1, q3, k3, lm, hv1, hlm, hb2, hg1⟩ := HR.out.br.len_at HML.out.2
                subst hv1
                have HLM := Lib.hid hlm
                have HB2 := Lib.hid hb2
                have HG1 := Lib.hid hg1
                clear hlm hb2 hg1
                go_upto_region 49 with fail
                obtain ⟨V, hV⟩ : ∃ V : Nat → Value, V = fun vv => ([.pointer (some ⟨G, 0, none⟩), .pointer (some ⟨q, 0, none⟩), .int .i64 (gix (nats grp') (i : Int)), .agg #[u0', .slice (some ⟨g1, 0, none⟩) mail'.length k1, u2'], .int .i64 i, .int .i64 (gix (nats grp') (i : Int)), .bool false, .bool false, .pointer (some ⟨q, 0, none⟩), .int .i64 lm.length, .pointer (some ⟨X, 1, none⟩), .slice (some ⟨g1, 0, none⟩) mail'.length k1, .int .i64 i, .pointer (some ⟨g1, i, none⟩), .slice q3 lm.length k3, .int .i64 lm.length, .bool false, .bool false] : List Value).getD vv undef := ⟨_, rfl⟩
                have vv0 : Hid (V 0 = .pointer (some ⟨G, 0, none⟩)) := Lib.hid (by rw [hV]; rfl)
                have vv1 : Hid (V 1 = .pointer (some ⟨q, 0, none⟩)) := Lib.hid (by rw [hV]; rfl)
                have vv2 : Hid (V 2 = .int .i64 (gix (nats grp') (i : Int))) := Lib.hid (by rw [hV]; rfl)
                have vv3 : Hid (V 3 = .agg #[u0', .slice (some ⟨g1, 0, none⟩) mail'.length k1, u2']) := Lib.hid (by rw [hV]; rfl)
                have vv4 : Hid (V 4 = .int .i64 i) := Lib.hid (by rw [hV]; rfl)
                have vv5 : Hid (V 5 = .int .i64 (gix (nats grp') (i : Int))) := Lib.hid (by rw [hV]; rfl)
                have vv6 : Hid (V 6 = .bool false) := Lib.hid (by rw [hV]; rfl)
                have vv7 : Hid (V 7 = .bool false) := Lib.hid (by rw [hV]; rfl)
                have vv8 : Hid (V 8 = .pointer (some ⟨q, 0, none⟩)) := Lib.hid (by rw [hV]; rfl)
                have vv9 : Hid (V 9 = .int .i64 lm.length) := Lib.hid (by rw [hV]; rfl)
                have vv10 : Hid (V 10 = .pointer (some ⟨X, 1, none⟩)) := Lib.hid (by rw [hV]; rfl)
                have vv11 : Hid (V 11 = .slice (some ⟨g1, 0, none⟩) mail'.length k1) := Lib.hid (by rw [hV]; rfl)
                have vv12 : Hid (V 12 = .int .i64 i) := Lib.hid (by rw [hV]; rfl)
                have vv13 : Hid (V 13 = .pointer (some ⟨g1, i, none⟩)) := Lib.hid (by rw [hV]; rfl)
                have vv14 : Hid (V 14 = .slice q3 lm.length k3) := Lib.hid (by rw [hV]; rfl)
                have vv15 : Hid (V 15 = .int .i64 lm.length) := Lib.hid (by rw [hV]; rfl)
                have vv16 : Hid (V 16 = .bool false) := Lib.hid (by rw [hV]; rfl)
                have vv17 : Hid (V 17 = .bool false) := Lib.hid (by rw [hV]; rfl)
                clear hV
                refine (wpIn_wide (n := 20)).1 ?_
                refine wpIn_region_inv (by kernel_rfl) (back_of (by kernel_rfl)) (fun d act Wn => ∃ y : Nat → Value, act = { tmps := #[.slice (some ⟨g, off, none⟩) l.length cap, undef, u2, .slice (some ⟨gb, 0, none⟩) ps.length capb, .pointer (some ⟨X, 0, none⟩), .pointer (some ⟨G, 0, none⟩), undef, .pointer (some ⟨O, 0, none⟩), u8, u9, u10, u11, u12, u13, u14, u15, u16, u17, u18, .int .i64 i, .pointer (some ⟨q, 0, none⟩), u21, u22, u23, u24, u25, u26, u27, u28, u29, u30, u31, u32, undef, undef, undef, undef, undef, undef, undef, .slice (some ⟨g, off, none⟩) l.length cap, .int .i64 l.length, .bool false, undef, .agg #[.slice none 0 0], .pointer (some ⟨G, 0, none⟩), .slice (some ⟨g, off, none⟩) l.length cap, .int .i64 l.length, .int .i64 k, u49, u50, u51, u52, u53, u54, u55, u56, u57, u58, u59, u60, u61, u62, u63, u64, u65, u66, u67, u68, u69, u70, u71, u72, u73, u74, u75, u76, u77, u78, u79, u80, u81, u82, u83, u84, u85, u86, u87, u88, u89, u90, u91, u92, u93, u94, u95, u96, u97, u98, u99, u100, u101, u102, u103, u104, u105, u106, u107, u108, u109, u110, u111, u112, u113, u114, u115, u116, u117, u118, u119, u120, u121, u122, u123, u124, u125, u126, u127, u128, u129, u130, u131, u132, u133, u134, u135, u136, u137, u138, u139, .int .u8 (kd.tmod 6), u141, u142, u143, u144, u145, u146, u147, u148, u149, u150, u151, u152, u153, u154, u155, u156, u157, u158, u159, u160, u161, u162, u163, u164, u165, u166, u167, u168, u169, u170, u171, u172, u173, u174, u175, u176, u177, u178, u179, u180, u181, u182, u183, u184, u185, u186, u187, u188, u189, u190, u191, u192, u193, u194, u195, u196, u197, u198, u199, u200, u201, u202, u203, u204, u205, u206, u207, u208, y 0, y 1, y 2, y 3, y 4, y 5, y 6, y 7, y 8, y 9, y 10, y 11, y 12, y 13, y 14, y 15, y 16, y 17, u227, undef, undef, undef, undef, undef, undef, undef, undef, undef, undef, undef, undef, undef, undef, undef, undef, undef, undef, undef, undef, undef, undef, undef, undef, undef, undef, undef, undef, undef, undef, undef, undef, undef, undef, undef, undef, undef, undef, undef, undef, undef, undef, undef, undef, undef, undef, undef, undef, undef, undef, undef, undef, undef, undef, undef, undef, undef, undef, undef, undef, undef, undef, undef, undef, undef, undef, undef], defers := [] } ∧ QA wc V 18 d y Wn) ?r49 ?s49 ?f49
                case r49 => exact fun d hd => ⟨(upd (upd (upd (upd (upd (upd (upd (upd (upd (upd (upd (upd (upd (upd (upd (upd (upd (upd (fun _ => undef) 0 (u209)) 1 (u210)) 2 (u211)) 3 (u212)) 4 (u213)) 5 (u214)) 6 (u215)) 7 (u216)) 8 (u217)) 9 (u218)) 10 (u219)) 11 (u220)) 12 (u221)) 13 (u222)) 14 (u223)) 15 (u224)) 16 (u225)) 17 (u226)), rfl, QA.start (fun i hi => hd i hi)⟩
                case s49 =>
                  rintro ix oi hop d act Wr ⟨y, rfl, hR⟩ hSi hdep
                  have hix : ix < 18 := (Array.getElem?_eq_some_iff.1 hop).1
                  have HQ := Lib.hid hR
                  have HD := Lib.hid hdep
                  clear hR hdep hSi
                  obtain rfl | rfl | rfl | rfl | rfl | rfl | rfl | rfl | rfl | rfl | rfl | rfl | rfl | rfl | rfl | rfl | rfl | rfl : ix = 0 ∨ ix = 1 ∨ ix = 2 ∨ ix = 3 ∨ ix = 4 ∨ ix = 5 ∨ ix = 6 ∨ ix = 7 ∨ ix = 8 ∨ ix = 9 ∨ ix = 10 ∨ ix = 11 ∨ ix = 12 ∨ ix = 13 ∨ ix = 14 ∨ ix = 15 ∨ ix = 16 ∨ ix = 17 := by omega
                  · have hoo := hop
                    obtain rfl := Option.some.inj hop
                    clear HD
                    refine op_wanted hoo (by kernel_rfl) fun K hK => ?_
                    clear hoo
                    refine wpIn_val (v := .pointer (some ⟨G, 0, none⟩)) (fun _ _ => trivial) (by go_simp) ?_
                    exact hK _ _ ⟨upd y 0 (V 0), by rw [vv0.out]; kernel_rfl, HQ.out.pure (i := 0) (by omega)⟩
                  · have hoo := hop
                    obtain rfl := Option.some.inj hop
                    clear HD
                    refine op_wanted hoo (by kernel_rfl) fun K hK => ?_
                    clear hoo
                    refine wpIn_val (v := .pointer (some ⟨q, 0, none⟩)) (fun _ _ => trivial) (by go_simp) ?_
                    exact hK _ _ ⟨upd y 1 (V 1), by rw [vv1.out]; kernel_rfl, HQ.out.pure (i := 1) (by omega)⟩
                  · have hoo := hop
                    obtain rfl := Option.some.inj hop
                    have t0 : d 0 = true := HD.out ⟨0, .data⟩ (by simp) rfl
                    have e0 : y 0 = .pointer (some ⟨G, 0, none⟩) := (HQ.out.val 0 (by omega) t0).trans vv0.out
                    have t1 : d 1 = true := HD.out ⟨1, .data⟩ (by simp) rfl
                    have e1 : y 1 = .pointer (some ⟨q, 0, none⟩) := (HQ.out.val 1 (by omega) t1).trans vv1.out
                    clear HD t0 t1
                    refine op_wanted hoo (by kernel_rfl) fun K hK => ?_
                    clear hoo
                    refine wpIn_det (v := .int .i64 (gix (nats grp') (i : Int))) (by go_simp) ((gidx (HP.out.below HQ.out.bu) HCI.out (cell_blk ((HQ.out.bu.block _ (blk_lt HX.out)).trans HX.out) 0)).mono fun e w' h => ⟨h.1, by rw [h.2]; exact Below.refl _ _⟩) fun Wn hb => ?_
                    exact hK _ _ ⟨upd y 2 (V 2), by rw [vv2.out]; kernel_rfl, (HQ.out.walk hb).pure (i := 2) (by omega)⟩
                  · have hoo := hop
                    obtain rfl := Option.some.inj hop
                    clear HD
                    refine op_wanted hoo (by kernel_rfl) fun K hK => ?_
                    clear hoo
                    have hb := (HQ.out.bu.block _ (blk_lt HR.out.var)).trans HR.out.var
                    have z0 := cell_blk hb 0
                    have z1 := cell_blk hb 1
                    have z2 := cell_blk hb 2
                    clear hb
                    refine wpIn_val (v := .agg #[u0', .slice (some ⟨g1, 0, none⟩) mail'.length k1, u2']) (fun _ _ => trivial) (by go_simp) ?_
                    exact hK _ _ ⟨upd y 3 (V 3), by rw [vv3.out]; kernel_rfl, HQ.out.pure (i := 3) (by omega)⟩
                  · have hoo := hop
                    obtain rfl := Option.some.inj hop
                    clear HD
                    refine op_wanted hoo (by kernel_rfl) fun K hK => ?_
                    clear hoo
                    refine wpIn_val (v := .int .i64 i) (fun _ _ => trivial) (by go_simp) ?_
                    exact hK _ _ ⟨upd y 4 (V 4), by rw [vv4.out]; kernel_rfl, HQ.out.pure (i := 4) (by omega)⟩
                  · have hoo := hop
                    obtain rfl := Option.some.inj hop
                    have t3 : d 3 = true := HD.out ⟨3, .data⟩ (by simp) rfl
                    have e3 : y 3 = .agg #[u0', .slice (some ⟨g1, 0, none⟩) mail'.length k1, u2'] := (HQ.out.val 3 (by omega) t3).trans vv3.out
                    have t4 : d 4 = true := HD.out ⟨4, .data⟩ (by simp) rfl
                    have e4 : y 4 = .int .i64 i := (HQ.out.val 4 (by omega) t4).trans vv4.out
                    clear HD t3 t4
                    refine op_wanted hoo (by kernel_rfl) fun K hK => ?_
                    clear hoo
                    refine wpIn_det (v := .int .i64 (gix (nats grp') (i : Int))) (by go_simp) (rindex _ (BR.below HR.out.br HQ.out.bu) (by rw [nats_len]; exact HP.out.g64) (i : Int)) fun Wn hb => ?_
                    exact hK _ _ ⟨upd y 5 (V 5), by rw [vv5.out]; kernel_rfl, (HQ.out.walk hb).pure (i := 5) (by omega)⟩
                  · have hoo := hop
                    obtain rfl := Option.some.inj hop
                    have t2 : d 2 = true := HD.out ⟨2, .data⟩ (by simp) rfl
                    have e2 : y 2 = .int .i64 (gix (nats grp') (i : Int)) := (HQ.out.val 2 (by omega) t2).trans vv2.out
                    have t5 : d 5 = true := HD.out ⟨5, .data⟩ (by simp) rfl
                    have e5 : y 5 = .int .i64 (gix (nats grp') (i : Int)) := (HQ.out.val 5 (by omega) t5).trans vv5.out
                    clear HD t2 t5
                    refine op_wanted hoo (by kernel_rfl) fun K hK => ?_
                    clear hoo
                    refine wpIn_val (v := .bool false) (fun _ _ => trivial) (by go_simp) ?_
                    exact hK _ _ ⟨upd y 6 (V 6), by rw [vv6.out]; kernel_rfl, HQ.out.pure (i := 6) (by omega)⟩
                  · have hoo := hop
                    obtain rfl := Option.some.inj hop
                    have t6 : d 6 = true := HD.out ⟨6, .data⟩ (by simp) rfl
                    have e6 : y 6 = .bool false := (HQ.out.val 6 (by omega) t6).trans vv6.out
                    clear HD t6
                    refine op_wanted hoo (by kernel_rfl) fun K hK => ?_
                    clear hoo
                    refine wpIn_val (v := .bool false) (fun _ _ => trivial) (by go_simp) ?_
                    exact hK _ _ ⟨upd y 7 (V 7), by rw [vv7.out]; kernel_rfl, HQ.out.pure (i := 7) (by omega)⟩
                  · have hoo := hop
                    obtain rfl := Option.some.inj hop
                    have t7 : d 7 = true := HD.out ⟨7, .guard⟩ (by simp) rfl
                    have e7 : y 7 = .bool false := (HQ.out.val 7 (by omega) t7).trans vv7.out
                    clear HD t7
                    refine op_wanted hoo (by rw [e7]; kernel_rfl) fun K hK => ?_
                    clear hoo
                    refine wpIn_val (v := .pointer (some ⟨q, 0, none⟩)) (fun _ _ => trivial) (by go_simp) ?_
                    exact hK _ _ ⟨upd y 8 (V 8), by rw [vv8.out]; kernel_rfl, HQ.out.pure (i := 8) (by omega)⟩
                  · have hoo := hop
                    obtain rfl := Option.some.inj hop
                    have t8 : d 8 = true := HD.out ⟨8, .data⟩ (by simp) rfl
                    have e8 : y 8 = .pointer (some ⟨q, 0, none⟩) := (HQ.out.val 8 (by omega) t8).trans vv8.out
                    have t7 : d 7 = true := HD.out ⟨7, .guard⟩ (by simp) rfl
                    have e7 : y 7 = .bool false := (HQ.out.val 7 (by omega) t7).trans vv7.out
                    clear HD t8 t7
                    refine op_wanted hoo (by rw [e7]; kernel_rfl) fun K hK => ?_
                    clear hoo
                    refine wpIn_det (v := .int .i64 lm.length) (by go_simp) ((glen (HP.out.below HQ.out.bu) HCI.out (cell_blk ((HQ.out.bu.block _ (blk_lt HX.out)).trans HX.out) 0)).mono fun e w' h => ⟨by rw [← HLM.out]; exact h.1, by rw [h.2]; exact Below.refl _ _⟩) fun Wn hb => ?_
                    exact hK _ _ ⟨upd y 9 (V 9), by rw [vv9.out]; kernel_rfl, (HQ.out.walk hb).pure (i := 9) (by omega)⟩
                  · have hoo := hop
                    obtain rfl := Option.some.inj hop
                    have t7 : d 7 = true := HD.out ⟨7, .guard⟩ (by simp) rfl
                    have e7 : y 7 = .bool false := (HQ.out.val 7 (by omega) t7).trans vv7.out
                    clear HD t7
                    refine op_wanted hoo (by rw [e7]; kernel_rfl) fun K hK => ?_
                    clear hoo
                    refine wpIn_val (v := .pointer (some ⟨X, 1, none⟩)) (fun _ _ => trivial) (by go_simp) ?_
                    exact hK _ _ ⟨upd y 10 (V 10), by rw [vv10.out]; kernel_rfl, HQ.out.pure (i := 10) (by omega)⟩
                  · have hoo := hop
                    obtain rfl := Option.some.inj hop
                    have t10 : d 10 = true := HD.out ⟨10, .data⟩ (by simp) rfl
                    have e10 : y 10 = .pointer (some ⟨X, 1, none⟩) := (HQ.out.val 10 (by omega) t10).trans vv10.out
                    have t7 : d 7 = true := HD.out ⟨7, .guard⟩ (by simp) rfl
                    have e7 : y 7 = .bool false := (HQ.out.val 7 (by omega) t7).trans vv7.out
                    clear HD t10 t7
                    refine op_wanted hoo (by rw [e7]; kernel_rfl) fun K hK => ?_
                    clear hoo
                    have hb := (HQ.out.bu.block _ (blk_lt HR.out.var)).trans HR.out.var
                    have z0 := cell_blk hb 0
                    have z1 := cell_blk hb 1
                    have z2 := cell_blk hb 2
                    clear hb
                    refine wpIn_val (v := .slice (some ⟨g1, 0, none⟩) mail'.length k1) (fun _ _ => trivial) (by go_simp) ?_
                    exact hK _ _ ⟨upd y 11 (V 11), by rw [vv11.out]; kernel_rfl, HQ.out.pure (i := 11) (by omega)⟩
                  · have hoo := hop
                    obtain rfl := Option.some.inj hop
                    have t7 : d 7 = true := HD.out ⟨7, .guard⟩ (by simp) rfl
                    have e7 : y 7 = .bool false := (HQ.out.val 7 (by omega) t7).trans vv7.out
                    clear HD t7
                    refine op_wanted hoo (by rw [e7]; kernel_rfl) fun K hK => ?_
                    clear hoo
                    refine wpIn_val (v := .int .i64 i) (fun _ _ => trivial) (by go_simp) ?_
                    exact hK _ _ ⟨upd y 12 (V 12), by rw [vv12.out]; kernel_rfl, HQ.out.pure (i := 12) (by omega)⟩
                  · have hoo := hop
                    obtain rfl := Option.some.inj hop
                    have t11 : d 11 = true := HD.out ⟨11, .data⟩ (by simp) rfl
                    have e11 : y 11 = .slice (some ⟨g1, 0, none⟩) mail'.length k1 := (HQ.out.val 11 (by omega) t11).trans vv11.out
                    have t12 : d 12 = true := HD.out ⟨12, .data⟩ (by simp) rfl
                    have e12 : y 12 = .int .i64 i := (HQ.out.val 12 (by omega) t12).trans vv12.out
                    have t7 : d 7 = true := HD.out ⟨7, .guard⟩ (by simp) rfl
                    have e7 : y 7 = .bool false := (HQ.out.val 7 (by omega) t7).trans vv7.out
                    clear HD t11 t12 t7
                    refine op_wanted hoo (by rw [e7]; kernel_rfl) fun K hK => ?_
                    clear hoo
                    have hb1 : (i : Int) < (mail'.length : Int) := HML.out.1
                    have hb2 : i < mail'.length := HML.out.2
                    refine wpIn_val (v := .pointer (some ⟨g1, i, none⟩)) (fun _ _ => trivial) (by go_simp) ?_
                    exact hK _ _ ⟨upd y 13 (V 13), by rw [vv13.out]; kernel_rfl, HQ.out.pure (i := 13) (by omega)⟩
                  · have hoo := hop
                    obtain rfl := Option.some.inj hop
                    have t13 : d 13 = true := HD.out ⟨13, .data⟩ (by simp) rfl
                    have e13 : y 13 = .pointer (some ⟨g1, i, none⟩) := (HQ.out.val 13 (by omega) t13).trans vv13.out
                    have t7 : d 7 = true := HD.out ⟨7, .guard⟩ (by simp) rfl
                    have e7 : y 7 = .bool false := (HQ.out.val 7 (by omega) t7).trans vv7.out
                    clear HD t13 t7
                    refine op_wanted hoo (by rw [e7]; kernel_rfl) fun K hK => ?_
                    clear hoo
                    have z0 := (HQ.out.bu.cell (p := ⟨g1, i, none⟩) HG1.out).trans HB2.out
                    refine wpIn_val (v := .slice q3 lm.length k3) (fun _ _ => trivial) (by go_simp) ?_
                    exact hK _ _ ⟨upd y 14 (V 14), by rw [vv14.out]; kernel_rfl, HQ.out.pure (i := 14) (by omega)⟩
                  · have hoo := hop
                    obtain rfl := Option.some.inj hop
                    have t14 : d 14 = true := HD.out ⟨14, .data⟩ (by simp) rfl
                    have e14 : y 14 = .slice q3 lm.length k3 := (HQ.out.val 14 (by omega) t14).trans vv14.out
                    have t7 : d 7 = true := HD.out ⟨7, .guard⟩ (by simp) rfl
                    have e7 : y 7 = .bool false := (HQ.out.val 7 (by omega) t7).trans vv7.out
                    clear HD t14 t7
                    refine op_wanted hoo (by rw [e7]; kernel_rfl) fun K hK => ?_
                    clear hoo
                    refine wpIn_val (v := .int .i64 lm.length) (fun _ _ => trivial) (by go_simp) ?_
                    exact hK _ _ ⟨upd y 15 (V 15), by rw [vv15.out]; kernel_rfl, HQ.out.pure (i := 15) (by omega)⟩
                  · have hoo := hop
                    obtain rfl := Option.some.inj hop
                    have t9 : d 9 = true := HD.out ⟨9, .data⟩ (by simp) rfl
                    have e9 : y 9 = .int .i64 lm.length := (HQ.out.val 9 (by omega) t9).trans vv9.out
                    have t15 : d 15 = true := HD.out ⟨15, .data⟩ (by simp) rfl
                    have e15 : y 15 = .int .i64 lm.length := (HQ.out.val 15 (by omega) t15).trans vv15.out
                    have t7 : d 7 = true := HD.out ⟨7, .guard⟩ (by simp) rfl
                    have e7 : y 7 = .bool false := (HQ.out.val 7 (by omega) t7).trans vv7.out
                    clear HD t9 t15 t7
                    refine op_wanted hoo (by rw [e7]; kernel_rfl) fun K hK => ?_
                    clear hoo
                    refine wpIn_val (v := .bool false) (fun _ _ => trivial) (by go_simp) ?_
                    exact hK _ _ ⟨upd y 16 (V 16), by rw [vv16.out]; kernel_rfl, HQ.out.pure (i := 16) (by omega)⟩
                  · have hoo := hop
                    obtain rfl := Option.some.inj hop
                    have t7 : d 7 = true := HD.out ⟨7, .data⟩ (by simp) rfl
                    have e7 : y 7 = .bool false := (HQ.out.val 7 (by omega) t7).trans vv7.out
                    have t16 : d 16 = true := HD.out ⟨16, .data⟩ (by simp) rfl
                    have e16 : y 16 = .bool false := (HQ.out.val 16 (by omega) t16).trans vv16.out
                    clear HD t7 t16
                    refine op_wanted hoo (by kernel_rfl) fun K hK => ?_
                    clear hoo
                    refine wpIn_val (v := .bool false) (fun _ _ => trivial) (by go_simp) ?_
                    exact hK _ _ ⟨upd y 17 (V 17), by rw [vv17.out]; kernel_rfl, HQ.out.pure (i := 17) (by omega)⟩
                case f49 =>
                  rintro d act Wr ⟨y, rfl, hR⟩ hall
                  have q17 : y 17 = .bool false := (hR.val 17 (by omega) (hall 17 (by decide))).trans vv17.out
                  rw [q17]
                  clear hall
                  have HN : Hid (LI w X G Wr (k + 1) (.slice (some ⟨gb, 0, none⟩) ps.length capb)) := ⟨⟨_, _, _, _, _, _, _, _, HR.out.below hR.bu, HP.out.below hR.bu, own1_below HROW.out hR.bu, Nat.le_succ_of_le HPK.out⟩, HBW.out.trans (hR.bu.mono HBW.out.size)⟩
                  clear hR
                  go_wp2_with fail
                  have ew : wrap64 ((k : Int) + 1) = ((k + 1 : Nat) : Int) := wrap_k (Nat.lt_of_lt_of_le hlt HL.out)
                  rw [ew]
                  go_roundw
                  case rel => exact ⟨k + 1, hlt, rfl, HN.out⟩
                  case measure => exact meas_lt k l.length hlt
    · have tl : decide ((k : Int) < (l.length : Int)) = false := decide_eq_false (by omega)
      go_wp2_with fail
      refine (takeB_nil wr).mono ?_
      rintro e w' ⟨rfl, hw⟩
      rw [hw]
      clear hw w'
      go_wp2_with fail
      refine (gnext_gnil wr).mono ?_
      rintro e w' ⟨rfl, hw⟩
      rw [hw]
      clear hw w'
      go_wp2_with fail
      refine (send_nil wr 1).mono ?_
      rintro e w' ⟨rfl, hw⟩
      rw [hw]
      clear hw w'
      go_wp2_with fail
      refine (len_nil wr).mono ?_
      rintro e w' ⟨rfl, hw⟩
      rw [hw]
      clear hw w'
      go_wp2_with fail
      refine (gjoin_bnil wr G).mono ?_
      rintro e w' ⟨rfl, hw⟩
      rw [hw]
      clear hw w'
      go_wp2_with fail
      refine (gdrop_bnil wr G).mono ?_
      rintro e w' ⟨rfl, hw⟩
      rw [hw]
      clear hw w'
      go_wp2_with fail
      refine (gindex_bnil wr G).mono ?_
      rintro e w' ⟨rfl, hw⟩
      rw [hw]
      clear hw w'
      go_wp2_with fail
      refine (gjoin_gnil wr).mono ?_
      rintro e w' ⟨rfl, hw⟩
      rw [hw]
      clear hw w'
      go_wp2_with fail
      refine (gdrop_gnil wr).mono ?_
      rintro e w' ⟨rfl, hw⟩
      rw [hw]
      clear hw w'
      go_wp2_with fail
      refine (gindex_nil wr _ (.inl rfl)).mono ?_
      rintro e w' ⟨rfl, hw⟩
      rw [hw]
      clear hw w'
      go_wp2_with fail
      refine (awake_at wr).mono ?_
      rintro e W9 ⟨rfl, hb9⟩
      have HB9 := Lib.hid hb9
      clear hb9
      go_wp2_with fail
      go_ret
      exact ⟨rfl, HI.out.below.trans (HB9.out.mono HI.out.below.size)⟩
end Go.Proofs.Ytgbafpjeapkklaa.Mb
namespace Go.Proofs.Ytgbafpjeapkklaa.Mb
open Go.RowKit
theorem law_groups (v : Value) (w : World) {A : Option Addr} {l : List OpG} {cap : Nat} (hv : v = .slice A l.length cap) (ho : OpT w A l) : Calls Try.prog 7 #[v] w fun e w' => e = .returned (.bool true) ∧ Below w.heap.size w w' := by
  by_cases h : 60 < l.length
  · exact groups_long v w hv h
  · exact groups_walk v w hv ho (by omega)
end Go.Proofs.Ytgbafpjeapkklaa.Mb
