/- Numeric: NumericBack, the walk and the law. -/
import Derived.Test.YtlbgpfddmkpakaaOc
import Derived.Test.YtlbgpfddmkpakaaOa
import Derived.Test.YtlbgpfddmkpakaaFe
import Derived.Test.YtlbgpfddmkpakaaGa
namespace Go.Proofs.Ytlbgpfddmkpakaa.Nu
open Go.RowKit
set_option linter.unusedVariables false
set_option linter.unusedSimpArgs false
theorem shl3_at (s : Int) (hs : (Lit.int .u8 s).wf = true) : ∃ k : Nat, k ≤ 2 ∧ ∀ w, (Op.shift BinOp.shl IntKind.i64 1 IntKind.u8 (s.tmod 3)).run Try.prog w = .ok (.int .i64 ((2 ^ k : Nat) : Int)) w := by
  have hb : 0 ≤ s ∧ s ≤ 255 := by
    have h1 : IntKind.u8.min = 0 := by kernel_rfl
    have h2 : IntKind.u8.max = 255 := by kernel_rfl
    simp [Lit.wf] at hs
    rw [h1, h2] at hs
    exact hs
  have h3 : s.tmod 3 = s % 3 := Int.tmod_eq_emod_of_nonneg hb.1
  rw [h3]
  have h4 : s % 3 = 0 ∨ s % 3 = 1 ∨ s % 3 = 2 := by omega
  rcases h4 with h | h | h <;> rw [h]
  · exact ⟨0, by decide, fun w => by first | rfl | kernel_rfl⟩
  · exact ⟨1, by decide, fun w => by first | rfl | kernel_rfl⟩
  · exact ⟨2, by decide, fun w => by first | rfl | kernel_rfl⟩
theorem slice_eight (b n : Nat) (hn : n ≤ 4) (W : World) : (Instr.sliceAt 68 (.pointer (some ⟨b, 0, none⟩)) none (some (.int .i64 (n : Int))) none).run Try.prog W = .ok (.slice (some ⟨b, 0, none⟩) n 4) W := by
  have : n = 0 ∨ n = 1 ∨ n = 2 ∨ n = 3 ∨ n = 4 := by omega
  rcases this with h | h | h | h | h <;> subst h
  · show _ = _; kernel_rfl
  · show _ = _; kernel_rfl
  · show _ = _; kernel_rfl
  · show _ = _; kernel_rfl
  · show _ = _; kernel_rfl
theorem numL_nl (X : Nat → Int × Int) (hX : ∀ j, In16 (X j)) (n : Nat) : NL 1000 (numL X n) (upto (fun j => (sm (X j).1, sm (X j).2)) n) :=
  nl_upto fun j _ => ⟨nw_nb (Nat.le_trans (sm_le _) (by decide)) (Nat.le_trans (sm_le _) (by decide)), sm_le _, sm_le _⟩
theorem max6 (w : World) : (Builtin.max_ #[40, 40, 40, 40, 40, 40] 40 #[.int .i64 0, .int .i64 0, .int .i64 0, .int .i64 0, .int .i64 0, .int .i64 0]).run Try.prog w = .ok (.int .i64 0) w := by
  show _ = _; kernel_rfl
theorem pts_small {k : Nat} (hk : k ≤ 2) : ((2 ^ k : Nat) : Int) ∈ pts := by
  have : k = 0 ∨ k = 1 ∨ k = 2 := by omega
  rcases this with rfl | rfl | rfl <;> decide
theorem ptr_small {k : Nat} (hk : k ≤ 2) (b : Bool) (v : Value) {l : List (Nat × Nat)} (hl : l.length = 2 ^ k) (w : World) (hr : Row w v l) :
    Calls Try.prog 21 #[v, .bool b] w fun e w' => ∃ v', e = .returned (.tuple #[v', .int .i64 0]) ∧ Row w' v' (if b then inv k l else fft k l) ∧ Below w.heap.size w w' := by
  refine (ptr_all b v l w hr).mono ?_
  rintro e w' ⟨v', he, h1, h2⟩
  have hp : (l.length : Int) ∈ pts := by rw [hl]; exact pts_small hk
  have et : trOf b l = (if b then inv k l else fft k l, 0) := by
    unfold trOf
    rw [if_pos hp, hl, log2_pow]
  rw [et] at he h1
  exact ⟨v', he, h1, h2⟩
theorem ptr_fwd {k : Nat} (hk : k ≤ 2) (v : Value) {l : List (Nat × Nat)} (hl : l.length = 2 ^ k) (w : World) (hr : Row w v l) :
    Calls Try.prog 21 #[v, .bool false] w fun e w' => ∃ v', e = .returned (.tuple #[v', .int .i64 0]) ∧ Row w' v' (fft k l) ∧ Below w.heap.size w w' := ptr_small hk false v hl w hr
theorem ptr_inv {k : Nat} (hk : k ≤ 2) (v : Value) {l : List (Nat × Nat)} (hl : l.length = 2 ^ k) (w : World) (hr : Row w v l) :
    Calls Try.prog 21 #[v, .bool true] w fun e w' => ∃ v', e = .returned (.tuple #[v', .int .i64 0]) ∧ Row w' v' (inv k l) ∧ Below w.heap.size w w' := ptr_small hk true v hl w hr
theorem sum_nl {M n : Nat} {A B : List (Nat × Nat)} {z y : List (Int × Int)} (ha : NL M A z) (hb : NL M B y) (hM : M + M ≤ 2 ^ 24) : NL (M + M) (upto (fun i => addc (el A i) (el B i)) n) (sumz z y n) :=
  nl_upto fun i _ => ⟨(ha.nz i).add (hb.nz i) (ha.bd i) (hb.bd i) hM, (ha.bd i).add (hb.bd i)⟩
theorem turn_nl {M n : Nat} {A : List (Nat × Nat)} {z : List (Int × Int)} (ha : NL M A z) : NL M (upto (fun i => el A ((i + n - 1) % n)) n) (turnz z n) :=
  nl_upto fun i _ => ⟨ha.nz _, ha.bd _⟩
theorem ptw_small {k : Nat} (hk : k ≤ 2) (w : World) : Calls Try.prog 18 #[.int .i64 ((2 ^ k : Nat) : Int)] w fun e w' => ∃ v, e = .returned (.tuple #[v, .int .i64 0]) ∧ Row w' v (twL (2 ^ k)) ∧ Below w.heap.size w w' := by
  refine (ptw_all ((2 ^ k : Nat) : Int) w).mono ?_
  rintro e w' ⟨v', he, h1, h2⟩
  have et : twOf ((2 ^ k : Nat) : Int) = (twL (2 ^ k), 0) := by
    unfold twOf
    rw [if_pos (pts_small hk)]; rfl
  rw [et] at he h1
  exact ⟨v', he, h1, h2⟩
theorem inv_length (k : Nat) (l : List (Nat × Nat)) : (inv k l).length = 2 ^ k := upto_length _ _
/-- A row of a length above zero. -/
theorem row_some {W : World} {v : Value} {l : List (Nat × Nat)} {n : Nat} (h : Row W v l) (hl : l.length = n) (hn : 0 < n) : ∃ g off cap, v = .slice (some ⟨g, off, none⟩) n cap ∧ n ≤ cap ∧ Rd W g off l := by
  obtain ⟨g, off, cap, hv, hc, hr⟩ := h.rd (by intro e; rw [e] at hl; simp at hl; omega)
  rw [hl] at hv hc
  exact ⟨g, off, cap, hv, hc, hr⟩
theorem row32_some {W : World} {v : Value} {l : List Nat} {n : Nat} (h : Row32 W v l) (hl : l.length = n) (hn : 0 < n) : ∃ g off cap, v = .slice (some ⟨g, off, none⟩) n cap ∧ n ≤ cap ∧ g < W.heap.size ∧ ∀ (k x : Nat), l[k]? = some x → W.cell? ⟨g, off + k, none⟩ = some (.int .u32 x) := by
  obtain ⟨p, cap, hv, hc, h0 | ⟨g, off, rfl, hg, hx⟩⟩ := h
  · rw [h0] at hl; simp at hl; omega
  · rw [hl] at hv hc
    exact ⟨g, off, cap, hv, hc, hg, hx⟩
theorem getD_upto (f : Nat → Nat) (n j : Nat) (hj : j < n) : (upto f n).getD j 0 = f j := by
  rw [List.getD_eq_getElem?_getD, upto_get f hj]; rfl
theorem wh_near {z : Int} (hz : z.natAbs ≤ 2 ^ 24) : Wh (canon (FloatKind.f32.nearest z)) z := by
  have h : Va 149 (Ieee.single.read (FloatKind.f32.nearest z)) z := nearest_whole z hz
  exact ⟨_, canon_some h.num, h⟩
theorem spec_small {k : Nat} (hk : k ≤ 2) (v : Value) {l : List Nat} (hl : l.length = 2 ^ k) (w : World) (hr : Row32 w v l) :
    Calls Try.prog 25 #[v] w fun e w' => ∃ v', e = .returned (.tuple #[v', .int .i64 0]) ∧ Row32 w' v' (spec k l) ∧ Below w.heap.size w w' := by
  have h70 : l.length ≤ 70 := by
    rw [hl]
    exact Nat.le_trans (Nat.pow_le_pow_right (by decide) hk) (show 2 ^ 2 ≤ 70 by decide)
  refine (spectrum_at v l w hr h70).mono ?_
  intro e w' hsp
  obtain ⟨v', he, h1, h2⟩ := sp_post hsp
  have hp : (l.length : Int) ∈ pts := by rw [hl]; exact pts_small hk
  have et : spOf l = (spec k l, 0) := by
    unfold spOf
    rw [if_pos hp, hl, log2_pow]
  rw [et] at he h1
  exact ⟨v', he, h1, h2⟩
theorem spec_len {k : Nat} (hk : k ≤ 2) (l : List Nat) : (spec k l).length ≤ 1000 := by
  unfold spec
  rw [upto_length]
  have : 2 ^ k ≤ 4 := Nat.le_trans (Nat.pow_le_pow_right (by decide) hk) (show 2 ^ 2 ≤ 4 by decide)
  omega
/-- Lists of the same whole numbers. -/
theorem same_nl {M N : Nat} {v u : Value} {l m : List (Nat × Nat)} {z : List (Int × Int)} {w : World} (hr : Row w v l) (hs : Row w u m) (hl : NL M l z) (hm : NL N m z) (h70 : l.length ≤ 1000) :
    Calls Try.prog 34 #[v, u] w fun e w' => e = .returned (.bool true) ∧ Below w.heap.size w w' :=
  same_at v u l m w hr hs (hl.len.trans hm.len.symm) h70 fun i _ => ⟨_, hl.nz i, hm.nz i⟩
set_option maxRecDepth 100000 in
set_option maxHeartbeats 8000000 in
theorem back_walk (X Y : Nat → Int × Int) (hX : ∀ j, In16 (X j)) (hY : ∀ j, In16 (Y j)) (s : Int) (hs : (Lit.int .u8 s).wf = true) (w : World) :
    Calls Try.prog 7 #[.agg (eight X), .agg (eight Y), .int .u8 s] w fun e w' => e = .returned (.bool true) ∧ Below w.heap.size w w' := by
  obtain ⟨k, hk, hsh⟩ := shl3_at s hs
  obtain ⟨n, hn⟩ : ∃ n, n = 2 ^ k := ⟨_, rfl⟩
  rw [← hn] at hsh
  have hn4 : n ≤ 4 := by rw [hn]; exact Nat.le_trans (Nat.pow_le_pow_right (by decide) hk) (show 2 ^ 2 ≤ 4 by decide)
  have hnp : 0 < n := by rw [hn]; exact Nat.two_pow_pos k
  have HX := Lib.hid hX
  have HY := Lib.hid hY
  have HS := Lib.hid hs
  have HK := Lib.hid hk
  have HN := Lib.hid hn
  have HN4 := Lib.hid hn4
  have HNP := Lib.hid hnp
  clear hX hY hs hk hn hn4 hnp
  go_enter Try.func7, Try.ntmps7
  go_upto_region 2 with fail
  clear hsh
  have u0 : Below w.heap.size w (w.alloc (Obj.cells (eight X) 68)) := (Below.refl _ _).alloc (Nat.le_refl _) _
  have m0 : Eight (w.alloc (Obj.cells (eight X) 68)) w.heap.size X := heap_six w _ 68
  have z1' : (w.alloc (Obj.cells (eight X) 68)).heap.size = w.heap.size + 1 := by simp
  generalize w.alloc (Obj.cells (eight X) 68) = W1 at *
  have u1 : Below W1.heap.size W1 (W1.alloc (Obj.cells (eight Y) 68)) := (Below.refl _ _).alloc (Nat.le_refl _) _
  have m1 : Eight (W1.alloc (Obj.cells (eight Y) 68)) W1.heap.size Y := heap_six W1 _ 68
  have HA := Lib.hid (m0.step u1)
  have HB := Lib.hid m1
  have HL := Lib.hid (u0.trans (u1.mono u0.size))
  rw [z1'] at HB
  generalize W1.alloc (Obj.cells (eight Y) 68) = W0 at *
  clear u0 u1 m0 m1 z1'
  generalize w.heap.size + 1 = XB at *
  obtain ⟨XA, hXA⟩ : ∃ XA, XA = w.heap.size := ⟨_, rfl⟩
  rw [← hXA]
  rw [← hXA] at HA
  clear hXA
  obtain ⟨V, hV⟩ : ∃ V : Nat → Value, V = fun i => ([.int .i64 n, .slice (some ⟨XA, 0, none⟩) n 4, undef, .int .i64 n, .slice (some ⟨XB, 0, none⟩) n 4, undef, undef, undef] : List Value).getD i undef := ⟨_, rfl⟩
  have v0 : Hid (V 0 = .int .i64 n) := Lib.hid (by rw [hV]; rfl)
  have v1 : Hid (V 1 = .slice (some ⟨XA, 0, none⟩) n 4) := Lib.hid (by rw [hV]; rfl)
  have v3 : Hid (V 3 = .int .i64 n) := Lib.hid (by rw [hV]; rfl)
  have v4 : Hid (V 4 = .slice (some ⟨XB, 0, none⟩) n 4) := Lib.hid (by rw [hV]; rfl)
  have vo : Hid (∀ i, 8 ≤ i → V i = undef) := Lib.hid (by intro i hi; rw [hV]; simp only [List.getD_eq_getElem?_getD]; rw [List.getElem?_eq_none (by simpa using hi)]; rfl)
  obtain ⟨R, hR⟩ : ∃ R : Nat → Option (List (Nat × Nat)), R = fun i => if i = 2 ∨ i = 6 then some (numL X n) else if i = 5 ∨ i = 7 then some (numL Y n) else none := ⟨_, rfl⟩
  have r0 : Hid (R 0 = none) := Lib.hid (by rw [hR]; rfl)
  have r1 : Hid (R 1 = none) := Lib.hid (by rw [hR]; rfl)
  have r2 : Hid (R 2 = some (numL X n)) := Lib.hid (by rw [hR]; rfl)
  have r3 : Hid (R 3 = none) := Lib.hid (by rw [hR]; rfl)
  have r4 : Hid (R 4 = none) := Lib.hid (by rw [hR]; rfl)
  have r5 : Hid (R 5 = some (numL Y n)) := Lib.hid (by rw [hR]; rfl)
  have r6 : Hid (R 6 = some (numL X n)) := Lib.hid (by rw [hR]; rfl)
  have r7 : Hid (R 7 = some (numL Y n)) := Lib.hid (by rw [hR]; rfl)
  have ro : Hid (∀ i, 8 ≤ i → R i = none) := Lib.hid (by intro i hi; rw [hR]; show (if _ then _ else if _ then _ else _) = _; rw [if_neg (by omega), if_neg (by omega)])
  clear hV hR
  generalize Value.int IntKind.u8 (s.tmod 3) = t35 at *
  refine (wpIn_wide (n := 20)).1 ?_
  refine wpIn_region_inv (by kernel_rfl) (back_of (by kernel_rfl)) (fun d act Wx => ∃ y : Nat → Value, act = { tmps := #[.agg (eight X), .agg (eight Y), .int .u8 s, .pointer (some ⟨XA, 0, none⟩), .pointer (some ⟨XB, 0, none⟩), undef, .bool false, .int .i64 n, y 6, y 7, undef, undef, undef, undef, undef, undef, undef, undef, undef, undef, undef, undef, undef, undef, undef, undef, undef, undef, undef, undef, undef, undef, undef, undef, .int .u8 s, t35, .int .i64 n, y 0, y 1, y 2, y 3, y 4, y 5, undef, undef, undef, undef, undef, undef, undef, undef, undef, undef, undef, undef, undef, undef, undef, undef, undef, undef, undef, undef, undef, undef, undef, undef, undef, undef, undef, undef, undef, undef, undef, undef, undef, undef, undef, undef, undef, undef, undef, undef, undef, undef, undef, undef, undef, undef, undef, undef, undef, undef, undef, undef, undef, undef, undef, undef, undef, undef, undef, undef, undef, undef, undef, undef, undef, undef, undef, undef, undef, undef, undef, undef, undef, undef, undef, undef, undef, undef, undef, undef, undef, undef, undef, undef, undef, undef, undef, undef, undef, undef, undef, undef, undef, undef, undef, undef, undef, undef, undef, undef, undef, undef, undef, undef, undef, undef, undef, undef, undef, undef, undef, undef, undef, undef, undef, undef, undef, undef, undef, undef, undef, undef, undef, undef, undef, undef, undef, undef, undef, undef, undef, undef, undef, undef, undef, undef, undef, undef, undef, undef, undef, undef, undef, undef, undef, undef, undef, undef, undef, undef, undef, undef, undef, undef, undef, undef, undef, undef, undef, undef, undef, undef, undef, undef, undef, undef, undef, undef, undef, undef, undef, undef, undef, undef, undef, undef, undef, undef, undef, undef, undef, undef, undef, undef, undef, undef], defers := [] } ∧ QR W0 V R d y Wx) ?r2 ?s2 ?f2
  case r2 => exact fun d hd => ⟨fun _ => undef, rfl, QR.start 8 (fun i hi => ⟨ro.out i hi, vo.out i hi⟩) hd⟩
  case s2 =>
    rintro i oi hop d act Wx ⟨y, rfl, hR⟩ hSi hdep
    have hi : i < 8 := (Array.getElem?_eq_some_iff.1 hop).1
    have HQ := Lib.hid hR
    have HD := Lib.hid hdep
    clear hR hdep hSi
    obtain rfl | rfl | rfl | rfl | rfl | rfl | rfl | rfl : i = 0 ∨ i = 1 ∨ i = 2 ∨ i = 3 ∨ i = 4 ∨ i = 5 ∨ i = 6 ∨ i = 7 := by omega
    · have hoo := hop
      obtain rfl := Option.some.inj hop
      clear HD
      refine op_wanted hoo (by kernel_rfl) fun K hK => ?_
      clear hoo
      refine wpIn_val (v := .int .i64 n) (fun _ _ => trivial) (by go_simp) ?_
      exact hK _ _ ⟨upd y 0 (V 0), by rw [v0.out]; kernel_rfl, HQ.out.pure (i := 0) r0.out⟩
    · have hoo := hop
      obtain rfl := Option.some.inj hop
      have t0 : d 0 = true := HD.out ⟨0, .data⟩ (by simp) rfl
      have e0 : y 0 = .int .i64 n := (HQ.out.val 0 r0.out t0).trans v0.out
      clear HD
      refine op_wanted hoo (by kernel_rfl) fun K hK => ?_
      clear hoo
      have sl := slice_eight XA n HN4.out Wx
      refine wpIn_val (v := .slice (some ⟨XA, 0, none⟩) n 4) (fun _ _ => trivial) (by go_simp) ?_
      exact hK _ _ ⟨upd y 1 (V 1), by rw [v1.out]; kernel_rfl, HQ.out.pure (i := 1) r1.out⟩
    · have hoo := hop
      obtain rfl := Option.some.inj hop
      have t1 : d 1 = true := HD.out ⟨1, .data⟩ (by simp) rfl
      have e1 : y 1 = .slice (some ⟨XA, 0, none⟩) n 4 := (HQ.out.val 1 r1.out t1).trans v1.out
      clear HD
      refine op_wanted hoo (by kernel_rfl) fun K hK => ?_
      clear hoo
      refine wpIn_row (l := numL X n) (by go_simp) ((numbers_at X HX.out XA n HN4.out _ (Eight.step HA.out HQ.out.bu)).mono fun e W' ⟨v, h1, h2, h3⟩ => ⟨v, h1, h2.row, h3⟩) fun v Wn hr hb => ?_
      exact hK _ _ ⟨upd y 2 v, by kernel_rfl, (HQ.out.walk hb).put (i := 2) r2.out hr⟩
    · have hoo := hop
      obtain rfl := Option.some.inj hop
      clear HD
      refine op_wanted hoo (by kernel_rfl) fun K hK => ?_
      clear hoo
      refine wpIn_val (v := .int .i64 n) (fun _ _ => trivial) (by go_simp) ?_
      exact hK _ _ ⟨upd y 3 (V 3), by rw [v3.out]; kernel_rfl, HQ.out.pure (i := 3) r3.out⟩
    · have hoo := hop
      obtain rfl := Option.some.inj hop
      have t3 : d 3 = true := HD.out ⟨3, .data⟩ (by simp) rfl
      have e3 : y 3 = .int .i64 n := (HQ.out.val 3 r3.out t3).trans v3.out
      clear HD
      refine op_wanted hoo (by kernel_rfl) fun K hK => ?_
      clear hoo
      have sl := slice_eight XB n HN4.out Wx
      refine wpIn_val (v := .slice (some ⟨XB, 0, none⟩) n 4) (fun _ _ => trivial) (by go_simp) ?_
      exact hK _ _ ⟨upd y 4 (V 4), by rw [v4.out]; kernel_rfl, HQ.out.pure (i := 4) r4.out⟩
    · have hoo := hop
      obtain rfl := Option.some.inj hop
      have t4 : d 4 = true := HD.out ⟨4, .data⟩ (by simp) rfl
      have e4 : y 4 = .slice (some ⟨XB, 0, none⟩) n 4 := (HQ.out.val 4 r4.out t4).trans v4.out
      clear HD
      refine op_wanted hoo (by kernel_rfl) fun K hK => ?_
      clear hoo
      refine wpIn_row (l := numL Y n) (by go_simp) ((numbers_at Y HY.out XB n HN4.out _ (Eight.step HB.out HQ.out.bu)).mono fun e W' ⟨v, h1, h2, h3⟩ => ⟨v, h1, h2.row, h3⟩) fun v Wn hr hb => ?_
      exact hK _ _ ⟨upd y 5 v, by kernel_rfl, (HQ.out.walk hb).put (i := 5) r5.out hr⟩
    · have hoo := hop
      obtain rfl := Option.some.inj hop
      have t2 : d 2 = true := HD.out ⟨2, .data⟩ (by simp) rfl
      clear HD
      refine op_wanted hoo (by kernel_rfl) fun K hK => ?_
      clear hoo
      refine wpIn_val (v := y 2) (fun _ _ => trivial) (by go_simp) ?_
      exact hK _ _ ⟨upd y 6 (y 2), by kernel_rfl, HQ.out.put (i := 6) r6.out (HQ.out.row 2 _ r2.out t2)⟩
    · have hoo := hop
      obtain rfl := Option.some.inj hop
      have t5 : d 5 = true := HD.out ⟨5, .data⟩ (by simp) rfl
      clear HD
      refine op_wanted hoo (by kernel_rfl) fun K hK => ?_
      clear hoo
      refine wpIn_val (v := y 5) (fun _ _ => trivial) (by go_simp) ?_
      exact hK _ _ ⟨upd y 7 (y 5), by kernel_rfl, HQ.out.put (i := 7) r7.out (HQ.out.row 5 _ r5.out t5)⟩
  case f2 =>
    rintro d act Wx ⟨y, rfl, hR⟩ hall
    have RA := Lib.hid (hR.row 6 _ r6.out (hall 6 (by decide)))
    have RB := Lib.hid (hR.row 7 _ r7.out (hall 7 (by decide)))
    have HL2 := Lib.hid (HL.out.trans (hR.bu.mono HL.out.size))
    have HA2 := Lib.hid (Eight.step HA.out hR.bu)
    clear hR hall HA HB HL
    clear v0 v1 v3 v4 r0 r1 r2 r3 r4 r5 r6 r7 ro vo
    clear V R d
    generalize y 6 = va at *
    generalize y 7 = vb at *
    have NA := Lib.hid (numL_nl X HX.out n)
    have NB := Lib.hid (numL_nl Y HY.out n)
    have lA : Hid ((numL X n).length = n) := upto_length _ _
    have lB : Hid ((numL Y n).length = n) := upto_length _ _
    obtain ⟨ga, oa, ca, rfl, hca, hra⟩ := RA.out.rd (by intro h; have := lA.out; rw [h] at this; have := HNP.out; simp at *; omega)
    obtain ⟨gb, ob, cb', rfl, hcb, hrb⟩ := RB.out.rd (by intro h; have := lB.out; rw [h] at this; have := HNP.out; simp at *; omega)
    rw [lA.out] at hca RA ⊢
    rw [lB.out] at hcb RB ⊢
    generalize numL X n = LA at *
    generalize numL Y n = LB at *
    have RDA := Lib.hid hra
    have RDB := Lib.hid hrb
    clear hra hrb
    try dsimp only
    obtain ⟨f1, hf1⟩ : ∃ f : Nat → Nat × Nat, f = fun j => addc (el LA j) (el LB j) := ⟨_, rfl⟩
    obtain ⟨f2, hf2⟩ : ∃ f : Nat → Nat × Nat, f = fun j => el LA ((j + n - 1) % n) := ⟨_, rfl⟩
    have F1 := Lib.hid hf1
    have F2 := Lib.hid hf2
    clear hf1 hf2
    go_wp2_with fail
    go_loopw [10, 11, 44] (fun s10 s11 s44 wr => ∃ j : Nat, ∃ c1 c2 : Value, j ≤ n ∧ s44 = .int .i64 j ∧ s10 = c1 ∧ s11 = c2 ∧ TN 26 Wx c1 (upto f1 j) c2 (upto f2 j) [] wr) (fun _ _ s44 _ => n - (intOf s44).toNat)
    case atStart => exact ⟨0, _, _, Nat.zero_le _, rfl, rfl, rfl, TN.start Wx 26⟩
    case round =>
      obtain ⟨j, c1, c2, hj, rfl, rfl, rfl, ht⟩ := hrel
      have HT1 := Lib.hid ht
      obtain ⟨pu, cu, rfl⟩ := ht.o1.slice
      obtain ⟨pv, cv, rfl⟩ := ht.o2.slice
      clear ht
      have L1 : Hid ((upto f1 j).length = j) := upto_length _ _
      have L2 : Hid ((upto f2 j).length = j) := upto_length _ _
      rw [L1.out, L2.out] at HT1 ⊢
      by_cases hlt : j < n
      · have tl : decide ((j : Int) < (n : Int)) = true := decide_eq_true (by omega)
        have tl' : decide (j < n) = true := decide_eq_true hlt
        have h4 := HN4.out
        have hM : (j + n - 1) % n < n := Nat.mod_lt _ HNP.out
        have hx0 := el_get (l := LA) (j := j) (by rw [lA.out]; exact hlt)
        have hx1 := el_get (l := LB) (j := j) (by rw [lB.out]; exact hlt)
        have hx2 := el_get (l := LA) (j := (j + n - 1) % n) (by rw [lA.out]; exact hM)
        obtain ⟨c0, c1⟩ := RDA.out.2 _ _ hx0
        obtain ⟨d0, d1⟩ := RDB.out.2 _ _ hx1
        obtain ⟨e0, e1⟩ := RDA.out.2 _ _ hx2
        have ek1 : wrap64 ((j : Int) + 1) = ((j + 1 : Nat) : Int) := by unfold wrap64; omega
        have bi : (j : Int) < (n : Int) := by omega
        have HC1 : Hid (upto f1 (j + 1) = upto f1 j ++ [addc (el LA j) (el LB j)]) := by show _ = _; rw [upto_succ, F1.out]
        have HC2 : Hid (upto f2 (j + 1) = upto f2 j ++ [el LA ((j + n - 1) % n)]) := by show _ = _; rw [upto_succ, F2.out]
        obtain ⟨M, hM2⟩ : ∃ M, M = j + n - 1 := ⟨_, rfl⟩
        rw [← hM2] at hM hx2 e0 e1 HC2
        have w1 : wrap64 ((j : Int) + (n : Int)) = (j : Int) + (n : Int) := by unfold wrap64; omega
        have w2 : wrap64 ((j : Int) + (n : Int) - 1) = (M : Int) := by unfold wrap64; omega
        have w3 : (M : Int).tmod (n : Int) = ((M % n : Nat) : Int) := by rw [Int.tmod_eq_emod_of_nonneg (by omega)]; rfl
        have w4 : wrap64 ((M % n : Nat) : Int) = ((M % n : Nat) : Int) := by unfold wrap64; omega
        have w5 : ((n : Int) == 0) = false := by have := HNP.out; simp; omega
        generalize el LA j = a at *
        generalize el LB j = b at *
        generalize el LA (M % n) = g at *
        generalize M % n = m at *
        obtain ⟨a0, a1⟩ := a
        obtain ⟨b0, b1⟩ := b
        obtain ⟨g0, g1⟩ := g
        dsimp only at c0 c1 d0 d1 e0 e1
        obtain ⟨r0, r1, hr⟩ : ∃ u v, (u, v) = addc (a0, a1) (b0, b1) := ⟨_, _, rfl⟩
        rw [← hr] at HC1
        have HR := Lib.hid hr
        have C0 := Lib.hid c0
        have C1 := Lib.hid c1
        have D0 := Lib.hid d0
        have D1 := Lib.hid d1
        have E0 := Lib.hid e0
        have E1 := Lib.hid e1
        have WW := Lib.hid (And.intro w1 (And.intro w2 (And.intro w3 (And.intro w4 w5))))
        have HLT := Lib.hid hlt
        have HMN := Lib.hid hM
        have HLE1 : Hid ((upto f1 j).length ≤ 2000) := by show _ ≤ 2000; rw [L1.out]; omega
        clear hj hlt h4 hM hM2 hx0 hx1 hx2 hr w1 w2 w3 w4 w5 c0 c1 d0 d1 e0 e1
        go_upto_region 7 with fail
        obtain ⟨V, hV⟩ : ∃ V : Nat → Value, V = fun vv => ([.slice pu j cu, .slice (some ⟨ga, oa, none⟩) n ca, .int .i64 ↑j, .pointer (some ⟨ga, oa + j * 2, none⟩), .agg #[.int .u32 a0, .int .u32 a1], .slice (some ⟨gb, ob, none⟩) n cb', .int .i64 ↑j, .pointer (some ⟨gb, ob + j * 2, none⟩), .agg #[.int .u32 b0, .int .u32 b1], .agg #[.int .u32 r0, .int .u32 r1]] : List Value).getD vv undef := ⟨_, rfl⟩
        have v0 : Hid (V 0 = .slice pu j cu) := Lib.hid (by rw [hV]; rfl)
        have v1 : Hid (V 1 = .slice (some ⟨ga, oa, none⟩) n ca) := Lib.hid (by rw [hV]; rfl)
        have v2 : Hid (V 2 = .int .i64 ↑j) := Lib.hid (by rw [hV]; rfl)
        have v3 : Hid (V 3 = .pointer (some ⟨ga, oa + j * 2, none⟩)) := Lib.hid (by rw [hV]; rfl)
        have v4 : Hid (V 4 = .agg #[.int .u32 a0, .int .u32 a1]) := Lib.hid (by rw [hV]; rfl)
        have v5 : Hid (V 5 = .slice (some ⟨gb, ob, none⟩) n cb') := Lib.hid (by rw [hV]; rfl)
        have v6 : Hid (V 6 = .int .i64 ↑j) := Lib.hid (by rw [hV]; rfl)
        have v7 : Hid (V 7 = .pointer (some ⟨gb, ob + j * 2, none⟩)) := Lib.hid (by rw [hV]; rfl)
        have v8 : Hid (V 8 = .agg #[.int .u32 b0, .int .u32 b1]) := Lib.hid (by rw [hV]; rfl)
        have v9 : Hid (V 9 = .agg #[.int .u32 r0, .int .u32 r1]) := Lib.hid (by rw [hV]; rfl)
        clear hV
        refine (wpIn_wide (n := 20)).1 ?_
        refine wpIn_region_cl (by kernel_rfl) (back_of (by kernel_rfl)) (fun d act Wn => ∃ q : Nat → Value, act = { tmps := #[.agg (eight X), .agg (eight Y), .int .u8 s, .pointer (some ⟨XA, 0, none⟩), .pointer (some ⟨XB, 0, none⟩), undef, .bool false, .int .i64 ↑n, .slice (some ⟨ga, oa, none⟩) n ca, .slice (some ⟨gb, ob, none⟩) n cb', q 12, .slice pv j cv, .slice none 0 0, .int .i64 ↑j, undef, undef, undef, undef, undef, undef, undef, undef, undef, undef, undef, undef, undef, undef, undef, undef, undef, undef, undef, undef, .int .u8 s, t35, .int .i64 ↑n, y 0, y 1, y 2, y 3, y 4, y 5, .int .i64 ↑n, .int .i64 ↑j, .bool true, .int .i64 ↑j, q 0, q 1, q 2, q 3, q 4, q 5, q 6, q 7, q 8, q 9, q 10, q 11, u59, u60, u61, u62, u63, u64, u65, u66, u67, u68, u69, u70, u71, undef, undef, undef, undef, undef, undef, undef, undef, undef, undef, undef, undef, undef, undef, undef, undef, undef, undef, undef, undef, undef, undef, undef, undef, undef, undef, undef, undef, undef, undef, undef, undef, undef, undef, undef, undef, undef, undef, undef, undef, undef, undef, undef, undef, undef, undef, undef, undef, undef, undef, undef, undef, undef, undef, undef, undef, undef, undef, undef, undef, undef, undef, undef, undef, undef, undef, undef, undef, undef, undef, undef, undef, undef, undef, undef, undef, undef, undef, undef, undef, undef, undef, undef, undef, undef, undef, undef, undef, undef, undef, undef, undef, undef, undef, undef, undef, undef, undef, undef, undef, undef, undef, undef, undef, undef, undef, undef, undef, undef, undef, undef, undef, undef, undef, undef, undef, undef, undef, undef, undef, undef, undef, undef, undef, undef, undef, undef, undef, undef, undef, undef, undef, undef, undef, undef, undef, undef, undef, undef, undef, undef, undef, undef, undef, undef, undef, undef, undef, undef, undef, undef, undef, undef, undef, undef, undef, undef], defers := [] } ∧ QT 26 Wx wr (.slice pu j cu) (upto f1 j) (.slice pv j cv) (upto f2 j) V 10 (r0, r1) d q Wn) ?r7 ?s7 ?f7
        case r7 => exact fun d hd => ⟨(upd (upd (upd (upd (upd (upd (upd (upd (upd (upd (upd (upd (upd (fun _ => undef) 0 (u47)) 1 (u48)) 2 (u49)) 3 (u50)) 4 (u51)) 5 (u52)) 6 (u53)) 7 (u54)) 8 (u55)) 9 (u56)) 10 (u57)) 11 (u58)) 12 (.slice pu j cu)), rfl, QT.start HT1.out rfl (fun i hi => hd i hi)⟩
        case s7 =>
          rintro ix oi hop d act Wc ⟨q, rfl, hR⟩ hSi hdep hcl
          have hix : ix < 13 := (Array.getElem?_eq_some_iff.1 hop).1
          have HQ := Lib.hid hR
          have HD := Lib.hid hdep
          have HSI := Lib.hid hSi
          have HCL := Lib.hid hcl
          clear hR hdep hSi hcl
          obtain rfl | rfl | rfl | rfl | rfl | rfl | rfl | rfl | rfl | rfl | rfl | rfl | rfl : ix = 0 ∨ ix = 1 ∨ ix = 2 ∨ ix = 3 ∨ ix = 4 ∨ ix = 5 ∨ ix = 6 ∨ ix = 7 ∨ ix = 8 ∨ ix = 9 ∨ ix = 10 ∨ ix = 11 ∨ ix = 12 := by omega
          · have hoo := hop
            obtain rfl := Option.some.inj hop
            have SI : d 0 = false := HSI.out
            have eu : q 12 = .slice pu j cu := HQ.out.c4 (Bool.eq_false_iff.2 (fun h => by have h' := HCL.out 12 _ rfl h ⟨0, .phase⟩ (by simp) rfl; have h' : d 0 = true := h'; rw [SI] at h'; cases h'))
            clear SI
            clear HD HSI HCL
            refine op_wanted hoo (by kernel_rfl) fun K hK => ?_
            clear hoo
            refine wpIn_val (v := .slice pu j cu) (fun _ _ => trivial) (by go_simp) ?_
            exact hK _ _ ⟨upd q 0 (V 0), by rw [v0.out]; kernel_rfl, HQ.out.pure (i := 0) (by omega)⟩
          · have hoo := hop
            obtain rfl := Option.some.inj hop
            clear HD HSI HCL
            refine op_wanted hoo (by kernel_rfl) fun K hK => ?_
            clear hoo
            refine wpIn_val (v := .slice (some ⟨ga, oa, none⟩) n ca) (fun _ _ => trivial) (by go_simp) ?_
            exact hK _ _ ⟨upd q 1 (V 1), by rw [v1.out]; kernel_rfl, HQ.out.pure (i := 1) (by omega)⟩
          · have hoo := hop
            obtain rfl := Option.some.inj hop
            clear HD HSI HCL
            refine op_wanted hoo (by kernel_rfl) fun K hK => ?_
            clear hoo
            refine wpIn_val (v := .int .i64 ↑j) (fun _ _ => trivial) (by go_simp) ?_
            exact hK _ _ ⟨upd q 2 (V 2), by rw [v2.out]; kernel_rfl, HQ.out.pure (i := 2) (by omega)⟩
          · have hoo := hop
            obtain rfl := Option.some.inj hop
            have t1 : d 1 = true := HD.out ⟨1, .data⟩ (by simp) rfl
            have e1 : q 1 = .slice (some ⟨ga, oa, none⟩) n ca := (HQ.out.val 1 (by omega) t1).trans v1.out
            have t2 : d 2 = true := HD.out ⟨2, .data⟩ (by simp) rfl
            have e2 : q 2 = .int .i64 ↑j := (HQ.out.val 2 (by omega) t2).trans v2.out
            clear HD HSI HCL
            refine op_wanted hoo (by kernel_rfl) fun K hK => ?_
            clear hoo
            refine wpIn_val (v := .pointer (some ⟨ga, oa + j * 2, none⟩)) (fun _ _ => trivial) (by go_simp) ?_
            exact hK _ _ ⟨upd q 3 (V 3), by rw [v3.out]; kernel_rfl, HQ.out.pure (i := 3) (by omega)⟩
          · have hoo := hop
            obtain rfl := Option.some.inj hop
            have t3 : d 3 = true := HD.out ⟨3, .data⟩ (by simp) rfl
            have e3 : q 3 = .pointer (some ⟨ga, oa + j * 2, none⟩) := (HQ.out.val 3 (by omega) t3).trans v3.out
            have k0 := (HQ.out.bu.cell (p := ⟨ga, oa + j * 2, none⟩) RDA.out.1).trans C0.out; have k1 := (HQ.out.bu.cell (p := ⟨ga, oa + j * 2 + 1, none⟩) RDA.out.1).trans C1.out
            clear HD HSI HCL
            refine op_wanted hoo (by kernel_rfl) fun K hK => ?_
            clear hoo
            refine wpIn_val (v := .agg #[.int .u32 a0, .int .u32 a1]) (fun _ _ => trivial) (by go_simp) ?_
            exact hK _ _ ⟨upd q 4 (V 4), by rw [v4.out]; kernel_rfl, HQ.out.pure (i := 4) (by omega)⟩
          · have hoo := hop
            obtain rfl := Option.some.inj hop
            clear HD HSI HCL
            refine op_wanted hoo (by kernel_rfl) fun K hK => ?_
            clear hoo
            refine wpIn_val (v := .slice (some ⟨gb, ob, none⟩) n cb') (fun _ _ => trivial) (by go_simp) ?_
            exact hK _ _ ⟨upd q 5 (V 5), by rw [v5.out]; kernel_rfl, HQ.out.pure (i := 5) (by omega)⟩
          · have hoo := hop
            obtain rfl := Option.some.inj hop
            clear HD HSI HCL
            refine op_wanted hoo (by kernel_rfl) fun K hK => ?_
            clear hoo
            refine wpIn_val (v := .int .i64 ↑j) (fun _ _ => trivial) (by go_simp) ?_
            exact hK _ _ ⟨upd q 6 (V 6), by rw [v6.out]; kernel_rfl, HQ.out.pure (i := 6) (by omega)⟩
          · have hoo := hop
            obtain rfl := Option.some.inj hop
            have t5 : d 5 = true := HD.out ⟨5, .data⟩ (by simp) rfl
            have e5 : q 5 = .slice (some ⟨gb, ob, none⟩) n cb' := (HQ.out.val 5 (by omega) t5).trans v5.out
            have t6 : d 6 = true := HD.out ⟨6, .data⟩ (by simp) rfl
            have e6 : q 6 = .int .i64 ↑j := (HQ.out.val 6 (by omega) t6).trans v6.out
            clear HD HSI HCL
            refine op_wanted hoo (by kernel_rfl) fun K hK => ?_
            clear hoo
            refine wpIn_val (v := .pointer (some ⟨gb, ob + j * 2, none⟩)) (fun _ _ => trivial) (by go_simp) ?_
            exact hK _ _ ⟨upd q 7 (V 7), by rw [v7.out]; kernel_rfl, HQ.out.pure (i := 7) (by omega)⟩
          · have hoo := hop
            obtain rfl := Option.some.inj hop
            have t7 : d 7 = true := HD.out ⟨7, .data⟩ (by simp) rfl
            have e7 : q 7 = .pointer (some ⟨gb, ob + j * 2, none⟩) := (HQ.out.val 7 (by omega) t7).trans v7.out
            have k0 := (HQ.out.bu.cell (p := ⟨gb, ob + j * 2, none⟩) RDB.out.1).trans D0.out; have k1 := (HQ.out.bu.cell (p := ⟨gb, ob + j * 2 + 1, none⟩) RDB.out.1).trans D1.out
            clear HD HSI HCL
            refine op_wanted hoo (by kernel_rfl) fun K hK => ?_
            clear hoo
            refine wpIn_val (v := .agg #[.int .u32 b0, .int .u32 b1]) (fun _ _ => trivial) (by go_simp) ?_
            exact hK _ _ ⟨upd q 8 (V 8), by rw [v8.out]; kernel_rfl, HQ.out.pure (i := 8) (by omega)⟩
          · have hoo := hop
            obtain rfl := Option.some.inj hop
            have t4 : d 4 = true := HD.out ⟨4, .data⟩ (by simp) rfl
            have e4 : q 4 = .agg #[.int .u32 a0, .int .u32 a1] := (HQ.out.val 4 (by omega) t4).trans v4.out
            have t8 : d 8 = true := HD.out ⟨8, .data⟩ (by simp) rfl
            have e8 : q 8 = .agg #[.int .u32 b0, .int .u32 b1] := (HQ.out.val 8 (by omega) t8).trans v8.out
            clear HD HSI HCL
            refine op_wanted hoo (by kernel_rfl) fun K hK => ?_
            clear hoo
            refine wpIn_det' (v := .agg #[.int .u32 r0, .int .u32 r1]) (by go_simp) (det_add HR.out _) fun Wn hb => ?_
            exact hK _ _ ⟨upd q 9 (V 9), by rw [v9.out]; kernel_rfl, (HQ.out.walk hb).pure (i := 9) (by omega)⟩
          · have hoo := hop
            obtain rfl := Option.some.inj hop
            have t9 : d 9 = true := HD.out ⟨9, .data⟩ (by simp) rfl
            have e9 : q 9 = .agg #[.int .u32 r0, .int .u32 r1] := (HQ.out.val 9 (by omega) t9).trans v9.out
            have SI : d 10 = false := HSI.out
            clear HD HSI HCL
            refine op_wanted hoo (by kernel_rfl) fun K hK => ?_
            clear hoo
            refine wpIn_valw (v := .slice (some ⟨Wc.heap.size, 0, none⟩) 1 1) (w' := Wc.alloc (Obj.cells #[.int .u32 (r0 : Nat), .int .u32 (r1 : Nat)] 26)) (fun _ _ => trivial) (by go_simp) ?_
            exact hK _ _ ⟨upd q 10 (.slice (some ⟨Wc.heap.size, 0, none⟩) 1 1), by kernel_rfl, HQ.out.make SI⟩
          · have hoo := hop
            obtain rfl := Option.some.inj hop
            have t0 : d 0 = true := HD.out ⟨0, .data⟩ (by simp) rfl
            have e0 : q 0 = .slice pu j cu := (HQ.out.val 0 (by omega) t0).trans v0.out
            have t10 : d 10 = true := HD.out ⟨10, .data⟩ (by simp) rfl
            have SI : d 11 = false := HSI.out
            obtain ⟨X, eX, hT⟩ := HQ.out.c1 t10 SI
            clear HD HSI HCL
            refine op_wanted hoo (by kernel_rfl) fun K hK => ?_
            clear hoo
            refine wpIn_app nt26 hT (.tmp 47) (.tmp 57) rfl e0 eX HLE1.out fun g8 k8 Wn hN hB => ?_
            exact hK _ _ ⟨upd q 11 _, by kernel_rfl, HQ.out.app t10 SI hN hB⟩
          · have hoo := hop
            obtain rfl := Option.some.inj hop
            have t11 : d 11 = true := HD.out ⟨11, .data⟩ (by simp) rfl
            clear HD HSI HCL
            refine op_wanted hoo (by kernel_rfl) fun K hK => ?_
            clear hoo
            refine wpIn_val (v := q 11) (fun _ _ => trivial) (by go_simp) ?_
            exact hK _ _ ⟨upd q 12 (q 11), by kernel_rfl, HQ.out.asg t11⟩
        case f7 =>
          rintro d act Wc ⟨q, rfl, hR⟩ hall
          obtain ⟨g8, k8, q12, hT8⟩ := hR.done (fun i hi => hall i hi)
          have q12' : q 12 = _ := q12
          rw [q12']
          have HT8 := Lib.hid hT8
          rw [L1.out]
          rw [L1.out] at HT8
          clear hR hall hT8
          try dsimp only
          obtain ⟨w1, w2, w3, w4, w5⟩ := WW.out
          have k0 := (HT8.out.below.cell (p := ⟨ga, oa + m * 2, none⟩) RDA.out.1).trans E0.out
          have k1 := (HT8.out.below.cell (p := ⟨ga, oa + m * 2 + 1, none⟩) RDA.out.1).trans E1.out
          have HBM : Hid ((m : Int) < (n : Int)) := Lib.hid (Int.ofNat_lt.2 HMN.out)
          have HLE2 : Hid (j ≤ 2000) := Lib.hid (Nat.le_trans (Nat.le_of_lt HLT.out) (Nat.le_trans HN4.out (by decide)))
          have bm : (m : Int) < (n : Int) := HBM.out
          have bm' : m < n := HMN.out
          have EK := Lib.hid ek1
          clear ek1 bi tl tl'
          have HLE2 : Hid (j ≤ 2000) := Lib.hid (Nat.le_trans (Nat.le_of_lt HLT.out) (Nat.le_trans HN4.out (by decide)))
          go_wp2_with (at_builtin; refine wpList_TN2 nt26 (HT8.out.alloc g0 g1) List.mem_cons_self rfl _ _ rfl rfl rfl L2.out HLE2.out ?_; intro p9 k9 W9 h9; have HT9 := Lib.hid (h9.forget (fr' := []) (fun y hy => by cases hy)); clear h9)
          try rw [EK.out]
          clear w1 w2 w3 w4 w5 k0 k1
          go_roundw
          case rel => exact ⟨j + 1, _, _, HLT.out, rfl, rfl, rfl, by rw [HC1.out, HC2.out]; exact HT9.out⟩
          case measure =>
            have := HLT.out
            show n - ((j + 1 : Nat) : Int).toNat < n - (j : Int).toNat
            omega
      · have hjn : n = j := by omega
        have tl : decide ((j : Int) < (n : Int)) = false := decide_eq_false (by omega)
        have tl' : decide (j < n) = false := decide_eq_false hlt
        obtain rfl : j = n := hjn.symm
        clear hlt hj hjn
        go_upto_region 10 with fail
        have HT := Lib.hid HT1.out.below
        have RS := Lib.hid HT1.out.o1.row
        have RT := Lib.hid HT1.out.o2.row
        have RA3 := Lib.hid (RA.out.at HT.out)
        have RB3 := Lib.hid (RB.out.at HT.out)
        have HA3 := Lib.hid (Eight.step HA2.out HT.out)
        have HL3 := Lib.hid (HL2.out.trans (HT.out.mono HL2.out.size))
        have lS : Hid ((upto f1 j).length = j) := L1
        have lT : Hid ((upto f2 j).length = j) := L2
        have HJ : Hid (j = 2 ^ k) := HN
        clear HT HT1 RA RB RDA RDB HA2 HL2 hca hcb tl tl' L1 L2
        obtain ⟨zA, hzA⟩ : ∃ z, z = upto (fun i => (sm (X i).1, sm (X i).2)) j := ⟨_, rfl⟩
        obtain ⟨zB, hzB⟩ : ∃ z, z = upto (fun i => (sm (Y i).1, sm (Y i).2)) j := ⟨_, rfl⟩
        rw [← hzA] at NA
        rw [← hzB] at NB
        have zAl : Hid (zA.length = 2 ^ k) := Lib.hid (by rw [hzA, upto_length]; exact HJ.out)
        have zBl : Hid (zB.length = 2 ^ k) := Lib.hid (by rw [hzB, upto_length]; exact HJ.out)
        have NS : Hid (NL 2000 (upto f1 j) (sumz zA zB j)) := Lib.hid (by rw [F1.out]; exact sum_nl NA.out NB.out (by decide))
        have NT : Hid (NL 1000 (upto f2 j) (turnz zA j)) := Lib.hid (by rw [F2.out]; exact turn_nl NA.out)
        clear hzA hzB F1 F2
        generalize upto f1 j = LS at *
        generalize upto f2 j = LT at *
        go_wp2_with fail
        refine (ptr_fwd HK.out _ (lA.out.trans HJ.out) _ RA3.out).mono ?_
        rintro e W13 ⟨vp, rfl, hr, hb⟩
        have RA4 := Lib.hid (RA3.out.below hb)
        have RB4 := Lib.hid (RB3.out.below hb)
        have RS4 := Lib.hid (RS.out.below hb)
        have RT4 := Lib.hid (RT.out.below hb)
        have HA4 := Lib.hid (Eight.step HA3.out hb)
        have HL4 := Lib.hid (HL3.out.trans (hb.mono HL3.out.size))
        clear hb HA3 HL3 RA3 RB3 RS RT
        have RP4 := Lib.hid hr
        clear hr
        go_wp2_with fail
        refine (ptr_fwd HK.out _ (lB.out.trans HJ.out) _ RB4.out).mono ?_
        rintro e W14 ⟨vq, rfl, hr, hb⟩
        have RA5 := Lib.hid (RA4.out.below hb)
        have RB5 := Lib.hid (RB4.out.below hb)
        have RS5 := Lib.hid (RS4.out.below hb)
        have RT5 := Lib.hid (RT4.out.below hb)
        have RP5 := Lib.hid (RP4.out.below hb)
        have HA5 := Lib.hid (Eight.step HA4.out hb)
        have HL5 := Lib.hid (HL4.out.trans (hb.mono HL4.out.size))
        clear hb HA4 HL4 RA4 RB4 RS4 RT4 RP4
        have RQ5 := Lib.hid hr
        clear hr
        go_wp2_with fail
        refine (ptr_fwd HK.out _ (lS.out.trans HJ.out) _ RS5.out).mono ?_
        rintro e W15 ⟨vr, rfl, hr, hb⟩
        have RA6 := Lib.hid (RA5.out.below hb)
        have RB6 := Lib.hid (RB5.out.below hb)
        have RS6 := Lib.hid (RS5.out.below hb)
        have RT6 := Lib.hid (RT5.out.below hb)
        have RP6 := Lib.hid (RP5.out.below hb)
        have RQ6 := Lib.hid (RQ5.out.below hb)
        have HA6 := Lib.hid (Eight.step HA5.out hb)
        have HL6 := Lib.hid (HL5.out.trans (hb.mono HL5.out.size))
        clear hb HA5 HL5 RA5 RB5 RS5 RT5 RP5 RQ5
        have RR6 := Lib.hid hr
        clear hr
        go_wp2_with fail
        refine (ptr_inv HK.out _ (fft_length k LA) _ RP6.out).mono ?_
        rintro e W16 ⟨vk, rfl, hr, hb⟩
        have RA7 := Lib.hid (RA6.out.below hb)
        have RB7 := Lib.hid (RB6.out.below hb)
        have RS7 := Lib.hid (RS6.out.below hb)
        have RT7 := Lib.hid (RT6.out.below hb)
        have RP7 := Lib.hid (RP6.out.below hb)
        have RQ7 := Lib.hid (RQ6.out.below hb)
        have RR7 := Lib.hid (RR6.out.below hb)
        have HA7 := Lib.hid (Eight.step HA6.out hb)
        have HL7 := Lib.hid (HL6.out.trans (hb.mono HL6.out.size))
        clear hb HA6 HL6 RA6 RB6 RS6 RT6 RP6 RQ6 RR6
        have RK7 := Lib.hid hr
        clear hr
        go_wp2_with fail
        refine (ptr_fwd HK.out _ (lT.out.trans HJ.out) _ RT7.out).mono ?_
        rintro e W17 ⟨vt, rfl, hr, hb⟩
        have RA8 := Lib.hid (RA7.out.below hb)
        have RB8 := Lib.hid (RB7.out.below hb)
        have RS8 := Lib.hid (RS7.out.below hb)
        have RT8 := Lib.hid (RT7.out.below hb)
        have RP8 := Lib.hid (RP7.out.below hb)
        have RQ8 := Lib.hid (RQ7.out.below hb)
        have RR8 := Lib.hid (RR7.out.below hb)
        have RK8 := Lib.hid (RK7.out.below hb)
        have HA8 := Lib.hid (Eight.step HA7.out hb)
        have HL8 := Lib.hid (HL7.out.trans (hb.mono HL7.out.size))
        clear hb HA7 HL7 RA7 RB7 RS7 RT7 RP7 RQ7 RR7 RK7
        have RU8 := Lib.hid hr
        clear hr
        go_wp2_with fail
        have hw := ptw_small HK.out W17
        rw [← HJ.out] at hw
        refine hw.mono ?_
        clear hw
        rintro e W18 ⟨vw, rfl, hr, hb⟩
        have RA9 := Lib.hid (RA8.out.below hb)
        have RB9 := Lib.hid (RB8.out.below hb)
        have RS9 := Lib.hid (RS8.out.below hb)
        have RT9 := Lib.hid (RT8.out.below hb)
        have RP9 := Lib.hid (RP8.out.below hb)
        have RQ9 := Lib.hid (RQ8.out.below hb)
        have RR9 := Lib.hid (RR8.out.below hb)
        have RK9 := Lib.hid (RK8.out.below hb)
        have RU9 := Lib.hid (RU8.out.below hb)
        have HA9 := Lib.hid (Eight.step HA8.out hb)
        have HL9 := Lib.hid (HL8.out.trans (hb.mono HL8.out.size))
        clear hb HA8 HL8 RA8 RB8 RS8 RT8 RP8 RQ8 RR8 RK8 RU8
        have RW9 := Lib.hid hr
        clear hr
        obtain ⟨gp, op, cp, rfl, hcp, hrp⟩ := row_some RP9.out ((fft_length k LA).trans HJ.out.symm) HNP.out
        obtain ⟨gq, oq, cq, rfl, hcq, hrq⟩ := row_some RQ9.out ((fft_length k LB).trans HJ.out.symm) HNP.out
        obtain ⟨gw, ow, cw, rfl, hcw, hrw⟩ := row_some RW9.out (upto_length _ _) HNP.out
        have DP := Lib.hid hrp
        have DQ := Lib.hid hrq
        have DW := Lib.hid hrw
        clear hrp hrq hrw
        have tj : ((j : Int) == (j : Int)) = true := by simp
        have tj' : ((j : Int) != (j : Int)) = false := by simp
        have hmx := max6 W18
        go_wp2_with fail
        clear hmx
        refine (same_at vk _ _ _ _ RK9.out RA9.out ((inv_length k _).trans (lA.out.trans HJ.out).symm) (by rw [inv_length]; rw [← HJ.out]; exact Nat.le_trans HN4.out (by decide)) (fun i _ => ⟨_, (inv_nz HK.out NA.out zAl.out).nz i, NA.out.nz i⟩)).mono ?_
        rintro e W19 ⟨rfl, hb⟩
        have DP1 : Hid (Rd W19 gp op (fft k LA)) := Lib.hid (DP.out.step hb DP.out.1)
        have DQ1 : Hid (Rd W19 gq oq (fft k LB)) := Lib.hid (DQ.out.step hb DQ.out.1)
        have DW1 : Hid (Rd W19 gw ow (twL j)) := Lib.hid (DW.out.step hb DW.out.1)
        clear DP DQ DW
        have RA10 := Lib.hid (RA9.out.below hb)
        have RB10 := Lib.hid (RB9.out.below hb)
        have RS10 := Lib.hid (RS9.out.below hb)
        have RT10 := Lib.hid (RT9.out.below hb)
        have RP10 := Lib.hid (RP9.out.below hb)
        have RQ10 := Lib.hid (RQ9.out.below hb)
        have RR10 := Lib.hid (RR9.out.below hb)
        have RK10 := Lib.hid (RK9.out.below hb)
        have RU10 := Lib.hid (RU9.out.below hb)
        have RW10 := Lib.hid (RW9.out.below hb)
        have HA10 := Lib.hid (Eight.step HA9.out hb)
        have HL10 := Lib.hid (HL9.out.trans (hb.mono HL9.out.size))
        clear hb HA9 HL9 RA9 RB9 RS9 RT9 RP9 RQ9 RR9 RK9 RU9 RW9
        have HF := Lib.hid (And.intro hcp (And.intro hcq hcw))
        generalize hgP : fft k LA = PL at *
        generalize hgQ : fft k LB = QL at *
        generalize hgW : twL j = WL at *
        have GP := Lib.hid hgP
        have GQ := Lib.hid hgQ
        have GW := Lib.hid hgW
        have lP : Hid (PL.length = j) := Lib.hid (by rw [← hgP]; exact (fft_length k LA).trans HJ.out.symm)
        have lQ : Hid (QL.length = j) := Lib.hid (by rw [← hgQ]; exact (fft_length k LB).trans HJ.out.symm)
        have lW : Hid (WL.length = j) := Lib.hid (by rw [← hgW]; exact upto_length _ _)
        clear hgP hgQ hgW hcp hcq hcw
        obtain ⟨h1, hh1⟩ : ∃ f : Nat → Nat × Nat, f = fun i => addc (el PL i) (el QL i) := ⟨_, rfl⟩
        obtain ⟨h2, hh2⟩ : ∃ f : Nat → Nat × Nat, f = fun i => mulc (el WL i) (el PL i) := ⟨_, rfl⟩
        have H1 := Lib.hid hh1
        have H2 := Lib.hid hh2
        clear hh1 hh2
        go_wp2_with fail
        clear tj tj'
        obtain ⟨n, hn⟩ : ∃ n, n = j := ⟨_, rfl⟩
        generalize hW2 : W19 = Wy at *
        go_loopw [12, 26, 135] (fun s12 s26 s135 wr => ∃ i : Nat, ∃ c1 c2 : Value, i ≤ j ∧ s135 = .int .i64 i ∧ s26 = c1 ∧ s12 = c2 ∧ TN 26 Wy c1 (upto h1 i) c2 (upto h2 i) [] wr) (fun _ _ s135 _ => j - (intOf s135).toNat)
        case atStart => exact ⟨0, _, _, Nat.zero_le _, rfl, rfl, rfl, TN.start Wy 26⟩
        case round =>
          obtain ⟨i, c1, c2, hi, rfl, rfl, rfl, ht⟩ := hrel
          have HT1 := Lib.hid ht
          obtain ⟨pu2, cu2, rfl⟩ := ht.o1.slice
          obtain ⟨pv2, cv2, rfl⟩ := ht.o2.slice
          clear ht
          have L1 : Hid ((upto h1 i).length = i) := upto_length _ _
          have L2 : Hid ((upto h2 i).length = i) := upto_length _ _
          rw [L1.out, L2.out] at HT1 ⊢
          by_cases hlt : i < j
          · have tl : decide ((i : Int) < (j : Int)) = true := decide_eq_true (by omega)
            have tl' : decide (i < j) = true := decide_eq_true hlt
            have h4 := HN4.out
            have hx0 := el_get (l := PL) (j := i) (by rw [lP.out]; exact hlt)
            have hx1 := el_get (l := QL) (j := i) (by rw [lQ.out]; exact hlt)
            have hx2 := el_get (l := WL) (j := i) (by rw [lW.out]; exact hlt)
            obtain ⟨c0, c1⟩ := DP1.out.2 _ _ hx0
            obtain ⟨d0, d1⟩ := DQ1.out.2 _ _ hx1
            obtain ⟨e0, e1⟩ := DW1.out.2 _ _ hx2
            have ek1 : wrap64 ((i : Int) + 1) = ((i + 1 : Nat) : Int) := by unfold wrap64; omega
            have bi : (i : Int) < (j : Int) := by omega
            have HC1 : Hid (upto h1 (i + 1) = upto h1 i ++ [addc (el PL i) (el QL i)]) := by show _ = _; rw [upto_succ, H1.out]
            have HC2 : Hid (upto h2 (i + 1) = upto h2 i ++ [mulc (el WL i) (el PL i)]) := by show _ = _; rw [upto_succ, H2.out]
            generalize el PL i = a at *
            generalize el QL i = b at *
            generalize el WL i = g at *
            obtain ⟨a0, a1⟩ := a
            obtain ⟨b0, b1⟩ := b
            obtain ⟨g0, g1⟩ := g
            dsimp only at c0 c1 d0 d1 e0 e1
            obtain ⟨r0, r1, hr⟩ : ∃ u v, (u, v) = addc (a0, a1) (b0, b1) := ⟨_, _, rfl⟩
            obtain ⟨t0, t1, ht⟩ : ∃ u v, (u, v) = mulc (g0, g1) (a0, a1) := ⟨_, _, rfl⟩
            rw [← hr] at HC1
            rw [← ht] at HC2
            have HR := Lib.hid hr
            have HT := Lib.hid ht
            have C0 := Lib.hid c0
            have C1 := Lib.hid c1
            have D0 := Lib.hid d0
            have D1 := Lib.hid d1
            have E0 := Lib.hid e0
            have E1 := Lib.hid e1
            have HLT := Lib.hid hlt
            have EK := Lib.hid ek1
            have HLE1 : Hid ((upto h1 i).length ≤ 2000) := by show _ ≤ 2000; rw [L1.out]; omega
            have HLE2 : Hid ((upto h2 i).length ≤ 2000) := by show _ ≤ 2000; rw [L2.out]; omega
            clear hi hlt h4 hx0 hx1 hx2 hr ht c0 c1 d0 d1 e0 e1 ek1 hn
            go_upto_region 22 with fail
            obtain ⟨V, hV⟩ : ∃ V : Nat → Value, V = fun vv => ([.slice pu2 i cu2, .slice (some ⟨gp, op, none⟩) j cp, .int .i64 ↑i, .pointer (some ⟨gp, op + i * 2, none⟩), .agg #[.int .u32 a0, .int .u32 a1], .slice (some ⟨gq, oq, none⟩) j cq, .int .i64 ↑i, .pointer (some ⟨gq, oq + i * 2, none⟩), .agg #[.int .u32 b0, .int .u32 b1], .agg #[.int .u32 r0, .int .u32 r1]] : List Value).getD vv undef := ⟨_, rfl⟩
            have v0 : Hid (V 0 = .slice pu2 i cu2) := Lib.hid (by rw [hV]; rfl)
            have v1 : Hid (V 1 = .slice (some ⟨gp, op, none⟩) j cp) := Lib.hid (by rw [hV]; rfl)
            have v2 : Hid (V 2 = .int .i64 ↑i) := Lib.hid (by rw [hV]; rfl)
            have v3 : Hid (V 3 = .pointer (some ⟨gp, op + i * 2, none⟩)) := Lib.hid (by rw [hV]; rfl)
            have v4 : Hid (V 4 = .agg #[.int .u32 a0, .int .u32 a1]) := Lib.hid (by rw [hV]; rfl)
            have v5 : Hid (V 5 = .slice (some ⟨gq, oq, none⟩) j cq) := Lib.hid (by rw [hV]; rfl)
            have v6 : Hid (V 6 = .int .i64 ↑i) := Lib.hid (by rw [hV]; rfl)
            have v7 : Hid (V 7 = .pointer (some ⟨gq, oq + i * 2, none⟩)) := Lib.hid (by rw [hV]; rfl)
            have v8 : Hid (V 8 = .agg #[.int .u32 b0, .int .u32 b1]) := Lib.hid (by rw [hV]; rfl)
            have v9 : Hid (V 9 = .agg #[.int .u32 r0, .int .u32 r1]) := Lib.hid (by rw [hV]; rfl)
            clear hV
            refine (wpIn_wide (n := 20)).1 ?_
            refine wpIn_region_cl (by kernel_rfl) (back_of (by kernel_rfl)) (fun d act Wn => ∃ q : Nat → Value, act = { tmps := #[.agg (eight X), .agg (eight Y), .int .u8 s, .pointer (some ⟨XA, 0, none⟩), .pointer (some ⟨XB, 0, none⟩), undef, .bool false, .int .i64 ↑j, .slice (some ⟨ga, oa, none⟩) j ca, .slice (some ⟨gb, ob, none⟩) j cb', .slice pu j cu, .slice pv j cv, .slice pv2 i cv2, u13, .slice (some ⟨gp, op, none⟩) j cp, .int .i64 0, .slice (some ⟨gq, oq, none⟩) j cq, .int .i64 0, vr, .int .i64 0, vk, .int .i64 0, vt, .int .i64 0, .slice (some ⟨gw, ow, none⟩) j cw, .int .i64 0, q 12, .int .i64 ↑i, undef, undef, undef, undef, undef, undef, .int .u8 s, t35, .int .i64 ↑j, y 0, y 1, y 2, y 3, y 4, y 5, .int .i64 ↑j, .int .i64 ↑j, .bool false, u46, u47, u48, u49, u50, u51, u52, u53, u54, u55, u56, u57, u58, u59, u60, u61, u62, u63, u64, u65, u66, u67, u68, u69, u70, u71, .tuple #[.slice (some ⟨gp, op, none⟩) j cp, .int .i64 0], .slice (some ⟨ga, oa, none⟩) j ca, .tuple #[.slice (some ⟨gp, op, none⟩) j cp, .int .i64 0], .slice (some ⟨gp, op, none⟩) j cp, .int .i64 0, .tuple #[.slice (some ⟨gq, oq, none⟩) j cq, .int .i64 0], .slice (some ⟨gb, ob, none⟩) j cb', .tuple #[.slice (some ⟨gq, oq, none⟩) j cq, .int .i64 0], .slice (some ⟨gq, oq, none⟩) j cq, .int .i64 0, .tuple #[vr, .int .i64 0], .slice pu j cu, .tuple #[vr, .int .i64 0], vr, .int .i64 0, .tuple #[vk, .int .i64 0], .slice (some ⟨gp, op, none⟩) j cp, .tuple #[vk, .int .i64 0], vk, .int .i64 0, .tuple #[vt, .int .i64 0], .slice pv j cv, .tuple #[vt, .int .i64 0], vt, .int .i64 0, .tuple #[.slice (some ⟨gw, ow, none⟩) j cw, .int .i64 0], .int .i64 ↑j, .tuple #[.slice (some ⟨gw, ow, none⟩) j cw, .int .i64 0], .slice (some ⟨gw, ow, none⟩) j cw, .int .i64 0, .int .i64 0, .int .i64 0, .int .i64 0, .int .i64 0, .int .i64 0, .int .i64 0, .int .i64 0, .bool false, .bool false, vk, .slice (some ⟨ga, oa, none⟩) j ca, .bool true, .bool false, .bool false, .bool false, .slice (some ⟨gp, op, none⟩) j cp, .int .i64 ↑j, .int .i64 ↑j, .bool false, .bool false, .bool false, .slice (some ⟨gq, oq, none⟩) j cq, .int .i64 ↑j, .int .i64 ↑j, .bool false, .bool false, .bool false, .slice (some ⟨gw, ow, none⟩) j cw, .int .i64 ↑j, .int .i64 ↑j, .bool false, .bool false, .int .i64 ↑j, .int .i64 ↑i, .bool true, .int .i64 ↑i, q 0, q 1, q 2, q 3, q 4, q 5, q 6, q 7, q 8, q 9, q 10, q 11, u150, u151, u152, u153, u154, u155, u156, u157, u158, u159, u160, u161, u162, undef, undef, undef, undef, undef, undef, undef, undef, undef, undef, undef, undef, undef, undef, undef, undef, undef, undef, undef, undef, undef, undef, undef, undef, undef, undef, undef, undef, undef, undef, undef, undef, undef, undef, undef, undef, undef, undef, undef, undef, undef, undef, undef, undef, undef, undef, undef, undef, undef, undef, undef, undef, undef, undef, undef, undef, undef, undef, undef, undef, undef, undef, undef, undef, undef, undef], defers := [] } ∧ QT 26 Wy wr (.slice pu2 i cu2) (upto h1 i) (.slice pv2 i cv2) (upto h2 i) V 10 (r0, r1) d q Wn) ?r22 ?s22 ?f22
            case r22 => exact fun d hd => ⟨(upd (upd (upd (upd (upd (upd (upd (upd (upd (upd (upd (upd (upd (fun _ => undef) 0 (u138)) 1 (u139)) 2 (u140)) 3 (u141)) 4 (u142)) 5 (u143)) 6 (u144)) 7 (u145)) 8 (u146)) 9 (u147)) 10 (u148)) 11 (u149)) 12 (.slice pu2 i cu2)), rfl, QT.start HT1.out rfl (fun i hi => hd i hi)⟩
            case s22 =>
              rintro ix oi hop d act Wc ⟨q, rfl, hR⟩ hSi hdep hcl
              have hix : ix < 13 := (Array.getElem?_eq_some_iff.1 hop).1
              have HQ := Lib.hid hR
              have HD := Lib.hid hdep
              have HSI := Lib.hid hSi
              have HCL := Lib.hid hcl
              clear hR hdep hSi hcl
              obtain rfl | rfl | rfl | rfl | rfl | rfl | rfl | rfl | rfl | rfl | rfl | rfl | rfl : ix = 0 ∨ ix = 1 ∨ ix = 2 ∨ ix = 3 ∨ ix = 4 ∨ ix = 5 ∨ ix = 6 ∨ ix = 7 ∨ ix = 8 ∨ ix = 9 ∨ ix = 10 ∨ ix = 11 ∨ ix = 12 := by omega
              · have hoo := hop
                obtain rfl := Option.some.inj hop
                have SI : d 0 = false := HSI.out
                have eu : q 12 = .slice pu2 i cu2 := HQ.out.c4 (Bool.eq_false_iff.2 (fun h => by have h' := HCL.out 12 _ rfl h ⟨0, .phase⟩ (by simp) rfl; have h' : d 0 = true := h'; rw [SI] at h'; cases h'))
                clear SI
                clear HD HSI HCL
                refine op_wanted hoo (by kernel_rfl) fun K hK => ?_
                clear hoo
                refine wpIn_val (v := .slice pu2 i cu2) (fun _ _ => trivial) (by go_simp) ?_
                exact hK _ _ ⟨upd q 0 (V 0), by rw [v0.out]; kernel_rfl, HQ.out.pure (i := 0) (by omega)⟩
              · have hoo := hop
                obtain rfl := Option.some.inj hop
                clear HD HSI HCL
                refine op_wanted hoo (by kernel_rfl) fun K hK => ?_
                clear hoo
                refine wpIn_val (v := .slice (some ⟨gp, op, none⟩) j cp) (fun _ _ => trivial) (by go_simp) ?_
                exact hK _ _ ⟨upd q 1 (V 1), by rw [v1.out]; kernel_rfl, HQ.out.pure (i := 1) (by omega)⟩
              · have hoo := hop
                obtain rfl := Option.some.inj hop
                clear HD HSI HCL
                refine op_wanted hoo (by kernel_rfl) fun K hK => ?_
                clear hoo
                refine wpIn_val (v := .int .i64 ↑i) (fun _ _ => trivial) (by go_simp) ?_
                exact hK _ _ ⟨upd q 2 (V 2), by rw [v2.out]; kernel_rfl, HQ.out.pure (i := 2) (by omega)⟩
              · have hoo := hop
                obtain rfl := Option.some.inj hop
                have t1 : d 1 = true := HD.out ⟨1, .data⟩ (by simp) rfl
                have e1 : q 1 = .slice (some ⟨gp, op, none⟩) j cp := (HQ.out.val 1 (by omega) t1).trans v1.out
                have t2 : d 2 = true := HD.out ⟨2, .data⟩ (by simp) rfl
                have e2 : q 2 = .int .i64 ↑i := (HQ.out.val 2 (by omega) t2).trans v2.out
                clear HD HSI HCL
                refine op_wanted hoo (by kernel_rfl) fun K hK => ?_
                clear hoo
                refine wpIn_val (v := .pointer (some ⟨gp, op + i * 2, none⟩)) (fun _ _ => trivial) (by go_simp) ?_
                exact hK _ _ ⟨upd q 3 (V 3), by rw [v3.out]; kernel_rfl, HQ.out.pure (i := 3) (by omega)⟩
              · have hoo := hop
                obtain rfl := Option.some.inj hop
                have t3 : d 3 = true := HD.out ⟨3, .data⟩ (by simp) rfl
                have e3 : q 3 = .pointer (some ⟨gp, op + i * 2, none⟩) := (HQ.out.val 3 (by omega) t3).trans v3.out
                have k0 := (HQ.out.bu.cell (p := ⟨gp, op + i * 2, none⟩) DP1.out.1).trans C0.out; have k1 := (HQ.out.bu.cell (p := ⟨gp, op + i * 2 + 1, none⟩) DP1.out.1).trans C1.out
                clear HD HSI HCL
                refine op_wanted hoo (by kernel_rfl) fun K hK => ?_
                clear hoo
                refine wpIn_val (v := .agg #[.int .u32 a0, .int .u32 a1]) (fun _ _ => trivial) (by go_simp) ?_
                exact hK _ _ ⟨upd q 4 (V 4), by rw [v4.out]; kernel_rfl, HQ.out.pure (i := 4) (by omega)⟩
              · have hoo := hop
                obtain rfl := Option.some.inj hop
                clear HD HSI HCL
                refine op_wanted hoo (by kernel_rfl) fun K hK => ?_
                clear hoo
                refine wpIn_val (v := .slice (some ⟨gq, oq, none⟩) j cq) (fun _ _ => trivial) (by go_simp) ?_
                exact hK _ _ ⟨upd q 5 (V 5), by rw [v5.out]; kernel_rfl, HQ.out.pure (i := 5) (by omega)⟩
              · have hoo := hop
                obtain rfl := Option.some.inj hop
                clear HD HSI HCL
                refine op_wanted hoo (by kernel_rfl) fun K hK => ?_
                clear hoo
                refine wpIn_val (v := .int .i64 ↑i) (fun _ _ => trivial) (by go_simp) ?_
                exact hK _ _ ⟨upd q 6 (V 6), by rw [v6.out]; kernel_rfl, HQ.out.pure (i := 6) (by omega)⟩
              · have hoo := hop
                obtain rfl := Option.some.inj hop
                have t5 : d 5 = true := HD.out ⟨5, .data⟩ (by simp) rfl
                have e5 : q 5 = .slice (some ⟨gq, oq, none⟩) j cq := (HQ.out.val 5 (by omega) t5).trans v5.out
                have t6 : d 6 = true := HD.out ⟨6, .data⟩ (by simp) rfl
                have e6 : q 6 = .int .i64 ↑i := (HQ.out.val 6 (by omega) t6).trans v6.out
                clear HD HSI HCL
                refine op_wanted hoo (by kernel_rfl) fun K hK => ?_
                clear hoo
                refine wpIn_val (v := .pointer (some ⟨gq, oq + i * 2, none⟩)) (fun _ _ => trivial) (by go_simp) ?_
                exact hK _ _ ⟨upd q 7 (V 7), by rw [v7.out]; kernel_rfl, HQ.out.pure (i := 7) (by omega)⟩
              · have hoo := hop
                obtain rfl := Option.some.inj hop
                have t7 : d 7 = true := HD.out ⟨7, .data⟩ (by simp) rfl
                have e7 : q 7 = .pointer (some ⟨gq, oq + i * 2, none⟩) := (HQ.out.val 7 (by omega) t7).trans v7.out
                have k0 := (HQ.out.bu.cell (p := ⟨gq, oq + i * 2, none⟩) DQ1.out.1).trans D0.out; have k1 := (HQ.out.bu.cell (p := ⟨gq, oq + i * 2 + 1, none⟩) DQ1.out.1).trans D1.out
                clear HD HSI HCL
                refine op_wanted hoo (by kernel_rfl) fun K hK => ?_
                clear hoo
                refine wpIn_val (v := .agg #[.int .u32 b0, .int .u32 b1]) (fun _ _ => trivial) (by go_simp) ?_
                exact hK _ _ ⟨upd q 8 (V 8), by rw [v8.out]; kernel_rfl, HQ.out.pure (i := 8) (by omega)⟩
              · have hoo := hop
                obtain rfl := Option.some.inj hop
                have t4 : d 4 = true := HD.out ⟨4, .data⟩ (by simp) rfl
                have e4 : q 4 = .agg #[.int .u32 a0, .int .u32 a1] := (HQ.out.val 4 (by omega) t4).trans v4.out
                have t8 : d 8 = true := HD.out ⟨8, .data⟩ (by simp) rfl
                have e8 : q 8 = .agg #[.int .u32 b0, .int .u32 b1] := (HQ.out.val 8 (by omega) t8).trans v8.out
                clear HD HSI HCL
                refine op_wanted hoo (by kernel_rfl) fun K hK => ?_
                clear hoo
                refine wpIn_det' (v := .agg #[.int .u32 r0, .int .u32 r1]) (by go_simp) (det_add HR.out _) fun Wn hb => ?_
                exact hK _ _ ⟨upd q 9 (V 9), by rw [v9.out]; kernel_rfl, (HQ.out.walk hb).pure (i := 9) (by omega)⟩
              · have hoo := hop
                obtain rfl := Option.some.inj hop
                have t9 : d 9 = true := HD.out ⟨9, .data⟩ (by simp) rfl
                have e9 : q 9 = .agg #[.int .u32 r0, .int .u32 r1] := (HQ.out.val 9 (by omega) t9).trans v9.out
                have SI : d 10 = false := HSI.out
                clear HD HSI HCL
                refine op_wanted hoo (by kernel_rfl) fun K hK => ?_
                clear hoo
                refine wpIn_valw (v := .slice (some ⟨Wc.heap.size, 0, none⟩) 1 1) (w' := Wc.alloc (Obj.cells #[.int .u32 (r0 : Nat), .int .u32 (r1 : Nat)] 26)) (fun _ _ => trivial) (by go_simp) ?_
                exact hK _ _ ⟨upd q 10 (.slice (some ⟨Wc.heap.size, 0, none⟩) 1 1), by kernel_rfl, HQ.out.make SI⟩
              · have hoo := hop
                obtain rfl := Option.some.inj hop
                have t0 : d 0 = true := HD.out ⟨0, .data⟩ (by simp) rfl
                have e0 : q 0 = .slice pu2 i cu2 := (HQ.out.val 0 (by omega) t0).trans v0.out
                have t10 : d 10 = true := HD.out ⟨10, .data⟩ (by simp) rfl
                have SI : d 11 = false := HSI.out
                obtain ⟨X, eX, hT⟩ := HQ.out.c1 t10 SI
                clear HD HSI HCL
                refine op_wanted hoo (by kernel_rfl) fun K hK => ?_
                clear hoo
                refine wpIn_app nt26 hT (.tmp 138) (.tmp 148) rfl e0 eX HLE1.out fun g8 k8 Wn hN hB => ?_
                exact hK _ _ ⟨upd q 11 _, by kernel_rfl, HQ.out.app t10 SI hN hB⟩
              · have hoo := hop
                obtain rfl := Option.some.inj hop
                have t11 : d 11 = true := HD.out ⟨11, .data⟩ (by simp) rfl
                clear HD HSI HCL
                refine op_wanted hoo (by kernel_rfl) fun K hK => ?_
                clear hoo
                refine wpIn_val (v := q 11) (fun _ _ => trivial) (by go_simp) ?_
                exact hK _ _ ⟨upd q 12 (q 11), by kernel_rfl, HQ.out.asg t11⟩
            case f22 =>
              rintro d act Wc ⟨q, rfl, hR⟩ hall
              obtain ⟨g8, k8, q12, hT8⟩ := hR.done (fun i hi => hall i hi)
              have q12' : q 12 = _ := q12
              rw [q12']
              have HT8 := Lib.hid hT8.swap
              rw [L1.out]
              rw [L1.out] at HT8
              clear hR hall hT8
              try dsimp only
              go_upto_region 23 with fail
              obtain ⟨V, hV⟩ : ∃ V : Nat → Value, V = fun vv => ([.slice pv2 i cv2, .slice (some ⟨gw, ow, none⟩) j cw, .int .i64 ↑i, .pointer (some ⟨gw, ow + i * 2, none⟩), .agg #[.int .u32 g0, .int .u32 g1], .slice (some ⟨gp, op, none⟩) j cp, .int .i64 ↑i, .pointer (some ⟨gp, op + i * 2, none⟩), .agg #[.int .u32 a0, .int .u32 a1], .agg #[.int .u32 t0, .int .u32 t1]] : List Value).getD vv undef := ⟨_, rfl⟩
              have v0 : Hid (V 0 = .slice pv2 i cv2) := Lib.hid (by rw [hV]; rfl)
              have v1 : Hid (V 1 = .slice (some ⟨gw, ow, none⟩) j cw) := Lib.hid (by rw [hV]; rfl)
              have v2 : Hid (V 2 = .int .i64 ↑i) := Lib.hid (by rw [hV]; rfl)
              have v3 : Hid (V 3 = .pointer (some ⟨gw, ow + i * 2, none⟩)) := Lib.hid (by rw [hV]; rfl)
              have v4 : Hid (V 4 = .agg #[.int .u32 g0, .int .u32 g1]) := Lib.hid (by rw [hV]; rfl)
              have v5 : Hid (V 5 = .slice (some ⟨gp, op, none⟩) j cp) := Lib.hid (by rw [hV]; rfl)
              have v6 : Hid (V 6 = .int .i64 ↑i) := Lib.hid (by rw [hV]; rfl)
              have v7 : Hid (V 7 = .pointer (some ⟨gp, op + i * 2, none⟩)) := Lib.hid (by rw [hV]; rfl)
              have v8 : Hid (V 8 = .agg #[.int .u32 a0, .int .u32 a1]) := Lib.hid (by rw [hV]; rfl)
              have v9 : Hid (V 9 = .agg #[.int .u32 t0, .int .u32 t1]) := Lib.hid (by rw [hV]; rfl)
              clear hV
              refine (wpIn_wide (n := 20)).1 ?_
              refine wpIn_region_cl (by kernel_rfl) (back_of (by kernel_rfl)) (fun d act Wn => ∃ qq : Nat → Value, act = { tmps := #[.agg (eight X), .agg (eight Y), .int .u8 s, .pointer (some ⟨XA, 0, none⟩), .pointer (some ⟨XB, 0, none⟩), undef, .bool false, .int .i64 ↑j, .slice (some ⟨ga, oa, none⟩) j ca, .slice (some ⟨gb, ob, none⟩) j cb', .slice pu j cu, .slice pv j cv, qq 12, u13, .slice (some ⟨gp, op, none⟩) j cp, .int .i64 0, .slice (some ⟨gq, oq, none⟩) j cq, .int .i64 0, vr, .int .i64 0, vk, .int .i64 0, vt, .int .i64 0, .slice (some ⟨gw, ow, none⟩) j cw, .int .i64 0, .slice (some ⟨g8, 0, none⟩) (i + 1) k8, .int .i64 ↑i, undef, undef, undef, undef, undef, undef, .int .u8 s, t35, .int .i64 ↑j, y 0, y 1, y 2, y 3, y 4, y 5, .int .i64 ↑j, .int .i64 ↑j, .bool false, u46, u47, u48, u49, u50, u51, u52, u53, u54, u55, u56, u57, u58, u59, u60, u61, u62, u63, u64, u65, u66, u67, u68, u69, u70, u71, .tuple #[.slice (some ⟨gp, op, none⟩) j cp, .int .i64 0], .slice (some ⟨ga, oa, none⟩) j ca, .tuple #[.slice (some ⟨gp, op, none⟩) j cp, .int .i64 0], .slice (some ⟨gp, op, none⟩) j cp, .int .i64 0, .tuple #[.slice (some ⟨gq, oq, none⟩) j cq, .int .i64 0], .slice (some ⟨gb, ob, none⟩) j cb', .tuple #[.slice (some ⟨gq, oq, none⟩) j cq, .int .i64 0], .slice (some ⟨gq, oq, none⟩) j cq, .int .i64 0, .tuple #[vr, .int .i64 0], .slice pu j cu, .tuple #[vr, .int .i64 0], vr, .int .i64 0, .tuple #[vk, .int .i64 0], .slice (some ⟨gp, op, none⟩) j cp, .tuple #[vk, .int .i64 0], vk, .int .i64 0, .tuple #[vt, .int .i64 0], .slice pv j cv, .tuple #[vt, .int .i64 0], vt, .int .i64 0, .tuple #[.slice (some ⟨gw, ow, none⟩) j cw, .int .i64 0], .int .i64 ↑j, .tuple #[.slice (some ⟨gw, ow, none⟩) j cw, .int .i64 0], .slice (some ⟨gw, ow, none⟩) j cw, .int .i64 0, .int .i64 0, .int .i64 0, .int .i64 0, .int .i64 0, .int .i64 0, .int .i64 0, .int .i64 0, .bool false, .bool false, vk, .slice (some ⟨ga, oa, none⟩) j ca, .bool true, .bool false, .bool false, .bool false, .slice (some ⟨gp, op, none⟩) j cp, .int .i64 ↑j, .int .i64 ↑j, .bool false, .bool false, .bool false, .slice (some ⟨gq, oq, none⟩) j cq, .int .i64 ↑j, .int .i64 ↑j, .bool false, .bool false, .bool false, .slice (some ⟨gw, ow, none⟩) j cw, .int .i64 ↑j, .int .i64 ↑j, .bool false, .bool false, .int .i64 ↑j, .int .i64 ↑i, .bool true, .int .i64 ↑i, q 0, q 1, q 2, q 3, q 4, q 5, q 6, q 7, q 8, q 9, q 10, q 11, qq 0, qq 1, qq 2, qq 3, qq 4, qq 5, qq 6, qq 7, qq 8, qq 9, qq 10, qq 11, u162, undef, undef, undef, undef, undef, undef, undef, undef, undef, undef, undef, undef, undef, undef, undef, undef, undef, undef, undef, undef, undef, undef, undef, undef, undef, undef, undef, undef, undef, undef, undef, undef, undef, undef, undef, undef, undef, undef, undef, undef, undef, undef, undef, undef, undef, undef, undef, undef, undef, undef, undef, undef, undef, undef, undef, undef, undef, undef, undef, undef, undef, undef, undef, undef, undef, undef], defers := [] } ∧ QT 26 Wy Wc (.slice pv2 i cv2) (upto h2 i) (.slice (some ⟨g8, 0, none⟩) (i + 1) k8) (upto h1 i ++ [(r0, r1)]) V 10 (t0, t1) d qq Wn) ?r23 ?s23 ?f23
              case r23 => exact fun d hd => ⟨(upd (upd (upd (upd (upd (upd (upd (upd (upd (upd (upd (upd (upd (fun _ => undef) 0 (u150)) 1 (u151)) 2 (u152)) 3 (u153)) 4 (u154)) 5 (u155)) 6 (u156)) 7 (u157)) 8 (u158)) 9 (u159)) 10 (u160)) 11 (u161)) 12 (.slice pv2 i cv2)), rfl, QT.start HT8.out rfl (fun i hi => hd i hi)⟩
              case s23 =>
                rintro ix oi hop d act We ⟨qq, rfl, hR⟩ hSi hdep hcl
                have hix : ix < 13 := (Array.getElem?_eq_some_iff.1 hop).1
                have HQ := Lib.hid hR
                have HD := Lib.hid hdep
                have HSI := Lib.hid hSi
                have HCL := Lib.hid hcl
                clear hR hdep hSi hcl
                obtain rfl | rfl | rfl | rfl | rfl | rfl | rfl | rfl | rfl | rfl | rfl | rfl | rfl : ix = 0 ∨ ix = 1 ∨ ix = 2 ∨ ix = 3 ∨ ix = 4 ∨ ix = 5 ∨ ix = 6 ∨ ix = 7 ∨ ix = 8 ∨ ix = 9 ∨ ix = 10 ∨ ix = 11 ∨ ix = 12 := by omega
                · have hoo := hop
                  obtain rfl := Option.some.inj hop
                  have SI : d 0 = false := HSI.out
                  have eu : qq 12 = .slice pv2 i cv2 := HQ.out.c4 (Bool.eq_false_iff.2 (fun h => by have h' := HCL.out 12 _ rfl h ⟨0, .phase⟩ (by simp) rfl; have h' : d 0 = true := h'; rw [SI] at h'; cases h'))
                  clear SI
                  clear HD HSI HCL
                  refine op_wanted hoo (by kernel_rfl) fun K hK => ?_
                  clear hoo
                  refine wpIn_val (v := .slice pv2 i cv2) (fun _ _ => trivial) (by go_simp) ?_
                  exact hK _ _ ⟨upd qq 0 (V 0), by rw [v0.out]; kernel_rfl, HQ.out.pure (i := 0) (by omega)⟩
                · have hoo := hop
                  obtain rfl := Option.some.inj hop
                  clear HD HSI HCL
                  refine op_wanted hoo (by kernel_rfl) fun K hK => ?_
                  clear hoo
                  refine wpIn_val (v := .slice (some ⟨gw, ow, none⟩) j cw) (fun _ _ => trivial) (by go_simp) ?_
                  exact hK _ _ ⟨upd qq 1 (V 1), by rw [v1.out]; kernel_rfl, HQ.out.pure (i := 1) (by omega)⟩
                · have hoo := hop
                  obtain rfl := Option.some.inj hop
                  clear HD HSI HCL
                  refine op_wanted hoo (by kernel_rfl) fun K hK => ?_
                  clear hoo
                  refine wpIn_val (v := .int .i64 ↑i) (fun _ _ => trivial) (by go_simp) ?_
                  exact hK _ _ ⟨upd qq 2 (V 2), by rw [v2.out]; kernel_rfl, HQ.out.pure (i := 2) (by omega)⟩
                · have hoo := hop
                  obtain rfl := Option.some.inj hop
                  have t1 : d 1 = true := HD.out ⟨1, .data⟩ (by simp) rfl
                  have e1 : qq 1 = .slice (some ⟨gw, ow, none⟩) j cw := (HQ.out.val 1 (by omega) t1).trans v1.out
                  have t2 : d 2 = true := HD.out ⟨2, .data⟩ (by simp) rfl
                  have e2 : qq 2 = .int .i64 ↑i := (HQ.out.val 2 (by omega) t2).trans v2.out
                  clear HD HSI HCL
                  refine op_wanted hoo (by kernel_rfl) fun K hK => ?_
                  clear hoo
                  refine wpIn_val (v := .pointer (some ⟨gw, ow + i * 2, none⟩)) (fun _ _ => trivial) (by go_simp) ?_
                  exact hK _ _ ⟨upd qq 3 (V 3), by rw [v3.out]; kernel_rfl, HQ.out.pure (i := 3) (by omega)⟩
                · have hoo := hop
                  obtain rfl := Option.some.inj hop
                  have t3 : d 3 = true := HD.out ⟨3, .data⟩ (by simp) rfl
                  have e3 : qq 3 = .pointer (some ⟨gw, ow + i * 2, none⟩) := (HQ.out.val 3 (by omega) t3).trans v3.out
                  have k0 := (HQ.out.bu.cell (p := ⟨gw, ow + i * 2, none⟩) DW1.out.1).trans E0.out; have k1 := (HQ.out.bu.cell (p := ⟨gw, ow + i * 2 + 1, none⟩) DW1.out.1).trans E1.out
                  clear HD HSI HCL
                  refine op_wanted hoo (by kernel_rfl) fun K hK => ?_
                  clear hoo
                  refine wpIn_val (v := .agg #[.int .u32 g0, .int .u32 g1]) (fun _ _ => trivial) (by go_simp) ?_
                  exact hK _ _ ⟨upd qq 4 (V 4), by rw [v4.out]; kernel_rfl, HQ.out.pure (i := 4) (by omega)⟩
                · have hoo := hop
                  obtain rfl := Option.some.inj hop
                  clear HD HSI HCL
                  refine op_wanted hoo (by kernel_rfl) fun K hK => ?_
                  clear hoo
                  refine wpIn_val (v := .slice (some ⟨gp, op, none⟩) j cp) (fun _ _ => trivial) (by go_simp) ?_
                  exact hK _ _ ⟨upd qq 5 (V 5), by rw [v5.out]; kernel_rfl, HQ.out.pure (i := 5) (by omega)⟩
                · have hoo := hop
                  obtain rfl := Option.some.inj hop
                  clear HD HSI HCL
                  refine op_wanted hoo (by kernel_rfl) fun K hK => ?_
                  clear hoo
                  refine wpIn_val (v := .int .i64 ↑i) (fun _ _ => trivial) (by go_simp) ?_
                  exact hK _ _ ⟨upd qq 6 (V 6), by rw [v6.out]; kernel_rfl, HQ.out.pure (i := 6) (by omega)⟩
                · have hoo := hop
                  obtain rfl := Option.some.inj hop
                  have t5 : d 5 = true := HD.out ⟨5, .data⟩ (by simp) rfl
                  have e5 : qq 5 = .slice (some ⟨gp, op, none⟩) j cp := (HQ.out.val 5 (by omega) t5).trans v5.out
                  have t6 : d 6 = true := HD.out ⟨6, .data⟩ (by simp) rfl
                  have e6 : qq 6 = .int .i64 ↑i := (HQ.out.val 6 (by omega) t6).trans v6.out
                  clear HD HSI HCL
                  refine op_wanted hoo (by kernel_rfl) fun K hK => ?_
                  clear hoo
                  refine wpIn_val (v := .pointer (some ⟨gp, op + i * 2, none⟩)) (fun _ _ => trivial) (by go_simp) ?_
                  exact hK _ _ ⟨upd qq 7 (V 7), by rw [v7.out]; kernel_rfl, HQ.out.pure (i := 7) (by omega)⟩
                · have hoo := hop
                  obtain rfl := Option.some.inj hop
                  have t7 : d 7 = true := HD.out ⟨7, .data⟩ (by simp) rfl
                  have e7 : qq 7 = .pointer (some ⟨gp, op + i * 2, none⟩) := (HQ.out.val 7 (by omega) t7).trans v7.out
                  have k0 := (HQ.out.bu.cell (p := ⟨gp, op + i * 2, none⟩) DP1.out.1).trans C0.out; have k1 := (HQ.out.bu.cell (p := ⟨gp, op + i * 2 + 1, none⟩) DP1.out.1).trans C1.out
                  clear HD HSI HCL
                  refine op_wanted hoo (by kernel_rfl) fun K hK => ?_
                  clear hoo
                  refine wpIn_val (v := .agg #[.int .u32 a0, .int .u32 a1]) (fun _ _ => trivial) (by go_simp) ?_
                  exact hK _ _ ⟨upd qq 8 (V 8), by rw [v8.out]; kernel_rfl, HQ.out.pure (i := 8) (by omega)⟩
                · have hoo := hop
                  obtain rfl := Option.some.inj hop
                  have t4 : d 4 = true := HD.out ⟨4, .data⟩ (by simp) rfl
                  have e4 : qq 4 = .agg #[.int .u32 g0, .int .u32 g1] := (HQ.out.val 4 (by omega) t4).trans v4.out
                  have t8 : d 8 = true := HD.out ⟨8, .data⟩ (by simp) rfl
                  have e8 : qq 8 = .agg #[.int .u32 a0, .int .u32 a1] := (HQ.out.val 8 (by omega) t8).trans v8.out
                  clear HD HSI HCL
                  refine op_wanted hoo (by kernel_rfl) fun K hK => ?_
                  clear hoo
                  refine wpIn_det' (v := .agg #[.int .u32 t0, .int .u32 t1]) (by go_simp) (det_mul HT.out _) fun Wn hb => ?_
                  exact hK _ _ ⟨upd qq 9 (V 9), by rw [v9.out]; kernel_rfl, (HQ.out.walk hb).pure (i := 9) (by omega)⟩
                · have hoo := hop
                  obtain rfl := Option.some.inj hop
                  have t9 : d 9 = true := HD.out ⟨9, .data⟩ (by simp) rfl
                  have e9 : qq 9 = .agg #[.int .u32 t0, .int .u32 t1] := (HQ.out.val 9 (by omega) t9).trans v9.out
                  have SI : d 10 = false := HSI.out
                  clear HD HSI HCL
                  refine op_wanted hoo (by kernel_rfl) fun K hK => ?_
                  clear hoo
                  refine wpIn_valw (v := .slice (some ⟨We.heap.size, 0, none⟩) 1 1) (w' := We.alloc (Obj.cells #[.int .u32 (t0 : Nat), .int .u32 (t1 : Nat)] 26)) (fun _ _ => trivial) (by go_simp) ?_
                  exact hK _ _ ⟨upd qq 10 (.slice (some ⟨We.heap.size, 0, none⟩) 1 1), by kernel_rfl, HQ.out.make SI⟩
                · have hoo := hop
                  obtain rfl := Option.some.inj hop
                  have t0 : d 0 = true := HD.out ⟨0, .data⟩ (by simp) rfl
                  have e0 : qq 0 = .slice pv2 i cv2 := (HQ.out.val 0 (by omega) t0).trans v0.out
                  have t10 : d 10 = true := HD.out ⟨10, .data⟩ (by simp) rfl
                  have SI : d 11 = false := HSI.out
                  obtain ⟨X, eX, hT⟩ := HQ.out.c1 t10 SI
                  clear HD HSI HCL
                  refine op_wanted hoo (by kernel_rfl) fun K hK => ?_
                  clear hoo
                  refine wpIn_app nt26 hT (.tmp 150) (.tmp 160) rfl e0 eX HLE2.out fun g8 k8 Wn hN hB => ?_
                  exact hK _ _ ⟨upd qq 11 _, by kernel_rfl, HQ.out.app t10 SI hN hB⟩
                · have hoo := hop
                  obtain rfl := Option.some.inj hop
                  have t11 : d 11 = true := HD.out ⟨11, .data⟩ (by simp) rfl
                  clear HD HSI HCL
                  refine op_wanted hoo (by kernel_rfl) fun K hK => ?_
                  clear hoo
                  refine wpIn_val (v := qq 11) (fun _ _ => trivial) (by go_simp) ?_
                  exact hK _ _ ⟨upd qq 12 (qq 11), by kernel_rfl, HQ.out.asg t11⟩
              case f23 =>
                rintro d act We ⟨qq, rfl, hR⟩ hall
                obtain ⟨g9, k9, q12, hT9⟩ := hR.done (fun i hi => hall i hi)
                have q12' : qq 12 = _ := q12
                rw [q12']
                have HT9 := Lib.hid hT9.swap
                rw [L2.out]
                rw [L2.out] at HT9
                clear hR hall hT9
                try dsimp only
                go_wp2_with fail
                try rw [EK.out]
                go_roundw
                case rel => exact ⟨i + 1, _, _, HLT.out, rfl, rfl, rfl, by rw [HC1.out, HC2.out]; exact HT9.out⟩
                case measure =>
                  have := HLT.out
                  show j - ((i + 1 : Nat) : Int).toNat < j - (i : Int).toNat
                  omega
          · have hjn : j = i := by omega
            have tl : decide ((i : Int) < (j : Int)) = false := decide_eq_false (by omega)
            have tl' : decide (i < j) = false := decide_eq_false hlt
            clear hn
            obtain rfl : i = j := hjn.symm
            clear hlt hi hjn
            go_upto_region 25 with fail
            have HT := Lib.hid HT1.out.below
            have RBO := Lib.hid HT1.out.o1.row
            have RSH := Lib.hid HT1.out.o2.row
            have RR11 := Lib.hid (RR10.out.at HT.out)
            have RU11 := Lib.hid (RU10.out.at HT.out)
            have HA11 := Lib.hid (Eight.step HA10.out HT.out)
            have HL11 := Lib.hid (HL10.out.trans (HT.out.mono HL10.out.size))
            have NBO : Hid (NL 30000 (upto h1 i) (fftz k (sumz zA zB i))) := Lib.hid (by
              have := sums_nz HK.out NA.out NB.out zAl.out zBl.out
              rw [GP.out, GQ.out, ← HJ.out] at this
              rw [H1.out]; exact this)
            have NSH : Hid (NL 30000 (upto h2 i) (fftz k (turnz zA i))) := Lib.hid (by
              have := turned_nz HK.out NA.out zAl.out
              rw [GP.out, ← HJ.out, GW.out] at this
              rw [H2.out]; exact this)
            have NRR := Lib.hid (fft_nl k HK.out _ _ _ NS.out (by decide))
            have NRU := Lib.hid (fft_nl k HK.out _ _ _ NT.out (by decide))
            have lBO : Hid ((upto h1 i).length = i) := L1
            have lSH : Hid ((upto h2 i).length = i) := L2
            clear HT HT1 RR10 RU10 HA10 HL10 RA10 RB10 RS10 RT10 RP10 RQ10 RW10 RK10 DP1 DQ1 DW1 L1 L2 tl tl' GP GQ GW lP lQ lW HF hW2 H1 H2 lA lB NS NT NA NB zAl zBl
            generalize upto h1 i = BO at *
            generalize upto h2 i = SH at *
            generalize fftz k (sumz zA zB i) = zS at *
            generalize fftz k (turnz zA i) = zT at *
            obtain ⟨Wv, rfl⟩ : ∃ W, W = wr := ⟨_, rfl⟩
            obtain ⟨g1, hg1⟩ : ∃ f : Nat → Nat, f = fun m => FloatKind.f32.nearest (sm (X m).1) := ⟨_, rfl⟩
            have G1 := Lib.hid hg1
            clear hg1
            go_wp2_with fail
            go_loopw [28, 164] (fun s28 s164 wq => ∃ m : Nat, ∃ c1 : Value, m ≤ i ∧ s164 = .int .i64 m ∧ s28 = c1 ∧ TU Wv c1 (upto g1 m) wq) (fun _ s164 _ => i - (intOf s164).toNat)
            case atStart => exact ⟨0, _, Nat.zero_le _, rfl, rfl, TU.start Wv⟩
            case round =>
              obtain ⟨m, c1, hm, rfl, rfl, ht⟩ := hrel
              have HT1 := Lib.hid ht
              obtain ⟨pu3, cu3, rfl⟩ := OwnU.slice ht.o1
              clear ht
              have L1 : Hid ((upto g1 m).length = m) := upto_length _ _
              rw [L1.out] at HT1 ⊢
              by_cases hlt : m < i
              · have tl : decide ((m : Int) < (i : Int)) = true := decide_eq_true (by omega)
                have tl' : decide (m < i) = true := decide_eq_true hlt
                have h4 : m < 4 := Nat.lt_of_lt_of_le hlt HN4.out
                have h4' : (m : Int) < 4 := by omega
                obtain ⟨c0, _⟩ := HA11.out.cells h4
                have c0 := (HT1.out.below.cell (p := ⟨XA, m * 2, none⟩) (blk_lt HA11.out)).trans c0
                have ek1 : wrap64 ((m : Int) + 1) = ((m + 1 : Nat) : Int) := by unfold wrap64; omega
                have EK := Lib.hid ek1
                have HC1 : Hid (upto g1 (m + 1) = upto g1 m ++ [FloatKind.f32.nearest (sm (X m).1)]) := by show _ = _; rw [upto_succ, G1.out]
                have HXm := Lib.hid (HX.out m).1
                generalize (X m).1 = x at *
                have HLT := Lib.hid hlt
                have H4 := Lib.hid h4
                have HLE : Hid (m ≤ 2000) := by show m ≤ 2000; omega
                have hcv : ∀ w, (convert 3 31 (.int .i64 (sm x))).run Try.prog w = .ok (.float .f32 (FloatKind.f32.nearest (sm x))) w := fun w => by go_simp; rfl
                have HCV := Lib.hid hcv
                clear hm hlt ek1 hcv
                go_wp2_with fail
                clear c0
                refine (det_small HXm.out _).mono ?_
                rintro e W3 ⟨rfl, hb⟩
                have HT2 := Lib.hid (HT1.out.step hb)
                clear hb HT1
                have hcv := HCV.out
                have h35 := fun w => run35 (FloatKind.f32.nearest (sm x)) w
                generalize FloatKind.f32.nearest (sm x) = c at *
                go_wp2_with (at_builtin; refine wpList_TU HT2.out c rfl _ _ rfl rfl rfl L1.out HLE.out ?_; intro p8 k8 W8 h8; have HT8 := Lib.hid h8; clear h8)
                try rw [EK.out]
                clear hcv h35
                go_roundw
                case rel => exact ⟨m + 1, _, HLT.out, rfl, rfl, by rw [HC1.out]; exact HT8.out⟩
                case measure =>
                  have := HLT.out
                  show i - ((m + 1 : Nat) : Int).toNat < i - (m : Int).toNat
                  omega
              · have hjn : i = m := by omega
                have tl : decide ((m : Int) < (i : Int)) = false := decide_eq_false (by omega)
                have tl' : decide (m < i) = false := decide_eq_false hlt
                obtain rfl : m = i := hjn.symm
                clear hlt hm hjn
                go_upto_region 31 with fail
                have HTB := Lib.hid HT1.out.below
                have RSM := Lib.hid HT1.out.o1.row
                have RR12 := Lib.hid (RR11.out.below HTB.out)
                have RU12 := Lib.hid (RU11.out.below HTB.out)
                have RBO2 := Lib.hid (RBO.out.below HTB.out)
                have RSH2 := Lib.hid (RSH.out.below HTB.out)
                have HL12 := Lib.hid (HL11.out.trans (HTB.out.mono HL11.out.size))
                have HXW : Hid (∀ q, q < 2 ^ k → Wh (canon ((upto g1 m).getD q 0)) (sm (X q).1) ∧ (sm (X q).1).natAbs ≤ 1000) := Lib.hid (by
                  intro q hq
                  rw [← HJ.out] at hq
                  rw [getD_upto _ _ _ hq, G1.out]
                  exact ⟨wh_near (Nat.le_trans (sm_le _) (by decide)), sm_le _⟩)
                clear HTB HT1 RR11 RU11 RBO RSH HL11 HA11 tl tl'
                obtain ⟨Wv2, rfl⟩ : ∃ W, W = wr := ⟨_, rfl⟩
                generalize upto g1 m = SM at *
                obtain ⟨gs, os, cs, hvs, hcs, hgs, hxs⟩ := row32_some RSM.out L1.out HNP.out
                obtain ⟨rfl, rfl⟩ : pu3 = some ⟨gs, os, none⟩ ∧ cu3 = cs := by injection hvs with a b c; exact ⟨a, c⟩
                have GS := Lib.hid hgs
                have XS := Lib.hid hxs
                have CS := Lib.hid hcs
                clear hvs hgs hxs hcs
                obtain ⟨g2, hg2⟩ : ∃ f : Nat → Nat, f = fun q => SM.getD ((q + m - 1) % m) 0 := ⟨_, rfl⟩
                have G2 := Lib.hid hg2
                clear hg2
                go_wp2_with fail
                go_loopw [29, 179] (fun s29 s179 wq => ∃ q : Nat, ∃ c1 : Value, q ≤ m ∧ s179 = .int .i64 q ∧ s29 = c1 ∧ TU Wv2 c1 (upto g2 q) wq) (fun _ s179 _ => m - (intOf s179).toNat)
                case atStart => exact ⟨0, _, Nat.zero_le _, rfl, rfl, TU.start Wv2⟩
                case round =>
                  obtain ⟨q, c1, hq, rfl, rfl, ht⟩ := hrel
                  have HT1 := Lib.hid ht
                  obtain ⟨pu4, cu4, rfl⟩ := OwnU.slice ht.o1
                  clear ht
                  have L2 : Hid ((upto g2 q).length = q) := upto_length _ _
                  rw [L2.out] at HT1 ⊢
                  by_cases hlt : q < m
                  · have tl : decide ((q : Int) < (m : Int)) = true := decide_eq_true (by omega)
                    have tl' : decide (q < m) = true := decide_eq_true hlt
                    have h4 := HN4.out
                    have hM : (q + m - 1) % m < m := Nat.mod_lt _ HNP.out
                    have hx2 := getD_get (l := SM) (j := (q + m - 1) % m) (by rw [L1.out]; exact hM)
                    have c0 := XS.out _ _ hx2
                    have ek1 : wrap64 ((q : Int) + 1) = ((q + 1 : Nat) : Int) := by unfold wrap64; omega
                    have EK := Lib.hid ek1
                    have HC1 : Hid (upto g2 (q + 1) = upto g2 q ++ [SM.getD ((q + m - 1) % m) 0]) := by show _ = _; rw [upto_succ, G2.out]
                    obtain ⟨M, hM2⟩ : ∃ M, M = q + m - 1 := ⟨_, rfl⟩
                    rw [← hM2] at hM hx2 c0 HC1
                    have w1 : wrap64 ((q : Int) + (m : Int)) = (q : Int) + (m : Int) := by unfold wrap64; omega
                    have w2 : wrap64 ((q : Int) + (m : Int) - 1) = (M : Int) := by unfold wrap64; omega
                    have w3 : (M : Int).tmod (m : Int) = ((M % m : Nat) : Int) := by rw [Int.tmod_eq_emod_of_nonneg (by omega)]; rfl
                    have w4 : wrap64 ((M % m : Nat) : Int) = ((M % m : Nat) : Int) := by unfold wrap64; omega
                    have w5 : ((m : Int) == 0) = false := by have := HNP.out; simp; omega
                    generalize SM.getD (M % m) 0 = c at *
                    generalize M % m = r at *
                    have C0 := Lib.hid ((HT1.out.below.cell (p := ⟨gs, os + r, none⟩) GS.out).trans c0)
                    have HLT := Lib.hid hlt
                    have HLE : Hid (q ≤ 2000) := by show q ≤ 2000; omega
                    have HBM : Hid ((r : Int) < (m : Int)) := Lib.hid (Int.ofNat_lt.2 hM)
                    have HMN := Lib.hid hM
                    have WW := Lib.hid (And.intro w1 (And.intro w2 (And.intro w3 (And.intro w4 w5))))
                    clear hq hlt h4 hM hM2 hx2 c0 ek1 w1 w2 w3 w4 w5
                    go_upto_region 34 with fail
                    obtain ⟨w1, w2, w3, w4, w5⟩ := WW.out
                    have bm : (r : Int) < (m : Int) := HBM.out
                    have bm' : r < m := HMN.out
                    have c0 := C0.out
                    clear tl tl'
                    go_wp2_with (at_builtin; refine wpList_TU HT1.out c rfl _ _ rfl rfl rfl L2.out HLE.out ?_; intro p8 k8 W8 h8; have HT8 := Lib.hid h8; clear h8)
                    try rw [EK.out]
                    clear w1 w2 w3 w4 w5 bm bm' c0
                    go_roundw
                    case rel => exact ⟨q + 1, _, HLT.out, rfl, rfl, by rw [HC1.out]; exact HT8.out⟩
                    case measure =>
                      have := HLT.out
                      show m - ((q + 1 : Nat) : Int).toNat < m - (q : Int).toNat
                      omega
                  · have hjn : m = q := by omega
                    have tl : decide ((q : Int) < (m : Int)) = false := decide_eq_false (by omega)
                    have tl' : decide (q < m) = false := decide_eq_false hlt
                    obtain rfl : q = m := hjn.symm
                    clear hlt hq hjn
                    go_upto_region 36 with fail
                    have HTB := Lib.hid HT1.out.below
                    have RLT := Lib.hid HT1.out.o1.row
                    have RR13 := Lib.hid (RR12.out.below HTB.out)
                    have RU13 := Lib.hid (RU12.out.below HTB.out)
                    have RBO3 := Lib.hid (RBO2.out.below HTB.out)
                    have RSH3 := Lib.hid (RSH2.out.below HTB.out)
                    have RSM3 := Lib.hid (RSM.out.below HTB.out)
                    have HL13 := Lib.hid (HL12.out.trans (HTB.out.mono HL12.out.size))
                    have HTT : Hid (∀ j, j < 2 ^ k → (upto g2 q).getD j 0 = SM.getD ((j + 2 ^ k - 1) % 2 ^ k) 0) := Lib.hid (by
                      intro j hj
                      rw [← HJ.out] at hj ⊢
                      rw [getD_upto _ _ _ hj, G2.out])
                    have HSP : Hid (spec k SM = spec k (upto g2 q)) := Lib.hid (spec_turn HK.out (x := fun j => sm (X j).1) HXW.out HTT.out)
                    have h4k : Hid (2 ^ k ≤ 1000) := Lib.hid (by rw [← HJ.out]; exact Nat.le_trans HN4.out (by decide))
                    clear HTB HT1 RR12 RU12 RBO2 RSH2 RSM HL12 tl tl' HTT HXW G2
                    generalize upto g2 q = LM at *
                    obtain ⟨Wv3, rfl⟩ : ∃ W, W = wr := ⟨_, rfl⟩
                    go_wp2_with fail
                    refine (spec_small HK.out _ (L1.out.trans HJ.out) _ RSM3.out).mono ?_
                    rintro e W31 ⟨vu, rfl, hr, hb⟩
                    have RR14 := Lib.hid (RR13.out.below hb)
                    have RU14 := Lib.hid (RU13.out.below hb)
                    have RBO4 := Lib.hid (RBO3.out.below hb)
                    have RSH4 := Lib.hid (RSH3.out.below hb)
                    have RLT4 := Lib.hid (RLT.out.below hb)
                    have RUU := Lib.hid hr
                    have HL14 := Lib.hid (HL13.out.trans (hb.mono HL13.out.size))
                    clear hb hr RR13 RU13 RBO3 RSH3 RSM3 RLT HL13
                    go_wp2_with fail
                    refine (spec_small HK.out _ (L2.out.trans HJ.out) _ RLT4.out).mono ?_
                    rintro e W32 ⟨vv, rfl, hr, hb⟩
                    rw [← HSP.out] at hr
                    have RR15 := Lib.hid (RR14.out.below hb)
                    have RU15 := Lib.hid (RU14.out.below hb)
                    have RBO5 := Lib.hid (RBO4.out.below hb)
                    have RSH5 := Lib.hid (RSH4.out.below hb)
                    have RUU2 := Lib.hid (RUU.out.below hb)
                    have RVV := Lib.hid hr
                    have HL15 := Lib.hid (HL14.out.trans (hb.mono HL14.out.size))
                    clear hb hr RR14 RU14 RBO4 RSH4 RLT4 RUU HL14
                    go_wp2_with fail
                    refine (same_nl RR15.out RBO5.out NRR.out NBO.out (by rw [fft_length]; exact h4k.out)).mono ?_
                    rintro e W33 ⟨rfl, hb⟩
                    have RU16 := Lib.hid (RU15.out.below hb)
                    have RSH6 := Lib.hid (RSH5.out.below hb)
                    have RUU3 := Lib.hid (RUU2.out.below hb)
                    have RVV2 := Lib.hid (RVV.out.below hb)
                    have HL16 := Lib.hid (HL15.out.trans (hb.mono HL15.out.size))
                    clear hb RR15 RU15 RBO5 RSH5 RUU2 RVV HL15
                    go_wp2_with fail
                    refine (same_nl RU16.out RSH6.out NRU.out NSH.out (by rw [fft_length]; exact h4k.out)).mono ?_
                    rintro e W34 ⟨rfl, hb⟩
                    have RUU4 := Lib.hid (RUU3.out.below hb)
                    have RVV3 := Lib.hid (RVV2.out.below hb)
                    have HL17 := Lib.hid (HL16.out.trans (hb.mono HL16.out.size))
                    clear hb RU16 RSH6 RUU3 RVV2 HL16
                    go_wp2_with fail
                    refine (eq32_at vu vv _ _ _ RUU4.out RVV3.out (spec_len HK.out _)).mono ?_
                    rintro e W35 ⟨rfl, hb⟩
                    have HL18 := Lib.hid (HL17.out.trans (hb.mono HL17.out.size))
                    clear hb HL17
                    rw [decide_eq_true (rfl : spec k SM = spec k SM)]
                    go_wp2_with fail
                    refine (awake_at _).mono ?_
                    rintro e W36 ⟨rfl, hb⟩
                    have HL19 := Lib.hid (HL18.out.trans (hb.mono HL18.out.size))
                    clear hb
                    go_wp2_with fail
                    go_ret
                    exact ⟨rfl, HL19.out⟩
end Go.Proofs.Ytlbgpfddmkpakaa.Nu
namespace Go.Proofs.Ytlbgpfddmkpakaa.Nu
open Go.RowKit Go.ChangeShapes
set_option linter.unusedVariables false
set_option linter.unusedSimpArgs false
theorem cells23' : Try.prog.cellsOf 23 = 2 := by kernel_rfl
theorem cells22' : Try.prog.cellsOf 22 = 1 := by kernel_rfl
theorem cells68 : Try.prog.cellsOf 68 = 8 := by kernel_rfl
theorem und22' : Try.prog.underlying 22 = some (.int .i16) := by kernel_rfl
theorem und23' : Try.prog.underlying 23 = some (.array 2 22) := by kernel_rfl
theorem und68 : Try.prog.underlying 68 = some (.array 4 23) := by kernel_rfl
set_option maxRecDepth 100000 in
/-- Two elements of an array. -/
theorem pair_of {H : Type} {enc : TypeId × Value → H} {W : World} {ls : List Value} {x : DataW H × List MemPlace} {fuel : Nat} (h : DataW.trod enc Try.prog W 0 (fun _ => true) true fuel 23 ls = some x) : ∃ xs : Int × Int, ls = [.int .i16 xs.1, .int .i16 xs.2] ∧ In16 xs := by
  obtain ⟨xs, m, hk, hxy, hlen, hxl, hf⟩ := DataW.trod_array und23' h
  rw [cells23'] at hlen
  match xs, hxl, ls, hlen with
  | [y0, y1], _, [v0, v1], _ =>
    have g0 := hf 0 (by omega)
    have g1 := hf 1 (by omega)
    simp [cells22'] at g0 g1
    obtain ⟨z0, q0, _, w0⟩ := DataW.trod_int und22' g0
    obtain ⟨z1, q1, _, w1⟩ := DataW.trod_int und22' g1
    simp at q0 q1
    subst q0 q1
    exact ⟨(z0, z1), rfl, w0, w1⟩
set_option maxRecDepth 100000 in
theorem arrh42_of {H : Type} {enc : TypeId × Value → H} {W : World} {v : Value} {d : DataW H} {ps : List MemPlace} {r : Reach} {b0 : Nat} (hval : Value.okWide Try.prog W r b0 68 v) (h : DataW.Trod enc Try.prog W 0 (fun _ => true) true 68 v d ps) :
    ∃ X : Nat → Int × Int, v = .agg (eight X) ∧ ∀ j, In16 (X j) := by
  simp only [Value.okWide, und68] at hval
  obtain ⟨cs, rfl, _⟩ := hval
  obtain ⟨fuel, h⟩ := h
  obtain ⟨xs, k, hk, hxy, hlen, hxl, hf⟩ := DataW.trod_array und68 h
  obtain ⟨ls⟩ := cs
  simp only [Value.cells] at h hlen hf
  rw [cells68] at hlen
  match xs, hxl, ls, hlen with
  | [y0, y1, y2, y3], _, [v0, v1, v2, v3, v4, v5, v6, v7], _ =>
    have g0 := hf 0 (by omega)
    have g1 := hf 1 (by omega)
    have g2 := hf 2 (by omega)
    have g3 := hf 3 (by omega)
    simp [cells23'] at g0 g1 g2 g3
    obtain ⟨a, e0, a0⟩ := pair_of g0
    obtain ⟨b, e1, b0'⟩ := pair_of g1
    obtain ⟨c, e2, c0⟩ := pair_of g2
    obtain ⟨f, e3, f0⟩ := pair_of g3
    simp at e0 e1 e2 e3
    obtain ⟨rfl, rfl⟩ := e0
    obtain ⟨rfl, rfl⟩ := e1
    obtain ⟨rfl, rfl⟩ := e2
    obtain ⟨rfl, rfl⟩ := e3
    refine ⟨fun j => if j = 0 then a else if j = 1 then b else if j = 2 then c else f, rfl, fun j => ?_⟩
    show In16 (if j = 0 then a else if j = 1 then b else if j = 2 then c else f)
    split
    · exact a0
    · split
      · exact b0'
      · split
        · exact c0
        · exact f0
theorem law_back (X Y : Nat → Int × Int) (s : Int) (hs : (Lit.int .u8 s).wf = true) (w : World) (hX : ∀ j, In16 (X j)) (hY : ∀ j, In16 (Y j)) :
    Calls Try.prog 7 #[.agg (eight X), .agg (eight Y), .int .u8 s] w fun e w' => e = .returned (.bool true) ∧ Below w.heap.size w w' :=
  back_walk X Y hX hY s hs w
end Go.Proofs.Ytlbgpfddmkpakaa.Nu
