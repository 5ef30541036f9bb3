/- Numeric: products of polynomials whose coefficients are small whole numbers, plainly; the coefficients, cut from an array; a drawn region with rows that are made. -/
import Derived.Test.YtlbgpfddmkpakaaLb
import Derived.Test.YtlbgpfddmkpakaaJd
import Derived.Test.YtlbgpfddmkpakaaFa
import Derived.Test.YtlbgpfddmkpakaaJe
namespace Go.Proofs.Ytlbgpfddmkpakaa.Nu
open Go.RowKit
set_option linter.unusedVariables false
set_option linter.unusedSimpArgs false
def zadd (x y : Int × Int) : Int × Int := (x.1 + y.1, x.2 + y.2)
def zmul (x y : Int × Int) : Int × Int := (x.1 * y.1 - x.2 * y.2, x.1 * y.2 + x.2 * y.1)
def elz (l : List (Int × Int)) (j : Nat) : Int × Int := l.getD j (0, 0)
/-- A number that is a whole one. -/
def Nz (p : Nat × Nat) (z : Int × Int) : Prop := Nb p z.1 z.2
/-- Parts up to a bound. -/
def Bd (M : Nat) (z : Int × Int) : Prop := z.1.natAbs ≤ M ∧ z.2.natAbs ≤ M
theorem Bd.mono {M N : Nat} {z : Int × Int} (h : Bd M z) (hn : M ≤ N) : Bd N z := ⟨Nat.le_trans h.1 hn, Nat.le_trans h.2 hn⟩
theorem Bd.add {M N : Nat} {x y : Int × Int} (hx : Bd M x) (hy : Bd N y) : Bd (M + N) (zadd x y) := by
  obtain ⟨a, b⟩ := hx
  obtain ⟨c, d⟩ := hy
  exact ⟨by show (x.1 + y.1).natAbs ≤ _; omega, by show (x.2 + y.2).natAbs ≤ _; omega⟩
theorem Bd.mul {M N : Nat} {x y : Int × Int} (hx : Bd M x) (hy : Bd N y) : Bd (2 * (M * N)) (zmul x y) := by
  have h1 := abs_mul hx.1 hy.1
  have h2 := abs_mul hx.2 hy.2
  have h3 := abs_mul hx.1 hy.2
  have h4 := abs_mul hx.2 hy.1
  exact ⟨by show (x.1 * y.1 - x.2 * y.2).natAbs ≤ _; omega, by show (x.1 * y.2 + x.2 * y.1).natAbs ≤ _; omega⟩
theorem Nz.add {p q : Nat × Nat} {x y : Int × Int} {M N : Nat} (hp : Nz p x) (hq : Nz q y) (bx : Bd M x) (by' : Bd N y) (h : M + N ≤ 2 ^ 24) : Nz (addc p q) (zadd x y) := by
  have b := bx.add by'
  exact Nb.add hp hq (Nat.le_trans b.1 h) (Nat.le_trans b.2 h)
theorem Nz.mul {p q : Nat × Nat} {x y : Int × Int} {M N : Nat} (hp : Nz p x) (hq : Nz q y) (bx : Bd M x) (by' : Bd N y) (h : 2 * (M * N) ≤ 2 ^ 24) : Nz (mulc p q) (zmul x y) :=
  Nb.mulB hp hq bx.1 bx.2 by'.1 by'.2 h rfl rfl
theorem nz_zero : Nz (0, 0) (0, 0) := by
  have hz : Va 149 (Ieee.single.read 0) 0 := ⟨false, 0, -149, by kernel_rfl, by decide, by rw [signed_eq]; simp⟩
  have : Wh (canon 0) 0 := ⟨0, canon_some (by kernel_rfl), hz⟩
  exact ⟨this, this⟩
theorem Nz.cc {p : Nat × Nat} {z : Int × Int} (h : Nz p z) : Nz (Nu.cc p.1, Nu.cc p.2) z := ⟨h.1.cc, h.2.cc⟩
/-- A list of whole numbers. -/
structure NL (M : Nat) (l : List (Nat × Nat)) (z : List (Int × Int)) : Prop where
  len : l.length = z.length
  nz : ∀ i, Nz (el l i) (elz z i)
  bd : ∀ i, Bd M (elz z i)
theorem NL.tail {M : Nat} {c : Nat × Nat} {l : List (Nat × Nat)} {y : Int × Int} {z : List (Int × Int)} (h : NL M (c :: l) (y :: z)) : NL M l z :=
  ⟨by have := h.len; simp at this; exact this, fun i => h.nz (i + 1), fun i => h.bd (i + 1)⟩
def pcz (a b : List (Int × Int)) (t : Nat) : Nat → Int × Int
  | 0 => (0, 0)
  | n + 1 => if n ≤ t ∧ t - n < b.length then zadd (pcz a b t n) (zmul (elz a n) (elz b (t - n))) else pcz a b t n
def prodz (a b : List (Int × Int)) : List (Int × Int) := if a = [] ∨ b = [] then [] else upto (fun t => pcz a b t a.length) (a.length + b.length - 1)
def hoz (x : Int × Int) : List (Int × Int) → Int × Int
  | [] => (0, 0)
  | [c] => c
  | c :: d :: cs => zadd c (zmul x (hoz x (d :: cs)))
theorem pc_nz {a b : List (Nat × Nat)} {x y : List (Int × Int)} (ha : NL 9 a x) (hb : NL 9 b y) (t : Nat) : ∀ n, n ≤ 3 → Nz (pc a b t n) (pcz x y t n) ∧ Bd (162 * n) (pcz x y t n) := by
  intro n
  induction n with
  | zero => intro _; exact ⟨nz_zero, Nat.zero_le _, Nat.zero_le _⟩
  | succ n ih =>
    intro hn
    obtain ⟨h1, h2⟩ := ih (by omega)
    unfold pc pcz
    rw [hb.len]
    split
    · have m1 := (ha.nz n).mul (hb.nz (t - n)) (ha.bd n) (hb.bd (t - n)) (by decide)
      have m2 := (ha.bd n).mul (hb.bd (t - n))
      exact ⟨h1.add m1 h2 m2 (by omega), (h2.add m2).mono (by omega)⟩
    · exact ⟨h1, h2.mono (by omega)⟩
theorem el_upto {f : Nat → Nat × Nat} {n i : Nat} : el (upto f n) i = if i < n then f i else (0, 0) := by
  unfold el upto
  rw [List.getD_eq_getElem?_getD, List.getElem?_map]
  by_cases h : i < n
  · simp [h]
  · rw [if_neg h, List.getElem?_eq_none (by simp; omega)]; rfl
theorem elz_upto {f : Nat → Int × Int} {n i : Nat} : elz (upto f n) i = if i < n then f i else (0, 0) := by
  unfold elz upto
  rw [List.getD_eq_getElem?_getD, List.getElem?_map]
  by_cases h : i < n
  · simp [h]
  · rw [if_neg h, List.getElem?_eq_none (by simp; omega)]; rfl
theorem el_nil (i : Nat) : el [] i = (0, 0) := rfl
theorem elz_nil (i : Nat) : elz [] i = (0, 0) := rfl
theorem NL.nil (M : Nat) : NL M [] [] := ⟨rfl, fun i => nz_zero, fun i => ⟨Nat.zero_le _, Nat.zero_le _⟩⟩
theorem prod_nz {a b : List (Nat × Nat)} {x y : List (Int × Int)} (ha : NL 9 a x) (hb : NL 9 b y) (h3 : a.length ≤ 3) : NL 486 (prod a b) (prodz x y) := by
  have e1 : a = [] ↔ x = [] := by rw [← List.length_eq_zero_iff, ← List.length_eq_zero_iff, ha.len]
  have e2 : b = [] ↔ y = [] := by rw [← List.length_eq_zero_iff, ← List.length_eq_zero_iff, hb.len]
  unfold prod prodz
  by_cases h0 : a = [] ∨ b = []
  · rw [if_pos h0, if_pos (by rw [← e1, ← e2]; exact h0)]
    exact NL.nil _
  · rw [if_neg h0, if_neg (by rw [← e1, ← e2]; exact h0)]
    rw [ha.len, hb.len]
    refine ⟨by rw [upto_length, upto_length], fun i => ?_, fun i => ?_⟩
    · rw [el_upto, elz_upto]
      split
      · exact (pc_nz ha hb i _ (by rw [← ha.len]; exact h3)).1
      · exact nz_zero
    · rw [elz_upto]
      split
      · exact (pc_nz ha hb i _ (by rw [← ha.len]; exact h3)).2.mono (by rw [← ha.len]; omega)
      · exact ⟨Nat.zero_le _, Nat.zero_le _⟩
def bnd (M : Nat) : Nat → Nat
  | 0 => 0
  | 1 => M
  | k + 2 => M + 6 * bnd M (k + 1)
theorem bnd_mono (M : Nat) {k j : Nat} (h : k ≤ j) : bnd M k ≤ bnd M j := by
  induction j with
  | zero => rw [show k = 0 by omega]; exact Nat.le_refl _
  | succ j ih =>
    by_cases e : k = j + 1
    · rw [e]; exact Nat.le_refl _
    · refine Nat.le_trans (ih (by omega)) ?_
      match j with
      | 0 => exact Nat.zero_le _
      | j + 1 => show bnd M (j + 1) ≤ M + 6 * bnd M (j + 1); omega
theorem ho_nz {x : Nat × Nat} {z : Int × Int} (hx : Nz x z) (bx : Bd 3 z) {M : Nat} (hM : M ≤ 486) : ∀ (l : List (Nat × Nat)) (y : List (Int × Int)), NL M l y → l.length ≤ 5 → Nz (ho x l) (hoz z y) ∧ Bd (bnd M l.length) (hoz z y)
  | [], y, h, _ => by
    have : y = [] := List.length_eq_zero_iff.1 h.len.symm
    subst this
    exact ⟨nz_zero, Nat.zero_le _, Nat.zero_le _⟩
  | [c], y, h, _ => by
    match y, h with
    | [d], h => exact ⟨(h.nz 0).cc, h.bd 0⟩
    | [], h => have := h.len; cases this
    | d :: e :: y, h => have := h.len; simp at this
  | c :: d :: cs, y, h, h5 => by
    match y, h with
    | [], h => have := h.len; cases this
    | [e], h => have := h.len; simp at this
    | e :: f :: y, h =>
      obtain ⟨i1, i2⟩ := ho_nz hx bx hM (d :: cs) (f :: y) h.tail (by simp only [List.length_cons] at h5 ⊢; omega)
      have hb : bnd M (d :: cs).length ≤ 125874 := by
        refine Nat.le_trans (bnd_mono M (j := 4) (by simp only [List.length_cons] at h5 ⊢; omega)) ?_
        show M + 6 * (M + 6 * (M + 6 * M)) ≤ 125874
        omega
      have m1 := hx.mul i1 bx i2 (by omega)
      have m2 := bx.mul i2
      have e0 : Bd M e := h.bd 0
      refine ⟨Nz.add (h.nz 0) m1 e0 m2 (by omega), (e0.add m2).mono ?_⟩
      show M + 2 * (3 * bnd M (cs.length + 1)) ≤ M + 6 * bnd M (cs.length + 1)
      omega
set_option maxHeartbeats 2000000 in
theorem hoz_prod (z : Int × Int) (a b : List (Int × Int)) (ha : a.length ≤ 3) (hb : b.length ≤ 3) : hoz z (prodz a b) = zmul (hoz z a) (hoz z b) := by
  obtain ⟨z0, z1⟩ := z
  have A : a = [] ∨ (∃ p, a = [p]) ∨ (∃ p q, a = [p, q]) ∨ ∃ p q r, a = [p, q, r] := by
    match a, ha with
    | [], _ => exact .inl rfl
    | [p], _ => exact .inr (.inl ⟨p, rfl⟩)
    | [p, q], _ => exact .inr (.inr (.inl ⟨p, q, rfl⟩))
    | [p, q, r], _ => exact .inr (.inr (.inr ⟨p, q, r, rfl⟩))
    | p :: q :: r :: s :: t, h => simp at h
  have B : b = [] ∨ (∃ p, b = [p]) ∨ (∃ p q, b = [p, q]) ∨ ∃ p q r, b = [p, q, r] := by
    match b, hb with
    | [], _ => exact .inl rfl
    | [p], _ => exact .inr (.inl ⟨p, rfl⟩)
    | [p, q], _ => exact .inr (.inr (.inl ⟨p, q, rfl⟩))
    | [p, q, r], _ => exact .inr (.inr (.inr ⟨p, q, r, rfl⟩))
    | p :: q :: r :: s :: t, h => simp at h
  rcases A with rfl | ⟨⟨p0, p1⟩, rfl⟩ | ⟨⟨p0, p1⟩, ⟨q0, q1⟩, rfl⟩ | ⟨⟨p0, p1⟩, ⟨q0, q1⟩, ⟨r0, r1⟩, rfl⟩ <;> rcases B with rfl | ⟨⟨s0, s1⟩, rfl⟩ | ⟨⟨s0, s1⟩, ⟨t0, t1⟩, rfl⟩ | ⟨⟨s0, s1⟩, ⟨t0, t1⟩, ⟨u0, u1⟩, rfl⟩
  all_goals
    simp [prodz, upto, List.range_succ, pcz, elz, hoz, zadd, zmul]
  all_goals (constructor <;> grind)
/-- The value of a product is the product of the values. -/
theorem products_plain {x : Nat × Nat} {z : Int × Int} (hx : Nz x z) (bx : Bd 3 z) {a b : List (Nat × Nat)} {p q : List (Int × Int)} (ha : NL 9 a p) (hb : NL 9 b q) (la : a.length ≤ 3) (lb : b.length ≤ 3) :
    ∃ u : Int × Int, Nz (ho x (prod a b)) u ∧ Nz (mulc (ho x a) (ho x b)) u := by
  have hp := prod_nz ha hb la
  have hl : (prod a b).length ≤ 5 := by
    unfold prod
    split
    · exact Nat.zero_le _
    · rw [upto_length]; omega
  obtain ⟨h1, _⟩ := ho_nz hx bx (Nat.le_refl _) _ _ hp hl
  obtain ⟨h2, k2⟩ := ho_nz hx bx (by decide) _ _ ha (by omega)
  obtain ⟨h3, k3⟩ := ho_nz hx bx (by decide) _ _ hb (by omega)
  have c : bnd 9 3 = 387 := by decide
  have k2' := k2.mono (Nat.le_trans (bnd_mono 9 la) (Nat.le_of_eq c))
  have k3' := k3.mono (Nat.le_trans (bnd_mono 9 lb) (Nat.le_of_eq c))
  refine ⟨_, h1, ?_⟩
  rw [hoz_prod z p q (by rw [← ha.len]; exact la) (by rw [← hb.len]; exact lb)]
  exact h2.mul h3 k2' k3' (by decide)
end Go.Proofs.Ytlbgpfddmkpakaa.Nu
namespace Go.Proofs.Ytlbgpfddmkpakaa.Nu
open Go.RowKit
set_option linter.unusedVariables false
set_option linter.unusedSimpArgs false
def cutL (X : Nat → Int × Int) (m : Nat) : List (Nat × Nat) := upto (fun j => nw ((X j).1.tmod 10) ((X j).2.tmod 10)) m
def six (X : Nat → Int × Int) : Array Value := #[.int .i8 (X 0).1, .int .i8 (X 0).2, .int .i8 (X 1).1, .int .i8 (X 1).2, .int .i8 (X 2).1, .int .i8 (X 2).2]
def In8 (z : Int × Int) : Prop := (-128 ≤ z.1 ∧ z.1 ≤ 127) ∧ (-128 ≤ z.2 ∧ z.2 ≤ 127)
theorem rem_in {x : Int} (k : Int) (hk : 0 < k) (hk' : k ≤ 1001) (hx : -128 ≤ x ∧ x ≤ 127) : -k < x.tmod k ∧ x.tmod k < k ∧ wrap64 x = x ∧ wrap64 (x.tmod k) = x.tmod k := by
  have h1 := Int.tmod_lt_of_pos x hk
  have h2 := Int.lt_tmod_of_pos x hk
  refine ⟨h2, h1, ?_, ?_⟩ <;> (unfold wrap64; omega)
theorem rem4 {s : Int} (hs : (Lit.int .u8 s).wf = true) : ∃ m : Nat, m ≤ 3 ∧ s.tmod 4 = (m : Int) := by
  have hb : 0 ≤ s ∧ s ≤ 255 := by
    have h1 : IntKind.u8.min = 0 := by kernel_rfl
    have h2 : IntKind.u8.max = 255 := by kernel_rfl
    simp [Lit.wf] at hs
    rw [h1, h2] at hs
    exact hs
  have h3 : s.tmod 4 = s % 4 := Int.tmod_eq_emod_of_nonneg hb.1
  exact ⟨(s % 4).toNat, by omega, by omega⟩
theorem heap_six (w : World) (C : Array Value) (t : TypeId) : (w.alloc (Obj.cells C t)).heap[w.heap.size]? = some (.cells C t (0, 0)) := (MapKept.heap_alloc _ _).1
theorem six_cells (w : World) (X : Nat → Int × Int) (j : Nat) (hj : j < 3) : (w.alloc (Obj.cells (six X) 64)).cell? ⟨w.heap.size, j * 2, none⟩ = some (.int .i8 (X j).1) ∧ (w.alloc (Obj.cells (six X) 64)).cell? ⟨w.heap.size, j * 2 + 1, none⟩ = some (.int .i8 (X j).2) := by
  have h : (w.alloc (Obj.cells (six X) 64)).heap[w.heap.size]? = some (.cells (six X) 64 (0, 0)) := heap_six w _ 64
  rw [cell_blk h, cell_blk h]
  have : j = 0 ∨ j = 1 ∨ j = 2 := by omega
  rcases this with rfl | rfl | rfl <;> exact ⟨rfl, rfl⟩
theorem slice_six (b m : Nat) (hm : m ≤ 3) (W : World) : (Instr.sliceAt 64 (.pointer (some ⟨b, 0, none⟩)) none (some (.int .u8 (m : Int))) none).run Try.prog W = .ok (.slice (some ⟨b, 0, none⟩) m 3) W := by
  have : m = 0 ∨ m = 1 ∨ m = 2 ∨ m = 3 := by omega
  rcases this with h | h | h | h <;> subst h
  · show _ = _; kernel_rfl
  · show _ = _; kernel_rfl
  · show _ = _; kernel_rfl
  · show _ = _; kernel_rfl
set_option maxRecDepth 100000 in
set_option maxHeartbeats 4000000 in
theorem cut_at (X : Nat → Int × Int) (hX : ∀ j, In8 (X j)) (s : Int) (hs : (Lit.int .u8 s).wf = true) (m : Nat) (hm : m ≤ 3) (hsm : s.tmod 4 = (m : Int)) (w : World) :
    Calls Try.prog 32 #[.agg (six X), .int .u8 s] w fun e w' => ∃ v, e = .returned v ∧ Own 26 w.heap.size w' v (cutL X m) ∧ Below w.heap.size w w' := by
  have HM := Lib.hid hm
  have hsl := slice_six w.heap.size m hm
  have HC := fun j => six_cells w X j
  have u0 : Below w.heap.size w (w.alloc (Obj.cells (six X) 64)) := (Below.refl _ _).alloc (Nat.le_refl _) _
  go_enter Try.func32, Try.ntmps32
  go_upto_region 2 with fail
  have lt1 : w.heap.size < (w.alloc (Obj.cells (six X) 64)).heap.size := by simp
  generalize w.alloc (Obj.cells (six X) 64) = W1 at *
  generalize hlx : w.heap.size = Bx at *
  have LX : Hid (Bx < W1.heap.size) := Lib.hid (by have := HC; exact lt1)
  have HX := Lib.hid hX
  have HCC := Lib.hid HC
  have U0 := Lib.hid u0
  clear hX HC u0 hm
  go_wp2_with fail
  clear hsl
  go_loopw [5, 12] (fun s5 s12 wr => ∃ j : Nat, ∃ c1 : Value, j ≤ m ∧ s12 = .int .i64 j ∧ s5 = c1 ∧ TN 26 W1 c1 (cutL X j) (.slice none 0 0) [] [] wr) (fun _ s12 _ => m - (intOf s12).toNat)
  case atStart => exact ⟨0, _, Nat.zero_le _, rfl, rfl, TN.start W1 26⟩
  case round =>
    obtain ⟨j, c1, hj, rfl, rfl, ht⟩ := hrel
    have HT1 := Lib.hid ht
    obtain ⟨pu, cu, rfl⟩ := ht.o1.slice
    clear ht
    have L1 : Hid ((cutL X j).length = j) := upto_length _ _
    rw [L1.out] at HT1 ⊢
    by_cases hlt : j < m
    · have tl : decide ((j : Int) < (m : Int)) = true := decide_eq_true (by omega)
      have tl' : decide (j < m) = true := decide_eq_true hlt
      have hj3 : j < 3 := by have := HM.out; omega
      obtain ⟨c0, c1⟩ := HCC.out j hj3
      have c0 := (HT1.out.below.cell (p := ⟨Bx, j * 2, none⟩) LX.out).trans c0
      have c1 := (HT1.out.below.cell (p := ⟨Bx, j * 2 + 1, none⟩) LX.out).trans c1
      have ek1 : wrap64 ((j : Int) + 1) = ((j + 1 : Nat) : Int) := by unfold wrap64; omega
      have bi : (j : Int) < (m : Int) := by omega
      have HC : Hid (cutL X (j + 1) = cutL X j ++ [nw ((X j).1.tmod 10) ((X j).2.tmod 10)]) := upto_succ _ _
      obtain ⟨_, _, w1, w2⟩ := rem_in 10 (by decide) (by decide) (HX.out j).1
      obtain ⟨_, _, w3, w4⟩ := rem_in 10 (by decide) (by decide) (HX.out j).2
      have W1' := Lib.hid w1
      have W2' := Lib.hid w2
      have W3' := Lib.hid w3
      have W4' := Lib.hid w4
      clear w1 w2 w3 w4
      generalize (X j).1 = p at *
      generalize (X j).2 = q at *
      have HLT := Lib.hid hlt
      have HLE : Hid (j ≤ 2000) := by show j ≤ 2000; omega
      clear hj hlt hj3
      go_upto_region 5 with fail
      have HPX := Lib.hid (B2.made wr (.int .i8 p) (.int .i8 q) 63)
      have HT2 := Lib.hid (HT1.out.allocs (Obj.cells #[.int .i8 p, .int .i8 q] 63))
      generalize wr.alloc (Obj.cells #[.int .i8 p, .int .i8 q] 63) = W2 at *
      generalize wr.heap.size = Z at *
      clear c0 c1
      have w1 := W1'.out
      have w2 := W2'.out
      have w3 := W3'.out
      have w4 := W4'.out
      obtain ⟨x0, x1⟩ := HPX.out.cells
      go_wp2_with fail
      refine (nw_at (p.tmod 10) (q.tmod 10) _).mono ?_
      rintro e W3 ⟨rfl, hb⟩
      have HT3 := Lib.hid (HT2.out.step hb)
      clear hb x0 x1 w1 w2 w3 w4
      generalize nw (p.tmod 10) (q.tmod 10) = r at *
      obtain ⟨r0, r1⟩ := r
      go_wp2_with (at_builtin; refine wpList_TN1 nt26 (HT3.out.alloc r0 r1) List.mem_cons_self rfl _ _ rfl rfl rfl L1.out HLE.out ?_; intro p8 k8 W8 h8; have HT8 := Lib.hid (h8.forget (fr' := []) (fun y hy => by cases hy)); clear h8)
      try rw [ek1]
      go_roundw
      case rel => exact ⟨j + 1, _, HLT.out, rfl, rfl, by rw [HC.out]; exact HT8.out⟩
      case measure =>
        have := HLT.out
        show m - ((j + 1 : Nat) : Int).toNat < m - (j : Int).toNat
        omega
    · have hjn : m = j := by omega
      have tl : decide ((j : Int) < (m : Int)) = false := decide_eq_false (by omega)
      have tl' : decide (j < m) = false := decide_eq_false hlt
      subst hjn
      clear hlt hj
      go_wp2_with fail
      go_ret
      subst hlx
      exact ⟨_, rfl, HT1.out.o1.base (Nat.le_of_lt LX.out), U0.out.trans (HT1.out.below.mono (Nat.le_of_lt LX.out))⟩
end Go.Proofs.Ytlbgpfddmkpakaa.Nu
namespace Go.Proofs.Ytlbgpfddmkpakaa.Nu
open Go.RowKit
set_option linter.unusedVariables false
set_option linter.unusedSimpArgs false
structure QR (W : World) (V : Nat → Value) (R : Nat → Option (List (Nat × Nat))) (d : Nat → Bool) (y : Nat → Value) (Wx : World) : Prop where
  bu : Below W.heap.size W Wx
  val : ∀ i, R i = none → d i = true → y i = V i
  row : ∀ i l, R i = some l → d i = true → Row Wx (y i) l
section
variable {W Wx Wn : World} {V : Nat → Value} {R : Nat → Option (List (Nat × Nat))} {d : Nat → Bool} {y : Nat → Value}
theorem QR.start (n : Nat) (hn : ∀ i, n ≤ i → R i = none ∧ V i = y i) (hd : ∀ i, i < n → d i = false) : QR W V R d y W.drew :=
  ⟨(Below.refl _ _).drew, (fun i h t => by
    by_cases hi : i < n
    · rw [hd i hi] at t; cases t
    · exact (hn i (by omega)).2.symm), (fun i l h t => by
    by_cases hi : i < n
    · rw [hd i hi] at t; cases t
    · rw [(hn i (by omega)).1] at h; cases h)⟩
theorem QR.walk (h : QR W V R d y Wx) (hb : Below Wx.heap.size Wx Wn) : QR W V R d y Wn :=
  ⟨h.bu.trans (hb.mono h.bu.size), h.val, fun i l e t => (h.row i l e t).below hb⟩
theorem QR.pure (h : QR W V R d y Wx) {i : Nat} (hi : R i = none) : QR W V R (fun j => j == i || d j) (upd y i (V i)) Wx := by
  refine ⟨h.bu, fun j hj t => ?_, fun j l hj t => ?_⟩
  · by_cases e : j = i
    · subst e; exact upd_same _ _ _
    · rw [upd_other _ _ e]; exact h.val j hj (by rwa [d_other e] at t)
  · have e : j ≠ i := fun e => by rw [e, hi] at hj; cases hj
    rw [upd_other _ _ e]; exact h.row j l hj (by rwa [d_other e] at t)
theorem QR.put (h : QR W V R d y Wx) {i : Nat} {l : List (Nat × Nat)} (hi : R i = some l) {v : Value} (hv : Row Wx v l) : QR W V R (fun j => j == i || d j) (upd y i v) Wx := by
  refine ⟨h.bu, fun j hj t => ?_, fun j l' hj t => ?_⟩
  · have e : j ≠ i := fun e => by rw [e, hi] at hj; cases hj
    rw [upd_other _ _ e]; exact h.val j hj (by rwa [d_other e] at t)
  · by_cases e : j = i
    · subst e
      rw [hi] at hj
      injection hj with hj
      subst hj
      rw [upd_same]; exact hv
    · rw [upd_other _ _ e]; exact h.row j l' hj (by rwa [d_other e] at t)
end
/-- A call that answers with a row. -/
theorem wpIn_row {n : Nat} {o : Oper} {a : Act} {w : World} {K : Act → World → Prop} {Q : Exit → Act → World → Prop} {f : FuncId} {args : Array Value} {l : List (Nat × Nat)} (h : (o.semAt Fence.wide.round a.eval).run Try.prog w = .ok (.enter f args) w)
    (hd : Calls Try.prog f args w fun e w' => ∃ v, e = .returned v ∧ Row w' v l ∧ Below w.heap.size w w')
    (hK : ∀ v w', Row w' v l → Below w.heap.size w w' → K (a.put o.dst v) w') : Oper.wpIn Fence.wide n Try.prog o a w K Q := by
  refine ⟨fun _ _ => trivial, ?_⟩
  rw [h, Oper.uponIn_enter]
  refine ⟨(fun h => by cases h), ?_⟩
  refine (callsIn_wide.2 hd).mono ?_
  rintro e w' ⟨v, rfl, hr, hb⟩
  exact hK v w' hr hb
/-- A call whose answer is known, in this world. -/
theorem wpIn_det' {n : Nat} {o : Oper} {a : Act} {w : World} {K : Act → World → Prop} {Q : Exit → Act → World → Prop} {f : FuncId} {args : Array Value} {v : Value} (h : (o.semAt Fence.wide.round a.eval).run Try.prog w = .ok (.enter f args) w)
    (hd : Calls Try.prog f args w fun e w' => e = .returned v ∧ Below w.heap.size w w')
    (hK : ∀ w', Below w.heap.size w w' → K (a.put o.dst v) w') : Oper.wpIn Fence.wide n Try.prog o a w K Q := by
  refine ⟨fun _ _ => trivial, ?_⟩
  rw [h, Oper.uponIn_enter]
  refine ⟨(fun h => by cases h), ?_⟩
  refine (callsIn_wide.2 hd).mono ?_
  rintro e w' ⟨rfl, hb⟩
  exact hK w' hb
end Go.Proofs.Ytlbgpfddmkpakaa.Nu
