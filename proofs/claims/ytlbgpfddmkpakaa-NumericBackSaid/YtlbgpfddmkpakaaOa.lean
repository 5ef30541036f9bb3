/- Numeric: transforms, inverse transforms, factors and spectra of lists of small whole numbers, plainly. -/
import Derived.Test.YtlbgpfddmkpakaaMa
import Derived.Test.YtlbgpfddmkpakaaEe
namespace Go.Proofs.Ytlbgpfddmkpakaa.Nu
open Go.RowKit
set_option linter.unusedVariables false
set_option linter.unusedSimpArgs false
set_option exponentiation.threshold 1000
def zsub (x y : Int × Int) : Int × Int := (x.1 - y.1, x.2 - y.2)
def conjz (x : Int × Int) : Int × Int := (x.1, -x.2)
theorem Bd.sub {M N : Nat} {x y : Int × Int} (hx : Bd M x) (hy : Bd N y) : Bd (M + N) (zsub x y) := by
  obtain ⟨a, b⟩ := hx
  obtain ⟨c, d⟩ := hy
  exact ⟨by show (x.1 - y.1).natAbs ≤ _; omega, by show (x.2 - y.2).natAbs ≤ _; omega⟩
theorem Nz.sub {p q : Nat × Nat} {x y : Int × Int} {M N : Nat} (hp : Nz p x) (hq : Nz q y) (bx : Bd M x) (by' : Bd N y) (h : M + N ≤ 2 ^ 24) : Nz (subc p q) (zsub x y) := by
  have b := bx.sub by'
  exact Nb.sub hp hq (Nat.le_trans b.1 h) (Nat.le_trans b.2 h)
theorem Bd.conj {M : Nat} {x : Int × Int} (hx : Bd M x) : Bd M (conjz x) := ⟨hx.1, by show (-x.2).natAbs ≤ M; rw [Int.natAbs_neg]; exact hx.2⟩
theorem Nz.conj {p : Nat × Nat} {x : Int × Int} (hp : Nz p x) : Nz (conjc p) (conjz x) := Nb.conj hp
def halfz (l : List (Int × Int)) (a : Nat) : List (Int × Int) := upto (fun k => elz l (a + k * 2)) ((l.length + 1 - a) / 2)
def twz (j : Nat) : Int × Int := if j = 0 then (1, 0) else (0, -1)
def fftz : Nat → List (Int × Int) → List (Int × Int)
  | 0, l => [elz l 0]
  | k + 1, l => upto (fun j => zadd (elz (fftz k (halfz l 0)) j) (zmul (twz j) (elz (fftz k (halfz l 1)) j))) (2 ^ k) ++
      upto (fun j => zsub (elz (fftz k (halfz l 0)) j) (zmul (twz j) (elz (fftz k (halfz l 1)) j))) (2 ^ k)
theorem NL.mono {M N : Nat} {l : List (Nat × Nat)} {z : List (Int × Int)} (h : NL M l z) (hn : M ≤ N) : NL N l z := ⟨h.len, h.nz, fun i => (h.bd i).mono hn⟩
theorem bd_zero (M : Nat) : Bd M (0, 0) := ⟨Nat.zero_le _, Nat.zero_le _⟩
theorem nl_upto {M n : Nat} {f : Nat → Nat × Nat} {g : Nat → Int × Int} (h : ∀ j, j < n → Nz (f j) (g j) ∧ Bd M (g j)) : NL M (upto f n) (upto g n) := by
  refine ⟨by rw [upto_length, upto_length], fun i => ?_, fun i => ?_⟩
  · rw [el_upto, elz_upto]
    split
    · exact (h i ‹_›).1
    · exact nz_zero
  · rw [elz_upto]
    split
    · exact (h i ‹_›).2
    · exact bd_zero _
theorem el_app (a b : List (Nat × Nat)) (i : Nat) : el (a ++ b) i = if i < a.length then el a i else el b (i - a.length) := by
  unfold el
  simp only [List.getD_eq_getElem?_getD, List.getElem?_append]
  split <;> rfl
theorem elz_app (a b : List (Int × Int)) (i : Nat) : elz (a ++ b) i = if i < a.length then elz a i else elz b (i - a.length) := by
  unfold elz
  simp only [List.getD_eq_getElem?_getD, List.getElem?_append]
  split <;> rfl
theorem NL.app {M : Nat} {a b : List (Nat × Nat)} {x y : List (Int × Int)} (ha : NL M a x) (hb : NL M b y) : NL M (a ++ b) (x ++ y) := by
  refine ⟨by rw [List.length_append, List.length_append, ha.len, hb.len], fun i => ?_, fun i => ?_⟩
  · rw [el_app, elz_app, ha.len]
    split
    · exact ha.nz i
    · exact hb.nz _
  · rw [elz_app]
    split
    · exact ha.bd i
    · exact hb.bd _
theorem NL.half {M : Nat} {l : List (Nat × Nat)} {z : List (Int × Int)} (h : NL M l z) (a : Nat) : NL M (halfOf l a) (halfz z a) := by
  unfold halfOf halfz
  rw [h.len]
  exact nl_upto fun j _ => ⟨h.nz (a + j * 2), h.bd _⟩
theorem wh_bits {b m : Nat} {e : Int} {s : Bool} {z : Int} (hr : Ieee.single.read b = .number s m e) (he : -(149 : Int) ≤ e) (hv : Ieee.signed s m (e + 149).toNat = z * 2 ^ 149) : Wh (canon b) z := by
  have : Va 149 (Ieee.single.read b) z := ⟨s, m, e, hr, he, hv⟩
  exact ⟨b, canon_some this.num, this⟩
theorem wh_0 : Wh (canon 0) 0 := nz_zero.1
theorem wh_1 : Wh (canon 1065353216) 1 := wh_bits (s := false) (m := 8388608) (e := -23) (by kernel_rfl) (by decide) (by rw [signed_eq]; decide +kernel)
theorem wh_m1 : Wh (canon 3212836864) (-1) := wh_bits (s := true) (m := 8388608) (e := -23) (by kernel_rfl) (by decide) (by rw [signed_eq]; decide +kernel)
theorem wh_m0 : Wh (canon 2147483648) 0 := wh_bits (s := true) (m := 0) (e := -149) (by kernel_rfl) (by decide) (by rw [signed_eq]; decide +kernel)
theorem tw_nz (k j : Nat) (hk : k ≤ 1) (hj : j < 2 ^ k) : Nz (tw (wOf (2 ^ (k + 1))) j) (twz j) ∧ Bd 1 (twz j) := by
  have : (k = 0 ∧ j = 0) ∨ (k = 1 ∧ j = 0) ∨ (k = 1 ∧ j = 1) := by
    have : k = 0 ∨ k = 1 := by omega
    rcases this with rfl | rfl <;> simp at hj <;> omega
  rcases this with ⟨rfl, rfl⟩ | ⟨rfl, rfl⟩ | ⟨rfl, rfl⟩
  · exact ⟨⟨wh_1, wh_0⟩, by decide, by decide⟩
  · exact ⟨⟨wh_1, wh_0⟩, by decide, by decide⟩
  · exact ⟨⟨wh_0, wh_m1⟩, by decide, by decide⟩
theorem fft_nl : ∀ (k : Nat), k ≤ 2 → ∀ (M : Nat) (l : List (Nat × Nat)) (z : List (Int × Int)), NL M l z → M ≤ 100000 → NL (3 ^ k * M) (fft k l) (fftz k z)
  | 0, _, M, l, z, h, _ => by
    show NL (1 * M) [(cc (el l 0).1, cc (el l 0).2)] [elz z 0]
    rw [Nat.one_mul]
    refine ⟨rfl, fun i => ?_, fun i => ?_⟩
    · cases i with
      | zero => exact (h.nz 0).cc
      | succ i => exact nz_zero
    · cases i with
      | zero => exact h.bd 0
      | succ i => exact bd_zero _
  | k + 1, hk, M, l, z, h, hM => by
    have i0 := fft_nl k (by omega) M _ _ (h.half 0) hM
    have i1 := fft_nl k (by omega) M _ _ (h.half 1) hM
    have h3 : 3 ^ k ≤ 3 := by
      have : k = 0 ∨ k = 1 := by omega
      rcases this with rfl | rfl <;> decide
    have hb : 3 ^ k * M ≤ 3 * 100000 := Nat.mul_le_mul h3 hM
    have e3 : 3 ^ (k + 1) * M = 3 ^ k * M + 2 * (1 * (3 ^ k * M)) := by rw [Nat.pow_succ, Nat.mul_comm (3 ^ k) 3, Nat.mul_assoc]; omega
    rw [e3]
    unfold fft fftz
    refine NL.app (nl_upto fun j hj => ?_) (nl_upto fun j hj => ?_)
    · obtain ⟨t1, t2⟩ := tw_nz k j (by omega) hj
      have m1 := t1.mul (i1.nz j) t2 (i1.bd j) (by omega)
      have m2 := t2.mul (i1.bd j)
      exact ⟨(i0.nz j).add m1 (i0.bd j) m2 (by omega), (i0.bd j).add m2⟩
    · obtain ⟨t1, t2⟩ := tw_nz k j (by omega) hj
      have m1 := t1.mul (i1.nz j) t2 (i1.bd j) (by omega)
      have m2 := t2.mul (i1.bd j)
      exact ⟨(i0.nz j).sub m1 (i0.bd j) m2 (by omega), (i0.bd j).sub m2⟩
/-! ### What the whole numbers are -/
def sumz (a b : List (Int × Int)) (n : Nat) : List (Int × Int) := upto (fun i => zadd (elz a i) (elz b i)) n
def turnz (a : List (Int × Int)) (n : Nat) : List (Int × Int) := upto (fun i => elz a ((i + n - 1) % n)) n
def conjLz (a : List (Int × Int)) (n : Nat) : List (Int × Int) := upto (fun i => conjz (elz a i)) n
def twlz (k i : Nat) : Int × Int := if i = 0 then (1, 0) else if k = 1 then (-1, 0) else if i = 1 then (0, -1) else if i = 2 then (-1, 0) else (0, 1)
theorem shape {α : Type} {k : Nat} (hk : k ≤ 2) {l : List α} (hl : l.length = 2 ^ k) : (k = 0 ∧ ∃ a, l = [a]) ∨ (k = 1 ∧ ∃ a b, l = [a, b]) ∨ (k = 2 ∧ ∃ a b c d, l = [a, b, c, d]) := by
  have : k = 0 ∨ k = 1 ∨ k = 2 := by omega
  rcases this with rfl | rfl | rfl
  · left
    match l, hl with
    | [a], _ => exact ⟨rfl, a, rfl⟩
  · right; left
    match l, hl with
    | [a, b], _ => exact ⟨rfl, a, b, rfl⟩
  · right; right
    match l, hl with
    | [a, b, c, d], _ => exact ⟨rfl, a, b, c, d, rfl⟩
theorem fftz_sum {k : Nat} (hk : k ≤ 2) {a b : List (Int × Int)} (ha : a.length = 2 ^ k) (hb : b.length = 2 ^ k) : fftz k (sumz a b (2 ^ k)) = sumz (fftz k a) (fftz k b) (2 ^ k) := by
  rcases shape hk ha with ⟨rfl, ⟨a0, a1⟩, rfl⟩ | ⟨rfl, ⟨a0, a1⟩, ⟨b0, b1⟩, rfl⟩ | ⟨rfl, ⟨a0, a1⟩, ⟨b0, b1⟩, ⟨c0, c1⟩, ⟨d0, d1⟩, rfl⟩ <;>
    rcases shape hk hb with ⟨h, ⟨e0, e1⟩, rfl⟩ | ⟨h, ⟨e0, e1⟩, ⟨f0, f1⟩, rfl⟩ | ⟨h, ⟨e0, e1⟩, ⟨f0, f1⟩, ⟨g0, g1⟩, ⟨h0, h1⟩, rfl⟩ <;> first | cases h | skip
  all_goals
    simp [fftz, sumz, halfz, upto, List.range_succ, elz, zadd, zmul, zsub, twz]
  all_goals omega
theorem fftz_turn {k : Nat} (hk : k ≤ 2) {a : List (Int × Int)} (ha : a.length = 2 ^ k) : fftz k (turnz a (2 ^ k)) = upto (fun i => zmul (twlz k i) (elz (fftz k a) i)) (2 ^ k) := by
  rcases shape hk ha with ⟨rfl, ⟨a0, a1⟩, rfl⟩ | ⟨rfl, ⟨a0, a1⟩, ⟨b0, b1⟩, rfl⟩ | ⟨rfl, ⟨a0, a1⟩, ⟨b0, b1⟩, ⟨c0, c1⟩, ⟨d0, d1⟩, rfl⟩
  all_goals
    simp [fftz, turnz, halfz, upto, List.range_succ, elz, zadd, zmul, zsub, twz, twlz]
  all_goals omega
theorem fftz_back {k : Nat} (hk : k ≤ 2) {a : List (Int × Int)} (ha : a.length = 2 ^ k) : conjLz (fftz k (conjLz (fftz k a) (2 ^ k))) (2 ^ k) = upto (fun i => ((elz a i).1 * 2 ^ k, (elz a i).2 * 2 ^ k)) (2 ^ k) := by
  rcases shape hk ha with ⟨rfl, ⟨a0, a1⟩, rfl⟩ | ⟨rfl, ⟨a0, a1⟩, ⟨b0, b1⟩, rfl⟩ | ⟨rfl, ⟨a0, a1⟩, ⟨b0, b1⟩, ⟨c0, c1⟩, ⟨d0, d1⟩, rfl⟩
  all_goals
    simp [fftz, conjLz, conjz, halfz, upto, List.range_succ, elz, zadd, zmul, zsub, twz]
  all_goals omega
end Go.Proofs.Ytlbgpfddmkpakaa.Nu
namespace Go.Proofs.Ytlbgpfddmkpakaa.Nu
open Go.RowKit Ieee
set_option linter.unusedVariables false
set_option linter.unusedSimpArgs false
set_option exponentiation.threshold 1000
theorem nof_read (k : Nat) (hk : k ≤ 2) : canon (nOf (2 ^ k)) = some (nOf (2 ^ k)) ∧ single.read (nOf (2 ^ k)) = .number false 8388608 ((k : Int) - 23) := by
  have : k = 0 ∨ k = 1 ∨ k = 2 := by omega
  rcases this with rfl | rfl | rfl
  · exact ⟨by kernel_rfl, by kernel_rfl⟩
  · exact ⟨by kernel_rfl, by kernel_rfl⟩
  · exact ⟨by kernel_rfl, by kernel_rfl⟩
theorem pow3 {k : Nat} (hk : k ≤ 2) : 3 ^ k ≤ 9 := by
  have : k = 0 ∨ k = 1 ∨ k = 2 := by omega
  rcases this with rfl | rfl | rfl <;> decide
theorem conjL_nl {M : Nat} {l : List (Nat × Nat)} {z : List (Int × Int)} (h : NL M l z) (n : Nat) : NL M (conjL l n) (conjLz z n) :=
  nl_upto fun j _ => ⟨(h.nz j).conj, (h.bd j).conj⟩
theorem inv_nz {k : Nat} (hk : k ≤ 2) {A : List (Nat × Nat)} {z : List (Int × Int)} (h : NL 1000 A z) (hl : z.length = 2 ^ k) : NL 1000 (inv k (fft k A)) z := by
  have h3 := pow3 hk
  have h1 := fft_nl k hk 1000 _ _ h (by decide)
  have h2 := conjL_nl (h1.mono (N := 9000) (by omega)) (2 ^ k)
  have h4 := fft_nl k hk 9000 _ _ h2 (by decide)
  have hb := fftz_back hk hl
  obtain ⟨n1, n2⟩ := nof_read k hk
  have hi : inv k (fft k A) = upto (fun j => divc (nOf (2 ^ k)) (conjc (el (fft k (conjL (fft k A) (2 ^ k))) j))) (2 ^ k) := rfl
  have key : ∀ i, i < 2 ^ k → Nz (divc (nOf (2 ^ k)) (conjc (el (fft k (conjL (fft k A) (2 ^ k))) i))) (elz z i) := by
    intro i hi
    have c := (h4.nz i).conj
    have e : conjz (elz (fftz k (conjLz (fftz k z) (2 ^ k))) i) = ((elz z i).1 * 2 ^ k, (elz z i).2 * 2 ^ k) := by
      have := congrArg (fun l => elz l i) hb
      dsimp only [conjLz] at this
      rw [elz_upto, elz_upto, if_pos hi, if_pos hi] at this
      exact this
    rw [e] at c
    have b := h.bd i
    refine ⟨?_, ?_⟩
    · show Wh (canon (cb (fop .quo _ (canon (nOf (2 ^ k)))))) _
      rw [n1]
      exact (Wh.quo c.1 rfl n2 (by omega) (Nat.le_trans b.1 (by decide))).cb
    · show Wh (canon (cb (fop .quo _ (canon (nOf (2 ^ k)))))) _
      rw [n1]
      exact (Wh.quo c.2 rfl n2 (by omega) (Nat.le_trans b.2 (by decide))).cb
  rw [hi]
  refine ⟨by rw [upto_length, hl], fun i => ?_, h.bd⟩
  rw [el_upto]
  split
  · exact key i ‹_›
  · have : elz z i = (0, 0) := by unfold elz; rw [List.getD_eq_getElem?_getD, List.getElem?_eq_none (by omega)]; rfl
    rw [this]; exact nz_zero
theorem twl_nz {k : Nat} (hk : k ≤ 2) {i : Nat} (hi : i < 2 ^ k) : Nz (tw (wOf (2 ^ k)) i) (twlz k i) ∧ Bd 1 (twlz k i) := by
  have : (k = 0 ∧ i = 0) ∨ (k = 1 ∧ i = 0) ∨ (k = 1 ∧ i = 1) ∨ (k = 2 ∧ i = 0) ∨ (k = 2 ∧ i = 1) ∨ (k = 2 ∧ i = 2) ∨ (k = 2 ∧ i = 3) := by
    have : k = 0 ∨ k = 1 ∨ k = 2 := by omega
    rcases this with rfl | rfl | rfl <;> simp at hi <;> omega
  have w4 : Nz (wOf 4) (0, -1) := ⟨wh_0, wh_m1⟩
  have b4 : Bd 1 (0, -1) := ⟨by decide, by decide⟩
  have m2 := w4.mul w4 b4 b4 (by decide)
  have m3 := m2.mul w4 (b4.mul b4) b4 (by decide)
  rcases this with ⟨rfl, rfl⟩ | ⟨rfl, rfl⟩ | ⟨rfl, rfl⟩ | ⟨rfl, rfl⟩ | ⟨rfl, rfl⟩ | ⟨rfl, rfl⟩ | ⟨rfl, rfl⟩
  · exact ⟨⟨wh_1, wh_0⟩, by decide, by decide⟩
  · exact ⟨⟨wh_1, wh_0⟩, by decide, by decide⟩
  · exact ⟨⟨wh_m1, wh_m0⟩, by decide, by decide⟩
  · exact ⟨⟨wh_1, wh_0⟩, by decide, by decide⟩
  · exact ⟨w4, by decide, by decide⟩
  · exact ⟨m2, by decide, by decide⟩
  · exact ⟨m3, by decide, by decide⟩
theorem turned_nz {k : Nat} (hk : k ≤ 2) {A : List (Nat × Nat)} {z : List (Int × Int)} (h : NL 1000 A z) (hl : z.length = 2 ^ k) :
    NL 30000 (upto (fun i => mulc (el (twL (2 ^ k)) i) (el (fft k A) i)) (2 ^ k)) (fftz k (turnz z (2 ^ k))) := by
  have h3 := pow3 hk
  have h1 := (fft_nl k hk 1000 _ _ h (by decide)).mono (N := 9000) (by omega)
  rw [fftz_turn hk hl]
  refine nl_upto fun i hi => ?_
  obtain ⟨t1, t2⟩ := twl_nz hk hi
  rw [el_upto, if_pos hi]
  exact ⟨t1.mul (h1.nz i) t2 (h1.bd i) (by decide), (t2.mul (h1.bd i)).mono (by decide)⟩
theorem sums_nz {k : Nat} (hk : k ≤ 2) {A B : List (Nat × Nat)} {z y : List (Int × Int)} (h : NL 1000 A z) (h' : NL 1000 B y) (hl : z.length = 2 ^ k) (hl' : y.length = 2 ^ k) :
    NL 30000 (upto (fun i => addc (el (fft k A) i) (el (fft k B) i)) (2 ^ k)) (fftz k (sumz z y (2 ^ k))) := by
  have h3 := pow3 hk
  have h1 := (fft_nl k hk 1000 _ _ h (by decide)).mono (N := 9000) (by omega)
  have h2 := (fft_nl k hk 1000 _ _ h' (by decide)).mono (N := 9000) (by omega)
  rw [fftz_sum hk hl hl']
  exact nl_upto fun i hi => ⟨(h1.nz i).add (h2.nz i) (h1.bd i) (h2.bd i) (by decide), ((h1.bd i).add (h2.bd i)).mono (by decide)⟩
/-! ### Powers -/
theorem read_norm {b : Nat} {s : Bool} {m : Nat} {e : Int} (h : single.read b = .number s m e) : -149 ≤ e ∧ m < 2 ^ 24 ∧ (e ≠ -149 → 2 ^ 23 ≤ m) := by
  obtain ⟨c1, c2, c3, c4, c5⟩ := single_consts
  unfold Format.read at h
  dsimp only at h
  rw [c1, c2, c3, c4] at h
  have p24 : (2 : Nat) ^ 24 = 16777216 := by decide
  have p23 : (2 : Nat) ^ 23 = 8388608 := by decide
  rw [p24, p23]
  split at h
  · injection h with _ h1 h2
    refine ⟨by omega, by omega, fun h => absurd h2.symm h⟩
  · split at h
    · injection h with _ h1 h2
      refine ⟨by omega, by omega, fun _ => by omega⟩
    · split at h
      · cases h
      · cases h
theorem norm_eq {m m' : Nat} {e e' : Int} (he : -149 ≤ e) (he' : -149 ≤ e') (hm : m < 2 ^ 24) (hm' : m' < 2 ^ 24) (hn : e ≠ -149 → 2 ^ 23 ≤ m) (hn' : e' ≠ -149 → 2 ^ 23 ≤ m') (h : m * 2 ^ (e + 149).toNat = m' * 2 ^ (e' + 149).toNat) : m = m' ∧ e = e' := by
  obtain ⟨i, hi⟩ : ∃ i : Nat, e = -149 + (i : Int) := ⟨(e + 149).toNat, by omega⟩
  obtain ⟨j, hj⟩ : ∃ j : Nat, e' = -149 + (j : Int) := ⟨(e' + 149).toNat, by omega⟩
  subst hi hj
  rw [show (-149 + (i : Int) + 149).toNat = i by omega, show (-149 + (j : Int) + 149).toNat = j by omega] at h
  have main : ∀ {a b : Nat} {p q : Nat}, a * 2 ^ p = b * 2 ^ q → p < q → a < 2 ^ 24 → 2 ^ 23 ≤ b → False := by
    intro a b p q h hpq ha hb
    obtain ⟨r, rfl⟩ : ∃ r, q = p + 1 + r := ⟨q - p - 1, by omega⟩
    have e1 : b * 2 ^ (p + 1 + r) = (b * 2 * 2 ^ r) * 2 ^ p := by rw [Nat.pow_add, Nat.pow_add, Nat.pow_one]; grind
    rw [e1] at h
    have e2 := Nat.eq_of_mul_eq_mul_right (Nat.two_pow_pos p) h
    have e3 : 1 ≤ 2 ^ r := Nat.two_pow_pos r
    have e4 : b * 2 * 1 ≤ b * 2 * 2 ^ r := Nat.mul_le_mul_left _ e3
    have p24 : (2 : Nat) ^ 24 = 16777216 := by decide
    have p23 : (2 : Nat) ^ 23 = 8388608 := by decide
    omega
  by_cases h1 : i < j
  · exact (main h h1 hm (hn' (by omega))).elim
  · by_cases h2 : j < i
    · exact (main h.symm h2 hm' (hn (by omega))).elim
    · have : i = j := by omega
      subst this
      exact ⟨Nat.eq_of_mul_eq_mul_right (Nat.two_pow_pos i) h, rfl⟩
/-- Squares of a whole number and its opposite are the same, bit by bit. -/
theorem sq_eq {o o' : Option Nat} {z z' : Int} (h : Wh o z) (h' : Wh o' z') (hz : z' = z ∨ z' = -z) : fop .mul o o = fop .mul o' o' := by
  obtain ⟨r, rfl, s, m, e, hr, h1, h2⟩ := h
  obtain ⟨r', rfl, s', m', e', hr', h1', h2'⟩ := h'
  obtain ⟨n1, n2, n3⟩ := read_norm hr
  obtain ⟨n1', n2', n3'⟩ := read_norm hr'
  have k : ∀ {s : Bool} {m : Nat} {u : Nat} {z : Int}, signed s m u = z * 2 ^ 149 → m * 2 ^ u = z.natAbs * 2 ^ 149 := by
    intro s m u z h
    have := congrArg Int.natAbs h
    rw [signed_eq, Int.natAbs_mul, Int.natAbs_mul, Int.natAbs_mul, Int.natAbs_pow, Int.natAbs_pow] at this
    cases s <;> simpa using this
  have ez : z'.natAbs = z.natAbs := by rcases hz with rfl | rfl <;> omega
  obtain ⟨rfl, rfl⟩ := norm_eq n1 n1' n2 n2' n3 n3' ((k h2).trans ((by rw [ez]) : z.natAbs * 2 ^ 149 = z'.natAbs * 2 ^ 149) |>.trans (k h2').symm)
  show ((single.read r).product (single.read r)).map single.write = ((single.read r').product (single.read r')).map single.write
  rw [hr, hr']
  cases s <;> cases s' <;> rfl
theorem add_comm_bits (o o' : Option Nat) : fop .add o o' = fop .add o' o := by
  cases o with
  | none => cases o' <;> rfl
  | some r =>
    cases o' with
    | none => rfl
    | some r' =>
      show ((single.read r).sum (single.read r')).map single.write = ((single.read r').sum (single.read r)).map single.write
      congr 1
      cases single.read r <;> cases single.read r' <;> try rfl
      · simp only [Datum.sum]
        rw [Int.min_comm, Int.add_comm, Bool.and_comm]
      · simp only [Datum.sum]
        rename_i a b
        cases a <;> cases b <;> rfl
theorem pw_eq {x y : Nat × Nat} {z u : Int × Int} (hx : Nz x z) (hy : Nz y u) (h : u = z ∨ u = (-z.1, -z.2) ∨ u = (z.2, -z.1)) : pw x = pw y := by
  obtain ⟨u1, u2⟩ := u
  obtain ⟨z1, z2⟩ := z
  unfold pw
  rcases h with h | h | h
  · injection h with a b
    rw [sq_eq hx.1 hy.1 (.inl a), sq_eq hx.2 hy.2 (.inl b)]
  · injection h with a b
    rw [sq_eq hx.1 hy.1 (.inr a), sq_eq hx.2 hy.2 (.inr b)]
  · injection h with a b
    rw [sq_eq hx.1 hy.2 (.inr b), sq_eq hx.2 hy.1 (.inl a), add_comm_bits]
theorem upto_congr {α : Type} {f g : Nat → α} {n : Nat} (h : ∀ j, j < n → f j = g j) : upto f n = upto g n := by
  unfold upto
  exact List.map_congr_left fun j hj => h j (List.mem_range.1 hj)
/-- The spectrum of real samples does not change when the list is turned. -/
theorem spec_turn {k : Nat} (hk : k ≤ 2) {S T : List Nat} {x : Nat → Int} (hx : ∀ j, j < 2 ^ k → Wh (canon (S.getD j 0)) (x j) ∧ (x j).natAbs ≤ 1000) (hT : ∀ j, j < 2 ^ k → T.getD j 0 = S.getD ((j + 2 ^ k - 1) % 2 ^ k) 0) : spec k S = spec k T := by
  have hp : 0 < 2 ^ k := Nat.two_pow_pos k
  have hz : (upto (fun j => (x j, (0 : Int))) (2 ^ k)).length = 2 ^ k := upto_length _ _
  have h1 : NL 1000 (smp S (2 ^ k)) (upto (fun j => (x j, 0)) (2 ^ k)) := nl_upto fun j hj => ⟨⟨(hx j hj).1, wh_0⟩, (hx j hj).2, Nat.zero_le _⟩
  have h2 : NL 1000 (smp T (2 ^ k)) (turnz (upto (fun j => (x j, 0)) (2 ^ k)) (2 ^ k)) := nl_upto fun j hj => by
    have hm : (j + 2 ^ k - 1) % 2 ^ k < 2 ^ k := Nat.mod_lt _ hp
    rw [elz_upto, if_pos hm, hT j hj]
    exact ⟨⟨(hx _ hm).1, wh_0⟩, (hx _ hm).2, Nat.zero_le _⟩
  have f1 := fft_nl k hk 1000 _ _ h1 (by decide)
  have f2 := fft_nl k hk 1000 _ _ h2 (by decide)
  rw [fftz_turn hk hz] at f2
  unfold spec
  refine upto_congr fun j hj => ?_
  have hj' : j < 2 ^ k := by omega
  refine pw_eq (f1.nz j) (f2.nz j) ?_
  rw [elz_upto, if_pos hj']
  generalize elz (fftz k (upto (fun j => (x j, 0)) (2 ^ k))) j = X
  obtain ⟨X1, X2⟩ := X
  have : (k = 0 ∧ j = 0) ∨ (k = 1 ∧ j = 0) ∨ (k = 1 ∧ j = 1) ∨ (k = 2 ∧ j = 0) ∨ (k = 2 ∧ j = 1) ∨ (k = 2 ∧ j = 2) := by
    have : k = 0 ∨ k = 1 ∨ k = 2 := by omega
    rcases this with rfl | rfl | rfl <;> simp at hj <;> omega
  rcases this with ⟨rfl, rfl⟩ | ⟨rfl, rfl⟩ | ⟨rfl, rfl⟩ | ⟨rfl, rfl⟩ | ⟨rfl, rfl⟩ | ⟨rfl, rfl⟩
  · left; simp [twlz, zmul]
  · left; simp [twlz, zmul]
  · right; left; simp [twlz, zmul]
  · left; simp [twlz, zmul]
  · right; right; simp [twlz, zmul]
  · right; left; simp [twlz, zmul]
end Go.Proofs.Ytlbgpfddmkpakaa.Nu
