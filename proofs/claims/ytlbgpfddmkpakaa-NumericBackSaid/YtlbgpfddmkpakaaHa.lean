/- Numeric: whole numbers in single precision, exactly. -/
import GoSem.Core.Float
namespace Go.Proofs.Ytlbgpfddmkpakaa.Nu
open Ieee
set_option exponentiation.threshold 1000

theorem signed_eq (s : Bool) (m up : Nat) : signed s m up = (if s then -1 else 1) * (m : Int) * 2 ^ up := by
  unfold signed
  rw [Nat.shiftLeft_eq]
  cases s <;> simp [Int.natCast_mul, Int.neg_mul]
/-- A datum is a whole number. -/
def Va (B : Nat) (d : Datum) (z : Int) : Prop := ∃ s m e, d = .number s m e ∧ -(B : Int) ≤ e ∧ signed s m (e + B).toNat = z * 2 ^ B
theorem Va.mono {B B' : Nat} {d : Datum} {z : Int} (h : Va B d z) (hB : B ≤ B') : Va B' d z := by
  obtain ⟨s, m, e, h1, h2, h3⟩ := h
  refine ⟨s, m, e, h1, by omega, ?_⟩
  have e1 : (e + B').toNat = (e + B).toNat + (B' - B) := by omega
  have e2 : B' = B + (B' - B) := by omega
  rw [e1, signed_eq, Int.pow_add]
  rw [signed_eq] at h3
  rw [← Int.mul_assoc, h3]
  conv => rhs; rw [e2, Int.pow_add]
  rw [Int.mul_assoc]
theorem Va.down {B B' : Nat} {s : Bool} {m : Nat} {e : Int} {z : Int} (h : signed s m (e + B).toNat = z * 2 ^ B) (he : -(B' : Int) ≤ e) (hB : B' ≤ B) : signed s m (e + B').toNat = z * 2 ^ B' := by
  have e1 : (e + B).toNat = (e + B').toNat + (B - B') := by omega
  have e2 : B = B' + (B - B') := by omega
  rw [e1, signed_eq, Int.pow_add, ← Int.mul_assoc] at h
  conv at h => rhs; rw [e2, Int.pow_add, ← Int.mul_assoc]
  rw [signed_eq]
  exact Int.eq_of_mul_eq_mul_right (Int.pow_ne_zero (by decide)) h
theorem two_pow_pos' (n : Nat) : (0 : Int) < 2 ^ n := Int.pow_pos (by decide)
theorem Va.sum {B : Nat} {a b : Datum} {x y : Int} (ha : Va B a x) (hb : Va B b y) : ∃ c, a.sum b = some c ∧ Va B c (x + y) := by
  obtain ⟨s, m, i, rfl, h1, h2⟩ := ha
  obtain ⟨t, n, j, rfl, h3, h4⟩ := hb
  refine ⟨_, rfl, _, _, _, rfl, by omega, ?_⟩
  obtain ⟨bs, hbs⟩ : ∃ bs, bs = min i j := ⟨_, rfl⟩
  obtain ⟨T, hT⟩ : ∃ T, T = signed s m (i - bs).toNat + signed t n (j - bs).toNat := ⟨_, rfl⟩
  rw [← hbs, ← hT]
  have e1 : (i + B).toNat = (i - bs).toNat + (bs + B).toNat := by omega
  have e2 : (j + B).toNat = (j - bs).toNat + (bs + B).toNat := by omega
  rw [e1] at h2
  rw [e2] at h4
  have k : T * 2 ^ (bs + B).toNat = (x + y) * 2 ^ B := by
    rw [hT, Int.add_mul, Int.add_mul, ← h2, ← h4]
    simp only [signed_eq, Int.pow_add, Int.mul_assoc]
  rw [← k, signed_eq]
  congr 1
  by_cases h0 : T = 0
  · rw [h0]; simp
  · rw [if_neg h0]
    by_cases hn : T < 0
    · rw [decide_eq_true hn, if_pos rfl]; omega
    · rw [decide_eq_false hn, if_neg (by decide)]; omega
theorem Va.opp {B : Nat} {a : Datum} {x : Int} (ha : Va B a x) : Va B a.opposite (-x) := by
  obtain ⟨s, m, i, rfl, h1, h2⟩ := ha
  refine ⟨!s, m, i, rfl, h1, ?_⟩
  rw [Int.neg_mul, ← h2, signed_eq, signed_eq]
  cases s <;> simp [Int.neg_mul]
theorem Va.product {B C : Nat} {a b : Datum} {x y : Int} (ha : Va B a x) (hb : Va C b y) : ∃ c, a.product b = some c ∧ Va (B + C) c (x * y) := by
  obtain ⟨s, m, i, rfl, h1, h2⟩ := ha
  obtain ⟨t, n, j, rfl, h3, h4⟩ := hb
  refine ⟨_, rfl, _, _, _, rfl, by omega, ?_⟩
  have e1 : (i + j + (B + C : Nat)).toNat = (i + B).toNat + (j + C).toNat := by omega
  rw [e1, Int.pow_add, show x * y * (2 ^ B * 2 ^ C) = (x * 2 ^ B) * (y * 2 ^ C) by rw [Int.mul_assoc, Int.mul_assoc]; congr 1; rw [← Int.mul_assoc, ← Int.mul_assoc, Int.mul_comm y], ← h2, ← h4, signed_eq, signed_eq, signed_eq, Int.pow_add, Int.natCast_mul]
  have : (if (s ^^ t) = true then (-1 : Int) else 1) = (if s = true then -1 else 1) * (if t = true then -1 else 1) := by cases s <;> cases t <;> rfl
  rw [this]
  generalize (if s = true then (-1 : Int) else 1) = u
  generalize (if t = true then (-1 : Int) else 1) = v
  generalize (2 : Int) ^ (i + B).toNat = p
  generalize (2 : Int) ^ (j + C).toNat = q
  simp only [Int.mul_assoc, Int.mul_comm, Int.mul_left_comm]
theorem Va.order {B : Nat} {a b : Datum} {x : Int} (ha : Va B a x) (hb : Va B b x) : a.order b = some .eq := by
  obtain ⟨s, m, i, rfl, h1, h2⟩ := ha
  obtain ⟨t, n, j, rfl, h3, h4⟩ := hb
  show some (compare (signed s m (i - min i j).toNat) (signed t n (j - min i j).toNat)) = _
  obtain ⟨bs, hbs⟩ : ∃ bs, bs = min i j := ⟨_, rfl⟩
  rw [← hbs]
  have e1 : (i + B).toNat = (i - bs).toNat + (bs + B).toNat := by omega
  have e2 : (j + B).toNat = (j - bs).toNat + (bs + B).toNat := by omega
  rw [e1, signed_eq, Int.pow_add, ← Int.mul_assoc, ← signed_eq] at h2
  rw [e2, signed_eq, Int.pow_add, ← Int.mul_assoc, ← signed_eq] at h4
  have k : signed s m (i - bs).toNat = signed t n (j - bs).toNat := Int.eq_of_mul_eq_mul_right (Int.pow_ne_zero (by decide)) (h2.trans h4.symm)
  rw [k]
  simp

/-! ### Rounding does nothing to a whole number that is small -/
theorem kept_of {mag P a : Nat} (h : mag * 2 ^ P = a * 2 ^ 298) (h0 : mag ≠ 0) (ha : a ≤ 2 ^ 24) :
    298 ≤ mag.log2 + P ∧ mag.log2 + P ≤ 322 ∧ 2 ^ mag.log2 ≤ mag ∧ mag < 2 ^ (mag.log2 + 1) ∧ (23 < mag.log2 → ∃ K, mag = K * 2 ^ (mag.log2 - 23)) := by
  have l1 := Nat.log2_self_le h0
  have l2 : mag < 2 ^ (mag.log2 + 1) := Nat.lt_log2_self
  generalize mag.log2 = L at *
  have ha0 : 1 ≤ a := by
    rcases Nat.eq_zero_or_pos a with e | e
    · rw [e, Nat.zero_mul] at h
      have := Nat.two_pow_pos P
      have := Nat.mul_pos (Nat.pos_of_ne_zero h0) this
      omega
    · exact e
  have k1 : 298 < L + 1 + P := by
    have h1 : 2 ^ 298 < 2 ^ (L + 1 + P) := by
      calc 2 ^ 298 ≤ a * 2 ^ 298 := Nat.le_mul_of_pos_left _ ha0
        _ = mag * 2 ^ P := h.symm
        _ < 2 ^ (L + 1) * 2 ^ P := Nat.mul_lt_mul_of_pos_right l2 (Nat.two_pow_pos P)
        _ = 2 ^ (L + 1 + P) := by rw [← Nat.pow_add]
    exact (Nat.pow_lt_pow_iff_right (by decide)).1 h1
  have k2 : L + P ≤ 322 := by
    have h1 : 2 ^ (L + P) ≤ 2 ^ 322 := by
      calc 2 ^ (L + P) = 2 ^ L * 2 ^ P := by rw [Nat.pow_add]
        _ ≤ mag * 2 ^ P := Nat.mul_le_mul_right _ l1
        _ = a * 2 ^ 298 := h
        _ ≤ 2 ^ 24 * 2 ^ 298 := Nat.mul_le_mul_right _ ha
        _ = 2 ^ 322 := by rw [← Nat.pow_add]
    exact (Nat.pow_le_pow_iff_right (by decide)).1 h1
  refine ⟨by omega, k2, l1, l2, fun hL => ?_⟩
  by_cases hP : P + (L - 23) ≤ 298
  · have e : 298 = P + (298 - P) := by omega
    rw [e, Nat.pow_add, Nat.mul_comm (2 ^ P), ← Nat.mul_assoc] at h
    have h2 := Nat.eq_of_mul_eq_mul_right (Nat.two_pow_pos P) h
    refine ⟨a * 2 ^ (298 - P - (L - 23)), ?_⟩
    rw [h2, Nat.mul_assoc, ← Nat.pow_add, show 298 - P - (L - 23) + (L - 23) = 298 - P by omega]
  · have hLP : L + P = 322 := by omega
    have h1 : mag * 2 ^ P ≤ 2 ^ L * 2 ^ P := by
      rw [h, ← Nat.pow_add, hLP, show 322 = 24 + 298 from rfl, Nat.pow_add]
      exact Nat.mul_le_mul_right _ ha
    have h2 : mag = 2 ^ L := Nat.le_antisymm (Nat.le_of_mul_le_mul_right h1 (Nat.two_pow_pos P)) l1
    refine ⟨2 ^ 23, ?_⟩
    rw [h2, ← Nat.pow_add, show 23 + (L - 23) = L by omega]
theorem cut_exact (neg : Bool) (K D : Nat) (hD : D ≤ (K * 2 ^ D).log2 + 2) : Toward.even.cut neg (K * 2 ^ D) D = K := by
  unfold Toward.cut
  dsimp only
  rw [Nat.min_eq_left hD, Nat.shiftLeft_eq, Nat.one_mul, Nat.mul_div_cancel _ (Nat.two_pow_pos D), Nat.mul_mod_left]
  have := Nat.two_pow_pos D
  simp
theorem single_consts : single.signWeight = 2147483648 ∧ single.infRung = 2139095040 ∧ single.binade = 8388608 ∧ single.leastPlace = -149 ∧ single.fractionBits = 23 := ⟨rfl, rfl, rfl, rfl, rfl⟩
theorem read_word (neg : Bool) (r : Nat) (h1 : 8388608 ≤ r) (h2 : r < 2139095040) : single.read (single.word neg r) = .number neg (8388608 + r % 8388608) (-149 + (r / 8388608 - 1 : Nat)) := by
  obtain ⟨c1, c2, c3, c4, c5⟩ := single_consts
  have e1 : single.word neg r % 2147483648 = r := by
    unfold Format.word; rw [c1]; cases neg
    · rw [if_neg (by decide)]; omega
    · rw [if_pos rfl]; omega
  have e2 : (single.word neg r / 2147483648 % 2 == 1) = neg := by
    unfold Format.word; rw [c1]; cases neg
    · rw [if_neg (by decide)]; rw [show r / 2147483648 = 0 by omega]; rfl
    · rw [if_pos rfl]; rw [show (2147483648 + r) / 2147483648 = 1 by omega]; rfl
  unfold Format.read
  dsimp only
  rw [c1, c2, c3, c4, e1, e2, if_neg (by omega), if_pos h2]
theorem read_zero (neg : Bool) : single.read (single.word neg 0) = .number neg 0 (-149) := by cases neg <;> rfl
theorem rung_read (neg : Bool) (Q K : Nat) (h2 : Q ≤ 150) (b1 : 8388608 ≤ K) (b2 : K < 16777216) : single.read (single.word neg (min (Q * 8388608 + K) 2139095040)) = .number neg K (-149 + (Q : Int)) := by
  have hmin : min (Q * 8388608 + K) 2139095040 = Q * 8388608 + K := Nat.min_eq_left (by omega)
  have d1 : 8388608 + (Q * 8388608 + K) % 8388608 = K := by omega
  have d2 : (Q * 8388608 + K) / 8388608 - 1 = Q := by omega
  rw [hmin, read_word neg _ (by omega) (by omega), d1, d2]
theorem near_exact (neg : Bool) (mag : Nat) (place : Int) (a : Nat) (hp : -298 ≤ place) (h : mag * 2 ^ (place + 298).toNat = a * 2 ^ 298) (ha : a ≤ 2 ^ 24) :
    ∃ m e, single.read (single.nearest neg mag place) = .number neg m e ∧ -149 ≤ e ∧ m * 2 ^ (e + 298).toNat = a * 2 ^ 298 ∧ m < 2 ^ 24 := by
  obtain ⟨c1, c2, c3, c4, c5⟩ := single_consts
  unfold Format.nearest
  by_cases h0 : mag = 0
  · rw [if_pos h0, read_zero]
    rw [h0, Nat.zero_mul] at h
    have : a = 0 := by
      rcases Nat.eq_zero_or_pos a with e | e
      · exact e
      · have := Nat.mul_pos e (Nat.two_pow_pos 298); omega
    subst this
    exact ⟨0, -149, rfl, by omega, by simp, by decide⟩
  · rw [if_neg h0]
    obtain ⟨k1, k2, k3, k4, k5⟩ := kept_of h h0 ha
    obtain ⟨P, hP⟩ : ∃ P, P = (place + 298).toNat := ⟨_, rfl⟩
    rw [← hP] at h k1 k2
    generalize hL : mag.log2 = L at *
    dsimp only
    rw [c4, c5, c3, c2]
    have hlast : max (place + L - 23) (-149) = place + L - 23 := by omega
    rw [show ((23 : Nat) : Int) = 23 from rfl, hlast]
    obtain ⟨K, hK, hK1, hK2⟩ : ∃ K, Toward.even.cut neg (mag <<< (place - (place + L - 23)).toNat) (place + L - 23 - place).toNat = K ∧ K * 2 ^ (L + P - 23) = mag * 2 ^ P ∧ (2 ^ 23 ≤ K ∧ K < 2 ^ 24) := by
      by_cases h23 : L ≤ 23
      · refine ⟨mag * 2 ^ (23 - L), ?_, ?_, ?_, ?_⟩
        · rw [show (place - (place + L - 23)).toNat = 23 - L by omega, show (place + L - 23 - place).toNat = 0 by omega, Nat.shiftLeft_eq]
          have := cut_exact neg (mag * 2 ^ (23 - L)) 0 (by omega)
          rw [Nat.pow_zero, Nat.mul_one] at this
          exact this
        · rw [Nat.mul_assoc, ← Nat.pow_add, show 23 - L + (L + P - 23) = P by omega]
        · calc 2 ^ 23 = 2 ^ L * 2 ^ (23 - L) := by rw [← Nat.pow_add, show L + (23 - L) = 23 by omega]
            _ ≤ mag * 2 ^ (23 - L) := Nat.mul_le_mul_right _ k3
        · calc mag * 2 ^ (23 - L) < 2 ^ (L + 1) * 2 ^ (23 - L) := Nat.mul_lt_mul_of_pos_right k4 (Nat.two_pow_pos _)
            _ = 2 ^ 24 := by rw [← Nat.pow_add, show L + 1 + (23 - L) = 24 by omega]
      · obtain ⟨K, hK⟩ := k5 (by omega)
        refine ⟨K, ?_, ?_, ?_, ?_⟩
        · rw [show (place - (place + L - 23)).toNat = 0 by omega, show (place + L - 23 - place).toNat = L - 23 by omega, Nat.shiftLeft_zero]
          have := cut_exact neg K (L - 23) (by rw [← hK, hL]; omega)
          rw [← hK] at this
          exact this
        · rw [show L + P - 23 = (L - 23) + P by omega, Nat.pow_add, ← Nat.mul_assoc, ← hK]
        · have h1 : 2 ^ 23 * 2 ^ (L - 23) ≤ K * 2 ^ (L - 23) := by rw [← hK, ← Nat.pow_add, show 23 + (L - 23) = L by omega]; exact k3
          exact Nat.le_of_mul_le_mul_right h1 (Nat.two_pow_pos _)
        · have h1 : K * 2 ^ (L - 23) < 2 ^ 24 * 2 ^ (L - 23) := by rw [← hK, ← Nat.pow_add, show 24 + (L - 23) = L + 1 by omega]; exact k4
          exact Nat.lt_of_mul_lt_mul_right h1
    have p23 : (2 : Nat) ^ 23 = 8388608 := by decide
    have p24 : (2 : Nat) ^ 24 = 16777216 := by decide
    have hh := hK1.trans h
    obtain ⟨b1, b2⟩ := hK2
    rw [p23] at b1
    have b3 := b2
    rw [p24] at b3
    clear h k3 k4 k5 h0 ha hL hK1 p23 p24
    have e1 : (place + L - 23 - -149).toNat = L + P - 172 := by clear hK hh; omega
    have e2 : (-149 + ((L + P - 172 : Nat) : Int) + 298).toNat = L + P - 23 := by clear hK hh; omega
    have e3 : L + P - 172 ≤ 150 := by clear hK hh; omega
    rw [hK, e1, rung_read neg _ K e3 b1 b3]
    exact ⟨K, _, rfl, by clear hK hh; omega, by rw [e2]; exact hh, b2⟩
theorem Va.write {d : Datum} {z : Int} (h : Va 298 d z) (hz : z.natAbs ≤ 2 ^ 24) : Va 149 (single.read (single.write d)) z := by
  obtain ⟨s, m, e, rfl, h1, h2⟩ := h
  have h3 : m * 2 ^ (e + 298).toNat = z.natAbs * 2 ^ 298 := by
    have := congrArg Int.natAbs h2
    rw [signed_eq, Int.natAbs_mul, Int.natAbs_mul, Int.natAbs_mul, Int.natAbs_pow, Int.natAbs_pow] at this
    cases s <;> simpa using this
  obtain ⟨m', e', k1, k2, k3, _⟩ := near_exact s m e z.natAbs (by omega) h3 hz
  have hw : single.write (.number s m e) = single.nearest s m e := rfl
  rw [hw, k1]
  refine ⟨s, m', e', rfl, by omega, ?_⟩
  refine Va.down (B := 298) ?_ (by omega) (by decide)
  have h4 := k3.trans h3.symm
  clear hw k1 k2 k3 h3 hz h1
  have h5 : (m' : Int) * 2 ^ (e' + ((298 : Nat) : Int)).toNat = (m : Int) * 2 ^ (e + ((298 : Nat) : Int)).toNat := by
    have h6 := congrArg (Nat.cast : Nat → Int) h4
    rw [Int.natCast_mul, Int.natCast_mul, Int.natCast_pow, Int.natCast_pow] at h6
    exact h6
  rw [← h2, signed_eq, signed_eq, Int.mul_assoc, Int.mul_assoc, h5]
theorem read_bound (b : Nat) {s : Bool} {m : Nat} {e : Int} (h : single.read b = .number s m e) : m < 2 ^ 24 := by
  obtain ⟨c1, c2, c3, c4, c5⟩ := single_consts
  unfold Format.read at h
  dsimp only at h
  rw [c1, c2, c3, c4] at h
  have p24 : (2 : Nat) ^ 24 = 16777216 := by decide
  rw [p24]
  split at h
  · injection h with _ h _; omega
  · split at h
    · injection h with _ h _; omega
    · split at h
      · cases h
      · cases h
/-- A quotient by a power of two. -/
theorem Va.quo {x : Nat} {q : Int} {j : Nat} {d : Datum} (hx : Va 149 (single.read x) (q * 2 ^ j)) (hd : d = .number false 8388608 ((j : Int) - 23)) (hj : j ≤ 100) :
    ∃ c, (single.read x).quotient 25 d = some c ∧ Va 298 c q := by
  obtain ⟨s, m, i, hr, h1, h2⟩ := hx
  have hm := read_bound x hr
  rw [hr, hd]
  have hl : m.log2 ≤ 23 := by
    by_cases h0 : m = 0
    · rw [h0]; decide
    · have h3 := Nat.log2_self_le h0
      have h4 : 2 ^ m.log2 < 2 ^ 24 := Nat.lt_of_le_of_lt h3 hm
      have := (Nat.pow_lt_pow_iff_right (by decide)).1 h4
      omega
  have e0 : (Datum.number s m i).quotient 25 (.number false 8388608 ((j : Int) - 23)) = some (.number (s ^^ false) (2 * ((m <<< (48 - m.log2)) / 8388608) + ((m <<< (48 - m.log2)) % 8388608 != 0).toNat) (i - ((j : Int) - 23) - (48 - m.log2 : Nat) - 1)) := rfl
  rw [e0]
  generalize m.log2 = L at *
  have p23 : (2 : Nat) ^ 23 = 8388608 := by decide
  have e1 : m <<< (48 - L) = (m * 2 ^ (25 - L)) * 8388608 := by
    rw [Nat.shiftLeft_eq, ← p23, Nat.mul_assoc, ← Nat.pow_add, show 25 - L + 23 = 48 - L by omega]
  rw [e1, Nat.mul_div_cancel _ (by decide), Nat.mul_mod_left]
  refine ⟨_, rfl, _, _, _, rfl, by omega, ?_⟩
  rw [Bool.xor_false, signed_eq]
  rw [signed_eq] at h2
  have e2 : ((2 * (m * 2 ^ (25 - L)) + (0 != 0).toNat : Nat) : Int) = (m : Int) * 2 ^ (26 - L) := by
    rw [show ((0 : Nat) != 0).toNat = 0 from rfl, Nat.add_zero, show 26 - L = (25 - L) + 1 by omega, Int.natCast_mul, Int.natCast_mul, Int.natCast_pow, Int.pow_succ]
    rw [Int.mul_comm _ (2 : Int), Int.mul_left_comm]
    rfl
  rw [e2]
  have e3 : (i - ((j : Int) - 23) - ((48 - L : Nat) : Int) - 1 + ((298 : Nat) : Int)).toNat + (26 - L) + j = (i + ((149 : Nat) : Int)).toNat + 149 := by omega
  generalize (i - ((j : Int) - 23) - ((48 - L : Nat) : Int) - 1 + ((298 : Nat) : Int)).toNat = A at *
  generalize (i + ((149 : Nat) : Int)).toNat = C at *
  refine Int.eq_of_mul_eq_mul_right (a := 2 ^ j) (Int.pow_ne_zero (by decide)) ?_
  have e4 : q * 2 ^ 298 * 2 ^ j = q * 2 ^ j * 2 ^ 149 * 2 ^ 149 := by
    rw [show (298 : Nat) = 149 + 149 from rfl, Int.pow_add]
    generalize (2 : Int) ^ 149 = u
    simp only [Int.mul_assoc, Int.mul_comm, Int.mul_left_comm]
  rw [e4, ← h2]
  generalize (if s = true then (-1 : Int) else 1) = u
  have e5 : (2 : Int) ^ (26 - L) * 2 ^ A * 2 ^ j = 2 ^ C * 2 ^ 149 := by
    rw [← Int.pow_add, ← Int.pow_add, ← Int.pow_add]
    congr 1
    omega
  calc u * ((m : Int) * 2 ^ (26 - L)) * 2 ^ A * 2 ^ j = u * (m : Int) * (2 ^ (26 - L) * 2 ^ A * 2 ^ j) := by simp only [Int.mul_assoc]
    _ = u * (m : Int) * (2 ^ C * 2 ^ 149) := by rw [e5]
    _ = u * (m : Int) * 2 ^ C * 2 ^ 149 := by simp only [Int.mul_assoc]
end Go.Proofs.Ytlbgpfddmkpakaa.Nu
