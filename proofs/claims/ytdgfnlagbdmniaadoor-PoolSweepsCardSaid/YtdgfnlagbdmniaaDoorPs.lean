/- The pool, plainly: Alloc as a function; objects of one size in a new pool. -/
import Derived.Test.YtdgfnlagbdmniaaDoorPq
namespace Go.Proofs.YtdgfnlagbdmniaaDoor.Pl
open Go.RowKit

def freeIdx (cs : List Chunk) : Option Nat := (List.range cs.length).find? fun j => (cs.getD j Chunk.zero).what == 0

def allocC (cs : List Chunk) (size : Int) : Option (List Chunk × Nat) :=
  if cls size = 5 then
    match findRun cs ((size + 1023) / 1024).toNat with
    | some i => some (largeAt cs i ((size + 1023) / 1024).toNat size, i * 1024)
    | none => none
  else
    match firstRoom cs (cls size) with
    | some i => some (cs.set i (slotC (cs.getD i Chunk.zero) (low0 (cs.getD i Chunk.zero).taken) size), i * 1024 + low0 (cs.getD i Chunk.zero).taken * (32 * 2 ^ cls size))
    | none => match freeIdx cs with
      | some i => some (cs.set i (slotC (newC (cls size)) 0 size), i * 1024)
      | none => none

def OkPost (r : Option (List Chunk × Nat)) (a b : Nat) (w : World) (e : Ending) (w' : World) : Prop :=
  match r with
  | some (cs', x) => e = .returned (.tuple #[.int .i64 (x : Int), .int .i64 0]) ∧ At w' a b cs' ∧ w.grownBy w' (some b)
  | none => e = .returned (.tuple #[.int .i64 0, .int .i64 8]) ∧ ∃ n, w' = w.drewN n

theorem freeOf_idx (cs : List Chunk) : freeOf cs cs.length = match freeIdx cs with | some j => (j : Int) | none => -1 := rfl

theorem alloc_fn {cs : List Chunk} {size : Int} {a b : Nat} {w w' : World} {e : Ending} (h1 : 1 ≤ size) (h2 : size ≤ 262144) (h : AllocPost cs size a b w e w') : OkPost (allocC cs size) a b w e w' := by
  unfold AllocPost at h
  rw [if_neg (by omega)] at h
  unfold allocC
  by_cases h5 : cls size = 5
  · rw [if_pos h5] at h
    rw [if_pos h5]
    rcases h with ⟨i, hf, he, hA, hg⟩ | ⟨hf, he, hw⟩
    · rw [hf]; exact ⟨by rw [he]; simp, hA, hg⟩
    · rw [hf]; exact ⟨he, 0, by rw [← hw]; rfl⟩
  · rw [if_neg h5] at h
    rw [if_neg h5]
    rcases h with ⟨i, c, hf, hc, he, hA, hg⟩ | ⟨i, hf, hi, he, hA, hg⟩ | ⟨hf, hi, he, n, hw⟩
    · rw [hf]
      have e1 : cs.getD i Chunk.zero = c := by simp [List.getD, hc]
      simp only [e1]
      exact ⟨he, hA, hg⟩
    · rw [hf]
      rw [freeOf_idx] at hi
      cases hx : freeIdx cs with
      | none => rw [hx] at hi; simp only at hi; omega
      | some j =>
        rw [hx] at hi
        obtain rfl : j = i := by simp only at hi; omega
        exact ⟨by rw [he]; simp, hA, hg⟩
    · rw [hf]
      rw [freeOf_idx] at hi
      cases hx : freeIdx cs with
      | none => exact ⟨he, n, hw⟩
      | some j => rw [hx] at hi; simp only at hi; omega

theorem find_range {n i : Nat} {p : Nat → Bool} (h : (List.range n).find? p = some i) : i < n ∧ p i = true ∧ ∀ j, j < i → p j = false := by
  rw [List.find?_range_eq_some] at h
  exact ⟨by simpa using h.2.1, h.1, fun j hj => by simpa using h.2.2 j hj⟩

/-- What an allocation does to the objects. -/
theorem allocC_put {cs : List Chunk} (hg : Good cs) {size : Int} (h1 : 1 ≤ size) (h2 : size ≤ 262144) {cs' : List Chunk} {x : Nat} (h : allocC cs size = some (cs', x)) :
    Good cs' ∧ cs'.length = cs.length ∧ Put (objs cs) (objs cs') ⟨x, size, roomOf size, false⟩ := by
  unfold allocC at h
  by_cases h5 : cls size = 5
  · rw [if_pos h5] at h
    have h512 : 512 < size := by
      apply Int.lt_of_not_ge
      intro hle
      have := cls_small size hle
      omega
    obtain ⟨many, hm⟩ : ∃ many : Nat, ((many : Nat) : Int) = (size + 1023) / 1024 := ⟨((size + 1023) / 1024).toNat, by omega⟩
    rw [show ((size + 1023) / 1024).toNat = many by omega] at h
    cases hf : findRun cs many with
    | none => rw [hf] at h; cases h
    | some i =>
      rw [hf] at h
      simp only [Option.some.injEq, Prod.mk.injEq] at h
      obtain ⟨rfl, rfl⟩ := h
      obtain ⟨a1, a2, _⟩ := find_range hf
      have hi : i + many ≤ cs.length := by omega
      obtain ⟨g, p⟩ := large_new hg a2 hi h512 h2 hm
      refine ⟨g, by simp [largeAt, tails_length], ?_⟩
      have er : roomOf size = many * 1024 := by
        unfold roomOf; rw [if_neg (by omega), ← hm]; omega
      rw [er]; exact p
  · rw [if_neg h5] at h
    have hk4 : cls size ≤ 4 := by have := cls_le size; omega
    have er : roomOf size = 32 * 2 ^ cls size := by unfold roomOf; rw [if_pos (by omega)]
    rw [er]
    cases hf : firstRoom cs (cls size) with
    | some i =>
      rw [hf] at h
      simp only [Option.some.injEq, Prod.mk.injEq] at h
      obtain ⟨rfl, rfl⟩ := h
      obtain ⟨a1, a2, _⟩ := find_range hf
      have hc : cs[i]? = some (cs.getD i Chunk.zero) := by simp [List.getD, List.getElem?_eq_getElem a1]
      obtain ⟨g, p⟩ := slot_old hg hc a2 h1 rfl
      exact ⟨g, by simp, p⟩
    | none =>
      rw [hf] at h
      simp only at h
      cases hx : freeIdx cs with
      | none => rw [hx] at h; cases h
      | some i =>
        rw [hx] at h
        simp only [Option.some.injEq, Prod.mk.injEq] at h
        obtain ⟨rfl, rfl⟩ := h
        obtain ⟨a1, a2, _⟩ := find_range hx
        have hc : cs[i]? = some (cs.getD i Chunk.zero) := by simp [List.getD, List.getElem?_eq_getElem a1]
        have hz : cs.getD i Chunk.zero = Chunk.zero := by
          have hw : (cs.getD i Chunk.zero).what = 0 := by simpa using a2
          rcases hg.mem _ (List.mem_of_getElem? hc) with h | h | ⟨_, _, _, _, _, _, h⟩ | h
          · exact h
          · have := h.what; omega
          · rw [h] at hw; simp [headM, headC] at hw
          · rw [h] at hw; simp [tailC] at hw
        rw [hz] at hc
        obtain ⟨g, p⟩ := slot_new hg hc hk4 h1 rfl
        exact ⟨g, by simp, p⟩

theorem Put.length {l m : List PObj} {o : PObj} (h : Put l m o) : m.length = l.length + 1 := by
  obtain ⟨A, B, rfl, rfl⟩ := h; simp; omega
theorem Put.size {l m : List PObj} {o : PObj} (h : Put l m o) : sumSize m = sumSize l + o.size := by
  obtain ⟨A, B, rfl, rfl⟩ := h; simp [sumSize]; omega
theorem Put.room {l m : List PObj} {o : PObj} (h : Put l m o) : sumRoom m = sumRoom l + o.room := by
  obtain ⟨A, B, rfl, rfl⟩ := h; simp [sumRoom]; omega

/-! ### Objects of one size in a new pool -/
def Fulls (k : Nat) (F : List Chunk) : Prop := ∀ c ∈ F, c.what = 1 ∧ c.cls = k ∧ c.taken = full k
def Part (k r : Nat) (P : List Chunk) : Prop := if r = 0 then P = [] else ∃ c, P = [c] ∧ c.what = 1 ∧ c.cls = k ∧ c.taken = 2 ^ r - 1
def ShapeS (k j : Nat) (cs : List Chunk) : Prop := ∃ F P m r, cs = F ++ P ++ List.replicate m Chunk.zero ∧ r < 32 / 2 ^ k ∧ Fulls k F ∧ Part k r P ∧ j = F.length * (32 / 2 ^ k) + r

theorem low0_ones {r : Nat} (h : r < 32) : low0 (2 ^ r - 1) = r := by
  have hp : 2 ^ r ≤ 2 ^ 31 := Nat.pow_le_pow_right (by decide) (by omega)
  have hp0 : 0 < 2 ^ r := Nat.pow_pos (by decide)
  obtain ⟨h1, h2, h3⟩ := low0_bits (t := 2 ^ r - 1) (by omega) (by omega)
  rw [Nat.testBit_two_pow_sub_one] at h2
  simp at h2
  apply Nat.le_antisymm _ h2
  apply Nat.le_of_not_lt
  intro hlt
  have := h3 r hlt
  rw [Nat.testBit_two_pow_sub_one] at this
  simp at this
theorem ones_succ (r : Nat) : (2 ^ r - 1) ||| 2 ^ r = 2 ^ (r + 1) - 1 := by
  apply Nat.eq_of_testBit_eq
  intro j
  rw [testBit_or, Nat.testBit_two_pow_sub_one, Nat.testBit_two_pow_sub_one]
  rw [Bool.eq_iff_iff]; simp; omega
theorem per_two {k : Nat} (hk : k ≤ 4) : 2 ≤ 32 / 2 ^ k := by
  obtain rfl | rfl | rfl | rfl | rfl : k = 0 ∨ k = 1 ∨ k = 2 ∨ k = 3 ∨ k = 4 := by omega
  all_goals decide

theorem getD_mid (A : List Chunk) (c : Chunk) (B : List Chunk) : (A ++ c :: B).getD A.length Chunk.zero = c := by simp [List.getD]
theorem getD_left (A B : List Chunk) (j : Nat) (h : j < A.length) : ∃ c ∈ A, (A ++ B).getD j Chunk.zero = c := ⟨A[j], List.getElem_mem h, by simp [List.getD, List.getElem?_append_left h, h]⟩
theorem set_mid (A : List Chunk) (c d : Chunk) (B : List Chunk) : (A ++ c :: B).set A.length d = A ++ d :: B := by
  rw [List.set_append_right _ _ (Nat.le_refl _)]; simp

theorem firstRoom_mid {A : List Chunk} {c : Chunk} {B : List Chunk} {k : Nat} (hA : ∀ x ∈ A, room x k = false) (hc : room c k = true) : firstRoom (A ++ c :: B) k = some A.length := by
  refine find_some_step (by simp) (fun j hj => ?_) (by rw [getD_mid]; exact hc)
  obtain ⟨x, hx, e⟩ := getD_left A (c :: B) j hj
  rw [e]; exact hA x hx
theorem firstRoom_none {cs : List Chunk} {k : Nat} (h : ∀ x ∈ cs, room x k = false) : firstRoom cs k = none := by
  refine find_none_step fun j hj => ?_
  have e : cs.getD j Chunk.zero = cs[j] := by simp [List.getD, List.getElem?_eq_getElem hj]
  rw [e]; exact h _ (List.getElem_mem hj)
theorem freeIdx_mid {A : List Chunk} {c : Chunk} {B : List Chunk} (hA : ∀ x ∈ A, x.what ≠ 0) (hc : c.what = 0) : freeIdx (A ++ c :: B) = some A.length := by
  refine find_some_step (by simp) (fun j hj => ?_) (by rw [getD_mid]; simp [hc])
  obtain ⟨x, hx, e⟩ := getD_left A (c :: B) j hj
  rw [e]; simpa using hA x hx

theorem shapeS_step {n : Int} {k j : Nat} (hk : cls n = k) (hk4 : k ≤ 4) {cs : List Chunk} (h : ShapeS k j cs) (hl : cs.length = 200) (hj : j < 60) : ∃ cs' x, allocC cs n = some (cs', x) ∧ ShapeS k (j + 1) cs' := by
  obtain ⟨F, P, m, r, rfl, hr, hF, hP, rfl⟩ := h
  have h2 := per_two hk4
  have h32 : 32 / 2 ^ k ≤ 32 := Nat.div_le_self _ _
  have hfull : full k = 2 ^ (32 / 2 ^ k) - 1 := rfl
  have hFr : ∀ x ∈ F, room x k = false := fun x hx => by simp [room, (hF x hx).2.2]
  have hFw : ∀ x ∈ F, x.what ≠ 0 := fun x hx => by rw [(hF x hx).1]; decide
  unfold allocC
  rw [hk, if_neg (by omega)]
  generalize hper : 32 / 2 ^ k = per at *
  -- what a chunk with one slot more means
  have fin : ∀ (c : Chunk) (s : Nat), c.what = 1 → c.cls = k → c.taken = 2 ^ r - 1 → s = r → ShapeS k (F.length * per + r + 1) (F ++ slotC c s n :: List.replicate (if r = 0 then m - 1 else m) Chunk.zero) := by
    intro c s hw hc ht hs
    subst hs
    have ht' : (slotC c s n).taken = 2 ^ (s + 1) - 1 := by show c.taken ||| 2 ^ s = _; rw [ht, ones_succ]
    by_cases e : s + 1 = per
    · refine ⟨F ++ [slotC c s n], [], (if s = 0 then m - 1 else m), 0, by simp, by omega, ?_, ?_, ?_⟩
      · intro x hx
        rcases List.mem_append.1 hx with hx | hx
        · exact hF x hx
        · simp at hx; subst hx; exact ⟨hw, hc, by rw [ht', e, hfull]⟩
      · unfold Part; rw [if_pos rfl]
      · rw [hper]; simp [Nat.add_mul]; omega
    · refine ⟨F, [slotC c s n], (if s = 0 then m - 1 else m), s + 1, by simp, by omega, hF, ?_, by rw [hper]; omega⟩
      unfold Part; rw [if_neg (by omega)]
      exact ⟨_, rfl, hw, hc, ht'⟩
  by_cases hr0 : r = 0
  · subst hr0
    unfold Part at hP
    rw [if_pos rfl] at hP
    subst hP
    have hFl : F.length ≤ 30 := by
      have : F.length * 2 ≤ F.length * per := Nat.mul_le_mul_left _ h2
      omega
    have hm : 0 < m := by simp at hl; omega
    obtain ⟨m', rfl⟩ : ∃ m', m = m' + 1 := ⟨m - 1, by omega⟩
    have hnone : firstRoom (F ++ [] ++ List.replicate (m' + 1) Chunk.zero) k = none := firstRoom_none fun x hx => by
      simp only [List.append_nil, List.mem_append] at hx
      rcases hx with hx | hx
      · exact hFr x hx
      · rw [List.eq_of_mem_replicate hx]; rfl
    have hfi : freeIdx (F ++ [] ++ List.replicate (m' + 1) Chunk.zero) = some F.length := by
      rw [List.append_nil, List.replicate_succ]; exact freeIdx_mid hFw rfl
    rw [hnone]
    simp only [hfi]
    refine ⟨_, _, rfl, ?_⟩
    rw [List.append_nil, List.replicate_succ, set_mid]
    have := fin (newC k) 0 rfl rfl (by simp [newC, Chunk.zero]) rfl
    simpa using this
  · unfold Part at hP
    rw [if_neg hr0] at hP
    obtain ⟨c, rfl, hw, hc, ht⟩ := hP
    have hne : c.taken ≠ full k := by
      rw [ht, hfull]
      have : 2 ^ r < 2 ^ per := Nat.pow_lt_pow_right (by decide) hr
      have : 0 < 2 ^ r := Nat.pow_pos (by decide)
      omega
    have hroom : room c k = true := by simp [room, hw, hc, hne]
    have hsome : firstRoom (F ++ [c] ++ List.replicate m Chunk.zero) k = some F.length := by
      rw [List.append_assoc]; exact firstRoom_mid hFr hroom
    rw [hsome]
    have hg : (F ++ [c] ++ List.replicate m Chunk.zero).getD F.length Chunk.zero = c := by rw [List.append_assoc]; exact getD_mid _ _ _
    simp only [hg]
    refine ⟨_, _, rfl, ?_⟩
    rw [List.append_assoc, List.singleton_append, set_mid]
    have := fin c (low0 c.taken) hw hc ht (by rw [ht]; exact low0_ones (by omega))
    rw [if_neg hr0] at this
    exact this

def ShapeL (many j : Nat) (cs : List Chunk) : Prop := ∃ Z m, cs = Z ++ List.replicate m Chunk.zero ∧ (∀ c ∈ Z, c.what ≠ 0) ∧ Z.length = j * many

theorem shapeL_step {n : Int} {many j : Nat} (h5 : cls n = 5) (hm : ((many : Nat) : Int) = (n + 1023) / 1024) (hm1 : 1 ≤ many) (hm2 : many ≤ 2) {cs : List Chunk} (h : ShapeL many j cs) (hl : cs.length = 200) (hj : j < 60) :
    ∃ cs' x, allocC cs n = some (cs', x) ∧ ShapeL many (j + 1) cs' := by
  obtain ⟨Z, m, rfl, hZ, hlz⟩ := h
  unfold allocC
  rw [if_pos h5, show ((n + 1023) / 1024).toNat = many by omega]
  have hbound : j * many ≤ 59 * 2 := Nat.mul_le_mul (by omega) hm2
  have hmz : many ≤ m := by simp at hl; omega
  have hrun : freeRun (Z ++ List.replicate m Chunk.zero) Z.length many = true := by
    unfold freeRun
    rw [List.all_eq_true]
    intro q hq
    simp at hq
    simp [List.getD, show q < m by omega, Chunk.zero]
  have hfr : findRun (Z ++ List.replicate m Chunk.zero) many = some Z.length := by
    refine find_some_step (by simp; omega) (fun q hq => ?_) hrun
    unfold freeRun
    rw [Bool.eq_false_iff]
    intro hall
    rw [List.all_eq_true] at hall
    have := hall 0 (by simp; omega)
    rw [Nat.add_zero] at this
    obtain ⟨x, hx, e⟩ := getD_left Z (List.replicate m Chunk.zero) q hq
    rw [e] at this
    exact hZ x hx (by simpa using this)
  rw [hfr]
  refine ⟨_, _, rfl, ?_⟩
  rw [large_split _ _ _ hm1 (by simp; omega)]
  refine ⟨Z ++ headM n many false :: List.replicate (many - 1) tailC, m - many, ?_, ?_, ?_⟩
  · rw [List.take_left' rfl, List.drop_append, List.drop_eq_nil_of_le (by omega), List.nil_append, List.drop_replicate, List.append_assoc, List.append_assoc]
    congr 3
    omega
  · intro c hc
    rcases List.mem_append.1 hc with hc | hc
    · exact hZ c hc
    · rcases List.mem_cons.1 hc with rfl | hc
      · simp [headM, headC]
      · rw [List.eq_of_mem_replicate hc]; decide
  · simp [hlz, Nat.add_mul]; omega

/-- What PoolRooms counts. -/
def nf (cs : List Chunk) : Nat := (cs.filter fun c => !(c.what == 0)).length
theorem nf_append (a b : List Chunk) : nf (a ++ b) = nf a + nf b := by simp [nf]
theorem nf_zeros (m : Nat) : nf (List.replicate m Chunk.zero) = 0 := by simp [nf, Chunk.zero]
theorem nf_all {F : List Chunk} (h : ∀ c ∈ F, c.what ≠ 0) : nf F = F.length := by
  unfold nf
  rw [List.filter_eq_self.2]
  intro c hc
  simpa using h c hc
theorem nf_shapeS {k j : Nat} {cs : List Chunk} (hk : k ≤ 4) (h : ShapeS k j cs) : nf cs = (j + 32 / 2 ^ k - 1) / (32 / 2 ^ k) := by
  obtain ⟨F, P, m, r, rfl, hr, hF, hP, rfl⟩ := h
  have h2 := per_two hk
  generalize 32 / 2 ^ k = per at *
  rw [nf_append, nf_append, nf_zeros, nf_all (fun c hc => by rw [(hF c hc).1]; decide)]
  unfold Part at hP
  by_cases h0 : r = 0
  · rw [if_pos h0] at hP
    subst h0; subst hP
    rw [show F.length * per + 0 + per - 1 = (per - 1) + F.length * per by omega, Nat.add_mul_div_right _ _ (by omega), Nat.div_eq_of_lt (by omega)]
    simp [nf]
  · rw [if_neg h0] at hP
    obtain ⟨c, rfl, hw, _⟩ := hP
    rw [show F.length * per + r + per - 1 = (r - 1) + (F.length + 1) * per by rw [Nat.add_mul]; omega, Nat.add_mul_div_right _ _ (by omega), Nat.div_eq_of_lt (by omega)]
    simp [nf, hw]
theorem nf_shapeL {many j : Nat} {cs : List Chunk} (h : ShapeL many j cs) : nf cs = j * many := by
  obtain ⟨Z, m, rfl, hZ, hl⟩ := h
  rw [nf_append, nf_zeros, nf_all hZ, hl]; rfl

/-- All that PoolRooms asks of the pool behind j allocations of n bytes. -/
structure Rooms (n : Int) (j : Nat) (cs : List Chunk) : Prop where
  good : Good cs
  len : cs.length = 200
  count : (objs cs).length = j
  size : sumSize (objs cs) = j * n
  room : sumRoom (objs cs) = j * roomOf n
  small : cls n ≤ 4 → ShapeS (cls n) j cs
  large : cls n = 5 → ShapeL ((n + 1023) / 1024).toNat j cs

theorem Rooms.zero (n : Int) : Rooms n 0 (List.replicate 200 Chunk.zero) := by
  have he : objs (List.replicate 200 Chunk.zero) = [] := by rw [objs_eq, objsL_zeros]
  refine ⟨Good.zeros _, List.length_replicate, by rw [he]; rfl, by rw [he]; simp [sumSize], by rw [he]; simp [sumRoom], fun h => ?_, fun _ => ⟨[], 200, rfl, by simp, by simp⟩⟩
  refine ⟨[], [], 200, 0, rfl, by have := per_two h; omega, by intro c hc; simp at hc, by unfold Part; rw [if_pos rfl], by simp⟩

theorem Rooms.step {n : Int} {j : Nat} {cs : List Chunk} (h : Rooms n j cs) (h1 : 1 ≤ n) (h2 : n ≤ 2000) (hj : j < 60) : ∃ cs' x, allocC cs n = some (cs', x) ∧ Rooms n (j + 1) cs' := by
  by_cases h5 : cls n = 5
  · have h512 : 512 < n := by
      apply Int.lt_of_not_ge
      intro hle
      have := cls_small n hle
      omega
    obtain ⟨cs', x, ha, hs⟩ := shapeL_step (many := ((n + 1023) / 1024).toNat) h5 (by omega) (by omega) (by omega) (h.large h5) h.len hj
    obtain ⟨g, l, p⟩ := allocC_put h.good h1 (by omega) ha
    refine ⟨cs', x, ha, g, l.trans h.len, by rw [p.length, h.count], ?_, ?_, fun h4 => by omega, fun _ => hs⟩
    · rw [p.size, h.size]; simp [Int.add_mul]
    · rw [p.room, h.room]; simp [Int.add_mul]
  · have h4 : cls n ≤ 4 := by have := cls_le n; omega
    obtain ⟨cs', x, ha, hs⟩ := shapeS_step rfl h4 (h.small h4) h.len hj
    obtain ⟨g, l, p⟩ := allocC_put h.good h1 (by omega) ha
    refine ⟨cs', x, ha, g, l.trans h.len, by rw [p.length, h.count], ?_, ?_, fun _ => hs, fun h => by omega⟩
    · rw [p.size, h.size]; simp [Int.add_mul]
    · rw [p.room, h.room]; simp [Int.add_mul]
end Go.Proofs.YtdgfnlagbdmniaaDoor.Pl
