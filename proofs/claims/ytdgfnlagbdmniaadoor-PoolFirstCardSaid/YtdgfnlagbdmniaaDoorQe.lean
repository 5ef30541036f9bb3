/- PoolFirst, plainly: what was freed is taken again. -/
import Derived.Test.YtdgfnlagbdmniaaDoorQa
namespace Go.Proofs.YtdgfnlagbdmniaaDoor.Pl
open Go.RowKit

theorem find_le {n i : Nat} {p : Nat → Bool} (hi : i < n) (hp : p i = true) : ∃ j, (List.range n).find? p = some j ∧ j ≤ i := by
  cases h : (List.range n).find? p with
  | none =>
    rw [List.find?_eq_none] at h
    have := h i (by simpa using hi)
    rw [hp] at this; exact absurd rfl this
  | some j =>
    refine ⟨j, rfl, ?_⟩
    obtain ⟨_, _, h3⟩ := find_range h
    apply Nat.le_of_not_lt
    intro hlt
    rw [h3 i hlt] at hp; cases hp

def nearB (cs : List Chunk) (o : PObj) : Bool := (objs cs).any fun y => y.at_ / 1024 == o.at_ / 1024

theorem again {cs : List Chunk} (h : Good cs) {i s : Nat} {c : Chunk} (hp : IsPl cs i s c) :
    ∃ cs'' x, allocC (removeC cs i s c) (objOf c i s).size = some (cs'', x) ∧ (x ≤ (objOf c i s).at_ ∨ (nearB (removeC cs i s c) (objOf c i s) = false ∧ (objOf c i s).size ≤ 512)) := by
  have hgr := (remove_put h hp).1
  have hp0 := hp
  obtain ⟨hi, hp'⟩ := hp
  have hlt := (List.getElem?_eq_some_iff.1 hi).1
  rcases hp' with ⟨hw, rfl⟩ | ⟨hw, hs, hb⟩
  · obtain ⟨size, many, m, a1, a2, a3, rfl, a5, a6, a7, a8⟩ := pl_head h hi hw
    have e1 : objOf (headM size many m) i 0 = ⟨i * 1024, size, many * 1024, m⟩ := rfl
    rw [e1]
    simp only
    have er : removeC cs i 0 (headM size many m) = clears cs i many := by unfold removeC; rw [if_pos hw]; rfl
    rw [er]
    have hm1 : 1 ≤ many := by omega
    have hfree : freeRun (clears cs i many) i many = true := by
      unfold freeRun
      rw [List.all_eq_true]
      intro k hk
      simp at hk
      simp [List.getD, clears_get cs i many (i + k) a5, hk, Chunk.zero]
    obtain ⟨j, hj, hle⟩ := find_le (n := (clears cs i many).length + 1 - many) (i := i) (p := fun j => freeRun (clears cs i many) j many) (by rw [clears_length]; omega) hfree
    have hfr : findRun (clears cs i many) many = some j := hj
    unfold allocC
    rw [if_pos (cls_five size a1), show ((size + 1023) / 1024).toNat = many by omega, hfr]
    exact ⟨_, _, rfl, .inl (Nat.mul_le_mul_right _ hle)⟩
  · have hso := pl_slots h hi hw
    have hs32 : s < 32 := Nat.lt_of_lt_of_le hs (Nat.div_le_self _ _)
    obtain ⟨z1, z2, z3⟩ := hso.szs s hb
    have er : removeC cs i s c = cs.set i (leftC c s) := by unfold removeC; rw [if_neg (by omega)]
    have hgi : (cs.set i (leftC c s))[i]? = some (leftC c s) := List.getElem?_set_self hlt
    have hgd : (cs.set i (leftC c s)).getD i Chunk.zero = leftC c s := by simp [List.getD, hgi]
    have hbs : (dropC c s).taken.testBit s = false := by rw [dropC_bit c s s hs32 hs32]; simp
    rw [er] at hgr
    rw [obj_slot hw, er]
    simp only
    have hc4 := hso.cls
    have hsin := slot_in hso.cls hs
    have hz0 : 0 < 2 ^ c.cls := Nat.pow_pos (by decide)
    unfold allocC
    rw [z3, if_neg (by omega)]
    by_cases h0 : (dropC c s).taken = 0
    · have hl : leftC c s = Chunk.zero := if_pos h0
      have hnear : nearB (cs.set i (leftC c s)) ⟨i * 1024 + s * (32 * 2 ^ c.cls), c.sizes.getD s 0, 32 * 2 ^ c.cls, c.marks.testBit s⟩ = false := by
        rw [Bool.eq_false_iff]
        intro hany
        unfold nearB at hany
        rw [List.any_eq_true] at hany
        obtain ⟨y, hy, hyd⟩ := hany
        simp only [beq_iff_eq] at hyd
        obtain ⟨i', s', c', ⟨hi', hq'⟩, rfl⟩ := mem_objs.1 hy
        have hii : i' = i := by
          rcases hq' with ⟨hw', rfl⟩ | ⟨hw', hs', hb'⟩
          · have e2 : (objOf c' i' 0).at_ = i' * 1024 := by simp [objOf, hw']
            rw [e2] at hyd
            omega
          · have hso' := pl_slots hgr hi' hw'
            have hsin' := slot_in hso'.cls hs'
            have hz' : 0 < 2 ^ c'.cls := Nat.pow_pos (by decide)
            have e2 : (objOf c' i' s').at_ = i' * 1024 + s' * (32 * 2 ^ c'.cls) := by rw [obj_slot hw']
            rw [e2] at hyd
            omega
        subst hii
        rw [hgi, hl] at hi'
        cases hi'
        rcases hq' with ⟨hw', _⟩ | ⟨hw', _⟩ <;> simp [Chunk.zero] at hw'
      cases hf : firstRoom (cs.set i (leftC c s)) c.cls with
      | some j => exact ⟨_, _, rfl, .inr ⟨hnear, z2⟩⟩
      | none =>
        obtain ⟨j, hj, _⟩ := find_le (n := (cs.set i (leftC c s)).length) (i := i) (p := fun j => ((cs.set i (leftC c s)).getD j Chunk.zero).what == 0) (by simpa using hlt) (by rw [hgd, hl]; rfl)
        have hfi : freeIdx (cs.set i (leftC c s)) = some j := hj
        simp only [hfi]
        exact ⟨_, _, rfl, .inr ⟨hnear, z2⟩⟩
    · have hl : leftC c s = dropC c s := if_neg h0
      have hfull : (dropC c s).taken ≠ full c.cls := by
        intro e
        have : (full c.cls).testBit s = true := by
          unfold full
          rw [Nat.testBit_two_pow_sub_one]; simpa using hs
        rw [← e, hbs] at this; cases this
      have hroom : room (leftC c s) c.cls = true := by
        rw [hl]; unfold room
        have h1 : (dropC c s).what = 1 := hw
        have h2 : (dropC c s).cls = c.cls := rfl
        simp [h1, h2, hfull]
      obtain ⟨j, hj, hle⟩ := find_le (n := (cs.set i (leftC c s)).length) (i := i) (p := fun j => room ((cs.set i (leftC c s)).getD j Chunk.zero) c.cls) (by simpa using hlt) (by rw [hgd]; exact hroom)
      have hfr : firstRoom (cs.set i (leftC c s)) c.cls = some j := hj
      rw [hfr]
      refine ⟨_, _, rfl, .inl ?_⟩
      obtain ⟨a1, a2, _⟩ := find_range hj
      by_cases hji : j = i
      · subst hji
        rw [hgd, hl]
        have ht := Nat.and_le_left (n := c.taken) (m := 4294967295 - 2 ^ s)
        have ht' : (dropC c s).taken < 4294967296 := Nat.lt_of_le_of_lt ht (taken_lt hso.taken)
        have hne : (dropC c s).taken ≠ 4294967295 := by
          intro e
          rw [e] at hbs
          have : (4294967295 : Nat) = 2 ^ 32 - 1 := rfl
          rw [this, Nat.testBit_two_pow_sub_one] at hbs
          simp at hbs; omega
        obtain ⟨b1, b2, b3⟩ := low0_bits ht' hne
        have hlow : low0 (dropC c s).taken ≤ s := by
          apply Nat.le_of_not_lt
          intro hlt
          rw [b3 s hlt] at hbs; cases hbs
        have := Nat.mul_le_mul_right (32 * 2 ^ c.cls) hlow
        omega
      · have hjlt : j < i := by omega
        have hjl : j < cs.length := by omega
        have hcj : (cs.set i (leftC c s))[j]? = some ((cs.set i (leftC c s)).getD j Chunk.zero) := by simp [List.getD, hjl]
        generalize (cs.set i (leftC c s)).getD j Chunk.zero = cj at *
        simp only [room, Bool.and_eq_true, beq_iff_eq, Bool.not_eq_true', beq_eq_false_iff_ne] at a2
        obtain ⟨hwj, hcj', hnej⟩ := a2
        have hsj := pl_slots hgr hcj hwj
        rw [← hcj'] at hnej
        have hlow := low0_lt (Nat.div_le_self 32 (2 ^ cj.cls)) hsj.taken hnej
        have := slot_in hsj.cls hlow
        rw [← hcj']
        omega
end Go.Proofs.YtdgfnlagbdmniaaDoor.Pl
