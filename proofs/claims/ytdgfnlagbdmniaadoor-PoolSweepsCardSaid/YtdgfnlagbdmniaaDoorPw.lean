/- The pool, plainly: what find finds; what remove and setMark do to the objects. -/
import Derived.Test.YtdgfnlagbdmniaaDoorPu
import Derived.Test.YtdgfnlagbdmniaaDoorPv
namespace Go.Proofs.YtdgfnlagbdmniaaDoor.Pl
open Go.RowKit

/-- A place at which an object is. -/
def IsPl (cs : List Chunk) (i s : Nat) (c : Chunk) : Prop := cs[i]? = some c ∧ ((c.what = 2 ∧ s = 0) ∨ (c.what = 1 ∧ s < 32 / 2 ^ c.cls ∧ c.taken.testBit s = true))

theorem mem_placesOf {c : Chunk} {i : Nat} {p : Nat × Nat} : p ∈ placesOf c i ↔ p.1 = i ∧ ((c.what = 2 ∧ p.2 = 0) ∨ (c.what = 1 ∧ p.2 < 32 / 2 ^ c.cls ∧ c.taken.testBit p.2 = true)) := by
  unfold placesOf
  obtain ⟨x, y⟩ := p
  by_cases h2 : c.what = 2
  · simp [h2]
  · by_cases h1 : c.what = 1
    · simp [h1, slotsOf]
      constructor
      · rintro ⟨h, e⟩; exact ⟨e.symm, h⟩
      · rintro ⟨e, h⟩; exact ⟨h, e.symm⟩
    · simp [h1, h2]
theorem mem_places {cs : List Chunk} {p : Nat × Nat} : p ∈ places cs ↔ ∃ c, IsPl cs p.1 p.2 c := by
  unfold places placesTo
  rw [List.mem_flatMap]
  constructor
  · rintro ⟨j, hj, hp⟩
    simp at hj
    have e : cs.getD j Chunk.zero = cs[j] := by simp [List.getD, List.getElem?_eq_getElem hj]
    rw [e] at hp
    obtain ⟨rfl, h⟩ := mem_placesOf.1 hp
    exact ⟨_, by simp [hj], h⟩
  · rintro ⟨c, hc, h⟩
    have hlt := (List.getElem?_eq_some_iff.1 hc).1
    refine ⟨p.1, by simpa using hlt, ?_⟩
    have e : cs.getD p.1 Chunk.zero = c := by simp [List.getD, hc]
    rw [e]
    exact mem_placesOf.2 ⟨rfl, h⟩
theorem mem_objs {cs : List Chunk} {o : PObj} : o ∈ objs cs ↔ ∃ i s c, IsPl cs i s c ∧ o = objOf c i s := by
  unfold objs
  rw [List.mem_map]
  constructor
  · rintro ⟨p, hp, rfl⟩
    obtain ⟨c, hc⟩ := mem_places.1 hp
    refine ⟨p.1, p.2, c, hc, ?_⟩
    have e : cs.getD p.1 Chunk.zero = c := by simp [List.getD, hc.1]
    rw [e]
  · rintro ⟨i, s, c, hc, rfl⟩
    refine ⟨(i, s), mem_places.2 ⟨c, hc⟩, ?_⟩
    have e : cs.getD i Chunk.zero = c := by simp [List.getD, hc.1]
    rw [e]

theorem pl_slots {cs : List Chunk} (h : Good cs) {i : Nat} {c : Chunk} (hi : cs[i]? = some c) (hw : c.what = 1) : SlotsOk c := by
  rcases h.mem c (List.mem_of_getElem? hi) with rfl | h | ⟨_, _, _, _, _, _, rfl⟩ | rfl
  · simp [Chunk.zero] at hw
  · exact h
  · simp [headM, headC] at hw
  · simp [tailC] at hw
theorem pl_head {cs : List Chunk} (h : Good cs) {i : Nat} {c : Chunk} (hi : cs[i]? = some c) (hw : c.what = 2) :
    ∃ size many m, 512 < size ∧ size ≤ 262144 ∧ ((many : Nat) : Int) = (size + 1023) / 1024 ∧ c = headM size many m ∧ i + many ≤ cs.length ∧
      cs = cs.take i ++ (headM size many m :: List.replicate (many - 1) tailC) ++ cs.drop (i + many) ∧ Good (cs.take i) ∧ Good (cs.drop (i + many)) := by
  obtain ⟨g1, g2, e⟩ := h.at_ hi (by omega)
  have hlt := (List.getElem?_eq_some_iff.1 hi).1
  rcases g2.cons with ⟨rfl, _⟩ | ⟨h, _⟩ | ⟨size, many, m, zs, h1, h2, h3, rfl, hz, g3⟩
  · simp [Chunk.zero] at hw
  · have := h.what; omega
  · have hm : 1 ≤ many := by omega
    have hl : (cs.drop (i + 1)).length = (many - 1) + zs.length := by rw [hz]; simp
    have hl2 : (cs.drop (i + 1)).length = cs.length - (i + 1) := by simp
    have ed : cs.drop (i + many) = zs := by
      rw [show i + many = i + 1 + (many - 1) by omega, ← List.drop_drop, hz, List.drop_left' (by simp)]
    refine ⟨size, many, m, h1, h2, h3, rfl, by omega, ?_, g1, by rw [ed]; exact g3⟩
    rw [ed, List.append_assoc, List.cons_append, ← hz]
    exact e

theorem pl_ok {cs : List Chunk} (h : Good cs) {i s : Nat} {c : Chunk} (hp : IsPl cs i s c) : OOk (objOf c i s) ∧ i * 1024 ≤ (objOf c i s).at_ ∧ (objOf c i s).at_ + (objOf c i s).room ≤ cs.length * 1024 ∧ objOf c i s ∈ objs cs := by
  have hm : objOf c i s ∈ objs cs := mem_objs.2 ⟨i, s, c, hp, rfl⟩
  have hr := (good_objs h 0).1
  rw [← objs_eq] at hr
  obtain ⟨_, h2, h3⟩ := hr _ hm
  refine ⟨h3, ?_, by simpa using h2, hm⟩
  unfold objOf
  split <;> simp

/-- The first of the chunks of which one is a part. -/
theorem head_of {cs : List Chunk} (h : Good cs) : ∀ j, j < cs.length → ∃ hd c, hd ≤ j ∧ cs[hd]? = some c ∧ c.what < 3 ∧ ∀ k, hd < k → k ≤ j → ∃ d, cs[k]? = some d ∧ d.what = 3 := by
  intro j
  induction j with
  | zero =>
    intro hj
    refine ⟨0, cs[0], Nat.le_refl _, by simp [hj], ?_, fun k h1 h2 => by omega⟩
    have hw := (h.what cs[0] (List.getElem_mem _)).1
    cases cs with
    | nil => simp at hj
    | cons c cs =>
      rcases h.cons with ⟨rfl, _⟩ | ⟨h, _⟩ | ⟨size, many, m, zs, _, _, _, rfl, _⟩
      · simp [Chunk.zero]
      · simp [h.what]
      · simp [headM, headC]
  | succ j ih =>
    intro hj
    have hw := (h.what cs[j + 1] (List.getElem_mem _)).1
    by_cases h3 : cs[j + 1].what = 3
    · obtain ⟨hd, c, a1, a2, a3, a4⟩ := ih (by omega)
      refine ⟨hd, c, by omega, a2, a3, fun k h1 h2 => ?_⟩
      by_cases e : k = j + 1
      · subst e; exact ⟨_, by simp [hj], h3⟩
      · exact a4 k h1 (by omega)
    · exact ⟨j + 1, cs[j + 1], Nat.le_refl _, by simp [hj], by omega, fun k h1 h2 => by omega⟩

def FindL (cs : List Chunk) (ad : Int) (e : Ending) : Prop :=
  (∃ i s c, IsPl cs i s c ∧ ((objOf c i s).at_ : Int) ≤ ad ∧ ad < (objOf c i s).at_ + (objOf c i s).size ∧ e = .returned (.tuple #[pv i s, .bool true])) ∨
  ((∀ o ∈ objs cs, ¬ ((o.at_ : Int) ≤ ad ∧ ad < o.at_ + o.size)) ∧ ∃ i s : Nat, e = .returned (.tuple #[pv i s, .bool false]))

/-- An object in which an address lies is that of the address's head chunk. -/
theorem cover {cs : List Chunk} (h : Good cs) {ad hd : Nat} (hh : hd ≤ ad / 1024) {c : Chunk} (hc : cs[hd]? = some c) (h3 : c.what < 3)
    (htl : ∀ k, hd < k → k ≤ ad / 1024 → ∃ d, cs[k]? = some d ∧ d.what = 3) {i s : Nat} {c' : Chunk} (hp : IsPl cs i s c') (h1 : (objOf c' i s).at_ ≤ ad) (h2 : (ad : Int) < (objOf c' i s).at_ + (objOf c' i s).size) :
    i = hd ∧ (c'.what = 1 → s = ad % 1024 / (32 * 2 ^ c'.cls)) := by
  obtain ⟨hi, hp'⟩ := hp
  rcases hp' with ⟨hw, rfl⟩ | ⟨hw, hs, hb⟩
  · obtain ⟨size, many, m, a1, a2, a3, rfl, a5, a6, _, _⟩ := pl_head h hi hw
    have e1 : objOf (headM size many m) i 0 = ⟨i * 1024, size, many * 1024, m⟩ := rfl
    rw [e1] at h1 h2
    simp only at h1 h2
    have hq : i ≤ ad / 1024 := by omega
    have hq2 : ad / 1024 < i + many := by omega
    refine ⟨?_, fun h => by rw [hw] at h; omega⟩
    have hnot : ∀ k, i < k → k < i + many → ∃ d, cs[k]? = some d ∧ d.what = 3 := by
      intro k k1 k2
      refine ⟨tailC, ?_, rfl⟩
      rw [a6, List.getElem?_append_left (by simp; omega), List.getElem?_append_right (by simp; omega)]
      simp only [List.length_take]
      rw [show k - min i cs.length = (k - i - 1) + 1 by omega, List.getElem?_cons_succ, List.getElem?_replicate, if_pos (by omega)]
    apply Classical.byContradiction
    intro hne
    rcases Nat.lt_or_ge hd i with hlt | hge
    · obtain ⟨d, d1, d2⟩ := htl i hlt hq
      rw [hi] at d1; cases d1; omega
    · obtain ⟨d, d1, d2⟩ := hnot hd (by omega) (by omega)
      rw [hc] at d1; cases d1; omega
  · have hso := pl_slots h hi hw
    obtain ⟨b1, b2, b3⟩ := slot_ok hso i s hs hb
    have hfit := b3.fit
    have e1 := obj_slot hw i s
    have hroom : (objOf c' i s).room = 32 * 2 ^ c'.cls := by rw [e1]
    have hat : (objOf c' i s).at_ = i * 1024 + s * (32 * 2 ^ c'.cls) := by rw [e1]
    have hsin := slot_in hso.cls hs
    have hq : ad / 1024 = i := by omega
    have hid : i = hd := by
      apply Classical.byContradiction
      intro hne
      obtain ⟨d, d1, d2⟩ := htl i (by omega) (by omega)
      rw [hi] at d1; cases d1; omega
    refine ⟨hid, fun _ => ?_⟩
    have hz : 0 < 32 * 2 ^ c'.cls := by have := Nat.pow_pos (a := 2) (n := c'.cls) (by decide); omega
    have hr : ad % 1024 = ad - i * 1024 := by omega
    generalize 32 * 2 ^ c'.cls = z at *
    rw [hr]
    have hl : s * z ≤ ad - i * 1024 := by omega
    have hu : ad - i * 1024 < (s + 1) * z := by rw [Nat.add_mul]; omega
    exact (Nat.div_eq_of_lt_le hl hu).symm

theorem find_good {cs : List Chunk} (h : Good cs) {ad hd : Nat} (hh : hd ≤ ad / 1024) {c : Chunk} (hc : cs[hd]? = some c) (h3 : c.what < 3)
    (htl : ∀ k, hd < k → k ≤ ad / 1024 → ∃ d, cs[k]? = some d ∧ d.what = 3) {e : Ending} (hf : FindC c hd ad e) : FindL cs ad e := by
  have hmiss : (∀ s, IsPl cs hd s c → (c.what = 1 → s = ad % 1024 / (32 * 2 ^ c.cls)) → ¬ (((objOf c hd s).at_ : Int) ≤ ad ∧ (ad : Int) < (objOf c hd s).at_ + (objOf c hd s).size)) →
      ∀ o ∈ objs cs, ¬ ((o.at_ : Int) ≤ ad ∧ (ad : Int) < o.at_ + o.size) := by
    intro hno o ho ⟨h1, h2⟩
    obtain ⟨i, s, c', hp, rfl⟩ := mem_objs.1 ho
    obtain ⟨rfl, hs⟩ := cover h hh hc h3 htl hp (by omega) h2
    have : c' = c := by have := hp.1; rw [hc] at this; exact (Option.some.inj this).symm
    subst this
    exact hno s hp hs ⟨h1, h2⟩
  rcases hf with ⟨hw, rfl⟩ | ⟨hw, hb, rfl⟩ | ⟨hw, hb, o, rfl, rfl⟩ | ⟨hw, o, rfl, rfl⟩
  · refine .inr ⟨hmiss fun s hp _ => ?_, 0, 0, rfl⟩
    rcases hp.2 with ⟨h, _⟩ | ⟨h, _⟩ <;> omega
  · refine .inr ⟨hmiss fun s hp hs => ?_, 0, 0, rfl⟩
    rcases hp.2 with ⟨h, _⟩ | ⟨h, _, hb'⟩
    · omega
    · rw [hs h, hb] at hb'; cases hb'
  · generalize hsd : ad % 1024 / (32 * 2 ^ c.cls) = s at *
    have hso := pl_slots h hc hw
    have hz : 0 < 32 * 2 ^ c.cls := by have := Nat.pow_pos (a := 2) (n := c.cls) (by decide); omega
    have hsl : s < 32 / 2 ^ c.cls := by
      have hm := per_mul c.cls hso.cls
      rw [← hsd, Nat.div_lt_iff_lt_mul hz, hm]
      exact Nat.mod_lt _ (by decide)
    have hp : IsPl cs hd s c := ⟨hc, .inr ⟨hw, hsl, hb⟩⟩
    by_cases hlt : (ad : Int) < (objOf c hd s).at_ + (objOf c hd s).size
    · refine .inl ⟨hd, s, c, hp, ?_, hlt, by rw [decide_eq_true hlt]⟩
      rw [obj_slot hw]
      simp only
      -- the slot's chunk is that of the address
      have hq : hd = ad / 1024 := by
        apply Classical.byContradiction
        intro hne
        have := htl
        obtain ⟨b1, b2, b3⟩ := slot_ok hso hd s hsl hb
        exfalso
        -- a chunk behind one with slots is not a tail
        obtain ⟨d, d1, d2⟩ := htl (hd + 1) (by omega) (by omega)
        obtain ⟨_, g2, _⟩ := h.at_ hc (by omega)
        rcases g2.cons with ⟨rfl, _⟩ | ⟨_, g3⟩ | ⟨size, many, m, zs, _, _, _, rfl, _⟩
        · simp [Chunk.zero] at hw
        · have hlt' := (List.getElem?_eq_some_iff.1 d1).1
          have hd0 : (cs.drop (hd + 1))[0]? = some d := by rw [List.getElem?_drop]; exact d1
          cases hcs : cs.drop (hd + 1) with
          | nil => rw [hcs] at hd0; cases hd0
          | cons x xs =>
            rw [hcs] at hd0 g3
            simp at hd0; subst hd0
            rcases g3.cons with ⟨rfl, _⟩ | ⟨h, _⟩ | ⟨size, many, m, zs, _, _, _, rfl, _⟩
            · simp [Chunk.zero] at d2
            · have := h.what; omega
            · simp [headM, headC] at d2
        · simp [headM, headC] at hw
      have := Nat.div_mul_le_self (ad % 1024) (32 * 2 ^ c.cls)
      rw [hsd] at this
      omega
    · refine .inr ⟨hmiss fun s' hp' hs' => ?_, hd, s, by rw [decide_eq_false hlt]⟩
      rw [hs' hw]
      exact fun h => hlt h.2
  · have hp : IsPl cs hd 0 c := ⟨hc, .inl ⟨hw, rfl⟩⟩
    by_cases hlt : (ad : Int) < (objOf c hd 0).at_ + (objOf c hd 0).size
    · refine .inl ⟨hd, 0, c, hp, ?_, hlt, by rw [decide_eq_true hlt]⟩
      have : (objOf c hd 0).at_ = hd * 1024 := by simp [objOf, hw]
      rw [this]
      omega
    · refine .inr ⟨hmiss fun s' hp' hs' => ?_, hd, 0, by rw [decide_eq_false hlt]⟩
      rcases hp'.2 with ⟨_, rfl⟩ | ⟨h, _⟩
      · exact fun h => hlt h.2
      · omega

/-! ### One object less; one object's mark -/
theorem seg_at {c : Chunk} (hw : c.what = 1) (i s d : Nat) (hd : 32 / 2 ^ c.cls = s + 1 + d) :
    segObjs c i = ((List.range s).filter fun j => c.taken.testBit j).map (objOf c i) ++ ((if c.taken.testBit s then [objOf c i s] else []) ++ (((List.range d).map fun x => s + 1 + x).filter fun j => c.taken.testBit j).map (objOf c i)) := by
  rw [seg_slots hw, slotsOf, hd, range_split, List.filter_append, List.filter_cons]
  cases c.taken.testBit s <;> simp

theorem seg_pair {c c' : Chunk} (hw : c.what = 1) (hw' : c'.what = 1) (hc : c'.cls = c.cls) (i s : Nat) (hs : s < 32 / 2 ^ c.cls)
    (heq : ∀ j, j < 32 → j ≠ s → c'.taken.testBit j = c.taken.testBit j ∧ objOf c' i j = objOf c i j) :
    ∃ X Y, segObjs c i = X ++ ((if c.taken.testBit s then [objOf c i s] else []) ++ Y) ∧ segObjs c' i = X ++ ((if c'.taken.testBit s then [objOf c' i s] else []) ++ Y) := by
  obtain ⟨d, hd⟩ : ∃ d, 32 / 2 ^ c.cls = s + 1 + d := ⟨32 / 2 ^ c.cls - (s + 1), by omega⟩
  have hn : s + 1 + d ≤ 32 := by rw [← hd]; exact Nat.div_le_self _ _
  refine ⟨_, _, seg_at hw i s d hd, ?_⟩
  rw [seg_at hw' i s d (by rw [hc]; exact hd)]
  have hf : ∀ l : List Nat, (∀ j ∈ l, j < 32 ∧ j ≠ s) → (l.filter fun j => c'.taken.testBit j).map (objOf c' i) = (l.filter fun j => c.taken.testBit j).map (objOf c i) := by
    intro l hl
    have e1 : (l.filter fun j => c'.taken.testBit j) = l.filter fun j => c.taken.testBit j := List.filter_congr fun j hj => (heq j (hl j hj).1 (hl j hj).2).1
    rw [e1]
    apply List.map_congr_left
    intro j hj
    have := hl j (List.mem_filter.1 hj).1
    exact (heq j this.1 this.2).2
  rw [hf _ (by intro j hj; simp at hj; omega), hf _ (by intro j hj; simp at hj; obtain ⟨x, hx, rfl⟩ := hj; omega)]

/-- A chunk with slots is exchanged for another one. -/
theorem set_objs {cs : List Chunk} {i : Nat} {c c' : Chunk} (hi : cs[i]? = some c) : objs cs = objsL 0 (cs.take i) ++ (segObjs c i ++ objsL (i + 1) (cs.drop (i + 1))) ∧ objs (cs.set i c') = objsL 0 (cs.take i) ++ (segObjs c' i ++ objsL (i + 1) (cs.drop (i + 1))) := by
  have hlt := (List.getElem?_eq_some_iff.1 hi).1
  have hl : (cs.take i).length = i := by simp; omega
  have e : cs = cs.take i ++ c :: cs.drop (i + 1) := by
    have e := (List.getElem?_eq_some_iff.1 hi).2
    rw [← e, ← List.drop_eq_getElem_cons hlt, List.take_append_drop]
  refine ⟨?_, ?_⟩
  · rw [objs_eq]
    conv => lhs; rw [e]
    rw [objsL_append, objsL, hl, Nat.zero_add]
  · rw [objs_eq, set_split cs i _ hlt, objsL_append, objsL, hl, Nat.zero_add]

def removeC (cs : List Chunk) (i s : Nat) (c : Chunk) : List Chunk := if c.what = 2 then clears cs i c.many else cs.set i (leftC c s)
def setMarkC (cs : List Chunk) (i s : Nat) (c : Chunk) (m : Bool) : List Chunk := if c.what = 2 then cs.set i { c with marked := m } else cs.set i (markC c s m)

theorem clears_get (cs : List Chunk) (i : Nat) : ∀ k j, i + k ≤ cs.length → (clears cs i k)[j]? = if i ≤ j ∧ j < i + k then some Chunk.zero else cs[j]? := by
  intro k
  induction k with
  | zero => intro j _; rw [if_neg (by omega)]; rfl
  | succ k ih =>
    intro j hk
    rw [clears, List.getElem?_set]
    by_cases e : i + k = j
    · subst e
      rw [if_pos rfl, if_pos (by rw [clears_length]; omega), if_pos (by omega)]
    · rw [if_neg e, ih j (by omega)]
      by_cases h : i ≤ j ∧ j < i + k
      · rw [if_pos h, if_pos (by omega)]
      · rw [if_neg h, if_neg (by omega)]
theorem clears_split (cs : List Chunk) (i many : Nat) (h : i + many ≤ cs.length) : clears cs i many = cs.take i ++ List.replicate many Chunk.zero ++ cs.drop (i + many) := by
  apply List.ext_getElem?
  intro j
  rw [clears_get cs i many j h, List.append_assoc]
  have hl : (cs.take i).length = i := by simp; omega
  by_cases h1 : j < i
  · rw [if_neg (by omega), List.getElem?_append_left (by omega), List.getElem?_take_of_lt h1]
  · rw [List.getElem?_append_right (by omega), hl]
    by_cases h2 : j < i + many
    · rw [if_pos (by omega), List.getElem?_append_left (by simp; omega), List.getElem?_replicate, if_pos (by omega)]
    · rw [if_neg (by omega), List.getElem?_append_right (by simp; omega), List.getElem?_drop]
      congr 1
      simp; omega

theorem dropC_bit (c : Chunk) (s j : Nat) (hs : s < 32) (hj : j < 32) : (dropC c s).taken.testBit j = (c.taken.testBit j && !decide (s = j)) := testBit_clear _ _ _ hs hj

/-- remove: one object less. -/
theorem remove_put {cs : List Chunk} (h : Good cs) {i s : Nat} {c : Chunk} (hp : IsPl cs i s c) : Good (removeC cs i s c) ∧ (removeC cs i s c).length = cs.length ∧ Put (objs (removeC cs i s c)) (objs cs) (objOf c i s) := by
  obtain ⟨hi, hp'⟩ := hp
  rcases hp' with ⟨hw, rfl⟩ | ⟨hw, hs, hb⟩
  · obtain ⟨size, many, m, a1, a2, a3, rfl, a5, a6, a7, a8⟩ := pl_head h hi hw
    have er : removeC cs i 0 (headM size many m) = cs.take i ++ List.replicate many Chunk.zero ++ cs.drop (i + many) := by
      unfold removeC; rw [if_pos hw]; exact clears_split cs i many a5
    rw [er]
    have hl : (cs.take i).length = i := by simp; omega
    refine ⟨(a7.append (Good.zeros _)).append a8, by simp; omega, objsL 0 (cs.take i), objsL (i + many) (cs.drop (i + many)), ?_, ?_⟩
    · rw [objs_eq, objsL_append, objsL_append, objsL_zeros, List.length_append, hl]; simp
    · rw [objs_eq]
      conv => lhs; rw [a6]
      rw [objsL_append, objsL_append, hl, objsL_large]
      simp
      refine ⟨rfl, ?_⟩
      congr 1; omega
  · have hso := pl_slots h hi hw
    have hs32 : s < 32 := Nat.lt_of_lt_of_le hs (Nat.div_le_self _ _)
    have hlt := (List.getElem?_eq_some_iff.1 hi).1
    have er : removeC cs i s c = cs.set i (leftC c s) := by unfold removeC; rw [if_neg (by omega)]
    rw [er]
    obtain ⟨g1, g2, e⟩ := h.at_ hi (by omega)
    have g3 : Good (cs.drop (i + 1)) := by
      rcases g2.cons with ⟨rfl, _⟩ | ⟨_, h⟩ | ⟨size, many, m, zs, _, _, _, rfl, _⟩
      · simp [Chunk.zero] at hw
      · exact h
      · simp [headM, headC] at hw
    have hbs : (dropC c s).taken.testBit s = false := by rw [dropC_bit c s s hs32 hs32]; simp
    obtain ⟨X, Y, e1, e2⟩ := seg_pair (c := c) (c' := dropC c s) hw hw rfl i s hs fun j hj hne => by
      refine ⟨?_, rfl⟩
      rw [dropC_bit c s j hs32 hj]
      have : decide (s = j) = false := by simp; omega
      simp [this]
    rw [hb, if_pos rfl] at e1
    rw [hbs] at e2
    simp only [Bool.false_eq_true, if_false, List.nil_append] at e2
    have hseg : segObjs (leftC c s) i = X ++ Y := by
      unfold leftC
      by_cases h0 : (dropC c s).taken = 0
      · rw [if_pos h0, ← e2]
        rw [seg_slots (c := dropC c s) hw]
        simp [slotsOf, h0, segObjs, placesOf, Chunk.zero]
      · rw [if_neg h0, e2]
    have hgood : Good [leftC c s] := by
      unfold leftC
      by_cases h0 : (dropC c s).taken = 0
      · rw [if_pos h0]; exact Good.seg (.inl rfl)
      · rw [if_neg h0]
        refine Good.seg (.inr (.inl ⟨_, rfl, hw, hso.sizes, hso.cls, ?_, h0, hso.marks, hso.many, fun j hj => ?_⟩))
        · have := hso.taken
          have := Nat.and_le_left (n := c.taken) (m := 4294967295 - 2 ^ s)
          show c.taken &&& _ < 2 ^ (32 / 2 ^ c.cls)
          omega
        · have hj' : (c.taken &&& (4294967295 - 2 ^ s)).testBit j = true := hj
          rw [Nat.testBit_and] at hj'
          simp only [Bool.and_eq_true] at hj'
          exact hso.szs j hj'.1
    obtain ⟨o1, o2⟩ := set_objs (c' := leftC c s) hi
    refine ⟨?_, by simp, objsL 0 (cs.take i) ++ X, Y ++ objsL (i + 1) (cs.drop (i + 1)), ?_, ?_⟩
    · rw [set_split cs i _ hlt]
      exact g1.append (hgood.append g3 : Good ([_] ++ _))
    · rw [o2, hseg]; simp
    · rw [o1, e1]; simp

def Remark (l m : List PObj) (o : PObj) (b : Bool) : Prop := ∃ A B, l = A ++ o :: B ∧ m = A ++ { o with marked := b } :: B

/-- setMark: one object's mark. -/
theorem mark_put {cs : List Chunk} (h : Good cs) {i s : Nat} {c : Chunk} (hp : IsPl cs i s c) (m : Bool) : Good (setMarkC cs i s c m) ∧ (setMarkC cs i s c m).length = cs.length ∧ Remark (objs cs) (objs (setMarkC cs i s c m)) (objOf c i s) m := by
  obtain ⟨hi, hp'⟩ := hp
  rcases hp' with ⟨hw, rfl⟩ | ⟨hw, hs, hb⟩
  · obtain ⟨size, many, m', a1, a2, a3, rfl, a5, a6, a7, a8⟩ := pl_head h hi hw
    have hlt := (List.getElem?_eq_some_iff.1 hi).1
    have hl : (cs.take i).length = i := by simp; omega
    have er : setMarkC cs i 0 (headM size many m') m = cs.take i ++ (headM size many m :: List.replicate (many - 1) tailC) ++ cs.drop (i + many) := by
      unfold setMarkC; rw [if_pos hw]
      conv => lhs; rw [a6]
      rw [List.append_assoc, List.set_append_right _ _ (by omega), hl, Nat.sub_self]
      simp [headM]
    rw [er]
    refine ⟨(a7.append (Good.seg (.inr (.inr ⟨size, many, m, a1, a2, a3, rfl⟩)))).append a8, ?_, objsL 0 (cs.take i), objsL (i + many) (cs.drop (i + many)), ?_, ?_⟩
    · simp; omega
    · rw [objs_eq]
      conv => lhs; rw [a6]
      rw [objsL_append, objsL_append, hl, objsL_large]
      simp
      refine ⟨rfl, ?_⟩
      congr 1; omega
    · rw [objs_eq, objsL_append, objsL_append, hl, objsL_large]
      simp
      refine ⟨⟨rfl, rfl, rfl⟩, ?_⟩
      congr 1; omega
  · have hso := pl_slots h hi hw
    have hs32 : s < 32 := Nat.lt_of_lt_of_le hs (Nat.div_le_self _ _)
    have h2s : 2 ^ s < 4294967296 := Nat.pow_lt_pow_right (a := 2) (m := s) (n := 32) (by decide) hs32
    have hlt := (List.getElem?_eq_some_iff.1 hi).1
    have er : setMarkC cs i s c m = cs.set i (markC c s m) := by unfold setMarkC; rw [if_neg (by omega)]
    rw [er]
    obtain ⟨g1, g2, e⟩ := h.at_ hi (by omega)
    have g3 : Good (cs.drop (i + 1)) := by
      rcases g2.cons with ⟨rfl, _⟩ | ⟨_, h⟩ | ⟨size, many, m, zs, _, _, _, rfl, _⟩
      · simp [Chunk.zero] at hw
      · exact h
      · simp [headM, headC] at hw
    have hw' : (markC c s m).what = 1 := by unfold markC; split <;> exact hw
    have ht' : (markC c s m).taken = c.taken := by unfold markC; split <;> rfl
    have hc' : (markC c s m).cls = c.cls := by unfold markC; split <;> rfl
    have hz' : (markC c s m).sizes = c.sizes := by unfold markC; split <;> rfl
    have hmany' : (markC c s m).many = c.many := by unfold markC; split <;> rfl
    have hbit : ∀ j, j < 32 → (markC c s m).marks.testBit j = if s = j then m else c.marks.testBit j := by
      intro j hj
      unfold markC
      cases m with
      | true =>
        show (c.marks ||| 2 ^ s).testBit j = _
        rw [testBit_or]
        by_cases e : s = j <;> simp [e]
      | false =>
        show (c.marks &&& (4294967295 - 2 ^ s)).testBit j = _
        rw [testBit_clear _ _ _ hs32 hj]
        by_cases e : s = j <;> simp [e]
    have hmarks : (markC c s m).marks < 4294967296 := by
      unfold markC
      cases m with
      | true => exact Nat.or_lt_two_pow (n := 32) hso.marks h2s
      | false =>
        have := Nat.and_le_left (n := c.marks) (m := 4294967295 - 2 ^ s)
        have := hso.marks
        show c.marks &&& _ < _
        omega
    have hob : ∀ j, j < 32 → objOf (markC c s m) i j = if s = j then { objOf c i j with marked := m } else objOf c i j := by
      intro j hj
      rw [obj_slot hw', obj_slot hw, hc', hz', hbit j hj]
      by_cases e : s = j <;> simp [e]
    obtain ⟨X, Y, e1, e2⟩ := seg_pair (c := c) (c' := markC c s m) hw hw' hc' i s hs fun j hj hne => by
      refine ⟨by rw [ht'], ?_⟩
      rw [hob j hj, if_neg (by omega)]
    rw [hb, if_pos rfl] at e1
    rw [ht', hb, if_pos rfl, hob s hs32, if_pos rfl] at e2
    obtain ⟨o1, o2⟩ := set_objs (c' := markC c s m) hi
    refine ⟨?_, by simp, objsL 0 (cs.take i) ++ X, Y ++ objsL (i + 1) (cs.drop (i + 1)), ?_, ?_⟩
    · rw [set_split cs i _ hlt]
      refine g1.append (Good.append (Good.seg (.inr (.inl ⟨_, rfl, hw', by rw [hz']; exact hso.sizes, by rw [hc']; exact hso.cls, by rw [ht', hc']; exact hso.taken, by rw [ht']; exact hso.pos, hmarks, by rw [hmany']; exact hso.many, ?_⟩))) g3 : Good ([_] ++ _))
      intro j hj
      rw [hz', hc']
      rw [ht'] at hj
      exact hso.szs j hj
    · rw [o1, e1]; simp
    · rw [o2, e2]; simp
end Go.Proofs.YtdgfnlagbdmniaaDoor.Pl
