/- The pool, plainly: its objects lie apart; what an allocation does to them. -/
import Derived.Test.YtdgfnlagbdmniaaDoorPp
namespace Go.Proofs.YtdgfnlagbdmniaaDoor.Pl

def roomOf (size : Int) : Nat := if cls size < 5 then 32 * 2 ^ cls size else ((size + 1023) / 1024 * 1024).toNat

/-- An object whose room is that of its size. -/
structure OOk (o : PObj) : Prop where
  pos : 1 ≤ o.size
  le : o.size ≤ 262144
  fit : o.size ≤ o.room
  room : o.room = roomOf o.size

def InR (l : List PObj) (lo hi : Nat) : Prop := ∀ o ∈ l, lo ≤ o.at_ ∧ o.at_ + o.room ≤ hi ∧ OOk o
def Apart (l : List PObj) : Prop := l.Pairwise fun a b => a.at_ + a.room ≤ b.at_

theorem cls_fit (n : Int) (h : cls n < 5) : n ≤ 32 * 2 ^ cls n := by
  by_cases h1 : n ≤ 32
  · have e : cls n = 0 := by simp [cls, h1]
    rw [e]; omega
  by_cases h2 : n ≤ 64
  · have e : cls n = 1 := by simp [cls, h1, h2]
    rw [e]; omega
  by_cases h3 : n ≤ 128
  · have e : cls n = 2 := by simp [cls, h1, h2, h3]
    rw [e]; omega
  by_cases h4 : n ≤ 256
  · have e : cls n = 3 := by simp [cls, h1, h2, h3, h4]
    rw [e]; omega
  by_cases h5 : n ≤ 512
  · have e : cls n = 4 := by simp [cls, h1, h2, h3, h4, h5]
    rw [e]; omega
  · have e : cls n = 5 := by simp [cls, h1, h2, h3, h4, h5]
    omega
theorem cls_five (n : Int) (h : 512 < n) : cls n = 5 := by
  unfold cls; (repeat' split) <;> omega
theorem cls_small (n : Int) (h : n ≤ 512) : cls n < 5 := by
  unfold cls; (repeat' split) <;> omega

theorem per_mul (k : Nat) (h : k ≤ 4) : 32 / 2 ^ k * (32 * 2 ^ k) = 1024 := by
  obtain rfl | rfl | rfl | rfl | rfl : k = 0 ∨ k = 1 ∨ k = 2 ∨ k = 3 ∨ k = 4 := by omega
  all_goals rfl
theorem slot_in {s k : Nat} (hk : k ≤ 4) (hs : s < 32 / 2 ^ k) : s * (32 * 2 ^ k) + 32 * 2 ^ k ≤ 1024 := by
  have h1 := per_mul k hk
  have h2 : (s + 1) * (32 * 2 ^ k) ≤ 32 / 2 ^ k * (32 * 2 ^ k) := Nat.mul_le_mul_right _ hs
  rw [Nat.add_mul] at h2
  omega

theorem seg_slots {c : Chunk} (h : c.what = 1) (i : Nat) : segObjs c i = (slotsOf c (32 / 2 ^ c.cls)).map fun s => objOf c i s := by
  simp [segObjs, placesOf, h, Function.comp_def]
theorem obj_slot {c : Chunk} (h : c.what = 1) (i s : Nat) : objOf c i s = ⟨i * 1024 + s * (32 * 2 ^ c.cls), c.sizes.getD s 0, 32 * 2 ^ c.cls, c.marks.testBit s⟩ := by
  simp [objOf, h]
theorem mem_slots {c : Chunk} {n s : Nat} : s ∈ slotsOf c n ↔ s < n ∧ c.taken.testBit s = true := by simp [slotsOf]

theorem slot_ok {c : Chunk} (h : SlotsOk c) (i s : Nat) (hs : s < 32 / 2 ^ c.cls) (hb : c.taken.testBit s = true) : i * 1024 ≤ (objOf c i s).at_ ∧ (objOf c i s).at_ + (objOf c i s).room ≤ (i + 1) * 1024 ∧ OOk (objOf c i s) := by
  obtain ⟨h1, h2, h3⟩ := h.szs s hb
  have hin := slot_in h.cls hs
  rw [obj_slot h.what]
  refine ⟨by simp, by simp only; omega, h1, by simp only; omega, ?_, ?_⟩
  · have := cls_fit (c.sizes.getD s 0) (by have := h.cls; omega)
    rw [h3] at this
    simp only [Int.natCast_mul, Int.natCast_pow]
    exact this
  · simp only [roomOf]
    rw [h3, if_pos (by have := h.cls; omega)]

theorem slots_apart {c : Chunk} (h : SlotsOk c) (i : Nat) : Apart (segObjs c i) := by
  rw [seg_slots h.what]
  unfold Apart
  rw [List.pairwise_map]
  have : (slotsOf c (32 / 2 ^ c.cls)).Pairwise (· < ·) := List.Pairwise.filter _ List.pairwise_lt_range
  refine this.imp ?_
  intro s t hst
  rw [obj_slot h.what, obj_slot h.what]
  simp only
  have : (s + 1) * (32 * 2 ^ c.cls) ≤ t * (32 * 2 ^ c.cls) := Nat.mul_le_mul_right _ hst
  rw [Nat.add_mul] at this
  omega

theorem objsL_tails (n i : Nat) : objsL i (List.replicate n tailC) = [] := by
  induction n generalizing i with
  | zero => rfl
  | succ n ih => rw [List.replicate_succ, objsL, ih]; rfl
theorem objsL_zeros (n i : Nat) : objsL i (List.replicate n Chunk.zero) = [] := by
  induction n generalizing i with
  | zero => rfl
  | succ n ih => rw [List.replicate_succ, objsL, ih]; rfl
theorem objsL_large (size : Int) (many : Nat) (m : Bool) (i : Nat) : objsL i (headM size many m :: List.replicate (many - 1) tailC) = [⟨i * 1024, size, many * 1024, m⟩] := by
  rw [objsL, objsL_tails]; rfl
theorem objsL_slots {c : Chunk} (i : Nat) : objsL i [c] = segObjs c i := by simp [objsL]

theorem seg_objs {x : List Chunk} (h : IsSeg x) (i : Nat) : InR (objsL i x) (i * 1024) ((i + x.length) * 1024) ∧ Apart (objsL i x) := by
  rcases h with rfl | ⟨c, rfl, hc⟩ | ⟨size, many, m, h1, h2, h3, rfl⟩
  · exact ⟨fun o ho => by simp [objsL, segObjs, placesOf, Chunk.zero] at ho, List.Pairwise.nil⟩
  · rw [objsL_slots]
    refine ⟨?_, slots_apart hc i⟩
    intro o ho
    rw [seg_slots hc.what] at ho
    obtain ⟨s, hs, rfl⟩ := List.mem_map.1 ho
    obtain ⟨a, b⟩ := mem_slots.1 hs
    exact slot_ok hc i s a b
  · rw [objsL_large]
    refine ⟨?_, List.pairwise_singleton _ _⟩
    intro o ho
    simp at ho; subst ho
    refine ⟨Nat.le_refl _, ?_, ⟨by simp only; omega, h2, ?_, ?_⟩⟩
    · simp only [List.length_cons, List.length_replicate]
      have : 1 ≤ many := by omega
      rw [show many - 1 + 1 = many by omega, Nat.add_mul]
      exact Nat.le_refl _
    · simp only [Int.natCast_mul]; omega
    · simp only [roomOf]
      rw [if_neg (by rw [cls_five _ h1]; omega), ← h3]
      omega

theorem InR.mono {l : List PObj} {a b a' b' : Nat} (h : InR l a b) (h1 : a' ≤ a) (h2 : b ≤ b') : InR l a' b' := fun o ho => ⟨Nat.le_trans h1 (h o ho).1, Nat.le_trans (h o ho).2.1 h2, (h o ho).2.2⟩
theorem InR.append {l m : List PObj} {a b : Nat} (h : InR l a b) (k : InR m a b) : InR (l ++ m) a b := fun o ho => by
  rcases List.mem_append.1 ho with h' | h'
  · exact h o h'
  · exact k o h'

theorem good_objs {cs : List Chunk} (h : Good cs) : ∀ i, InR (objsL i cs) (i * 1024) ((i + cs.length) * 1024) ∧ Apart (objsL i cs) := by
  obtain ⟨L, rfl, hL⟩ := h
  induction L with
  | nil => intro i; exact ⟨fun o ho => by simp [objsL] at ho, List.Pairwise.nil⟩
  | cons x L ih =>
    intro i
    obtain ⟨a, b⟩ := seg_objs (hL x (by simp)) i
    obtain ⟨a', b'⟩ := ih (fun y hy => hL y (by simp [hy])) (i + x.length)
    rw [List.flatten_cons, objsL_append, List.length_append]
    refine ⟨(a.mono (Nat.le_refl _) (Nat.mul_le_mul_right _ (by omega))).append (a'.mono (Nat.mul_le_mul_right _ (by omega)) (Nat.mul_le_mul_right _ (by omega))), ?_⟩
    rw [Apart, List.pairwise_append]
    refine ⟨b, b', fun o ho p hp => Nat.le_trans (a o ho).2.1 (a' p hp).1⟩

/-! ### A slot is taken -/
theorem testBit_or (t s j : Nat) : (t ||| 2 ^ s).testBit j = (t.testBit j || decide (s = j)) := by
  rw [Nat.testBit_or, Nat.testBit_two_pow]
theorem testBit_clear (m s j : Nat) (hs : s < 32) (hj : j < 32) : (m &&& (4294967295 - 2 ^ s)).testBit j = (m.testBit j && !decide (s = j)) := by
  have h2 : 2 ^ s < 2 ^ 32 := Nat.pow_lt_pow_right (by decide) hs
  have := Nat.testBit_two_pow_sub_succ h2 j
  rw [show 2 ^ 32 - (2 ^ s + 1) = 4294967295 - 2 ^ s by omega] at this
  rw [Nat.testBit_and, this, Nat.testBit_two_pow]
  simp [hj]

theorem range_split (s d : Nat) : List.range (s + 1 + d) = List.range s ++ s :: (List.range d).map (fun x => s + 1 + x) := by
  rw [List.range_add, List.range_succ, List.append_assoc]; rfl

theorem slot_segs {c : Chunk} (hw : c.what = 1) (hl : c.sizes.length = 32) (i s : Nat) (hs : s < 32 / 2 ^ c.cls) (hb : c.taken.testBit s = false) (size : Int) :
    ∃ X Y, segObjs c i = X ++ Y ∧ segObjs (slotC c s size) i = X ++ (⟨i * 1024 + s * (32 * 2 ^ c.cls), size, 32 * 2 ^ c.cls, false⟩ : PObj) :: Y := by
  have hs32 : s < 32 := Nat.lt_of_lt_of_le hs (Nat.div_le_self _ _)
  obtain ⟨d, hd⟩ : ∃ d, 32 / 2 ^ c.cls = s + 1 + d := ⟨32 / 2 ^ c.cls - (s + 1), by omega⟩
  have hn : s + 1 + d ≤ 32 := by rw [← hd]; exact Nat.div_le_self _ _
  have hw' : (slotC c s size).what = 1 := hw
  have hcl : (slotC c s size).cls = c.cls := rfl
  have hsame : ∀ j, j < 32 → j ≠ s → objOf (slotC c s size) i j = objOf c i j := by
    intro j hj hne
    rw [obj_slot hw', obj_slot hw]
    have e1 : (slotC c s size).sizes.getD j 0 = c.sizes.getD j 0 := by
      simp [slotC, List.getD, List.getElem?_set_ne (show s ≠ j by omega)]
    have e2 : (slotC c s size).marks.testBit j = c.marks.testBit j := by
      show (c.marks &&& (4294967295 - 2 ^ s)).testBit j = _
      rw [testBit_clear _ _ _ hs32 hj]
      have : decide (s = j) = false := by simp; omega
      simp [this]
    rw [e1, e2]; rfl
  have hnew : objOf (slotC c s size) i s = ⟨i * 1024 + s * (32 * 2 ^ c.cls), size, 32 * 2 ^ c.cls, false⟩ := by
    rw [obj_slot hw']
    have e1 : (slotC c s size).sizes.getD s 0 = size := by simp [slotC, List.getD, hl, hs32]
    have e2 : (slotC c s size).marks.testBit s = false := by
      show (c.marks &&& (4294967295 - 2 ^ s)).testBit s = _
      rw [testBit_clear _ _ _ hs32 hs32]; simp
    rw [e1, e2]; rfl
  have hf : ∀ l : List Nat, s ∉ l → l.filter (fun j => (slotC c s size).taken.testBit j) = l.filter (fun j => c.taken.testBit j) := by
    intro l hl
    apply List.filter_congr
    intro j hj
    have hne : s ≠ j := fun e => hl (e ▸ hj)
    show (c.taken ||| 2 ^ s).testBit j = _
    rw [testBit_or]; simp [hne]
  refine ⟨((List.range s).filter fun j => c.taken.testBit j).map (objOf c i), (((List.range d).map fun x => s + 1 + x).filter fun j => c.taken.testBit j).map (objOf c i), ?_, ?_⟩
  · rw [seg_slots hw, slotsOf, hd, range_split, List.filter_append, List.filter_cons, hb]
    simp
  · rw [seg_slots hw', slotsOf, hcl, hd, range_split, List.filter_append, List.filter_cons]
    have hbs : (slotC c s size).taken.testBit s = true := by
      show (c.taken ||| 2 ^ s).testBit s = _
      rw [testBit_or]; simp
    rw [hbs, if_pos rfl, hf _ (by simp), hf _ (by simp; omega), List.map_append, List.map_cons, hnew]
    congr 1
    · apply List.map_congr_left
      intro j hj
      have := (List.mem_filter.1 hj).1
      simp at this
      exact hsame j (by omega) (by omega)
    · congr 1
      apply List.map_congr_left
      intro j hj
      have := (List.mem_filter.1 hj).1
      simp at this
      obtain ⟨x, hx, rfl⟩ := this
      exact hsame _ (by omega) (by omega)

theorem set_split (cs : List Chunk) (i : Nat) (d : Chunk) (hi : i < cs.length) : cs.set i d = cs.take i ++ d :: cs.drop (i + 1) := by
  rw [List.set_eq_take_append_cons_drop, if_pos hi]

theorem slotC_ok {c : Chunk} (hw : c.what = 1) (hl : c.sizes.length = 32) (hc : c.cls ≤ 4) (ht : c.taken < 2 ^ (32 / 2 ^ c.cls)) (hm : c.marks < 4294967296) (hmany : c.many = 0)
    (hz : ∀ s, c.taken.testBit s = true → 1 ≤ c.sizes.getD s 0 ∧ c.sizes.getD s 0 ≤ 512 ∧ Pl.cls (c.sizes.getD s 0) = c.cls)
    {s : Nat} (hs : s < 32 / 2 ^ c.cls) {size : Int} (h1 : 1 ≤ size) (h2 : Pl.cls size = c.cls) : SlotsOk (slotC c s size) := by
  have hs32 : s < 32 := Nat.lt_of_lt_of_le hs (Nat.div_le_self _ _)
  have h512 : size ≤ 512 := by
    have := cls_fit size (by omega)
    rw [h2] at this
    have hp : (2 : Int) ^ c.cls ≤ 2 ^ 4 := by
      have : (2 : Nat) ^ c.cls ≤ 2 ^ 4 := Nat.pow_le_pow_right (by decide) hc
      have h' : ((2 ^ c.cls : Nat) : Int) ≤ ((2 ^ 4 : Nat) : Int) := Int.ofNat_le.2 this
      simpa using h'
    omega
  refine ⟨hw, by simp [slotC, hl], hc, Nat.or_lt_two_pow ht (Nat.pow_lt_pow_right (by decide) hs), ?_, ?_, hmany, ?_⟩
  · show c.taken ||| 2 ^ s ≠ 0
    intro e
    have : (c.taken ||| 2 ^ s).testBit s = true := by rw [testBit_or]; simp
    rw [e] at this; simp at this
  · show c.marks &&& _ < _
    have := Nat.and_le_left (n := c.marks) (m := 4294967295 - 2 ^ s)
    omega
  · intro j hj
    have hj' : (c.taken ||| 2 ^ s).testBit j = true := hj
    rw [testBit_or] at hj'
    by_cases e : s = j
    · subst e
      have e1 : (slotC c s size).sizes.getD s 0 = size := by simp [slotC, List.getD, hl, hs32]
      rw [e1]; exact ⟨h1, h512, h2⟩
    · simp [e] at hj'
      have e1 : (slotC c s size).sizes.getD j 0 = c.sizes.getD j 0 := by
        simp [slotC, List.getD, List.getElem?_set_ne e]
      rw [e1]; exact hz j hj'

/-- One object more. -/
def Put (l m : List PObj) (o : PObj) : Prop := ∃ A B, l = A ++ B ∧ m = A ++ o :: B

theorem slot_old {cs : List Chunk} (h : Good cs) {i : Nat} {c : Chunk} (hi : cs[i]? = some c) {k : Nat} (hr : room c k = true) {size : Int} (h1 : 1 ≤ size) (hk : cls size = k) :
    Good (cs.set i (slotC c (low0 c.taken) size)) ∧ Put (objs cs) (objs (cs.set i (slotC c (low0 c.taken) size))) ⟨i * 1024 + low0 c.taken * (32 * 2 ^ k), size, 32 * 2 ^ k, false⟩ := by
  simp only [room, Bool.and_eq_true, beq_iff_eq, Bool.not_eq_true', beq_eq_false_iff_ne] at hr
  obtain ⟨hw, hck, hne⟩ := hr
  obtain ⟨g1, g2, e⟩ := h.at_ hi (by omega)
  have hlt := (List.getElem?_eq_some_iff.1 hi).1
  have hso : SlotsOk c ∧ Good (cs.drop (i + 1)) := by
    rcases g2.cons with ⟨rfl, _⟩ | h | ⟨size, many, m, zs, _, _, _, rfl, _⟩
    · simp [Chunk.zero] at hw
    · exact h
    · simp [headM, headC] at hw
  obtain ⟨hso, g3⟩ := hso
  rw [← hck] at hne
  have hlow := low0_lt (Nat.div_le_self 32 (2 ^ c.cls)) hso.taken hne
  have hbit := (low0_bits (taken_lt hso.taken) (by
    intro e; rw [e] at hlow
    have : low0 4294967295 = 32 := by decide
    rw [this] at hlow
    exact absurd hlow (by have := Nat.div_le_self 32 (2 ^ c.cls); omega))).2.1
  rw [set_split cs i _ hlt]
  refine ⟨g1.append (Good.append (Good.seg (.inr (.inl ⟨_, rfl, slotC_ok hso.what hso.sizes hso.cls hso.taken hso.marks hso.many hso.szs hlow h1 (by rw [hk, hck])⟩))) g3 : Good ([_] ++ _)), ?_⟩
  obtain ⟨X, Y, eX, eY⟩ := slot_segs hso.what hso.sizes i _ hlow hbit size
  have hl : (cs.take i).length = i := by simp; omega
  refine ⟨objsL 0 (cs.take i) ++ X, Y ++ objsL (i + 1) (cs.drop (i + 1)), ?_, ?_⟩
  · rw [objs_eq]
    conv => lhs; rw [e]
    rw [objsL_append, objsL, hl, Nat.zero_add, eX]; simp
  · rw [objs_eq, objsL_append, objsL, hl, Nat.zero_add, eY, hck]; simp

theorem slot_new {cs : List Chunk} (h : Good cs) {i : Nat} (hi : cs[i]? = some Chunk.zero) {k : Nat} (hk4 : k ≤ 4) {size : Int} (h1 : 1 ≤ size) (hk : cls size = k) :
    Good (cs.set i (slotC (newC k) 0 size)) ∧ Put (objs cs) (objs (cs.set i (slotC (newC k) 0 size))) ⟨i * 1024, size, 32 * 2 ^ k, false⟩ := by
  obtain ⟨g1, g2, e⟩ := h.at_ hi (by decide)
  have hlt := (List.getElem?_eq_some_iff.1 hi).1
  have g3 : Good (cs.drop (i + 1)) := by
    rcases g2.cons with ⟨_, h⟩ | ⟨h, _⟩ | ⟨size, many, m, zs, _, _, _, hz, _⟩
    · exact h
    · exact absurd h.what (by decide)
    · exact absurd (congrArg Chunk.what hz) (by simp [Chunk.zero, headM, headC])
  have hper : 0 < 32 / 2 ^ (newC k).cls := by
    show 0 < 32 / 2 ^ k
    obtain rfl | rfl | rfl | rfl | rfl : k = 0 ∨ k = 1 ∨ k = 2 ∨ k = 3 ∨ k = 4 := by omega
    all_goals decide
  rw [set_split cs i _ hlt]
  refine ⟨g1.append (Good.append (Good.seg (.inr (.inl ⟨_, rfl, slotC_ok (c := newC k) rfl rfl hk4 (Nat.pos_of_ne_zero (by simp)) (by show (0 : Nat) < 4294967296; decide) rfl (fun s hs => by simp [newC, Chunk.zero] at hs) hper h1 hk⟩))) g3 : Good ([_] ++ _)), ?_⟩
  obtain ⟨X, Y, eX, eY⟩ := slot_segs (c := newC k) rfl rfl i 0 hper (by simp [newC, Chunk.zero]) size
  have hl : (cs.take i).length = i := by simp; omega
  have e0 : segObjs (newC k) i = [] := by simp [segObjs, placesOf, newC, slotsOf, Chunk.zero]
  have ez : segObjs Chunk.zero i = [] := by simp [segObjs, placesOf, Chunk.zero]
  rw [e0] at eX
  obtain ⟨rfl, rfl⟩ := List.append_eq_nil_iff.1 eX.symm
  refine ⟨objsL 0 (cs.take i), objsL (i + 1) (cs.drop (i + 1)), ?_, ?_⟩
  · rw [objs_eq]
    conv => lhs; rw [e]
    rw [objsL_append, objsL, hl, Nat.zero_add, ez]; simp
  · rw [objs_eq, objsL_append, objsL, hl, Nat.zero_add, eY]
    simp [newC]

theorem tails_get (cs : List Chunk) (i : Nat) : ∀ k j, i + k ≤ cs.length → (tails cs i k)[j]? = if i ≤ j ∧ j < i + k then some tailC else cs[j]? := by
  intro k
  induction k with
  | zero => intro j _; rw [if_neg (by omega)]; rfl
  | succ k ih =>
    intro j hk
    rw [tails, List.getElem?_set]
    by_cases e : i + k = j
    · subst e
      rw [if_pos rfl, if_pos (by rw [tails_length]; omega), if_pos (by omega)]
    · rw [if_neg e, ih j (by omega)]
      by_cases h : i ≤ j ∧ j < i + k
      · rw [if_pos h, if_pos (by omega)]
      · rw [if_neg h, if_neg (by omega)]

theorem large_split (cs : List Chunk) (i many : Nat) (hm : 1 ≤ many) (h : i + many ≤ cs.length) (size : Int) :
    largeAt cs i many size = cs.take i ++ (headM size many false :: List.replicate (many - 1) tailC) ++ cs.drop (i + many) := by
  apply List.ext_getElem?
  intro j
  rw [largeAt, List.getElem?_set, tails_length, List.append_assoc]
  by_cases e : i = j
  · subst e
    rw [if_pos rfl, if_pos (by omega), List.getElem?_append_right (by simp; omega)]
    simp [Nat.min_eq_left (show i ≤ cs.length by omega)]
    rfl
  · rw [if_neg e, tails_get cs i many j h]
    by_cases h1 : j < i
    · rw [if_neg (by omega), List.getElem?_append_left (by simp; omega), List.getElem?_take_of_lt h1]
    · rw [List.getElem?_append_right (by simp; omega)]
      have hl : (cs.take i).length = i := by simp; omega
      rw [hl]
      by_cases h2 : j < i + many
      · rw [if_pos (by omega), List.getElem?_append_left (by simp; omega), show j - i = (j - i - 1) + 1 by omega, List.getElem?_cons_succ, List.getElem?_replicate, if_pos (by omega)]
      · rw [if_neg (by omega), List.getElem?_append_right (by simp; omega), List.getElem?_drop]
        congr 1
        simp; omega

theorem zeros_of {cs : List Chunk} (h : Good cs) {i many : Nat} (hf : freeRun cs i many = true) (hi : i + many ≤ cs.length) : cs = cs.take i ++ List.replicate many Chunk.zero ++ cs.drop (i + many) := by
  have e : (cs.drop i).take many = List.replicate many Chunk.zero := by
    apply List.ext_getElem?
    intro j
    by_cases hj : j < many
    · obtain ⟨c, hc, hw⟩ := freeRun_true hf j hj hi
      rw [List.getElem?_take_of_lt hj, List.getElem?_drop, hc, List.getElem?_replicate, if_pos hj]
      rcases h.mem c (List.mem_of_getElem? hc) with rfl | h | ⟨_, _, _, _, _, _, rfl⟩ | rfl
      · rfl
      · exact absurd hw (by rw [h.what]; decide)
      · exact absurd hw (by simp [headM, headC])
      · exact absurd hw (by simp [tailC])
    · rw [List.getElem?_eq_none (by simp; omega), List.getElem?_eq_none (by simp; omega)]
  rw [← e, List.append_assoc, ← List.drop_drop, List.take_append_drop, List.take_append_drop]

theorem large_new {cs : List Chunk} (h : Good cs) {i many : Nat} (hf : freeRun cs i many = true) (hi : i + many ≤ cs.length) {size : Int} (h1 : 512 < size) (h2 : size ≤ 262144) (hm : ((many : Nat) : Int) = (size + 1023) / 1024) :
    Good (largeAt cs i many size) ∧ Put (objs cs) (objs (largeAt cs i many size)) ⟨i * 1024, size, many * 1024, false⟩ := by
  have hm1 : 1 ≤ many := by omega
  have e := zeros_of h hf hi
  have hz : Good (cs.take i) ∧ Good (List.replicate many Chunk.zero ++ cs.drop (i + many)) := by
    refine Good.split (by rw [← List.append_assoc, ← e]; exact h) ?_
    intro c hc
    rw [show many = (many - 1) + 1 by omega, List.replicate_succ] at hc
    simp at hc; rw [← hc]; decide
  have hd : Good (cs.drop (i + many)) := by
    have : ∀ n, Good (List.replicate n Chunk.zero ++ cs.drop (i + many)) → Good (cs.drop (i + many)) := by
      intro n
      induction n with
      | zero => intro h; exact h
      | succ n ih =>
        intro h
        rw [List.replicate_succ, List.cons_append] at h
        rcases h.cons with ⟨_, h⟩ | ⟨h, _⟩ | ⟨size, many, m, zs, _, _, _, hz, _⟩
        · exact ih h
        · exact absurd h.what (by decide)
        · exact absurd (congrArg Chunk.what hz) (by simp [Chunk.zero, headM, headC])
    exact this many hz.2
  rw [large_split cs i many hm1 hi size]
  refine ⟨(hz.1.append (Good.seg (.inr (.inr ⟨size, many, false, h1, h2, hm, rfl⟩)))).append hd, ?_⟩
  have hl : (cs.take i).length = i := by simp; omega
  refine ⟨objsL 0 (cs.take i), objsL (i + many) (cs.drop (i + many)), ?_, ?_⟩
  · rw [objs_eq]
    conv => lhs; rw [e]
    rw [objsL_append, objsL_append, objsL_zeros, List.length_append, hl]; simp
  · rw [objs_eq, objsL_append, objsL_append, hl, objsL_large]
    simp
    congr 1; omega
end Go.Proofs.YtdgfnlagbdmniaaDoor.Pl
