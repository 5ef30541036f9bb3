/- The pool, plainly: what its chunks are made of, and its objects in their order. -/
import Derived.Test.YtdgfnlagbdmniaaDoorPj
namespace Go.Proofs.YtdgfnlagbdmniaaDoor.Pl

def segObjs (c : Chunk) (i : Nat) : List PObj := (placesOf c i).map fun p => objOf c p.1 p.2
def objsL : Nat → List Chunk → List PObj
  | _, [] => []
  | i, c :: cs => segObjs c i ++ objsL (i + 1) cs

theorem objsL_append (xs ys : List Chunk) : ∀ i, objsL i (xs ++ ys) = objsL i xs ++ objsL (i + xs.length) ys := by
  induction xs with
  | nil => intro i; simp [objsL]
  | cons c xs ih => intro i; simp [objsL, ih, Nat.add_assoc, Nat.add_comm 1]

theorem placesOf_fst (c : Chunk) (i : Nat) : ∀ p ∈ placesOf c i, p.1 = i := by
  intro p hp
  unfold placesOf at hp
  split at hp
  · simp at hp; rw [hp]
  · split at hp
    · simp at hp; obtain ⟨s, _, rfl⟩ := hp; rfl
    · simp at hp
theorem objs_to (cs : List Chunk) (n : Nat) (hn : n ≤ cs.length) : ((placesTo cs n).map fun p => objOf (cs.getD p.1 Chunk.zero) p.1 p.2) = objsL 0 (cs.take n) := by
  induction n with
  | zero => simp [placesTo, objsL]
  | succ n ih =>
    rw [placesTo_succ, List.map_append, ih (by omega), List.take_succ_eq_append_getElem (by omega), objsL_append]
    congr 1
    have e : cs.getD n Chunk.zero = cs[n] := by simp [List.getD, List.getElem?_eq_getElem (show n < cs.length by omega)]
    rw [e]
    simp only [objsL, List.append_nil, segObjs, List.length_take, Nat.zero_add, Nat.min_eq_left (show n ≤ cs.length by omega)]
    apply List.map_congr_left
    intro p hp
    rw [placesOf_fst _ _ p hp, e]
theorem objs_eq (cs : List Chunk) : objs cs = objsL 0 cs := by
  have := objs_to cs cs.length (Nat.le_refl _)
  rwa [List.take_length] at this

/-- A chunk with slots. -/
structure SlotsOk (c : Chunk) : Prop where
  what : c.what = 1
  sizes : c.sizes.length = 32
  cls : c.cls ≤ 4
  taken : c.taken < 2 ^ (32 / 2 ^ c.cls)
  pos : c.taken ≠ 0
  marks : c.marks < 4294967296
  many : c.many = 0
  szs : ∀ s, c.taken.testBit s = true → 1 ≤ c.sizes.getD s 0 ∧ c.sizes.getD s 0 ≤ 512 ∧ Pl.cls (c.sizes.getD s 0) = c.cls

def headM (size : Int) (many : Nat) (m : Bool) : Chunk := { headC size many with marked := m }

/-- A part of a pool: a free chunk, a chunk with slots, or the chunks of a large object. -/
def IsSeg (x : List Chunk) : Prop :=
  x = [Chunk.zero] ∨ (∃ c, x = [c] ∧ SlotsOk c) ∨
  ∃ size many m, 512 < size ∧ size ≤ 262144 ∧ ((many : Nat) : Int) = (size + 1023) / 1024 ∧ x = headM size many m :: List.replicate (many - 1) tailC

def Good (cs : List Chunk) : Prop := ∃ L : List (List Chunk), cs = L.flatten ∧ ∀ x ∈ L, IsSeg x

theorem IsSeg.ne {x : List Chunk} (h : IsSeg x) : x ≠ [] := by
  rcases h with rfl | ⟨c, rfl, _⟩ | ⟨_, _, _, _, _, _, rfl⟩ <;> simp
theorem Good.nil : Good [] := ⟨[], rfl, by simp⟩
theorem Good.append {xs ys : List Chunk} (h : Good xs) (k : Good ys) : Good (xs ++ ys) := by
  obtain ⟨L, rfl, hL⟩ := h
  obtain ⟨M, rfl, hM⟩ := k
  exact ⟨L ++ M, by simp, fun x hx => by rcases List.mem_append.1 hx with h | h; exact hL x h; exact hM x h⟩
theorem Good.seg {x : List Chunk} (h : IsSeg x) : Good x := ⟨[x], by simp, by simpa using h⟩

theorem IsSeg.tail {x : List Chunk} (h : IsSeg x) {a b : List Chunk} (e : x = a ++ b) (ha : a ≠ []) : ∀ c ∈ b, c.what = 3 := by
  intro c hc
  rcases h with rfl | ⟨d, rfl, _⟩ | ⟨size, many, m, _, _, _, rfl⟩
  · cases a with
    | nil => exact absurd rfl ha
    | cons y a => simp at e; obtain ⟨rfl, rfl, rfl⟩ := e; simp at hc
  · cases a with
    | nil => exact absurd rfl ha
    | cons y a => simp at e; obtain ⟨rfl, rfl, rfl⟩ := e; simp at hc
  · cases a with
    | nil => exact absurd rfl ha
    | cons y a =>
      simp only [List.cons_append, List.cons.injEq] at e
      have : c ∈ List.replicate (many - 1) tailC := by rw [e.2]; simp [hc]
      rw [List.eq_of_mem_replicate this]; rfl

theorem Good.split {xs ys : List Chunk} (h : Good (xs ++ ys)) (hy : ∀ c, ys.head? = some c → c.what ≠ 3) : Good xs ∧ Good ys := by
  obtain ⟨L, e, hL⟩ := h
  induction L generalizing xs with
  | nil =>
    simp at e
    obtain ⟨rfl, rfl⟩ := e
    exact ⟨Good.nil, Good.nil⟩
  | cons x L ih =>
    by_cases hx : xs = []
    · subst hx
      exact ⟨Good.nil, x :: L, by simpa using e, hL⟩
    · rw [List.flatten_cons, List.append_eq_append_iff] at e
      rcases e with ⟨t, e1, e2⟩ | ⟨t, e1, e2⟩
      · -- x = xs ++ t
        cases t with
        | nil =>
          simp at e1 e2
          subst e1
          exact ⟨Good.seg (hL x (by simp)), L, e2, fun z hz => hL z (by simp [hz])⟩
        | cons c t =>
          exfalso
          have h3 := (hL x (by simp)).tail e1 hx c (by simp)
          exact hy c (by rw [e2]; rfl) h3
      · obtain ⟨h1, h2⟩ := ih (xs := t) e2.symm (fun z hz => hL z (by simp [hz]))
        rw [e1]
        exact ⟨(Good.seg (hL x (by simp))).append h1, h2⟩

theorem Good.cons {c : Chunk} {ys : List Chunk} (h : Good (c :: ys)) :
    (c = Chunk.zero ∧ Good ys) ∨ (SlotsOk c ∧ Good ys) ∨
    ∃ size many m zs, 512 < size ∧ size ≤ 262144 ∧ ((many : Nat) : Int) = (size + 1023) / 1024 ∧ c = headM size many m ∧ ys = List.replicate (many - 1) tailC ++ zs ∧ Good zs := by
  obtain ⟨L, e, hL⟩ := h
  cases L with
  | nil => simp at e
  | cons x L =>
    have hG : Good L.flatten := ⟨L, rfl, fun z hz => hL z (by simp [hz])⟩
    rw [List.flatten_cons] at e
    rcases hL x (by simp) with rfl | ⟨d, rfl, hd⟩ | ⟨size, many, m, h1, h2, h3, rfl⟩
    · simp at e; obtain ⟨rfl, rfl⟩ := e; exact .inl ⟨rfl, hG⟩
    · simp at e; obtain ⟨rfl, rfl⟩ := e; exact .inr (.inl ⟨hd, hG⟩)
    · simp at e; obtain ⟨rfl, rfl⟩ := e; exact .inr (.inr ⟨size, many, m, _, h1, h2, h3, rfl, rfl, hG⟩)

theorem Good.at_ {cs : List Chunk} (h : Good cs) {i : Nat} {c : Chunk} (hi : cs[i]? = some c) (h3 : c.what ≠ 3) : Good (cs.take i) ∧ Good (c :: cs.drop (i + 1)) ∧ cs = cs.take i ++ c :: cs.drop (i + 1) := by
  have hlt := (List.getElem?_eq_some_iff.1 hi).1
  have he := (List.getElem?_eq_some_iff.1 hi).2
  have e : cs.drop i = c :: cs.drop (i + 1) := by rw [List.drop_eq_getElem_cons hlt, he]
  have ec : cs = cs.take i ++ c :: cs.drop (i + 1) := by rw [← e, List.take_append_drop]
  have := Good.split (xs := cs.take i) (ys := c :: cs.drop (i + 1)) (by rw [← ec]; exact h) (by intro d hd; simp at hd; rw [← hd]; exact h3)
  exact ⟨this.1, this.2, ec⟩

/-- Each chunk is one of four. -/
theorem Good.mem {cs : List Chunk} (h : Good cs) : ∀ c ∈ cs, c = Chunk.zero ∨ SlotsOk c ∨ (∃ size many m, 512 < size ∧ size ≤ 262144 ∧ ((many : Nat) : Int) = (size + 1023) / 1024 ∧ c = headM size many m) ∨ c = tailC := by
  obtain ⟨L, rfl, hL⟩ := h
  intro c hc
  obtain ⟨x, hx, hcx⟩ := List.mem_flatten.1 hc
  rcases hL x hx with rfl | ⟨d, rfl, hd⟩ | ⟨size, many, m, h1, h2, h3, rfl⟩
  · simp at hcx; exact .inl hcx
  · simp at hcx; subst hcx; exact .inr (.inl hd)
  · simp only [List.mem_cons] at hcx
    rcases hcx with rfl | hcx
    · exact .inr (.inr (.inl ⟨size, many, m, h1, h2, h3, rfl⟩))
    · exact .inr (.inr (.inr (List.eq_of_mem_replicate hcx)))

theorem Good.wf {cs : List Chunk} (h : Good cs) : ∀ c ∈ cs, Wf c := by
  intro c hc
  rcases h.mem c hc with rfl | h | ⟨size, many, m, _, _, _, rfl⟩ | rfl
  · exact Wf.zero
  · exact ⟨h.sizes, h.cls, h.taken, h.marks⟩
  · exact ⟨rfl, Nat.zero_le 4, (by show 0 < 2 ^ (32 / 2 ^ 0); decide), (by show (0 : Nat) < 4294967296; decide)⟩
  · exact ⟨rfl, by decide, by decide, by decide⟩
theorem Good.rd {cs : List Chunk} (h : Good cs) : ∀ c ∈ cs, Rd c := by
  intro c hc
  rcases h.mem c hc with rfl | h | ⟨size, many, m, _, _, _, rfl⟩ | rfl
  · exact ⟨by decide, by decide, by decide, by decide⟩
  · exact ⟨h.cls, h.marks, by rw [h.many]; decide, taken_lt h.taken⟩
  · exact ⟨Nat.zero_le 4, (by show (0 : Nat) < 4294967296; decide), by show many ≤ 256; omega, (by show (0 : Nat) < 4294967296; decide)⟩
  · exact ⟨by decide, by decide, by decide, by decide⟩
theorem Good.what {cs : List Chunk} (h : Good cs) : ∀ c ∈ cs, c.what ≤ 3 ∧ c.cls ≤ 4 := by
  intro c hc
  rcases h.mem c hc with rfl | h | ⟨size, many, m, _, _, _, rfl⟩ | rfl
  · exact ⟨by decide, by decide⟩
  · exact ⟨by rw [h.what]; decide, h.cls⟩
  · exact ⟨(by show (2 : Nat) ≤ 3; decide), Nat.zero_le 4⟩
  · exact ⟨by decide, by decide⟩

theorem Good.zeros (n : Nat) : Good (List.replicate n Chunk.zero) :=
  ⟨List.replicate n [Chunk.zero], by simp, fun x hx => by rw [List.eq_of_mem_replicate hx]; exact .inl rfl⟩
end Go.Proofs.YtdgfnlagbdmniaaDoor.Pl
