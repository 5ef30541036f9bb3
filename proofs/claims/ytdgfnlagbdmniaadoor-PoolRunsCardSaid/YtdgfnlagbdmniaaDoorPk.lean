/- The plain model of a pool's chunks and how it lies in memory. -/
import Derived.Test.YtdgfnlagbdmniaaDoorRows
import Derived.WalkKit
import Derived.WalkSpells
import Derived.WalkLawsBesides
import Derived.BigQuiet
import Derived.RegionTactic
import Derived.BigRegion
import Derived.ChangeAlike
import Derived.Lib.TrailingZeros
import Derived.Lib.Hide
namespace Go.Proofs.YtdgfnlagbdmniaaDoor.Pl
open Go.RowKit

structure Chunk where
  what : Nat
  cls : Nat
  taken : Nat
  marks : Nat
  sizes : List Int
  size : Int
  many : Nat
  marked : Bool

def Chunk.zero : Chunk := ⟨0, 0, 0, 0, List.replicate 32 0, 0, 0, false⟩

def Chunk.vals (c : Chunk) : List Value :=
  [.int .i64 c.what, .int .i64 c.cls, .int .u32 c.taken, .int .u32 c.marks] ++ c.sizes.map (Value.int .i64) ++ [.int .i64 c.size, .int .i64 c.many, .bool c.marked]

def flat (cs : List Chunk) : List Value := cs.flatMap Chunk.vals

theorem Chunk.vals_length (c : Chunk) (h : c.sizes.length = 32) : c.vals.length = 39 := by simp [Chunk.vals, h]

theorem flat_cons (c : Chunk) (cs : List Chunk) : flat (c :: cs) = c.vals ++ flat cs := rfl

theorem flat_length (cs : List Chunk) (h : ∀ c ∈ cs, c.sizes.length = 32) : (flat cs).length = cs.length * 39 := by
  induction cs with
  | nil => rfl
  | cons c cs ih =>
    rw [flat_cons, List.length_append, c.vals_length (h c (by simp)), ih fun d hd => h d (by simp [hd])]
    simp [Nat.add_mul]; omega

/-- A cell of a chunk. -/
theorem flat_get (cs : List Chunk) (h : ∀ c ∈ cs, c.sizes.length = 32) (i k : Nat) (c : Chunk) (hi : cs[i]? = some c) (hk : k < 39) :
    (flat cs)[i * 39 + k]? = c.vals[k]? := by
  induction cs generalizing i with
  | nil => simp at hi
  | cons d ds ih =>
    have hd := d.vals_length (h d (by simp))
    rw [flat_cons]
    cases i with
    | zero =>
      simp at hi; subst hi
      rw [List.getElem?_append_left (by omega)]; simp
    | succ i =>
      simp at hi
      rw [List.getElem?_append_right (by omega), hd, show (i + 1) * 39 + k - 39 = i * 39 + k by omega]
      exact ih (fun e he => h e (by simp [he])) i hi

/-- A cell of a chunk, written. -/
theorem flat_set (cs : List Chunk) (h : ∀ c ∈ cs, c.sizes.length = 32) (i k : Nat) (c d : Chunk) (hi : cs[i]? = some c) (hk : k < 39) (v : Value) (hd : d.vals = c.vals.set k v) :
    (flat cs).set (i * 39 + k) v = flat (cs.set i d) := by
  induction cs generalizing i with
  | nil => simp at hi
  | cons e es ih =>
    have he := e.vals_length (h e (by simp))
    rw [flat_cons]
    cases i with
    | zero =>
      simp at hi; subst hi
      rw [List.set_append_left _ _ (by omega)]
      simp [flat_cons, hd]
    | succ i =>
      simp at hi
      rw [List.set_append_right _ _ (by omega), he, show (i + 1) * 39 + k - 39 = i * 39 + k by omega, ih (fun e he => h e (by simp [he])) i hi]
      rfl

/-- A pool in memory: its struct in block a, its chunks in block b. -/
structure At (w : World) (a b : Nat) (cs : List Chunk) : Prop where
  head : w.heap[a]? = some (.cells #[.slice (some ⟨b, 0, none⟩) cs.length cs.length] 68 (0, 0))
  body : w.heap[b]? = some (.cells (flat cs).toArray 73 (0, 0))
  ne : a ≠ b
  ok : ∀ c ∈ cs, c.sizes.length = 32
  few : cs.length ≤ 256

theorem cell_blk {w : World} {b : Nat} {C : Array Value} {t : TypeId} {f : Nat × Nat} (h : w.heap[b]? = some (.cells C t f)) (o : Nat) : w.cell? ⟨b, o, none⟩ = C[o]? := by
  simp [World.cell?, h]
theorem frozen_blk {w : World} {b : Nat} {C : Array Value} {t : TypeId} (h : w.heap[b]? = some (.cells C t (0, 0))) (o : Nat) : w.frozen? ⟨b, o, none⟩ = false := by
  simp [World.frozen?, h]
theorem blk_set {w : World} {b : Nat} {C : Array Value} {t : TypeId} {f : Nat × Nat} (h : w.heap[b]? = some (.cells C t f)) (o : Nat) (v : Value) : (w.setCell ⟨b, o, none⟩ v).heap[b]? = some (.cells (C.setIfInBounds o v) t f) := by
  simp [World.setCell, Array.getElem?_modify, h]
theorem blk_set_ne {w : World} {b : Nat} {x : Option Obj} (h : w.heap[b]? = x) (p : Addr) (hp : b ≠ p.block) (v : Value) : (w.setCell p v).heap[b]? = x := by
  rw [Below.heap_setCell _ _ _ _ hp]; exact h
theorem blk_drew {w : World} {b : Nat} {x : Option Obj} (h : w.heap[b]? = x) : w.drew.heap[b]? = x := h

theorem At.cell_p {w : World} {a b : Nat} {cs : List Chunk} (h : At w a b cs) : w.cell? ⟨a, 0, none⟩ = some (.slice (some ⟨b, 0, none⟩) cs.length cs.length) := by
  rw [cell_blk h.head]; rfl
theorem At.frozen {w : World} {a b : Nat} {cs : List Chunk} (h : At w a b cs) (o : Nat) : w.frozen? ⟨b, o, none⟩ = false := frozen_blk h.body o
theorem At.cell {w : World} {a b : Nat} {cs : List Chunk} (h : At w a b cs) {i k : Nat} {c : Chunk} (hi : cs[i]? = some c) (hk : k < 39) : w.cell? ⟨b, i * 39 + k, none⟩ = c.vals[k]? := by
  rw [cell_blk h.body, List.getElem?_toArray, flat_get cs h.ok i k c hi hk]
theorem At.what {w : World} {a b : Nat} {cs : List Chunk} (h : At w a b cs) {i : Nat} {c : Chunk} (hi : cs[i]? = some c) : w.cell? ⟨b, i * 39, none⟩ = some (.int .i64 c.what) := (h.cell hi (k := 0) (by decide)).trans rfl
theorem At.cls {w : World} {a b : Nat} {cs : List Chunk} (h : At w a b cs) {i : Nat} {c : Chunk} (hi : cs[i]? = some c) : w.cell? ⟨b, i * 39 + 1, none⟩ = some (.int .i64 c.cls) := h.cell hi (k := 1) (by omega)
theorem At.taken {w : World} {a b : Nat} {cs : List Chunk} (h : At w a b cs) {i : Nat} {c : Chunk} (hi : cs[i]? = some c) : w.cell? ⟨b, i * 39 + 2, none⟩ = some (.int .u32 c.taken) := h.cell hi (k := 2) (by omega)
theorem At.marks {w : World} {a b : Nat} {cs : List Chunk} (h : At w a b cs) {i : Nat} {c : Chunk} (hi : cs[i]? = some c) : w.cell? ⟨b, i * 39 + 3, none⟩ = some (.int .u32 c.marks) := h.cell hi (k := 3) (by omega)
theorem At.sizes {w : World} {a b : Nat} {cs : List Chunk} (h : At w a b cs) {i s : Nat} {c : Chunk} (hi : cs[i]? = some c) (hs : s < 32) : w.cell? ⟨b, i * 39 + 4 + s, none⟩ = some (.int .i64 (c.sizes.getD s 0)) := by
  have hl := h.ok c (List.mem_of_getElem? hi)
  rw [Nat.add_assoc, h.cell hi (k := 4 + s) (by omega)]
  simp only [Chunk.vals]
  rw [List.append_assoc, List.getElem?_append_right (by simp), List.getElem?_append_left (by simp; omega)]
  simp [show 4 + s - 4 = s by omega, List.getElem?_eq_getElem (show s < c.sizes.length by omega)]
theorem At.size {w : World} {a b : Nat} {cs : List Chunk} (h : At w a b cs) {i : Nat} {c : Chunk} (hi : cs[i]? = some c) : w.cell? ⟨b, i * 39 + 36, none⟩ = some (.int .i64 c.size) := by
  have hl := h.ok c (List.mem_of_getElem? hi)
  rw [h.cell hi (k := 36) (by omega)]
  simp [Chunk.vals, hl]
theorem At.many {w : World} {a b : Nat} {cs : List Chunk} (h : At w a b cs) {i : Nat} {c : Chunk} (hi : cs[i]? = some c) : w.cell? ⟨b, i * 39 + 37, none⟩ = some (.int .i64 c.many) := by
  have hl := h.ok c (List.mem_of_getElem? hi)
  rw [h.cell hi (k := 37) (by omega)]
  simp [Chunk.vals, hl]
theorem At.marked {w : World} {a b : Nat} {cs : List Chunk} (h : At w a b cs) {i : Nat} {c : Chunk} (hi : cs[i]? = some c) : w.cell? ⟨b, i * 39 + 38, none⟩ = some (.bool c.marked) := by
  have hl := h.ok c (List.mem_of_getElem? hi)
  rw [h.cell hi (k := 38) (by omega)]
  simp [Chunk.vals, hl]

theorem At.drew {w : World} {a b : Nat} {cs : List Chunk} (h : At w a b cs) : At w.drew a b cs := ⟨h.head, h.body, h.ne, h.ok, h.few⟩
theorem At.alloc {w : World} {a b : Nat} {cs : List Chunk} (h : At w a b cs) (o : Obj) : At (w.alloc o) a b cs := by
  have ha : a < w.heap.size := by have := h.head; exact (Array.getElem?_eq_some_iff.1 this).1
  have hb : b < w.heap.size := by have := h.body; exact (Array.getElem?_eq_some_iff.1 this).1
  exact ⟨by rw [Below.heap_alloc _ _ _ ha]; exact h.head, by rw [Below.heap_alloc _ _ _ hb]; exact h.body, h.ne, h.ok, h.few⟩
theorem At.lt_a {w : World} {a b : Nat} {cs : List Chunk} (h : At w a b cs) : a < w.heap.size := (Array.getElem?_eq_some_iff.1 h.head).1
theorem At.lt_b {w : World} {a b : Nat} {cs : List Chunk} (h : At w a b cs) : b < w.heap.size := (Array.getElem?_eq_some_iff.1 h.body).1
theorem At.below {w w' : World} {a b B : Nat} {cs : List Chunk} (h : At w a b cs) (hb : Below B w w') (h1 : a < B) (h2 : b < B) : At w' a b cs :=
  ⟨(hb.block a h1).trans h.head, (hb.block b h2).trans h.body, h.ne, h.ok, h.few⟩
theorem At.same {w w' : World} {a b : Nat} {cs : List Chunk} (h : At w a b cs) (h1 : w'.heap[a]? = w.heap[a]?) (h2 : w'.heap[b]? = w.heap[b]?) : At w' a b cs :=
  ⟨h1.trans h.head, h2.trans h.body, h.ne, h.ok, h.few⟩
/-- A cell of a chunk is written. -/
theorem At.setCell {w : World} {a b : Nat} {cs : List Chunk} (h : At w a b cs) {i k : Nat} {c d : Chunk} (hi : cs[i]? = some c) (hk : k < 39) (v : Value) (hd : d.vals = c.vals.set k v) (hl : d.sizes.length = 32) :
    At (w.setCell ⟨b, i * 39 + k, none⟩ v) a b (cs.set i d) := by
  refine ⟨?_, ?_, h.ne, ?_, by simpa using h.few⟩
  · rw [List.length_set]; exact blk_set_ne h.head _ h.ne v
  · rw [blk_set h.body, ← flat_set cs h.ok i k c d hi hk v hd, List.setIfInBounds_toArray]
  · intro e he
    rcases List.mem_or_eq_of_mem_set he with h1 | rfl
    · exact h.ok e h1
    · exact hl

/-- All blocks but b are as they were; there may be new ones. -/
theorem fr_refl (w : World) (b : Option Nat) : w.grownBy w b := ⟨rfl, rfl, rfl, Nat.le_refl _, fun _ _ _ => rfl⟩
theorem fr_trans {u w w' : World} {b : Option Nat} (h : u.grownBy w b) (k : w.grownBy w' b) : u.grownBy w' b :=
  ⟨k.os.trans h.os, k.tape.trans h.tape, k.output.trans h.output, Nat.le_trans h.size k.size, fun i hi hn => (k.block i (Nat.lt_of_lt_of_le hi h.size) hn).trans (h.block i hi hn)⟩
theorem fr_drew {w w' : World} {b : Option Nat} (h : w.grownBy w' b) : w.grownBy w'.drew b := ⟨h.os, h.tape, h.output, h.size, h.block⟩
theorem fr_alloc {w w' : World} {b : Option Nat} (h : w.grownBy w' b) (o : Obj) : w.grownBy (w'.alloc o) b :=
  fr_trans h (World.grownBy_alloc w' o b)
theorem fr_set {w w' : World} {b : Nat} (h : w.grownBy w' (some b)) (o : Nat) (v : Value) : w.grownBy (w'.setCell ⟨b, o, none⟩ v) (some b) :=
  fr_trans h ⟨rfl, rfl, rfl, by simp [World.setCell], fun k _ hn => Below.heap_setCell _ _ _ _ (fun e => hn (by rw [e]))⟩
theorem fr_none {w w' : World} (h : w.grownBy w' none) (b : Option Nat) : w.grownBy w' b := ⟨h.os, h.tape, h.output, h.size, fun i hi _ => h.block i hi (by simp)⟩
theorem fr_below {w w' : World} {B b : Nat} (h : w.grownBy w' (some b)) (hb : B ≤ b) (hB : B ≤ w.heap.size) : Below B w w' :=
  ⟨h.os, h.tape, h.output, h.size, fun k hk => h.block k (by omega) (fun e => by cases e; omega)⟩
theorem fr_of_below {w w' : World} {B : Nat} (h : Below B w w') (hB : w.heap.size ≤ B) (b : Option Nat) : w.grownBy w' b :=
  ⟨h.os, h.tape, h.output, h.size, fun k hk _ => h.block k (by omega)⟩

end Go.Proofs.YtdgfnlagbdmniaaDoor.Pl
