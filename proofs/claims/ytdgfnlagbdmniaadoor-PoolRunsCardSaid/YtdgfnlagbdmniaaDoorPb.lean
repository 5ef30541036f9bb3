/- The pool: a whole chunk stored; large objects. -/
import Derived.Test.YtdgfnlagbdmniaaDoorPa
import Derived.Deep.QuietTactic
import Derived.Deep.MidRow
import Derived.Deep.LoopGhost
namespace Go.Proofs.YtdgfnlagbdmniaaDoor.Pl
open Go.RowKit

def setMany (l : List Value) (o : Nat) : List Value → List Value
  | [] => l
  | v :: vs => setMany (l.set o v) (o + 1) vs

theorem setMany_get (vs : List Value) : ∀ (l : List Value) (o j : Nat), o + vs.length ≤ l.length → (setMany l o vs)[j]? = if o ≤ j ∧ j < o + vs.length then vs[j - o]? else l[j]? := by
  induction vs with
  | nil => intro l o j h; simp only [setMany, List.length_nil]; rw [if_neg (by omega)]
  | cons v vs ih =>
    intro l o j h
    simp only [List.length_cons] at h
    rw [setMany, ih _ _ _ (by simp; omega)]
    by_cases h1 : o + 1 ≤ j ∧ j < o + 1 + vs.length
    · rw [if_pos h1, if_pos (by simp; omega), show j - o = (j - (o + 1)) + 1 by omega]; rfl
    · rw [if_neg h1]
      by_cases h2 : j = o
      · subst h2; rw [if_pos (by simp), List.getElem?_set_self (by omega), Nat.sub_self]; rfl
      · rw [if_neg (by simp; omega), List.getElem?_set_ne (by omega)]

theorem setMany_length (vs : List Value) : ∀ (l : List Value) (o : Nat), (setMany l o vs).length = l.length := by
  induction vs with
  | nil => intros; rfl
  | cons v vs ih => intro l o; rw [setMany, ih]; simp

theorem blk_setCells {b : Nat} {t : TypeId} {f : Nat × Nat} : ∀ (vs : List Value) (o : Nat) (w : World) (C : List Value), w.heap[b]? = some (.cells C.toArray t f) →
    (w.setCells b o vs).heap[b]? = some (.cells (setMany C o vs).toArray t f) := by
  intro vs
  induction vs with
  | nil => intro o w C h; exact h
  | cons v vs ih => intro o w C h; exact ih (o + 1) _ _ (by rw [blk_set h]; simp)

theorem blk_setCells_ne {b r : Nat} (hr : r ≠ b) : ∀ (vs : List Value) (o : Nat) (w : World), (w.setCells b o vs).heap[r]? = w.heap[r]? := by
  intro vs
  induction vs with
  | nil => intro o w; rfl
  | cons v vs ih => intro o w; exact (ih (o + 1) _).trans (Below.heap_setCell _ _ _ _ hr)

theorem fr_setCells {b : Nat} : ∀ (vs : List Value) (o : Nat) (w w' : World), w.grownBy w' (some b) → w.grownBy (w'.setCells b o vs) (some b) := by
  intro vs
  induction vs with
  | nil => intro o w w' h; exact h
  | cons v vs ih => intro o w w' h; exact ih (o + 1) _ _ (fr_set h _ _)

theorem flat_setMany (cs : List Chunk) (h : ∀ c ∈ cs, c.sizes.length = 32) (i : Nat) (hi : i < cs.length) (d : Chunk) (hd : d.sizes.length = 32) :
    setMany (flat cs) (i * 39) d.vals = flat (cs.set i d) := by
  have hl := flat_length cs h
  have h' : ∀ c ∈ cs.set i d, c.sizes.length = 32 := by
    intro e he
    rcases List.mem_or_eq_of_mem_set he with h1 | rfl
    · exact h e h1
    · exact hd
  have hl' := flat_length (cs.set i d) h'
  have hv := d.vals_length hd
  rw [List.length_set] at hl'
  apply List.ext_getElem?
  intro j
  rw [setMany_get _ _ _ _ (by omega)]
  by_cases hj : j < cs.length * 39
  · have hjj : j = (j / 39) * 39 + j % 39 := by omega
    have hm : j % 39 < 39 := Nat.mod_lt _ (by decide)
    have hq : j / 39 < cs.length := by omega
    generalize j / 39 = q at *
    generalize j % 39 = m at *
    by_cases hqi : q = i
    · subst hqi
      rw [if_pos (by omega), hjj, flat_get _ h' q m d (by simp [hq]) hm]
      congr 1; omega
    · rw [if_neg (by omega), hjj, flat_get _ h q m cs[q] (by simp [hq]) hm, flat_get _ h' q m cs[q] (by rw [List.getElem?_set_ne (by omega)]; simp [hq]) hm]
  · rw [if_neg (by omega), List.getElem?_eq_none (by omega), List.getElem?_eq_none (by omega)]

/-- A whole chunk is written. -/
theorem At.store {w : World} {a b : Nat} {cs : List Chunk} (h : At w a b cs) (i : Nat) (hi : i < cs.length) (d : Chunk) (hd : d.sizes.length = 32) :
    At (w.setCells b (i * 39) d.vals) a b (cs.set i d) := by
  refine ⟨?_, ?_, h.ne, ?_, by simpa using h.few⟩
  · rw [blk_setCells_ne h.ne, List.length_set]; exact h.head
  · rw [blk_setCells _ _ _ _ h.body, flat_setMany cs h.ok i hi d hd]
  · intro e he
    rcases List.mem_or_eq_of_mem_set he with h1 | rfl
    · exact h.ok e h1
    · exact hd
theorem At.there {w : World} {a b : Nat} {cs : List Chunk} (h : At w a b cs) (i : Nat) (hi : i < cs.length) : w.there b (i * 39) 39 := by
  intro j hj
  refine ⟨?_, h.frozen _⟩
  rw [h.cell (c := cs[i]) (by simp [hi]) hj]
  have := cs[i].vals_length (h.ok _ (List.getElem_mem hi))
  rw [List.getElem?_eq_getElem (by omega)]; rfl
theorem vals_one (d : Chunk) : d.vals.toArray.all (·.oneCell') = true := by
  apply all_oneCell_toArray
  intro v hv
  simp only [Chunk.vals, List.mem_append, List.mem_cons, List.mem_map, List.not_mem_nil, or_false] at hv
  rcases hv with ((rfl | rfl | rfl | rfl) | ⟨x, _, rfl⟩) | rfl | rfl | rfl <;> rfl


/-- A chunk of a large object that is not its first. -/
def tailC : Chunk := { Chunk.zero with what := 3 }
def headC (size : Int) (many : Nat) : Chunk := { Chunk.zero with what := 2, size := size, many := many }
def tails (cs : List Chunk) (i : Nat) : Nat → List Chunk
  | 0 => cs
  | k + 1 => (tails cs i k).set (i + k) tailC
def largeAt (cs : List Chunk) (i many : Nat) (size : Int) : List Chunk := (tails cs i many).set i (headC size many)
theorem tails_length (cs : List Chunk) (i k : Nat) : (tails cs i k).length = cs.length := by
  induction k with
  | zero => rfl
  | succ k ih => simp [tails, ih]

theorem info73s : (Tryd.prog.info? 73).map (·.size) = some 39 := by kernel_rfl

/-- A whole chunk is stored. -/
theorem store_chunk {ops : Array Oper} {rest : List Oper} {a : Act} {w : World} {Q : Exit → Act → World → Prop} {x y : Operand} {ty : TypeId} {pos : String} {after : Array Edge}
    (b o : Nat) (cells : Array Value) (hx : a.eval x = .pointer (some ⟨b, o, none⟩)) (hy : a.eval y = .agg cells) (ht : w.there b o 39) (hz : cells.size = 39) (h1 : cells.all (·.oneCell') = true)
    (h : wpList Tryd.prog ops Q rest a (w.setCells b o cells.toList)) : wpList Tryd.prog ops Q ({ dst := none, op := .store 73 x y, type := ty, pos := pos, after := after, guard := none } :: rest) a w :=
  wpList_store_mid rfl 73 x y rfl b o cells hx hy (by rw [hz]; exact ht) (by rw [hz]; exact info73s) h1 h

theorem tail_lit : tailC.vals.toArray = #[.int .i64 3, .int .i64 0, .int .u32 0, .int .u32 0, .int .i64 0, .int .i64 0, .int .i64 0, .int .i64 0, .int .i64 0, .int .i64 0, .int .i64 0, .int .i64 0, .int .i64 0, .int .i64 0, .int .i64 0, .int .i64 0, .int .i64 0, .int .i64 0, .int .i64 0, .int .i64 0, .int .i64 0, .int .i64 0, .int .i64 0, .int .i64 0, .int .i64 0, .int .i64 0, .int .i64 0, .int .i64 0, .int .i64 0, .int .i64 0, .int .i64 0, .int .i64 0, .int .i64 0, .int .i64 0, .int .i64 0, .int .i64 0, .int .i64 0, .int .i64 0, .bool false] := by
  simp [tailC, Chunk.vals, Chunk.zero, List.replicate]
theorem head_lit (size : Int) (many : Nat) : (headC size many).vals.toArray = #[.int .i64 2, .int .i64 0, .int .u32 0, .int .u32 0, .int .i64 0, .int .i64 0, .int .i64 0, .int .i64 0, .int .i64 0, .int .i64 0, .int .i64 0, .int .i64 0, .int .i64 0, .int .i64 0, .int .i64 0, .int .i64 0, .int .i64 0, .int .i64 0, .int .i64 0, .int .i64 0, .int .i64 0, .int .i64 0, .int .i64 0, .int .i64 0, .int .i64 0, .int .i64 0, .int .i64 0, .int .i64 0, .int .i64 0, .int .i64 0, .int .i64 0, .int .i64 0, .int .i64 0, .int .i64 0, .int .i64 0, .int .i64 0, .int .i64 size, .int .i64 many, .bool false] := by
  simp [headC, Chunk.vals, Chunk.zero, List.replicate]
theorem slots_lit (c : Nat) : ({ Chunk.zero with what := 1, cls := c } : Chunk).vals.toArray = #[.int .i64 1, .int .i64 c, .int .u32 0, .int .u32 0, .int .i64 0, .int .i64 0, .int .i64 0, .int .i64 0, .int .i64 0, .int .i64 0, .int .i64 0, .int .i64 0, .int .i64 0, .int .i64 0, .int .i64 0, .int .i64 0, .int .i64 0, .int .i64 0, .int .i64 0, .int .i64 0, .int .i64 0, .int .i64 0, .int .i64 0, .int .i64 0, .int .i64 0, .int .i64 0, .int .i64 0, .int .i64 0, .int .i64 0, .int .i64 0, .int .i64 0, .int .i64 0, .int .i64 0, .int .i64 0, .int .i64 0, .int .i64 0, .int .i64 0, .int .i64 0, .bool false] := by
  simp [Chunk.vals, Chunk.zero, List.replicate]

/-- The chunks from i on are free. -/
def freeRun (cs : List Chunk) (i many : Nat) : Bool := (List.range many).all fun k => (cs.getD (i + k) Chunk.zero).what == 0


def findRun (cs : List Chunk) (many : Nat) : Option Nat := (List.range (cs.length + 1 - many)).find? fun i => freeRun cs i many

def LargePost (cs : List Chunk) (many : Nat) (size : Int) (a b : Nat) (w : World) (e : Ending) (w' : World) : Prop :=
  (∃ i, findRun cs many = some i ∧ e = .returned (.tuple #[.int .i64 (i * 1024), .int .i64 0]) ∧ At w' a b (largeAt cs i many size) ∧ w.grownBy w' (some b)) ∨
  (findRun cs many = none ∧ e = .returned (.tuple #[.int .i64 0, .int .i64 8]) ∧ w = w')

theorem freeRun_true {cs : List Chunk} {i many : Nat} (h : freeRun cs i many = true) (k : Nat) (hk : k < many) (hi : i + many ≤ cs.length) : ∃ c, cs[i + k]? = some c ∧ c.what = 0 := by
  unfold freeRun at h
  rw [List.all_eq_true] at h
  have := h k (by simpa using hk)
  refine ⟨cs[i + k], by simp, ?_⟩
  simpa [List.getD, List.getElem?_eq_getElem (show i + k < cs.length by omega)] using this

theorem freeRun_false {cs : List Chunk} {i many : Nat} (h : freeRun cs i many = false) (hi : i + many ≤ cs.length) :
    ∃ k, k < many ∧ (∀ j, j < k → ∃ c, cs[i + j]? = some c ∧ c.what = 0) ∧ ∃ c, cs[i + k]? = some c ∧ c.what ≠ 0 := by
  induction many with
  | zero => simp [freeRun] at h
  | succ m ih =>
    by_cases hm : freeRun cs i m = false
    · obtain ⟨k, h1, h2, h3⟩ := ih hm (by omega)
      exact ⟨k, by omega, h2, h3⟩
    · simp only [Bool.not_eq_false] at hm
      refine ⟨m, by omega, fun j hj => freeRun_true hm j hj (by omega), cs[i + m], by simp, ?_⟩
      unfold freeRun at h hm
      rw [List.range_succ, List.all_append, hm] at h
      simpa [List.getD, List.getElem?_eq_getElem (show i + m < cs.length by omega)] using h

theorem find_none_step {n : Nat} {p : Nat → Bool} (h : ∀ j, j < n → p j = false) : (List.range n).find? p = none := by
  rw [List.find?_eq_none]; intro x hx; simp [h x (by simpa using hx)]
theorem find_some_step {n i : Nat} {p : Nat → Bool} (hi : i < n) (h : ∀ j, j < i → p j = false) (hp : p i = true) : (List.range n).find? p = some i := by
  rw [List.find?_range_eq_some]
  exact ⟨hp, by simpa using hi, fun j hj => by simp [h j hj]⟩

set_option maxRecDepth 100000 in
set_option maxHeartbeats 1000000 in
theorem large_walk {w : World} {a b : Nat} {cs : List Chunk} (h : At w a b cs) (size : Int) (h1 : 1 ≤ size) (h2 : size ≤ 262144) (many : Nat) (hq : (size + 1024 - 1) / 1024 = (many : Int)) :
    Calls Tryd.prog 28 #[.pointer (some ⟨a, 0, none⟩), .int .i64 size] w (LargePost cs many size a b w) := by
  have hmany : many ≤ 256 := by omega
  have hmany1 : 1 ≤ many := by omega
  have hfew := h.few
  have hp := h.cell_p
  have HA := Lib.hid h; clear h
  generalize hN : cs.length = N at *
  have HN := Lib.hid hN; clear hN
  go_enter Tryd.func28, Tryd.ntmps28
  go_wp2_with fail
  go_step3
  go_wp2_with fail
  rw [hq]
  clear hq
  go_step3
  go_wp2_with fail
  go_loopg [7] (N + 1) (fun g s7 wx => ∃ i : Nat, i + g = N + 1 ∧ s7 = .int .i64 i ∧ (∀ j, j < i → freeRun cs j many = false) ∧ w = wx)
  case atStart => exact ⟨0, by omega, rfl, fun j hj => by omega, rfl⟩
  case round =>
    obtain ⟨i, hig, rfl, hno, rfl⟩ := hrel
    have HNO := Lib.hid hno; clear hno
    by_cases hfit : i + many ≤ N
    · cases hfree : freeRun cs i many with
      | true =>
        have HF := Lib.hid hfree; clear hfree
        go_wp2_with fail
        go_loopg [26] many (fun g s26 wx => ∃ k : Nat, k + g = many ∧ s26 = .int .i64 k ∧ w = wx)
        case atStart => exact ⟨0, by omega, rfl, rfl⟩
        case round =>
          obtain ⟨k, hkg, rfl, rfl⟩ := hrel
          by_cases hk : k < many
          · obtain ⟨c, hc, hc0⟩ := freeRun_true HF.out k hk (by rw [HN.out]; omega)
            have hw := HA.out.what hc
            rw [hc0] at hw
            clear hc hc0
            go_wp2
            go_roundg (many - k - 1)
            case measure => omega
            case rel => exact ⟨k + 1, by omega, by go_num, rfl⟩
          · obtain rfl : k = many := by omega
            go_wp2_with fail
            go_loopg [42] k (fun g s42 wx => ∃ j : Nat, j + g = k ∧ s42 = .int .i64 j ∧ At wx a b (tails cs i j) ∧ w.grownBy wx (some b))
            case atStart => exact ⟨0, by omega, rfl, HA.out, fr_refl _ _⟩
            case round =>
              obtain ⟨j, hjg, rfl, hAj, hgj⟩ := hrel
              have HAj := Lib.hid hAj; clear hAj
              have HGj := Lib.hid hgj; clear hgj
              have hpj := HAj.out.cell_p
              rw [tails_length, HN.out] at hpj
              by_cases hj : j < k
              · have hth : wr.there b ((i + j) * 39) 39 := HAj.out.there (i + j) (by rw [tails_length, HN.out]; omega)
                have HT := Lib.hid hth; clear hth
                go_wp2_with ((with_reducible refine store_chunk b ((i + j) * 39) tailC.vals.toArray ?x1 ?y1 ?t1 ?z1 ?o1 ?_); (case x1 => rfl); (case y1 => rw [tail_lit]; rfl); (case t1 => exact HT.out); (case z1 => rfl); (case o1 => exact vals_one _))
                go_roundg (k - j - 1)
                case measure => omega
                case rel =>
                  refine ⟨j + 1, by omega, by go_num, ?_, fr_setCells _ _ _ _ HGj.out⟩
                  exact HAj.out.store (i + j) (by rw [tails_length, HN.out]; omega) tailC rfl
              · obtain rfl : j = k := by omega
                have hth : wr.there b (i * 39) 39 := HAj.out.there i (by rw [tails_length, HN.out]; omega)
                have HT := Lib.hid hth; clear hth
                go_wp2_with ((with_reducible refine store_chunk b (i * 39) (headC size j).vals.toArray ?x2 ?y2 ?t2 ?z2 ?o2 ?_); (case x2 => rfl); (case y2 => rw [head_lit]; rfl); (case t2 => exact HT.out); (case z2 => rfl); (case o2 => exact vals_one _))
                rw [Exit.noGoto_ret]
                go_ret2
                exact .inl ⟨i, find_some_step (by rw [HN.out]; omega) HNO.out HF.out, rfl, HAj.out.store i (by rw [tails_length, HN.out]; omega) (headC size j) rfl, fr_setCells _ _ _ _ HGj.out⟩
      | false =>
        obtain ⟨k0, hk0, hpre, c0, hc0, hw0⟩ := freeRun_false hfree (by rw [HN.out]; exact hfit)
        have HF := Lib.hid hfree; clear hfree
        have HP := Lib.hid hpre; clear hpre
        have hwz : ((c0.what : Int) == 0) = false := by simpa using hw0
        have hwz2 : ((c0.what : Int) != 0) = true := by simpa using hw0
        have H0 := HA.out.what hc0
        clear hc0 hw0
        go_wp2_with fail
        go_loopg [26] (k0 + 1) (fun g s26 wx => ∃ k : Nat, k + g = k0 + 1 ∧ k ≤ k0 ∧ s26 = .int .i64 k ∧ w = wx)
        case atStart => exact ⟨0, by omega, by omega, rfl, rfl⟩
        case round =>
          obtain ⟨k, hkg, hkk, rfl, rfl⟩ := hrel
          by_cases hk : k < k0
          · obtain ⟨c, hc, hcz⟩ := HP.out k hk
            have hw := HA.out.what hc
            rw [hcz] at hw
            clear hc hcz H0
            go_wp2
            go_roundg (k0 - k)
            case measure => omega
            case rel => exact ⟨k + 1, by omega, by omega, by go_num, rfl⟩
          · obtain rfl : k = k0 := by omega
            go_wp2
            go_roundg (N - i)
            case measure => omega
            case rel =>
              refine ⟨i + 1, by omega, by go_num, fun j hj => ?_, rfl⟩
              by_cases e : j = i
              · subst e; exact HF.out
              · exact HNO.out j (by omega)
    · go_wp2
      try rw [Exit.noGoto_ret]
      go_ret2
      exact .inr ⟨find_none_step fun j hj => HNO.out j (by rw [HN.out] at hj; omega), rfl, rfl⟩


/-- (*Pool).large -/
theorem large_at {w : World} {a b : Nat} {cs : List Chunk} (h : At w a b cs) (size : Int) (h1 : 1 ≤ size) (h2 : size ≤ 262144) :
    Calls Tryd.prog 28 #[.pointer (some ⟨a, 0, none⟩), .int .i64 size] w (LargePost cs ((size + 1023) / 1024).toNat size a b w) :=
  large_walk h size h1 h2 _ (by omega)

end Go.Proofs.YtdgfnlagbdmniaaDoor.Pl
