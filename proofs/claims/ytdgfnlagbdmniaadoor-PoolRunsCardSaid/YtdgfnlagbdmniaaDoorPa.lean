/- The pool's small functions: what each call gives and what becomes of the chunks. -/
import Derived.Test.YtdgfnlagbdmniaaDoorPk
import Derived.Deep.QuietTactic
namespace Go.Proofs.YtdgfnlagbdmniaaDoor.Pl
open Go.RowKit

set_option maxHeartbeats 400000 in
theorem slotSize_any (c : Nat) (hc : c ≤ 5) (w : World) :
    Calls Tryd.prog 32 #[.int .i64 c] w fun e w' => e = .returned (.int .i64 (32 * 2 ^ c : Nat)) ∧ w = w' := by
  obtain rfl | rfl | rfl | rfl | rfl | rfl : c = 0 ∨ c = 1 ∨ c = 2 ∨ c = 3 ∨ c = 4 ∨ c = 5 := by omega
  all_goals
    go_enter Tryd.func32, Tryd.ntmps32
    go_wp2
    go_ret
    exact ⟨rfl, rfl⟩

/-- The bits of all slots of a class. -/
def full (c : Nat) : Nat := 2 ^ (32 / 2 ^ c) - 1

set_option maxHeartbeats 400000 in
theorem all_any (c : Nat) (hc : c ≤ 4) (w : World) :
    Calls Tryd.prog 29 #[.int .i64 c] w fun e w' => e = .returned (.int .u32 (full c : Nat)) ∧ w = w' := by
  obtain rfl | rfl | rfl | rfl | rfl : c = 0 ∨ c = 1 ∨ c = 2 ∨ c = 3 ∨ c = 4 := by omega
  all_goals
    go_enter Tryd.func29, Tryd.ntmps29
    go_wp2
    go_ret
    exact ⟨rfl, rfl⟩

/-- The class of a size. -/
def cls (n : Int) : Nat := if n ≤ 32 then 0 else if n ≤ 64 then 1 else if n ≤ 128 then 2 else if n ≤ 256 then 3 else if n ≤ 512 then 4 else 5

theorem cls_le (n : Int) : cls n ≤ 5 := by unfold cls; (repeat' split) <;> omega
theorem cls_step (n : Int) (k : Nat) (hk : k < 5) (h : k ≤ cls n) : ((32 * 2 ^ k : Nat) : Int) < n ↔ k < cls n := by
  unfold cls at *
  obtain rfl | rfl | rfl | rfl | rfl : k = 0 ∨ k = 1 ∨ k = 2 ∨ k = 3 ∨ k = 4 := by omega
  all_goals (repeat' split at h) <;> (repeat' split) <;> simp <;> omega

set_option maxRecDepth 100000 in
set_option maxHeartbeats 1000000 in
theorem class_ok (n : Int) (h1 : 1 ≤ n) (h2 : n ≤ 262144) (w : World) :
    Calls Tryd.prog 16 #[.int .i64 n] w fun e w' => e = .returned (.tuple #[.int .i64 (cls n), .int .i64 0]) ∧ w = w' := by
  have e1 : decide (n < 1) = false := decide_eq_false (by omega)
  have e2 : decide (262144 < n) = false := decide_eq_false (by omega)
  go_enter Tryd.func16, Tryd.ntmps16
  go_wp2
  go_loop [4] (fun c => ∃ k : Nat, k ≤ cls n ∧ c = .int .i64 k) (fun c => 5 - (intOf c).toNat)
  case atStart => exact ⟨0, Nat.zero_le _, rfl⟩
  case round =>
    obtain ⟨k, hk, rfl⟩ := hrel
    have hl := cls_le n
    by_cases h5 : k < 5
    · have hst := cls_step n k h5 hk
      by_cases hlt : k < cls n
      · have H : ((32 * 2 ^ k : Nat) : Int) < n := hst.2 hlt
        have HS := Lib.hid (slotSize_any k (by omega)); clear hst
        generalize 32 * 2 ^ k = z at *
        go_wp2_with (go_at_call 32; refine (HS.out _).mono ?_; rintro e w' ⟨rfl, rfl⟩)
        go_round
        case rel => exact ⟨k + 1, by omega, by go_num⟩
        case measure => simp [intOf]; omega
      · have H : ¬ ((32 * 2 ^ k : Nat) : Int) < n := fun h => hlt (hst.1 h)
        have HS := Lib.hid (slotSize_any k (by omega)); clear hst
        generalize 32 * 2 ^ k = z at *
        have E : cls n = k := by omega
        go_wp2_with (go_at_call 32; refine (HS.out _).mono ?_; rintro e w' ⟨rfl, rfl⟩)
        go_ret2
        exact ⟨by simp [E], rfl⟩
    · have E := Lib.hid (show cls n = 5 by omega)
      obtain rfl : k = 5 := by omega
      go_wp2
      go_ret2
      exact ⟨by rw [E.out]; rfl, rfl⟩

set_option maxHeartbeats 400000 in
theorem class_err (n : Int) (h : n < 1 ∨ 262144 < n) (w : World) :
    Calls Tryd.prog 16 #[.int .i64 n] w fun e w' => e = .returned (.tuple #[.int .i64 0, .int .i64 1]) ∧ w = w' := by
  by_cases h1 : n < 1
  · have e1 : decide (n < 1) = true := decide_eq_true h1
    clear h
    go_enter Tryd.func16, Tryd.ntmps16
    go_wp2
    go_ret2
    exact ⟨rfl, rfl⟩
  · have e1 : decide (n < 1) = false := decide_eq_false h1
    have e2 : decide (262144 < n) = true := decide_eq_true (by omega)
    clear h
    go_enter Tryd.func16, Tryd.ntmps16
    go_wp2
    go_ret2
    exact ⟨rfl, rfl⟩

theorem wrap_u32 (n : Int) : IntKind.u32.wrap n = n % 4294967296 := by simp [IntKind.wrap, IntKind.signed, IntKind.bits]
theorem ofInt_u32 (a : Nat) (ha : a < 4294967296) : (BitVec.ofInt 32 (a : Int)).toNat = a := by
  rw [BitVec.ofInt_natCast, BitVec.toNat_ofNat]; exact Nat.mod_eq_of_lt (by omega)
theorem u32_and (a b : Nat) (ha : a < 4294967296) (hb : b < 4294967296) : bits .and .u32 (a : Int) (b : Int) = ((a &&& b : Nat) : Int) := by
  have hx : a &&& b < 2 ^ 32 := Nat.and_lt_two_pow _ (by omega)
  show IntKind.u32.wrap ((BitVec.ofInt 32 (a : Int) &&& BitVec.ofInt 32 (b : Int)).toNat : Int) = _
  rw [BitVec.toNat_and, ofInt_u32 a ha, ofInt_u32 b hb, wrap_u32]
  omega
theorem u32_or (a b : Nat) (ha : a < 4294967296) (hb : b < 4294967296) : bits .or .u32 (a : Int) (b : Int) = ((a ||| b : Nat) : Int) := by
  have hx : a ||| b < 2 ^ 32 := Nat.or_lt_two_pow (by omega) (by omega)
  show IntKind.u32.wrap ((BitVec.ofInt 32 (a : Int) ||| BitVec.ofInt 32 (b : Int)).toNat : Int) = _
  rw [BitVec.toNat_or, ofInt_u32 a ha, ofInt_u32 b hb, wrap_u32]
  omega
theorem u32_andNot (a b : Nat) (ha : a < 4294967296) (hb : b < 4294967296) : bits .andNot .u32 (a : Int) (b : Int) = ((a &&& (4294967295 - b) : Nat) : Int) := by
  have hx : a &&& (4294967295 - b) < 2 ^ 32 := Nat.and_lt_two_pow _ (by omega)
  show IntKind.u32.wrap ((BitVec.ofInt 32 (a : Int) &&& ~~~BitVec.ofInt 32 (b : Int)).toNat : Int) = _
  rw [BitVec.toNat_and, BitVec.toNat_not, ofInt_u32 a ha, ofInt_u32 b hb, wrap_u32]
  have e : 2 ^ 32 - 1 - b = 4294967295 - b := by omega
  rw [e]
  omega
theorem u32_not (a : Nat) (ha : a < 4294967296) : bits .xor .u32 IntKind.u32.max (a : Int) = ((4294967295 - a : Nat) : Int) := by
  show IntKind.u32.wrap ((BitVec.ofInt 32 ((4294967295 : Nat) : Int) ^^^ BitVec.ofInt 32 (a : Int)).toNat : Int) = _
  have e : BitVec.ofInt 32 ((4294967295 : Nat) : Int) = BitVec.allOnes 32 := by decide
  rw [e, BitVec.allOnes_xor, BitVec.toNat_not, ofInt_u32 a ha, wrap_u32]
  omega
theorem u32_shl (s : Nat) (hs : s < 32) : (2 : Int) ^ s % 4294967296 = ((2 ^ s : Nat) : Int) := by
  have h : 2 ^ s < 2 ^ 32 := Nat.pow_lt_pow_right (by decide) hs
  have e : ((2 ^ s : Nat) : Int) = (2 : Int) ^ s := by simp
  rw [← e]; clear e; generalize 2 ^ s = x at *; omega

/-- math/bits.TrailingZeros32: the table in its variable. -/
def Tab (w : World) : Prop := ∀ j, j < 32 → w.cell? ⟨0, j, none⟩ = some (.int .u8 (Lib.deBruijn32tab.getD j 0))

theorem Tab.lt {w : World} (h : Tab w) : 0 < w.heap.size := by
  have := h 0 (by decide)
  exact World.block_lt_of_cell? w _ this
theorem Tab.grown {w w' : World} {b : Nat} (h : Tab w) (hg : w.grownBy w' (some b)) (hb : 0 < b) : Tab w' := fun j hj => by
  rw [World.cell?_of_block (w := w) (hg.block 0 h.lt (by simp; omega))]; exact h j hj
theorem Tab.below {w w' : World} {B : Nat} (h : Tab w) (hg : Below B w w') (hb : 0 < B) : Tab w' := fun j hj => by
  rw [World.cell?_of_block (w := w) (hg.block 0 hb)]; exact h j hj

set_option maxHeartbeats 1000000 in
theorem tz_core (x k idx : Nat) (w : World) (hx0 : ((x : Int) == 0) = false)
    (key : bits BinOp.and IntKind.u32 (x : Int) (-(x : Int) % 4294967296) * 125613361 % 4294967296 / 134217728 = (idx : Int))
    (hi : idx < 32) (hk : k < 32) (hcell : w.cell? ⟨0, idx, none⟩ = some (.int .u8 k)) :
    Calls Tryd.prog 46 #[.int .u32 x] w fun e w' => e = .returned (.int .i64 k) ∧ w = w' := by
  go_enter Tryd.func46, Tryd.ntmps46
  go_wp2_with (simp only [key])
  go_ret
  exact ⟨rfl, rfl⟩
theorem tz_zero (w : World) :
    Calls Tryd.prog 46 #[.int .u32 0] w fun e w' => e = .returned (.int .i64 32) ∧ w = w' := by
  go_enter Tryd.func46, Tryd.ntmps46
  go_wp2
  go_ret
  exact ⟨rfl, rfl⟩
theorem tz_key (x a : Nat) (hx : x < 4294967296) (hx0 : x ≠ 0) (hlow : x &&& (4294967296 - x) = a) :
    bits BinOp.and IntKind.u32 (x : Int) (-(x : Int) % 4294967296) * 125613361 % 4294967296 / 134217728 = ((a * 125613361 % 4294967296 / 134217728 : Nat) : Int) := by
  have e1 : -(x : Int) % 4294967296 = ((4294967296 - x : Nat) : Int) := by omega
  rw [e1, u32_and x _ hx (by omega), hlow]
  omega
theorem tz_any (x : Nat) (hx : x < 4294967296) (w : World) (hT : Tab w) :
    Calls Tryd.prog 46 #[.int .u32 x] w fun e w' => e = .returned (.int .i64 (Lib.ctz 32 x)) ∧ w = w' := by
  by_cases hx0 : x = 0
  · subst hx0
    exact tz_zero w
  · obtain ⟨hlow, hk⟩ := Lib.lowest_bit 32 x hx0 hx
    obtain ⟨hi, htab⟩ := Lib.deBruijn32_at _ hk
    have hcell := hT _ hi
    rw [htab] at hcell
    exact tz_core x _ _ w (by simp; omega) (tz_key x _ hx hx0 hlow) hi hk hcell

set_option maxRecDepth 100000 in
set_option maxHeartbeats 400000 in
theorem slot_walk (a b i n s : Nat) (sz : Int) (w : World) (hp : w.cell? ⟨a, 0, none⟩ = some (.slice (some ⟨b, 0, none⟩) n n)) (hi : i < n) (hn : n ≤ 256) (t m o : Int) (c z : Nat) (hs : s < 32)
    (h2 : w.cell? ⟨b, i * 39 + 2, none⟩ = some (.int .u32 t)) (h3 : w.cell? ⟨b, i * 39 + 3, none⟩ = some (.int .u32 m))  (h1 : w.cell? ⟨b, i * 39 + 1, none⟩ = some (.int .i64 c)) (h4 : w.cell? ⟨b, i * 39 + 4 + s, none⟩ = some (.int .i64 o))
    (hf : ∀ o, w.frozen? ⟨b, o, none⟩ = false) (hsz : (s : Int) * (z : Int) < 1024) (hsz0 : 0 ≤ (s : Int) * (z : Int))
    (hz : ∀ w, Calls Tryd.prog 32 #[.int .i64 c] w fun e w' => e = .returned (.int .i64 z) ∧ w = w')
    (htz : Calls Tryd.prog 46 #[Value.int IntKind.u32 (bits BinOp.xor IntKind.u32 IntKind.u32.max t)] w fun e w' => e = .returned (.int .i64 s) ∧ w = w') :
    Calls Tryd.prog 30 #[.pointer (some ⟨a, 0, none⟩), .int .i64 i, .int .i64 sz] w fun e w' => e = .returned (.int .i64 (i * 1024 + s * z)) ∧
      w' = (((w.setCell ⟨b, i * 39 + 2, none⟩ (.int .u32 (bits .or .u32 t (2 ^ s % 4294967296)))).setCell ⟨b, i * 39 + 3, none⟩ (.int .u32 (bits .andNot .u32 m (2 ^ s % 4294967296)))).setCell ⟨b, i * 39 + 4 + s, none⟩ (.int .i64 sz)).drew.drew := by
  have HZ := Lib.hid hz; clear hz
  go_enter Tryd.func30, Tryd.ntmps30
  go_wp2_with fail
  refine htz.mono ?_
  rintro e w' ⟨rfl, rfl⟩
  clear htz
  go_wp2_with fail
  go_region
  all_goals go_wp2_with fail
  go_region
  all_goals go_wp2_with fail
  refine (HZ.out _).mono ?_
  rintro e w' ⟨rfl, rfl⟩
  go_wp2_with fail
  go_ret
  exact ⟨rfl, rfl⟩

def slotC (c : Chunk) (s : Nat) (sz : Int) : Chunk := { c with taken := c.taken ||| 2 ^ s, marks := c.marks &&& (4294967295 - 2 ^ s), sizes := c.sizes.set s sz }

/-- (*Pool).slot -/
theorem slot_at {w : World} {a b : Nat} {cs : List Chunk} (h : At w a b cs) (hT : Tab w) (i : Nat) (c : Chunk) (hi : cs[i]? = some c) (s : Nat) (hs : s = Lib.ctz 32 (4294967295 - c.taken)) (hs32 : s < 32)
    (ht : c.taken < 4294967296) (hm : c.marks < 4294967296) (hc : c.cls ≤ 4) (hsz : s * (32 * 2 ^ c.cls) < 1024) (sz : Int) :
    Calls Tryd.prog 30 #[.pointer (some ⟨a, 0, none⟩), .int .i64 i, .int .i64 sz] w fun e w' => e = .returned (.int .i64 ((i * 1024 + s * (32 * 2 ^ c.cls) : Nat) : Int)) ∧
      At w' a b (cs.set i (slotC c s sz)) ∧ w.grownBy w' (some b) := by
  have hlt : i < cs.length := (List.getElem?_eq_some_iff.1 hi).1
  have hl := h.ok c (List.mem_of_getElem? hi)
  have h2s : 2 ^ s < 4294967296 := Nat.pow_lt_pow_right (a := 2) (m := s) (n := 32) (by decide) hs32
  refine (slot_walk a b i cs.length s sz w h.cell_p hlt h.few c.taken c.marks _ c.cls (32 * 2 ^ c.cls) hs32 (h.taken hi) (h.marks hi) (h.cls hi) (h.sizes hi hs32) h.frozen
    (by rw [← Int.natCast_mul]; omega) (by rw [← Int.natCast_mul]; omega) (fun w => slotSize_any c.cls (by omega) w) (by rw [u32_not _ ht, hs]; exact tz_any _ (by omega) w hT)).mono ?_
  rintro e w' ⟨rfl, rfl⟩
  refine ⟨by rw [Int.natCast_add, Int.natCast_mul, Int.natCast_mul]; rfl, ?_, ?_⟩
  · have e1 : bits .or .u32 (c.taken : Int) (2 ^ s % 4294967296) = ((c.taken ||| 2 ^ s : Nat) : Int) := by rw [u32_shl s hs32, u32_or _ _ ht h2s]
    have e2 : bits .andNot .u32 (c.marks : Int) (2 ^ s % 4294967296) = ((c.marks &&& (4294967295 - 2 ^ s) : Nat) : Int) := by rw [u32_shl s hs32, u32_andNot _ _ hm h2s]
    rw [e1, e2]
    have A1 := h.setCell hi (k := 2) (by decide) (.int .u32 ((c.taken ||| 2 ^ s : Nat) : Int)) (d := { c with taken := c.taken ||| 2 ^ s }) rfl hl
    have A2 := A1.setCell (i := i) (k := 3) (c := { c with taken := c.taken ||| 2 ^ s }) (by simp [hlt]) (by decide) (.int .u32 ((c.marks &&& (4294967295 - 2 ^ s) : Nat) : Int)) (d := { c with taken := c.taken ||| 2 ^ s, marks := c.marks &&& (4294967295 - 2 ^ s) }) rfl hl
    have A3 := A2.setCell (i := i) (k := 4 + s) (c := { c with taken := c.taken ||| 2 ^ s, marks := c.marks &&& (4294967295 - 2 ^ s) }) (by simp [hlt]) (by omega) (.int .i64 sz) (d := slotC c s sz)
      (by
        simp only [slotC, Chunk.vals]
        rw [List.append_assoc, List.append_assoc, List.set_append_right _ _ (by simp), List.set_append_left _ _ (by simp; omega)]
        simp [show 4 + s - 4 = s by omega]) (by simp [slotC, hl])
    simp only [List.set_set] at A3
    rw [← Nat.add_assoc] at A3
    exact A3.drew.drew
  · exact fr_drew (fr_drew (fr_set (fr_set (fr_set (fr_refl _ _) _ _) _ _) _ _))

theorem info73 : (Tryd.prog.info? 73).map (fun i => (i.zero.map Value.cells, i.size)) = some (some Chunk.zero.vals.toArray, 39) := by kernel_rfl
theorem bytes73 : (Tryd.prog.info? 73).map (fun i => decide (i.bytes ≤ 1000)) = some true := by kernel_rfl

theorem flat_replicate_get (n j : Nat) (hj : j < n * 39) : (flat (List.replicate n Chunk.zero))[j]? = Chunk.zero.vals[j % 39]? := by
  have h : j = (j / 39) * 39 + j % 39 := by omega
  have hlt : j / 39 < n := by omega
  conv => lhs; rw [h]
  exact flat_get _ (by intro c hc; rw [List.eq_of_mem_replicate hc]; rfl) (j / 39) (j % 39) Chunk.zero (by simp [hlt]) (Nat.mod_lt _ (by decide))

theorem made_chunks (n : Nat) : madeCells Chunk.zero.vals.toArray (n * 39) = (flat (List.replicate n Chunk.zero)).toArray := by
  have hl : (flat (List.replicate n Chunk.zero)).length = n * 39 := by
    rw [flat_length _ (by intro c hc; rw [List.eq_of_mem_replicate hc]; rfl)]; simp
  apply Array.ext_getElem?
  intro j
  by_cases hj : j < n * 39
  · have hz : Chunk.zero.vals.toArray.size = 39 := rfl
    rw [List.getElem?_toArray (xs := flat _), flat_replicate_get n j hj]
    simp only [madeCells, Array.getElem?_map, Array.getElem?_range, hj, if_true, Option.map_some, hz]
    have hm : j % 39 < 39 := Nat.mod_lt _ (by decide)
    generalize j % 39 = m at hm
    have hm' : m < Chunk.zero.vals.length := hm
    rw [List.getElem?_eq_getElem hm', getElem!_pos _ _ (by simpa using hm')]
    rfl
  · rw [Array.getElem?_eq_none (by rw [size_madeCells]; omega), List.getElem?_toArray (xs := flat _), List.getElem?_eq_none (by omega)]

theorem make73 (n : Nat) (hn : n ≤ 256) (w : World) : (Instr.makeSlice 66 (.int .i64 n) (.int .i64 n)).run Tryd.prog w =
    .ok (.slice (some ⟨w.heap.size, 0, none⟩) n n) (w.alloc (.cells (flat (List.replicate n Chunk.zero)).toArray 73)) := by
  cases hi : Tryd.prog.info? 73 with
  | none => have := info73; simp [hi] at this
  | some i =>
    have h1 := info73
    have h2 := bytes73
    simp only [hi, Option.map_some, Option.some.injEq, Prod.mk.injEq, decide_eq_true_eq] at h1 h2
    obtain ⟨hz, hs⟩ := h1
    cases hzz : i.zero with
    | none => simp [hzz] at hz
    | some z =>
      simp only [hzz, Option.map_some, Option.some.injEq] at hz
      have hb : (i.bytes : Int) * (n : Int) ≤ 281474976710656 := by
        rw [← Int.natCast_mul]
        have : i.bytes * n ≤ 1000 * 256 := Nat.mul_le_mul h2 hn
        omega
      rw [run_make w 66 73 i z Tryd.underlying66 hi hzz .i64 .i64 n n (by omega) (by omega) hb (by omega)]
      rw [hz, hs, Int.toNat_natCast, made_chunks]

set_option maxRecDepth 100000 in
set_option maxHeartbeats 400000 in
theorem new_walk (n : Nat) (h1 : 1 ≤ n) (h2 : n ≤ 256) (w : World) :
    Calls Tryd.prog 10 #[.int .i64 n] w fun e w' => e = .returned (.tuple #[.pointer (some ⟨w.heap.size + 1, 0, none⟩), .int .i64 0]) ∧
      w' = (w.alloc (.cells (flat (List.replicate n Chunk.zero)).toArray 73)).alloc (.cells #[.slice (some ⟨w.heap.size, 0, none⟩) n n] 68) := by
  have e1 : decide ((n : Int) < 1) = false := decide_eq_false (by omega)
  have e2 : decide ((256 : Int) < n) = false := decide_eq_false (by omega)
  have hmk := make73 n h2
  generalize flat (List.replicate n Chunk.zero) = F at *
  go_enter Tryd.func10, Tryd.ntmps10
  go_wp2
  go_ret2
  exact ⟨rfl, rfl⟩

theorem new_ok (n : Nat) (h1 : 1 ≤ n) (h2 : n ≤ 256) (w : World) :
    Calls Tryd.prog 10 #[.int .i64 n] w fun e w' => ∃ a b, e = .returned (.tuple #[.pointer (some ⟨a, 0, none⟩), .int .i64 0]) ∧ w.heap.size ≤ a ∧ w.heap.size ≤ b ∧
      At w' a b (List.replicate n Chunk.zero) ∧ w.grownBy w' none := by
  refine (new_walk n h1 h2 w).mono ?_
  rintro e w' ⟨rfl, rfl⟩
  refine ⟨_, w.heap.size, rfl, by omega, by omega, ⟨?_, ?_, by omega, ?_, by simpa using h2⟩, ?_⟩
  · show ((w.heap.push _).push _)[_]? = _
    rw [Array.getElem?_push, if_pos (by simp), List.length_replicate]
  · show ((w.heap.push _).push _)[_]? = _
    rw [Array.getElem?_push, if_neg (by simp), Array.getElem?_push, if_pos rfl]
  · intro c hc; rw [List.eq_of_mem_replicate hc]; rfl
  · exact fr_alloc (fr_alloc (fr_refl _ _) _) _

set_option maxHeartbeats 400000 in
theorem new_err (n : Int) (h : n < 1 ∨ 256 < n) (w : World) :
    Calls Tryd.prog 10 #[.int .i64 n] w fun e w' => e = .returned (.tuple #[.pointer none, .int .i64 1]) ∧ w = w' := by
  by_cases h1 : n < 1
  · have e1 : decide (n < 1) = true := decide_eq_true h1
    clear h
    go_enter Tryd.func10, Tryd.ntmps10
    go_wp2
    go_ret2
    exact ⟨rfl, rfl⟩
  · have e1 : decide (n < 1) = false := decide_eq_false h1
    have e2 : decide (256 < n) = true := decide_eq_true (by omega)
    clear h
    go_enter Tryd.func10, Tryd.ntmps10
    go_wp2
    go_ret2
    exact ⟨rfl, rfl⟩

end Go.Proofs.YtdgfnlagbdmniaaDoor.Pl
