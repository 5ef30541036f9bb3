/- The pool: remove, setMark. -/
import Derived.Test.YtdgfnlagbdmniaaDoorPt
import Derived.StillTailTactics
namespace Go.Proofs.YtdgfnlagbdmniaaDoor.Pl
open Go.RowKit

def clears (cs : List Chunk) (i : Nat) : Nat → List Chunk
  | 0 => cs
  | k + 1 => (clears cs i k).set (i + k) Chunk.zero
theorem clears_length (cs : List Chunk) (i k : Nat) : (clears cs i k).length = cs.length := by
  induction k with
  | zero => rfl
  | succ k ih => simp [clears, ih]
theorem zero_lit : Chunk.zero.vals.toArray = #[.int .i64 0, .int .i64 0, .int .u32 0, .int .u32 0, .int .i64 0, .int .i64 0, .int .i64 0, .int .i64 0, .int .i64 0, .int .i64 0, .int .i64 0, .int .i64 0, .int .i64 0, .int .i64 0, .int .i64 0, .int .i64 0, .int .i64 0, .int .i64 0, .int .i64 0, .int .i64 0, .int .i64 0, .int .i64 0, .int .i64 0, .int .i64 0, .int .i64 0, .int .i64 0, .int .i64 0, .int .i64 0, .int .i64 0, .int .i64 0, .int .i64 0, .int .i64 0, .int .i64 0, .int .i64 0, .int .i64 0, .int .i64 0, .int .i64 0, .int .i64 0, .bool false] := by
  simp [Chunk.vals, Chunk.zero, List.replicate]

set_option maxRecDepth 100000 in
set_option maxHeartbeats 1000000 in
theorem remove_head {w : World} {a b : Nat} {cs : List Chunk} (h : At w a b cs) (i s : Nat) (c : Chunk) (hi : cs[i]? = some c) (h2 : c.what = 2) (hfit : i + c.many ≤ cs.length) :
    Calls Tryd.prog 35 #[.pointer (some ⟨a, 0, none⟩), .agg #[.int .i64 i, .int .i64 s]] w fun e w' => e = .returned (.tuple #[]) ∧ At w' a b (clears cs i c.many) ∧ w.grownBy w' (some b) := by
  have hp := h.cell_p
  have ha := h.lt_a
  have hb := h.lt_b
  have hfew := h.few
  have hlt : i < cs.length := (List.getElem?_eq_some_iff.1 hi).1
  have c0 := h.what hi
  have c2 := h.many hi
  rw [h2] at c0
  have hab := h.ne
  have HA := Lib.hid h; clear h
  have HC := Lib.hid hi
  have HC2 := Lib.hid h2
  clear hi h2
  generalize hN : cs.length = N at *
  have HN := Lib.hid hN; clear hN
  have hMM : c.many ≤ 256 := by omega
  generalize hmm : c.many = many at *
  have HMM := Lib.hid hmm; clear hmm
  go_enter Tryd.func35, Tryd.ntmps35
  go_wp2_with fail
  obtain ⟨W1, hW1⟩ : ∃ W1, W1 = w.alloc (Obj.cells #[Value.int IntKind.i64 ↑i, Value.int IntKind.i64 ↑s] 83) := ⟨_, rfl⟩
  rw [← hW1]
  obtain ⟨B, hB⟩ : ∃ B, B = w.heap.size := ⟨_, rfl⟩
  have HA1 : Hid (At W1 a b cs) := by rw [hW1]; exact HA.out.alloc _
  have HX1 : Hid (W1.heap[B]? = some (.cells #[.int .i64 i, .int .i64 s] 83 (0, 0))) := by rw [hW1, hB]; exact (MapKept.heap_alloc _ _).1
  have HG1 : Hid (w.grownBy W1 (some b)) := by rw [hW1]; exact fr_alloc (fr_refl _ _) _
  rw [← hB] at ha hb ⊢
  clear hB hW1 hp c0 c2
  have hp := HA1.out.cell_p
  rw [HN.out] at hp
  have x0 : W1.cell? ⟨B, 0, none⟩ = some (.int .i64 i) := cell_blk HX1.out 0
  have x1 : W1.cell? ⟨B, 1, none⟩ = some (.int .i64 s) := cell_blk HX1.out 1
  have c0 := HA1.out.what HC.out
  have c2 := HA1.out.many HC.out
  rw [HC2.out] at c0
  go_quiet (fail)
  obtain ⟨W2, hW2⟩ : ∃ W2, W2 = W1.drewN nq := ⟨_, rfl⟩
  rw [← hW2]
  have HA2 : Hid (At W2 a b cs) := by rw [hW2]; exact HA1.out.drewN _
  have HX2 : Hid (W2.heap[B]? = some (.cells #[.int .i64 i, .int .i64 s] 83 (0, 0))) := by rw [hW2]; exact HX1.out
  have HG2 : Hid (w.grownBy W2 (some b)) := by rw [hW2]; exact fr_drewN HG1.out _
  clear hW2 hp c0 c2 x0 x1
  have c0 := HA2.out.what HC.out
  have c2 := HA2.out.many HC.out
  rw [HMM.out] at c2
  rw [HC2.out] at c0
  go_wp2_with fail
  clear c0 c2
  go_loopg [24] many (fun g s24 wx => ∃ k : Nat, k + g = many ∧ s24 = .int .i64 k ∧ At wx a b (clears cs i k) ∧ wx.heap[B]? = some (.cells #[.int .i64 i, .int .i64 s] 83 (0, 0)) ∧ w.grownBy wx (some b))
  case atStart => exact ⟨0, by omega, rfl, HA2.out, HX2.out, HG2.out⟩
  case round =>
    obtain ⟨k, hkg, rfl, hAk, hXk, hGk⟩ := hrel
    have HAk := Lib.hid hAk; clear hAk
    have HXk := Lib.hid hXk; clear hXk
    have HGk := Lib.hid hGk; clear hGk
    have hp := HAk.out.cell_p
    rw [clears_length, HN.out] at hp
    have x0 : wr.cell? ⟨B, 0, none⟩ = some (.int .i64 i) := cell_blk HXk.out 0
    have x1 : wr.cell? ⟨B, 1, none⟩ = some (.int .i64 s) := cell_blk HXk.out 1
    by_cases hk : k < many
    · have hth : wr.there b ((i + k) * 39) 39 := HAk.out.there (i + k) (by rw [clears_length, HN.out]; omega)
      have HT := Lib.hid hth; clear hth
      go_wp2_with fail
      refine wp_region_still_tail 10 (by kernel_rfl) (by kernel_rfl) ?_
      simp only [List.take_succ_cons, List.take_zero, List.drop_succ_cons, List.drop_zero]
      rw [show (⟨wr.heap, wr.tape, wr.drawn + 1, wr.os, wr.output⟩ : World) = wr.drew from rfl]
      have k1 : i + k < N := by omega
      have k2 : (i : Int) + (k : Int) < (N : Int) := by omega
      have k3 : 0 ≤ (i : Int) + (k : Int) := by omega
      have k5 : IntKind.i64.wrap ((i : Int) + (k : Int)) = (i : Int) + (k : Int) := by rw [IntKind.wrap_i64]; omega
      have k4 : ((i : Int) + (k : Int)).toNat = i + k := by omega
      repeat still_step
      refine wpStill_nil ?_
      change wpList _ _ _ _ _ wr.drew
      refine store_chunk b ((i + k) * 39) Chunk.zero.vals.toArray ?x1 ?y1 ?t1 ?z1 ?o1 ?_
      case x1 => rfl
      case y1 => rw [zero_lit]; rfl
      case t1 => exact HT.out
      case z1 => rfl
      case o1 => exact vals_one _
      go_wp2
      go_roundg (many - k - 1)
      case measure => omega
      case rel =>
        refine ⟨k + 1, by omega, by go_num, ?_, ?_, fr_setCells _ _ _ _ (fr_drew HGk.out)⟩
        · exact HAk.out.drew.store (i + k) (by rw [clears_length, HN.out]; omega) Chunk.zero rfl
        · exact (blk_setCells_ne (by omega) _ _ _).trans HXk.out
    · obtain rfl : k = many := by omega
      go_wp2_with fail
      exact bodyPost_ret (v := .tuple #[]) (by simp [results, Tryd.results35, go_sem]) rfl ⟨rfl, HAk.out, HGk.out⟩

def dropC (c : Chunk) (s : Nat) : Chunk := { c with taken := c.taken &&& (4294967295 - 2 ^ s) }
def leftC (c : Chunk) (s : Nat) : Chunk := if (dropC c s).taken = 0 then Chunk.zero else dropC c s

set_option maxRecDepth 100000 in
set_option maxHeartbeats 1000000 in
theorem remove_slot {w : World} {a b : Nat} {cs : List Chunk} (h : At w a b cs) (i s : Nat) (c : Chunk) (hi : cs[i]? = some c) (h2 : c.what ≠ 2) (hs : s < 32) (ht : c.taken < 4294967296) :
    Calls Tryd.prog 35 #[.pointer (some ⟨a, 0, none⟩), .agg #[.int .i64 i, .int .i64 s]] w fun e w' => e = .returned (.tuple #[]) ∧ At w' a b (cs.set i (leftC c s)) ∧ w.grownBy w' (some b) := by
  have hp := h.cell_p
  have ha := h.lt_a
  have hb := h.lt_b
  have hfew := h.few
  have hlt : i < cs.length := (List.getElem?_eq_some_iff.1 hi).1
  have hab := h.ne
  have h2s : 2 ^ s < 4294967296 := Nat.pow_lt_pow_right (a := 2) (m := s) (n := 32) (by decide) hs
  have e0 : ((c.what : Int) == 2) = false := by simp; omega
  have hl := h.ok c (List.mem_of_getElem? hi)
  have HL := Lib.hid hl; clear hl
  have HE : Hid (bits .andNot .u32 (c.taken : Int) (2 ^ s % 4294967296) = (((dropC c s).taken : Nat) : Int)) := by
    show _ = _; rw [u32_shl s hs, u32_andNot _ _ ht h2s]; rfl
  have HA := Lib.hid h; clear h
  have HC := Lib.hid hi
  clear hi h2 h2s ht
  generalize hN : cs.length = N at *
  have HN := Lib.hid hN; clear hN
  go_enter Tryd.func35, Tryd.ntmps35
  go_wp2_with fail
  obtain ⟨W1, hW1⟩ : ∃ W1, W1 = w.alloc (Obj.cells #[Value.int IntKind.i64 ↑i, Value.int IntKind.i64 ↑s] 83) := ⟨_, rfl⟩
  rw [← hW1]
  obtain ⟨B, hB⟩ : ∃ B, B = w.heap.size := ⟨_, rfl⟩
  have HA1 : Hid (At W1 a b cs) := by rw [hW1]; exact HA.out.alloc _
  have HX1 : Hid (W1.heap[B]? = some (.cells #[.int .i64 i, .int .i64 s] 83 (0, 0))) := by rw [hW1, hB]; exact (MapKept.heap_alloc _ _).1
  have HG1 : Hid (w.grownBy W1 (some b)) := by rw [hW1]; exact fr_alloc (fr_refl _ _) _
  rw [← hB] at ha hb ⊢
  clear hB hW1 hp
  have hp := HA1.out.cell_p
  rw [HN.out] at hp
  have x0 : W1.cell? ⟨B, 0, none⟩ = some (.int .i64 i) := cell_blk HX1.out 0
  have x1 : W1.cell? ⟨B, 1, none⟩ = some (.int .i64 s) := cell_blk HX1.out 1
  have c0 := HA1.out.what HC.out
  have c2 := HA1.out.taken HC.out
  go_quiet (fail)
  obtain ⟨W2, hW2⟩ : ∃ W2, W2 = W1.drewN nq := ⟨_, rfl⟩
  rw [← hW2]
  have HA2 : Hid (At W2 a b cs) := by rw [hW2]; exact HA1.out.drewN _
  have HX2 : Hid (W2.heap[B]? = some (.cells #[.int .i64 i, .int .i64 s] 83 (0, 0))) := by rw [hW2]; exact HX1.out
  have HG2 : Hid (w.grownBy W2 (some b)) := by rw [hW2]; exact fr_drewN HG1.out _
  clear hW2 hp c0 c2 x0 x1
  have c0 := HA2.out.what HC.out
  have c2 := HA2.out.taken HC.out
  have x0 : W2.cell? ⟨B, 0, none⟩ = some (.int .i64 i) := cell_blk HX2.out 0
  have x1 : W2.cell? ⟨B, 1, none⟩ = some (.int .i64 s) := cell_blk HX2.out 1
  have f2 := HA2.out.frozen
  go_wp2_with fail
  go_region
  all_goals rw [HE.out]
  obtain ⟨W3, hW3⟩ : ∃ W3, W3 = (W2.setCell { block := b, off := i * 39 + 2 } (Value.int IntKind.u32 ↑(dropC c s).taken)).drew := ⟨_, rfl⟩
  rw [← hW3]
  have HA3 : Hid (At W3 a b (cs.set i (dropC c s))) := by
    rw [hW3]
    exact (HA2.out.setCell HC.out (k := 2) (by decide) (.int .u32 (((dropC c s).taken : Nat) : Int)) (d := dropC c s) rfl HL.out).drew
  have HG3 : Hid (w.grownBy W3 (some b)) := by rw [hW3]; exact fr_drew (fr_set HG2.out _ _)
  have hc3 : (cs.set i (dropC c s))[i]? = some (dropC c s) := by rw [List.getElem?_set_self (by rw [HN.out]; exact hlt)]
  have c2' := HA3.out.taken hc3
  clear c0 c2 x0 x1 f2 hW3 hc3
  by_cases h0 : (dropC c s).taken = 0
  · have HF : Hid (leftC c s = Chunk.zero) := if_pos h0
    rw [h0] at c2'
    have hth : W3.there b (i * 39) 39 := HA3.out.there i (by rw [List.length_set, HN.out]; omega)
    have HT := Lib.hid hth; clear hth h0
    go_wp2_with ((with_reducible refine store_chunk b (i * 39) Chunk.zero.vals.toArray ?x1 ?y1 ?t1 ?z1 ?o1 ?_); (case x1 => rfl); (case y1 => rw [zero_lit]; rfl); (case t1 => exact HT.out); (case z1 => rfl); (case o1 => exact vals_one _))
    refine bodyPost_end (v := .tuple #[]) (by simp [results, Tryd.results35, go_sem]) rfl ⟨rfl, ?_, fr_setCells _ _ _ _ HG3.out⟩
    rw [HF.out]
    have := HA3.out.store i (by rw [List.length_set, HN.out]; omega) Chunk.zero rfl
    rw [List.set_set] at this
    exact this
  · have HF : Hid (leftC c s = dropC c s) := if_neg h0
    have e2 : (((dropC c s).taken : Int) == 0) = false := by simp; omega
    clear h0
    go_wp2_with fail
    refine bodyPost_end (v := .tuple #[]) (by simp [results, Tryd.results35, go_sem]) rfl ⟨rfl, ?_, HG3.out⟩
    rw [HF.out]
    exact HA3.out

def markC (c : Chunk) (s : Nat) (m : Bool) : Chunk := if m then { c with marks := c.marks ||| 2 ^ s } else { c with marks := c.marks &&& (4294967295 - 2 ^ s) }

set_option maxRecDepth 100000 in
set_option maxHeartbeats 1000000 in
theorem setMark_head {w : World} {a b : Nat} {cs : List Chunk} (h : At w a b cs) (i s : Nat) (m : Bool) (c : Chunk) (hi : cs[i]? = some c) (h2 : c.what = 2) :
    Calls Tryd.prog 37 #[.pointer (some ⟨a, 0, none⟩), .agg #[.int .i64 i, .int .i64 s], .bool m] w fun e w' => e = .returned (.tuple #[]) ∧ At w' a b (cs.set i { c with marked := m }) ∧ w.grownBy w' (some b) := by
  have hp := h.cell_p
  have ha := h.lt_a
  have hb := h.lt_b
  have hfew := h.few
  have hlt : i < cs.length := (List.getElem?_eq_some_iff.1 hi).1
  have hab := h.ne
  have hl := h.ok c (List.mem_of_getElem? hi)
  have HL := Lib.hid hl; clear hl
  have HA := Lib.hid h; clear h
  have HC := Lib.hid hi
  have HC2 := Lib.hid h2
  clear hi h2
  generalize hN : cs.length = N at *
  have HN := Lib.hid hN; clear hN
  go_enter Tryd.func37, Tryd.ntmps37
  go_wp2_with fail
  obtain ⟨W1, hW1⟩ : ∃ W1, W1 = w.alloc (Obj.cells #[Value.int IntKind.i64 ↑i, Value.int IntKind.i64 ↑s] 83) := ⟨_, rfl⟩
  rw [← hW1]
  obtain ⟨B, hB⟩ : ∃ B, B = w.heap.size := ⟨_, rfl⟩
  have HA1 : Hid (At W1 a b cs) := by rw [hW1]; exact HA.out.alloc _
  have HX1 : Hid (W1.heap[B]? = some (.cells #[.int .i64 i, .int .i64 s] 83 (0, 0))) := by rw [hW1, hB]; exact (MapKept.heap_alloc _ _).1
  have HG1 : Hid (w.grownBy W1 (some b)) := by rw [hW1]; exact fr_alloc (fr_refl _ _) _
  rw [← hB] at ha hb ⊢
  clear hB hW1 hp
  have hp := HA1.out.cell_p
  rw [HN.out] at hp
  have x0 : W1.cell? ⟨B, 0, none⟩ = some (.int .i64 i) := cell_blk HX1.out 0
  have x1 : W1.cell? ⟨B, 1, none⟩ = some (.int .i64 s) := cell_blk HX1.out 1
  have c0 := HA1.out.what HC.out
  rw [HC2.out] at c0
  go_quiet (fail)
  obtain ⟨W2, hW2⟩ : ∃ W2, W2 = W1.drewN nq := ⟨_, rfl⟩
  rw [← hW2]
  have HA2 : Hid (At W2 a b cs) := by rw [hW2]; exact HA1.out.drewN _
  have HG2 : Hid (w.grownBy W2 (some b)) := by rw [hW2]; exact fr_drewN HG1.out _
  clear hW2 hp c0 x0 x1
  have c0 := HA2.out.what HC.out
  have c2 := HA2.out.marked HC.out
  rw [HC2.out] at c0
  have f2 := HA2.out.frozen
  go_wp2_with fail
  refine bodyPost_end (v := .tuple #[]) (by simp [results, Tryd.results37, go_sem]) rfl ⟨rfl, ?_, fr_set HG2.out _ _⟩
  exact HA2.out.setCell HC.out (k := 38) (by decide) (.bool m) (d := { c with marked := m }) (by simp [Chunk.vals, HL.out]) HL.out

set_option maxRecDepth 100000 in
set_option maxHeartbeats 1000000 in
theorem setMark_slot {w : World} {a b : Nat} {cs : List Chunk} (h : At w a b cs) (i s : Nat) (m : Bool) (c : Chunk) (hi : cs[i]? = some c) (h2 : c.what ≠ 2) (hs : s < 32) (ht : c.marks < 4294967296) :
    Calls Tryd.prog 37 #[.pointer (some ⟨a, 0, none⟩), .agg #[.int .i64 i, .int .i64 s], .bool m] w fun e w' => e = .returned (.tuple #[]) ∧ At w' a b (cs.set i (markC c s m)) ∧ w.grownBy w' (some b) := by
  have hp := h.cell_p
  have ha := h.lt_a
  have hb := h.lt_b
  have hfew := h.few
  have hlt : i < cs.length := (List.getElem?_eq_some_iff.1 hi).1
  have hab := h.ne
  have h2s : 2 ^ s < 4294967296 := Nat.pow_lt_pow_right (a := 2) (m := s) (n := 32) (by decide) hs
  have e0 : ((c.what : Int) == 2) = false := by simp; omega
  have hl := h.ok c (List.mem_of_getElem? hi)
  have HL := Lib.hid hl; clear hl
  have HE : Hid (bits .andNot .u32 (c.marks : Int) (2 ^ s % 4294967296) = (((markC c s false).marks : Nat) : Int)) := by
    show _ = _; rw [u32_shl s hs, u32_andNot _ _ ht h2s]; rfl
  have HO : Hid (bits .or .u32 (c.marks : Int) (2 ^ s % 4294967296) = (((markC c s true).marks : Nat) : Int)) := by
    show _ = _; rw [u32_shl s hs, u32_or _ _ ht h2s]; rfl
  have HA := Lib.hid h; clear h
  have HC := Lib.hid hi
  clear hi h2 h2s ht
  generalize hN : cs.length = N at *
  have HN := Lib.hid hN; clear hN
  go_enter Tryd.func37, Tryd.ntmps37
  go_wp2_with fail
  obtain ⟨W1, hW1⟩ : ∃ W1, W1 = w.alloc (Obj.cells #[Value.int IntKind.i64 ↑i, Value.int IntKind.i64 ↑s] 83) := ⟨_, rfl⟩
  rw [← hW1]
  obtain ⟨B, hB⟩ : ∃ B, B = w.heap.size := ⟨_, rfl⟩
  have HA1 : Hid (At W1 a b cs) := by rw [hW1]; exact HA.out.alloc _
  have HX1 : Hid (W1.heap[B]? = some (.cells #[.int .i64 i, .int .i64 s] 83 (0, 0))) := by rw [hW1, hB]; exact (MapKept.heap_alloc _ _).1
  have HG1 : Hid (w.grownBy W1 (some b)) := by rw [hW1]; exact fr_alloc (fr_refl _ _) _
  rw [← hB] at ha hb ⊢
  clear hB hW1 hp
  have hp := HA1.out.cell_p
  rw [HN.out] at hp
  have x0 : W1.cell? ⟨B, 0, none⟩ = some (.int .i64 i) := cell_blk HX1.out 0
  have x1 : W1.cell? ⟨B, 1, none⟩ = some (.int .i64 s) := cell_blk HX1.out 1
  have c0 := HA1.out.what HC.out
  go_quiet (fail)
  obtain ⟨W2, hW2⟩ : ∃ W2, W2 = W1.drewN nq := ⟨_, rfl⟩
  rw [← hW2]
  have HA2 : Hid (At W2 a b cs) := by rw [hW2]; exact HA1.out.drewN _
  have HX2 : Hid (W2.heap[B]? = some (.cells #[.int .i64 i, .int .i64 s] 83 (0, 0))) := by rw [hW2]; exact HX1.out
  have HG2 : Hid (w.grownBy W2 (some b)) := by rw [hW2]; exact fr_drewN HG1.out _
  clear hW2 hp c0 x0 x1
  have c0 := HA2.out.what HC.out
  have c2 := HA2.out.marks HC.out
  have x0 : W2.cell? ⟨B, 0, none⟩ = some (.int .i64 i) := cell_blk HX2.out 0
  have x1 : W2.cell? ⟨B, 1, none⟩ = some (.int .i64 s) := cell_blk HX2.out 1
  have f2 := HA2.out.frozen
  cases m with
  | true =>
    go_wp2_with fail
    go_region
    all_goals rw [HO.out]
    all_goals go_wp2_with fail
    refine bodyPost_end (v := .tuple #[]) (by simp [results, Tryd.results37, go_sem]) rfl ⟨rfl, ?_, fr_drew (fr_set HG2.out _ _)⟩
    exact (HA2.out.setCell HC.out (k := 3) (by decide) (.int .u32 (((markC c s true).marks : Nat) : Int)) (d := markC c s true) rfl HL.out).drew
  | false =>
    go_wp2_with fail
    go_region
    all_goals rw [HE.out]
    all_goals go_wp2_with fail
    refine bodyPost_end (v := .tuple #[]) (by simp [results, Tryd.results37, go_sem]) rfl ⟨rfl, ?_, fr_drew (fr_set HG2.out _ _)⟩
    exact (HA2.out.setCell HC.out (k := 3) (by decide) (.int .u32 (((markC c s false).marks : Nat) : Int)) (d := markC c s false) rfl HL.out).drew
end Go.Proofs.YtdgfnlagbdmniaaDoor.Pl
