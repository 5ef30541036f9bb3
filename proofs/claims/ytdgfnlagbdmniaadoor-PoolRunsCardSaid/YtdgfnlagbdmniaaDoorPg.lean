/- The pool: the object at a place. -/
import Derived.Test.YtdgfnlagbdmniaaDoorPe
import Derived.StillTailTactics
namespace Go.Proofs.YtdgfnlagbdmniaaDoor.Pl
open Go.RowKit

theorem bit_test (m s : Nat) (hm : m < 4294967296) : (bits BinOp.and IntKind.u32 ((m : Int) / 2 ^ s) 1 == 1) = m.testBit s := by
  have e : (m : Int) / 2 ^ s = ((m / 2 ^ s : Nat) : Int) := by simp
  have hle : m / 2 ^ s ≤ m := Nat.div_le_self _ _
  rw [e, show (1 : Int) = ((1 : Nat) : Int) from rfl, u32_and _ _ (by omega) (by decide), Nat.and_one_is_mod, Nat.testBit_eq_decide_div_mod_eq]
  generalize m / 2 ^ s = q
  rw [Bool.eq_iff_iff]
  simp
  omega

structure PObj where
  at_ : Nat
  size : Int
  room : Nat
  marked : Bool

def PObj.val (o : PObj) : Value := .agg #[.int .i64 o.at_, .int .i64 o.size, .int .i64 o.room, .bool o.marked]

def objOf (c : Chunk) (i s : Nat) : PObj :=
  if c.what = 2 then ⟨i * 1024, c.size, c.many * 1024, c.marked⟩
  else ⟨i * 1024 + s * (32 * 2 ^ c.cls), c.sizes.getD s 0, 32 * 2 ^ c.cls, c.marks.testBit s⟩

set_option maxRecDepth 100000 in
set_option maxHeartbeats 1000000 in
theorem object_head {w : World} {a b : Nat} {cs : List Chunk} (h : At w a b cs) (i s : Nat) (c : Chunk) (hi : cs[i]? = some c) (h2 : c.what = 2) (hm : c.many ≤ 256) :
    Calls Tryd.prog 34 #[.pointer (some ⟨a, 0, none⟩), .agg #[.int .i64 i, .int .i64 s]] w fun e w' => e = .returned (objOf c i s).val ∧ Below w.heap.size w w' := by
  have hp := h.cell_p
  have ha := h.lt_a
  have hb := h.lt_b
  have hfew := h.few
  have hlt : i < cs.length := (List.getElem?_eq_some_iff.1 hi).1
  have c0 := h.what hi
  have c1 := h.size hi
  have c2 := h.many hi
  have c3 := h.marked hi
  rw [h2] at c0
  have HV : Hid ((objOf c i s).val = .agg #[.int .i64 ((i : Int) * 1024), .int .i64 c.size, .int .i64 ((c.many : Int) * 1024), .bool c.marked]) := by
    show _ = _
    simp [objOf, PObj.val, h2]
  clear h2 hi h
  generalize cs.length = N at *
  go_enter Tryd.func34, Tryd.ntmps34
  go_wp2_with fail
  go_region
  all_goals go_wp2_with fail
  all_goals go_region
  all_goals go_wp2_with fail
  exact bodyPost_ret (v := .agg #[.int .i64 ((i : Int) * 1024), .int .i64 c.size, .int .i64 ((c.many : Int) * 1024), .bool c.marked]) (by simp [results, Tryd.results34, go_sem]) rfl
    ⟨by rw [HV.out], by repeat (first | exact Below.refl _ _ | apply Below.drew | (refine Below.setCell ?_ (by simp) _) | (refine Below.alloc ?_ (by simp) _))⟩

set_option maxRecDepth 100000 in
set_option maxHeartbeats 1000000 in
theorem object_slot {w : World} {a b : Nat} {cs : List Chunk} (h : At w a b cs) (i s : Nat) (c : Chunk) (hi : cs[i]? = some c) (h2 : c.what ≠ 2) (hc : c.cls ≤ 4) (hs : s < 32) (hm : c.marks < 4294967296) (z : Nat) (hz : z = 32 * 2 ^ c.cls) (hsz : (s : Int) * (z : Int) ≤ 32768) (hsz0 : 0 ≤ (s : Int) * (z : Int)) (_hz2 : (z : Int) ≤ 512) :
    Calls Tryd.prog 34 #[.pointer (some ⟨a, 0, none⟩), .agg #[.int .i64 i, .int .i64 s]] w fun e w' => e = .returned (objOf c i s).val ∧ Below w.heap.size w w' := by
  have hp := h.cell_p
  have ha := h.lt_a
  have hb := h.lt_b
  have hfew := h.few
  have hlt : i < cs.length := (List.getElem?_eq_some_iff.1 hi).1
  have c0 := h.what hi
  have c1 := h.cls hi
  have c2 := h.marks hi
  have c3 := h.sizes hi hs
  have e0 : ((c.what : Int) == 2) = false := by simp; omega
  have HZ := Lib.hid (fun w => (slotSize_any c.cls (by omega) w).mono fun _ _ h => (⟨h.1, h.2.symm⟩ : _ ∧ _ = _))
  rw [← hz] at HZ
  have HV : Hid ((objOf c i s).val = .agg #[.int .i64 ((i : Int) * 1024 + (s : Int) * (z : Int)), .int .i64 (c.sizes[s]?.getD 0), .int .i64 z, .bool (bits BinOp.and IntKind.u32 ((c.marks : Int) / 2 ^ s) 1 == 1)]) := by
    show _ = _
    rw [bit_test _ _ hm]
    simp only [objOf, PObj.val, h2, if_false, hz, List.getD_eq_getElem?_getD]
    rw [Int.natCast_add, Int.natCast_mul, Int.natCast_mul]
    rfl
  clear h2 hi h hz
  generalize cs.length = N at *
  go_enter Tryd.func34, Tryd.ntmps34
  go_wp2_with fail
  go_region
  all_goals go_wp2_with fail
  obtain ⟨W, hW⟩ : ∃ W, W = ((w.alloc (Obj.cells #[Value.int IntKind.i64 ↑i, Value.int IntKind.i64 ↑s] 83)).alloc (Obj.cells #[Value.int IntKind.i64 0, Value.int IntKind.i64 0, Value.int IntKind.i64 0, Value.bool false] 40)).drew := ⟨_, rfl⟩
  rw [← hW]
  have HB : Hid (Below w.heap.size w W) := by rw [hW]; exact (((Below.refl _ _).alloc (Nat.le_refl _) _).alloc (by simp) _).drew
  have k0 : W.cell? ⟨b, i * 39, none⟩ = some (.int .i64 c.what) := (HB.out.cell (p := ⟨b, i * 39, none⟩) hb).trans c0
  have k1 : W.cell? ⟨b, i * 39 + 1, none⟩ = some (.int .i64 c.cls) := (HB.out.cell (p := ⟨b, i * 39 + 1, none⟩) hb).trans c1
  have k2 : W.cell? ⟨b, i * 39 + 3, none⟩ = some (.int .u32 c.marks) := (HB.out.cell (p := ⟨b, i * 39 + 3, none⟩) hb).trans c2
  have k3 : W.cell? ⟨b, i * 39 + 4 + s, none⟩ = some (.int .i64 (c.sizes.getD s 0)) := (HB.out.cell (p := ⟨b, i * 39 + 4 + s, none⟩) hb).trans c3
  have hv : W.heap[w.heap.size]? = some (.cells #[Value.int IntKind.i64 ↑i, Value.int IntKind.i64 ↑s] 83 (0, 0)) := by
    rw [hW]; show ((w.heap.push _).push _)[_]? = _
    rw [Array.getElem?_push, if_neg (by simp), Array.getElem?_push, if_pos rfl]
  have hr : W.heap[w.heap.size + 1]? = some (.cells #[Value.int IntKind.i64 0, Value.int IntKind.i64 0, Value.int IntKind.i64 0, Value.bool false] 40 (0, 0)) := by
    rw [hW]; show ((w.heap.push _).push _)[_]? = _
    rw [Array.getElem?_push, if_pos (by simp)]
  have v0 : W.cell? ⟨w.heap.size, 0, none⟩ = some (.int .i64 i) := cell_blk hv 0
  have v1 : W.cell? ⟨w.heap.size, 1, none⟩ = some (.int .i64 s) := cell_blk hv 1
  have r0 : W.cell? ⟨w.heap.size + 1, 0, none⟩ = some (.int .i64 0) := cell_blk hr 0
  have r1 : W.cell? ⟨w.heap.size + 1, 1, none⟩ = some (.int .i64 0) := cell_blk hr 1
  have r2 : W.cell? ⟨w.heap.size + 1, 2, none⟩ = some (.int .i64 0) := cell_blk hr 2
  have r3 : W.cell? ⟨w.heap.size + 1, 3, none⟩ = some (.bool false) := cell_blk hr 3
  have rf : ∀ o, W.frozen? ⟨w.heap.size + 1, o, none⟩ = false := frozen_blk hr
  have HR := Lib.hid hr; clear hr
  clear hv hW c0 c1 c2 c3 hp
  have hsI : ((s : Nat) : Int) < 32 := by omega
  refine wp_region_still_tail 34 (by kernel_rfl) (by kernel_rfl) ?_
  simp only [List.take_succ_cons, List.take_zero, List.drop_succ_cons, List.drop_zero]
  rw [show (⟨W.heap, W.tape, W.drawn + 1, W.os, W.output⟩ : World) = W.drew from rfl]
  repeat still_step
  still_call (HZ.out _)
  repeat still_step
  still_call (HZ.out _)
  repeat still_step
  refine wpStill_nil ?_
  change wpList _ _ _ _ _ W.drew
  go_wp2
  refine bodyPost_ret (v := .agg #[.int .i64 ((i : Int) * 1024 + (s : Int) * (z : Int)), .int .i64 (c.sizes[s]?.getD 0), .int .i64 z, .bool (bits BinOp.and IntKind.u32 ((c.marks : Int) / 2 ^ s) 1 == 1)]) (by simp [results, Tryd.results34, go_sem, r0, r1, r2, r3]) rfl ⟨by rw [HV.out], ?_⟩
  exact ((((HB.out.setCell (p := ⟨w.heap.size + 1, 0, none⟩) (by simp) _).setCell (p := ⟨w.heap.size + 1, 1, none⟩) (by simp) _).setCell (p := ⟨w.heap.size + 1, 2, none⟩) (by simp) _).setCell (p := ⟨w.heap.size + 1, 3, none⟩) (by simp) _).drew

/-- (*Pool).object -/
theorem object_at {w : World} {a b : Nat} {cs : List Chunk} (h : At w a b cs) (i s : Nat) (c : Chunk) (hi : cs[i]? = some c) (hc : c.cls ≤ 4) (hs : s < 32) (hm : c.marks < 4294967296) (hmany : c.many ≤ 256) :
    Calls Tryd.prog 34 #[.pointer (some ⟨a, 0, none⟩), .agg #[.int .i64 i, .int .i64 s]] w fun e w' => e = .returned (objOf c i s).val ∧ Below w.heap.size w w' := by
  by_cases h2 : c.what = 2
  · exact object_head h i s c hi h2 hmany
  · have hz : 32 * 2 ^ c.cls ≤ 512 := by
      have : 2 ^ c.cls ≤ 2 ^ 4 := Nat.pow_le_pow_right (by decide) hc
      omega
    have hsz : s * (32 * 2 ^ c.cls) ≤ 31 * 512 := Nat.mul_le_mul (by omega) hz
    exact object_slot h i s c hi h2 hc hs hm _ rfl (by rw [← Int.natCast_mul]; omega) (by rw [← Int.natCast_mul]; omega) (by omega)

end Go.Proofs.YtdgfnlagbdmniaaDoor.Pl
