/- The pool: find. -/
/- The pool: remove, setMark. -/
/- The pool, plainly: what find finds; what remove and setMark do to the objects. -/
/- The pool: Find, Free, Mark. -/
/- The laws' pool behind allocations and frees: played. -/
/- PoolApart: the plain law and the walk. -/
/- Lists of objects in memory: slices.Equal, slices.ContainsFunc. -/
import Derived.Test.YtdgfnlagbdmniaaDoorMa
import Derived.StillTailTactics
namespace Go.Proofs.YtdgfnlagbdmniaaDoor.Pl
open Go.RowKit

theorem below_drewN {B : Nat} {w w' : World} (h : Below B w w') (n : Nat) : Below B w (w'.drewN n) := ⟨h.os, h.tape, h.output, h.size, h.block⟩

theorem bit_test0 (m s : Nat) (hm : m < 4294967296) : (bits BinOp.and IntKind.u32 ((m : Int) / 2 ^ s) 1 == 0) = !m.testBit s := by
  rw [← bit_test m s hm]
  have e : (m : Int) / 2 ^ s = ((m / 2 ^ s : Nat) : Int) := by simp
  have hle : m / 2 ^ s ≤ m := Nat.div_le_self _ _
  rw [e, show (1 : Int) = ((1 : Nat) : Int) from rfl, u32_and _ _ (by omega) (by decide), Nat.and_one_is_mod]
  generalize m / 2 ^ s = q
  rw [Bool.eq_iff_iff]
  simp
  omega

def pv (i s : Nat) : Value := .agg #[.int .i64 i, .int .i64 s]

/-- What find returns, its head chunk being known. -/
def FindC (c : Chunk) (hd ad : Nat) (e : Ending) : Prop :=
  (c.what = 0 ∧ e = .returned (.tuple #[pv 0 0, .bool false])) ∨
  (c.what = 1 ∧ c.taken.testBit (ad % 1024 / (32 * 2 ^ c.cls)) = false ∧ e = .returned (.tuple #[pv 0 0, .bool false])) ∨
  (c.what = 1 ∧ c.taken.testBit (ad % 1024 / (32 * 2 ^ c.cls)) = true ∧ ∃ o, o = objOf c hd (ad % 1024 / (32 * 2 ^ c.cls)) ∧ e = .returned (.tuple #[pv hd (ad % 1024 / (32 * 2 ^ c.cls)), .bool (decide ((ad : Int) < o.at_ + o.size))])) ∨
  (c.what = 2 ∧ ∃ o, o = objOf c hd 0 ∧ e = .returned (.tuple #[pv hd 0, .bool (decide ((ad : Int) < o.at_ + o.size))]))

set_option maxRecDepth 100000 in
set_option maxHeartbeats 1000000 in
theorem find_walk {w : World} {a b : Nat} {cs : List Chunk} (h : At w a b cs) (ad hd : Nat) (c : Chunk) (hlt : ad < cs.length * 1024) (hh : hd ≤ ad / 1024)
    (htl : ∀ j, hd < j → j ≤ ad / 1024 → ∃ d, cs[j]? = some d ∧ d.what = 3) (hc : cs[hd]? = some c) (h3 : c.what < 3) (hrd : Rd c) (hob : ∀ s, (c.what = 2 ∨ (c.what = 1 ∧ c.taken.testBit s = true)) → s < 32 → (objOf c hd s).at_ ≤ 1000000 ∧ 0 ≤ (objOf c hd s).size ∧ (objOf c hd s).size ≤ 1000000) :
    Calls Tryd.prog 33 #[.pointer (some ⟨a, 0, none⟩), .int .i64 ad] w fun e w' => FindC c hd ad e ∧ Below w.heap.size w w' := by
  have hp := h.cell_p
  have ha := h.lt_a
  have hb := h.lt_b
  have hfew := h.few
  have HA := Lib.hid h; clear h
  have HT := Lib.hid htl; clear htl
  have HC := Lib.hid hc; clear hc
  have HR := Lib.hid hrd; clear hrd
  have HO := Lib.hid hob; clear hob
  have hl : hd < cs.length := (List.getElem?_eq_some_iff.1 HC.out).1
  generalize hN : cs.length = N at *
  have HN := Lib.hid hN; clear hN
  have e1 : decide ((ad : Int) < 0) = false := decide_eq_false (by omega)
  have e2 : decide ((N : Int) * 1024 ≤ (ad : Int)) = false := decide_eq_false (by omega)
  go_enter Tryd.func33, Tryd.ntmps33
  go_wp2_with fail
  obtain ⟨W0, hW0⟩ : ∃ W0, W0 = (w.alloc (Obj.cells #[Value.int IntKind.i64 0, Value.int IntKind.i64 0] 83)).alloc (Obj.cells #[Value.int IntKind.i64 ((ad / 1024 : Nat) : Int), Value.int IntKind.i64 0] 83) := ⟨_, rfl⟩
  have ed : (ad : Int) / 1024 = ((ad / 1024 : Nat) : Int) := by omega
  rw [ed, ← hW0]; clear ed
  obtain ⟨B, hB⟩ : ∃ B, B = w.heap.size := ⟨_, rfl⟩
  have HA0 : Hid (At W0 a b cs) := by rw [hW0]; exact (HA.out.alloc _).alloc _
  have HB0 : Hid (Below B w W0) := by rw [hW0, hB]; exact ((Below.refl _ _).alloc (Nat.le_refl _) _).alloc (by simp) _
  have HX0 : Hid (W0.heap[B]? = some (.cells #[Value.int IntKind.i64 0, Value.int IntKind.i64 0] 83 (0, 0))) := by
    rw [hW0, hB]; show ((w.heap.push _).push _)[_]? = _
    rw [Array.getElem?_push, if_neg (by simp), Array.getElem?_push, if_pos rfl]
  have HY0 : Hid (W0.heap[B + 1]? = some (.cells #[Value.int IntKind.i64 ((ad / 1024 : Nat) : Int), Value.int IntKind.i64 0] 83 (0, 0))) := by
    rw [hW0, hB]; show ((w.heap.push _).push _)[_]? = _
    rw [Array.getElem?_push, if_pos (by simp)]
  rw [← hB] at ha hb ⊢
  have HBw := Lib.hid hB; clear hB hW0 hp
  go_loopg [] (ad / 1024 - hd) (fun g wx => ∃ j : Nat, j = hd + g ∧ j ≤ ad / 1024 ∧ wx.heap[B + 1]? = some (.cells #[.int .i64 j, .int .i64 0] 83 (0, 0)) ∧ wx.heap[B]? = some (.cells #[Value.int IntKind.i64 0, Value.int IntKind.i64 0] 83 (0, 0)) ∧ At wx a b cs ∧ Below B w wx)
  case atStart => exact ⟨ad / 1024, by omega, by omega, HY0.out, HX0.out, HA0.out, HB0.out⟩
  case round =>
    obtain ⟨j, hj, hj2, hY, hX, hA, hB⟩ := hrel
    have HA := Lib.hid hA; clear hA
    have HB := Lib.hid hB; clear hB
    have hp := HA.out.cell_p
    rw [HN.out] at hp
    have y0 : wr.cell? ⟨B + 1, 0, none⟩ = some (.int .i64 j) := cell_blk hY 0
    have y1 : wr.cell? ⟨B + 1, 1, none⟩ = some (.int .i64 0) := cell_blk hY 1
    have yf : ∀ o, wr.frozen? ⟨B + 1, o, none⟩ = false := frozen_blk hY
    have x0 : wr.cell? ⟨B, 0, none⟩ = some (.int .i64 0) := cell_blk hX 0
    have x1 : wr.cell? ⟨B, 1, none⟩ = some (.int .i64 0) := cell_blk hX 1
    have xf : ∀ o, wr.frozen? ⟨B, o, none⟩ = false := frozen_blk hX
    have HX := Lib.hid hX; clear hX
    have HY := Lib.hid hY; clear hY
    have hjN : j < N := by omega
    by_cases hjd : hd < j
    · obtain ⟨d, hd1, hd2⟩ := HT.out j hjd hj2
      have c0 := HA.out.what hd1
      rw [hd2] at c0
      have hg : 0 < gk := by omega
      have HJ := Lib.hid hj; clear hj
      clear hd1 hd2 hh hlt
      go_wp2_with fail
      go_quiet (fail)
      go_wp2_with fail
      go_roundg (gk - 1)
      case measure => first | omega | exact hg
      case rel =>
        refine ⟨j - 1, by have := HJ.out; omega, by omega, ?_, ?_, ?_, ?_⟩
        · rw [blk_set (w := wr.drewN nq) HY.out]; simp; omega
        · exact blk_set_ne (w := wr.drewN nq) HX.out _ (by simp) _
        · exact HA.out.same (Below.heap_setCell _ _ _ _ (by simp; omega)) (Below.heap_setCell _ _ _ _ (by simp; omega))
        · exact Below.setCell (below_drewN HB.out nq) (p := ⟨B + 1, 0, none⟩) (by simp) _
    · obtain rfl : j = hd := by omega
      clear hj hjd hj2 hh
      have c0 := HA.out.what HC.out
      have c1 := HA.out.cls HC.out
      have c2 := HA.out.taken HC.out
      go_wp2_with fail
      go_quiet (fail)
      go_wp2_with fail
      obtain ⟨W, hW⟩ : ∃ W, W = wr.drewN nq := ⟨_, rfl⟩
      rw [← hW]
      have HA : Hid (At W a b cs) := by rw [hW]; exact HA.out.drewN nq
      have HB : Hid (Below B w W) := by rw [hW]; exact below_drewN HB.out nq
      have HX : Hid (W.heap[B]? = some (.cells #[.int .i64 0, .int .i64 0] 83 (0, 0))) := by rw [hW]; exact HX.out
      have HY : Hid (W.heap[B + 1]? = some (.cells #[.int .i64 j, .int .i64 0] 83 (0, 0))) := by rw [hW]; exact HY.out
      clear hW hp y0 y1 yf x0 x1 xf c0 c1 c2
      have hp := HA.out.cell_p
      rw [HN.out] at hp
      have y0 : W.cell? ⟨B + 1, 0, none⟩ = some (.int .i64 j) := cell_blk HY.out 0
      have y1 : W.cell? ⟨B + 1, 1, none⟩ = some (.int .i64 0) := cell_blk HY.out 1
      have yf : ∀ o, W.frozen? ⟨B + 1, o, none⟩ = false := frozen_blk HY.out
      have x0 : W.cell? ⟨B, 0, none⟩ = some (.int .i64 0) := cell_blk HX.out 0
      have x1 : W.cell? ⟨B, 1, none⟩ = some (.int .i64 0) := cell_blk HX.out 1
      have xf : ∀ o, W.frozen? ⟨B, o, none⟩ = false := frozen_blk HX.out
      have c0 := HA.out.what HC.out
      have c1 := HA.out.cls HC.out
      have c2 := HA.out.taken HC.out
      go_quiet (fail)
      obtain ⟨W2, hW2⟩ : ∃ W2, W2 = W.drewN nq := ⟨_, rfl⟩
      rw [← hW2]
      have HA : Hid (At W2 a b cs) := by rw [hW2]; exact HA.out.drewN nq
      have HB : Hid (Below B w W2) := by rw [hW2]; exact below_drewN HB.out nq
      have HX : Hid (W2.heap[B]? = some (.cells #[.int .i64 0, .int .i64 0] 83 (0, 0))) := by rw [hW2]; exact HX.out
      have HY : Hid (W2.heap[B + 1]? = some (.cells #[.int .i64 j, .int .i64 0] 83 (0, 0))) := by rw [hW2]; exact HY.out
      clear hW2 hp y0 y1 yf x0 x1 xf c0 c1 c2
      have hp := HA.out.cell_p
      rw [HN.out] at hp
      have y0 : W2.cell? ⟨B + 1, 0, none⟩ = some (.int .i64 j) := cell_blk HY.out 0
      have y1 : W2.cell? ⟨B + 1, 1, none⟩ = some (.int .i64 0) := cell_blk HY.out 1
      have yf : ∀ o, W2.frozen? ⟨B + 1, o, none⟩ = false := frozen_blk HY.out
      have x0 : W2.cell? ⟨B, 0, none⟩ = some (.int .i64 0) := cell_blk HX.out 0
      have x1 : W2.cell? ⟨B, 1, none⟩ = some (.int .i64 0) := cell_blk HX.out 1
      have xf : ∀ o, W2.frozen? ⟨B, o, none⟩ = false := frozen_blk HX.out
      have c0 := HA.out.what HC.out
      have c1 := HA.out.cls HC.out
      have c2 := HA.out.taken HC.out
      have HBF : Hid (∀ u v, Below w.heap.size w ((W2.setCell ⟨B, 0, none⟩ u).setCell ⟨B, 1, none⟩ v)) := fun u v => by
        rw [← HBw.out]; exact (HB.out.setCell (p := ⟨B, 0, none⟩) (Nat.le_refl _) _).setCell (p := ⟨B, 1, none⟩) (Nat.le_refl _) _
      have HRB : Hid (∀ u v, ((W2.setCell ⟨B, 0, none⟩ u).setCell ⟨B, 1, none⟩ v).cell? ⟨B, 0, none⟩ = some u ∧ ((W2.setCell ⟨B, 0, none⟩ u).setCell ⟨B, 1, none⟩ v).cell? ⟨B, 1, none⟩ = some v) := fun u v => by
        have hb := blk_set (blk_set HX.out 0 u) 1 v
        exact ⟨cell_blk hb 0, cell_blk hb 1⟩
      obtain hw | hw | hw : c.what = 0 ∨ c.what = 1 ∨ c.what = 2 := by omega
      · have HF : Hid (FindC c j ad (.returned (.tuple #[pv 0 0, .bool false]))) := .inl ⟨hw, rfl⟩
        rw [hw] at c0
        clear hw
        go_wp2_with fail
        have hrb := HRB.out (Value.int IntKind.i64 0) (Value.int IntKind.i64 0)
        exact bodyPost_ret (v := .tuple #[pv 0 0, .bool false]) (by simp [results, Tryd.results33, go_sem, pv, hrb.1, hrb.2]) rfl ⟨HF.out, HBF.out _ _⟩
      · obtain ⟨z, hz⟩ : ∃ z, z = 32 * 2 ^ c.cls := ⟨_, rfl⟩
        obtain ⟨s, hs⟩ : ∃ s, s = ad % 1024 / z := ⟨_, rfl⟩
        have hz1 : 32 ≤ z := by rw [hz]; have := Nat.pow_pos (a := 2) (n := c.cls) (by decide); omega
        have hq : (ad : Int) % 1024 / (z : Int) = (s : Int) := by rw [hs]; simp
        have hs32 : s < 32 := by
          rw [hs, Nat.div_lt_iff_lt_mul (by omega)]
          have := Nat.mod_lt ad (show 1024 > 0 by decide)
          omega
        have HZ := Lib.hid (fun w => (slotSize_any c.cls (by have := HR.out.cls; omega) w).mono fun _ _ h => (⟨h.1, h.2.symm⟩ : _ ∧ _ = _))
        rw [← hz] at HZ
        have HF0 : Hid (c.taken.testBit s = false → FindC c j ad (.returned (.tuple #[pv 0 0, .bool false]))) := fun h => .inr (.inl ⟨hw, by rw [← hz, ← hs]; exact h, rfl⟩)
        have HF1 : Hid (c.taken.testBit s = true → FindC c j ad (.returned (.tuple #[pv j s, .bool (decide ((ad : Int) < (objOf c j s).at_ + (objOf c j s).size))]))) := fun h => .inr (.inr (.inl ⟨hw, by rw [← hz, ← hs]; exact h, _, by rw [← hz, ← hs], by rw [← hz, ← hs]⟩))
        rw [hw] at c0
        have HW := Lib.hid hw
        have HQ := Lib.hid hq
        have HT2 := Lib.hid (bit_test0 c.taken s HR.out.taken)
        clear hw hz hs hq
        go_wp2_with fail
        refine (HZ.out _).mono ?_
        rintro e w' ⟨rfl, rfl⟩
        go_wp2_with fail
        rw [HQ.out]
        obtain ⟨W3, hW3⟩ : ∃ W3, W3 = w'.setCell ⟨B + 1, 1, none⟩ (.int .i64 (s : Int)) := ⟨_, rfl⟩
        rw [← hW3]
        have HA : Hid (At W3 a b cs) := by rw [hW3]; exact HA.out.same (Below.heap_setCell _ _ _ _ (by simp; omega)) (Below.heap_setCell _ _ _ _ (by simp; omega))
        have HB : Hid (Below B w W3) := by rw [hW3]; exact HB.out.setCell (p := ⟨B + 1, 1, none⟩) (by simp) _
        have HX : Hid (W3.heap[B]? = some (.cells #[.int .i64 0, .int .i64 0] 83 (0, 0))) := by rw [hW3]; exact blk_set_ne HX.out _ (by simp) _
        have HY : Hid (W3.heap[B + 1]? = some (.cells #[.int .i64 j, .int .i64 s] 83 (0, 0))) := by rw [hW3]; exact blk_set HY.out 1 _
        clear hW3 hp y0 y1 yf x0 x1 xf c0 c1 c2
        have hp := HA.out.cell_p
        rw [HN.out] at hp
        have y0 : W3.cell? ⟨B + 1, 0, none⟩ = some (.int .i64 j) := cell_blk HY.out 0
        have y1 : W3.cell? ⟨B + 1, 1, none⟩ = some (.int .i64 s) := cell_blk HY.out 1
        have yf : ∀ o, W3.frozen? ⟨B + 1, o, none⟩ = false := frozen_blk HY.out
        have x0 : W3.cell? ⟨B, 0, none⟩ = some (.int .i64 0) := cell_blk HX.out 0
        have x1 : W3.cell? ⟨B, 1, none⟩ = some (.int .i64 0) := cell_blk HX.out 1
        have xf : ∀ o, W3.frozen? ⟨B, o, none⟩ = false := frozen_blk HX.out
        have c0 := HA.out.what HC.out
        have c1 := HA.out.cls HC.out
        have c2 := HA.out.taken HC.out
        have HBF : Hid (∀ u v, Below w.heap.size w ((W3.setCell ⟨B, 0, none⟩ u).setCell ⟨B, 1, none⟩ v)) := fun u v => by
          rw [← HBw.out]; exact (HB.out.setCell (p := ⟨B, 0, none⟩) (Nat.le_refl _) _).setCell (p := ⟨B, 1, none⟩) (Nat.le_refl _) _
        have HRB : Hid (∀ u v, ((W3.setCell ⟨B, 0, none⟩ u).setCell ⟨B, 1, none⟩ v).cell? ⟨B, 0, none⟩ = some u ∧ ((W3.setCell ⟨B, 0, none⟩ u).setCell ⟨B, 1, none⟩ v).cell? ⟨B, 1, none⟩ = some v) := fun u v => by
          have hb := blk_set (blk_set HX.out 0 u) 1 v
          exact ⟨cell_blk hb 0, cell_blk hb 1⟩
        cases hbt : c.taken.testBit s with
        | false =>
          have hbt2 := HT2.out
          rw [hbt] at hbt2
          go_quiet (fail)
          go_wp2_with fail
          have hrb := HRB.out (Value.int IntKind.i64 0) (Value.int IntKind.i64 0)
          have hrb1 : (((W3.drewN nq).setCell { block := B, off := 0 } (Value.int IntKind.i64 0)).setCell { block := B, off := 1 } (Value.int IntKind.i64 0)).cell? ⟨B, 0, none⟩ = _ := hrb.1
          have hrb2 : (((W3.drewN nq).setCell { block := B, off := 0 } (Value.int IntKind.i64 0)).setCell { block := B, off := 1 } (Value.int IntKind.i64 0)).cell? ⟨B, 1, none⟩ = _ := hrb.2
          exact bodyPost_ret (v := .tuple #[pv 0 0, .bool false]) (by simp [results, Tryd.results33, go_sem, pv, hrb1, hrb2]) rfl ⟨HF0.out hbt, below_drewN (HBF.out _ _) nq⟩
        | true =>
          have hbt2 := HT2.out
          rw [hbt] at hbt2
          have HBT := Lib.hid hbt; clear hbt
          go_quiet (fail)
          go_wp2_with fail
          refine (object_at (HA.out.drewN nq) j s c HC.out HR.out.cls hs32 HR.out.marks HR.out.many).mono ?_
          rintro e w5 ⟨rfl, hb5⟩
          have hobs := HO.out s (.inr ⟨HW.out, HBT.out⟩) hs32
          have HFF := Lib.hid (HF1.out HBT.out)
          have HV : Hid ((objOf c j s).val = .agg #[.int .i64 (objOf c j s).at_, .int .i64 (objOf c j s).size, .int .i64 (objOf c j s).room, .bool (objOf c j s).marked]) := rfl
          generalize objOf c j s = o at *
          rw [HV.out]
          have l1 : B + 1 < (W3.drewN nq).heap.size := (Array.getElem?_eq_some_iff.1 HY.out).1
          have HX5 : Hid (w5.heap[B]? = some (.cells #[.int .i64 0, .int .i64 0] 83 (0, 0))) := (hb5.block B (by omega)).trans HX.out
          have HY5 : Hid (w5.heap[B + 1]? = some (.cells #[.int .i64 j, .int .i64 s] 83 (0, 0))) := (hb5.block (B + 1) l1).trans HY.out
          have HB5 : Hid (Below B w w5) := (below_drewN HB.out nq).trans (hb5.mono (by omega))
          have hs5 : B + 1 < w5.heap.size := (Array.getElem?_eq_some_iff.1 HY5.out).1
          clear hb5 l1
          go_wp2_with fail
          obtain ⟨W6, hW6⟩ : ∃ W6, W6 = w5.alloc (Obj.cells #[Value.int IntKind.i64 o.at_, Value.int IntKind.i64 o.size, Value.int IntKind.i64 o.room, Value.bool o.marked] 40) := ⟨_, rfl⟩
          rw [← hW6]
          have HX6 : Hid (W6.heap[B]? = some (.cells #[.int .i64 0, .int .i64 0] 83 (0, 0))) := by rw [hW6]; exact (Below.heap_alloc _ _ _ (by omega)).trans HX5.out
          have HY6 : Hid (W6.heap[B + 1]? = some (.cells #[.int .i64 j, .int .i64 s] 83 (0, 0))) := by rw [hW6]; exact (Below.heap_alloc _ _ _ (by omega)).trans HY5.out
          have HZ6 : Hid (W6.heap[w5.heap.size]? = some (.cells #[Value.int IntKind.i64 o.at_, Value.int IntKind.i64 o.size, Value.int IntKind.i64 o.room, Value.bool o.marked] 40 (0, 0))) := by rw [hW6]; exact (MapKept.heap_alloc _ _).1
          have HB6 : Hid (Below B w W6) := by rw [hW6]; exact HB5.out.alloc (by omega) _
          clear hW6
          have y0 : W6.cell? ⟨B + 1, 0, none⟩ = some (.int .i64 j) := cell_blk HY6.out 0
          have y1 : W6.cell? ⟨B + 1, 1, none⟩ = some (.int .i64 s) := cell_blk HY6.out 1
          have x0 : W6.cell? ⟨B, 0, none⟩ = some (.int .i64 0) := cell_blk HX6.out 0
          have x1 : W6.cell? ⟨B, 1, none⟩ = some (.int .i64 0) := cell_blk HX6.out 1
          have xf : ∀ o, W6.frozen? ⟨B, o, none⟩ = false := frozen_blk HX6.out
          have z0 : W6.cell? ⟨w5.heap.size, 0, none⟩ = some (.int .i64 o.at_) := cell_blk HZ6.out 0
          have z1 : W6.cell? ⟨w5.heap.size, 1, none⟩ = some (.int .i64 o.size) := cell_blk HZ6.out 1
          obtain ⟨ho1, ho2, ho3⟩ := hobs
          go_region
          all_goals go_wp2_with fail
          have hrb := blk_set (blk_set HX6.out 0 (Value.int IntKind.i64 j)) 1 (Value.int IntKind.i64 s)
          have hrb1 : (((W6.setCell { block := B, off := 0 } (Value.int IntKind.i64 j)).setCell { block := B, off := 1 } (Value.int IntKind.i64 s)).drew).cell? ⟨B, 0, none⟩ = _ := cell_blk hrb 0
          have hrb2 : (((W6.setCell { block := B, off := 0 } (Value.int IntKind.i64 j)).setCell { block := B, off := 1 } (Value.int IntKind.i64 s)).drew).cell? ⟨B, 1, none⟩ = _ := cell_blk hrb 1
          refine bodyPost_ret (v := .tuple #[pv j s, .bool (decide ((ad : Int) < o.at_ + o.size))]) (by simp [results, Tryd.results33, go_sem, pv, hrb1, hrb2]) rfl ⟨HFF.out, ?_⟩
          rw [← HBw.out]
          exact ((HB6.out.setCell (p := ⟨B, 0, none⟩) (Nat.le_refl _) _).setCell (p := ⟨B, 1, none⟩) (Nat.le_refl _) _).drew
      · have HF2 : Hid (FindC c j ad (.returned (.tuple #[pv j 0, .bool (decide ((ad : Int) < (objOf c j 0).at_ + (objOf c j 0).size))]))) := .inr (.inr (.inr ⟨hw, _, rfl, rfl⟩))
        rw [hw] at c0
        have HW := Lib.hid hw
        clear hw
        go_wp2_with fail
        refine (object_at (HA.out) j 0 c HC.out HR.out.cls (by decide) HR.out.marks HR.out.many).mono ?_
        rintro e w5 ⟨rfl, hb5⟩
        have hobs := HO.out 0 (.inl HW.out) (by decide)
        have HFF := Lib.hid HF2.out
        have HV : Hid ((objOf c j 0).val = .agg #[.int .i64 (objOf c j 0).at_, .int .i64 (objOf c j 0).size, .int .i64 (objOf c j 0).room, .bool (objOf c j 0).marked]) := rfl
        generalize objOf c j 0 = o at *
        rw [HV.out]
        have l1 : B + 1 < (W2).heap.size := (Array.getElem?_eq_some_iff.1 HY.out).1
        have HX5 : Hid (w5.heap[B]? = some (.cells #[.int .i64 0, .int .i64 0] 83 (0, 0))) := (hb5.block B (by omega)).trans HX.out
        have HY5 : Hid (w5.heap[B + 1]? = some (.cells #[.int .i64 j, .int .i64 0] 83 (0, 0))) := (hb5.block (B + 1) l1).trans HY.out
        have HB5 : Hid (Below B w w5) := HB.out.trans (hb5.mono (by omega))
        have hs5 : B + 1 < w5.heap.size := (Array.getElem?_eq_some_iff.1 HY5.out).1
        clear hb5 l1
        go_wp2_with fail
        obtain ⟨W6, hW6⟩ : ∃ W6, W6 = w5.alloc (Obj.cells #[Value.int IntKind.i64 o.at_, Value.int IntKind.i64 o.size, Value.int IntKind.i64 o.room, Value.bool o.marked] 40) := ⟨_, rfl⟩
        rw [← hW6]
        have HX6 : Hid (W6.heap[B]? = some (.cells #[.int .i64 0, .int .i64 0] 83 (0, 0))) := by rw [hW6]; exact (Below.heap_alloc _ _ _ (by omega)).trans HX5.out
        have HY6 : Hid (W6.heap[B + 1]? = some (.cells #[.int .i64 j, .int .i64 0] 83 (0, 0))) := by rw [hW6]; exact (Below.heap_alloc _ _ _ (by omega)).trans HY5.out
        have HZ6 : Hid (W6.heap[w5.heap.size]? = some (.cells #[Value.int IntKind.i64 o.at_, Value.int IntKind.i64 o.size, Value.int IntKind.i64 o.room, Value.bool o.marked] 40 (0, 0))) := by rw [hW6]; exact (MapKept.heap_alloc _ _).1
        have HB6 : Hid (Below B w W6) := by rw [hW6]; exact HB5.out.alloc (by omega) _
        clear hW6
        have y0 : W6.cell? ⟨B + 1, 0, none⟩ = some (.int .i64 j) := cell_blk HY6.out 0
        have y1 : W6.cell? ⟨B + 1, 1, none⟩ = some (.int .i64 0) := cell_blk HY6.out 1
        have x0 : W6.cell? ⟨B, 0, none⟩ = some (.int .i64 0) := cell_blk HX6.out 0
        have x1 : W6.cell? ⟨B, 1, none⟩ = some (.int .i64 0) := cell_blk HX6.out 1
        have xf : ∀ o, W6.frozen? ⟨B, o, none⟩ = false := frozen_blk HX6.out
        have z0 : W6.cell? ⟨w5.heap.size, 0, none⟩ = some (.int .i64 o.at_) := cell_blk HZ6.out 0
        have z1 : W6.cell? ⟨w5.heap.size, 1, none⟩ = some (.int .i64 o.size) := cell_blk HZ6.out 1
        obtain ⟨ho1, ho2, ho3⟩ := hobs
        go_region
        all_goals go_wp2_with fail
        have hrb := blk_set (blk_set HX6.out 0 (Value.int IntKind.i64 j)) 1 (Value.int IntKind.i64 0)
        have hrb1 : (((W6.setCell { block := B, off := 0 } (Value.int IntKind.i64 j)).setCell { block := B, off := 1 } (Value.int IntKind.i64 0)).drew).cell? ⟨B, 0, none⟩ = _ := cell_blk hrb 0
        have hrb2 : (((W6.setCell { block := B, off := 0 } (Value.int IntKind.i64 j)).setCell { block := B, off := 1 } (Value.int IntKind.i64 0)).drew).cell? ⟨B, 1, none⟩ = _ := cell_blk hrb 1
        refine bodyPost_ret (v := .tuple #[pv j 0, .bool (decide ((ad : Int) < o.at_ + o.size))]) (by simp [results, Tryd.results33, go_sem, pv, hrb1, hrb2]) rfl ⟨HFF.out, ?_⟩
        rw [← HBw.out]
        exact ((HB6.out.setCell (p := ⟨B, 0, none⟩) (Nat.le_refl _) _).setCell (p := ⟨B, 1, none⟩) (Nat.le_refl _) _).drew
end Go.Proofs.YtdgfnlagbdmniaaDoor.Pl
namespace Go.Proofs.YtdgfnlagbdmniaaDoor.Pl
open Go.RowKit

def clears (cs : List Chunk) (i : Nat) : Nat → List Chunk
  | 0 => cs
  | k + 1 => (clears cs i k).set (i + k) Chunk.zero
theorem clears_length (cs : List Chunk) (i k : Nat) : (clears cs i k).length = cs.length := by
  induction k with
  | zero => rfl
  | succ k ih => simp [clears, ih]
theorem zero_lit : Chunk.zero.vals.toArray = #[.int .i64 0, .int .i64 0, .int .u32 0, .int .u32 0, .int .i64 0, .int .i64 0, .int .i64 0, .int .i64 0, .int .i64 0, .int .i64 0, .int .i64 0, .int .i64 0, .int .i64 0, .int .i64 0, .int .i64 0, .int .i64 0, .int .i64 0, .int .i64 0, .int .i64 0, .int .i64 0, .int .i64 0, .int .i64 0, .int .i64 0, .int .i64 0, .int .i64 0, .int .i64 0, .int .i64 0, .int .i64 0, .int .i64 0, .int .i64 0, .int .i64 0, .int .i64 0, .int .i64 0, .int .i64 0, .int .i64 0, .int .i64 0, .int .i64 0, .int .i64 0, .bool false] := by
  simp [Chunk.vals, Chunk.zero, List.replicate]

set_option maxRecDepth 100000 in
set_option maxHeartbeats 1000000 in
theorem remove_head {w : World} {a b : Nat} {cs : List Chunk} (h : At w a b cs) (i s : Nat) (c : Chunk) (hi : cs[i]? = some c) (h2 : c.what = 2) (hfit : i + c.many ≤ cs.length) :
    Calls Tryd.prog 35 #[.pointer (some ⟨a, 0, none⟩), .agg #[.int .i64 i, .int .i64 s]] w fun e w' => e = .returned (.tuple #[]) ∧ At w' a b (clears cs i c.many) ∧ w.grownBy w' (some b) := by
  have hp := h.cell_p
  have ha := h.lt_a
  have hb := h.lt_b
  have hfew := h.few
  have hlt : i < cs.length := (List.getElem?_eq_some_iff.1 hi).1
  have c0 := h.what hi
  have c2 := h.many hi
  rw [h2] at c0
  have hab := h.ne
  have HA := Lib.hid h; clear h
  have HC := Lib.hid hi
  have HC2 := Lib.hid h2
  clear hi h2
  generalize hN : cs.length = N at *
  have HN := Lib.hid hN; clear hN
  have hMM : c.many ≤ 256 := by omega
  generalize hmm : c.many = many at *
  have HMM := Lib.hid hmm; clear hmm
  go_enter Tryd.func35, Tryd.ntmps35
  go_wp2_with fail
  obtain ⟨W1, hW1⟩ : ∃ W1, W1 = w.alloc (Obj.cells #[Value.int IntKind.i64 ↑i, Value.int IntKind.i64 ↑s] 83) := ⟨_, rfl⟩
  rw [← hW1]
  obtain ⟨B, hB⟩ : ∃ B, B = w.heap.size := ⟨_, rfl⟩
  have HA1 : Hid (At W1 a b cs) := by rw [hW1]; exact HA.out.alloc _
  have HX1 : Hid (W1.heap[B]? = some (.cells #[.int .i64 i, .int .i64 s] 83 (0, 0))) := by rw [hW1, hB]; exact (MapKept.heap_alloc _ _).1
  have HG1 : Hid (w.grownBy W1 (some b)) := by rw [hW1]; exact fr_alloc (fr_refl _ _) _
  rw [← hB] at ha hb ⊢
  clear hB hW1 hp c0 c2
  have hp := HA1.out.cell_p
  rw [HN.out] at hp
  have x0 : W1.cell? ⟨B, 0, none⟩ = some (.int .i64 i) := cell_blk HX1.out 0
  have x1 : W1.cell? ⟨B, 1, none⟩ = some (.int .i64 s) := cell_blk HX1.out 1
  have c0 := HA1.out.what HC.out
  have c2 := HA1.out.many HC.out
  rw [HC2.out] at c0
  go_quiet (fail)
  obtain ⟨W2, hW2⟩ : ∃ W2, W2 = W1.drewN nq := ⟨_, rfl⟩
  rw [← hW2]
  have HA2 : Hid (At W2 a b cs) := by rw [hW2]; exact HA1.out.drewN _
  have HX2 : Hid (W2.heap[B]? = some (.cells #[.int .i64 i, .int .i64 s] 83 (0, 0))) := by rw [hW2]; exact HX1.out
  have HG2 : Hid (w.grownBy W2 (some b)) := by rw [hW2]; exact fr_drewN HG1.out _
  clear hW2 hp c0 c2 x0 x1
  have c0 := HA2.out.what HC.out
  have c2 := HA2.out.many HC.out
  rw [HMM.out] at c2
  rw [HC2.out] at c0
  go_wp2_with fail
  clear c0 c2
  go_loopg [24] many (fun g s24 wx => ∃ k : Nat, k + g = many ∧ s24 = .int .i64 k ∧ At wx a b (clears cs i k) ∧ wx.heap[B]? = some (.cells #[.int .i64 i, .int .i64 s] 83 (0, 0)) ∧ w.grownBy wx (some b))
  case atStart => exact ⟨0, by omega, rfl, HA2.out, HX2.out, HG2.out⟩
  case round =>
    obtain ⟨k, hkg, rfl, hAk, hXk, hGk⟩ := hrel
    have HAk := Lib.hid hAk; clear hAk
    have HXk := Lib.hid hXk; clear hXk
    have HGk := Lib.hid hGk; clear hGk
    have hp := HAk.out.cell_p
    rw [clears_length, HN.out] at hp
    have x0 : wr.cell? ⟨B, 0, none⟩ = some (.int .i64 i) := cell_blk HXk.out 0
    have x1 : wr.cell? ⟨B, 1, none⟩ = some (.int .i64 s) := cell_blk HXk.out 1
    by_cases hk : k < many
    · have hth : wr.there b ((i + k) * 39) 39 := HAk.out.there (i + k) (by rw [clears_length, HN.out]; omega)
      have HT := Lib.hid hth; clear hth
      go_wp2_with fail
      refine wp_region_still_tail 10 (by kernel_rfl) (by kernel_rfl) ?_
      simp only [List.take_succ_cons, List.take_zero, List.drop_succ_cons, List.drop_zero]
      rw [show (⟨wr.heap, wr.tape, wr.drawn + 1, wr.os, wr.output⟩ : World) = wr.drew from rfl]
      have k1 : i + k < N := by omega
      have k2 : (i : Int) + (k : Int) < (N : Int) := by omega
      have k3 : 0 ≤ (i : Int) + (k : Int) := by omega
      have k5 : IntKind.i64.wrap ((i : Int) + (k : Int)) = (i : Int) + (k : Int) := by rw [IntKind.wrap_i64]; omega
      have k4 : ((i : Int) + (k : Int)).toNat = i + k := by omega
      repeat still_step
      refine wpStill_nil ?_
      change wpList _ _ _ _ _ wr.drew
      refine store_chunk b ((i + k) * 39) Chunk.zero.vals.toArray ?x1 ?y1 ?t1 ?z1 ?o1 ?_
      case x1 => rfl
      case y1 => rw [zero_lit]; rfl
      case t1 => exact HT.out
      case z1 => rfl
      case o1 => exact vals_one _
      go_wp2
      go_roundg (many - k - 1)
      case measure => omega
      case rel =>
        refine ⟨k + 1, by omega, by go_num, ?_, ?_, fr_setCells _ _ _ _ (fr_drew HGk.out)⟩
        · exact HAk.out.drew.store (i + k) (by rw [clears_length, HN.out]; omega) Chunk.zero rfl
        · exact (blk_setCells_ne (by omega) _ _ _).trans HXk.out
    · obtain rfl : k = many := by omega
      go_wp2_with fail
      exact bodyPost_ret (v := .tuple #[]) (by simp [results, Tryd.results35, go_sem]) rfl ⟨rfl, HAk.out, HGk.out⟩

def dropC (c : Chunk) (s : Nat) : Chunk := { c with taken := c.taken &&& (4294967295 - 2 ^ s) }
def leftC (c : Chunk) (s : Nat) : Chunk := if (dropC c s).taken = 0 then Chunk.zero else dropC c s

set_option maxRecDepth 100000 in
set_option maxHeartbeats 1000000 in
theorem remove_slot {w : World} {a b : Nat} {cs : List Chunk} (h : At w a b cs) (i s : Nat) (c : Chunk) (hi : cs[i]? = some c) (h2 : c.what ≠ 2) (hs : s < 32) (ht : c.taken < 4294967296) :
    Calls Tryd.prog 35 #[.pointer (some ⟨a, 0, none⟩), .agg #[.int .i64 i, .int .i64 s]] w fun e w' => e = .returned (.tuple #[]) ∧ At w' a b (cs.set i (leftC c s)) ∧ w.grownBy w' (some b) := by
  have hp := h.cell_p
  have ha := h.lt_a
  have hb := h.lt_b
  have hfew := h.few
  have hlt : i < cs.length := (List.getElem?_eq_some_iff.1 hi).1
  have hab := h.ne
  have h2s : 2 ^ s < 4294967296 := Nat.pow_lt_pow_right (a := 2) (m := s) (n := 32) (by decide) hs
  have e0 : ((c.what : Int) == 2) = false := by simp; omega
  have hl := h.ok c (List.mem_of_getElem? hi)
  have HL := Lib.hid hl; clear hl
  have HE : Hid (bits .andNot .u32 (c.taken : Int) (2 ^ s % 4294967296) = (((dropC c s).taken : Nat) : Int)) := by
    show _ = _; rw [u32_shl s hs, u32_andNot _ _ ht h2s]; rfl
  have HA := Lib.hid h; clear h
  have HC := Lib.hid hi
  clear hi h2 h2s ht
  generalize hN : cs.length = N at *
  have HN := Lib.hid hN; clear hN
  go_enter Tryd.func35, Tryd.ntmps35
  go_wp2_with fail
  obtain ⟨W1, hW1⟩ : ∃ W1, W1 = w.alloc (Obj.cells #[Value.int IntKind.i64 ↑i, Value.int IntKind.i64 ↑s] 83) := ⟨_, rfl⟩
  rw [← hW1]
  obtain ⟨B, hB⟩ : ∃ B, B = w.heap.size := ⟨_, rfl⟩
  have HA1 : Hid (At W1 a b cs) := by rw [hW1]; exact HA.out.alloc _
  have HX1 : Hid (W1.heap[B]? = some (.cells #[.int .i64 i, .int .i64 s] 83 (0, 0))) := by rw [hW1, hB]; exact (MapKept.heap_alloc _ _).1
  have HG1 : Hid (w.grownBy W1 (some b)) := by rw [hW1]; exact fr_alloc (fr_refl _ _) _
  rw [← hB] at ha hb ⊢
  clear hB hW1 hp
  have hp := HA1.out.cell_p
  rw [HN.out] at hp
  have x0 : W1.cell? ⟨B, 0, none⟩ = some (.int .i64 i) := cell_blk HX1.out 0
  have x1 : W1.cell? ⟨B, 1, none⟩ = some (.int .i64 s) := cell_blk HX1.out 1
  have c0 := HA1.out.what HC.out
  have c2 := HA1.out.taken HC.out
  go_quiet (fail)
  obtain ⟨W2, hW2⟩ : ∃ W2, W2 = W1.drewN nq := ⟨_, rfl⟩
  rw [← hW2]
  have HA2 : Hid (At W2 a b cs) := by rw [hW2]; exact HA1.out.drewN _
  have HX2 : Hid (W2.heap[B]? = some (.cells #[.int .i64 i, .int .i64 s] 83 (0, 0))) := by rw [hW2]; exact HX1.out
  have HG2 : Hid (w.grownBy W2 (some b)) := by rw [hW2]; exact fr_drewN HG1.out _
  clear hW2 hp c0 c2 x0 x1
  have c0 := HA2.out.what HC.out
  have c2 := HA2.out.taken HC.out
  have x0 : W2.cell? ⟨B, 0, none⟩ = some (.int .i64 i) := cell_blk HX2.out 0
  have x1 : W2.cell? ⟨B, 1, none⟩ = some (.int .i64 s) := cell_blk HX2.out 1
  have f2 := HA2.out.frozen
  go_wp2_with fail
  go_region
  all_goals rw [HE.out]
  obtain ⟨W3, hW3⟩ : ∃ W3, W3 = (W2.setCell { block := b, off := i * 39 + 2 } (Value.int IntKind.u32 ↑(dropC c s).taken)).drew := ⟨_, rfl⟩
  rw [← hW3]
  have HA3 : Hid (At W3 a b (cs.set i (dropC c s))) := by
    rw [hW3]
    exact (HA2.out.setCell HC.out (k := 2) (by decide) (.int .u32 (((dropC c s).taken : Nat) : Int)) (d := dropC c s) rfl HL.out).drew
  have HG3 : Hid (w.grownBy W3 (some b)) := by rw [hW3]; exact fr_drew (fr_set HG2.out _ _)
  have hc3 : (cs.set i (dropC c s))[i]? = some (dropC c s) := by rw [List.getElem?_set_self (by rw [HN.out]; exact hlt)]
  have c2' := HA3.out.taken hc3
  clear c0 c2 x0 x1 f2 hW3 hc3
  by_cases h0 : (dropC c s).taken = 0
  · have HF : Hid (leftC c s = Chunk.zero) := if_pos h0
    rw [h0] at c2'
    have hth : W3.there b (i * 39) 39 := HA3.out.there i (by rw [List.length_set, HN.out]; omega)
    have HT := Lib.hid hth; clear hth h0
    go_wp2_with ((with_reducible refine store_chunk b (i * 39) Chunk.zero.vals.toArray ?x1 ?y1 ?t1 ?z1 ?o1 ?_); (case x1 => rfl); (case y1 => rw [zero_lit]; rfl); (case t1 => exact HT.out); (case z1 => rfl); (case o1 => exact vals_one _))
    refine bodyPost_end (v := .tuple #[]) (by simp [results, Tryd.results35, go_sem]) rfl ⟨rfl, ?_, fr_setCells _ _ _ _ HG3.out⟩
    rw [HF.out]
    have := HA3.out.store i (by rw [List.length_set, HN.out]; omega) Chunk.zero rfl
    rw [List.set_set] at this
    exact this
  · have HF : Hid (leftC c s = dropC c s) := if_neg h0
    have e2 : (((dropC c s).taken : Int) == 0) = false := by simp; omega
    clear h0
    go_wp2_with fail
    refine bodyPost_end (v := .tuple #[]) (by simp [results, Tryd.results35, go_sem]) rfl ⟨rfl, ?_, HG3.out⟩
    rw [HF.out]
    exact HA3.out

def markC (c : Chunk) (s : Nat) (m : Bool) : Chunk := if m then { c with marks := c.marks ||| 2 ^ s } else { c with marks := c.marks &&& (4294967295 - 2 ^ s) }

set_option maxRecDepth 100000 in
set_option maxHeartbeats 1000000 in
theorem setMark_head {w : World} {a b : Nat} {cs : List Chunk} (h : At w a b cs) (i s : Nat) (m : Bool) (c : Chunk) (hi : cs[i]? = some c) (h2 : c.what = 2) :
    Calls Tryd.prog 37 #[.pointer (some ⟨a, 0, none⟩), .agg #[.int .i64 i, .int .i64 s], .bool m] w fun e w' => e = .returned (.tuple #[]) ∧ At w' a b (cs.set i { c with marked := m }) ∧ w.grownBy w' (some b) := by
  have hp := h.cell_p
  have ha := h.lt_a
  have hb := h.lt_b
  have hfew := h.few
  have hlt : i < cs.length := (List.getElem?_eq_some_iff.1 hi).1
  have hab := h.ne
  have hl := h.ok c (List.mem_of_getElem? hi)
  have HL := Lib.hid hl; clear hl
  have HA := Lib.hid h; clear h
  have HC := Lib.hid hi
  have HC2 := Lib.hid h2
  clear hi h2
  generalize hN : cs.length = N at *
  have HN := Lib.hid hN; clear hN
  go_enter Tryd.func37, Tryd.ntmps37
  go_wp2_with fail
  obtain ⟨W1, hW1⟩ : ∃ W1, W1 = w.alloc (Obj.cells #[Value.int IntKind.i64 ↑i, Value.int IntKind.i64 ↑s] 83) := ⟨_, rfl⟩
  rw [← hW1]
  obtain ⟨B, hB⟩ : ∃ B, B = w.heap.size := ⟨_, rfl⟩
  have HA1 : Hid (At W1 a b cs) := by rw [hW1]; exact HA.out.alloc _
  have HX1 : Hid (W1.heap[B]? = some (.cells #[.int .i64 i, .int .i64 s] 83 (0, 0))) := by rw [hW1, hB]; exact (MapKept.heap_alloc _ _).1
  have HG1 : Hid (w.grownBy W1 (some b)) := by rw [hW1]; exact fr_alloc (fr_refl _ _) _
  rw [← hB] at ha hb ⊢
  clear hB hW1 hp
  have hp := HA1.out.cell_p
  rw [HN.out] at hp
  have x0 : W1.cell? ⟨B, 0, none⟩ = some (.int .i64 i) := cell_blk HX1.out 0
  have x1 : W1.cell? ⟨B, 1, none⟩ = some (.int .i64 s) := cell_blk HX1.out 1
  have c0 := HA1.out.what HC.out
  rw [HC2.out] at c0
  go_quiet (fail)
  obtain ⟨W2, hW2⟩ : ∃ W2, W2 = W1.drewN nq := ⟨_, rfl⟩
  rw [← hW2]
  have HA2 : Hid (At W2 a b cs) := by rw [hW2]; exact HA1.out.drewN _
  have HG2 : Hid (w.grownBy W2 (some b)) := by rw [hW2]; exact fr_drewN HG1.out _
  clear hW2 hp c0 x0 x1
  have c0 := HA2.out.what HC.out
  have c2 := HA2.out.marked HC.out
  rw [HC2.out] at c0
  have f2 := HA2.out.frozen
  go_wp2_with fail
  refine bodyPost_end (v := .tuple #[]) (by simp [results, Tryd.results37, go_sem]) rfl ⟨rfl, ?_, fr_set HG2.out _ _⟩
  exact HA2.out.setCell HC.out (k := 38) (by decide) (.bool m) (d := { c with marked := m }) (by simp [Chunk.vals, HL.out]) HL.out

set_option maxRecDepth 100000 in
set_option maxHeartbeats 1000000 in
theorem setMark_slot {w : World} {a b : Nat} {cs : List Chunk} (h : At w a b cs) (i s : Nat) (m : Bool) (c : Chunk) (hi : cs[i]? = some c) (h2 : c.what ≠ 2) (hs : s < 32) (ht : c.marks < 4294967296) :
    Calls Tryd.prog 37 #[.pointer (some ⟨a, 0, none⟩), .agg #[.int .i64 i, .int .i64 s], .bool m] w fun e w' => e = .returned (.tuple #[]) ∧ At w' a b (cs.set i (markC c s m)) ∧ w.grownBy w' (some b) := by
  have hp := h.cell_p
  have ha := h.lt_a
  have hb := h.lt_b
  have hfew := h.few
  have hlt : i < cs.length := (List.getElem?_eq_some_iff.1 hi).1
  have hab := h.ne
  have h2s : 2 ^ s < 4294967296 := Nat.pow_lt_pow_right (a := 2) (m := s) (n := 32) (by decide) hs
  have e0 : ((c.what : Int) == 2) = false := by simp; omega
  have hl := h.ok c (List.mem_of_getElem? hi)
  have HL := Lib.hid hl; clear hl
  have HE : Hid (bits .andNot .u32 (c.marks : Int) (2 ^ s % 4294967296) = (((markC c s false).marks : Nat) : Int)) := by
    show _ = _; rw [u32_shl s hs, u32_andNot _ _ ht h2s]; rfl
  have HO : Hid (bits .or .u32 (c.marks : Int) (2 ^ s % 4294967296) = (((markC c s true).marks : Nat) : Int)) := by
    show _ = _; rw [u32_shl s hs, u32_or _ _ ht h2s]; rfl
  have HA := Lib.hid h; clear h
  have HC := Lib.hid hi
  clear hi h2 h2s ht
  generalize hN : cs.length = N at *
  have HN := Lib.hid hN; clear hN
  go_enter Tryd.func37, Tryd.ntmps37
  go_wp2_with fail
  obtain ⟨W1, hW1⟩ : ∃ W1, W1 = w.alloc (Obj.cells #[Value.int IntKind.i64 ↑i, Value.int IntKind.i64 ↑s] 83) := ⟨_, rfl⟩
  rw [← hW1]
  obtain ⟨B, hB⟩ : ∃ B, B = w.heap.size := ⟨_, rfl⟩
  have HA1 : Hid (At W1 a b cs) := by rw [hW1]; exact HA.out.alloc _
  have HX1 : Hid (W1.heap[B]? = some (.cells #[.int .i64 i, .int .i64 s] 83 (0, 0))) := by rw [hW1, hB]; exact (MapKept.heap_alloc _ _).1
  have HG1 : Hid (w.grownBy W1 (some b)) := by rw [hW1]; exact fr_alloc (fr_refl _ _) _
  rw [← hB] at ha hb ⊢
  clear hB hW1 hp
  have hp := HA1.out.cell_p
  rw [HN.out] at hp
  have x0 : W1.cell? ⟨B, 0, none⟩ = some (.int .i64 i) := cell_blk HX1.out 0
  have x1 : W1.cell? ⟨B, 1, none⟩ = some (.int .i64 s) := cell_blk HX1.out 1
  have c0 := HA1.out.what HC.out
  go_quiet (fail)
  obtain ⟨W2, hW2⟩ : ∃ W2, W2 = W1.drewN nq := ⟨_, rfl⟩
  rw [← hW2]
  have HA2 : Hid (At W2 a b cs) := by rw [hW2]; exact HA1.out.drewN _
  have HX2 : Hid (W2.heap[B]? = some (.cells #[.int .i64 i, .int .i64 s] 83 (0, 0))) := by rw [hW2]; exact HX1.out
  have HG2 : Hid (w.grownBy W2 (some b)) := by rw [hW2]; exact fr_drewN HG1.out _
  clear hW2 hp c0 x0 x1
  have c0 := HA2.out.what HC.out
  have c2 := HA2.out.marks HC.out
  have x0 : W2.cell? ⟨B, 0, none⟩ = some (.int .i64 i) := cell_blk HX2.out 0
  have x1 : W2.cell? ⟨B, 1, none⟩ = some (.int .i64 s) := cell_blk HX2.out 1
  have f2 := HA2.out.frozen
  cases m with
  | true =>
    go_wp2_with fail
    go_region
    all_goals rw [HO.out]
    all_goals go_wp2_with fail
    refine bodyPost_end (v := .tuple #[]) (by simp [results, Tryd.results37, go_sem]) rfl ⟨rfl, ?_, fr_drew (fr_set HG2.out _ _)⟩
    exact (HA2.out.setCell HC.out (k := 3) (by decide) (.int .u32 (((markC c s true).marks : Nat) : Int)) (d := markC c s true) rfl HL.out).drew
  | false =>
    go_wp2_with fail
    go_region
    all_goals rw [HE.out]
    all_goals go_wp2_with fail
    refine bodyPost_end (v := .tuple #[]) (by simp [results, Tryd.results37, go_sem]) rfl ⟨rfl, ?_, fr_drew (fr_set HG2.out _ _)⟩
    exact (HA2.out.setCell HC.out (k := 3) (by decide) (.int .u32 (((markC c s false).marks : Nat) : Int)) (d := markC c s false) rfl HL.out).drew
end Go.Proofs.YtdgfnlagbdmniaaDoor.Pl
namespace Go.Proofs.YtdgfnlagbdmniaaDoor.Pl
open Go.RowKit

/-- A place at which an object is. -/
def IsPl (cs : List Chunk) (i s : Nat) (c : Chunk) : Prop := cs[i]? = some c ∧ ((c.what = 2 ∧ s = 0) ∨ (c.what = 1 ∧ s < 32 / 2 ^ c.cls ∧ c.taken.testBit s = true))

theorem mem_placesOf {c : Chunk} {i : Nat} {p : Nat × Nat} : p ∈ placesOf c i ↔ p.1 = i ∧ ((c.what = 2 ∧ p.2 = 0) ∨ (c.what = 1 ∧ p.2 < 32 / 2 ^ c.cls ∧ c.taken.testBit p.2 = true)) := by
  unfold placesOf
  obtain ⟨x, y⟩ := p
  by_cases h2 : c.what = 2
  · simp [h2]
  · by_cases h1 : c.what = 1
    · simp [h1, slotsOf]
      constructor
      · rintro ⟨h, e⟩; exact ⟨e.symm, h⟩
      · rintro ⟨e, h⟩; exact ⟨h, e.symm⟩
    · simp [h1, h2]
theorem mem_places {cs : List Chunk} {p : Nat × Nat} : p ∈ places cs ↔ ∃ c, IsPl cs p.1 p.2 c := by
  unfold places placesTo
  rw [List.mem_flatMap]
  constructor
  · rintro ⟨j, hj, hp⟩
    simp at hj
    have e : cs.getD j Chunk.zero = cs[j] := by simp [List.getD, List.getElem?_eq_getElem hj]
    rw [e] at hp
    obtain ⟨rfl, h⟩ := mem_placesOf.1 hp
    exact ⟨_, by simp [hj], h⟩
  · rintro ⟨c, hc, h⟩
    have hlt := (List.getElem?_eq_some_iff.1 hc).1
    refine ⟨p.1, by simpa using hlt, ?_⟩
    have e : cs.getD p.1 Chunk.zero = c := by simp [List.getD, hc]
    rw [e]
    exact mem_placesOf.2 ⟨rfl, h⟩
theorem mem_objs {cs : List Chunk} {o : PObj} : o ∈ objs cs ↔ ∃ i s c, IsPl cs i s c ∧ o = objOf c i s := by
  unfold objs
  rw [List.mem_map]
  constructor
  · rintro ⟨p, hp, rfl⟩
    obtain ⟨c, hc⟩ := mem_places.1 hp
    refine ⟨p.1, p.2, c, hc, ?_⟩
    have e : cs.getD p.1 Chunk.zero = c := by simp [List.getD, hc.1]
    rw [e]
  · rintro ⟨i, s, c, hc, rfl⟩
    refine ⟨(i, s), mem_places.2 ⟨c, hc⟩, ?_⟩
    have e : cs.getD i Chunk.zero = c := by simp [List.getD, hc.1]
    rw [e]

theorem pl_slots {cs : List Chunk} (h : Good cs) {i : Nat} {c : Chunk} (hi : cs[i]? = some c) (hw : c.what = 1) : SlotsOk c := by
  rcases h.mem c (List.mem_of_getElem? hi) with rfl | h | ⟨_, _, _, _, _, _, rfl⟩ | rfl
  · simp [Chunk.zero] at hw
  · exact h
  · simp [headM, headC] at hw
  · simp [tailC] at hw
theorem pl_head {cs : List Chunk} (h : Good cs) {i : Nat} {c : Chunk} (hi : cs[i]? = some c) (hw : c.what = 2) :
    ∃ size many m, 512 < size ∧ size ≤ 262144 ∧ ((many : Nat) : Int) = (size + 1023) / 1024 ∧ c = headM size many m ∧ i + many ≤ cs.length ∧
      cs = cs.take i ++ (headM size many m :: List.replicate (many - 1) tailC) ++ cs.drop (i + many) ∧ Good (cs.take i) ∧ Good (cs.drop (i + many)) := by
  obtain ⟨g1, g2, e⟩ := h.at_ hi (by omega)
  have hlt := (List.getElem?_eq_some_iff.1 hi).1
  rcases g2.cons with ⟨rfl, _⟩ | ⟨h, _⟩ | ⟨size, many, m, zs, h1, h2, h3, rfl, hz, g3⟩
  · simp [Chunk.zero] at hw
  · have := h.what; omega
  · have hm : 1 ≤ many := by omega
    have hl : (cs.drop (i + 1)).length = (many - 1) + zs.length := by rw [hz]; simp
    have hl2 : (cs.drop (i + 1)).length = cs.length - (i + 1) := by simp
    have ed : cs.drop (i + many) = zs := by
      rw [show i + many = i + 1 + (many - 1) by omega, ← List.drop_drop, hz, List.drop_left' (by simp)]
    refine ⟨size, many, m, h1, h2, h3, rfl, by omega, ?_, g1, by rw [ed]; exact g3⟩
    rw [ed, List.append_assoc, List.cons_append, ← hz]
    exact e

theorem pl_ok {cs : List Chunk} (h : Good cs) {i s : Nat} {c : Chunk} (hp : IsPl cs i s c) : OOk (objOf c i s) ∧ i * 1024 ≤ (objOf c i s).at_ ∧ (objOf c i s).at_ + (objOf c i s).room ≤ cs.length * 1024 ∧ objOf c i s ∈ objs cs := by
  have hm : objOf c i s ∈ objs cs := mem_objs.2 ⟨i, s, c, hp, rfl⟩
  have hr := (good_objs h 0).1
  rw [← objs_eq] at hr
  obtain ⟨_, h2, h3⟩ := hr _ hm
  refine ⟨h3, ?_, by simpa using h2, hm⟩
  unfold objOf
  split <;> simp

/-- The first of the chunks of which one is a part. -/
theorem head_of {cs : List Chunk} (h : Good cs) : ∀ j, j < cs.length → ∃ hd c, hd ≤ j ∧ cs[hd]? = some c ∧ c.what < 3 ∧ ∀ k, hd < k → k ≤ j → ∃ d, cs[k]? = some d ∧ d.what = 3 := by
  intro j
  induction j with
  | zero =>
    intro hj
    refine ⟨0, cs[0], Nat.le_refl _, by simp [hj], ?_, fun k h1 h2 => by omega⟩
    have hw := (h.what cs[0] (List.getElem_mem _)).1
    cases cs with
    | nil => simp at hj
    | cons c cs =>
      rcases h.cons with ⟨rfl, _⟩ | ⟨h, _⟩ | ⟨size, many, m, zs, _, _, _, rfl, _⟩
      · simp [Chunk.zero]
      · simp [h.what]
      · simp [headM, headC]
  | succ j ih =>
    intro hj
    have hw := (h.what cs[j + 1] (List.getElem_mem _)).1
    by_cases h3 : cs[j + 1].what = 3
    · obtain ⟨hd, c, a1, a2, a3, a4⟩ := ih (by omega)
      refine ⟨hd, c, by omega, a2, a3, fun k h1 h2 => ?_⟩
      by_cases e : k = j + 1
      · subst e; exact ⟨_, by simp [hj], h3⟩
      · exact a4 k h1 (by omega)
    · exact ⟨j + 1, cs[j + 1], Nat.le_refl _, by simp [hj], by omega, fun k h1 h2 => by omega⟩

def FindL (cs : List Chunk) (ad : Int) (e : Ending) : Prop :=
  (∃ i s c, IsPl cs i s c ∧ ((objOf c i s).at_ : Int) ≤ ad ∧ ad < (objOf c i s).at_ + (objOf c i s).size ∧ e = .returned (.tuple #[pv i s, .bool true])) ∨
  ((∀ o ∈ objs cs, ¬ ((o.at_ : Int) ≤ ad ∧ ad < o.at_ + o.size)) ∧ ∃ i s : Nat, e = .returned (.tuple #[pv i s, .bool false]))

/-- An object in which an address lies is that of the address's head chunk. -/
theorem cover {cs : List Chunk} (h : Good cs) {ad hd : Nat} (hh : hd ≤ ad / 1024) {c : Chunk} (hc : cs[hd]? = some c) (h3 : c.what < 3)
    (htl : ∀ k, hd < k → k ≤ ad / 1024 → ∃ d, cs[k]? = some d ∧ d.what = 3) {i s : Nat} {c' : Chunk} (hp : IsPl cs i s c') (h1 : (objOf c' i s).at_ ≤ ad) (h2 : (ad : Int) < (objOf c' i s).at_ + (objOf c' i s).size) :
    i = hd ∧ (c'.what = 1 → s = ad % 1024 / (32 * 2 ^ c'.cls)) := by
  obtain ⟨hi, hp'⟩ := hp
  rcases hp' with ⟨hw, rfl⟩ | ⟨hw, hs, hb⟩
  · obtain ⟨size, many, m, a1, a2, a3, rfl, a5, a6, _, _⟩ := pl_head h hi hw
    have e1 : objOf (headM size many m) i 0 = ⟨i * 1024, size, many * 1024, m⟩ := rfl
    rw [e1] at h1 h2
    simp only at h1 h2
    have hq : i ≤ ad / 1024 := by omega
    have hq2 : ad / 1024 < i + many := by omega
    refine ⟨?_, fun h => by rw [hw] at h; omega⟩
    have hnot : ∀ k, i < k → k < i + many → ∃ d, cs[k]? = some d ∧ d.what = 3 := by
      intro k k1 k2
      refine ⟨tailC, ?_, rfl⟩
      rw [a6, List.getElem?_append_left (by simp; omega), List.getElem?_append_right (by simp; omega)]
      simp only [List.length_take]
      rw [show k - min i cs.length = (k - i - 1) + 1 by omega, List.getElem?_cons_succ, List.getElem?_replicate, if_pos (by omega)]
    apply Classical.byContradiction
    intro hne
    rcases Nat.lt_or_ge hd i with hlt | hge
    · obtain ⟨d, d1, d2⟩ := htl i hlt hq
      rw [hi] at d1; cases d1; omega
    · obtain ⟨d, d1, d2⟩ := hnot hd (by omega) (by omega)
      rw [hc] at d1; cases d1; omega
  · have hso := pl_slots h hi hw
    obtain ⟨b1, b2, b3⟩ := slot_ok hso i s hs hb
    have hfit := b3.fit
    have e1 := obj_slot hw i s
    have hroom : (objOf c' i s).room = 32 * 2 ^ c'.cls := by rw [e1]
    have hat : (objOf c' i s).at_ = i * 1024 + s * (32 * 2 ^ c'.cls) := by rw [e1]
    have hsin := slot_in hso.cls hs
    have hq : ad / 1024 = i := by omega
    have hid : i = hd := by
      apply Classical.byContradiction
      intro hne
      obtain ⟨d, d1, d2⟩ := htl i (by omega) (by omega)
      rw [hi] at d1; cases d1; omega
    refine ⟨hid, fun _ => ?_⟩
    have hz : 0 < 32 * 2 ^ c'.cls := by have := Nat.pow_pos (a := 2) (n := c'.cls) (by decide); omega
    have hr : ad % 1024 = ad - i * 1024 := by omega
    generalize 32 * 2 ^ c'.cls = z at *
    rw [hr]
    have hl : s * z ≤ ad - i * 1024 := by omega
    have hu : ad - i * 1024 < (s + 1) * z := by rw [Nat.add_mul]; omega
    exact (Nat.div_eq_of_lt_le hl hu).symm

theorem find_good {cs : List Chunk} (h : Good cs) {ad hd : Nat} (hh : hd ≤ ad / 1024) {c : Chunk} (hc : cs[hd]? = some c) (h3 : c.what < 3)
    (htl : ∀ k, hd < k → k ≤ ad / 1024 → ∃ d, cs[k]? = some d ∧ d.what = 3) {e : Ending} (hf : FindC c hd ad e) : FindL cs ad e := by
  have hmiss : (∀ s, IsPl cs hd s c → (c.what = 1 → s = ad % 1024 / (32 * 2 ^ c.cls)) → ¬ (((objOf c hd s).at_ : Int) ≤ ad ∧ (ad : Int) < (objOf c hd s).at_ + (objOf c hd s).size)) →
      ∀ o ∈ objs cs, ¬ ((o.at_ : Int) ≤ ad ∧ (ad : Int) < o.at_ + o.size) := by
    intro hno o ho ⟨h1, h2⟩
    obtain ⟨i, s, c', hp, rfl⟩ := mem_objs.1 ho
    obtain ⟨rfl, hs⟩ := cover h hh hc h3 htl hp (by omega) h2
    have : c' = c := by have := hp.1; rw [hc] at this; exact (Option.some.inj this).symm
    subst this
    exact hno s hp hs ⟨h1, h2⟩
  rcases hf with ⟨hw, rfl⟩ | ⟨hw, hb, rfl⟩ | ⟨hw, hb, o, rfl, rfl⟩ | ⟨hw, o, rfl, rfl⟩
  · refine .inr ⟨hmiss fun s hp _ => ?_, 0, 0, rfl⟩
    rcases hp.2 with ⟨h, _⟩ | ⟨h, _⟩ <;> omega
  · refine .inr ⟨hmiss fun s hp hs => ?_, 0, 0, rfl⟩
    rcases hp.2 with ⟨h, _⟩ | ⟨h, _, hb'⟩
    · omega
    · rw [hs h, hb] at hb'; cases hb'
  · generalize hsd : ad % 1024 / (32 * 2 ^ c.cls) = s at *
    have hso := pl_slots h hc hw
    have hz : 0 < 32 * 2 ^ c.cls := by have := Nat.pow_pos (a := 2) (n := c.cls) (by decide); omega
    have hsl : s < 32 / 2 ^ c.cls := by
      have hm := per_mul c.cls hso.cls
      rw [← hsd, Nat.div_lt_iff_lt_mul hz, hm]
      exact Nat.mod_lt _ (by decide)
    have hp : IsPl cs hd s c := ⟨hc, .inr ⟨hw, hsl, hb⟩⟩
    by_cases hlt : (ad : Int) < (objOf c hd s).at_ + (objOf c hd s).size
    · refine .inl ⟨hd, s, c, hp, ?_, hlt, by rw [decide_eq_true hlt]⟩
      rw [obj_slot hw]
      simp only
      -- the slot's chunk is that of the address
      have hq : hd = ad / 1024 := by
        apply Classical.byContradiction
        intro hne
        have := htl
        obtain ⟨b1, b2, b3⟩ := slot_ok hso hd s hsl hb
        exfalso
        -- a chunk behind one with slots is not a tail
        obtain ⟨d, d1, d2⟩ := htl (hd + 1) (by omega) (by omega)
        obtain ⟨_, g2, _⟩ := h.at_ hc (by omega)
        rcases g2.cons with ⟨rfl, _⟩ | ⟨_, g3⟩ | ⟨size, many, m, zs, _, _, _, rfl, _⟩
        · simp [Chunk.zero] at hw
        · have hlt' := (List.getElem?_eq_some_iff.1 d1).1
          have hd0 : (cs.drop (hd + 1))[0]? = some d := by rw [List.getElem?_drop]; exact d1
          cases hcs : cs.drop (hd + 1) with
          | nil => rw [hcs] at hd0; cases hd0
          | cons x xs =>
            rw [hcs] at hd0 g3
            simp at hd0; subst hd0
            rcases g3.cons with ⟨rfl, _⟩ | ⟨h, _⟩ | ⟨size, many, m, zs, _, _, _, rfl, _⟩
            · simp [Chunk.zero] at d2
            · have := h.what; omega
            · simp [headM, headC] at d2
        · simp [headM, headC] at hw
      have := Nat.div_mul_le_self (ad % 1024) (32 * 2 ^ c.cls)
      rw [hsd] at this
      omega
    · refine .inr ⟨hmiss fun s' hp' hs' => ?_, hd, s, by rw [decide_eq_false hlt]⟩
      rw [hs' hw]
      exact fun h => hlt h.2
  · have hp : IsPl cs hd 0 c := ⟨hc, .inl ⟨hw, rfl⟩⟩
    by_cases hlt : (ad : Int) < (objOf c hd 0).at_ + (objOf c hd 0).size
    · refine .inl ⟨hd, 0, c, hp, ?_, hlt, by rw [decide_eq_true hlt]⟩
      have : (objOf c hd 0).at_ = hd * 1024 := by simp [objOf, hw]
      rw [this]
      omega
    · refine .inr ⟨hmiss fun s' hp' hs' => ?_, hd, 0, by rw [decide_eq_false hlt]⟩
      rcases hp'.2 with ⟨_, rfl⟩ | ⟨h, _⟩
      · exact fun h => hlt h.2
      · omega

/-! ### One object less; one object's mark -/
theorem seg_at {c : Chunk} (hw : c.what = 1) (i s d : Nat) (hd : 32 / 2 ^ c.cls = s + 1 + d) :
    segObjs c i = ((List.range s).filter fun j => c.taken.testBit j).map (objOf c i) ++ ((if c.taken.testBit s then [objOf c i s] else []) ++ (((List.range d).map fun x => s + 1 + x).filter fun j => c.taken.testBit j).map (objOf c i)) := by
  rw [seg_slots hw, slotsOf, hd, range_split, List.filter_append, List.filter_cons]
  cases c.taken.testBit s <;> simp

theorem seg_pair {c c' : Chunk} (hw : c.what = 1) (hw' : c'.what = 1) (hc : c'.cls = c.cls) (i s : Nat) (hs : s < 32 / 2 ^ c.cls)
    (heq : ∀ j, j < 32 → j ≠ s → c'.taken.testBit j = c.taken.testBit j ∧ objOf c' i j = objOf c i j) :
    ∃ X Y, segObjs c i = X ++ ((if c.taken.testBit s then [objOf c i s] else []) ++ Y) ∧ segObjs c' i = X ++ ((if c'.taken.testBit s then [objOf c' i s] else []) ++ Y) := by
  obtain ⟨d, hd⟩ : ∃ d, 32 / 2 ^ c.cls = s + 1 + d := ⟨32 / 2 ^ c.cls - (s + 1), by omega⟩
  have hn : s + 1 + d ≤ 32 := by rw [← hd]; exact Nat.div_le_self _ _
  refine ⟨_, _, seg_at hw i s d hd, ?_⟩
  rw [seg_at hw' i s d (by rw [hc]; exact hd)]
  have hf : ∀ l : List Nat, (∀ j ∈ l, j < 32 ∧ j ≠ s) → (l.filter fun j => c'.taken.testBit j).map (objOf c' i) = (l.filter fun j => c.taken.testBit j).map (objOf c i) := by
    intro l hl
    have e1 : (l.filter fun j => c'.taken.testBit j) = l.filter fun j => c.taken.testBit j := List.filter_congr fun j hj => (heq j (hl j hj).1 (hl j hj).2).1
    rw [e1]
    apply List.map_congr_left
    intro j hj
    have := hl j (List.mem_filter.1 hj).1
    exact (heq j this.1 this.2).2
  rw [hf _ (by intro j hj; simp at hj; omega), hf _ (by intro j hj; simp at hj; obtain ⟨x, hx, rfl⟩ := hj; omega)]

/-- A chunk with slots is exchanged for another one. -/
theorem set_objs {cs : List Chunk} {i : Nat} {c c' : Chunk} (hi : cs[i]? = some c) : objs cs = objsL 0 (cs.take i) ++ (segObjs c i ++ objsL (i + 1) (cs.drop (i + 1))) ∧ objs (cs.set i c') = objsL 0 (cs.take i) ++ (segObjs c' i ++ objsL (i + 1) (cs.drop (i + 1))) := by
  have hlt := (List.getElem?_eq_some_iff.1 hi).1
  have hl : (cs.take i).length = i := by simp; omega
  have e : cs = cs.take i ++ c :: cs.drop (i + 1) := by
    have e := (List.getElem?_eq_some_iff.1 hi).2
    rw [← e, ← List.drop_eq_getElem_cons hlt, List.take_append_drop]
  refine ⟨?_, ?_⟩
  · rw [objs_eq]
    conv => lhs; rw [e]
    rw [objsL_append, objsL, hl, Nat.zero_add]
  · rw [objs_eq, set_split cs i _ hlt, objsL_append, objsL, hl, Nat.zero_add]

def removeC (cs : List Chunk) (i s : Nat) (c : Chunk) : List Chunk := if c.what = 2 then clears cs i c.many else cs.set i (leftC c s)
def setMarkC (cs : List Chunk) (i s : Nat) (c : Chunk) (m : Bool) : List Chunk := if c.what = 2 then cs.set i { c with marked := m } else cs.set i (markC c s m)

theorem clears_get (cs : List Chunk) (i : Nat) : ∀ k j, i + k ≤ cs.length → (clears cs i k)[j]? = if i ≤ j ∧ j < i + k then some Chunk.zero else cs[j]? := by
  intro k
  induction k with
  | zero => intro j _; rw [if_neg (by omega)]; rfl
  | succ k ih =>
    intro j hk
    rw [clears, List.getElem?_set]
    by_cases e : i + k = j
    · subst e
      rw [if_pos rfl, if_pos (by rw [clears_length]; omega), if_pos (by omega)]
    · rw [if_neg e, ih j (by omega)]
      by_cases h : i ≤ j ∧ j < i + k
      · rw [if_pos h, if_pos (by omega)]
      · rw [if_neg h, if_neg (by omega)]
theorem clears_split (cs : List Chunk) (i many : Nat) (h : i + many ≤ cs.length) : clears cs i many = cs.take i ++ List.replicate many Chunk.zero ++ cs.drop (i + many) := by
  apply List.ext_getElem?
  intro j
  rw [clears_get cs i many j h, List.append_assoc]
  have hl : (cs.take i).length = i := by simp; omega
  by_cases h1 : j < i
  · rw [if_neg (by omega), List.getElem?_append_left (by omega), List.getElem?_take_of_lt h1]
  · rw [List.getElem?_append_right (by omega), hl]
    by_cases h2 : j < i + many
    · rw [if_pos (by omega), List.getElem?_append_left (by simp; omega), List.getElem?_replicate, if_pos (by omega)]
    · rw [if_neg (by omega), List.getElem?_append_right (by simp; omega), List.getElem?_drop]
      congr 1
      simp; omega

theorem dropC_bit (c : Chunk) (s j : Nat) (hs : s < 32) (hj : j < 32) : (dropC c s).taken.testBit j = (c.taken.testBit j && !decide (s = j)) := testBit_clear _ _ _ hs hj

/-- remove: one object less. -/
theorem remove_put {cs : List Chunk} (h : Good cs) {i s : Nat} {c : Chunk} (hp : IsPl cs i s c) : Good (removeC cs i s c) ∧ (removeC cs i s c).length = cs.length ∧ Put (objs (removeC cs i s c)) (objs cs) (objOf c i s) := by
  obtain ⟨hi, hp'⟩ := hp
  rcases hp' with ⟨hw, rfl⟩ | ⟨hw, hs, hb⟩
  · obtain ⟨size, many, m, a1, a2, a3, rfl, a5, a6, a7, a8⟩ := pl_head h hi hw
    have er : removeC cs i 0 (headM size many m) = cs.take i ++ List.replicate many Chunk.zero ++ cs.drop (i + many) := by
      unfold removeC; rw [if_pos hw]; exact clears_split cs i many a5
    rw [er]
    have hl : (cs.take i).length = i := by simp; omega
    refine ⟨(a7.append (Good.zeros _)).append a8, by simp; omega, objsL 0 (cs.take i), objsL (i + many) (cs.drop (i + many)), ?_, ?_⟩
    · rw [objs_eq, objsL_append, objsL_append, objsL_zeros, List.length_append, hl]; simp
    · rw [objs_eq]
      conv => lhs; rw [a6]
      rw [objsL_append, objsL_append, hl, objsL_large]
      simp
      refine ⟨rfl, ?_⟩
      congr 1; omega
  · have hso := pl_slots h hi hw
    have hs32 : s < 32 := Nat.lt_of_lt_of_le hs (Nat.div_le_self _ _)
    have hlt := (List.getElem?_eq_some_iff.1 hi).1
    have er : removeC cs i s c = cs.set i (leftC c s) := by unfold removeC; rw [if_neg (by omega)]
    rw [er]
    obtain ⟨g1, g2, e⟩ := h.at_ hi (by omega)
    have g3 : Good (cs.drop (i + 1)) := by
      rcases g2.cons with ⟨rfl, _⟩ | ⟨_, h⟩ | ⟨size, many, m, zs, _, _, _, rfl, _⟩
      · simp [Chunk.zero] at hw
      · exact h
      · simp [headM, headC] at hw
    have hbs : (dropC c s).taken.testBit s = false := by rw [dropC_bit c s s hs32 hs32]; simp
    obtain ⟨X, Y, e1, e2⟩ := seg_pair (c := c) (c' := dropC c s) hw hw rfl i s hs fun j hj hne => by
      refine ⟨?_, rfl⟩
      rw [dropC_bit c s j hs32 hj]
      have : decide (s = j) = false := by simp; omega
      simp [this]
    rw [hb, if_pos rfl] at e1
    rw [hbs] at e2
    simp only [Bool.false_eq_true, if_false, List.nil_append] at e2
    have hseg : segObjs (leftC c s) i = X ++ Y := by
      unfold leftC
      by_cases h0 : (dropC c s).taken = 0
      · rw [if_pos h0, ← e2]
        rw [seg_slots (c := dropC c s) hw]
        simp [slotsOf, h0, segObjs, placesOf, Chunk.zero]
      · rw [if_neg h0, e2]
    have hgood : Good [leftC c s] := by
      unfold leftC
      by_cases h0 : (dropC c s).taken = 0
      · rw [if_pos h0]; exact Good.seg (.inl rfl)
      · rw [if_neg h0]
        refine Good.seg (.inr (.inl ⟨_, rfl, hw, hso.sizes, hso.cls, ?_, h0, hso.marks, hso.many, fun j hj => ?_⟩))
        · have := hso.taken
          have := Nat.and_le_left (n := c.taken) (m := 4294967295 - 2 ^ s)
          show c.taken &&& _ < 2 ^ (32 / 2 ^ c.cls)
          omega
        · have hj' : (c.taken &&& (4294967295 - 2 ^ s)).testBit j = true := hj
          rw [Nat.testBit_and] at hj'
          simp only [Bool.and_eq_true] at hj'
          exact hso.szs j hj'.1
    obtain ⟨o1, o2⟩ := set_objs (c' := leftC c s) hi
    refine ⟨?_, by simp, objsL 0 (cs.take i) ++ X, Y ++ objsL (i + 1) (cs.drop (i + 1)), ?_, ?_⟩
    · rw [set_split cs i _ hlt]
      exact g1.append (hgood.append g3 : Good ([_] ++ _))
    · rw [o2, hseg]; simp
    · rw [o1, e1]; simp

def Remark (l m : List PObj) (o : PObj) (b : Bool) : Prop := ∃ A B, l = A ++ o :: B ∧ m = A ++ { o with marked := b } :: B

/-- setMark: one object's mark. -/
theorem mark_put {cs : List Chunk} (h : Good cs) {i s : Nat} {c : Chunk} (hp : IsPl cs i s c) (m : Bool) : Good (setMarkC cs i s c m) ∧ (setMarkC cs i s c m).length = cs.length ∧ Remark (objs cs) (objs (setMarkC cs i s c m)) (objOf c i s) m := by
  obtain ⟨hi, hp'⟩ := hp
  rcases hp' with ⟨hw, rfl⟩ | ⟨hw, hs, hb⟩
  · obtain ⟨size, many, m', a1, a2, a3, rfl, a5, a6, a7, a8⟩ := pl_head h hi hw
    have hlt := (List.getElem?_eq_some_iff.1 hi).1
    have hl : (cs.take i).length = i := by simp; omega
    have er : setMarkC cs i 0 (headM size many m') m = cs.take i ++ (headM size many m :: List.replicate (many - 1) tailC) ++ cs.drop (i + many) := by
      unfold setMarkC; rw [if_pos hw]
      conv => lhs; rw [a6]
      rw [List.append_assoc, List.set_append_right _ _ (by omega), hl, Nat.sub_self]
      simp [headM]
    rw [er]
    refine ⟨(a7.append (Good.seg (.inr (.inr ⟨size, many, m, a1, a2, a3, rfl⟩)))).append a8, ?_, objsL 0 (cs.take i), objsL (i + many) (cs.drop (i + many)), ?_, ?_⟩
    · simp; omega
    · rw [objs_eq]
      conv => lhs; rw [a6]
      rw [objsL_append, objsL_append, hl, objsL_large]
      simp
      refine ⟨rfl, ?_⟩
      congr 1; omega
    · rw [objs_eq, objsL_append, objsL_append, hl, objsL_large]
      simp
      refine ⟨⟨rfl, rfl, rfl⟩, ?_⟩
      congr 1; omega
  · have hso := pl_slots h hi hw
    have hs32 : s < 32 := Nat.lt_of_lt_of_le hs (Nat.div_le_self _ _)
    have h2s : 2 ^ s < 4294967296 := Nat.pow_lt_pow_right (a := 2) (m := s) (n := 32) (by decide) hs32
    have hlt := (List.getElem?_eq_some_iff.1 hi).1
    have er : setMarkC cs i s c m = cs.set i (markC c s m) := by unfold setMarkC; rw [if_neg (by omega)]
    rw [er]
    obtain ⟨g1, g2, e⟩ := h.at_ hi (by omega)
    have g3 : Good (cs.drop (i + 1)) := by
      rcases g2.cons with ⟨rfl, _⟩ | ⟨_, h⟩ | ⟨size, many, m, zs, _, _, _, rfl, _⟩
      · simp [Chunk.zero] at hw
      · exact h
      · simp [headM, headC] at hw
    have hw' : (markC c s m).what = 1 := by unfold markC; split <;> exact hw
    have ht' : (markC c s m).taken = c.taken := by unfold markC; split <;> rfl
    have hc' : (markC c s m).cls = c.cls := by unfold markC; split <;> rfl
    have hz' : (markC c s m).sizes = c.sizes := by unfold markC; split <;> rfl
    have hmany' : (markC c s m).many = c.many := by unfold markC; split <;> rfl
    have hbit : ∀ j, j < 32 → (markC c s m).marks.testBit j = if s = j then m else c.marks.testBit j := by
      intro j hj
      unfold markC
      cases m with
      | true =>
        show (c.marks ||| 2 ^ s).testBit j = _
        rw [testBit_or]
        by_cases e : s = j <;> simp [e]
      | false =>
        show (c.marks &&& (4294967295 - 2 ^ s)).testBit j = _
        rw [testBit_clear _ _ _ hs32 hj]
        by_cases e : s = j <;> simp [e]
    have hmarks : (markC c s m).marks < 4294967296 := by
      unfold markC
      cases m with
      | true => exact Nat.or_lt_two_pow (n := 32) hso.marks h2s
      | false =>
        have := Nat.and_le_left (n := c.marks) (m := 4294967295 - 2 ^ s)
        have := hso.marks
        show c.marks &&& _ < _
        omega
    have hob : ∀ j, j < 32 → objOf (markC c s m) i j = if s = j then { objOf c i j with marked := m } else objOf c i j := by
      intro j hj
      rw [obj_slot hw', obj_slot hw, hc', hz', hbit j hj]
      by_cases e : s = j <;> simp [e]
    obtain ⟨X, Y, e1, e2⟩ := seg_pair (c := c) (c' := markC c s m) hw hw' hc' i s hs fun j hj hne => by
      refine ⟨by rw [ht'], ?_⟩
      rw [hob j hj, if_neg (by omega)]
    rw [hb, if_pos rfl] at e1
    rw [ht', hb, if_pos rfl, hob s hs32, if_pos rfl] at e2
    obtain ⟨o1, o2⟩ := set_objs (c' := markC c s m) hi
    refine ⟨?_, by simp, objsL 0 (cs.take i) ++ X, Y ++ objsL (i + 1) (cs.drop (i + 1)), ?_, ?_⟩
    · rw [set_split cs i _ hlt]
      refine g1.append (Good.append (Good.seg (.inr (.inl ⟨_, rfl, hw', by rw [hz']; exact hso.sizes, by rw [hc']; exact hso.cls, by rw [ht', hc']; exact hso.taken, by rw [ht']; exact hso.pos, hmarks, by rw [hmany']; exact hso.many, ?_⟩))) g3 : Good ([_] ++ _))
      intro j hj
      rw [hz', hc']
      rw [ht'] at hj
      exact hso.szs j hj
    · rw [o1, e1]; simp
    · rw [o2, e2]; simp
end Go.Proofs.YtdgfnlagbdmniaaDoor.Pl
namespace Go.Proofs.YtdgfnlagbdmniaaDoor.Pl
open Go.RowKit

set_option maxRecDepth 100000 in
set_option maxHeartbeats 1000000 in
theorem find_out {w : World} {a b : Nat} {cs : List Chunk} (h : At w a b cs) (ad : Int) (hout : ad < 0 ∨ (cs.length * 1024 : Nat) ≤ ad) :
    Calls Tryd.prog 33 #[.pointer (some ⟨a, 0, none⟩), .int .i64 ad] w fun e w' => e = .returned (.tuple #[pv 0 0, .bool false]) ∧ Below w.heap.size w w' := by
  have hp := h.cell_p
  have hfew := h.few
  have ha := h.lt_a
  clear h
  generalize cs.length = N at *
  by_cases h1 : ad < 0
  · have e1 : decide (ad < 0) = true := decide_eq_true h1
    clear hout
    go_enter Tryd.func33, Tryd.ntmps33
    go_wp2_with fail
    exact bodyPost_ret (v := .tuple #[pv 0 0, .bool false]) (by simp [results, Tryd.results33, go_sem, pv]) rfl
      ⟨rfl, by repeat (first | exact Below.refl _ _ | apply Below.drew | (refine Below.setCell ?_ (by simp) _) | (refine Below.alloc ?_ (by simp) _))⟩
  · have e1 : decide (ad < 0) = false := decide_eq_false h1
    have e2 : decide ((N : Int) * 1024 ≤ ad) = true := decide_eq_true (by omega)
    clear hout
    go_enter Tryd.func33, Tryd.ntmps33
    go_wp2_with fail
    exact bodyPost_ret (v := .tuple #[pv 0 0, .bool false]) (by simp [results, Tryd.results33, go_sem, pv]) rfl
      ⟨rfl, by repeat (first | exact Below.refl _ _ | apply Below.drew | (refine Below.setCell ?_ (by simp) _) | (refine Below.alloc ?_ (by simp) _))⟩

theorem obj_in {cs : List Chunk} (h : Good cs) {o : PObj} (ho : o ∈ objs cs) : OOk o ∧ o.at_ + o.room ≤ cs.length * 1024 := by
  have hr := (good_objs h 0).1
  rw [← objs_eq] at hr
  obtain ⟨_, h2, h3⟩ := hr o ho
  exact ⟨h3, by simpa using h2⟩
theorem pair_any {l : List PObj} (h : Apart l) {x y : PObj} (hx : x ∈ l) (hy : y ∈ l) (hne : x ≠ y) : x.at_ + x.room ≤ y.at_ ∨ y.at_ + y.room ≤ x.at_ := by
  induction l with
  | nil => cases hx
  | cons z l ih =>
    obtain ⟨h1, h2⟩ := List.pairwise_cons.1 h
    rcases List.mem_cons.1 hx with rfl | hx' <;> rcases List.mem_cons.1 hy with rfl | hy'
    · exact absurd rfl hne
    · exact .inl (h1 _ hy')
    · exact .inr (h1 _ hx')
    · exact ih h2 hx' hy'
theorem obj_uniq {cs : List Chunk} (h : Good cs) {o p : PObj} (ho : o ∈ objs cs) (hp : p ∈ objs cs) {ad : Int} (h1 : (o.at_ : Int) ≤ ad) (h2 : ad < o.at_ + o.room) (h3 : (p.at_ : Int) ≤ ad) (h4 : ad < p.at_ + p.room) : o = p := by
  have ha := (good_objs h 0).2
  rw [← objs_eq] at ha
  apply Classical.byContradiction
  intro hne
  have hf : ∀ x ∈ objs cs, ∀ y ∈ objs cs, x ≠ y → (x.at_ + x.room ≤ y.at_ ∨ y.at_ + y.room ≤ x.at_) := by
    intro x hx y hy hxy
    exact pair_any ha hx hy hxy
  rcases hf o ho p hp hne with h | h <;> omega

/-- (*Pool).find -/
theorem find_at {w : World} {a b : Nat} {cs : List Chunk} (h : At w a b cs) (hg : Good cs) (ad : Int) :
    Calls Tryd.prog 33 #[.pointer (some ⟨a, 0, none⟩), .int .i64 ad] w fun e w' => FindL cs ad e ∧ Below w.heap.size w w' := by
  by_cases hin : 0 ≤ ad ∧ ad < (cs.length * 1024 : Nat)
  · obtain ⟨n, rfl⟩ : ∃ n : Nat, ad = n := ⟨ad.toNat, by omega⟩
    obtain ⟨hd, c, h1, h2, h3, h4⟩ := head_of hg (n / 1024) (by omega)
    have hfew := h.few
    refine (find_walk h n hd c (by omega) h1 h4 h2 h3 (hg.rd c (List.mem_of_getElem? h2)) ?_).mono fun e w' hp => ⟨find_good hg h1 h2 h3 h4 hp.1, hp.2⟩
    intro s hs hs32
    have hlt := (List.getElem?_eq_some_iff.1 h2).1
    rcases hs with hw | ⟨hw, hb⟩
    · obtain ⟨size, many, m, a1, a2, a3, rfl, a5, _⟩ := pl_head hg h2 hw
      have e1 : objOf (headM size many m) hd s = ⟨hd * 1024, size, many * 1024, m⟩ := rfl
      rw [e1]
      exact ⟨by simp only; omega, by simp only; omega, by simp only; omega⟩
    · have hso := pl_slots hg h2 hw
      obtain ⟨z1, z2, _⟩ := hso.szs s hb
      rw [obj_slot hw]
      have hc4 := hso.cls
      have hp : 2 ^ c.cls ≤ 2 ^ 4 := Nat.pow_le_pow_right (by decide) hc4
      have hm : s * (32 * 2 ^ c.cls) ≤ 32 * (32 * 16) := Nat.mul_le_mul (by omega) (by omega)
      exact ⟨by simp only; omega, by simp only; omega, by simp only; omega⟩
  · refine (find_out h ad (by omega)).mono fun e w' hp => ⟨.inr ⟨fun o ho hc => ?_, 0, 0, hp.1⟩, hp.2⟩
    obtain ⟨ok, hr⟩ := obj_in hg ho
    have := ok.fit
    omega

theorem pl_object {w : World} {a b : Nat} {cs : List Chunk} (h : At w a b cs) (hg : Good cs) {i s : Nat} {c : Chunk} (hp : IsPl cs i s c) :
    Calls Tryd.prog 34 #[.pointer (some ⟨a, 0, none⟩), pv i s] w fun e w' => e = .returned (objOf c i s).val ∧ Below w.heap.size w w' := by
  have hr := hg.rd c (List.mem_of_getElem? hp.1)
  have hs : s < 32 := by
    rcases hp.2 with ⟨_, rfl⟩ | ⟨_, h, _⟩
    · decide
    · exact Nat.lt_of_lt_of_le h (Nat.div_le_self _ _)
  exact object_at h i s c hp.1 hr.cls hs hr.marks hr.many

theorem pl_remove {w : World} {a b : Nat} {cs : List Chunk} (h : At w a b cs) (hg : Good cs) {i s : Nat} {c : Chunk} (hp : IsPl cs i s c) :
    Calls Tryd.prog 35 #[.pointer (some ⟨a, 0, none⟩), pv i s] w fun e w' => e = .returned (.tuple #[]) ∧ At w' a b (removeC cs i s c) ∧ w.grownBy w' (some b) := by
  have hr := hg.rd c (List.mem_of_getElem? hp.1)
  rcases hp.2 with ⟨hw, rfl⟩ | ⟨hw, hs, _⟩
  · obtain ⟨size, many, m, _, _, _, rfl, a5, _⟩ := pl_head hg hp.1 hw
    have e : removeC cs i 0 (headM size many m) = clears cs i (headM size many m).many := by unfold removeC; rw [if_pos hw]
    rw [e]
    exact remove_head h i 0 _ hp.1 hw a5
  · have e : removeC cs i s c = cs.set i (leftC c s) := by unfold removeC; rw [if_neg (by omega)]
    rw [e]
    exact remove_slot h i s c hp.1 (by omega) (Nat.lt_of_lt_of_le hs (Nat.div_le_self _ _)) hr.taken

theorem pl_mark {w : World} {a b : Nat} {cs : List Chunk} (h : At w a b cs) (hg : Good cs) {i s : Nat} {c : Chunk} (hp : IsPl cs i s c) (m : Bool) :
    Calls Tryd.prog 37 #[.pointer (some ⟨a, 0, none⟩), pv i s, .bool m] w fun e w' => e = .returned (.tuple #[]) ∧ At w' a b (setMarkC cs i s c m) ∧ w.grownBy w' (some b) := by
  have hr := hg.rd c (List.mem_of_getElem? hp.1)
  rcases hp.2 with ⟨hw, rfl⟩ | ⟨hw, hs, _⟩
  · have e : setMarkC cs i 0 c m = cs.set i { c with marked := m } := by unfold setMarkC; rw [if_pos hw]
    rw [e]
    exact setMark_head h i 0 m c hp.1 hw
  · have e : setMarkC cs i s c m = cs.set i (markC c s m) := by unfold setMarkC; rw [if_neg (by omega)]
    rw [e]
    exact setMark_slot h i s m c hp.1 (by omega) (Nat.lt_of_lt_of_le hs (Nat.div_le_self _ _)) hr.marks

def FindPost (cs : List Chunk) (ad : Int) (e : Ending) : Prop :=
  (∃ o, o ∈ objs cs ∧ (o.at_ : Int) ≤ ad ∧ ad < o.at_ + o.size ∧ e = .returned (.tuple #[o.val, .int .i64 0])) ∨
  ((∀ o ∈ objs cs, ¬ ((o.at_ : Int) ≤ ad ∧ ad < o.at_ + o.size)) ∧ e = .returned (.tuple #[.agg #[.int .i64 0, .int .i64 0, .int .i64 0, .bool false], .int .i64 5]))

set_option maxRecDepth 100000 in
set_option maxHeartbeats 1000000 in
/-- (*Pool).Find -/
theorem Find_at {w : World} {a b : Nat} {cs : List Chunk} (h : At w a b cs) (hg : Good cs) (ad : Int) :
    Calls Tryd.prog 17 #[.pointer (some ⟨a, 0, none⟩), .int .i64 ad] w fun e w' => FindPost cs ad e ∧ Below w.heap.size w w' := by
  have HA := Lib.hid h; clear h
  have HG := Lib.hid hg; clear hg
  go_enter Tryd.func17, Tryd.ntmps17
  go_wp2_with fail
  obtain ⟨W0, hW0⟩ : ∃ W0, W0 = w.alloc (Obj.cells #[Value.int IntKind.i64 0, Value.int IntKind.i64 0, Value.int IntKind.i64 0, Value.bool false] 40) := ⟨_, rfl⟩
  rw [← hW0]
  obtain ⟨B, hB⟩ : ∃ B, B = w.heap.size := ⟨_, rfl⟩
  have HA0 : Hid (At W0 a b cs) := by rw [hW0]; exact HA.out.alloc _
  have HX0 : Hid (W0.heap[B]? = some (.cells #[Value.int IntKind.i64 0, Value.int IntKind.i64 0, Value.int IntKind.i64 0, Value.bool false] 40 (0, 0))) := by rw [hW0, hB]; exact (MapKept.heap_alloc _ _).1
  have HB0 : Hid (Below B w W0) := by rw [hW0, hB]; exact (Below.refl _ _).alloc (Nat.le_refl _) _
  have HS0 : Hid (W0.heap.size = B + 1) := by show _ = _; rw [hW0, hB]; simp
  rw [← hB]
  have HBw := Lib.hid hB; clear hB hW0
  refine (find_at HA0.out HG.out ad).mono ?_
  rintro e W1 ⟨hf, hb1⟩
  have HX1 : Hid (W1.heap[B]? = some (.cells #[Value.int IntKind.i64 0, Value.int IntKind.i64 0, Value.int IntKind.i64 0, Value.bool false] 40 (0, 0))) := (hb1.block B (by rw [HS0.out]; omega)).trans HX0.out
  have HB1 : Hid (Below B w W1) := HB0.out.trans (hb1.mono (by rw [HS0.out]; omega))
  have HA1 : Hid (At W1 a b cs) := HA0.out.below hb1 HA0.out.lt_a HA0.out.lt_b
  have hsz : B < W1.heap.size := (Array.getElem?_eq_some_iff.1 HX1.out).1
  clear hb1
  have HX2 : Hid (∀ i s : Nat, (W1.alloc (.cells #[.int .i64 i, .int .i64 s] 83)).heap[B]? = some (.cells #[Value.int IntKind.i64 0, Value.int IntKind.i64 0, Value.int IntKind.i64 0, Value.bool false] 40 (0, 0))) := fun i s => (Below.heap_alloc _ _ _ hsz).trans HX1.out
  rcases hf with ⟨i, s, c, hp, h1, h2, rfl⟩ | ⟨hno, i, s, rfl⟩
  · have HF : Hid (FindPost cs ad (.returned (.tuple #[(objOf c i s).val, .int .i64 0]))) := .inl ⟨_, mem_objs.2 ⟨i, s, c, hp, rfl⟩, h1, h2, rfl⟩
    have HP := Lib.hid hp
    clear h1 h2 hp
    rw [pv]
    go_wp2_with fail
    refine (pl_object (HA1.out.alloc _) HG.out HP.out).mono ?_
    rintro e W3 ⟨rfl, hb3⟩
    have hx3 : W3.heap[B]? = some (.cells #[Value.int IntKind.i64 0, Value.int IntKind.i64 0, Value.int IntKind.i64 0, Value.bool false] 40 (0, 0)) := (hb3.block B (by simp; omega)).trans (HX2.out i s)
    have HB3 : Hid (Below B w W3) := (HB1.out.alloc (by omega) _).trans (hb3.mono (by simp; omega))
    have x0 : W3.cell? ⟨B, 0, none⟩ = some (.int .i64 0) := cell_blk hx3 0
    have x1 : W3.cell? ⟨B, 1, none⟩ = some (.int .i64 0) := cell_blk hx3 1
    have x2 : W3.cell? ⟨B, 2, none⟩ = some (.int .i64 0) := cell_blk hx3 2
    have x3 : W3.cell? ⟨B, 3, none⟩ = some (.bool false) := cell_blk hx3 3
    have xf : ∀ o, W3.frozen? ⟨B, o, none⟩ = false := frozen_blk hx3
    have HX3 := Lib.hid hx3
    clear hb3 hx3
    have HV : Hid ((objOf c i s).val = .agg #[.int .i64 (objOf c i s).at_, .int .i64 (objOf c i s).size, .int .i64 (objOf c i s).room, .bool (objOf c i s).marked]) := rfl
    generalize objOf c i s = o at *
    rw [HV.out]
    go_wp2_with fail
    have hrb := blk_set (blk_set (blk_set (blk_set HX3.out 0 (.int .i64 o.at_)) 1 (.int .i64 o.size)) 2 (.int .i64 o.room)) 3 (.bool o.marked)
    have r0 := cell_blk hrb 0
    have r1 := cell_blk hrb 1
    have r2 := cell_blk hrb 2
    have r3 := cell_blk hrb 3
    refine bodyPost_ret (v := .tuple #[o.val, .int .i64 0]) (by rw [HV.out]; simp [results, Tryd.results17, go_sem, r0, r1, r2, r3]) rfl ⟨HF.out, ?_⟩
    rw [← HBw.out]
    exact (((HB3.out.setCell (p := ⟨B, 0, none⟩) (by simp) _).setCell (p := ⟨B, 1, none⟩) (by simp) _).setCell (p := ⟨B, 2, none⟩) (by simp) _).setCell (p := ⟨B, 3, none⟩) (by simp) _
  · have HF : Hid (FindPost cs ad (.returned (.tuple #[.agg #[.int .i64 0, .int .i64 0, .int .i64 0, .bool false], .int .i64 5]))) := .inr ⟨hno, rfl⟩
    clear hno
    rw [pv]
    have hx2 := HX2.out i s
    have y0 : W1.cell? ⟨B, 0, none⟩ = some (.int .i64 0) := cell_blk HX1.out 0
    have y1 : W1.cell? ⟨B, 1, none⟩ = some (.int .i64 0) := cell_blk HX1.out 1
    have y2 : W1.cell? ⟨B, 2, none⟩ = some (.int .i64 0) := cell_blk HX1.out 2
    have y3 : W1.cell? ⟨B, 3, none⟩ = some (.bool false) := cell_blk HX1.out 3
    have yf : ∀ o, W1.frozen? ⟨B, o, none⟩ = false := frozen_blk HX1.out
    have HB2 : Hid (Below B w (W1.alloc (.cells #[.int .i64 i, .int .i64 s] 83))) := HB1.out.alloc (by omega) _
    go_wp2_with fail
    have hrb0 := blk_set (blk_set (blk_set (blk_set HX1.out 0 (.int .i64 0)) 1 (.int .i64 0)) 2 (.int .i64 0)) 3 (.bool false)
    have hrb := (Below.heap_alloc _ (.cells #[.int .i64 i, .int .i64 s] 83) _ (Array.getElem?_eq_some_iff.1 hrb0).1).trans hrb0
    have r0 := cell_blk hrb 0
    have r1 := cell_blk hrb 1
    have r2 := cell_blk hrb 2
    have r3 := cell_blk hrb 3
    refine bodyPost_ret (v := .tuple #[.agg #[.int .i64 0, .int .i64 0, .int .i64 0, .bool false], .int .i64 5]) (by simp [results, Tryd.results17, go_sem, r0, r1, r2, r3]) rfl ⟨HF.out, ?_⟩
    rw [← HBw.out]
    exact ((((HB1.out.setCell (p := ⟨B, 0, none⟩) (by simp) _).setCell (p := ⟨B, 1, none⟩) (by simp) _).setCell (p := ⟨B, 2, none⟩) (by simp) _).setCell (p := ⟨B, 3, none⟩) (by simp) _).alloc (by simp; omega) _

theorem fld0 (x y z u : Value) (w : World) : (Instr.field 40 (.agg #[x, y, z, u]) 0).run Tryd.prog w = .ok x w := by kernel_rfl
theorem fld3 (x y z u : Value) (w : World) : (Instr.field 40 (.agg #[x, y, z, u]) 3).run Tryd.prog w = .ok u w := by kernel_rfl

def FreePost (cs : List Chunk) (ad : Int) (a b : Nat) (w : World) (e : Ending) (w' : World) : Prop :=
  (∃ i s c, IsPl cs i s c ∧ ((objOf c i s).at_ : Int) = ad ∧ e = .returned (.int .i64 0) ∧ At w' a b (removeC cs i s c) ∧ w.grownBy w' (some b)) ∨
  ((∀ o ∈ objs cs, (o.at_ : Int) ≠ ad) ∧ e = .returned (.int .i64 5) ∧ At w' a b cs ∧ w.grownBy w' (some b))

set_option maxRecDepth 100000 in
set_option maxHeartbeats 1000000 in
/-- (*Pool).Free -/
theorem Free_at {w : World} {a b : Nat} {cs : List Chunk} (h : At w a b cs) (hg : Good cs) (ad : Int) :
    Calls Tryd.prog 18 #[.pointer (some ⟨a, 0, none⟩), .int .i64 ad] w (FreePost cs ad a b w) := by
  have HA := Lib.hid h; clear h
  have HG := Lib.hid hg; clear hg
  go_enter Tryd.func18, Tryd.ntmps18
  go_wp2_with fail
  refine (find_at HA.out HG.out ad).mono ?_
  rintro e W1 ⟨hf, hb1⟩
  have HA1 : Hid (At W1 a b cs) := HA.out.below hb1 HA.out.lt_a HA.out.lt_b
  have HG1 : Hid (w.grownBy W1 (some b)) := fr_of_below hb1 (Nat.le_refl _) _
  clear hb1
  rcases hf with ⟨i, s, c, hp, h1, h2, rfl⟩ | ⟨hno, i, s, rfl⟩
  · have HP := Lib.hid hp
    have hok := obj_in HG.out (pl_ok HG.out hp).2.2.2
    have HU : Hid ((objOf c i s).at_ ≠ ad → ∀ o ∈ objs cs, (o.at_ : Int) ≠ ad) := by
      intro hne o ho he
      have ok := (obj_in HG.out ho).1
      have e := obj_uniq HG.out (pl_ok HG.out hp).2.2.2 ho (ad := ad) h1 (by have := hok.1.fit; omega) (by omega) (by have := ok.fit; have := ok.pos; omega)
      rw [e] at hne; exact hne he
    clear h1 h2 hp hok
    rw [pv]
    go_wp2_with fail
    refine (pl_object (HA1.out.alloc _) HG.out HP.out).mono ?_
    rintro e W3 ⟨rfl, hb3⟩
    have HA3 : Hid (At W3 a b cs) := (HA1.out.alloc _).below hb3 (HA1.out.alloc _).lt_a (HA1.out.alloc _).lt_b
    have HG3 : Hid (w.grownBy W3 (some b)) := fr_trans (fr_alloc HG1.out _) (fr_of_below hb3 (Nat.le_refl _) _)
    have hx3 : W3.heap[W1.heap.size]? = some (.cells #[Value.int IntKind.i64 i, Value.int IntKind.i64 s] 83 (0, 0)) := (hb3.block _ (by simp)).trans (MapKept.heap_alloc _ _).1
    have x0 : W3.cell? ⟨W1.heap.size, 0, none⟩ = some (.int .i64 i) := cell_blk hx3 0
    have x1 : W3.cell? ⟨W1.heap.size, 1, none⟩ = some (.int .i64 s) := cell_blk hx3 1
    clear hb3 hx3
    have HV : Hid ((objOf c i s).val = .agg #[.int .i64 (objOf c i s).at_, .int .i64 (objOf c i s).size, .int .i64 (objOf c i s).room, .bool (objOf c i s).marked]) := rfl
    have HO : Hid ((objOf c i s).at_ = (objOf c i s).at_) := rfl
    by_cases he : ((objOf c i s).at_ : Int) = ad
    · have e1 : (((objOf c i s).at_ : Int) != ad) = false := by simp [he]
      have HE := Lib.hid he; clear he
      rw [HV.out]
      have hfl := fld0
      clear HU HV HO
      generalize hO : objOf c i s = o at *
      have HO := Lib.hid hO; clear hO
      go_wp2_with fail
      refine (pl_remove HA3.out HG.out HP.out).mono ?_
      rintro e W4 ⟨rfl, hA4, hg4⟩
      have HA4 := Lib.hid hA4; clear hA4
      have HG4 : Hid (w.grownBy W4 (some b)) := fr_trans HG3.out hg4
      clear hg4
      go_wp2_with fail
      go_ret
      exact .inl ⟨i, s, c, HP.out, by rw [HO.out]; exact HE.out, rfl, HA4.out, HG4.out⟩
    · have e1 : (((objOf c i s).at_ : Int) != ad) = true := by simp [he]
      have HE := Lib.hid (HU.out he); clear he
      rw [HV.out]
      have hfl := fld0
      clear HU HV HO
      generalize objOf c i s = o at *
      go_wp2_with fail
      go_ret
      exact .inr ⟨HE.out, rfl, HA3.out, HG3.out⟩
  · have HN : Hid (∀ o ∈ objs cs, (o.at_ : Int) ≠ ad) := by
      intro o ho he
      have ok := (obj_in HG.out ho).1
      exact hno o ho ⟨by omega, by have := ok.pos; omega⟩
    clear hno
    rw [pv]
    go_wp2_with fail
    go_ret
    exact .inr ⟨HN.out, rfl, HA1.out.alloc _, fr_alloc HG1.out _⟩

def MarkPost (cs : List Chunk) (ad : Int) (a b : Nat) (w : World) (e : Ending) (w' : World) : Prop :=
  (∃ i s c, IsPl cs i s c ∧ ((objOf c i s).at_ : Int) ≤ ad ∧ ad < (objOf c i s).at_ + (objOf c i s).size ∧ e = .returned (.tuple #[.bool (!(objOf c i s).marked), .int .i64 0]) ∧ At w' a b (setMarkC cs i s c true) ∧ w.grownBy w' (some b)) ∨
  ((∀ o ∈ objs cs, ¬ ((o.at_ : Int) ≤ ad ∧ ad < o.at_ + o.size)) ∧ e = .returned (.tuple #[.bool false, .int .i64 5]) ∧ At w' a b cs ∧ w.grownBy w' (some b))

set_option maxRecDepth 100000 in
set_option maxHeartbeats 1000000 in
/-- (*Pool).Mark -/
theorem Mark_at {w : World} {a b : Nat} {cs : List Chunk} (h : At w a b cs) (hg : Good cs) (ad : Int) :
    Calls Tryd.prog 23 #[.pointer (some ⟨a, 0, none⟩), .int .i64 ad] w (MarkPost cs ad a b w) := by
  have HA := Lib.hid h; clear h
  have HG := Lib.hid hg; clear hg
  go_enter Tryd.func23, Tryd.ntmps23
  go_wp2_with fail
  refine (find_at HA.out HG.out ad).mono ?_
  rintro e W1 ⟨hf, hb1⟩
  have HA1 : Hid (At W1 a b cs) := HA.out.below hb1 HA.out.lt_a HA.out.lt_b
  have HG1 : Hid (w.grownBy W1 (some b)) := fr_of_below hb1 (Nat.le_refl _) _
  clear hb1
  rcases hf with ⟨i, s, c, hp, h1, h2, rfl⟩ | ⟨hno, i, s, rfl⟩
  · have HP := Lib.hid hp
    have H1 := Lib.hid h1
    have H2 := Lib.hid h2
    clear h1 h2 hp
    rw [pv]
    go_wp2_with fail
    refine (pl_object (HA1.out.alloc _) HG.out HP.out).mono ?_
    rintro e W3 ⟨rfl, hb3⟩
    have HA3 : Hid (At W3 a b cs) := (HA1.out.alloc _).below hb3 (HA1.out.alloc _).lt_a (HA1.out.alloc _).lt_b
    have HG3 : Hid (w.grownBy W3 (some b)) := fr_trans (fr_alloc HG1.out _) (fr_of_below hb3 (Nat.le_refl _) _)
    have hx3 : W3.heap[W1.heap.size]? = some (.cells #[Value.int IntKind.i64 i, Value.int IntKind.i64 s] 83 (0, 0)) := (hb3.block _ (by simp)).trans (MapKept.heap_alloc _ _).1
    have x0 : W3.cell? ⟨W1.heap.size, 0, none⟩ = some (.int .i64 i) := cell_blk hx3 0
    have x1 : W3.cell? ⟨W1.heap.size, 1, none⟩ = some (.int .i64 s) := cell_blk hx3 1
    clear hb3 hx3
    have HV : Hid ((objOf c i s).val = .agg #[.int .i64 (objOf c i s).at_, .int .i64 (objOf c i s).size, .int .i64 (objOf c i s).room, .bool (objOf c i s).marked]) := rfl
    rw [HV.out]
    have hfl := fld3
    clear HV
    generalize hO : objOf c i s = o at *
    have HO := Lib.hid hO; clear hO
    go_wp2_with fail
    refine (pl_mark HA3.out HG.out HP.out true).mono ?_
    rintro e W4 ⟨rfl, hA4, hg4⟩
    have HA4 := Lib.hid hA4; clear hA4
    have HG4 : Hid (w.grownBy W4 (some b)) := fr_trans HG3.out hg4
    clear hg4
    go_wp2_with fail
    go_ret2
    exact .inl ⟨i, s, c, HP.out, by rw [HO.out]; exact H1.out, by rw [HO.out]; exact H2.out, by rw [HO.out]; rfl, HA4.out, HG4.out⟩
  · have HN := Lib.hid hno
    clear hno
    rw [pv]
    go_wp2_with fail
    go_ret2
    exact .inr ⟨HN.out, rfl, HA1.out.alloc _, fr_alloc HG1.out _⟩
end Go.Proofs.YtdgfnlagbdmniaaDoor.Pl
namespace Go.Proofs.YtdgfnlagbdmniaaDoor.Pl
open Go.RowKit

def Clean (cs : List Chunk) : Prop := ∀ o ∈ objs cs, o.marked = false
theorem Put.mem {l m : List PObj} {o x : PObj} (h : Put l m o) : x ∈ m ↔ x = o ∨ x ∈ l := by
  obtain ⟨A, B, rfl, rfl⟩ := h
  simp; constructor
  · rintro (h | h | h) <;> simp [h]
  · rintro (h | h | h) <;> simp [h]

theorem alloc_keep {cs : List Chunk} {sz : Int} {a b : Nat} {w w' : World} {e : Ending} (hP : AllocPost cs sz a b w e w') (hA : At w a b cs) (hG : Good cs) (hU : Clean cs) :
    ∃ v cs', e = .returned v ∧ At w' a b cs' ∧ Good cs' ∧ cs'.length = cs.length ∧ Clean cs' ∧ w.grownBy w' (some b) := by
  by_cases hs : sz < 1 ∨ 262144 < sz
  · unfold AllocPost at hP
    rw [if_pos hs] at hP
    obtain ⟨rfl, rfl⟩ := hP
    exact ⟨_, cs, rfl, hA, hG, rfl, hU, fr_refl _ _⟩
  · have hP' := alloc_fn (by omega) (by omega) hP
    cases hx : allocC cs sz with
    | none =>
      rw [hx] at hP'
      obtain ⟨rfl, n, rfl⟩ := hP'
      exact ⟨_, cs, rfl, hA.drewN n, hG, rfl, hU, fr_drewN (fr_refl _ _) n⟩
    | some r =>
      obtain ⟨cs', x⟩ := r
      rw [hx] at hP'
      obtain ⟨rfl, hA', hg'⟩ := hP'
      obtain ⟨g, l, p⟩ := allocC_put hG (by omega) (by omega) hx
      refine ⟨_, cs', rfl, hA', g, l, fun o ho => ?_, hg'⟩
      rcases p.mem.1 ho with rfl | ho
      · rfl
      · exact hU o ho
theorem free_keep {cs : List Chunk} {ad : Int} {a b : Nat} {w w' : World} {e : Ending} (hP : FreePost cs ad a b w e w') (hG : Good cs) (hU : Clean cs) :
    ∃ v cs', e = .returned v ∧ At w' a b cs' ∧ Good cs' ∧ cs'.length = cs.length ∧ Clean cs' ∧ w.grownBy w' (some b) := by
  rcases hP with ⟨i, s, c, hp, _, rfl, hA', hg'⟩ | ⟨_, rfl, hA', hg'⟩
  · obtain ⟨g, l, p⟩ := remove_put hG hp
    exact ⟨_, _, rfl, hA', g, l, fun o ho => hU o (p.mem.2 (.inr ho)), hg'⟩
  · exact ⟨_, cs, rfl, hA', hG, rfl, hU, hg'⟩

/-- A list of numbers in memory. -/
def Nums (w : World) (v : Value) (xs : List Int) : Prop :=
  ∃ p cap, v = .slice p xs.length cap ∧ (xs = [] ∨ ∃ g off, p = some ⟨g, off, none⟩ ∧ g < w.heap.size ∧ ∀ k x, xs[k]? = some x → w.cell? ⟨g, off + k, none⟩ = some (.int .u16 x))

theorem new_any (N : Nat) (h1 : 1 ≤ N) (h2 : N ≤ 256) (w : World) : Calls Tryd.prog 10 #[.int .i64 N] w fun e w' => ∃ a b, e = .returned (.tuple #[.pointer (some ⟨a, 0, none⟩), .int .i64 0]) ∧ w.heap.size ≤ a ∧ w.heap.size ≤ b ∧ At w' a b (List.replicate N Chunk.zero) ∧ w.grownBy w' none := by
  refine (new_ok N (by omega) (by omega) w).mono ?_
  rintro e w' ⟨a, b, h⟩
  exact ⟨a, b, h⟩

def PlayedPost (N : Nat) (w : World) (e : Ending) (w' : World) : Prop :=
  ∃ a b cs, e = .returned (.tuple #[.pointer (some ⟨a, 0, none⟩), .bool true]) ∧ w.heap.size ≤ a ∧ w.heap.size ≤ b ∧ At w' a b cs ∧ Good cs ∧ cs.length = N ∧ Clean cs ∧ Below w.heap.size w w'

theorem own_empty {W : World} {base : Nat} {v : Value} {xs : List Value} (h : W.ownsRow base 40 4 v 0 xs) : v = .slice none 0 0 ∨ ∃ x c, v = .slice (some x) 0 c := by
  rcases h.2 with ⟨rfl, _⟩ | ⟨g, cap, cur, rfl, _⟩
  · exact .inl rfl
  · exact .inr ⟨_, _, rfl⟩

set_option maxRecDepth 100000 in
set_option maxHeartbeats 2000000 in
theorem played_at (N : Nat) (h1 : 1 ≤ N) (h2 : N ≤ 256) (v : Value) (xs : List Int) (w : World) (hT : Tab w) (hN : Nums w v xs) (hx : ∀ x ∈ xs, 0 ≤ x ∧ x ≤ 65535) (hl : xs.length ≤ 200) :
    Calls Tryd.prog 14 #[.int .i64 N, v] w (PlayedPost N w) := by
  obtain ⟨p, cap, rfl, hp⟩ := hN
  have HT := Lib.hid hT; clear hT
  have HX := Lib.hid hx; clear hx
  have HP := Lib.hid hp; clear hp
  go_enter Tryd.func14, Tryd.ntmps14
  go_wp2_with fail
  refine (new_any N h1 h2 _).mono ?_
  rintro e w2 ⟨a, b, rfl, ha, hb, hA, hg⟩
  have HB2 : Hid (Below w.heap.size w w2) := fr_below (fr_none hg (some b)) hb (Nat.le_refl _)
  have HT2 := Lib.hid (HT.out.below HB2.out HT.out.lt)
  have HBP : Hid (0 < b) := Nat.lt_of_lt_of_le HT.out.lt hb
  have HBL := Lib.hid hb
  have HAL := Lib.hid ha
  have HA2 := Lib.hid hA; clear hA hg ha hb
  have HC2 : Hid (Clean (List.replicate N Chunk.zero)) := by
    intro o ho; rw [objs_eq, objsL_zeros] at ho; cases ho
  have HPs := HP.out
  have hlen : (xs = [] → xs.length = 0) := fun h => by rw [h]; rfl
  rcases HPs with he | ⟨g, off, rfl, hg, hcell⟩
  · rw [he]
    simp only [List.length_nil]
    cases p
    all_goals
      go_wp2_with fail
      go_loop [20] (fun s => s = .int .i64 0) (fun _ => 0)
      case atStart => rfl
      case round =>
        obtain rfl := hrel
        go_wp2
        go_ret2
        exact ⟨a, b, _, rfl, HAL.out, HBL.out, HA2.out, Good.zeros _, List.length_replicate, HC2.out, HB2.out⟩
  · have HCL := Lib.hid hcell
    have HGL := Lib.hid hg
    clear hcell hg hlen HP
    generalize hn : xs.length = n at *
    have HN := Lib.hid hn; clear hn
    go_wp2_with fail
    go_loopw [20] (fun s wr => ∃ (k : Nat) (cs : List Chunk), k ≤ n ∧ s = .int .i64 k ∧ At wr a b cs ∧ Good cs ∧ cs.length = N ∧ Clean cs ∧ Tab wr ∧ Below w.heap.size w wr) (fun s _ => n - (intOf s).toNat)
    case atStart => exact ⟨0, _, by omega, rfl, HA2.out, Good.zeros _, List.length_replicate, HC2.out, HT2.out, HB2.out⟩
    case round =>
      obtain ⟨k, cs, hk, rfl, hA, hG, hL, hC, hT, hB⟩ := hrel
      have HA := Lib.hid hA; clear hA
      have HG := Lib.hid hG; clear hG
      have HL := Lib.hid hL; clear hL
      have HC := Lib.hid hC; clear hC
      have HTr := Lib.hid hT; clear hT
      have HBr := Lib.hid hB; clear hB
      by_cases hlt : k < n
      · obtain ⟨x, hx⟩ : ∃ x, xs[k]? = some x := ⟨xs[k]'(by rw [HN.out]; exact hlt), by simp⟩
        have hc : wr.cell? ⟨g, off + k, none⟩ = some (.int .u16 x) := (HBr.out.cell (p := ⟨g, off + k, none⟩) HGL.out).trans (HCL.out k x hx)
        obtain ⟨x0, x1⟩ := HX.out x (List.mem_of_getElem? hx)
        clear hx
        by_cases hev : x % 2 = 0
        · have e1 : (x % 2 == 0) = true := by simp [hev]
          clear hev
          go_wp2_with fail
          refine (alloc_at HA.out HG.out.wf HTr.out HBP.out (x / 2 % 3000)).mono ?_
          rintro e w3 hP
          obtain ⟨v, cs', rfl, hA', hG', hL', hC', hg'⟩ := alloc_keep hP HA.out HG.out HC.out
          have HA' := Lib.hid hA'; clear hA'
          have HG' := Lib.hid hG'; clear hG'
          have HL' := Lib.hid (hL'.trans HL.out); clear hL'
          have HC' := Lib.hid hC'; clear hC'
          have HT' := Lib.hid (HTr.out.grown hg' HBP.out)
          have HB' : Hid (Below w.heap.size w w3) := HBr.out.trans (fr_below hg' HBL.out HBr.out.size)
          clear hP hg'
          go_wp2
          go_roundw
          case rel => exact ⟨k + 1, cs', by omega, by go_num, HA'.out, HG'.out, HL'.out, HC'.out, HT'.out, HB'.out⟩
          case measure => simp [intOf]; omega
        · have e1 : (x % 2 == 0) = false := by simp [hev]
          clear hev
          have HSM := Lib.hid (HG.out.small (by rw [HL.out]; exact h2))
          have hlen := HSM.out.1
          go_wp2_with fail
          refine (objects_at HA.out HG.out.rd (by simpa [objs] using hlen)).mono ?_
          rintro e w3 ⟨v, rfl, hown, hb3⟩
          have HA3 := Lib.hid (HA.out.below hb3 HA.out.lt_a HA.out.lt_b)
          have HB3 : Hid (Below w.heap.size w w3) := HBr.out.trans (hb3.mono HBr.out.size)
          have HT3 := Lib.hid (HTr.out.below hb3 HTr.out.lt)
          clear hb3
          by_cases hne : objs cs = []
          · rw [hne] at hown
            rcases own_empty hown with rfl | ⟨y, c, rfl⟩
            all_goals
              clear hown hne
              go_wp2
              go_roundw
              case rel => exact ⟨k + 1, cs, by omega, by go_num, HA3.out, HG.out, HL.out, HC.out, HT3.out, HB3.out⟩
              case measure => simp [intOf]; omega
          · obtain ⟨q, cap2, rfl, hq1, hq2, hcells⟩ := own_obj hown hne
            have hpos : 0 < (objs cs).length := List.length_pos_iff.2 hne
            have HCE := Lib.hid hcells; clear hcells hown hne
            obtain ⟨L, hL⟩ : ∃ L, L = (objs cs).length := ⟨_, rfl⟩
            rw [← hL] at hpos hlen ⊢
            obtain ⟨d, hd⟩ : ∃ d : Nat, (d : Int) = x / 2 % (L : Int) := ⟨(x / 2 % (L : Int)).toNat, Int.toNat_of_nonneg (Int.emod_nonneg _ (by omega))⟩
            have hdl : d < L := by have := Int.emod_lt_of_pos (x / 2) (show (0 : Int) < L by omega); omega
            obtain ⟨o, ho⟩ : ∃ o, (objs cs)[d]? = some o := ⟨(objs cs)[d]'(by rw [← hL]; exact hdl), by simp⟩
            have c0 := (HCE.out d o ho).1
            have hd2 : x / 2 % (L : Int) = (d : Int) := hd.symm
            clear hd hL ho
            go_wp2_with fail
            refine (Free_at HA3.out HG.out (o.at_ : Int)).mono ?_
            rintro e w4 hP
            obtain ⟨v, cs', rfl, hA', hG', hL', hC', hg'⟩ := free_keep hP HG.out HC.out
            have HA' := Lib.hid hA'; clear hA'
            have HG' := Lib.hid hG'; clear hG'
            have HL' := Lib.hid (hL'.trans HL.out); clear hL'
            have HC' := Lib.hid hC'; clear hC'
            have HT' := Lib.hid (HT3.out.grown hg' HBP.out)
            have HB' : Hid (Below w.heap.size w w4) := HB3.out.trans (fr_below hg' HBL.out HB3.out.size)
            clear hP hg' c0 hd2
            go_wp2
            go_roundw
            case rel => exact ⟨k + 1, cs', by omega, by go_num, HA'.out, HG'.out, HL'.out, HC'.out, HT'.out, HB'.out⟩
            case measure => simp [intOf]; omega
      · obtain rfl : k = n := by omega
        go_wp2
        go_ret2
        exact ⟨a, b, _, rfl, HAL.out, HBL.out, HA.out, HG.out, HL.out, HC.out, HBr.out⟩
end Go.Proofs.YtdgfnlagbdmniaaDoor.Pl
namespace Go.Proofs.YtdgfnlagbdmniaaDoor.Pl
open Go.RowKit

theorem find_is {cs : List Chunk} (h : Good cs) {ad : Int} {e : Ending} (hf : FindPost cs ad e) {o : PObj} (ho : o ∈ objs cs) (h1 : (o.at_ : Int) ≤ ad) (h2 : ad < o.at_ + o.size) : e = .returned (.tuple #[o.val, .int .i64 0]) := by
  rcases hf with ⟨p, hp, a1, a2, rfl⟩ | ⟨hno, _⟩
  · have k1 := (obj_in h ho).1.fit
    have k2 := (obj_in h hp).1.fit
    rw [obj_uniq h ho hp h1 (by omega) a1 (by omega)]
  · exact absurd ⟨h1, h2⟩ (hno o ho)
theorem find_not {cs : List Chunk} (h : Good cs) {ad : Int} {e : Ending} (hf : FindPost cs ad e) {o : PObj} (ho : o ∈ objs cs) (h1 : o.at_ + o.size ≤ ad) (h2 : ad < o.at_ + o.room) :
    e = .returned (.tuple #[.agg #[.int .i64 0, .int .i64 0, .int .i64 0, .bool false], .int .i64 5]) := by
  rcases hf with ⟨p, hp, a1, a2, rfl⟩ | ⟨_, rfl⟩
  · have k1 := (obj_in h ho).1
    have k2 := (obj_in h hp).1.fit
    have := obj_uniq h ho hp (ad := ad) (by have := k1.pos; omega) h2 a1 (by omega)
    subst this
    omega
  · rfl

theorem obj_large {cs : List Chunk} (h : Good cs) {o : PObj} (ho : o ∈ objs cs) (h5 : cls o.size = 5) : o.at_ % 1024 = 0 := by
  obtain ⟨i, s, c, ⟨hi, hp⟩, rfl⟩ := mem_objs.1 ho
  rcases hp with ⟨hw, rfl⟩ | ⟨hw, hs, hb⟩
  · simp [objOf, hw]
  · have hso := pl_slots h hi hw
    obtain ⟨_, _, hc⟩ := hso.szs s hb
    rw [obj_slot hw] at h5
    simp only at h5
    have := hso.cls
    omega
theorem obj_share {cs : List Chunk} (h : Good cs) {o p : PObj} (ho : o ∈ objs cs) (hp : p ∈ objs cs) (h1 : p.at_ + p.room ≤ o.at_) (h2 : o.at_ / 1024 = (p.at_ + p.room - 1) / 1024) : cls o.size = cls p.size := by
  obtain ⟨i, s, c, ⟨hi, hq⟩, rfl⟩ := mem_objs.1 hp
  obtain ⟨i', s', c', ⟨hi', hq'⟩, rfl⟩ := mem_objs.1 ho
  rcases hq with ⟨hw, rfl⟩ | ⟨hw, hs, hb⟩
  · obtain ⟨size, many, m, _, _, _, rfl, _⟩ := pl_head h hi hw
    have e1 : objOf (headM size many m) i 0 = ⟨i * 1024, size, many * 1024, m⟩ := rfl
    rw [e1] at h1 h2
    simp only at h1 h2
    omega
  · have hso := pl_slots h hi hw
    obtain ⟨b1, b2, b3⟩ := slot_ok hso i s hs hb
    have hr : 0 < (objOf c i s).room := by have := b3.fit; have := b3.pos; omega
    obtain ⟨_, _, hz⟩ := hso.szs s hb
    rcases hq' with ⟨hw', rfl⟩ | ⟨hw', hs', hb'⟩
    · have e2 : (objOf c' i' 0).at_ = i' * 1024 := by simp [objOf, hw']
      rw [e2] at h1 h2
      have : i' = i := by omega
      subst this
      rw [hi] at hi'; cases hi'; omega
    · have hso' := pl_slots h hi' hw'
      obtain ⟨a1, a2, a3⟩ := slot_ok hso' i' s' hs' hb'
      have hr' : 0 < (objOf c' i' s').room := by have := a3.fit; have := a3.pos; omega
      have : i' = i := by omega
      subst this
      rw [hi] at hi'; cases hi'
      obtain ⟨_, _, hz'⟩ := hso.szs s' hb'
      rw [obj_slot hw, obj_slot hw]
      simp only
      omega

/-- What the loop keeps of the objects that have come. -/
structure Seen (l : List PObj) (k : Nat) (E La K : Int) : Prop where
  lo : -1 ≤ La ∧ La ≤ 1000000000
  nxt : ∀ o, l[k]? = some o → E ≤ o.at_ ∧ ((o.at_ : Int) / 1024 = La → (cls o.size : Int) = K)

theorem Seen.zero (l : List PObj) : Seen l 0 0 (-1) (-1) := ⟨by omega, fun o _ => ⟨by omega, fun h => by omega⟩⟩
theorem Seen.step {cs : List Chunk} (h : Good cs) (hl : cs.length ≤ 256) {k : Nat} {o : PObj} (ho : (objs cs)[k]? = some o) : Seen (objs cs) (k + 1) (o.at_ + o.room) (((o.at_ : Int) + o.room - 1) / 1024) (cls o.size) := by
  have hm := List.mem_of_getElem? ho
  obtain ⟨ok, hr⟩ := obj_in h hm
  have hpos : 0 < o.room := by have := ok.fit; have := ok.pos; omega
  refine ⟨by omega, fun q hq => ?_⟩
  have ha := (good_objs h 0).2
  rw [← objs_eq] at ha
  obtain ⟨l1, e1⟩ := List.getElem?_eq_some_iff.1 ho
  obtain ⟨l2, e2⟩ := List.getElem?_eq_some_iff.1 hq
  have hap := List.pairwise_iff_getElem.1 ha k (k + 1) l1 l2 (by omega)
  rw [e1, e2] at hap
  refine ⟨by omega, fun hd => ?_⟩
  have := obj_share h (List.mem_of_getElem? hq) hm hap (by omega)
  rw [this]
end Go.Proofs.YtdgfnlagbdmniaaDoor.Pl
namespace Go.Proofs.YtdgfnlagbdmniaaDoor.Pl
open Go.RowKit

/-- A list of objects in memory. -/
def ObjS (w : World) (v : Value) (l : List PObj) : Prop :=
  ∃ p cap, v = .slice p l.length cap ∧ (l = [] ∨ ∃ g, p = some ⟨g, 0, none⟩ ∧ g < w.heap.size ∧
    ∀ k o, l[k]? = some o → w.cell? ⟨g, k * 4, none⟩ = some (.int .i64 o.at_) ∧ w.cell? ⟨g, k * 4 + 1, none⟩ = some (.int .i64 o.size) ∧ w.cell? ⟨g, k * 4 + 2, none⟩ = some (.int .i64 o.room) ∧ w.cell? ⟨g, k * 4 + 3, none⟩ = some (.bool o.marked))
theorem objS_of {W : World} {base : Nat} {v : Value} {l : List PObj} (h : W.ownsRow base 40 4 v l.length (objCells l)) : ObjS W v l := by
  by_cases hne : l = []
  · subst hne
    rcases own_empty h with rfl | ⟨y, c, rfl⟩
    · exact ⟨_, _, rfl, .inl rfl⟩
    · exact ⟨_, _, rfl, .inl rfl⟩
  · obtain ⟨g, cap, rfl, _, h2, h3⟩ := own_obj h hne
    exact ⟨_, _, rfl, .inr ⟨g, rfl, h2, h3⟩⟩
theorem ObjS.below {w w' : World} {v : Value} {l : List PObj} (h : ObjS w v l) (hb : Below w.heap.size w w') : ObjS w' v l := by
  obtain ⟨p, cap, rfl, h⟩ := h
  refine ⟨p, cap, rfl, ?_⟩
  rcases h with h | ⟨g, rfl, h2, h3⟩
  · exact .inl h
  · refine .inr ⟨g, rfl, Nat.lt_of_lt_of_le h2 hb.size, fun k o ho => ?_⟩
    obtain ⟨a, b, c, d⟩ := h3 k o ho
    exact ⟨(hb.cell (p := ⟨g, k * 4, none⟩) h2).trans a, (hb.cell (p := ⟨g, k * 4 + 1, none⟩) h2).trans b, (hb.cell (p := ⟨g, k * 4 + 2, none⟩) h2).trans c, (hb.cell (p := ⟨g, k * 4 + 3, none⟩) h2).trans d⟩

theorem drewN_drewN (w : World) (r n : Nat) : (w.drewN r).drewN n = w.drewN (r + n) := by simp [World.drewN, Nat.add_assoc]

set_option maxRecDepth 100000 in
set_option maxHeartbeats 1000000 in
theorem equal_nil (p q : Option Addr) (c d : Nat) (w : World) : Calls Tryd.prog 21 #[.slice p 0 c, .slice q 0 d] w fun e w' => e = .returned (.bool true) ∧ Below w.heap.size w w' := by
  cases p <;> cases q
  all_goals
    go_enter Tryd.func21, Tryd.ntmps21
    go_wp2_with fail
    go_loop [13] (fun s => s = .int .i64 0) (fun _ => 0)
    case atStart => rfl
    case round =>
      obtain rfl := hrel
      go_wp2
      go_ret
      exact ⟨rfl, Below.refl _ _⟩

set_option maxRecDepth 100000 in
set_option maxHeartbeats 1000000 in
theorem equal_some (l : List PObj) (hl : l.length ≤ 100000) (g q c d : Nat) (w : World)
    (h1 : ∀ k o, l[k]? = some o → w.cell? ⟨g, k * 4, none⟩ = some (.int .i64 o.at_) ∧ w.cell? ⟨g, k * 4 + 1, none⟩ = some (.int .i64 o.size) ∧ w.cell? ⟨g, k * 4 + 2, none⟩ = some (.int .i64 o.room) ∧ w.cell? ⟨g, k * 4 + 3, none⟩ = some (.bool o.marked))
    (h2 : ∀ k o, l[k]? = some o → w.cell? ⟨q, k * 4, none⟩ = some (.int .i64 o.at_) ∧ w.cell? ⟨q, k * 4 + 1, none⟩ = some (.int .i64 o.size) ∧ w.cell? ⟨q, k * 4 + 2, none⟩ = some (.int .i64 o.room) ∧ w.cell? ⟨q, k * 4 + 3, none⟩ = some (.bool o.marked)) :
    Calls Tryd.prog 21 #[.slice (some ⟨g, 0, none⟩) l.length c, .slice (some ⟨q, 0, none⟩) l.length d] w fun e w' => e = .returned (.bool true) ∧ Below w.heap.size w w' := by
  have H1 := Lib.hid h1; clear h1
  have H2 := Lib.hid h2; clear h2
  generalize hn : l.length = n at *
  have HN := Lib.hid hn; clear hn
  go_enter Tryd.func21, Tryd.ntmps21
  go_wp2_with fail
  go_loopw [13] (fun s wr => ∃ k : Nat, k ≤ n ∧ s = .int .i64 k ∧ ∃ r, wr = w.drewN r) (fun s _ => n - (intOf s).toNat)
  case atStart => exact ⟨0, by omega, rfl, 0, rfl⟩
  case round =>
    obtain ⟨k, hk, rfl, r, hr⟩ := hrel
    have HR := Lib.hid hr; clear hr
    by_cases hlt : k < n
    · obtain ⟨o, ho⟩ : ∃ o, l[k]? = some o := ⟨l[k]'(by rw [HN.out]; exact hlt), by simp⟩
      obtain ⟨a0, a1, a2, a3⟩ := H1.out k o ho
      obtain ⟨b0, b1, b2, b3⟩ := H2.out k o ho
      have c0 : wr.cell? ⟨g, k * 4, none⟩ = some (.int .i64 o.at_) := by rw [HR.out]; exact a0
      have c1 : wr.cell? ⟨g, k * 4 + 1, none⟩ = some (.int .i64 o.size) := by rw [HR.out]; exact a1
      have c2 : wr.cell? ⟨g, k * 4 + 2, none⟩ = some (.int .i64 o.room) := by rw [HR.out]; exact a2
      have c3 : wr.cell? ⟨g, k * 4 + 3, none⟩ = some (.bool o.marked) := by rw [HR.out]; exact a3
      have d0 : wr.cell? ⟨q, k * 4, none⟩ = some (.int .i64 o.at_) := by rw [HR.out]; exact b0
      have d1 : wr.cell? ⟨q, k * 4 + 1, none⟩ = some (.int .i64 o.size) := by rw [HR.out]; exact b1
      have d2 : wr.cell? ⟨q, k * 4 + 2, none⟩ = some (.int .i64 o.room) := by rw [HR.out]; exact b2
      have d3 : wr.cell? ⟨q, k * 4 + 3, none⟩ = some (.bool o.marked) := by rw [HR.out]; exact b3
      clear a0 a1 a2 a3 b0 b1 b2 b3 ho
      go_wp2_with fail
      go_quiet (fail)
      go_wp2
      go_roundw
      case rel => exact ⟨k + 1, by omega, by go_num, r + nq, by rw [HR.out]; exact drewN_drewN w r nq⟩
      case measure => simp [intOf]; omega
    · obtain rfl : k = n := by omega
      go_wp2
      go_ret
      exact ⟨rfl, by rw [HR.out]; exact below_drewN (Below.refl _ _) r⟩

/-- slices.Equal, of two lists that are the same. -/
theorem equal_at {l : List PObj} (hl : l.length ≤ 100000) {v u : Value} {w : World} (h1 : ObjS w v l) (h2 : ObjS w u l) : Calls Tryd.prog 21 #[v, u] w fun e w' => e = .returned (.bool true) ∧ Below w.heap.size w w' := by
  obtain ⟨p, c, rfl, h1⟩ := h1
  obtain ⟨q, d, rfl, h2⟩ := h2
  rcases h1 with rfl | ⟨g, rfl, _, h1⟩
  · exact equal_nil p q c d w
  · rcases h2 with rfl | ⟨g', rfl, _, h2⟩
    · exact equal_nil _ q c d w
    · exact equal_some l hl g g' c d w h1 h2

set_option maxRecDepth 100000 in
set_option maxHeartbeats 1000000 in
theorem near_at (y x : PObj) (X : Nat) (w : World) (hy : y.at_ ≤ 1000000) (hx : x.at_ ≤ 1000000) (hX : w.cell? ⟨X, 0, none⟩ = some (.int .i64 x.at_)) :
    Calls Tryd.prog 20 #[y.val, .pointer (some ⟨X, 0, none⟩)] w fun e w' => e = .returned (.bool (y.at_ / 1024 == x.at_ / 1024)) ∧ Below w.heap.size w w' := by
  have hlt := World.block_lt_of_cell? _ _ hX
  have hv : y.val = .agg #[.int .i64 y.at_, .int .i64 y.size, .int .i64 y.room, .bool y.marked] := rfl
  rw [hv]
  have HE : Hid ((((y.at_ : Int) / 1024) == ((x.at_ : Int) / 1024)) = (y.at_ / 1024 == x.at_ / 1024)) := by
    show _ = _
    rw [Bool.eq_iff_iff]; simp; omega
  clear hv
  go_enter Tryd.func20, Tryd.ntmps20
  go_wp2
  go_ret
  exact ⟨by rw [← HE.out]; rfl, by repeat (first | exact Below.refl _ _ | (refine Below.alloc ?_ (by simp) _))⟩

set_option maxRecDepth 100000 in
set_option maxHeartbeats 1000000 in
theorem index_nil (p : Option Addr) (c : Nat) (f : Value) (w : World) : Calls Tryd.prog 36 #[.slice p 0 c, f] w fun e w' => e = .returned (.int .i64 (-1)) ∧ Below w.heap.size w w' := by
  cases p
  all_goals
    go_enter Tryd.func36, Tryd.ntmps36
    go_wp2_with fail
    go_loop [8] (fun s => s = .int .i64 0) (fun _ => 0)
    case atStart => rfl
    case round =>
      obtain rfl := hrel
      go_wp2
      go_ret
      exact ⟨rfl, Below.refl _ _⟩

def IndexPost (b : Bool) (w : World) (e : Ending) (w' : World) : Prop := (∃ n : Int, e = .returned (.int .i64 n) ∧ (decide (0 ≤ n) = b)) ∧ Below w.heap.size w w'

set_option maxRecDepth 100000 in
set_option maxHeartbeats 1000000 in
theorem index_some (l : List PObj) (hl : l.length ≤ 100000) (hla : ∀ o ∈ l, o.at_ ≤ 1000000) (g c X : Nat) (x : PObj) (hx : x.at_ ≤ 1000000) (w : World) (hg : g < w.heap.size)
    (h1 : ∀ k o, l[k]? = some o → w.cell? ⟨g, k * 4, none⟩ = some (.int .i64 o.at_) ∧ w.cell? ⟨g, k * 4 + 1, none⟩ = some (.int .i64 o.size) ∧ w.cell? ⟨g, k * 4 + 2, none⟩ = some (.int .i64 o.room) ∧ w.cell? ⟨g, k * 4 + 3, none⟩ = some (.bool o.marked))
    (hX : w.cell? ⟨X, 0, none⟩ = some (.int .i64 x.at_)) :
    Calls Tryd.prog 36 #[.slice (some ⟨g, 0, none⟩) l.length c, .func (.func 20) #[] #[.pointer (some ⟨X, 0, none⟩)]] w (IndexPost (l.any fun y => y.at_ / 1024 == x.at_ / 1024) w) := by
  have H1 := Lib.hid h1; clear h1
  have hXl := World.block_lt_of_cell? _ _ hX
  have HX := Lib.hid hX; clear hX
  have HLA := Lib.hid hla; clear hla
  obtain ⟨B, hB⟩ : ∃ B, B = l.any fun y => y.at_ / 1024 == x.at_ / 1024 := ⟨_, rfl⟩
  rw [← hB]
  have HBB := Lib.hid hB; clear hB
  generalize hn : l.length = n at *
  have HN := Lib.hid hn; clear hn
  go_enter Tryd.func36, Tryd.ntmps36
  go_wp2_with fail
  go_loopw [8] (fun s wr => ∃ k : Nat, k ≤ n ∧ s = .int .i64 k ∧ (∀ (j : Nat) (o : PObj), j < k → l[j]? = some o → (o.at_ / 1024 == x.at_ / 1024) = false) ∧ Below w.heap.size w wr) (fun s _ => n - (intOf s).toNat)
  case atStart => exact ⟨0, by omega, rfl, fun j o hj => by omega, Below.refl _ _⟩
  case round =>
    obtain ⟨k, hk, rfl, hno, hb⟩ := hrel
    have HNO := Lib.hid hno; clear hno
    have HB := Lib.hid hb; clear hb
    by_cases hlt : k < n
    · obtain ⟨o, ho⟩ : ∃ o, l[k]? = some o := ⟨l[k]'(by rw [HN.out]; exact hlt), by simp⟩
      obtain ⟨a0, a1, a2, a3⟩ := H1.out k o ho
      have c0 : wr.cell? ⟨g, k * 4, none⟩ = some (.int .i64 o.at_) := (HB.out.cell (p := ⟨g, k * 4, none⟩) hg).trans a0
      have c1 : wr.cell? ⟨g, k * 4 + 1, none⟩ = some (.int .i64 o.size) := (HB.out.cell (p := ⟨g, k * 4 + 1, none⟩) hg).trans a1
      have c2 : wr.cell? ⟨g, k * 4 + 2, none⟩ = some (.int .i64 o.room) := (HB.out.cell (p := ⟨g, k * 4 + 2, none⟩) hg).trans a2
      have c3 : wr.cell? ⟨g, k * 4 + 3, none⟩ = some (.bool o.marked) := (HB.out.cell (p := ⟨g, k * 4 + 3, none⟩) hg).trans a3
      have HX' : Hid (wr.cell? ⟨X, 0, none⟩ = some (.int .i64 x.at_)) := (HB.out.cell (p := ⟨X, 0, none⟩) hXl).trans HX.out
      have HO := Lib.hid ho
      have HC := Lib.hid (fun w h => near_at o x X w (HLA.out o (List.mem_of_getElem? ho)) hx h)
      clear a0 a1 a2 a3 ho
      go_wp2_with fail
      refine (HC.out _ HX'.out).mono ?_
      rintro e w2 ⟨rfl, hb2⟩
      have HB2 : Hid (Below w.heap.size w w2) := HB.out.trans (hb2.mono HB.out.size)
      clear hb2 c0 c1 c2 c3
      cases hn : (o.at_ / 1024 == x.at_ / 1024) with
      | true =>
        have hany : B = true := by
          rw [HBB.out, List.any_eq_true]
          exact ⟨o, List.mem_of_getElem? HO.out, hn⟩
        clear hn
        go_wp2
        go_ret
        exact ⟨⟨_, rfl, by rw [hany]; simp⟩, HB2.out⟩
      | false =>
        have HF := Lib.hid hn; clear hn
        go_wp2
        go_roundw
        case rel =>
          refine ⟨k + 1, by omega, by go_num, fun j o' hj ho' => ?_, HB2.out⟩
          by_cases e : j = k
          · subst e; rw [HO.out] at ho'; cases ho'; exact HF.out
          · exact HNO.out j o' (by omega) ho'
        case measure => simp [intOf]; omega
    · obtain rfl : k = n := by omega
      have hany : B = false := by
        rw [HBB.out, Bool.eq_false_iff]
        intro h
        rw [List.any_eq_true] at h
        obtain ⟨o, ho, h⟩ := h
        obtain ⟨j, hj, e⟩ := List.getElem_of_mem ho
        rw [HN.out] at hj
        rw [HNO.out j o hj (by rw [← e]; simp)] at h
        cases h
      go_wp2
      go_ret
      exact ⟨⟨_, rfl, by rw [hany]; rfl⟩, HB.out⟩

theorem index_at {l : List PObj} (hl : l.length ≤ 100000) (hla : ∀ o ∈ l, o.at_ ≤ 1000000) {v : Value} {X : Nat} {x : PObj} (hx : x.at_ ≤ 1000000) {w : World} (h1 : ObjS w v l) (hX : w.cell? ⟨X, 0, none⟩ = some (.int .i64 x.at_)) :
    Calls Tryd.prog 36 #[v, .func (.func 20) #[] #[.pointer (some ⟨X, 0, none⟩)]] w (IndexPost (l.any fun y => y.at_ / 1024 == x.at_ / 1024) w) := by
  obtain ⟨p, c, rfl, h1⟩ := h1
  rcases h1 with rfl | ⟨g, rfl, hg, h1⟩
  · exact (index_nil p c _ w).mono fun e w' h => ⟨⟨_, h.1, rfl⟩, h.2⟩
  · exact index_some l hl hla g c X x hx w hg h1 hX

set_option maxRecDepth 100000 in
set_option maxHeartbeats 1000000 in
/-- slices.ContainsFunc, of PoolFirst's closure. -/
theorem contains_at {l : List PObj} (hl : l.length ≤ 100000) (hla : ∀ o ∈ l, o.at_ ≤ 1000000) {v : Value} {X : Nat} {x : PObj} (hx : x.at_ ≤ 1000000) {w : World} (h1 : ObjS w v l) (hX : w.cell? ⟨X, 0, none⟩ = some (.int .i64 x.at_)) :
    Calls Tryd.prog 19 #[v, .func (.func 20) #[] #[.pointer (some ⟨X, 0, none⟩)]] w fun e w' => e = .returned (.bool (l.any fun y => y.at_ / 1024 == x.at_ / 1024)) ∧ Below w.heap.size w w' := by
  have HI := Lib.hid (index_at hl hla hx h1 hX)
  clear h1 hX hla
  generalize (l.any fun y => y.at_ / 1024 == x.at_ / 1024) = b at *
  go_enter Tryd.func19, Tryd.ntmps19
  go_wp2_with fail
  refine HI.out.mono ?_
  rintro e w' ⟨⟨n, rfl, hn⟩, hb⟩
  have HB := Lib.hid hb; clear hb
  go_wp2_with fail
  go_ret
  exact ⟨rfl, HB.out⟩
end Go.Proofs.YtdgfnlagbdmniaaDoor.Pl
