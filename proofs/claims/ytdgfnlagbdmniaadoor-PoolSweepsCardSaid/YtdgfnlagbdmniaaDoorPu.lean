/- The pool: find. -/
import Derived.Test.YtdgfnlagbdmniaaDoorPt
namespace Go.Proofs.YtdgfnlagbdmniaaDoor.Pl
open Go.RowKit

theorem below_drewN {B : Nat} {w w' : World} (h : Below B w w') (n : Nat) : Below B w (w'.drewN n) := ⟨h.os, h.tape, h.output, h.size, h.block⟩

theorem bit_test0 (m s : Nat) (hm : m < 4294967296) : (bits BinOp.and IntKind.u32 ((m : Int) / 2 ^ s) 1 == 0) = !m.testBit s := by
  rw [← bit_test m s hm]
  have e : (m : Int) / 2 ^ s = ((m / 2 ^ s : Nat) : Int) := by simp
  have hle : m / 2 ^ s ≤ m := Nat.div_le_self _ _
  rw [e, show (1 : Int) = ((1 : Nat) : Int) from rfl, u32_and _ _ (by omega) (by decide), Nat.and_one_is_mod]
  generalize m / 2 ^ s = q
  rw [Bool.eq_iff_iff]
  simp
  omega

def pv (i s : Nat) : Value := .agg #[.int .i64 i, .int .i64 s]

/-- What find returns, its head chunk being known. -/
def FindC (c : Chunk) (hd ad : Nat) (e : Ending) : Prop :=
  (c.what = 0 ∧ e = .returned (.tuple #[pv 0 0, .bool false])) ∨
  (c.what = 1 ∧ c.taken.testBit (ad % 1024 / (32 * 2 ^ c.cls)) = false ∧ e = .returned (.tuple #[pv 0 0, .bool false])) ∨
  (c.what = 1 ∧ c.taken.testBit (ad % 1024 / (32 * 2 ^ c.cls)) = true ∧ ∃ o, o = objOf c hd (ad % 1024 / (32 * 2 ^ c.cls)) ∧ e = .returned (.tuple #[pv hd (ad % 1024 / (32 * 2 ^ c.cls)), .bool (decide ((ad : Int) < o.at_ + o.size))])) ∨
  (c.what = 2 ∧ ∃ o, o = objOf c hd 0 ∧ e = .returned (.tuple #[pv hd 0, .bool (decide ((ad : Int) < o.at_ + o.size))]))

set_option maxRecDepth 100000 in
set_option maxHeartbeats 1000000 in
theorem find_walk {w : World} {a b : Nat} {cs : List Chunk} (h : At w a b cs) (ad hd : Nat) (c : Chunk) (hlt : ad < cs.length * 1024) (hh : hd ≤ ad / 1024)
    (htl : ∀ j, hd < j → j ≤ ad / 1024 → ∃ d, cs[j]? = some d ∧ d.what = 3) (hc : cs[hd]? = some c) (h3 : c.what < 3) (hrd : Rd c) (hob : ∀ s, (c.what = 2 ∨ (c.what = 1 ∧ c.taken.testBit s = true)) → s < 32 → (objOf c hd s).at_ ≤ 1000000 ∧ 0 ≤ (objOf c hd s).size ∧ (objOf c hd s).size ≤ 1000000) :
    Calls Tryd.prog 33 #[.pointer (some ⟨a, 0, none⟩), .int .i64 ad] w fun e w' => FindC c hd ad e ∧ Below w.heap.size w w' := by
  have hp := h.cell_p
  have ha := h.lt_a
  have hb := h.lt_b
  have hfew := h.few
  have HA := Lib.hid h; clear h
  have HT := Lib.hid htl; clear htl
  have HC := Lib.hid hc; clear hc
  have HR := Lib.hid hrd; clear hrd
  have HO := Lib.hid hob; clear hob
  have hl : hd < cs.length := (List.getElem?_eq_some_iff.1 HC.out).1
  generalize hN : cs.length = N at *
  have HN := Lib.hid hN; clear hN
  have e1 : decide ((ad : Int) < 0) = false := decide_eq_false (by omega)
  have e2 : decide ((N : Int) * 1024 ≤ (ad : Int)) = false := decide_eq_false (by omega)
  go_enter Tryd.func33, Tryd.ntmps33
  go_wp2_with fail
  obtain ⟨W0, hW0⟩ : ∃ W0, W0 = (w.alloc (Obj.cells #[Value.int IntKind.i64 0, Value.int IntKind.i64 0] 83)).alloc (Obj.cells #[Value.int IntKind.i64 ((ad / 1024 : Nat) : Int), Value.int IntKind.i64 0] 83) := ⟨_, rfl⟩
  have ed : (ad : Int) / 1024 = ((ad / 1024 : Nat) : Int) := by omega
  rw [ed, ← hW0]; clear ed
  obtain ⟨B, hB⟩ : ∃ B, B = w.heap.size := ⟨_, rfl⟩
  have HA0 : Hid (At W0 a b cs) := by rw [hW0]; exact (HA.out.alloc _).alloc _
  have HB0 : Hid (Below B w W0) := by rw [hW0, hB]; exact ((Below.refl _ _).alloc (Nat.le_refl _) _).alloc (by simp) _
  have HX0 : Hid (W0.heap[B]? = some (.cells #[Value.int IntKind.i64 0, Value.int IntKind.i64 0] 83 (0, 0))) := by
    rw [hW0, hB]; show ((w.heap.push _).push _)[_]? = _
    rw [Array.getElem?_push, if_neg (by simp), Array.getElem?_push, if_pos rfl]
  have HY0 : Hid (W0.heap[B + 1]? = some (.cells #[Value.int IntKind.i64 ((ad / 1024 : Nat) : Int), Value.int IntKind.i64 0] 83 (0, 0))) := by
    rw [hW0, hB]; show ((w.heap.push _).push _)[_]? = _
    rw [Array.getElem?_push, if_pos (by simp)]
  rw [← hB] at ha hb ⊢
  have HBw := Lib.hid hB; clear hB hW0 hp
  go_loopg [] (ad / 1024 - hd) (fun g wx => ∃ j : Nat, j = hd + g ∧ j ≤ ad / 1024 ∧ wx.heap[B + 1]? = some (.cells #[.int .i64 j, .int .i64 0] 83 (0, 0)) ∧ wx.heap[B]? = some (.cells #[Value.int IntKind.i64 0, Value.int IntKind.i64 0] 83 (0, 0)) ∧ At wx a b cs ∧ Below B w wx)
  case atStart => exact ⟨ad / 1024, by omega, by omega, HY0.out, HX0.out, HA0.out, HB0.out⟩
  case round =>
    obtain ⟨j, hj, hj2, hY, hX, hA, hB⟩ := hrel
    have HA := Lib.hid hA; clear hA
    have HB := Lib.hid hB; clear hB
    have hp := HA.out.cell_p
    rw [HN.out] at hp
    have y0 : wr.cell? ⟨B + 1, 0, none⟩ = some (.int .i64 j) := cell_blk hY 0
    have y1 : wr.cell? ⟨B + 1, 1, none⟩ = some (.int .i64 0) := cell_blk hY 1
    have yf : ∀ o, wr.frozen? ⟨B + 1, o, none⟩ = false := frozen_blk hY
    have x0 : wr.cell? ⟨B, 0, none⟩ = some (.int .i64 0) := cell_blk hX 0
    have x1 : wr.cell? ⟨B, 1, none⟩ = some (.int .i64 0) := cell_blk hX 1
    have xf : ∀ o, wr.frozen? ⟨B, o, none⟩ = false := frozen_blk hX
    have HX := Lib.hid hX; clear hX
    have HY := Lib.hid hY; clear hY
    have hjN : j < N := by omega
    by_cases hjd : hd < j
    · obtain ⟨d, hd1, hd2⟩ := HT.out j hjd hj2
      have c0 := HA.out.what hd1
      rw [hd2] at c0
      have hg : 0 < gk := by omega
      have HJ := Lib.hid hj; clear hj
      clear hd1 hd2 hh hlt
      go_wp2_with fail
      go_quiet (fail)
      go_wp2_with fail
      go_roundg (gk - 1)
      case measure => first | omega | exact hg
      case rel =>
        refine ⟨j - 1, by have := HJ.out; omega, by omega, ?_, ?_, ?_, ?_⟩
        · rw [blk_set (w := wr.drewN nq) HY.out]; simp; omega
        · exact blk_set_ne (w := wr.drewN nq) HX.out _ (by simp) _
        · exact HA.out.same (Below.heap_setCell _ _ _ _ (by simp; omega)) (Below.heap_setCell _ _ _ _ (by simp; omega))
        · exact Below.setCell (below_drewN HB.out nq) (p := ⟨B + 1, 0, none⟩) (by simp) _
    · obtain rfl : j = hd := by omega
      clear hj hjd hj2 hh
      have c0 := HA.out.what HC.out
      have c1 := HA.out.cls HC.out
      have c2 := HA.out.taken HC.out
      go_wp2_with fail
      go_quiet (fail)
      go_wp2_with fail
      obtain ⟨W, hW⟩ : ∃ W, W = wr.drewN nq := ⟨_, rfl⟩
      rw [← hW]
      have HA : Hid (At W a b cs) := by rw [hW]; exact HA.out.drewN nq
      have HB : Hid (Below B w W) := by rw [hW]; exact below_drewN HB.out nq
      have HX : Hid (W.heap[B]? = some (.cells #[.int .i64 0, .int .i64 0] 83 (0, 0))) := by rw [hW]; exact HX.out
      have HY : Hid (W.heap[B + 1]? = some (.cells #[.int .i64 j, .int .i64 0] 83 (0, 0))) := by rw [hW]; exact HY.out
      clear hW hp y0 y1 yf x0 x1 xf c0 c1 c2
      have hp := HA.out.cell_p
      rw [HN.out] at hp
      have y0 : W.cell? ⟨B + 1, 0, none⟩ = some (.int .i64 j) := cell_blk HY.out 0
      have y1 : W.cell? ⟨B + 1, 1, none⟩ = some (.int .i64 0) := cell_blk HY.out 1
      have yf : ∀ o, W.frozen? ⟨B + 1, o, none⟩ = false := frozen_blk HY.out
      have x0 : W.cell? ⟨B, 0, none⟩ = some (.int .i64 0) := cell_blk HX.out 0
      have x1 : W.cell? ⟨B, 1, none⟩ = some (.int .i64 0) := cell_blk HX.out 1
      have xf : ∀ o, W.frozen? ⟨B, o, none⟩ = false := frozen_blk HX.out
      have c0 := HA.out.what HC.out
      have c1 := HA.out.cls HC.out
      have c2 := HA.out.taken HC.out
      go_quiet (fail)
      obtain ⟨W2, hW2⟩ : ∃ W2, W2 = W.drewN nq := ⟨_, rfl⟩
      rw [← hW2]
      have HA : Hid (At W2 a b cs) := by rw [hW2]; exact HA.out.drewN nq
      have HB : Hid (Below B w W2) := by rw [hW2]; exact below_drewN HB.out nq
      have HX : Hid (W2.heap[B]? = some (.cells #[.int .i64 0, .int .i64 0] 83 (0, 0))) := by rw [hW2]; exact HX.out
      have HY : Hid (W2.heap[B + 1]? = some (.cells #[.int .i64 j, .int .i64 0] 83 (0, 0))) := by rw [hW2]; exact HY.out
      clear hW2 hp y0 y1 yf x0 x1 xf c0 c1 c2
      have hp := HA.out.cell_p
      rw [HN.out] at hp
      have y0 : W2.cell? ⟨B + 1, 0, none⟩ = some (.int .i64 j) := cell_blk HY.out 0
      have y1 : W2.cell? ⟨B + 1, 1, none⟩ = some (.int .i64 0) := cell_blk HY.out 1
      have yf : ∀ o, W2.frozen? ⟨B + 1, o, none⟩ = false := frozen_blk HY.out
      have x0 : W2.cell? ⟨B, 0, none⟩ = some (.int .i64 0) := cell_blk HX.out 0
      have x1 : W2.cell? ⟨B, 1, none⟩ = some (.int .i64 0) := cell_blk HX.out 1
      have xf : ∀ o, W2.frozen? ⟨B, o, none⟩ = false := frozen_blk HX.out
      have c0 := HA.out.what HC.out
      have c1 := HA.out.cls HC.out
      have c2 := HA.out.taken HC.out
      have HBF : Hid (∀ u v, Below w.heap.size w ((W2.setCell ⟨B, 0, none⟩ u).setCell ⟨B, 1, none⟩ v)) := fun u v => by
        rw [← HBw.out]; exact (HB.out.setCell (p := ⟨B, 0, none⟩) (Nat.le_refl _) _).setCell (p := ⟨B, 1, none⟩) (Nat.le_refl _) _
      have HRB : Hid (∀ u v, ((W2.setCell ⟨B, 0, none⟩ u).setCell ⟨B, 1, none⟩ v).cell? ⟨B, 0, none⟩ = some u ∧ ((W2.setCell ⟨B, 0, none⟩ u).setCell ⟨B, 1, none⟩ v).cell? ⟨B, 1, none⟩ = some v) := fun u v => by
        have hb := blk_set (blk_set HX.out 0 u) 1 v
        exact ⟨cell_blk hb 0, cell_blk hb 1⟩
      obtain hw | hw | hw : c.what = 0 ∨ c.what = 1 ∨ c.what = 2 := by omega
      · have HF : Hid (FindC c j ad (.returned (.tuple #[pv 0 0, .bool false]))) := .inl ⟨hw, rfl⟩
        rw [hw] at c0
        clear hw
        go_wp2_with fail
        have hrb := HRB.out (Value.int IntKind.i64 0) (Value.int IntKind.i64 0)
        exact bodyPost_ret (v := .tuple #[pv 0 0, .bool false]) (by simp [results, Tryd.results33, go_sem, pv, hrb.1, hrb.2]) rfl ⟨HF.out, HBF.out _ _⟩
      · obtain ⟨z, hz⟩ : ∃ z, z = 32 * 2 ^ c.cls := ⟨_, rfl⟩
        obtain ⟨s, hs⟩ : ∃ s, s = ad % 1024 / z := ⟨_, rfl⟩
        have hz1 : 32 ≤ z := by rw [hz]; have := Nat.pow_pos (a := 2) (n := c.cls) (by decide); omega
        have hq : (ad : Int) % 1024 / (z : Int) = (s : Int) := by rw [hs]; simp
        have hs32 : s < 32 := by
          rw [hs, Nat.div_lt_iff_lt_mul (by omega)]
          have := Nat.mod_lt ad (show 1024 > 0 by decide)
          omega
        have HZ := Lib.hid (fun w => (slotSize_any c.cls (by have := HR.out.cls; omega) w).mono fun _ _ h => (⟨h.1, h.2.symm⟩ : _ ∧ _ = _))
        rw [← hz] at HZ
        have HF0 : Hid (c.taken.testBit s = false → FindC c j ad (.returned (.tuple #[pv 0 0, .bool false]))) := fun h => .inr (.inl ⟨hw, by rw [← hz, ← hs]; exact h, rfl⟩)
        have HF1 : Hid (c.taken.testBit s = true → FindC c j ad (.returned (.tuple #[pv j s, .bool (decide ((ad : Int) < (objOf c j s).at_ + (objOf c j s).size))]))) := fun h => .inr (.inr (.inl ⟨hw, by rw [← hz, ← hs]; exact h, _, by rw [← hz, ← hs], by rw [← hz, ← hs]⟩))
        rw [hw] at c0
        have HW := Lib.hid hw
        have HQ := Lib.hid hq
        have HT2 := Lib.hid (bit_test0 c.taken s HR.out.taken)
        clear hw hz hs hq
        go_wp2_with fail
        refine (HZ.out _).mono ?_
        rintro e w' ⟨rfl, rfl⟩
        go_wp2_with fail
        rw [HQ.out]
        obtain ⟨W3, hW3⟩ : ∃ W3, W3 = w'.setCell ⟨B + 1, 1, none⟩ (.int .i64 (s : Int)) := ⟨_, rfl⟩
        rw [← hW3]
        have HA : Hid (At W3 a b cs) := by rw [hW3]; exact HA.out.same (Below.heap_setCell _ _ _ _ (by simp; omega)) (Below.heap_setCell _ _ _ _ (by simp; omega))
        have HB : Hid (Below B w W3) := by rw [hW3]; exact HB.out.setCell (p := ⟨B + 1, 1, none⟩) (by simp) _
        have HX : Hid (W3.heap[B]? = some (.cells #[.int .i64 0, .int .i64 0] 83 (0, 0))) := by rw [hW3]; exact blk_set_ne HX.out _ (by simp) _
        have HY : Hid (W3.heap[B + 1]? = some (.cells #[.int .i64 j, .int .i64 s] 83 (0, 0))) := by rw [hW3]; exact blk_set HY.out 1 _
        clear hW3 hp y0 y1 yf x0 x1 xf c0 c1 c2
        have hp := HA.out.cell_p
        rw [HN.out] at hp
        have y0 : W3.cell? ⟨B + 1, 0, none⟩ = some (.int .i64 j) := cell_blk HY.out 0
        have y1 : W3.cell? ⟨B + 1, 1, none⟩ = some (.int .i64 s) := cell_blk HY.out 1
        have yf : ∀ o, W3.frozen? ⟨B + 1, o, none⟩ = false := frozen_blk HY.out
        have x0 : W3.cell? ⟨B, 0, none⟩ = some (.int .i64 0) := cell_blk HX.out 0
        have x1 : W3.cell? ⟨B, 1, none⟩ = some (.int .i64 0) := cell_blk HX.out 1
        have xf : ∀ o, W3.frozen? ⟨B, o, none⟩ = false := frozen_blk HX.out
        have c0 := HA.out.what HC.out
        have c1 := HA.out.cls HC.out
        have c2 := HA.out.taken HC.out
        have HBF : Hid (∀ u v, Below w.heap.size w ((W3.setCell ⟨B, 0, none⟩ u).setCell ⟨B, 1, none⟩ v)) := fun u v => by
          rw [← HBw.out]; exact (HB.out.setCell (p := ⟨B, 0, none⟩) (Nat.le_refl _) _).setCell (p := ⟨B, 1, none⟩) (Nat.le_refl _) _
        have HRB : Hid (∀ u v, ((W3.setCell ⟨B, 0, none⟩ u).setCell ⟨B, 1, none⟩ v).cell? ⟨B, 0, none⟩ = some u ∧ ((W3.setCell ⟨B, 0, none⟩ u).setCell ⟨B, 1, none⟩ v).cell? ⟨B, 1, none⟩ = some v) := fun u v => by
          have hb := blk_set (blk_set HX.out 0 u) 1 v
          exact ⟨cell_blk hb 0, cell_blk hb 1⟩
        cases hbt : c.taken.testBit s with
        | false =>
          have hbt2 := HT2.out
          rw [hbt] at hbt2
          go_quiet (fail)
          go_wp2_with fail
          have hrb := HRB.out (Value.int IntKind.i64 0) (Value.int IntKind.i64 0)
          have hrb1 : (((W3.drewN nq).setCell { block := B, off := 0 } (Value.int IntKind.i64 0)).setCell { block := B, off := 1 } (Value.int IntKind.i64 0)).cell? ⟨B, 0, none⟩ = _ := hrb.1
          have hrb2 : (((W3.drewN nq).setCell { block := B, off := 0 } (Value.int IntKind.i64 0)).setCell { block := B, off := 1 } (Value.int IntKind.i64 0)).cell? ⟨B, 1, none⟩ = _ := hrb.2
          exact bodyPost_ret (v := .tuple #[pv 0 0, .bool false]) (by simp [results, Tryd.results33, go_sem, pv, hrb1, hrb2]) rfl ⟨HF0.out hbt, below_drewN (HBF.out _ _) nq⟩
        | true =>
          have hbt2 := HT2.out
          rw [hbt] at hbt2
          have HBT := Lib.hid hbt; clear hbt
          go_quiet (fail)
          go_wp2_with fail
          refine (object_at (HA.out.drewN nq) j s c HC.out HR.out.cls hs32 HR.out.marks HR.out.many).mono ?_
          rintro e w5 ⟨rfl, hb5⟩
          have hobs := HO.out s (.inr ⟨HW.out, HBT.out⟩) hs32
          have HFF := Lib.hid (HF1.out HBT.out)
          have HV : Hid ((objOf c j s).val = .agg #[.int .i64 (objOf c j s).at_, .int .i64 (objOf c j s).size, .int .i64 (objOf c j s).room, .bool (objOf c j s).marked]) := rfl
          generalize objOf c j s = o at *
          rw [HV.out]
          have l1 : B + 1 < (W3.drewN nq).heap.size := (Array.getElem?_eq_some_iff.1 HY.out).1
          have HX5 : Hid (w5.heap[B]? = some (.cells #[.int .i64 0, .int .i64 0] 83 (0, 0))) := (hb5.block B (by omega)).trans HX.out
          have HY5 : Hid (w5.heap[B + 1]? = some (.cells #[.int .i64 j, .int .i64 s] 83 (0, 0))) := (hb5.block (B + 1) l1).trans HY.out
          have HB5 : Hid (Below B w w5) := (below_drewN HB.out nq).trans (hb5.mono (by omega))
          have hs5 : B + 1 < w5.heap.size := (Array.getElem?_eq_some_iff.1 HY5.out).1
          clear hb5 l1
          go_wp2_with fail
          obtain ⟨W6, hW6⟩ : ∃ W6, W6 = w5.alloc (Obj.cells #[Value.int IntKind.i64 o.at_, Value.int IntKind.i64 o.size, Value.int IntKind.i64 o.room, Value.bool o.marked] 40) := ⟨_, rfl⟩
          rw [← hW6]
          have HX6 : Hid (W6.heap[B]? = some (.cells #[.int .i64 0, .int .i64 0] 83 (0, 0))) := by rw [hW6]; exact (Below.heap_alloc _ _ _ (by omega)).trans HX5.out
          have HY6 : Hid (W6.heap[B + 1]? = some (.cells #[.int .i64 j, .int .i64 s] 83 (0, 0))) := by rw [hW6]; exact (Below.heap_alloc _ _ _ (by omega)).trans HY5.out
          have HZ6 : Hid (W6.heap[w5.heap.size]? = some (.cells #[Value.int IntKind.i64 o.at_, Value.int IntKind.i64 o.size, Value.int IntKind.i64 o.room, Value.bool o.marked] 40 (0, 0))) := by rw [hW6]; exact (MapKept.heap_alloc _ _).1
          have HB6 : Hid (Below B w W6) := by rw [hW6]; exact HB5.out.alloc (by omega) _
          clear hW6
          have y0 : W6.cell? ⟨B + 1, 0, none⟩ = some (.int .i64 j) := cell_blk HY6.out 0
          have y1 : W6.cell? ⟨B + 1, 1, none⟩ = some (.int .i64 s) := cell_blk HY6.out 1
          have x0 : W6.cell? ⟨B, 0, none⟩ = some (.int .i64 0) := cell_blk HX6.out 0
          have x1 : W6.cell? ⟨B, 1, none⟩ = some (.int .i64 0) := cell_blk HX6.out 1
          have xf : ∀ o, W6.frozen? ⟨B, o, none⟩ = false := frozen_blk HX6.out
          have z0 : W6.cell? ⟨w5.heap.size, 0, none⟩ = some (.int .i64 o.at_) := cell_blk HZ6.out 0
          have z1 : W6.cell? ⟨w5.heap.size, 1, none⟩ = some (.int .i64 o.size) := cell_blk HZ6.out 1
          obtain ⟨ho1, ho2, ho3⟩ := hobs
          go_region
          all_goals go_wp2_with fail
          have hrb := blk_set (blk_set HX6.out 0 (Value.int IntKind.i64 j)) 1 (Value.int IntKind.i64 s)
          have hrb1 : (((W6.setCell { block := B, off := 0 } (Value.int IntKind.i64 j)).setCell { block := B, off := 1 } (Value.int IntKind.i64 s)).drew).cell? ⟨B, 0, none⟩ = _ := cell_blk hrb 0
          have hrb2 : (((W6.setCell { block := B, off := 0 } (Value.int IntKind.i64 j)).setCell { block := B, off := 1 } (Value.int IntKind.i64 s)).drew).cell? ⟨B, 1, none⟩ = _ := cell_blk hrb 1
          refine bodyPost_ret (v := .tuple #[pv j s, .bool (decide ((ad : Int) < o.at_ + o.size))]) (by simp [results, Tryd.results33, go_sem, pv, hrb1, hrb2]) rfl ⟨HFF.out, ?_⟩
          rw [← HBw.out]
          exact ((HB6.out.setCell (p := ⟨B, 0, none⟩) (Nat.le_refl _) _).setCell (p := ⟨B, 1, none⟩) (Nat.le_refl _) _).drew
      · have HF2 : Hid (FindC c j ad (.returned (.tuple #[pv j 0, .bool (decide ((ad : Int) < (objOf c j 0).at_ + (objOf c j 0).size))]))) := .inr (.inr (.inr ⟨hw, _, rfl, rfl⟩))
        rw [hw] at c0
        have HW := Lib.hid hw
        clear hw
        go_wp2_with fail
        refine (object_at (HA.out) j 0 c HC.out HR.out.cls (by decide) HR.out.marks HR.out.many).mono ?_
        rintro e w5 ⟨rfl, hb5⟩
        have hobs := HO.out 0 (.inl HW.out) (by decide)
        have HFF := Lib.hid HF2.out
        have HV : Hid ((objOf c j 0).val = .agg #[.int .i64 (objOf c j 0).at_, .int .i64 (objOf c j 0).size, .int .i64 (objOf c j 0).room, .bool (objOf c j 0).marked]) := rfl
        generalize objOf c j 0 = o at *
        rw [HV.out]
        have l1 : B + 1 < (W2).heap.size := (Array.getElem?_eq_some_iff.1 HY.out).1
        have HX5 : Hid (w5.heap[B]? = some (.cells #[.int .i64 0, .int .i64 0] 83 (0, 0))) := (hb5.block B (by omega)).trans HX.out
        have HY5 : Hid (w5.heap[B + 1]? = some (.cells #[.int .i64 j, .int .i64 0] 83 (0, 0))) := (hb5.block (B + 1) l1).trans HY.out
        have HB5 : Hid (Below B w w5) := HB.out.trans (hb5.mono (by omega))
        have hs5 : B + 1 < w5.heap.size := (Array.getElem?_eq_some_iff.1 HY5.out).1
        clear hb5 l1
        go_wp2_with fail
        obtain ⟨W6, hW6⟩ : ∃ W6, W6 = w5.alloc (Obj.cells #[Value.int IntKind.i64 o.at_, Value.int IntKind.i64 o.size, Value.int IntKind.i64 o.room, Value.bool o.marked] 40) := ⟨_, rfl⟩
        rw [← hW6]
        have HX6 : Hid (W6.heap[B]? = some (.cells #[.int .i64 0, .int .i64 0] 83 (0, 0))) := by rw [hW6]; exact (Below.heap_alloc _ _ _ (by omega)).trans HX5.out
        have HY6 : Hid (W6.heap[B + 1]? = some (.cells #[.int .i64 j, .int .i64 0] 83 (0, 0))) := by rw [hW6]; exact (Below.heap_alloc _ _ _ (by omega)).trans HY5.out
        have HZ6 : Hid (W6.heap[w5.heap.size]? = some (.cells #[Value.int IntKind.i64 o.at_, Value.int IntKind.i64 o.size, Value.int IntKind.i64 o.room, Value.bool o.marked] 40 (0, 0))) := by rw [hW6]; exact (MapKept.heap_alloc _ _).1
        have HB6 : Hid (Below B w W6) := by rw [hW6]; exact HB5.out.alloc (by omega) _
        clear hW6
        have y0 : W6.cell? ⟨B + 1, 0, none⟩ = some (.int .i64 j) := cell_blk HY6.out 0
        have y1 : W6.cell? ⟨B + 1, 1, none⟩ = some (.int .i64 0) := cell_blk HY6.out 1
        have x0 : W6.cell? ⟨B, 0, none⟩ = some (.int .i64 0) := cell_blk HX6.out 0
        have x1 : W6.cell? ⟨B, 1, none⟩ = some (.int .i64 0) := cell_blk HX6.out 1
        have xf : ∀ o, W6.frozen? ⟨B, o, none⟩ = false := frozen_blk HX6.out
        have z0 : W6.cell? ⟨w5.heap.size, 0, none⟩ = some (.int .i64 o.at_) := cell_blk HZ6.out 0
        have z1 : W6.cell? ⟨w5.heap.size, 1, none⟩ = some (.int .i64 o.size) := cell_blk HZ6.out 1
        obtain ⟨ho1, ho2, ho3⟩ := hobs
        go_region
        all_goals go_wp2_with fail
        have hrb := blk_set (blk_set HX6.out 0 (Value.int IntKind.i64 j)) 1 (Value.int IntKind.i64 0)
        have hrb1 : (((W6.setCell { block := B, off := 0 } (Value.int IntKind.i64 j)).setCell { block := B, off := 1 } (Value.int IntKind.i64 0)).drew).cell? ⟨B, 0, none⟩ = _ := cell_blk hrb 0
        have hrb2 : (((W6.setCell { block := B, off := 0 } (Value.int IntKind.i64 j)).setCell { block := B, off := 1 } (Value.int IntKind.i64 0)).drew).cell? ⟨B, 1, none⟩ = _ := cell_blk hrb 1
        refine bodyPost_ret (v := .tuple #[pv j 0, .bool (decide ((ad : Int) < o.at_ + o.size))]) (by simp [results, Tryd.results33, go_sem, pv, hrb1, hrb2]) rfl ⟨HFF.out, ?_⟩
        rw [← HBw.out]
        exact ((HB6.out.setCell (p := ⟨B, 0, none⟩) (Nat.le_refl _) _).setCell (p := ⟨B, 1, none⟩) (Nat.le_refl _) _).drew
end Go.Proofs.YtdgfnlagbdmniaaDoor.Pl
