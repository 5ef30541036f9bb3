/- Numeric: Of, Parts. -/
import Derived.Test.YtlbgpfddmkpakaaAb
namespace Go.Proofs.Ytlbgpfddmkpakaa.Nu
open Go.RowKit
set_option linter.unusedVariables false
set_option linter.unusedSimpArgs false

theorem cell_blk {w : World} {b : Nat} {C : Array Value} {t : TypeId} {f : Nat × Nat} (h : w.heap[b]? = some (.cells C t f)) (o : Nat) : w.cell? ⟨b, o, none⟩ = C[o]? := by
  simp [World.cell?, h]
theorem frozen_blk {w : World} {b : Nat} {C : Array Value} {t : TypeId} (h : w.heap[b]? = some (.cells C t (0, 0))) (o : Nat) : w.frozen? ⟨b, o, none⟩ = false := by
  simp [World.frozen?, h]
theorem blk_set {w : World} {b : Nat} {C : Array Value} {t : TypeId} {f : Nat × Nat} (h : w.heap[b]? = some (.cells C t f)) (o : Nat) (v : Value) : (w.setCell ⟨b, o, none⟩ v).heap[b]? = some (.cells (C.setIfInBounds o v) t f) := by
  simp [World.setCell, Array.getElem?_modify, h]
theorem blk_set_ne {w : World} {b : Nat} {x : Option Obj} (h : w.heap[b]? = x) (p : Addr) (hp : b ≠ p.block) (v : Value) : (w.setCell p v).heap[b]? = x := by
  rw [Below.heap_setCell _ _ _ _ hp]; exact h
theorem blk_lt {w : World} {b : Nat} {x : Obj} (h : w.heap[b]? = some x) : b < w.heap.size := by
  rcases Nat.lt_or_ge b w.heap.size with hlt | hge
  · exact hlt
  · rw [Array.getElem?_eq_none hge] at h; cases h
/-- A block of two cells. -/
def B2 (W : World) (k : Nat) (t : TypeId) (v0 v1 : Value) : Prop := W.heap[k]? = some (.cells #[v0, v1] t (0, 0))
section
variable {W W' : World} {k : Nat} {t : TypeId} {v0 v1 u0 u1 : Value}
theorem B2.cells (h : B2 W k t v0 v1) : W.cell? ⟨k, 0, none⟩ = some v0 ∧ W.cell? ⟨k, 1, none⟩ = some v1 := ⟨cell_blk h 0, cell_blk h 1⟩
theorem B2.frz (h : B2 W k t v0 v1) : W.frozen? ⟨k, 0, none⟩ = false ∧ W.frozen? ⟨k, 1, none⟩ = false := ⟨frozen_blk h 0, frozen_blk h 1⟩
theorem B2.step (h : B2 W k t v0 v1) (hb : Below W.heap.size W W') : B2 W' k t v0 v1 := (hb.block _ (blk_lt h)).trans h
theorem B2.put (h : B2 W k t v0 v1) (hW : W' = (W.setCell ⟨k, 0, none⟩ u0).setCell ⟨k, 1, none⟩ u1) :
    B2 W' k t u0 u1 ∧ (∀ B w0, B ≤ k → Below B w0 W → Below B w0 W') ∧ (∀ j t v0 v1, j ≠ k → B2 W j t v0 v1 → B2 W' j t v0 v1) := by
  subst hW
  exact ⟨blk_set (blk_set h 0 u0) 1 u1, fun B w0 h1 h2 => (h2.setCell (p := ⟨k, 0, none⟩) h1 _).setCell (p := ⟨k, 1, none⟩) h1 _,
    fun j t v0 v1 hj hB => blk_set_ne (blk_set_ne hB ⟨k, 0, none⟩ hj _) ⟨k, 1, none⟩ hj _⟩
theorem B2.made (W : World) (v0 v1 : Value) (t : TypeId) : B2 (W.alloc (Obj.cells #[v0, v1] t)) W.heap.size t v0 v1 := (MapKept.heap_alloc _ _).1
end
theorem canon_cb {o : Option Nat} {r : Nat} (h : canon r = o) : canon (cb o) = o := by
  subst h
  cases hc : canon r with
  | none => exact canon_none (by kernel_rfl)
  | some x =>
    unfold canon at hc
    split at hc
    · cases hc
    · injection hc with hc
      subst hc
      rename_i hn
      exact canon_some (by simpa [cb] using hn)
set_option maxRecDepth 100000 in
set_option maxHeartbeats 2000000 in
theorem of_at (x y : Nat) (w : World) : Calls Try.prog 36 #[.float .f32 x, .float .f32 y] w fun e w' => e = .returned (.agg #[.int .u32 (cb (canon x)), .int .u32 (cb (canon y))]) ∧ Below w.heap.size w w' := by
  have h0 : Hid (Below w.heap.size w (w.alloc (Obj.cells #[.int .u32 0, .int .u32 0] 26))) := (Below.refl _ _).alloc (Nat.le_refl _) _
  have hm := Lib.hid (B2.made w (.int .u32 0) (.int .u32 0) 26)
  generalize hcx : cb (canon x) = cx
  generalize hcy : cb (canon y) = cy
  have HX := Lib.hid hcx
  have HY := Lib.hid hcy
  clear hcx hcy
  go_enter Try.func36, Try.ntmps36
  go_upto_region 1 with fail
  generalize w.alloc (Obj.cells #[.int .u32 0, .int .u32 0] 26) = W0 at *
  go_wp2_with fail
  refine (bits_at x W0).mono ?_
  rintro e W1 ⟨rfl, hb1⟩
  rw [HX.out]
  have H1 := Lib.hid (h0.out.trans (hb1.mono h0.out.size))
  have M1 := Lib.hid (hm.out.step hb1)
  clear hb1
  go_wp2_with fail
  refine (bits_at y W1).mono ?_
  rintro e W2 ⟨rfl, hb2⟩
  rw [HY.out]
  have H2 := Lib.hid (H1.out.trans (hb2.mono H1.out.size))
  have M2 := Lib.hid (M1.out.step hb2)
  clear hb2
  obtain ⟨c0, c1⟩ := M2.out.cells
  obtain ⟨f0, f1⟩ := M2.out.frz
  go_wp2_with fail
  obtain ⟨W3, hW3⟩ : ∃ W3, W3 = (W2.setCell ⟨w.heap.size, 0, none⟩ (.int .u32 cx)).setCell ⟨w.heap.size, 1, none⟩ (.int .u32 cy) := ⟨_, rfl⟩
  rw [← hW3]
  obtain ⟨p1, p2, _⟩ := B2.put M2.out hW3
  have K := Lib.hid (p2 _ _ (Nat.le_refl _) H2.out)
  clear c0 c1 f0 f1 hW3
  obtain ⟨c0, c1⟩ := p1.cells
  refine bodyPost_ret (v := .agg #[.int .u32 cx, .int .u32 cy]) (by simp [results, Try.results36, go_sem, c0, c1]) rfl ⟨rfl, K.out⟩
end Go.Proofs.Ytlbgpfddmkpakaa.Nu
