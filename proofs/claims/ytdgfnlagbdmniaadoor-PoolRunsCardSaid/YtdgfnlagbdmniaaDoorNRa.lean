/- PoolRuns: the reference's Class and Room. -/
import Derived.Test.YtdgfnlagbdmniaaDoorNQm
namespace Go.Proofs.YtdgfnlagbdmniaaDoor.Pl
open Go.RowKit

set_option maxRecDepth 100000 in
set_option maxHeartbeats 1000000 in
theorem rroom_at (n : Int) (h1 : 1 ≤ n) (h2 : n ≤ 262144) (hC : ∀ w, Calls Tryd.prog 22 #[.int .i64 n] w fun e w' => e = .returned (.tuple #[.int .i64 (cls n), .int .i64 0]) ∧ w = w') (w : World) :
    Calls Tryd.prog 51 #[.int .i64 n] w fun e w' => e = .returned (.int .i64 (roomOf n)) ∧ w = w' := by
  have HC := Lib.hid hC; clear hC
  have h5 := cls_le n
  have HR : Hid (roomOf n = if cls n < 5 then 32 * 2 ^ cls n else ((n + 1023) / 1024 * 1024).toNat) := rfl
  generalize roomOf n = R at *
  by_cases h : cls n = 5
  · have hR := HR.out
    rw [if_neg (by omega)] at hR
    have hR2 : (n + 1023) / 1024 * 1024 = (R : Int) := by omega
    have HR2 := Lib.hid hR2
    clear hR hR2 HR
    rw [h] at HC
    clear h h5
    go_enter Tryd.func51, Tryd.ntmps51
    go_wp2_with fail
    refine (HC.out _).mono ?_
    rintro e w' ⟨rfl, rfl⟩
    go_wp2_with fail
    go_ret
    exact ⟨by rw [← HR2.out]; rfl, rfl⟩
  · have hR := HR.out
    rw [if_pos (by omega)] at hR
    subst hR
    generalize cls n = c at *
    obtain rfl | rfl | rfl | rfl | rfl : c = 0 ∨ c = 1 ∨ c = 2 ∨ c = 3 ∨ c = 4 := by omega
    all_goals
      go_enter Tryd.func51, Tryd.ntmps51
      go_wp2_with fail
      refine (HC.out _).mono ?_
      rintro e w' ⟨rfl, rfl⟩
      go_wp2_with fail
      go_ret
      exact ⟨rfl, rfl⟩

set_option maxRecDepth 100000 in
set_option maxHeartbeats 1000000 in
theorem eq1_at (y : PObj) (h1 : 1 ≤ y.size) (h2 : y.size ≤ 262144) (hr : y.room = roomOf y.size) (hC : ∀ w, Calls Tryd.prog 22 #[.int .i64 y.size] w fun e w' => e = .returned (.tuple #[.int .i64 (cls y.size), .int .i64 0]) ∧ w = w') (w : World) :
    Calls Tryd.prog 53 #[y.val, .agg #[.int .i64 y.at_, .int .i64 y.size, .bool y.marked]] w fun e w' => e = .returned (.bool true) ∧ Below w.heap.size w w' := by
  have HM := Lib.hid (fun w => (rroom_at y.size h1 h2 hC w).mono fun _ _ h => (⟨h.1, h.2.symm⟩ : _ ∧ _ = _))
  rw [← hr] at HM
  have hv : y.val = .agg #[.int .i64 y.at_, .int .i64 y.size, .int .i64 y.room, .bool y.marked] := rfl
  rw [hv]
  clear hv hC hr
  go_enter Tryd.func53, Tryd.ntmps53
  go_wp2_with fail
  obtain ⟨W, hW⟩ : ∃ W, W = (w.alloc (Obj.cells #[Value.int IntKind.i64 y.at_, Value.int IntKind.i64 y.size, Value.int IntKind.i64 y.room, Value.bool y.marked] 40)).alloc (Obj.cells #[Value.int IntKind.i64 y.at_, Value.int IntKind.i64 y.size, Value.bool y.marked] 109) := ⟨_, rfl⟩
  rw [← hW]
  have HB : Hid (Below w.heap.size w W) := by rw [hW]; exact ((Below.refl _ _).alloc (Nat.le_refl _) _).alloc (by simp) _
  have hx : W.heap[w.heap.size]? = some (.cells #[Value.int IntKind.i64 y.at_, Value.int IntKind.i64 y.size, Value.int IntKind.i64 y.room, Value.bool y.marked] 40 (0, 0)) := by
    rw [hW, Below.heap_alloc _ _ _ (by simp)]; exact (MapKept.heap_alloc _ _).1
  have hy : W.heap[w.heap.size + 1]? = some (.cells #[Value.int IntKind.i64 y.at_, Value.int IntKind.i64 y.size, Value.bool y.marked] 109 (0, 0)) := by
    have := (MapKept.heap_alloc (w.alloc (Obj.cells #[Value.int IntKind.i64 y.at_, Value.int IntKind.i64 y.size, Value.int IntKind.i64 y.room, Value.bool y.marked] 40)) (Obj.cells #[Value.int IntKind.i64 y.at_, Value.int IntKind.i64 y.size, Value.bool y.marked] 109)).1
    rw [World.size_alloc] at this
    rw [hW]; exact this
  have x0 : W.cell? ⟨w.heap.size, 0, none⟩ = some (.int .i64 y.at_) := cell_blk hx 0
  have x1 : W.cell? ⟨w.heap.size, 1, none⟩ = some (.int .i64 y.size) := cell_blk hx 1
  have x2 : W.cell? ⟨w.heap.size, 2, none⟩ = some (.int .i64 y.room) := cell_blk hx 2
  have x3 : W.cell? ⟨w.heap.size, 3, none⟩ = some (.bool y.marked) := cell_blk hx 3
  have y0 : W.cell? ⟨w.heap.size + 1, 0, none⟩ = some (.int .i64 y.at_) := cell_blk hy 0
  have y1 : W.cell? ⟨w.heap.size + 1, 1, none⟩ = some (.int .i64 y.size) := cell_blk hy 1
  have y2 : W.cell? ⟨w.heap.size + 1, 2, none⟩ = some (.bool y.marked) := cell_blk hy 2
  clear hx hy hW
  go_quiet ((go_at_call 51; exact Calls.quiet_of_same (HM.out _)))
  go_wp2
  go_ret
  exact ⟨rfl, below_drewN HB.out _⟩
end Go.Proofs.YtdgfnlagbdmniaaDoor.Pl
