/- PoolClasses: the walk of the law. -/
import Derived.Test.YtdgfnlagbdmniaaDoorPe
namespace Go.Proofs.YtdgfnlagbdmniaaDoor.Pl
open Go.RowKit

set_option maxRecDepth 100000 in
set_option maxHeartbeats 1000000 in
theorem rclass_ok (n : Int) (h1 : 1 ≤ n) (h2 : n ≤ 262144) (w : World) :
    Calls Tryd.prog 22 #[.int .i64 n] w fun e w' => e = .returned (.tuple #[.int .i64 (cls n), .int .i64 0]) ∧ w = w' := by
  have e1 : decide (n < 1) = false := decide_eq_false (by omega)
  have e2 : decide (262144 < n) = false := decide_eq_false (by omega)
  go_enter Tryd.func22, Tryd.ntmps22
  go_wp2
  go_loop [4] (fun c => ∃ k : Nat, k ≤ cls n ∧ c = .int .i64 k) (fun c => 5 - (intOf c).toNat)
  case atStart => exact ⟨0, Nat.zero_le _, rfl⟩
  case round =>
    obtain ⟨k, hk, rfl⟩ := hrel
    have hl := cls_le n
    by_cases h5 : k < 5
    · have hst := cls_step n k h5 hk
      by_cases hlt : k < cls n
      · have H : ((32 * 2 ^ k : Nat) : Int) < n := hst.2 hlt
        clear hst
        obtain rfl | rfl | rfl | rfl | rfl : k = 0 ∨ k = 1 ∨ k = 2 ∨ k = 3 ∨ k = 4 := by omega
        all_goals
          simp at H
          have HH := decide_eq_true H
          go_wp2
          go_round
          case rel => exact ⟨_, hlt, by go_num⟩
          case measure => simp [intOf]
      · have H : ¬ ((32 * 2 ^ k : Nat) : Int) < n := fun h => hlt (hst.1 h)
        clear hst
        have E := Lib.hid (show cls n = k by omega)
        obtain rfl | rfl | rfl | rfl | rfl : k = 0 ∨ k = 1 ∨ k = 2 ∨ k = 3 ∨ k = 4 := by omega
        all_goals
          simp at H
          clear hk hlt
          go_wp2
          go_ret2
          exact ⟨by rw [E.out]; rfl, rfl⟩
    · have E := Lib.hid (show cls n = 5 by omega)
      obtain rfl : k = 5 := by omega
      go_wp2
      go_ret2
      exact ⟨by rw [E.out]; rfl, rfl⟩
set_option maxHeartbeats 400000 in
theorem rclass_err (n : Int) (h : n < 1 ∨ 262144 < n) (w : World) :
    Calls Tryd.prog 22 #[.int .i64 n] w fun e w' => e = .returned (.tuple #[.int .i64 0, .int .i64 1]) ∧ w = w' := by
  by_cases h1 : n < 1
  · have e1 : decide (n < 1) = true := decide_eq_true h1
    clear h
    go_enter Tryd.func22, Tryd.ntmps22
    go_wp2
    go_ret2
    exact ⟨rfl, rfl⟩
  · have e1 : decide (n < 1) = false := decide_eq_false h1
    have e2 : decide (262144 < n) = true := decide_eq_true (by omega)
    clear h
    go_enter Tryd.func22, Tryd.ntmps22
    go_wp2
    go_ret2
    exact ⟨rfl, rfl⟩

/-- Both Class functions give the same. -/
theorem classes (n : Int) : ∃ c e : Int, (∀ w, Calls Tryd.prog 16 #[.int .i64 n] w fun x w' => x = .returned (.tuple #[.int .i64 c, .int .i64 e]) ∧ w = w') ∧
    (∀ w, Calls Tryd.prog 22 #[.int .i64 n] w fun x w' => x = .returned (.tuple #[.int .i64 c, .int .i64 e]) ∧ w = w') := by
  by_cases h : n < 1 ∨ 262144 < n
  · exact ⟨0, 1, class_err n h, rclass_err n h⟩
  · exact ⟨cls n, 0, class_ok n (by omega) (by omega), rclass_ok n (by omega) (by omega)⟩

set_option maxRecDepth 100000 in
set_option maxHeartbeats 1000000 in
theorem law_classes (n : Int) (w : World) (hT : Tab w) : Calls Tryd.prog 6 #[.int .i64 n] w fun e w' => e = .returned (.bool true) ∧ Below w.heap.size w w' := by
  obtain ⟨c, x, h1, h2⟩ := classes n
  have H1 := Lib.hid h1; clear h1
  have H2 := Lib.hid h2; clear h2
  have HT := Lib.hid hT; clear hT
  go_enter Tryd.func6, Tryd.ntmps6
  go_wp2_with fail
  refine (H1.out _).mono ?_
  rintro e w' ⟨rfl, rfl⟩
  go_wp2_with fail
  refine (H2.out _).mono ?_
  rintro e w' ⟨rfl, rfl⟩
  go_wp2_with fail
  refine (alloc_nil _ _).mono ?_
  rintro e w' ⟨rfl, rfl⟩
  go_wp2_with fail
  refine (find_nil _ _).mono ?_
  rintro e w1 ⟨rfl, hb⟩
  have HB1 := Lib.hid hb; clear hb
  go_wp2_with fail
  refine (mark_nil _ _).mono ?_
  rintro e w' ⟨rfl, rfl⟩
  go_wp2_with fail
  obtain ⟨W1, hW1⟩ : ∃ W1, W1 = w1.alloc (Obj.cells #[Value.int IntKind.i64 0, Value.int IntKind.i64 0, Value.int IntKind.i64 0, Value.bool false] 40) := ⟨_, rfl⟩
  rw [← hW1]
  have HBW : Hid (Below w.heap.size w W1) := by rw [hW1]; exact HB1.out.alloc HB1.out.size _
  clear hW1
  refine (awake_at _ (HT.out.below HBW.out HT.out.lt)).mono ?_
  rintro e w2 ⟨rfl, hb2⟩
  have HB2 : Hid (Below w.heap.size w w2) := HBW.out.trans (hb2.mono HBW.out.size)
  clear hb2
  go_wp2_with fail
  refine (free_nil _ _).mono ?_
  rintro e w' ⟨rfl, rfl⟩
  go_wp2_with fail
  refine (map_nil _).mono ?_
  rintro e w' ⟨rfl, rfl⟩
  go_wp2_with fail
  refine (objects_nil _).mono ?_
  rintro e w3 ⟨rfl, hb3⟩
  have HB3 : Hid (Below w.heap.size w w3) := HB2.out.trans (hb3.mono HB2.out.size)
  clear hb3
  go_wp2_with fail
  refine (sweep_nil _).mono ?_
  rintro e w4 ⟨rfl, hb4⟩
  have HB4 : Hid (Below w.heap.size w w4) := HB3.out.trans (hb4.mono HB3.out.size)
  clear hb4
  go_wp2_with fail
  go_ret
  exact ⟨rfl, HB4.out⟩
end Go.Proofs.YtdgfnlagbdmniaaDoor.Pl
