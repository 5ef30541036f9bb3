/- Numeric: both Products at every two rows. -/
import Derived.Test.YtlbgpfddmkpakaaJb
namespace Go.Proofs.Ytlbgpfddmkpakaa.Nu
open Go.RowKit
set_option linter.unusedVariables false
set_option linter.unusedSimpArgs false

/-- What Product answers: the list and the code. -/
def pOf (a b : List (Nat × Nat)) : List (Nat × Nat) × Int := if 64 < a.length ∨ 64 < b.length then ([], 4) else (prod a b, 0)
set_option maxRecDepth 100000 in
set_option maxHeartbeats 4000000 in
theorem pproduct_no (p q : Option Addr) (n m c d : Nat) (w : World) (h : 64 < n ∨ 64 < m) : Calls Try.prog 30 #[.slice p n c, .slice q m d] w fun e w' => e = .returned (.tuple #[.slice none 0 0, .int .i64 4]) ∧ w' = w := by
  by_cases h1 : 64 < n
  · have ta : decide (64 < (n : Int)) = true := decide_eq_true (by omega)
    clear h h1
    go_enter Try.func30, Try.ntmps30
    go_wp2_with fail
    exact bodyPost_ret (v := .tuple #[.slice none 0 0, .int .i64 4]) (by simp [results, Try.results30, go_sem]) rfl ⟨rfl, rfl⟩
  · have ta : decide (64 < (n : Int)) = false := decide_eq_false (by omega)
    have tb : decide (64 < (m : Int)) = true := decide_eq_true (by omega)
    clear h h1
    go_enter Try.func30, Try.ntmps30
    go_wp2_with fail
    exact bodyPost_ret (v := .tuple #[.slice none 0 0, .int .i64 4]) (by simp [results, Try.results30, go_sem]) rfl ⟨rfl, rfl⟩
set_option maxRecDepth 100000 in
set_option maxHeartbeats 4000000 in
theorem rproduct_no (p q : Option Addr) (n m c d : Nat) (w : World) (h : 64 < n ∨ 64 < m) : Calls Try.prog 31 #[.slice p n c, .slice q m d] w fun e w' => e = .returned (.tuple #[.slice none 0 0, .int .i64 4]) ∧ w' = w := by
  by_cases h1 : 64 < n
  · have ta : decide (64 < (n : Int)) = true := decide_eq_true (by omega)
    clear h h1
    go_enter Try.func31, Try.ntmps31
    go_wp2_with fail
    exact bodyPost_ret (v := .tuple #[.slice none 0 0, .int .i64 4]) (by simp [results, Try.results31, go_sem]) rfl ⟨rfl, rfl⟩
  · have ta : decide (64 < (n : Int)) = false := decide_eq_false (by omega)
    have tb : decide (64 < (m : Int)) = true := decide_eq_true (by omega)
    clear h h1
    go_enter Try.func31, Try.ntmps31
    go_wp2_with fail
    exact bodyPost_ret (v := .tuple #[.slice none 0 0, .int .i64 4]) (by simp [results, Try.results31, go_sem]) rfl ⟨rfl, rfl⟩
set_option maxRecDepth 100000 in
set_option maxHeartbeats 4000000 in
theorem pproduct_nil (p q : Option Addr) (n m c d : Nat) (w : World) (hn : n ≤ 64) (hm : m ≤ 64) (h : n = 0 ∨ m = 0) : Calls Try.prog 30 #[.slice p n c, .slice q m d] w fun e w' => e = .returned (.tuple #[.slice none 0 0, .int .i64 0]) ∧ w' = w := by
  have ta : decide (64 < (n : Int)) = false := decide_eq_false (by omega)
  have tb : decide (64 < (m : Int)) = false := decide_eq_false (by omega)
  by_cases h1 : n = 0
  · have tc : ((n : Int) == 0) = true := by subst h1; rfl
    clear h h1 hn hm
    go_enter Try.func30, Try.ntmps30
    go_wp2_with fail
    exact bodyPost_ret (v := .tuple #[.slice none 0 0, .int .i64 0]) (by simp [results, Try.results30, go_sem]) rfl ⟨rfl, rfl⟩
  · have tc : ((n : Int) == 0) = false := beq_false_of_ne (by omega)
    have td : ((m : Int) == 0) = true := by have : m = 0 := by omega
                                            subst this; rfl
    clear h h1 hn hm
    go_enter Try.func30, Try.ntmps30
    go_wp2_with fail
    exact bodyPost_ret (v := .tuple #[.slice none 0 0, .int .i64 0]) (by simp [results, Try.results30, go_sem]) rfl ⟨rfl, rfl⟩
set_option maxRecDepth 100000 in
set_option maxHeartbeats 4000000 in
theorem rproduct_nil (p q : Option Addr) (n m c d : Nat) (w : World) (hn : n ≤ 64) (hm : m ≤ 64) (h : n = 0 ∨ m = 0) : Calls Try.prog 31 #[.slice p n c, .slice q m d] w fun e w' => e = .returned (.tuple #[.slice (some ⟨w.heap.size, 0, none⟩) 0 0, .int .i64 0]) ∧ w' = w.alloc (Obj.cells #[] 57) := by
  have ta : decide (64 < (n : Int)) = false := decide_eq_false (by omega)
  have tb : decide (64 < (m : Int)) = false := decide_eq_false (by omega)
  by_cases h1 : n = 0
  · have tc : decide (0 < n) = false := decide_eq_false (by omega)
    have tc' : decide (0 < (n : Int)) = false := decide_eq_false (by omega)
    clear h h1 hn hm
    go_enter Try.func31, Try.ntmps31
    go_upto_region 4 with fail
    obtain ⟨W0, hW0⟩ : ∃ W0, W0 = w.alloc (Obj.cells #[] 57) := ⟨_, rfl⟩
    rw [← hW0]
    have HZ := Lib.hid hW0.symm
    clear hW0
    go_wp2_with fail
    go_loopw [6, 7] (fun s6 s7 wr => s6 = .slice (some ⟨w.heap.size, 0, none⟩) 0 0 ∧ s7 = .int .i64 0 ∧ wr = W0) (fun _ _ _ => 0)
    case atStart => exact ⟨rfl, rfl, rfl⟩
    case round =>
      obtain ⟨rfl, rfl, hw⟩ := hrel
      have HW := Lib.hid hw
      clear hw
      go_wp2_with fail
      exact bodyPost_ret (v := .tuple #[.slice (some ⟨w.heap.size, 0, none⟩) 0 0, .int .i64 0]) (by simp [results, Try.results31, go_sem]) rfl ⟨rfl, HW.out.trans HZ.out.symm⟩
  · have tc : decide (0 < n) = true := decide_eq_true (by omega)
    have tc' : decide (0 < (n : Int)) = true := decide_eq_true (by omega)
    have td : decide (0 < m) = false := decide_eq_false (by omega)
    have td' : decide (0 < (m : Int)) = false := decide_eq_false (by omega)
    clear h h1 hn hm
    go_enter Try.func31, Try.ntmps31
    go_upto_region 4 with fail
    obtain ⟨W0, hW0⟩ : ∃ W0, W0 = w.alloc (Obj.cells #[] 57) := ⟨_, rfl⟩
    rw [← hW0]
    have HZ := Lib.hid hW0.symm
    clear hW0
    go_wp2_with fail
    go_loopw [6, 7] (fun s6 s7 wr => s6 = .slice (some ⟨w.heap.size, 0, none⟩) 0 0 ∧ s7 = .int .i64 0 ∧ wr = W0) (fun _ _ _ => 0)
    case atStart => exact ⟨rfl, rfl, rfl⟩
    case round =>
      obtain ⟨rfl, rfl, hw⟩ := hrel
      have HW := Lib.hid hw
      clear hw
      go_wp2_with fail
      exact bodyPost_ret (v := .tuple #[.slice (some ⟨w.heap.size, 0, none⟩) 0 0, .int .i64 0]) (by simp [results, Try.results31, go_sem]) rfl ⟨rfl, HW.out.trans HZ.out.symm⟩
theorem pproduct_all (v u : Value) (a b : List (Nat × Nat)) (w : World) (hr : Row w v a) (hs : Row w u b) :
    Calls Try.prog 30 #[v, u] w fun e w' => ∃ v', e = .returned (.tuple #[v', .int .i64 (pOf a b).2]) ∧ Own 26 w.heap.size w' v' (pOf a b).1 ∧ Below w.heap.size w w' := by
  unfold pOf
  by_cases h : 64 < a.length ∨ 64 < b.length
  · rw [if_pos h]
    obtain ⟨p, c, rfl, _⟩ := hr
    obtain ⟨q, d, rfl, _⟩ := hs
    exact (pproduct_no p q _ _ c d w h).mono fun _ _ ⟨h1, h2⟩ => ⟨_, h1, own_nil _ _ _, h2 ▸ Below.refl _ _⟩
  · rw [if_neg h]
    by_cases h0 : a = [] ∨ b = []
    · have hp : prod a b = [] := if_pos h0
      rw [hp]
      obtain ⟨p, c, rfl, _⟩ := hr
      obtain ⟨q, d, rfl, _⟩ := hs
      refine (pproduct_nil p q _ _ c d w (by omega) (by omega) ?_).mono fun _ _ ⟨h1, h2⟩ => ⟨_, h1, own_nil _ _ _, h2 ▸ Below.refl _ _⟩
      rcases h0 with rfl | rfl
      · exact .inl rfl
      · exact .inr rfl
    · exact pproduct_at v u a b w hr hs (by omega) (by omega) (fun e => h0 (.inl e)) (fun e => h0 (.inr e))
theorem rproduct_all (v u : Value) (a b : List (Nat × Nat)) (w : World) (hr : Row w v a) (hs : Row w u b) :
    Calls Try.prog 31 #[v, u] w fun e w' => ∃ v', e = .returned (.tuple #[v', .int .i64 (pOf a b).2]) ∧ Own 57 w.heap.size w' v' (pOf a b).1 ∧ Below w.heap.size w w' := by
  unfold pOf
  by_cases h : 64 < a.length ∨ 64 < b.length
  · rw [if_pos h]
    obtain ⟨p, c, rfl, _⟩ := hr
    obtain ⟨q, d, rfl, _⟩ := hs
    exact (rproduct_no p q _ _ c d w h).mono fun _ _ ⟨h1, h2⟩ => ⟨_, h1, own_nil _ _ _, h2 ▸ Below.refl _ _⟩
  · rw [if_neg h]
    by_cases h0 : a = [] ∨ b = []
    · have hp : prod a b = [] := if_pos h0
      rw [hp]
      obtain ⟨p, c, rfl, _⟩ := hr
      obtain ⟨q, d, rfl, _⟩ := hs
      refine (rproduct_nil p q _ _ c d w (by omega) (by omega) ?_).mono fun _ _ ⟨h1, h2⟩ => ⟨_, h1, h2 ▸ (TN.empty1 w 57).o1, h2 ▸ (TN.empty1 w 57).below⟩
      rcases h0 with rfl | rfl
      · exact .inl rfl
      · exact .inr rfl
    · exact rproduct_at v u a b w hr hs (by omega) (by omega) (fun e => h0 (.inl e)) (fun e => h0 (.inr e))
end Go.Proofs.Ytlbgpfddmkpakaa.Nu
