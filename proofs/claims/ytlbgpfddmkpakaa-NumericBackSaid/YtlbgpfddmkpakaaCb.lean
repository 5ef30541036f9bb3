/- Numeric: how many points. -/
import Derived.Test.YtlbgpfddmkpakaaCa
namespace Go.Proofs.Ytlbgpfddmkpakaa.Nu
open Go.RowKit
set_option linter.unusedVariables false
set_option linter.unusedSimpArgs false

/-- The counts of points. -/
def pts : List Int := [1, 2, 4, 8, 16, 32, 64]
theorem pts_and (n : Int) (h1 : 1 ≤ n) (h2 : n ≤ 64) : (bits BinOp.and IntKind.i64 n (n - 1) == 0) = decide (n ∈ pts) := by
  have key : ∀ k : Fin 65, 1 ≤ k.val → (bits BinOp.and IntKind.i64 (k.val : Int) ((k.val : Int) - 1) == 0) = decide ((k.val : Int) ∈ pts) := by decide +kernel
  have := key ⟨n.toNat, by omega⟩ (by show 1 ≤ n.toNat; omega)
  have e : ((n.toNat : Nat) : Int) = n := by omega
  simp only [e] at this
  exact this
set_option maxRecDepth 100000 in
set_option maxHeartbeats 1000000 in
theorem points_at (n : Int) (w : World) : Calls Try.prog 44 #[.int .i64 n] w fun e w' => e = .returned (.bool (decide (n ∈ pts))) ∧ w' = w := by
  by_cases h1 : 1 ≤ n
  · by_cases h2 : n ≤ 64
    · have d1 : decide (1 ≤ n) = true := decide_eq_true h1
      have d2 : decide (n ≤ 64) = true := decide_eq_true h2
      have ek : wrap64 (n - 1) = n - 1 := by unfold wrap64; omega
      have H1 := Lib.hid h1
      have H2 := Lib.hid h2
      clear h1 h2
      go_enter Try.func44, Try.ntmps44
      go_wp2_with fail
      go_ret
      exact ⟨by rw [pts_and n H1.out H2.out]; rfl, rfl⟩
    · have d1 : decide (1 ≤ n) = true := decide_eq_true h1
      have d2 : decide (n ≤ 64) = false := decide_eq_false h2
      have e : decide (n ∈ pts) = false := decide_eq_false (by simp [pts]; omega)
      rw [e]
      clear h1 h2
      go_enter Try.func44, Try.ntmps44
      go_wp2_with fail
      go_ret
      exact ⟨rfl, rfl⟩
  · have d1 : decide (1 ≤ n) = false := decide_eq_false h1
    have e : decide (n ∈ pts) = false := decide_eq_false (by simp [pts]; omega)
    rw [e]
    clear h1
    go_enter Try.func44, Try.ntmps44
    go_wp2_with fail
    go_ret
    exact ⟨rfl, rfl⟩
set_option maxRecDepth 100000 in
set_option maxHeartbeats 1000000 in
theorem rpoints_at (n : Int) (w : World) : Calls Try.prog 46 #[.int .i64 n] w fun e w' => e = .returned (.bool (decide (n ∈ pts))) ∧ w' = w := by
  obtain ⟨b, hb⟩ : ∃ b, b = decide (n ∈ pts) := ⟨_, rfl⟩
  rw [← hb]
  have HB := Lib.hid hb
  clear hb
  go_enter Try.func46, Try.ntmps46
  go_wp2_with fail
  go_loopw [3] (fun s3 wr => ∃ x : Int, s3 = .int .i64 x ∧ (x ∈ [1, 2, 4, 8, 16, 32, 64, 128]) ∧ (∀ y ∈ pts, y < x → n ≠ y) ∧ wr = w) (fun s3 _ => 128 - (intOf s3).toNat)
  case atStart => exact ⟨1, rfl, by simp, by simp [pts], rfl⟩
  case round =>
    obtain ⟨x, rfl, hx, hy, rfl⟩ := hrel
    by_cases hle : x ≤ 64
    · have tl : decide (x ≤ 64) = true := decide_eq_true hle
      have hxp : x ∈ pts := by simp [pts] at hx ⊢; omega
      by_cases hn : x = n
      · subst hn
        have tb : (x == x) = true := by simp
        have e : b = true := HB.out.trans (decide_eq_true hxp)
        subst e
        clear hx hy hle hxp
        go_wp2_with fail
        exact bodyPost_ret (v := .bool true) (by simp [results, Try.results46, go_sem]) rfl ⟨rfl, rfl⟩
      · have tb : (x == n) = false := by simp [hn]
        have ek : wrap64 (x * 2) = x * 2 := by simp at hx; unfold wrap64; omega
        have hxx : x = 1 ∨ x = 2 ∨ x = 4 ∨ x = 8 ∨ x = 16 ∨ x = 32 ∨ x = 64 := by simp only [List.mem_cons, List.not_mem_nil, or_false] at hx; omega
        have HXX := Lib.hid hxx
        clear hxx
        have HY := Lib.hid hy
        have HN := Lib.hid hn
        clear hx hy hle hxp hn
        go_wp2_with fail
        rw [ek]
        go_roundw
        case rel => 
          refine ⟨x * 2, rfl, ?_, fun y hyp hlt => ?_, trivial⟩
          · have := HXX.out; simp only [List.mem_cons, List.not_mem_nil, or_false]; omega
          · have h1 := HY.out y hyp
            have h2 := HXX.out
            have h3 := HN.out
            simp only [pts, List.mem_cons, List.not_mem_nil, or_false] at hyp
            intro e
            subst e
            by_cases hlt : n < x
            · exact h1 hlt rfl
            · omega
        case measure => have := HXX.out; simp [intOf]; omega
    · have tl : decide (x ≤ 64) = false := decide_eq_false hle
      have hx' : x = 128 := by simp at hx; omega
      have e : b = false := HB.out.trans (decide_eq_false (fun h => hy n h (by simp [pts] at h; omega) rfl))
      subst e
      clear hx hy hle
      go_wp2_with fail
      exact bodyPost_ret (v := .bool false) (by simp [results, Try.results46, go_sem]) rfl ⟨rfl, rfl⟩
end Go.Proofs.Ytlbgpfddmkpakaa.Nu
