/- Numeric: every; the program's transform. -/
import Derived.Test.YtlbgpfddmkpakaaEa
namespace Go.Proofs.Ytlbgpfddmkpakaa.Nu
open Go.RowKit
set_option linter.unusedVariables false
set_option linter.unusedSimpArgs false

set_option maxRecDepth 100000 in
set_option maxHeartbeats 1000000 in
theorem every_at (p : Option Addr) (n cap : Nat) (a : Int) (w : World) :
    Calls Try.prog 63 #[.slice p n cap, .int .i64 a] w fun e w' => ∃ Bf Bs, e = .returned (.func (.func 67) #[] #[.pointer (some ⟨Bf, 0, none⟩), .pointer (some ⟨Bs, 0, none⟩)]) ∧
      w'.cell? ⟨Bf, 0, none⟩ = some (.int .i64 a) ∧ w'.cell? ⟨Bs, 0, none⟩ = some (.slice p n cap) ∧ Below w.heap.size w w' := by
  have h1 : Below w.heap.size w (w.alloc (Obj.cells #[.slice p n cap] 39)) := (Below.refl _ _).alloc (Nat.le_refl _) _
  have hz : (w.alloc (Obj.cells #[.slice p n cap] 39)).heap.size = w.heap.size + 1 := by simp
  have h2 : Below (w.alloc (Obj.cells #[.slice p n cap] 39)).heap.size (w.alloc (Obj.cells #[.slice p n cap] 39)) ((w.alloc (Obj.cells #[.slice p n cap] 39)).alloc (Obj.cells #[.int .i64 a] 3)) := (Below.refl _ _).alloc (Nat.le_refl _) _
  have c1 : ((w.alloc (Obj.cells #[.slice p n cap] 39)).alloc (Obj.cells #[.int .i64 a] 3)).cell? ⟨w.heap.size, 0, none⟩ = some (.slice p n cap) :=
    (h2.cell (p := ⟨w.heap.size, 0, none⟩) (by show w.heap.size < _; omega)).trans (cell_blk (MapKept.heap_alloc _ _).1 0)
  have c2 : ((w.alloc (Obj.cells #[.slice p n cap] 39)).alloc (Obj.cells #[.int .i64 a] 3)).cell? ⟨w.heap.size + 1, 0, none⟩ = some (.int .i64 a) := by
    rw [← hz]; exact cell_blk (MapKept.heap_alloc _ _).1 0
  have H := Lib.hid (And.intro c2 (And.intro c1 (h1.trans (h2.mono h1.size))))
  clear h1 hz h2 c1 c2
  go_enter Try.func63, Try.ntmps63
  go_wp2_with fail
  go_ret
  exact ⟨_, _, rfl, H.out⟩
/-- Every second element of an old row, as a row of one's own. -/
theorem halves_at {v : Value} {l : List (Nat × Nat)} (Bf Bs a : Nat) (hne : l ≠ []) (hlen : l.length ≤ 1000) (ha : a ≤ 1) (w : World) (hr : Row w v l) (hf : w.cell? ⟨Bf, 0, none⟩ = some (.int .i64 a)) (hs : w.cell? ⟨Bs, 0, none⟩ = some v) :
    Calls Try.prog 62 #[.func (.func 67) #[] #[.pointer (some ⟨Bf, 0, none⟩), .pointer (some ⟨Bs, 0, none⟩)]] w fun e W' => ∃ v, e = .returned v ∧ Own 26 w.heap.size W' v (halfOf l a) ∧ Below w.heap.size w W' :=
  collect_at Bf Bs a hne hlen ha w hr hf hs
/-- What transform does. -/
abbrev TrAt (k : Nat) (v : Value) (l : List (Nat × Nat)) (r : Nat) (w : World) : Prop :=
  Calls Try.prog 49 #[v, .map (some r)] w fun e w' => ∃ v', e = .returned v' ∧ Own 26 w.heap.size w' v' (fft k l) ∧ w.grownBy w' (some r) ∧ FMap w' r
/-- The list while it is filled. -/
def outL (f1 f2 : Nat → Nat × Nat) (M k : Nat) : List (Nat × Nat) := upto (fun i => if i < M then (if i < k then f1 i else (0, 0)) else (if i - M < k then f2 (i - M) else (0, 0))) (2 * M)
theorem outL_length (f1 f2 : Nat → Nat × Nat) (M k : Nat) : (outL f1 f2 M k).length = 2 * M := upto_length _ _
theorem upto_ext {α : Type} {f g : Nat → α} {n : Nat} (h : ∀ i, i < n → f i = g i) : upto f n = upto g n := by
  unfold upto; exact List.map_congr_left fun i hi => h i (List.mem_range.1 hi)
theorem outL_zero (f1 f2 : Nat → Nat × Nat) (M : Nat) : outL f1 f2 M 0 = upto (fun _ => (0, 0)) (2 * M) := upto_ext fun i _ => by simp
theorem outL_step (f1 f2 : Nat → Nat × Nat) {M k : Nat} (hk : k < M) : ((outL f1 f2 M k).set k (f1 k)).set (k + M) (f2 k) = outL f1 f2 M (k + 1) := by
  apply List.ext_getElem?
  intro i
  rw [List.getElem?_set, List.getElem?_set]
  simp only [List.length_set, outL_length]
  by_cases hi : i < 2 * M
  · unfold outL
    rw [upto_get _ hi, upto_get _ hi]
    by_cases h1 : k + M = i
    · subst h1
      rw [if_pos rfl, if_pos (by omega)]
      simp only [Nat.add_sub_cancel]
      rw [if_neg (by omega), if_pos (by omega)]
    · rw [if_neg h1]
      by_cases h2 : k = i
      · subst h2
        rw [if_pos rfl, if_pos (by omega)]
        rw [if_pos hk, if_pos (by omega)]
      · rw [if_neg h2]
        congr 1
        by_cases h3 : i < M
        · simp only [h3, if_true]
          by_cases h4 : i < k
          · rw [if_pos h4, if_pos (by omega)]
          · rw [if_neg h4, if_neg (by omega)]
        · simp only [h3, if_false]
          by_cases h4 : i - M < k
          · rw [if_pos h4, if_pos (by omega)]
          · rw [if_neg h4, if_neg (by omega)]
  · rw [if_neg (by omega), if_neg (by omega)]
    rw [List.getElem?_eq_none (by rw [outL_length]; omega), List.getElem?_eq_none (by rw [outL_length]; omega)]
theorem outL_end (f1 f2 : Nat → Nat × Nat) (M : Nat) : outL f1 f2 M M = upto f1 M ++ upto f2 M := by
  apply List.ext_getElem?
  intro i
  by_cases hi : i < 2 * M
  · unfold outL
    rw [upto_get _ hi]
    by_cases h3 : i < M
    · rw [List.getElem?_append_left (by rw [upto_length]; exact h3), upto_get _ h3]
      simp [h3]
    · rw [List.getElem?_append_right (by rw [upto_length]; omega), upto_length, upto_get _ (by omega)]
      simp only [h3, if_false]
      rw [if_pos (by omega)]
  · rw [List.getElem?_eq_none (by rw [outL_length]; omega), List.getElem?_eq_none (by rw [List.length_append, upto_length, upto_length]; omega)]
theorem cellsN_zeros (n : Nat) : cellsN (upto (fun _ => (0, 0)) n) = (List.replicate (n * 2) (Value.int .u32 0)) := by
  induction n with
  | zero => rfl
  | succ n ih =>
    rw [upto_succ, cellsN_app, ih, cellsN_one, show (n + 1) * 2 = n * 2 + 1 + 1 by omega, List.replicate_succ', List.replicate_succ', List.append_assoc]
    rfl
set_option maxRecDepth 100000 in
set_option maxHeartbeats 4000000 in
theorem transform_zero (v : Value) (l : List (Nat × Nat)) (r : Nat) (w : World) (hr : Row w v l) (hl : l.length = 1) (hm : FMap w r) : TrAt 0 v l r w := by
  obtain ⟨g, off, cap, rfl, hcap, hrd⟩ := hr.rd (by intro e; rw [e] at hl; cases hl)
  have hx := hrd.2 0 _ (el_get (by omega))
  rw [hl]
  have HE : Hid (fft 0 l = [(cc (el l 0).1, cc (el l 0).2)]) := rfl
  obtain ⟨c0, c1⟩ := hx
  simp only [Nat.zero_mul, Nat.add_zero] at c0 c1
  generalize el l 0 = a at *
  obtain ⟨a0, a1⟩ := a
  dsimp only at c0 c1 HE
  have HM := Lib.hid hm
  clear hl hrd hr hm
  go_enter Try.func49, Try.ntmps49
  go_wp2_with fail
  refine (clean_at a0 a1 _).mono ?_
  rintro e W1 ⟨rfl, hb⟩
  have HB := Lib.hid hb
  clear hb c0 c1
  go_wp2_with fail
  go_ret
  have hb2 := HB.out.alloc HB.out.size (Obj.cells #[.int .u32 (cc a0), .int .u32 (cc a1)] 26)
  refine ⟨_, rfl, ?_, Below.toGrown hb2 _, HM.out.step hb2⟩
  rw [HE.out]
  exact own_one (w := W1) w.heap.size (.int .u32 (cc a0)) (.int .u32 (cc a1)) HB.out.size
end Go.Proofs.Ytlbgpfddmkpakaa.Nu
