/- MailboxProgress: plainly. -/
import Derived.Test.YtgbafpjeapkklaaMq
import Derived.Deep.RegionHeld3
namespace Go.Proofs.Ytgbafpjeapkklaa.Mb
open Go.RowKit
set_option linter.unusedVariables false
set_option linter.unusedSimpArgs false

/-- A list of numbers of one kind in memory. -/
def NumK (w : World) (k : IntKind) (v : Value) (xs : List Int) : Prop :=
  ∃ p cap, v = .slice p xs.length cap ∧ (xs = [] ∨ ∃ g off, p = some ⟨g, off, none⟩ ∧ g < w.heap.size ∧ ∀ (j : Nat) (x : Int), xs[j]? = some x → w.cell? ⟨g, off + j, none⟩ = some (.int k x))

/-- The queue behind so many pushes. -/
def qb (xs : List Int) : Nat → Q
  | 0 => q0
  | k + 1 => (qb xs k).beg k (xs.getD k 0)
theorem qb_m (xs : List Int) : ∀ k, (qb xs k).m = k
  | 0 => rfl
  | k + 1 => by rw [qb, beg_m, qb_m xs k]
theorem qb_opn_lt (xs : List Int) : ∀ k, ∀ o ∈ (qb xs k).opn, o.1 < (k : Int) := by
  intro k
  induction k with
  | zero => intro o ho; cases ho
  | succ k ih =>
    intro o ho
    simp only [qb, Q.beg, List.mem_append, List.mem_cons] at ho
    rcases ho with ho | rfl | ho
    · have := ih o (List.mem_of_mem_take ho); omega
    · simp only; omega
    · have := ih o (List.mem_of_mem_drop ho); omega
theorem qb_pos (xs : List Int) (k : Nat) : (qb xs k).pos k = (qb xs k).opn.length := by
  rw [pos_last (qb_opn_lt xs k), pushes_len]
theorem qb_opn (xs : List Int) (k : Nat) : (qb xs (k + 1)).opn = (qb xs k).opn ++ [((k : Int), k + 1)] := by
  show (qb xs k).opn.take ((qb xs k).pos k) ++ ((k : Int), (qb xs k).m + 1) :: (qb xs k).opn.drop ((qb xs k).pos k) = _
  rw [qb_pos, List.take_length, List.drop_length, qb_m]
theorem qb_wf (xs : List Int) : ∀ k, k ≤ 30 → WF (qb xs k) := by
  intro k
  induction k with
  | zero => intro _; exact q0_wf
  | succ k ih =>
    intro hk
    exact beg_wf (ih (by omega)) (by rw [qb_m]; omega) (by omega) (fun o ho => by have := qb_opn_lt xs k o ho; omega)
theorem qb_len (xs : List Int) : ∀ k, (qb xs k).opn.length = k
  | 0 => rfl
  | k + 1 => by rw [qb_opn, List.length_append, qb_len xs k]; rfl
theorem qb_done (xs : List Int) : ∀ k, (qb xs k).done = 0
  | 0 => rfl
  | k + 1 => qb_done xs k
theorem qb_vals (xs : List Int) : ∀ k, k ≤ xs.length → ∀ i, i < k → (qb xs k).val i = xs.getD i 0 := by
  intro k
  induction k with
  | zero => intro _ i hi; omega
  | succ k ih =>
    intro hk i hi
    have hl : (qb xs k).vals.length = k := qb_m xs k
    unfold Q.val
    show (((qb xs k).vals ++ [(xs.getD k 0, (k : Int))]).getD i (0, 0)).1 = _
    by_cases h : i < k
    · rw [← ih (by omega) i h]
      unfold Q.val
      simp [List.getElem?_append_left, hl, h]
    · obtain rfl : i = k := by omega
      simp [hl]
/-- The producers that have not finished. -/
def Q.prods (q : Q) : List Int := q.opn.map (·.1)
theorem qb_prods (xs : List Int) (k : Nat) : (qb xs (k + 1)).prods = (qb xs k).prods ++ [(k : Int)] := by
  simp [Q.prods, qb_opn]
theorem prods_len (q : Q) : q.prods.length = q.opn.length := by simp [Q.prods]
theorem fin_prods (q : Q) (i : Nat) : (q.fin i).prods = q.prods.eraseIdx i := by
  simp only [Q.prods, Q.fin]
  exact map_erase _ _ _
theorem fin_val (q : Q) (i k : Nat) : (q.fin i).val k = q.val k := rfl

theorem can_all {q : Q} (h : q.opn = []) (d : Nat) : q.can d = decide (d < q.m) := by
  simp [Q.can, Q.isOpen, h]
theorem pops_all {q : Q} (h : q.opn = []) : ∀ n d, d ≤ q.m → q.m - d ≤ n → q.pops n d = q.m - d := by
  intro n
  induction n with
  | zero => intro d h1 h2; simp [Q.pops]; omega
  | succ n ih =>
    intro d h1 h2
    rw [Q.pops, can_all h]
    by_cases hd : d < q.m
    · rw [if_pos (by simpa using hd), ih (d + 1) (by omega) (by omega)]; omega
    · rw [if_neg (by simpa using hd)]; omega

/-- What the second loop keeps. -/
structure Fq (xs : List Int) (i : Nat) (q : Q) : Prop where
  wf : WF q
  m : q.m = xs.length
  done : q.done = 0
  vals : ∀ k, k < xs.length → q.val k = xs.getD k 0
  len : q.opn.length + i = xs.length
theorem Fq.start {xs : List Int} (h : xs.length ≤ 30) : Fq xs 0 (qb xs xs.length) :=
  ⟨qb_wf xs _ h, qb_m xs _, qb_done xs _, qb_vals xs _ (Nat.le_refl _), by rw [qb_len]; rfl⟩
theorem Fq.next {xs : List Int} {i : Nat} {q : Q} (h : Fq xs i q) {k : Nat} (hk : k < q.opn.length) : Fq xs (i + 1) (q.fin k) := by
  refine ⟨fin_wf h.wf (List.getElem?_eq_getElem hk), h.m, h.done, h.vals, ?_⟩
  have := h.len
  simp only [Q.fin]
  rw [List.length_eraseIdx, if_pos hk]
  omega
theorem Fq.took {xs : List Int} {q : Q} (h : Fq xs xs.length q) : q.pops 1000 0 = xs.length ∨ 1000 < xs.length := by
  by_cases hl : 1000 < xs.length
  · exact .inr hl
  · left
    have h0 : q.opn = [] := List.eq_nil_of_length_eq_zero (by have := h.len; omega)
    rw [pops_all h0 1000 0 (by omega) (by rw [h.m]; omega), h.m]; omega
theorem Fq.taken {xs : List Int} {i : Nat} {q : Q} (h : Fq xs i q) : q.took 0 xs.length = xs := by
  apply List.ext_getElem
  · simp [Q.took]
  · intro j h1 h2
    simp only [Q.took, List.getElem_map, List.getElem_range]
    rw [Nat.zero_add, h.vals j h2]
    simp [h2]
end Go.Proofs.Ytgbafpjeapkklaa.Mb
