/- Mailbox: what Check counts, plainly. -/
import Derived.Test.YtgbafpjeapkklaaMd
namespace Go.Proofs.Ytgbafpjeapkklaa.Mb
open Go.RowKit
set_option linter.unusedVariables false
set_option linter.unusedSimpArgs false

/-- Where a chain from a node on ends. -/
def Fin (q : Q) (a e : Nat) : Prop := a ≤ e ∧ e ≤ q.m ∧ (e = q.m ∨ q.isOpen (e + 1) = true) ∧ ∀ i, a ≤ i → i < e → q.isOpen (i + 1) = false
theorem fin_ex (q : Q) : ∀ d a, a + d = q.m → ∃ e, Fin q a e := by
  intro d
  induction d with
  | zero => intro a h; exact ⟨a, Nat.le_refl _, by omega, .inl (by omega), fun i h1 h2 => by omega⟩
  | succ d ih =>
    intro a h
    cases ho : q.isOpen (a + 1) with
    | true => exact ⟨a, Nat.le_refl _, by omega, .inr ho, fun i h1 h2 => by omega⟩
    | false =>
      obtain ⟨e, h1, h2, h3, h4⟩ := ih (a + 1) (by omega)
      refine ⟨e, by omega, h2, h3, fun i hi1 hi2 => ?_⟩
      by_cases hia : i = a
      · subst hia; exact ho
      · exact h4 i (by omega) hi2
theorem Fin.ex {q : Q} {a : Nat} (h : a ≤ q.m) : ∃ e, Fin q a e := fin_ex q (q.m - a) a (by omega)

/-- How many pushes have their node up to here. -/
def cnt (q : Q) (e : Nat) : Nat := (q.opn.filter fun o => decide (o.2 ≤ e)).length
theorem cnt_le (q : Q) (e : Nat) : cnt q e ≤ q.opn.length := List.length_filter_le _ _
theorem cnt_all {q : Q} (hq : WF q) : cnt q q.m = q.opn.length := by
  unfold cnt
  rw [List.filter_eq_self.2]
  intro o ho
  have := hq.opn o ho
  simp; omega
theorem not_open {q : Q} {j : Nat} (h : q.isOpen j = false) {o : Int × Nat} (ho : o ∈ q.opn) : o.2 ≠ j := by
  intro e
  have := isOpen_of ho
  rw [e, h] at this
  cases this
theorem cnt_first {q : Q} (hq : WF q) {e : Nat} (h : Fin q 0 e) : cnt q e = 0 := by
  unfold cnt
  rw [List.length_eq_zero_iff, List.filter_eq_nil_iff]
  intro o ho
  have h1 := hq.opn o ho
  simp
  apply Nat.lt_of_not_le
  intro hle
  exact not_open (h.2.2.2 (o.2 - 1) (Nat.zero_le _) (by omega)) ho (by omega)
theorem open_mem {q : Q} {j : Nat} (h : q.isOpen j = true) : ∃ (p : Nat) (o : Int × Nat), q.opn[p]? = some o ∧ o.2 = j := by
  simp only [Q.isOpen, List.any_eq_true] at h
  obtain ⟨o, ho, e⟩ := h
  obtain ⟨p, hp⟩ := List.mem_iff_getElem?.1 ho
  exact ⟨p, o, hp, by simpa using e⟩
theorem filter_or (l : List (Int × Nat)) (f g : Int × Nat → Bool) (hd : ∀ o ∈ l, ¬ (f o = true ∧ g o = true)) : (l.filter fun o => f o || g o).length = (l.filter f).length + (l.filter g).length := by
  induction l with
  | nil => rfl
  | cons x l ih =>
    have h1 := ih fun o ho => hd o (List.mem_cons_of_mem _ ho)
    have h2 := hd x List.mem_cons_self
    cases hf : f x <;> cases hg : g x
    · simp [hf, hg, h1]
    · simp [hf, hg, h1]; omega
    · simp [hf, hg, h1]; omega
    · exact absurd ⟨hf, hg⟩ h2
theorem filter_one {q : Q} (hq : WF q) {p : Nat} {o : Int × Nat} (hp : q.opn[p]? = some o) : (q.opn.filter fun x => decide (x.2 = o.2)).length = 1 := by
  obtain ⟨hlt, he⟩ := List.getElem?_eq_some_iff.1 hp
  have hs : q.opn = q.opn.take p ++ o :: q.opn.drop (p + 1) := by
    rw [← he, ← List.drop_eq_getElem_cons hlt, List.take_append_drop]
  have hno : ∀ i x, q.opn[i]? = some x → x.2 = o.2 → i = p := fun i x hi hx => open_uniq hq hi hp hx
  have e1 : (q.opn.take p).filter (fun x => decide (x.2 = o.2)) = [] := by
    rw [List.filter_eq_nil_iff]
    intro x hx
    obtain ⟨i, hi⟩ := List.mem_iff_getElem?.1 hx
    have hip : i < p := by
      have := (List.getElem?_eq_some_iff.1 hi).1
      simp at this; omega
    rw [List.getElem?_take_of_lt hip] at hi
    simp
    intro e
    have := hno i x hi e
    omega
  have e2 : (q.opn.drop (p + 1)).filter (fun x => decide (x.2 = o.2)) = [] := by
    rw [List.filter_eq_nil_iff]
    intro x hx
    obtain ⟨i, hi⟩ := List.mem_iff_getElem?.1 hx
    rw [List.getElem?_drop] at hi
    simp
    intro e
    have := hno _ x hi e
    omega
  rw [hs, List.filter_append, List.filter_cons, e1, e2]
  simp
theorem cnt_next {q : Q} (hq : WF q) {e e' : Nat} (ho : q.isOpen (e + 1) = true) (h : Fin q (e + 1) e') : cnt q e' = cnt q e + 1 := by
  obtain ⟨p, o, hp, he⟩ := open_mem ho
  have hone := filter_one hq hp
  have hor := filter_or q.opn (fun x => decide (x.2 ≤ e)) (fun x => decide (x.2 = o.2)) (fun x _ hx => by
    have h1 := of_decide_eq_true hx.1
    have h2 := of_decide_eq_true hx.2
    omega)
  unfold cnt
  rw [← hone, ← hor]
  congr 1
  apply List.filter_congr
  intro x hx
  have hw := hq.opn x hx
  by_cases h1 : x.2 ≤ e
  · have : x.2 ≤ e' := by have := h.1; omega
    simp [h1, this]
  · by_cases h2 : x.2 = o.2
    · have : x.2 ≤ e' := by have := h.1; omega
      simp [h2, this]; omega
    · have : ¬ x.2 ≤ e' := by
        intro hle
        exact not_open (h.2.2.2 (x.2 - 1) (by omega) (by omega)) hx (by omega)
      simp [h1, h2, this]
theorem cnt_open {q : Q} (_hq : WF q) {e : Nat} (ho : q.isOpen (e + 1) = true) : cnt q e < q.opn.length := by
  obtain ⟨p, o, hp, he⟩ := open_mem ho
  apply Nat.lt_of_le_of_ne (cnt_le q e)
  intro h
  unfold cnt at h
  rw [List.length_filter_eq_length_iff] at h
  have := of_decide_eq_true (h o (List.mem_of_getElem? hp))
  omega

/-- The map from the node ahead of a push to the push's place. -/
def befs (q : Q) (k : Nat) : List (Int × Value) := (List.range k).map fun (i : Nat) => (((q.opn.getD i (0, 0)).2 : Int) - 1, Value.int .i64 (i : Int))
theorem befs_snoc {q : Q} {k : Nat} {o : Int × Nat} (h : q.opn[k]? = some o) : befs q k ++ [((o.2 : Int) - 1, .int .i64 (k : Int))] = befs q (k + 1) := by
  have e : q.opn.getD k (0, 0) = o := by simp [List.getD, h]
  unfold befs
  rw [List.range_succ, List.map_append, List.map_singleton, e]
theorem befs_find {q : Q} (hq : WF q) {p : Nat} {o : Int × Nat} (hp : q.opn[p]? = some o) : ∀ k, k ≤ q.opn.length → (befs q k).find? (fun x => x.1 == (o.2 : Int) - 1) = if p < k then some ((o.2 : Int) - 1, .int .i64 (p : Int)) else none := by
  intro k
  induction k with
  | zero => intro _; simp [befs]
  | succ k ih =>
    intro hk
    obtain ⟨x, hx⟩ : ∃ x, q.opn[k]? = some x := ⟨q.opn[k], by simp [show k < q.opn.length by omega]⟩
    rw [← befs_snoc hx, List.find?_append, ih (by omega)]
    by_cases h : p < k
    · rw [if_pos h, if_pos (by omega)]; rfl
    · rw [if_neg h]
      by_cases h2 : p = k
      · subst h2
        rw [hp] at hx; cases hx
        simp
      · rw [if_neg (by omega)]
        have hne : x.2 ≠ o.2 := fun e => h2 (open_uniq hq hp hx e.symm)
        have : (((x.2 : Int) - 1) == ((o.2 : Int) - 1)) = false := by simp; omega
        simp [this]
end Go.Proofs.Ytgbafpjeapkklaa.Mb
