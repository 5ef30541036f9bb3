/- A region that draws its order, inside a fence, by an invariant: each operation is walked once. -/
import Derived.OrdersIn
import Derived.RegionIn
namespace Go.Proofs.YtdgfnlagbdmniaaDoor.Pl
open Go

section
variable {F : Fence} {n : Nat} {P : Program} {ops : Array Oper} {Q : Exit → Act → World → Prop}

def left (ops : Array Oper) (listed : Array Bool) : Nat := (List.range ops.size).countP fun i => !listed.getD i true

theorem left_set {listed : Array Bool} {i : Nat} (hi : i < ops.size) (h : listed.getD i true = false) : left ops (listed.setIfInBounds i true) + 1 = left ops listed := by
  unfold left
  have hlt : i < listed.size := by
    rcases Nat.lt_or_ge i listed.size with h' | h'
    · exact h'
    · simp [Array.getElem?_eq_none h'] at h
  have key : ∀ l : List Nat, l.Nodup → (l.countP fun j => !(listed.setIfInBounds i true).getD j true) + (if i ∈ l then 1 else 0) = l.countP fun j => !listed.getD j true := by
    intro l
    induction l with
    | nil => intro _; simp
    | cons x l ih =>
      intro hnd
      obtain ⟨h1, h2⟩ := List.nodup_cons.1 hnd
      have ih := ih h2
      rw [List.countP_cons, List.countP_cons]
      by_cases hx : i = x
      · subst hx
        have e1 : (listed.setIfInBounds i true).getD i true = true := by simp [hlt]
        rw [if_neg h1] at ih
        rw [e1, h]
        simp at ih ⊢
        exact ih
      · rw [getD_set_ne true hx]
        have e2 : (i ∈ x :: l) ↔ i ∈ l := by simp [hx]
        simp only [e2]
        omega
  have := key (List.range ops.size) List.nodup_range
  rw [if_pos (by simpa using hi)] at this
  exact this

theorem wpAnyIn_inv (hback : ∀ (i : Nat) (o : Oper), ops[i]? = some o → ∀ e ∈ o.after, e.on < i)
    (I : (Nat → Bool) → Act → World → Prop)
    (step : ∀ (i : Nat) (o : Oper), ops[i]? = some o → ∀ (S : Nat → Bool) a w, I S a w → S i = false → (∀ e ∈ o.after, Region.binds .any e = true → S e.on = true) →
      wpOpIn F n P ops Q i (I fun j => j == i || S j) a w)
    (done : ∀ S a w, I S a w → (∀ i, i < ops.size → S i = true) → Q .normal a w) :
    ∀ (fuel : Nat) (listed : Array Bool) a w, listed.size = ops.size → left ops listed ≤ fuel → I (fun j => listed.getD j true) a w → wpAnyIn F n P .any ops Q fuel listed a w := by
  have hall : ∀ listed : Array Bool, listed.size = ops.size → Region.ready .any ops listed = [] → ∀ i, i < ops.size → listed.getD i true = true := by
    intro listed hsz hr i
    induction i using Nat.strongRecOn with
    | ind i ih =>
      intro hi
      cases hl : listed.getD i true with
      | true => rfl
      | false =>
        exfalso
        have : i ∈ Region.ready .any ops listed := by
          rw [mem_ready]
          refine ⟨hl, ops[i], by simp [hi], fun e he _ => ?_⟩
          have hlt := hback i ops[i] (by simp [hi]) e he
          have := ih e.on hlt (by omega)
          simp [show e.on < listed.size by omega] at this ⊢
          exact this
        rw [hr] at this
        cases this
  intro fuel
  induction fuel with
  | zero =>
    intro listed a w hsz hleft hI
    have hr : Region.ready .any ops listed = [] := by
      rw [List.eq_nil_iff_forall_not_mem]
      intro j hj
      obtain ⟨h0, o, ho, _⟩ := mem_ready.1 hj
      have hlt := (Array.getElem?_eq_some_iff.1 ho).1
      have := left_set hlt h0
      omega
    exact ⟨hr, done _ a w hI (hall listed hsz hr)⟩
  | succ fuel ih =>
    intro listed a w hsz hleft hI
    refine ⟨fun hr => done _ a w hI (hall listed hsz hr), fun i hi => ?_⟩
    obtain ⟨h0, o, ho, hdep⟩ := mem_ready.1 hi
    have hlt := (Array.getElem?_eq_some_iff.1 ho).1
    have hs := step i o ho _ a w hI h0 (fun e he hb => by
      have h := hdep e he hb
      have hel := hback i o ho e he
      simp [show e.on < listed.size by omega] at h ⊢
      exact h)
    refine wpOpIn_mono (fun a' w' h' => ih _ a' w' (by simp [hsz]) (by have := left_set hlt h0; omega) ?_) hs
    have e : (fun j => (listed.setIfInBounds i true).getD j true) = fun j => j == i || listed.getD j true := by
      funext j
      by_cases hj : i = j
      · subst hj; simp [show i < listed.size by omega]
      · rw [getD_set_ne true hj]
        have : (j == i) = false := by simp; omega
        simp [this]
    rw [e]
    exact h'

/-- A region that draws: by an invariant over which operations are done. -/
theorem wpIn_region_inv {id : Nat} {a : Act} {w : World} (hm : P.follows .mixedOrders = true) (hback : ∀ (i : Nat) (o : Oper), ops[i]? = some o → ∀ e ∈ o.after, e.on < i)
    (I : (Nat → Bool) → Act → World → Prop) (h0 : ∀ S, (∀ i, i < ops.size → S i = false) → I S a w.drew)
    (step : ∀ (i : Nat) (o : Oper), ops[i]? = some o → ∀ (S : Nat → Bool) a w, I S a w → S i = false → (∀ e ∈ o.after, Region.binds .any e = true → S e.on = true) →
      wpOpIn F n P ops Q i (I fun j => j == i || S j) a w)
    (done : ∀ S a w, I S a w → (∀ i, i < ops.size → S i = true) → Q .normal a w) : (Code.region id ops true).wpIn F n P Q a w := by
  refine wpIn_region_any hm ?_
  refine wpAnyIn_inv hback I step done _ _ _ _ (by simp) ?_ (h0 _ fun i hi => by simp [hi])
  exact Nat.le_trans List.countP_le_length (by simp)
end
end Go.Proofs.YtdgfnlagbdmniaaDoor.Pl
