/- Numeric: a drawn region inside a fence, by an invariant; the iterator slices.Backward. -/
import Derived.Test.YtlbgpfddmkpakaaJd
namespace Go.Proofs.Ytlbgpfddmkpakaa.Nu
open Go.RowKit Go.Shelf
set_option linter.unusedVariables false
set_option linter.unusedSimpArgs false
section
variable {F : Fence} {n : Nat} {P : Program} {ops : Array Oper} {Q : Exit → Act → World → Prop}

def left (ops : Array Oper) (listed : Array Bool) : Nat := (List.range ops.size).countP fun i => !listed.getD i true

theorem left_set {listed : Array Bool} {i : Nat} (hi : i < ops.size) (h : listed.getD i true = false) : left ops (listed.setIfInBounds i true) + 1 = left ops listed := by
  unfold left
  have hlt : i < listed.size := by
    rcases Nat.lt_or_ge i listed.size with h' | h'
    · exact h'
    · simp [Array.getElem?_eq_none h'] at h
  have key : ∀ l : List Nat, l.Nodup → (l.countP fun j => !(listed.setIfInBounds i true).getD j true) + (if i ∈ l then 1 else 0) = l.countP fun j => !listed.getD j true := by
    intro l
    induction l with
    | nil => intro _; simp
    | cons x l ih =>
      intro hnd
      obtain ⟨h1, h2⟩ := List.nodup_cons.1 hnd
      have ih := ih h2
      rw [List.countP_cons, List.countP_cons]
      by_cases hx : i = x
      · subst hx
        have e1 : (listed.setIfInBounds i true).getD i true = true := by simp [hlt]
        rw [if_neg h1] at ih
        rw [e1, h]
        simp at ih ⊢
        exact ih
      · rw [getD_set_ne true hx]
        have e2 : (i ∈ x :: l) ↔ i ∈ l := by simp [hx]
        simp only [e2]
        omega
  have := key (List.range ops.size) List.nodup_range
  rw [if_pos (by simpa using hi)] at this
  exact this

theorem wpAnyIn_inv (hback : ∀ (i : Nat) (o : Oper), ops[i]? = some o → ∀ e ∈ o.after, e.on < i)
    (I : (Nat → Bool) → Act → World → Prop)
    (step : ∀ (i : Nat) (o : Oper), ops[i]? = some o → ∀ (S : Nat → Bool) a w, I S a w → S i = false → (∀ e ∈ o.after, Region.binds .any e = true → S e.on = true) →
      wpOpIn F n P ops Q i (I fun j => j == i || S j) a w)
    (done : ∀ S a w, I S a w → (∀ i, i < ops.size → S i = true) → Q .normal a w) :
    ∀ (fuel : Nat) (listed : Array Bool) a w, listed.size = ops.size → left ops listed ≤ fuel → I (fun j => listed.getD j true) a w → wpAnyIn F n P .any ops Q fuel listed a w := by
  have hall : ∀ listed : Array Bool, listed.size = ops.size → Region.ready .any ops listed = [] → ∀ i, i < ops.size → listed.getD i true = true := by
    intro listed hsz hr i
    induction i using Nat.strongRecOn with
    | ind i ih =>
      intro hi
      cases hl : listed.getD i true with
      | true => rfl
      | false =>
        exfalso
        have : i ∈ Region.ready .any ops listed := by
          rw [mem_ready]
          refine ⟨hl, ops[i], by simp [hi], fun e he _ => ?_⟩
          have hlt := hback i ops[i] (by simp [hi]) e he
          have := ih e.on hlt (by omega)
          simp [show e.on < listed.size by omega] at this ⊢
          exact this
        rw [hr] at this
        cases this
  intro fuel
  induction fuel with
  | zero =>
    intro listed a w hsz hleft hI
    have hr : Region.ready .any ops listed = [] := by
      rw [List.eq_nil_iff_forall_not_mem]
      intro j hj
      obtain ⟨h0, o, ho, _⟩ := mem_ready.1 hj
      have hlt := (Array.getElem?_eq_some_iff.1 ho).1
      have := left_set hlt h0
      omega
    exact ⟨hr, done _ a w hI (hall listed hsz hr)⟩
  | succ fuel ih =>
    intro listed a w hsz hleft hI
    refine ⟨fun hr => done _ a w hI (hall listed hsz hr), fun i hi => ?_⟩
    obtain ⟨h0, o, ho, hdep⟩ := mem_ready.1 hi
    have hlt := (Array.getElem?_eq_some_iff.1 ho).1
    have hs := step i o ho _ a w hI h0 (fun e he hb => by
      have h := hdep e he hb
      have hel := hback i o ho e he
      simp [show e.on < listed.size by omega] at h ⊢
      exact h)
    refine wpOpIn_mono (fun a' w' h' => ih _ a' w' (by simp [hsz]) (by have := left_set hlt h0; omega) ?_) hs
    have e : (fun j => (listed.setIfInBounds i true).getD j true) = fun j => j == i || listed.getD j true := by
      funext j
      by_cases hj : i = j
      · subst hj; simp [show i < listed.size by omega]
      · rw [getD_set_ne true hj]
        have : (j == i) = false := by simp; omega
        simp [this]
    rw [e]
    exact h'

/-- A region that draws: by an invariant over which operations are done. -/
theorem wpIn_region_inv {id : Nat} {a : Act} {w : World} (hm : P.follows .mixedOrders = true) (hback : ∀ (i : Nat) (o : Oper), ops[i]? = some o → ∀ e ∈ o.after, e.on < i)
    (I : (Nat → Bool) → Act → World → Prop) (h0 : ∀ S, (∀ i, i < ops.size → S i = false) → I S a w.drew)
    (step : ∀ (i : Nat) (o : Oper), ops[i]? = some o → ∀ (S : Nat → Bool) a w, I S a w → S i = false → (∀ e ∈ o.after, Region.binds .any e = true → S e.on = true) →
      wpOpIn F n P ops Q i (I fun j => j == i || S j) a w)
    (done : ∀ S a w, I S a w → (∀ i, i < ops.size → S i = true) → Q .normal a w) : (Code.region id ops true).wpIn F n P Q a w := by
  refine wpIn_region_any hm ?_
  refine wpAnyIn_inv hback I step done _ _ _ _ (by simp) ?_ (h0 _ fun i hi => by simp [hi])
  exact Nat.le_trans List.countP_le_length (by simp)
end
theorem back_of {ops : Array Oper} (h : ((List.range ops.size).all fun i => ((ops[i]?).map fun o => o.after.all fun e => decide (e.on < i)).getD true) = true) : ∀ (i : Nat) (o : Oper), ops[i]? = some o → ∀ e ∈ o.after, e.on < i := by
  intro i o ho e he
  have hlt := (Array.getElem?_eq_some_iff.1 ho).1
  have := List.all_eq_true.1 h i (by simpa using hlt)
  rw [ho] at this
  simp only [Option.map_some, Option.getD_some, Array.all_eq_true_iff_forall_mem] at this
  simpa using this e he


/-- Below n but for S nothing has changed. -/
structure Bq (n S : Nat) (A B : World) : Prop where
  size : A.heap.size ≤ B.heap.size
  same : ∀ k, k < n → k ≠ S → B.heap[k]? = A.heap[k]?
theorem Bq.refl (n S : Nat) (A : World) : Bq n S A A := ⟨Nat.le_refl _, fun _ _ _ => rfl⟩
theorem Bq.trans {n S : Nat} {A B C : World} (h : Bq n S A B) (h' : Bq n S B C) : Bq n S A C := ⟨Nat.le_trans h.size h'.size, fun k a b => (h'.same k a b).trans (h.same k a b)⟩
theorem Bq.mono {n m S : Nat} {A B : World} (h : Bq n S A B) (hm : m ≤ n) : Bq m S A B := ⟨h.size, fun k a b => h.same k (Nat.lt_of_lt_of_le a hm) b⟩
theorem Bq.below {n S : Nat} {A B : World} (h : Below n A B) : Bq n S A B := ⟨h.size, fun k a _ => h.block k a⟩
theorem Bq.cell {n S : Nat} {A B : World} (h : Bq n S A B) {p : Addr} (h1 : p.block < n) (h2 : p.block ≠ S) : B.cell? p = A.cell? p := by
  unfold World.cell?
  rw [h.same _ h1 h2]
theorem Bq.set (n S : Nat) (A : World) (a b : Value) : Bq n S A ((A.setCell ⟨S, 0, none⟩ a).setCell ⟨S, 1, none⟩ b) :=
  ⟨by simp, fun k _ h => by rw [Below.heap_setCell _ _ _ _ h, Below.heap_setCell _ _ _ _ h]⟩
theorem bqK_b {n₀ S : Nat} {w : World} (hn : n₀ ≤ w.heap.size) (W : World) (l : Nat) (o o' : Obj) (hl : w.heap.size ≤ l) (h : W.heap[l]? = some o) (h1 : o.isCells = false) (h2 : o.isWalk = false) : Bq n₀ S W (W.putObj l o') := Bq.below (belowK_b hn W l o o' hl h h1 h2)
/-- The k-th place from behind, and its element. -/
def bk (l : List (Nat × Nat)) (k : Nat) : Nat × (Nat × Nat) := (l.length - 1 - k, el l (l.length - 1 - k))
abbrev encB (x : Nat × (Nat × Nat)) : Array Value := #[.int .i64 (x.1 : Int), num x.2]
section
attribute [local go_sem] Oper.semAt_some
set_option maxRecDepth 100000 in
set_option maxHeartbeats 2000000 in
theorem back_in (F : Fence) (n : Nat) (h65 : F.fn 65) (hro : F.round = none) (hn : 1 ≤ n) (yl Bs n₀ : Nat) (g off cap : Nat) (l : List (Nat × Nat)) (hlen : l.length ≤ 100000) (S : Nat) (hg : g < n₀) (hBs : Bs < n₀) (hgS : g ≠ S) (hBsS : Bs ≠ S) (J Jx : List (Nat × (Nat × Nat)) → World → Prop)
    (hY : ∀ pre x W, J pre W → pre.length < l.length → YieldAt F (n - 1) Try.prog yl (encB x) W fun e W' =>
      (e = .returned (.bool true) ∧ J (pre ++ [x]) W' ∧ Bq n₀ S W W') ∨ (e = .returned (.bool false) ∧ Jx (pre ++ [x]) W'))
    (W : World) (hs : W.cell? ⟨Bs, 0, none⟩ = some (.slice (some ⟨g, off, none⟩) l.length cap))
    (hc : ∀ (k : Nat) (x : Nat × Nat), l[k]? = some x → W.cell? ⟨g, off + k * 2, none⟩ = some (.int .u32 x.1) ∧ W.cell? ⟨g, off + k * 2 + 1, none⟩ = some (.int .u32 x.2)) (h0 : J [] W) :
    CallsIn F n Try.prog 65 #[.func (.yield yl) #[] #[], .pointer (some ⟨Bs, 0, none⟩)] W fun e W' => (∃ v, e = .returned v) ∧
      ((∃ ys, ys = upto (bk l) l.length ∧ J ys W') ∨ (∃ pre, (∃ k, pre = upto (bk l) k) ∧ Jx pre W')) := by
  have HC := Lib.hid hc
  clear hc
  obtain ⟨N, hN⟩ : ∃ N, N = l.length := ⟨_, rfl⟩
  rw [← hN] at hlen hs hY ⊢
  have HNN := Lib.hid hN
  have en : wrap64 ((N : Int) - 1) = (N : Int) - 1 := by unfold wrap64; omega
  clear hN
  refine callsIn_of_wp Try.func65 rfl h65 ?_ hro
  simp only [Try.ntmps65, List.size_toArray, List.length_cons, List.length_nil, Nat.reduceAdd, Nat.reduceSub, Array.replicate_succ, Array.replicate_zero, List.push_toArray, List.append_toArray, List.nil_append, List.cons_append]
  gi_wp2
  try rw [en]
  gi_loopw [3] (fun i wr => ∃ (k : Nat) (iv : Int), k ≤ N ∧ iv = (N : Int) - 1 - k ∧ i = .int .i64 iv ∧ J (upto (bk l) k) wr ∧ Bq n₀ S W wr)
    (fun i _ => (intOf i + 1).toNat)
  case atStart => exact ⟨0, _, Nat.zero_le _, by omega, rfl, h0, Bq.refl _ _ _⟩
  case round =>
    obtain ⟨k, iv, hk, hiv, rfl, hJs, hnx⟩ := hrel
    have hs' : wr.cell? ⟨Bs, 0, none⟩ = some (.slice (some ⟨g, off, none⟩) N cap) := (hnx.cell (p := ⟨Bs, 0, none⟩) hBs hBsS).trans hs
    by_cases hlt : k < N
    · obtain ⟨i, hi⟩ : ∃ i, i = N - 1 - k := ⟨_, rfl⟩
      have hiv' : iv = (i : Int) := by omega
      subst hiv'
      have hil : i < N := by omega
      obtain ⟨x, hx⟩ : ∃ x, x = el l i := ⟨_, rfl⟩
      have hxx : l[i]? = some x := by rw [hx]; exact el_get (by rw [← HNN.out]; exact hil)
      obtain ⟨c0, c1⟩ := HC.out i x hxx
      have d0 : wr.cell? ⟨g, off + i * 2, none⟩ = some (.int .u32 x.1) := (hnx.cell (p := ⟨g, off + i * 2, none⟩) hg hgS).trans c0
      have d1 : wr.cell? ⟨g, off + i * 2 + 1, none⟩ = some (.int .u32 x.2) := (hnx.cell (p := ⟨g, off + i * 2 + 1, none⟩) hg hgS).trans c1
      have hsx : bk l k = (i, x) := by unfold bk; rw [← HNN.out, ← hi, hx]
      have HSX := Lib.hid hsx
      obtain ⟨fn, tmps, assign, body, hy, hR⟩ := hY _ (i, x) wr hJs (by rw [upto_length]; exact hlt)
      have tl : decide ((0 : Int) ≤ (i : Int)) = true := decide_eq_true (by omega)
      have ek : wrap64 ((i : Int) - 1) = (i : Int) - 1 := by unfold wrap64; omega
      have bi : (i : Int) < (N : Int) := by omega
      have bi' : i < N := hil
      have HLT := Lib.hid hlt
      have HI := Lib.hid hi
      clear c0 c1 hsx hx hxx hi hlt hk hlen hiv
      gi_wp2
      refine hR.mono ?_
      rintro e W3 (⟨rfl, hJ3, hk3⟩ | ⟨rfl, hJx3⟩)
      · gi_wp2
        try rw [ek]
        go_roundw
        case rel => exact ⟨k + 1, (i : Int) - 1, HLT.out, by have := HI.out; have := HLT.out; omega, rfl, by rw [upto_succ, HSX.out]; exact hJ3, hnx.trans hk3⟩
        case measure =>
          show ((i : Int) - 1 + 1).toNat < ((i : Int) + 1).toNat
          omega
      · gi_wp2
        refine bodyPost_ret (results_none rfl _ _ _) rfl ?_
        exact ⟨⟨_, rfl⟩, .inr ⟨_, ⟨k + 1, by rw [upto_succ, HSX.out]⟩, hJx3⟩⟩
    · have hkk : k = N := by omega
      have hiv' : iv = -1 := by omega
      subst hiv'
      clear hiv hlt hk hlen
      gi_wp2
      go_end0
      exact ⟨⟨_, rfl⟩, .inl ⟨_, by rw [hkk], hJs⟩⟩
/-- slices.Backward's func goes over the list from behind. -/
theorem back_stops (F : Fence) (n : Nat) (h65 : F.fn 65) (hro : F.round = none) (hn : 1 ≤ n) (Bs n₀ : Nat) (g off cap : Nat) (l : List (Nat × Nat)) (hlen : l.length ≤ 100000) (S : Nat) (hg : g < n₀) (hBs : Bs < n₀) (hgS : g ≠ S) (hBsS : Bs ≠ S) (w : World) (hn₀ : n₀ ≤ w.heap.size)
    (hs : w.cell? ⟨Bs, 0, none⟩ = some (.slice (some ⟨g, off, none⟩) l.length cap))
    (hc : ∀ (k : Nat) (x : Nat × Nat), l[k]? = some x → w.cell? ⟨g, off + k * 2, none⟩ = some (.int .u32 x.1) ∧ w.cell? ⟨g, off + k * 2 + 1, none⟩ = some (.int .u32 x.2)) :
    SeqStopsK F n Try.prog 65 #[.pointer (some ⟨Bs, 0, none⟩)] encB (Bq n₀ S) (fun ys => ys = upto (bk l) l.length) (fun pre => ∃ k, pre = upto (bk l) k) l.length w := fun yl J Jx W hW _ _ hY h0 =>
  back_in F n h65 hro hn yl Bs n₀ g off cap l hlen S hg hBs hgS hBsS J Jx hY W ((hW.cell (p := ⟨Bs, 0, none⟩) (Nat.lt_of_lt_of_le hBs hn₀)).trans hs)
    (fun k x hx => ⟨(hW.cell (p := ⟨g, off + k * 2, none⟩) (Nat.lt_of_lt_of_le hg hn₀)).trans (hc k x hx).1, (hW.cell (p := ⟨g, off + k * 2 + 1, none⟩) (Nat.lt_of_lt_of_le hg hn₀)).trans (hc k x hx).2⟩) h0
end
end Go.Proofs.Ytlbgpfddmkpakaa.Nu
