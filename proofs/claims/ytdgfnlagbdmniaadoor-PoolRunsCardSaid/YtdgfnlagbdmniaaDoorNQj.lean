/- Sweep: the statement with two appends. -/
import Derived.Test.YtdgfnlagbdmniaaDoorNQi
import Derived.Test.YtdgfnlagbdmniaaDoorQh
namespace Go.Proofs.YtdgfnlagbdmniaaDoor.Pl
open Go.RowKit

/-- An append, at an operation of a region that draws. -/
theorem wpOpIn_append {F : Fence} {n : Nat} {P : Program} {w : World} {ops : Array Oper} {o : Oper} {i : Nat} {a : Act} {Q : Exit → Act → World → Prop} {K : Act → World → Prop} (ho : ops[i]? = some o)
    (hg : o.guard = none) (s x : Operand) (t : TypeId) (hop : o.op = Op.call { callee := Callee.builtin Builtin.append, args := #[s, x], argTypes := #[t, t] })
    (base : Nat) (e : TypeId) (ti : TypeInfo) (z : Value) (size bytes : Nat) (h1 : P.underlying t = some (.slice e)) (h2 : P.info? e = some ti) (h3 : ti.zero = some z) (h4 : ti.size = size) (h5 : ti.bytes = bytes) (h6 : z.cells.size = size) (h7 : 0 < size)
    (v : Value) (k : Nat) (xs : List Value) (hs : a.eval s = v) (hown : w.ownsRow base e size v k xs) (ad : Addr) (m c : Nat) (news : List Value) (hx : a.eval x = .slice (some ad) m c) (hn : news.length = m * size)
    (hc : ∀ j u, news[j]? = some u → w.cell? (ad.add j) = some u) (h1c : ∀ u ∈ news, u.oneCell' = true) (b1 : k + m ≤ maxLen) (b2 : (k + m) * bytes ≤ 140737488355328) (b3 : base ≤ w.heap.size)
    (hK : ∀ v' w', w'.ownsRow base e size v' (k + m) (xs ++ news) → w.grownBy w' v.ownBlock → K (a.put o.dst v') w') : wpOpIn F n P ops Q i K a w := by
  refine wpOpIn_step ho fun K' hK' => ?_
  have hw : Region.wanted o (yielded ops a.tmps) = true := by simp [Region.wanted, hg]
  rw [if_pos hw]
  obtain ⟨v', w', hrun, r1, r2, r3⟩ := run_append_own (P := P) w base t o.type e ti z size bytes h1 h2 h3 h4 h5 h6 h7 v k xs hown ad m c news hn hc h1c b1 b2 b3
  unfold Oper.wpIn
  refine ⟨?_, ?_⟩
  · simp [Oper.about, hop, resolve, Target.leads, Sem.run_pure]
  · rw [Oper.semAt_plain F _ _ (by rw [hop]; intro c hc'; cases hc')]
    simp [execOp, hop, resolve, invoke, builtin, hs, hx, hrun, Result.andThen]
    exact hK' _ _ (hK v' w' r1 r2)

theorem own_type {w : World} {base : Nat} {e : TypeId} {size : Nat} {v : Value} {n : Nat} {xs : List Value} (h : w.ownsRow base e size v n xs) {g : Nat} (hg : v.ownBlock = some g) : ∃ cur, w.heap[g]? = some (.cells cur e (0, 0)) := by
  rcases h.2 with ⟨rfl, _⟩ | ⟨g', cap, cur, rfl, h1, h2, _⟩
  · cases hg
  · obtain rfl : g' = g := by simpa [Value.ownBlock] using hg
    exact ⟨cur, h2⟩
/-- Rows of two types do not share a block. -/
theorem own_apart {w : World} {base base' : Nat} {e e' : TypeId} {size size' : Nat} {v v' : Value} {n n' : Nat} {xs xs' : List Value} (h : w.ownsRow base e size v n xs) (h' : w.ownsRow base' e' size' v' n' xs') (hne : e ≠ e') : v.ownBlock = none ∨ v.ownBlock ≠ v'.ownBlock := by
  cases hv : v.ownBlock with
  | none => exact .inl rfl
  | some g =>
    right
    intro e1
    obtain ⟨c1, h1⟩ := own_type h hv
    obtain ⟨c2, h2⟩ := own_type h' e1.symm
    rw [h1] at h2
    cases h2
    exact hne rfl

structure RegI (B X : Nat) (w2 : World) (v u : Value) (n : Nat) (L1 L2 n1 n2 : List Value) (S : Nat → Bool) (x20 x21 x22 x23 x24 x25 x26 x27 : Value) (W : World) : Prop where
  d0 : S 0 = true → x20 = v
  d1 : S 1 = true → x21 = .agg n1.toArray
  d2 : S 2 = true → S 3 = false → ∃ g, x22 = .slice (some ⟨g, 0, none⟩) 1 1 ∧ W.heap[g]? = some (.cells n1.toArray 40 (0, 0)) ∧ X + 2 ≤ g
  d3 : S 3 = true → W.ownsRow (B + 6) 40 4 x23 (n + 1) (L1 ++ n1)
  m3 : S 3 = false → W.ownsRow (B + 6) 40 4 v n L1
  d4 : S 4 = true → x24 = u
  d5 : S 5 = true → x25 = .agg n2.toArray
  d6 : S 6 = true → S 7 = false → ∃ g, x26 = .slice (some ⟨g, 0, none⟩) 1 1 ∧ W.heap[g]? = some (.cells n2.toArray 83 (0, 0)) ∧ X + 2 ≤ g
  d7 : S 7 = true → W.ownsRow (B + 6) 83 2 x27 (n + 1) (L2 ++ n2)
  m7 : S 7 = false → W.ownsRow (B + 6) 83 2 u n L2
  c3 : W.heap[B + 1]? = some (.cells #[if S 8 then x23 else v] 37 (0, 0))
  c4 : W.heap[B + 2]? = some (.cells #[if S 9 then x27 else u] 91 (0, 0))
  k7 : S 7 = true → S 3 = true ∧ S 4 = true
  k3 : S 3 = true → S 0 = true
  k8 : S 8 = true → S 7 = true
  k9 : S 9 = true → S 8 = true
  f5 : W.heap[X]? = some (.cells n2.toArray 83 (0, 0))
  f6 : W.heap[X + 1]? = some (.cells n1.toArray 40 (0, 0))
  vb : ∀ g, v.ownBlock = some g → g < X
  ub : ∀ g, u.ownBlock = some g → g < X
  oth : ∀ r, r < B + 6 → r ≠ B + 1 → r ≠ B + 2 → W.heap[r]? = w2.heap[r]?
  os : W.os = w2.os
  tape : W.tape = w2.tape
  output : W.output = w2.output
  size : w2.heap.size ≤ W.heap.size

theorem back_of {ops : Array Oper} (h : ((List.range ops.size).all fun i => ((ops[i]?).map fun o => o.after.all fun e => decide (e.on < i)).getD true) = true) : ∀ (i : Nat) (o : Oper), ops[i]? = some o → ∀ e ∈ o.after, e.on < i := by
  intro i o ho e he
  have hlt := (Array.getElem?_eq_some_iff.1 ho).1
  have := List.all_eq_true.1 h i (by simpa using hlt)
  rw [ho] at this
  simp only [Option.map_some, Option.getD_some, Array.all_eq_true_iff_forall_mem] at this
  simpa using this e he

def ins (i : Nat) (S : Nat → Bool) : Nat → Bool := fun j => j == i || S j

section
variable {B X : Nat} {w2 : World} {v u : Value} {n : Nat} {L1 L2 n1 n2 : List Value} {S : Nat → Bool} {x20 x21 x22 x23 x24 x25 x26 x27 : Value} {W W' : World}

theorem RegI.fresh (h : RegI B X w2 v u n L1 L2 n1 n2 S x20 x21 x22 x23 x24 x25 x26 x27 W) (hg : W.grownBy W' none) (hs : B + 6 ≤ W.heap.size) : RegI B X w2 v u n L1 L2 n1 n2 S x20 x21 x22 x23 x24 x25 x26 x27 W' := by
  have bl : ∀ {r : Nat} {x : Obj}, W.heap[r]? = some x → W'.heap[r]? = some x := fun {r x} hr => (hg.block r (Array.getElem?_eq_some_iff.1 hr).1 (by simp)).trans hr
  have kp : ∀ {base e size n} {v : Value} {xs : List Value}, W.ownsRow base e size v n xs → W'.ownsRow base e size v n xs := fun {base e size n v xs} ho => ho.kept hg (by cases v.ownBlock <;> simp)
  exact { h with
    d2 := fun a b => by obtain ⟨g, h1, h2, h3⟩ := h.d2 a b; exact ⟨g, h1, bl h2, h3⟩
    d3 := fun a => kp (h.d3 a)
    m3 := fun a => kp (h.m3 a)
    d6 := fun a b => by obtain ⟨g, h1, h2, h3⟩ := h.d6 a b; exact ⟨g, h1, bl h2, h3⟩
    d7 := fun a => kp (h.d7 a)
    m7 := fun a => kp (h.m7 a)
    c3 := bl h.c3
    c4 := bl h.c4
    f5 := bl h.f5
    f6 := bl h.f6
    oth := fun r h1 h2 h3 => (hg.block r (by omega) (by simp)).trans (h.oth r h1 h2 h3)
    os := hg.os.trans h.os
    tape := hg.tape.trans h.tape
    output := hg.output.trans h.output
    size := Nat.le_trans h.size hg.size }

theorem RegI.s0 (h : RegI B X w2 v u n L1 L2 n1 n2 S x20 x21 x22 x23 x24 x25 x26 x27 W) : RegI B X w2 v u n L1 L2 n1 n2 (ins 0 S) v x21 x22 x23 x24 x25 x26 x27 W :=
  { h with d0 := fun _ => rfl, k3 := fun _ => rfl }
theorem RegI.s1 (h : RegI B X w2 v u n L1 L2 n1 n2 S x20 x21 x22 x23 x24 x25 x26 x27 W) : RegI B X w2 v u n L1 L2 n1 n2 (ins 1 S) x20 (.agg n1.toArray) x22 x23 x24 x25 x26 x27 W :=
  { h with d1 := fun _ => rfl }
theorem RegI.s2 (h : RegI B X w2 v u n L1 L2 n1 n2 S x20 x21 x22 x23 x24 x25 x26 x27 W) (hs : B + 6 ≤ W.heap.size) (hx : X + 2 ≤ W.heap.size) :
    RegI B X w2 v u n L1 L2 n1 n2 (ins 2 S) x20 x21 (.slice (some ⟨W.heap.size, 0, none⟩) 1 1) x23 x24 x25 x26 x27 (W.alloc (.cells n1.toArray 40)) :=
  { h.fresh (World.grownBy_alloc W _ none) hs with d2 := fun _ _ => ⟨_, rfl, (MapKept.heap_alloc _ _).1, hx⟩ }
theorem RegI.s4 (h : RegI B X w2 v u n L1 L2 n1 n2 S x20 x21 x22 x23 x24 x25 x26 x27 W) : RegI B X w2 v u n L1 L2 n1 n2 (ins 4 S) x20 x21 x22 x23 u x25 x26 x27 W :=
  { h with d4 := fun _ => rfl, k7 := fun a => ⟨(h.k7 a).1, rfl⟩ }
theorem RegI.s5 (h : RegI B X w2 v u n L1 L2 n1 n2 S x20 x21 x22 x23 x24 x25 x26 x27 W) : RegI B X w2 v u n L1 L2 n1 n2 (ins 5 S) x20 x21 x22 x23 x24 (.agg n2.toArray) x26 x27 W :=
  { h with d5 := fun _ => rfl }
theorem RegI.s6 (h : RegI B X w2 v u n L1 L2 n1 n2 S x20 x21 x22 x23 x24 x25 x26 x27 W) (hs : B + 6 ≤ W.heap.size) (hx : X + 2 ≤ W.heap.size) :
    RegI B X w2 v u n L1 L2 n1 n2 (ins 6 S) x20 x21 x22 x23 x24 x25 (.slice (some ⟨W.heap.size, 0, none⟩) 1 1) x27 (W.alloc (.cells n2.toArray 83)) :=
  { h.fresh (World.grownBy_alloc W _ none) hs with d6 := fun _ _ => ⟨_, rfl, (MapKept.heap_alloc _ _).1, hx⟩ }
theorem RegI.s3 (h : RegI B X w2 v u n L1 L2 n1 n2 S x20 x21 x22 x23 x24 x25 x26 x27 W) (hs : B + 6 ≤ W.heap.size) (h0 : S 0 = true) (h3 : S 3 = false) {y : Value} (hown : W'.ownsRow (B + 6) 40 4 y (n + 1) (L1 ++ n1)) (hg : W.grownBy W' v.ownBlock) :
    RegI B X w2 v u n L1 L2 n1 n2 (ins 3 S) x20 x21 x22 y x24 x25 x26 x27 W' := by
  have h7 : S 7 = false := by
    cases h7 : S 7 with
    | false => rfl
    | true => have := (h.k7 h7).1; rw [h3] at this; cases this
  have h8 : S 8 = false := by
    cases h8 : S 8 with
    | false => rfl
    | true => have := h.k8 h8; rw [h7] at this; cases this
  have hm := h.m3 h3
  have bl : ∀ {r : Nat} {x : Obj}, W.heap[r]? = some x → (r < B + 6 ∨ X ≤ r) → W'.heap[r]? = some x := fun {r x} hr hb => (hg.block r (Array.getElem?_eq_some_iff.1 hr).1 (fun e => by
    have := h.vb r e.symm; have := (hm.lt r e.symm).1; omega)).trans hr
  have hc3 := h.c3
  rw [h8] at hc3
  exact { h with
    d2 := fun _ b => by cases b
    d3 := fun _ => hown
    m3 := fun b => by cases b
    d6 := fun a b => by obtain ⟨g, k1, k2, k3⟩ := h.d6 a b; exact ⟨g, k1, bl k2 (.inr (by omega)), k3⟩
    d7 := fun a => by have a' : S 7 = true := a; rw [h7] at a'; cases a'
    m7 := fun a => (h.m7 a).kept hg (own_apart (h.m7 a) hm (by decide))
    c3 := by
      show W'.heap[B + 1]? = some (.cells #[if S 8 = true then y else v] 37 (0, 0))
      rw [h8]; exact bl hc3 (.inl (by omega))
    c4 := bl h.c4 (.inl (by omega))
    k7 := fun a => ⟨rfl, (h.k7 a).2⟩
    k3 := fun _ => h0
    f5 := bl h.f5 (.inr (by omega))
    f6 := bl h.f6 (.inr (by omega))
    oth := fun r k1 k2 k3 => (hg.block r (by omega) (fun e => by have := (hm.lt r e.symm).1; omega)).trans (h.oth r k1 k2 k3)
    os := hg.os.trans h.os
    tape := hg.tape.trans h.tape
    output := hg.output.trans h.output
    size := Nat.le_trans h.size hg.size }
theorem RegI.s7 (h : RegI B X w2 v u n L1 L2 n1 n2 S x20 x21 x22 x23 x24 x25 x26 x27 W) (hs : B + 6 ≤ W.heap.size) (h3 : S 3 = true) (h4 : S 4 = true) (h7 : S 7 = false) {y : Value} (hown : W'.ownsRow (B + 6) 83 2 y (n + 1) (L2 ++ n2)) (hg : W.grownBy W' u.ownBlock) :
    RegI B X w2 v u n L1 L2 n1 n2 (ins 7 S) x20 x21 x22 x23 x24 x25 x26 y W' := by
  have h8 : S 8 = false := by
    cases h8 : S 8 with
    | false => rfl
    | true => have := h.k8 h8; rw [h7] at this; cases this
  have h9 : S 9 = false := by
    cases h9 : S 9 with
    | false => rfl
    | true => have := h.k9 h9; rw [h8] at this; cases this
  have hm := h.m7 h7
  have bl : ∀ {r : Nat} {x : Obj}, W.heap[r]? = some x → (r < B + 6 ∨ X ≤ r) → W'.heap[r]? = some x := fun {r x} hr hb => (hg.block r (Array.getElem?_eq_some_iff.1 hr).1 (fun e => by
    have := h.ub r e.symm; have := (hm.lt r e.symm).1; omega)).trans hr
  have hc4 := h.c4
  rw [h9] at hc4
  exact { h with
    d2 := fun _ b => by have b' : S 3 = false := b; rw [h3] at b'; cases b'
    d3 := fun a => (h.d3 a).kept hg (own_apart (h.d3 a) hm (by decide))
    m3 := fun b => by have b' : S 3 = false := b; rw [h3] at b'; cases b'
    d6 := fun _ b => by cases b
    d7 := fun _ => hown
    m7 := fun b => by cases b
    c3 := bl h.c3 (.inl (by omega))
    c4 := by
      show W'.heap[B + 2]? = some (.cells #[if S 9 = true then y else u] 91 (0, 0))
      rw [h9]; exact bl hc4 (.inl (by omega))
    k7 := fun _ => ⟨h3, h4⟩
    k8 := fun _ => rfl
    f5 := bl h.f5 (.inr (by omega))
    f6 := bl h.f6 (.inr (by omega))
    oth := fun r k1 k2 k3 => (hg.block r (by omega) (fun e => by have := (hm.lt r e.symm).1; omega)).trans (h.oth r k1 k2 k3)
    os := hg.os.trans h.os
    tape := hg.tape.trans h.tape
    output := hg.output.trans h.output
    size := Nat.le_trans h.size hg.size }
theorem RegI.s8 (h : RegI B X w2 v u n L1 L2 n1 n2 S x20 x21 x22 x23 x24 x25 x26 x27 W) (hX : B + 6 ≤ X) (h7 : S 7 = true) :
    RegI B X w2 v u n L1 L2 n1 n2 (ins 8 S) x20 x21 x22 x23 x24 x25 x26 x27 (W.setCell ⟨B + 1, 0, none⟩ x23) := by
  have h3 := (h.k7 h7).1
  have bl : ∀ r, r ≠ B + 1 → (W.setCell ⟨B + 1, 0, none⟩ x23).heap[r]? = W.heap[r]? := fun r hr => Below.heap_setCell _ _ _ _ hr
  exact { h with
    d2 := fun _ b => by have b' : S 3 = false := b; rw [h3] at b'; cases b'
    d3 := fun a => ownsRow_setCell_below (h.d3 a) (by simp) _
    m3 := fun b => by have b' : S 3 = false := b; rw [h3] at b'; cases b'
    d6 := fun _ b => by have b' : S 7 = false := b; rw [h7] at b'; cases b'
    d7 := fun a => ownsRow_setCell_below (h.d7 a) (by simp) _
    m7 := fun b => by have b' : S 7 = false := b; rw [h7] at b'; cases b'
    c3 := by
      show (W.setCell ⟨B + 1, 0, none⟩ x23).heap[B + 1]? = some (.cells #[x23] 37 (0, 0))
      rw [blk_set h.c3]; rfl
    c4 := (bl _ (by omega)).trans h.c4
    k8 := fun _ => h7
    k9 := fun _ => rfl
    f5 := (bl _ (by omega)).trans h.f5
    f6 := (bl _ (by omega)).trans h.f6
    oth := fun r k1 k2 k3 => (bl _ k2).trans (h.oth r k1 k2 k3)
    size := by simpa [World.setCell] using h.size }
theorem RegI.s9 (h : RegI B X w2 v u n L1 L2 n1 n2 S x20 x21 x22 x23 x24 x25 x26 x27 W) (hX : B + 6 ≤ X) (h8 : S 8 = true) :
    RegI B X w2 v u n L1 L2 n1 n2 (ins 9 S) x20 x21 x22 x23 x24 x25 x26 x27 (W.setCell ⟨B + 2, 0, none⟩ x27) := by
  have h7 := h.k8 h8
  have h3 := (h.k7 h7).1
  have bl : ∀ r, r ≠ B + 2 → (W.setCell ⟨B + 2, 0, none⟩ x27).heap[r]? = W.heap[r]? := fun r hr => Below.heap_setCell _ _ _ _ hr
  exact { h with
    d2 := fun _ b => by have b' : S 3 = false := b; rw [h3] at b'; cases b'
    d3 := fun a => ownsRow_setCell_below (h.d3 a) (by simp) _
    m3 := fun b => by have b' : S 3 = false := b; rw [h3] at b'; cases b'
    d6 := fun _ b => by have b' : S 7 = false := b; rw [h7] at b'; cases b'
    d7 := fun a => ownsRow_setCell_below (h.d7 a) (by simp) _
    m7 := fun b => by have b' : S 7 = false := b; rw [h7] at b'; cases b'
    c3 := (bl _ (by omega)).trans h.c3
    c4 := by
      show (W.setCell ⟨B + 2, 0, none⟩ x27).heap[B + 2]? = some (.cells #[x27] 91 (0, 0))
      rw [blk_set h.c4]; rfl
    k9 := fun _ => h8
    f5 := (bl _ (by omega)).trans h.f5
    f6 := (bl _ (by omega)).trans h.f6
    oth := fun r k1 k2 k3 => (bl _ k3).trans (h.oth r k1 k2 k3)
    size := by simpa [World.setCell] using h.size }
end
end Go.Proofs.YtdgfnlagbdmniaaDoor.Pl
