/- MailboxOrder: plainly, and what its walk needs. -/
import Derived.Test.YtgbafpjeapkklaaNf
import Derived.Deep.RegionHeld3
namespace Go.Proofs.Ytgbafpjeapkklaa.Mb
open Go.RowKit
set_option linter.unusedVariables false
set_option linter.unusedSimpArgs false

/-- A list of operations in memory. -/
def OpsS (w : World) (v : Value) (l : List (Int × Int × Int)) : Prop :=
  ∃ p cap, v = .slice p l.length cap ∧ (l = [] ∨ ∃ g off, p = some ⟨g, off, none⟩ ∧ g < w.heap.size ∧
    ∀ (k : Nat) (x : Int × Int × Int), l[k]? = some x → w.cell? ⟨g, off + k * 3, none⟩ = some (.int .i8 x.1) ∧ w.cell? ⟨g, off + k * 3 + 1, none⟩ = some (.int .i8 x.2.1) ∧ w.cell? ⟨g, off + k * 3 + 2, none⟩ = some (.int .i8 x.2.2))

/-- The loop's memory. -/
def OL (w : World) (X i : Nat) (s4 s5 s6 : Value) (W : World) : Prop :=
  ∃ q ns ps p4 c4 p5 c5, WF q ∧ q.m ≤ i ∧ s6 = .bool q.empty ∧ s4 = .slice p4 q.m c4 ∧ s5 = .slice p5 q.done c5 ∧
    TR w X ns ps q X ns ps q (.slice p4 q.m c4) q.m (q.took 0 q.m) (.slice p5 q.done c5) q.done (q.took 0 q.done) [] W

theorem took_add (q : Q) (a b : Nat) : q.took 0 (a + b) = q.took 0 a ++ q.took a b := by
  simp [Q.took, List.range_add]
theorem took_all {q : Q} (h : q.done ≤ q.m) : q.took 0 q.done ++ q.took q.done (q.m - q.done) = q.took 0 q.m := by
  rw [← took_add]
  congr 1
  omega
theorem beg_took (q : Q) (p x : Int) {k : Nat} (h : k ≤ q.m) : (q.beg p x).took 0 k = q.took 0 k := by
  simp only [Q.took]
  apply List.map_congr_left
  intro j hj
  have hj := List.mem_range.1 hj
  have : j < q.vals.length := by have : q.m = q.vals.length := rfl; omega
  simp [Q.val, Q.beg, List.getElem?_append_left this]
theorem beg_puts (q : Q) (p x : Int) : (q.beg p x).took 0 (q.beg p x).m = q.took 0 q.m ++ [x] := by
  rw [beg_m, took_add, beg_took q p x (Nat.le_refl _)]
  have : q.m = q.vals.length := rfl
  simp [Q.took, Q.val, Q.beg, this]
theorem batch_wf {q : Q} (hq : WF q) : ∀ n d, q.done ≤ d → d ≤ q.m → (∀ j, 1 ≤ j → j ≤ d → q.isOpen j = false) → d + q.pops n d ≤ q.m ∧ ∀ j, 1 ≤ j → j ≤ d + q.pops n d → q.isOpen j = false := by
  intro n
  induction n with
  | zero => intro d h1 h2 h3; exact ⟨by simpa [Q.pops] using h2, fun j a b => h3 j a (by simpa [Q.pops] using b)⟩
  | succ n ih =>
    intro d h1 h2 h3
    rw [Q.pops]
    by_cases hc : q.can d = true
    · rw [if_pos hc]
      unfold Q.can at hc
      simp at hc
      have := ih (d + 1) (by omega) (by omega) (fun j a b => by
        by_cases e : j = d + 1
        · subst e; exact hc.2
        · exact h3 j a (by omega))
      rw [show d + (q.pops n (d + 1) + 1) = d + 1 + q.pops n (d + 1) by omega]
      exact this
    · rw [if_neg hc]
      exact ⟨by omega, fun j a b => h3 j a (by omega)⟩
theorem batch_wf' {q : Q} (hq : WF q) (n : Nat) : WF { q with done := q.done + q.pops n q.done } := by
  obtain ⟨h1, h2⟩ := batch_wf hq n q.done (Nat.le_refl _) hq.done hq.linked
  exact ⟨hq.few, hq.fewo, hq.prod, hq.sorted, hq.opn, h1, h2, fun h => by have := hq.mt h; have h1' : q.done + q.pops n q.done ≤ q.m := h1; show q.done + q.pops n q.done = q.m; omega⟩
theorem mark_wf {q : Q} (hq : WF q) : WF { q with empty := decide (q.done = q.m) } :=
  ⟨hq.few, hq.fewo, hq.prod, hq.sorted, hq.opn, hq.done, hq.linked, fun h => of_decide_eq_true h⟩
theorem done_free {q : Q} : ∀ {o : Int × Nat} {p : Int}, o ∈ q.opn → o.1 = p → ∃ (i : Nat) (j : Nat), q.opn[i]? = some (p, j) := by
  rintro o p ho rfl
  obtain ⟨i, hi, e⟩ := List.getElem_of_mem ho
  exact ⟨i, o.2, by simp [hi, e]⟩

theorem step_TRm {ops : Array Oper} {o : Oper} {a : Act} {W : World} {K : Act → World → Prop} {Q : Exit → Act → World → Prop} {E : Prop}
    {w : World} {X : Nat} {ns ps : Value} {q : Mb.Q} {Y : Nat} {ns2 ps2 : Value} {q2 : Mb.Q} {u : Value} {n : Nat} {xs : List Int} {v : Value} {m : Nat} {ys : List Int} {fr : List (Nat × Int)}
    (h : TR w X ns ps q Y ns2 ps2 q2 u n xs v m ys fr W) {z : Value} {k B : Nat} {zs : List Int} (hz : W.ownsRow B 3 1 z k (ints zs)) (hg : o.guard = none) (s x : Operand) (hop : o.op = Op.call { callee := Callee.builtin Builtin.append, args := #[s, x], argTypes := #[30, 30] })
    (hs : a.eval s = v) (hx : a.eval x = z) (hn : m + k ≤ 100000)
    (hK : ∀ p c w', TR w X ns ps q Y ns2 ps2 q2 u n xs (.slice p (m + k) c) (m + k) (ys ++ zs) fr w' → K (a.put o.dst (.slice p (m + k) c)) w') :
    if Region.wanted o (yielded ops a.tmps) = true then Oper.wp Try.prog o a W K Q else E := by
  obtain ⟨u', W', hr, ho, hgr, hb, p, c, rfl⟩ := run_append_many W o.type h.o2 hz hn h.sb.below.size
  exact step_append_run hg s x 30 hop _ _ hs hx hr (hK p c W' (h.re2 hgr ho hb))
theorem wpList_append_want {P : Program} (w : World) {ops : Array Oper} {rest : List Oper} {o : Oper} {a : Act} {Q : Exit → Act → World → Prop} (hw : Region.wanted o (yielded ops a.tmps) = true) (s x : Operand) (t tn : TypeId)
    (ho : o.op = .call { callee := .builtin .append, args := #[s, x], argTypes := #[t, tn] }) (vs vx : Value) (hs : a.eval s = vs) (hx : a.eval x = vx)
    (v' : Value) (w' : World) (hr : (Builtin.append_ #[t, tn] o.type #[vs, vx]).run P w = .ok v' w') (h : wpList P ops Q rest (a.put o.dst v') w') : wpList P ops Q (o :: rest) a w := by
  unfold wpList
  rw [if_pos hw]
  exact .inl (Lib.wp_append_run w s x t tn ho vs vx hs hx v' w' hr h)
/-- What kind an operation is. -/
theorem kind_of (x : Int) (h1 : -128 ≤ x) (h2 : x ≤ 127) : ∃ (r : Int) (kk : Nat), x.tmod 6 = r ∧ -6 < r ∧ r < 6 ∧ (r + 6).tmod 6 = (kk : Int) ∧ kk < 6 := by
  have e : x.tmod 6 = x - 6 * x.tdiv 6 := by have := Int.tmod_add_mul_tdiv x 6; omega
  have b1 : x.tmod 6 < 6 := Int.tmod_lt_of_pos x (by decide)
  have b2 : -6 < x.tmod 6 := Int.lt_tmod_of_pos x (by decide)
  refine ⟨x.tmod 6, ((x.tmod 6 + 6).tmod 6).toNat, rfl, b2, b1, ?_, ?_⟩
  · have := Int.tmod_nonneg (a := x.tmod 6 + 6) 6 (by omega); omega
  · have := Int.tmod_lt_of_pos (x.tmod 6 + 6) (b := 6) (by decide)
    have := Int.tmod_nonneg (a := x.tmod 6 + 6) 6 (by omega); omega
end Go.Proofs.Ytgbafpjeapkklaa.Mb
