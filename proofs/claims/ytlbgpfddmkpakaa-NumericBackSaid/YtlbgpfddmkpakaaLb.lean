/- Numeric: the operations with their values named; an operation of a drawn region that is wanted. -/
import Derived.Test.YtlbgpfddmkpakaaLa
import Derived.Test.YtlbgpfddmkpakaaKb
import Derived.Test.YtlbgpfddmkpakaaFd
namespace Go.Proofs.Ytlbgpfddmkpakaa.Nu
open Go.RowKit
set_option linter.unusedVariables false
set_option linter.unusedSimpArgs false
section
variable {F : Fence} {n : Nat} {P : Program} {ops : Array Oper} {Q : Exit → Act → World → Prop}
theorem op_wanted {i : Nat} {o : Oper} {K : Act → World → Prop} {a : Act} {w : World} (ho : ops[i]? = some o) (hw : Region.wanted o (yielded ops a.tmps) = true)
    (h : ∀ K' : Act → World → Prop, (∀ a w, K a w → K' a w) → Oper.wpIn F n P o a w K' Q) : wpOpIn F n P ops Q i K a w :=
  wpOpIn_step ho fun K' hK => by rw [if_pos hw]; exact h K' hK
/-- An operation whose value is known. -/
theorem wpIn_val {o : Oper} {a : Act} {w : World} {K : Act → World → Prop} {v : Value} (hab : ∀ f, o.about P w a.eval = some f → F.fn f) (h : (o.semAt F.round a.eval).run P w = .ok (.value v) w) (hK : K (a.put o.dst v) w) : Oper.wpIn F n P o a w K Q :=
  ⟨hab, by rw [h]; exact hK⟩
end
/-- What a call answers, its number named. -/
def Det (f : Nat) (args : Array Value) (v : Value) : Prop := ∀ w, Calls Try.prog f args w fun e w' => e = .returned v ∧ Below w.heap.size w w'
variable {a b c d u v : Nat}
theorem det_add (h : (u, v) = addc (a, b) (c, d)) : Det 14 #[.agg #[.int .u32 a, .int .u32 b], .agg #[.int .u32 c, .int .u32 d]] (.agg #[.int .u32 u, .int .u32 v]) := fun w => by
  refine (addc_at a b c d w).mono fun e w' ⟨x, y, he, hp, hb⟩ => ?_
  obtain ⟨rfl, rfl⟩ := Prod.mk.inj (hp.trans h.symm)
  exact ⟨he, hb⟩
theorem det_sub (h : (u, v) = subc (a, b) (c, d)) : Det 15 #[.agg #[.int .u32 a, .int .u32 b], .agg #[.int .u32 c, .int .u32 d]] (.agg #[.int .u32 u, .int .u32 v]) := fun w => by
  refine (subc_at a b c d w).mono fun e w' ⟨x, y, he, hp, hb⟩ => ?_
  obtain ⟨rfl, rfl⟩ := Prod.mk.inj (hp.trans h.symm)
  exact ⟨he, hb⟩
theorem det_mul (h : (u, v) = mulc (a, b) (c, d)) : Det 10 #[.agg #[.int .u32 a, .int .u32 b], .agg #[.int .u32 c, .int .u32 d]] (.agg #[.int .u32 u, .int .u32 v]) := fun w => by
  refine (pmulc_at a b c d w).mono fun e w' ⟨x, y, he, hp, hb⟩ => ?_
  obtain ⟨rfl, rfl⟩ := Prod.mk.inj (hp.trans h.symm)
  exact ⟨he, hb⟩
/-- The quotient of two numbers. -/
def dvc (x y : Nat × Nat) : Nat × Nat := (cb (divRe x.1 x.2 y.1 y.2), cb (divIm x.1 x.2 y.1 y.2))
theorem det_div (h : (u, v) = dvc (a, b) (c, d)) : Det 16 #[.agg #[.int .u32 a, .int .u32 b], .agg #[.int .u32 c, .int .u32 d]] (.agg #[.int .u32 u, .int .u32 v]) := fun w => by
  obtain ⟨h1, h2⟩ := Prod.mk.inj h
  have hc := div_at a b c d w
  dsimp only at h1 h2
  rw [← h1, ← h2] at hc
  exact hc
theorem det_of {p q : Int} (h : (u, v) = nw p q) : Det 8 #[.int .i64 p, .int .i64 q] (.agg #[.int .u32 u, .int .u32 v]) := fun w => by
  have := nw_at p q w
  rw [← h] at this
  exact this
theorem det_eq {x y : Int} (hp : Nb (a, b) x y) (hq : Nb (c, d) x y) : Det 13 #[.agg #[.int .u32 a, .int .u32 b], .agg #[.int .u32 c, .int .u32 d]] (.bool true) := fun w => equal_at a b c d x y hp hq w
theorem is_add {p q r s x y : Int} (h : (u, v) = addc (a, b) (c, d)) (h1 : Nb (a, b) p q) (h2 : Nb (c, d) r s) (hx : p + r = x) (hy : q + s = y) (bx : x.natAbs ≤ 2 ^ 24) (by' : y.natAbs ≤ 2 ^ 24) : Nb (u, v) x y := by
  subst hx hy; rw [h]; exact Nb.add h1 h2 bx by'
theorem is_sub {p q r s x y : Int} (h : (u, v) = subc (a, b) (c, d)) (h1 : Nb (a, b) p q) (h2 : Nb (c, d) r s) (hx : p - r = x) (hy : q - s = y) (bx : x.natAbs ≤ 2 ^ 24) (by' : y.natAbs ≤ 2 ^ 24) : Nb (u, v) x y := by
  subst hx hy; rw [h]; exact Nb.sub h1 h2 bx by'
theorem is_mul {p q r s x y : Int} (A B : Nat) (h : (u, v) = mulc (a, b) (c, d)) (h1 : Nb (a, b) p q) (h2 : Nb (c, d) r s) (b1 : p.natAbs ≤ A ∧ q.natAbs ≤ A) (b2 : r.natAbs ≤ B ∧ s.natAbs ≤ B) (hAB : 2 * (A * B) ≤ 2 ^ 24) (hx : p * r - q * s = x) (hy : p * s + q * r = y) : Nb (u, v) x y := by
  rw [h]; exact h1.mulB h2 b1.1 b1.2 b2.1 b2.2 hAB hx hy
theorem is_of {p q : Int} (h : (u, v) = nw p q) (b1 : p.natAbs ≤ 2 ^ 24) (b2 : q.natAbs ≤ 2 ^ 24) : Nb (u, v) p q := by rw [h]; exact nw_nb b1 b2
theorem is_div {p q : Int} {k : Nat} (h : (u, v) = dvc (a, b) (c, d)) (hk : k ≤ 7) (hn : nw ((2 ^ k : Nat) : Int) 0 = (c, d)) (h1 : Nb (a, b) (p * 2 ^ k) (q * 2 ^ k)) (b1 : p.natAbs ≤ 1000 ∧ q.natAbs ≤ 1000) : Nb (u, v) p q := by
  have := Nb.div_two hk b1.1 b1.2 h1
  rw [hn] at this
  rw [h]
  exact this
/-- A call whose answer is known. -/
theorem wpIn_det {n : Nat} {o : Oper} {a : Act} {w : World} {K : Act → World → Prop} {Q : Exit → Act → World → Prop} {f : FuncId} {args : Array Value} {v : Value} (h : (o.semAt Fence.wide.round a.eval).run Try.prog w = .ok (.enter f args) w) (hd : Det f args v)
    (hK : ∀ w', Below w.heap.size w w' → K (a.put o.dst v) w') : Oper.wpIn Fence.wide n Try.prog o a w K Q := by
  refine ⟨fun _ _ => trivial, ?_⟩
  rw [h, Oper.uponIn_enter]
  refine ⟨(fun h => by cases h), ?_⟩
  refine (callsIn_wide.2 (hd w)).mono ?_
  rintro e w' ⟨rfl, hb⟩
  exact hK w' hb
theorem det_awake : Det 17 #[] (.bool true) := fun w => awake_at w
end Go.Proofs.Ytlbgpfddmkpakaa.Nu
