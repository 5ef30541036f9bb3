/- Numeric: numbers whose parts are whole: sums, differences, products are exact. -/
import Derived.Test.YtlbgpfddmkpakaaHa
import Derived.Test.YtlbgpfddmkpakaaDe
namespace Go.Proofs.Ytlbgpfddmkpakaa.Nu
open Ieee
set_option linter.unusedVariables false
set_option linter.unusedSimpArgs false
set_option exponentiation.threshold 1000

/-- The outcome of an operation is the whole number z. -/
def Wh (o : Option Nat) (z : Int) : Prop := ∃ r, o = some r ∧ Va 149 (single.read r) z
theorem Va.num {B : Nat} {d : Datum} {z : Int} (h : Va B d z) : d.isNaN = false := by
  obtain ⟨s, m, e, rfl, _⟩ := h
  rfl
theorem Wh.cb {o : Option Nat} {z : Int} (h : Wh o z) : Wh (canon (cb o)) z := by
  obtain ⟨r, rfl, hr⟩ := h
  exact ⟨r, canon_some hr.num, hr⟩
theorem Wh.cc {a : Nat} {z : Int} (h : Wh (canon a) z) : Wh (canon (cc a)) z := by rw [canon_cc]; exact h
theorem Wh.add {a b : Option Nat} {x y : Int} (ha : Wh a x) (hb : Wh b y) (hz : (x + y).natAbs ≤ 2 ^ 24) : Wh (fop .add a b) (x + y) := by
  obtain ⟨r, rfl, hr⟩ := ha
  obtain ⟨s, rfl, hs⟩ := hb
  obtain ⟨c, hc, hv⟩ := Va.sum hr hs
  refine ⟨single.write c, ?_, Va.write (hv.mono (by omega)) hz⟩
  show ((single.read r).sum (single.read s)).map single.write = _
  rw [hc]; rfl
theorem Wh.sub {a b : Option Nat} {x y : Int} (ha : Wh a x) (hb : Wh b y) (hz : (x - y).natAbs ≤ 2 ^ 24) : Wh (fop .sub a b) (x - y) := by
  obtain ⟨r, rfl, hr⟩ := ha
  obtain ⟨s, rfl, hs⟩ := hb
  obtain ⟨c, hc, hv⟩ := Va.sum hr hs.opp
  refine ⟨single.write c, ?_, Va.write ((show Va 149 c (x - y) by rw [Int.sub_eq_add_neg]; exact hv).mono (by omega)) hz⟩
  show ((single.read r).sum (single.read s).opposite).map single.write = _
  rw [hc]; rfl
theorem Wh.mul {a b : Option Nat} {x y : Int} (ha : Wh a x) (hb : Wh b y) (hz : (x * y).natAbs ≤ 2 ^ 24) : Wh (fop .mul a b) (x * y) := by
  obtain ⟨r, rfl, hr⟩ := ha
  obtain ⟨s, rfl, hs⟩ := hb
  obtain ⟨c, hc, hv⟩ := Va.product hr hs
  refine ⟨single.write c, ?_, Va.write hv hz⟩
  show ((single.read r).product (single.read s)).map single.write = _
  rw [hc]; rfl
/-- A number whose parts are the whole numbers x and y. -/
def Nb (p : Nat × Nat) (x y : Int) : Prop := Wh (canon p.1) x ∧ Wh (canon p.2) y
theorem Nb.add {p q : Nat × Nat} {a b c d : Int} (hp : Nb p a b) (hq : Nb q c d) (h1 : (a + c).natAbs ≤ 2 ^ 24) (h2 : (b + d).natAbs ≤ 2 ^ 24) : Nb (addc p q) (a + c) (b + d) :=
  ⟨(Wh.add hp.1 hq.1 h1).cb, (Wh.add hp.2 hq.2 h2).cb⟩
theorem Nb.sub {p q : Nat × Nat} {a b c d : Int} (hp : Nb p a b) (hq : Nb q c d) (h1 : (a - c).natAbs ≤ 2 ^ 24) (h2 : (b - d).natAbs ≤ 2 ^ 24) : Nb (subc p q) (a - c) (b - d) :=
  ⟨(Wh.sub hp.1 hq.1 h1).cb, (Wh.sub hp.2 hq.2 h2).cb⟩
theorem Nb.mul {p q : Nat × Nat} {a b c d : Int} (hp : Nb p a b) (hq : Nb q c d) (h1 : (a * c).natAbs ≤ 2 ^ 24) (h2 : (b * d).natAbs ≤ 2 ^ 24) (h3 : (a * d).natAbs ≤ 2 ^ 24) (h4 : (b * c).natAbs ≤ 2 ^ 24)
    (h5 : (a * c - b * d).natAbs ≤ 2 ^ 24) (h6 : (a * d + b * c).natAbs ≤ 2 ^ 24) : Nb (mulc p q) (a * c - b * d) (a * d + b * c) :=
  ⟨(Wh.sub (Wh.mul hp.1 hq.1 h1) (Wh.mul hp.2 hq.2 h2) h5).cb, (Wh.add (Wh.mul hp.1 hq.2 h3) (Wh.mul hp.2 hq.1 h4) h6).cb⟩
/-- Equal numbers compare equal, part by part. -/
theorem Nb.eq {p q : Nat × Nat} {a b : Int} (hp : Nb p a b) (hq : Nb q a b) : (single.read (Nu.cc p.1)).order (single.read (Nu.cc q.1)) = some .eq ∧ (single.read (Nu.cc p.2)).order (single.read (Nu.cc q.2)) = some .eq := by
  have key : ∀ {u v : Nat} {z : Int}, Wh (canon u) z → Wh (canon v) z → (single.read (Nu.cc u)).order (single.read (Nu.cc v)) = some .eq := by
    intro u v z h1 h2
    obtain ⟨r, e1, hr⟩ := h1
    obtain ⟨s, e2, hs⟩ := h2
    have c1 : Nu.cc u = r := by show Nu.cb (canon u) = r; rw [e1]; rfl
    have c2 : Nu.cc v = s := by show Nu.cb (canon v) = s; rw [e2]; rfl
    rw [c1, c2]
    exact Va.order hr hs
  exact ⟨key hp.1 hq.1, key hp.2 hq.2⟩
/-- A whole number, made single. -/
theorem nearest_whole (z : Int) (hz : z.natAbs ≤ 2 ^ 24) : Va 149 (single.read (single.nearest (decide (z < 0)) z.natAbs 0)) z := by
  have h := Va.write (d := .number (decide (z < 0)) z.natAbs 0) (z := z) ⟨_, _, _, rfl, by omega, ?_⟩ hz
  · exact h
  · rw [signed_eq]
    by_cases hn : z < 0
    · simp only [hn, decide_true, if_true]
      rw [show ((0 : Int) + (298 : Nat)).toNat = 298 by rfl, show ((z.natAbs : Nat) : Int) = -z by omega]
      simp
    · simp only [hn, decide_false]
      rw [show ((0 : Int) + (298 : Nat)).toNat = 298 by rfl, show ((z.natAbs : Nat) : Int) = z by omega]
      simp
end Go.Proofs.Ytlbgpfddmkpakaa.Nu
