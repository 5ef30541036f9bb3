/- Numeric: floats, up to which of the numbers that are none a number is. -/
import Derived.Test.YtlbgpfddmkpakaaRows
import Derived.WalkKit
import Derived.WalkSpells
import Derived.WalkLawsBesides
import Derived.BigQuiet
import Derived.RegionTactic
import Derived.BigRegion
import Derived.ChangeAlike
import Derived.Deep.QuietTactic
import Derived.Deep.RegionHeld3
import Derived.Deep.Cut
import Derived.Deep.CutRange
import Derived.MapKept
import Derived.Lib.Hide
import Derived.Laws.FloatArith
import Derived.Laws.Externs
namespace Go.Proofs.Ytlbgpfddmkpakaa.Nu
open Go.RowKit
set_option linter.unusedVariables false
set_option linter.unusedSimpArgs false

/-! ### Words of a format -/
theorem word_mod {f : Ieee.Format} (neg : Bool) {rung : Nat} (h : rung < f.signWeight) : f.word neg rung % f.signWeight = rung := by
  unfold Ieee.Format.word
  split
  · rw [Nat.add_mod_left, Nat.mod_eq_of_lt h]
  · exact Nat.mod_eq_of_lt h
theorem read_small {f : Ieee.Format} {w : Nat} (h : w % f.signWeight ≤ f.infRung) : (f.read w).isNaN = false := by
  unfold Ieee.Format.read
  dsimp only
  split
  · rfl
  · split
    · rfl
    · split
      · rfl
      · omega
theorem nearest_num (f : Ieee.Format) (neg : Bool) (mag : Nat) (place : Int) : (f.read (f.nearest neg mag place)).isNaN = false := by
  apply read_small
  unfold Ieee.Format.nearest
  dsimp only
  split
  · rw [word_mod neg (Nat.two_pow_pos _)]; omega
  · rw [word_mod neg (Nat.lt_of_le_of_lt (Nat.min_le_right ..) f.infRung_lt)]; exact Nat.min_le_right ..
theorem write_num (f : Ieee.Format) {d : Ieee.Datum} (h : d.isNaN = false) : (f.read (f.write d)).isNaN = false := by
  cases d with
  | number s m e => exact nearest_num f s m e
  | infinity s => exact read_small (by show f.word s f.infRung % _ ≤ _; rw [word_mod s f.infRung_lt]; omega)
  | nan s t => cases h
theorem sum_num {a b c : Ieee.Datum} (h : a.sum b = some c) : c.isNaN = false := by
  cases a <;> cases b <;> simp only [Ieee.Datum.sum] at h
  · injection h with h; subst h; rfl
  · injection h with h; subst h; rfl
  · cases h
  · injection h with h; subst h; rfl
  · split at h
    · injection h with h; subst h; rfl
    · cases h
  all_goals cases h
theorem product_num {a b c : Ieee.Datum} (h : a.product b = some c) : c.isNaN = false := by
  cases a <;> cases b <;> simp only [Ieee.Datum.product] at h
  · injection h with h; subst h; rfl
  · split at h
    · cases h
    · injection h with h; subst h; rfl
  · cases h
  · split at h
    · cases h
    · injection h with h; subst h; rfl
  · injection h with h; subst h; rfl
  all_goals cases h
theorem quotient_num {n : Nat} {a b c : Ieee.Datum} (h : a.quotient n b = some c) : c.isNaN = false := by
  cases a <;> cases b <;> simp only [Ieee.Datum.quotient] at h
  · split at h
    · split at h
      · cases h
      · injection h with h; subst h; rfl
    · injection h with h; subst h; rfl
  · injection h with h; subst h; rfl
  · cases h
  · injection h with h; subst h; rfl
  · cases h
  all_goals cases h

/-! ### Floats up to their NaN -/
def canon (r : Nat) : Option Nat := if (Ieee.single.read r).isNaN then none else some r
def cb (o : Option Nat) : Nat := o.getD 2143289344
def fop (op : BinOp) (a b : Option Nat) : Option Nat := a.bind fun x => b.bind fun y => floatBits op .f32 x y
theorem canon_some {r : Nat} (h : (Ieee.single.read r).isNaN = false) : canon r = some r := by simp [canon, h]
theorem canon_none {r : Nat} (h : (Ieee.single.read r).isNaN = true) : canon r = none := by simp [canon, h]
theorem nan_cut (t x y : Nat) : (Ieee.single.read ((Question.nanBits .f32 x y).cut t)).isNaN = true ∧ (Question.nanBits .f32 x y).cut t < 2 ^ 32 := by
  have e : (Question.nanBits .f32 x y).cut t = (t % 2) * 2 ^ 31 + 0x7f800000 + 1 + (t / 2) % (2 ^ 23 - 1) := rfl
  have h1 : t % 2 < 2 := Nat.mod_lt _ (by decide)
  have h2 : (t / 2) % (2 ^ 23 - 1) < 2 ^ 23 - 1 := Nat.mod_lt _ (by decide)
  rw [e]
  generalize t % 2 = a at *
  generalize (t / 2) % (2 ^ 23 - 1) = b at *
  refine ⟨?_, by omega⟩
  have hs : Ieee.single.signWeight = 2147483648 := rfl
  have hi : Ieee.single.infRung = 2139095040 := rfl
  have hb : Ieee.single.binade = 8388608 := rfl
  unfold Ieee.Format.read
  dsimp only
  rw [hs, hi, hb]
  have hm : (a * 2 ^ 31 + 2139095040 + 1 + b) % 2147483648 = 2139095041 + b := by omega
  rw [show (0x7f800000 : Nat) = 2139095040 from rfl, hm, if_neg (by omega), if_neg (by omega), if_neg (by omega)]
  rfl
theorem arith_nan {op : BinOp} (hop : op = .add ∨ op = .sub ∨ op = .mul ∨ op = .quo) (x y : Nat) (h : (Ieee.single.read x).isNaN = true ∨ (Ieee.single.read y).isNaN = true) : floatBits op .f32 x y = none := by
  have key : ∀ d e : Ieee.Datum, (d.isNaN = true ∨ e.isNaN = true) → d.sum e = none ∧ d.sum e.opposite = none ∧ d.product e = none ∧ ∀ n, d.quotient n e = none := by
    intro d e hde
    cases d <;> cases e <;> simp_all [Ieee.Datum.isNaN, Ieee.Datum.sum, Ieee.Datum.product, Ieee.Datum.quotient, Ieee.Datum.opposite]
  obtain ⟨k1, k2, k3, k4⟩ := key _ _ h
  rcases hop with rfl | rfl | rfl | rfl
  · show ((Ieee.single.read x).sum (Ieee.single.read y)).map _ = none; rw [k1]; rfl
  · show ((Ieee.single.read x).sum (Ieee.single.read y).opposite).map _ = none; rw [k2]; rfl
  · show ((Ieee.single.read x).product (Ieee.single.read y)).map _ = none; rw [k3]; rfl
  · show ((Ieee.single.read x).quotient _ (Ieee.single.read y)).map _ = none; rw [k4]; rfl
theorem arith_num {op : BinOp} (hop : op = .add ∨ op = .sub ∨ op = .mul ∨ op = .quo) {x y r : Nat} (h : floatBits op .f32 x y = some r) : (Ieee.single.read r).isNaN = false := by
  rcases hop with rfl | rfl | rfl | rfl
  · obtain ⟨d, h1, rfl⟩ := Option.map_eq_some_iff.1 (show ((Ieee.single.read x).sum (Ieee.single.read y)).map Ieee.single.write = some r from h)
    exact write_num _ (sum_num h1)
  · obtain ⟨d, h1, rfl⟩ := Option.map_eq_some_iff.1 (show ((Ieee.single.read x).sum (Ieee.single.read y).opposite).map Ieee.single.write = some r from h)
    exact write_num _ (sum_num h1)
  · obtain ⟨d, h1, rfl⟩ := Option.map_eq_some_iff.1 (show ((Ieee.single.read x).product (Ieee.single.read y)).map Ieee.single.write = some r from h)
    exact write_num _ (product_num h1)
  · obtain ⟨d, h1, rfl⟩ := Option.map_eq_some_iff.1 (show ((Ieee.single.read x).quotient _ (Ieee.single.read y)).map Ieee.single.write = some r from h)
    exact write_num _ (quotient_num h1)
theorem fop_bits {op : BinOp} (hop : op = .add ∨ op = .sub ∨ op = .mul ∨ op = .quo) (x y : Nat) : fop op (canon x) (canon y) = floatBits op .f32 x y := by
  cases hx : (Ieee.single.read x).isNaN with
  | true => rw [canon_none hx, arith_nan hop x y (.inl hx)]; rfl
  | false =>
    cases hy : (Ieee.single.read y).isNaN with
    | true => rw [canon_none hy, arith_nan hop x y (.inr hy), canon_some hx]; rfl
    | false => rw [canon_some hx, canon_some hy]; rfl
/-- An operation on floats, valid or not. -/
theorem fop_run {op : BinOp} (hop : op = .add ∨ op = .sub ∨ op = .mul ∨ op = .quo) (t : TypeId) (x y : Nat) (w : World) :
    ∃ r w', (binOp op t (.float .f32 x) (.float .f32 y)).run Try.prog w = .ok (.float .f32 r) w' ∧ r < 2 ^ 32 ∧ canon r = fop op (canon x) (canon y) ∧ (w' = w ∨ w' = w.drew) := by
  rw [fop_bits hop]
  cases h : floatBits op .f32 x y with
  | some r =>
    refine ⟨r, w, run_float_arith w op t .f32 x y r h, ?_, canon_some (arith_num hop h), .inl rfl⟩
    have := floatBits_wf h
    simpa [Lit.wf] using this
  | none =>
    obtain ⟨h1, h2⟩ := nan_cut (w.tape w.drawn (.nanBits .f32 x y)) x y
    refine ⟨_, w.drew, ?_, h2, canon_none h1, .inr rfl⟩
    unfold floatBits at h
    rcases hop with rfl | rfl | rfl | rfl <;> simp only at h <;> simp [binOp, Op.floatArith, h, Question.forced]
end Go.Proofs.Ytlbgpfddmkpakaa.Nu
