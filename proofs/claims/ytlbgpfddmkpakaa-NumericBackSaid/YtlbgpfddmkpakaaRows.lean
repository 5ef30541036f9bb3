/-
  No cell of these rows narrows 'for every input' (looked for: loops, veiled, ifaces, maps, wideKeys, modest, calm, conditions, laid).
  DERIVED. THE GIVEN ROWS OF THIS SEAT. 5 by the template 'for every input the law returns true; each argument reads behind the call as it read before'; 0 by the template 'total and deterministic' (their statements: YtlbgpfddmkpakaaTotals.lean).
  GIVEN WITH THE SEED: the statements are not yours to turn. If you find one false, say at which input.
  Laid BY PROGRAM, IN A SANDBOX (cutbox-rows.mjs): the forced cells as the released guide's own fill.sh prints them over the translation c735b676938ca59d… (all of the seat's roots in one cut). By AI agents, Wed Nov 11 2026. No macro, syntax, notation, axiom, sorry.
-/
import Derived.Test.YtlbgpfddmkpakaaChecked
import GoSem.Claim
import GoSem.ClaimJoined
import GoSem.ClaimMapViews
import Derived.JoinedTies
import Derived.KernelRfl
namespace Go.Proofs.Ytlbgpfddmkpakaa
/- THE CELL 'sum', in the pinned program and in every row, IS THE sha256 OF THE DUMP (.gsa) THAT YtlbgpfddmkpakaaProg.lean LOADS. Nothing in Lean hashes anything: it is a label: what it is worth is what the hold of that sum in a sandbox is worth. -/
noncomputable def Try.pinned : Pinned := { name := "ytlbgpfddmkpakaa", sum := "c735b676938ca59dbe8b1cd451656f8a2feb84e7c783ab87b3b436033b7fb430", checked := Try.checked }
namespace Rows
def none {H : Type} : Left H := { results := [], args := [] }

/-- 'hackamorelaw16.NumericSmall': WHATEVER THE INPUT: true; the input reads as it did. -/
def numericSmallSpec : ChangeSpec := { name := "numericSmall", fn := fun _ => fun
  | [d1, d2, d3, d4] => { results := [.lit (.bool true)], args := [d1, d2, d3, d4] }
  | _ => none }
def numericSmallRow : OpenClaim := { program := "ytlbgpfddmkpakaa", sum := "c735b676938ca59dbe8b1cd451656f8a2feb84e7c783ab87b3b436033b7fb430", func := "hackamore/hackamorelaw16.NumericSmall", spec := "numericSmall", inPlace := ["math.Float32bits", "math.Float32frombits", "math.sqrt"], unfollowed := true, recurses := true, apart := false }
def NumericSmallSaid : Prop := numericSmallRow.holds Try.pinned (OpenSpec.ofChange numericSmallSpec)

/-- ITS FALSE NEIGHBOUR: 'it returns false'. Refute it at one input. -/
def numericSmallWrong : ChangeSpec := { name := "numericSmall", fn := fun _ => fun
  | [d1, d2, d3, d4] => { results := [.lit (.bool false)], args := [d1, d2, d3, d4] }
  | _ => none }
def NumericSmallWrongFalsely : Prop := numericSmallRow.holds Try.pinned (OpenSpec.ofChange numericSmallWrong)

/-- 'hackamorelaw16.NumericTransforms': WHATEVER THE INPUT: true; the input reads as it did. -/
def numericTransformsSpec : ChangeSpec := { name := "numericTransforms", fn := fun _ => fun
  | [d1, d2, d3, d4] => { results := [.lit (.bool true)], args := [d1, d2, d3, d4] }
  | _ => none }
def numericTransformsRow : OpenClaim := { program := "ytlbgpfddmkpakaa", sum := "c735b676938ca59dbe8b1cd451656f8a2feb84e7c783ab87b3b436033b7fb430", func := "hackamore/hackamorelaw16.NumericTransforms", spec := "numericTransforms", inPlace := ["math.Float32bits", "math.Float32frombits", "math.sqrt"], unfollowed := true, recurses := true, apart := false }
def NumericTransformsSaid : Prop := numericTransformsRow.holds Try.pinned (OpenSpec.ofChange numericTransformsSpec)

/-- ITS FALSE NEIGHBOUR: 'it returns false'. Refute it at one input. -/
def numericTransformsWrong : ChangeSpec := { name := "numericTransforms", fn := fun _ => fun
  | [d1, d2, d3, d4] => { results := [.lit (.bool false)], args := [d1, d2, d3, d4] }
  | _ => none }
def NumericTransformsWrongFalsely : Prop := numericTransformsRow.holds Try.pinned (OpenSpec.ofChange numericTransformsWrong)

/-- 'hackamorelaw16.NumericPolynomials': WHATEVER THE INPUT: true; the input reads as it did. -/
def numericPolynomialsSpec : ChangeSpec := { name := "numericPolynomials", fn := fun _ => fun
  | [d1, d2, d3] => { results := [.lit (.bool true)], args := [d1, d2, d3] }
  | _ => none }
def numericPolynomialsRow : OpenClaim := { program := "ytlbgpfddmkpakaa", sum := "c735b676938ca59dbe8b1cd451656f8a2feb84e7c783ab87b3b436033b7fb430", func := "hackamore/hackamorelaw16.NumericPolynomials", spec := "numericPolynomials", inPlace := ["math.Float32bits", "math.Float32frombits", "math.sqrt"], unfollowed := true, recurses := true, apart := false }
def NumericPolynomialsSaid : Prop := numericPolynomialsRow.holds Try.pinned (OpenSpec.ofChange numericPolynomialsSpec)

/-- ITS FALSE NEIGHBOUR: 'it returns false'. Refute it at one input. -/
def numericPolynomialsWrong : ChangeSpec := { name := "numericPolynomials", fn := fun _ => fun
  | [d1, d2, d3] => { results := [.lit (.bool false)], args := [d1, d2, d3] }
  | _ => none }
def NumericPolynomialsWrongFalsely : Prop := numericPolynomialsRow.holds Try.pinned (OpenSpec.ofChange numericPolynomialsWrong)

/-- 'hackamorelaw16.NumericProducts': WHATEVER THE INPUT: true; the input reads as it did. -/
def numericProductsSpec : ChangeSpec := { name := "numericProducts", fn := fun _ => fun
  | [d1, d2, d3, d4, d5] => { results := [.lit (.bool true)], args := [d1, d2, d3, d4, d5] }
  | _ => none }
def numericProductsRow : OpenClaim := { program := "ytlbgpfddmkpakaa", sum := "c735b676938ca59dbe8b1cd451656f8a2feb84e7c783ab87b3b436033b7fb430", func := "hackamore/hackamorelaw16.NumericProducts", spec := "numericProducts", inPlace := ["math.Float32bits", "math.Float32frombits", "math.sqrt"], unfollowed := true, recurses := true, apart := false }
def NumericProductsSaid : Prop := numericProductsRow.holds Try.pinned (OpenSpec.ofChange numericProductsSpec)

/-- ITS FALSE NEIGHBOUR: 'it returns false'. Refute it at one input. -/
def numericProductsWrong : ChangeSpec := { name := "numericProducts", fn := fun _ => fun
  | [d1, d2, d3, d4, d5] => { results := [.lit (.bool false)], args := [d1, d2, d3, d4, d5] }
  | _ => none }
def NumericProductsWrongFalsely : Prop := numericProductsRow.holds Try.pinned (OpenSpec.ofChange numericProductsWrong)

/-- 'hackamorelaw16.NumericBack': WHATEVER THE INPUT: true; the input reads as it did. -/
def numericBackSpec : ChangeSpec := { name := "numericBack", fn := fun _ => fun
  | [d1, d2, d3] => { results := [.lit (.bool true)], args := [d1, d2, d3] }
  | _ => none }
def numericBackRow : OpenClaim := { program := "ytlbgpfddmkpakaa", sum := "c735b676938ca59dbe8b1cd451656f8a2feb84e7c783ab87b3b436033b7fb430", func := "hackamore/hackamorelaw16.NumericBack", spec := "numericBack", inPlace := ["math.Float32bits", "math.Float32frombits", "math.sqrt"], unfollowed := true, recurses := true, apart := false }
def NumericBackSaid : Prop := numericBackRow.holds Try.pinned (OpenSpec.ofChange numericBackSpec)

/-- ITS FALSE NEIGHBOUR: 'it returns false'. Refute it at one input. -/
def numericBackWrong : ChangeSpec := { name := "numericBack", fn := fun _ => fun
  | [d1, d2, d3] => { results := [.lit (.bool false)], args := [d1, d2, d3] }
  | _ => none }
def NumericBackWrongFalsely : Prop := numericBackRow.holds Try.pinned (OpenSpec.ofChange numericBackWrong)

/- THE SECOND FORM. 'bulk': how many values and letters a reading holds, each counted each time it is reached (what is shared counts as often as it is met; a slice's spare places count too). A statement '..UptoSaid' is the law's where the arguments, and the package variables that the reading takes, are together of bulk at most 1048576: NARROWER than '..Said'. Prove '..Said' where nothing that the law and all that it calls make is longer than what came in: it says more and counts as full. Else prove '..UptoSaid'. A law counts once. -/
mutual
def uptoBulk {H : Type} : DataW H → Nat
  | .lit (.string bytes) => bytes.length + 1
  | .lit _ => 1
  | .nil => 1
  | .ptr d => uptoBulk d + 1
  | .slice elems spare => uptoBulkAll elems + uptoBulkAll spare + 1
  | .agg parts => uptoBulkAll parts + 1
  | .iface _ d => uptoBulk d + 1
  | .map entries => uptoBulkEntries entries + 1
  | .held _ => 1
def uptoBulkAll {H : Type} : List (DataW H) → Nat
  | [] => 0
  | d :: r => uptoBulk d + uptoBulkAll r
def uptoBulkEntries {H : Type} : List (Lit × DataW H) → Nat
  | [] => 0
  | x :: r => uptoBulkEntry x + uptoBulkEntries r
def uptoBulkEntry {H : Type} : Lit × DataW H → Nat
  | (.string bytes, d) => bytes.length + uptoBulk d + 1
  | (_, d) => uptoBulk d + 1
 end
def uptoSmall : (H : Type) → List (DataW H) → Bool := fun _ ds => decide (uptoBulkAll ds ≤ 1048576)
def OpenSpec.upto (s : _root_.Go.ChangeSpec) : _root_.Go.OpenSpec := { _root_.Go.OpenSpec.ofChange s with cond := some uptoSmall }

/-- 'hackamorelaw16.NumericSmall', WHERE WHAT IT READS IS OF BULK AT MOST 1048576: true; the input reads as it did. -/
def numericSmallUptoRow : OpenClaim := { program := "ytlbgpfddmkpakaa", sum := "c735b676938ca59dbe8b1cd451656f8a2feb84e7c783ab87b3b436033b7fb430", func := "hackamore/hackamorelaw16.NumericSmall", spec := "numericSmall", inPlace := ["math.Float32bits", "math.Float32frombits", "math.sqrt"], unfollowed := true, recurses := true, apart := false, narrowed := true }
def NumericSmallUptoSaid : Prop := numericSmallUptoRow.holds Try.pinned (OpenSpec.upto numericSmallSpec)

/-- 'hackamorelaw16.NumericTransforms', WHERE WHAT IT READS IS OF BULK AT MOST 1048576: true; the input reads as it did. -/
def numericTransformsUptoRow : OpenClaim := { program := "ytlbgpfddmkpakaa", sum := "c735b676938ca59dbe8b1cd451656f8a2feb84e7c783ab87b3b436033b7fb430", func := "hackamore/hackamorelaw16.NumericTransforms", spec := "numericTransforms", inPlace := ["math.Float32bits", "math.Float32frombits", "math.sqrt"], unfollowed := true, recurses := true, apart := false, narrowed := true }
def NumericTransformsUptoSaid : Prop := numericTransformsUptoRow.holds Try.pinned (OpenSpec.upto numericTransformsSpec)

/-- 'hackamorelaw16.NumericPolynomials', WHERE WHAT IT READS IS OF BULK AT MOST 1048576: true; the input reads as it did. -/
def numericPolynomialsUptoRow : OpenClaim := { program := "ytlbgpfddmkpakaa", sum := "c735b676938ca59dbe8b1cd451656f8a2feb84e7c783ab87b3b436033b7fb430", func := "hackamore/hackamorelaw16.NumericPolynomials", spec := "numericPolynomials", inPlace := ["math.Float32bits", "math.Float32frombits", "math.sqrt"], unfollowed := true, recurses := true, apart := false, narrowed := true }
def NumericPolynomialsUptoSaid : Prop := numericPolynomialsUptoRow.holds Try.pinned (OpenSpec.upto numericPolynomialsSpec)

/-- 'hackamorelaw16.NumericProducts', WHERE WHAT IT READS IS OF BULK AT MOST 1048576: true; the input reads as it did. -/
def numericProductsUptoRow : OpenClaim := { program := "ytlbgpfddmkpakaa", sum := "c735b676938ca59dbe8b1cd451656f8a2feb84e7c783ab87b3b436033b7fb430", func := "hackamore/hackamorelaw16.NumericProducts", spec := "numericProducts", inPlace := ["math.Float32bits", "math.Float32frombits", "math.sqrt"], unfollowed := true, recurses := true, apart := false, narrowed := true }
def NumericProductsUptoSaid : Prop := numericProductsUptoRow.holds Try.pinned (OpenSpec.upto numericProductsSpec)

/-- 'hackamorelaw16.NumericBack', WHERE WHAT IT READS IS OF BULK AT MOST 1048576: true; the input reads as it did. -/
def numericBackUptoRow : OpenClaim := { program := "ytlbgpfddmkpakaa", sum := "c735b676938ca59dbe8b1cd451656f8a2feb84e7c783ab87b3b436033b7fb430", func := "hackamore/hackamorelaw16.NumericBack", spec := "numericBack", inPlace := ["math.Float32bits", "math.Float32frombits", "math.sqrt"], unfollowed := true, recurses := true, apart := false, narrowed := true }
def NumericBackUptoSaid : Prop := numericBackUptoRow.holds Try.pinned (OpenSpec.upto numericBackSpec)

end Rows
end Go.Proofs.Ytlbgpfddmkpakaa
