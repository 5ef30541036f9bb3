/-
  NARROWER THAN 'FOR EVERY INPUT', by the rows' own cells (each row's printed sentence says how): PoolRooms: laid · PoolApart: laid · PoolFirst: laid · PoolClasses: laid · PoolSweeps: laid · PoolRuns: laid.
  DERIVED. THE GIVEN ROWS OF THIS SEAT. 6 by the template 'for every input the law returns true; each argument reads behind the call as it read before'; 0 by the template 'total and deterministic' (their statements: YtdgfnlagbdmniaaDoorTotals.lean).
  GIVEN WITH THE SEED: the statements are not yours to turn. If you find one false, say at which input.
  Laid BY PROGRAM, IN A SANDBOX (cutbox-rows.mjs): the forced cells as the released guide's own fill.sh prints them over the translation 14579580d159f68e… (all of the seat's roots in one cut). By AI agents, Wed Nov 11 2026. No macro, syntax, notation, axiom, sorry.
-/
import Derived.Test.YtdgfnlagbdmniaaDoorChecked
import GoSem.Claim
import GoSem.ClaimJoined
import GoSem.ClaimMapViews
import Derived.JoinedTies
import Derived.KernelRfl
namespace Go.Proofs.YtdgfnlagbdmniaaDoor
/- THE CELL 'sum', in the pinned program and in every row, IS THE sha256 OF THE DUMP (.gsa) THAT YtdgfnlagbdmniaaDoorProg.lean LOADS. Nothing in Lean hashes anything: it is a label: what it is worth is what the hold of that sum in a sandbox is worth. -/
noncomputable def Tryd.pinned : Pinned := { name := "ytdgfnlagbdmniaadoor", sum := "14579580d159f68e44c2df5fb3389b9afeebc40b5021052c540d54302587ca70", checked := Tryd.checked }
namespace Rows
def none {H : Type} : Left H := { results := [], args := [] }

/- WHAT THE LISTED PACKAGE-LEVEL VARIABLES READ AS WHEN THE CALL BEGINS. Each datum BY PROGRAM (the guide's laid-datum.mjs) off the statement by which the dump's own 'gosem.cut.vars' lays the variable. In a bare row this is a premise. The card (YtdgfnlagbdmniaaDoorCards.lean) ties it to the program's text. -/
def laid_math_bits_deBruijn32tab {H : Type} : DataW H := .agg [.lit (.int .u8 0), .lit (.int .u8 1), .lit (.int .u8 28), .lit (.int .u8 2), .lit (.int .u8 29), .lit (.int .u8 14), .lit (.int .u8 24), .lit (.int .u8 3), .lit (.int .u8 30), .lit (.int .u8 22), .lit (.int .u8 20), .lit (.int .u8 15), .lit (.int .u8 25), .lit (.int .u8 17), .lit (.int .u8 4), .lit (.int .u8 8), .lit (.int .u8 31), .lit (.int .u8 27), .lit (.int .u8 13), .lit (.int .u8 23), .lit (.int .u8 21), .lit (.int .u8 19), .lit (.int .u8 16), .lit (.int .u8 7), .lit (.int .u8 26), .lit (.int .u8 12), .lit (.int .u8 18), .lit (.int .u8 6), .lit (.int .u8 11), .lit (.int .u8 5), .lit (.int .u8 10), .lit (.int .u8 9)]

/-- 'hackamorelaw32.PoolRooms': WHATEVER THE INPUT: true; the input reads as it did. -/
def poolRoomsSpec : ChangeSpec := { name := "poolRooms", fn := fun _ => fun
  | [d1, d2] => { results := [.lit (.bool true)], args := [d1, d2] }
  | _ => none }
def poolRoomsRow : OpenClaim := { program := "ytdgfnlagbdmniaadoor", sum := "14579580d159f68e44c2df5fb3389b9afeebc40b5021052c540d54302587ca70", func := "hackamore/hackamorelaw32.PoolRooms", spec := "poolRooms", unfollowed := true, recurses := true, named := ["math/bits.deBruijn32tab"], apart := false, laid := [("math/bits.deBruijn32tab", laid_math_bits_deBruijn32tab)] }
def PoolRoomsSaid : Prop := poolRoomsRow.holds Tryd.pinned (OpenSpec.ofChange poolRoomsSpec)

/-- ITS FALSE NEIGHBOUR: 'it returns false'. Refute it at one input. -/
def poolRoomsWrong : ChangeSpec := { name := "poolRooms", fn := fun _ => fun
  | [d1, d2] => { results := [.lit (.bool false)], args := [d1, d2] }
  | _ => none }
def PoolRoomsWrongFalsely : Prop := poolRoomsRow.holds Tryd.pinned (OpenSpec.ofChange poolRoomsWrong)

/-- 'hackamorelaw32.PoolApart': WHATEVER THE INPUT: true; the input reads as it did. -/
def poolApartSpec : ChangeSpec := { name := "poolApart", fn := fun _ => fun
  | [d1, d2] => { results := [.lit (.bool true)], args := [d1, d2] }
  | _ => none }
def poolApartRow : OpenClaim := { program := "ytdgfnlagbdmniaadoor", sum := "14579580d159f68e44c2df5fb3389b9afeebc40b5021052c540d54302587ca70", func := "hackamore/hackamorelaw32.PoolApart", spec := "poolApart", unfollowed := true, recurses := true, named := ["math/bits.deBruijn32tab"], apart := false, laid := [("math/bits.deBruijn32tab", laid_math_bits_deBruijn32tab)] }
def PoolApartSaid : Prop := poolApartRow.holds Tryd.pinned (OpenSpec.ofChange poolApartSpec)

/-- ITS FALSE NEIGHBOUR: 'it returns false'. Refute it at one input. -/
def poolApartWrong : ChangeSpec := { name := "poolApart", fn := fun _ => fun
  | [d1, d2] => { results := [.lit (.bool false)], args := [d1, d2] }
  | _ => none }
def PoolApartWrongFalsely : Prop := poolApartRow.holds Tryd.pinned (OpenSpec.ofChange poolApartWrong)

/-- 'hackamorelaw32.PoolFirst': WHATEVER THE INPUT: true; the input reads as it did. -/
def poolFirstSpec : ChangeSpec := { name := "poolFirst", fn := fun _ => fun
  | [d1, d2, d3] => { results := [.lit (.bool true)], args := [d1, d2, d3] }
  | _ => none }
def poolFirstRow : OpenClaim := { program := "ytdgfnlagbdmniaadoor", sum := "14579580d159f68e44c2df5fb3389b9afeebc40b5021052c540d54302587ca70", func := "hackamore/hackamorelaw32.PoolFirst", spec := "poolFirst", unfollowed := true, recurses := true, named := ["math/bits.deBruijn32tab"], apart := false, laid := [("math/bits.deBruijn32tab", laid_math_bits_deBruijn32tab)] }
def PoolFirstSaid : Prop := poolFirstRow.holds Tryd.pinned (OpenSpec.ofChange poolFirstSpec)

/-- ITS FALSE NEIGHBOUR: 'it returns false'. Refute it at one input. -/
def poolFirstWrong : ChangeSpec := { name := "poolFirst", fn := fun _ => fun
  | [d1, d2, d3] => { results := [.lit (.bool false)], args := [d1, d2, d3] }
  | _ => none }
def PoolFirstWrongFalsely : Prop := poolFirstRow.holds Tryd.pinned (OpenSpec.ofChange poolFirstWrong)

/-- 'hackamorelaw32.PoolClasses': WHATEVER THE INPUT: true; the input reads as it did. -/
def poolClassesSpec : ChangeSpec := { name := "poolClasses", fn := fun _ => fun
  | [d] => { results := [.lit (.bool true)], args := [d] }
  | _ => none }
def poolClassesRow : OpenClaim := { program := "ytdgfnlagbdmniaadoor", sum := "14579580d159f68e44c2df5fb3389b9afeebc40b5021052c540d54302587ca70", func := "hackamore/hackamorelaw32.PoolClasses", spec := "poolClasses", unfollowed := true, recurses := true, named := ["math/bits.deBruijn32tab"], apart := false, laid := [("math/bits.deBruijn32tab", laid_math_bits_deBruijn32tab)] }
def PoolClassesSaid : Prop := poolClassesRow.holds Tryd.pinned (OpenSpec.ofChange poolClassesSpec)

/-- ITS FALSE NEIGHBOUR: 'it returns false'. Refute it at one input. -/
def poolClassesWrong : ChangeSpec := { name := "poolClasses", fn := fun _ => fun
  | [d] => { results := [.lit (.bool false)], args := [d] }
  | _ => none }
def PoolClassesWrongFalsely : Prop := poolClassesRow.holds Tryd.pinned (OpenSpec.ofChange poolClassesWrong)

/-- 'hackamorelaw32.PoolSweeps': WHATEVER THE INPUT: true; the input reads as it did. -/
def poolSweepsSpec : ChangeSpec := { name := "poolSweeps", fn := fun _ => fun
  | [d1, d2] => { results := [.lit (.bool true)], args := [d1, d2] }
  | _ => none }
def poolSweepsRow : OpenClaim := { program := "ytdgfnlagbdmniaadoor", sum := "14579580d159f68e44c2df5fb3389b9afeebc40b5021052c540d54302587ca70", func := "hackamore/hackamorelaw32.PoolSweeps", spec := "poolSweeps", unfollowed := true, recurses := true, named := ["math/bits.deBruijn32tab"], apart := false, laid := [("math/bits.deBruijn32tab", laid_math_bits_deBruijn32tab)] }
def PoolSweepsSaid : Prop := poolSweepsRow.holds Tryd.pinned (OpenSpec.ofChange poolSweepsSpec)

/-- ITS FALSE NEIGHBOUR: 'it returns false'. Refute it at one input. -/
def poolSweepsWrong : ChangeSpec := { name := "poolSweeps", fn := fun _ => fun
  | [d1, d2] => { results := [.lit (.bool false)], args := [d1, d2] }
  | _ => none }
def PoolSweepsWrongFalsely : Prop := poolSweepsRow.holds Tryd.pinned (OpenSpec.ofChange poolSweepsWrong)

/-- 'hackamorelaw32.PoolRuns': WHATEVER THE INPUT: true; the input reads as it did. -/
def poolRunsSpec : ChangeSpec := { name := "poolRuns", fn := fun _ => fun
  | [d1, d2] => { results := [.lit (.bool true)], args := [d1, d2] }
  | _ => none }
def poolRunsRow : OpenClaim := { program := "ytdgfnlagbdmniaadoor", sum := "14579580d159f68e44c2df5fb3389b9afeebc40b5021052c540d54302587ca70", func := "hackamore/hackamorelaw32.PoolRuns", spec := "poolRuns", unfollowed := true, recurses := true, named := ["math/bits.deBruijn32tab"], apart := false, laid := [("math/bits.deBruijn32tab", laid_math_bits_deBruijn32tab)] }
def PoolRunsSaid : Prop := poolRunsRow.holds Tryd.pinned (OpenSpec.ofChange poolRunsSpec)

/-- ITS FALSE NEIGHBOUR: 'it returns false'. Refute it at one input. -/
def poolRunsWrong : ChangeSpec := { name := "poolRuns", fn := fun _ => fun
  | [d1, d2] => { results := [.lit (.bool false)], args := [d1, d2] }
  | _ => none }
def PoolRunsWrongFalsely : Prop := poolRunsRow.holds Tryd.pinned (OpenSpec.ofChange poolRunsWrong)

/- THE SECOND FORM. 'bulk': how many values and letters a reading holds, each counted each time it is reached (what is shared counts as often as it is met; a slice's spare places count too). A statement '..UptoSaid' is the law's where the arguments, and the package variables that the reading takes, are together of bulk at most 1048576: NARROWER than '..Said'. Prove '..Said' where nothing that the law and all that it calls make is longer than what came in: it says more and counts as full. Else prove '..UptoSaid'. A law counts once. -/
mutual
def uptoBulk {H : Type} : DataW H → Nat
  | .lit (.string bytes) => bytes.length + 1
  | .lit _ => 1
  | .nil => 1
  | .ptr d => uptoBulk d + 1
  | .slice elems spare => uptoBulkAll elems + uptoBulkAll spare + 1
  | .agg parts => uptoBulkAll parts + 1
  | .iface _ d => uptoBulk d + 1
  | .map entries => uptoBulkEntries entries + 1
  | .held _ => 1
def uptoBulkAll {H : Type} : List (DataW H) → Nat
  | [] => 0
  | d :: r => uptoBulk d + uptoBulkAll r
def uptoBulkEntries {H : Type} : List (Lit × DataW H) → Nat
  | [] => 0
  | x :: r => uptoBulkEntry x + uptoBulkEntries r
def uptoBulkEntry {H : Type} : Lit × DataW H → Nat
  | (.string bytes, d) => bytes.length + uptoBulk d + 1
  | (_, d) => uptoBulk d + 1
 end
def uptoSmall : (H : Type) → List (DataW H) → Bool := fun _ ds => decide (uptoBulkAll ds ≤ 1048576)
def OpenSpec.upto (s : _root_.Go.ChangeSpec) : _root_.Go.OpenSpec := { _root_.Go.OpenSpec.ofChange s with cond := some uptoSmall }

/-- 'hackamorelaw32.PoolRooms', WHERE WHAT IT READS IS OF BULK AT MOST 1048576: true; the input reads as it did. -/
def poolRoomsUptoRow : OpenClaim := { program := "ytdgfnlagbdmniaadoor", sum := "14579580d159f68e44c2df5fb3389b9afeebc40b5021052c540d54302587ca70", func := "hackamore/hackamorelaw32.PoolRooms", spec := "poolRooms", unfollowed := true, recurses := true, named := ["math/bits.deBruijn32tab"], apart := false, laid := [("math/bits.deBruijn32tab", laid_math_bits_deBruijn32tab)], narrowed := true }
def PoolRoomsUptoSaid : Prop := poolRoomsUptoRow.holds Tryd.pinned (OpenSpec.upto poolRoomsSpec)

/-- 'hackamorelaw32.PoolApart', WHERE WHAT IT READS IS OF BULK AT MOST 1048576: true; the input reads as it did. -/
def poolApartUptoRow : OpenClaim := { program := "ytdgfnlagbdmniaadoor", sum := "14579580d159f68e44c2df5fb3389b9afeebc40b5021052c540d54302587ca70", func := "hackamore/hackamorelaw32.PoolApart", spec := "poolApart", unfollowed := true, recurses := true, named := ["math/bits.deBruijn32tab"], apart := false, laid := [("math/bits.deBruijn32tab", laid_math_bits_deBruijn32tab)], narrowed := true }
def PoolApartUptoSaid : Prop := poolApartUptoRow.holds Tryd.pinned (OpenSpec.upto poolApartSpec)

/-- 'hackamorelaw32.PoolFirst', WHERE WHAT IT READS IS OF BULK AT MOST 1048576: true; the input reads as it did. -/
def poolFirstUptoRow : OpenClaim := { program := "ytdgfnlagbdmniaadoor", sum := "14579580d159f68e44c2df5fb3389b9afeebc40b5021052c540d54302587ca70", func := "hackamore/hackamorelaw32.PoolFirst", spec := "poolFirst", unfollowed := true, recurses := true, named := ["math/bits.deBruijn32tab"], apart := false, laid := [("math/bits.deBruijn32tab", laid_math_bits_deBruijn32tab)], narrowed := true }
def PoolFirstUptoSaid : Prop := poolFirstUptoRow.holds Tryd.pinned (OpenSpec.upto poolFirstSpec)

/-- 'hackamorelaw32.PoolClasses', WHERE WHAT IT READS IS OF BULK AT MOST 1048576: true; the input reads as it did. -/
def poolClassesUptoRow : OpenClaim := { program := "ytdgfnlagbdmniaadoor", sum := "14579580d159f68e44c2df5fb3389b9afeebc40b5021052c540d54302587ca70", func := "hackamore/hackamorelaw32.PoolClasses", spec := "poolClasses", unfollowed := true, recurses := true, named := ["math/bits.deBruijn32tab"], apart := false, laid := [("math/bits.deBruijn32tab", laid_math_bits_deBruijn32tab)], narrowed := true }
def PoolClassesUptoSaid : Prop := poolClassesUptoRow.holds Tryd.pinned (OpenSpec.upto poolClassesSpec)

/-- 'hackamorelaw32.PoolSweeps', WHERE WHAT IT READS IS OF BULK AT MOST 1048576: true; the input reads as it did. -/
def poolSweepsUptoRow : OpenClaim := { program := "ytdgfnlagbdmniaadoor", sum := "14579580d159f68e44c2df5fb3389b9afeebc40b5021052c540d54302587ca70", func := "hackamore/hackamorelaw32.PoolSweeps", spec := "poolSweeps", unfollowed := true, recurses := true, named := ["math/bits.deBruijn32tab"], apart := false, laid := [("math/bits.deBruijn32tab", laid_math_bits_deBruijn32tab)], narrowed := true }
def PoolSweepsUptoSaid : Prop := poolSweepsUptoRow.holds Tryd.pinned (OpenSpec.upto poolSweepsSpec)

/-- 'hackamorelaw32.PoolRuns', WHERE WHAT IT READS IS OF BULK AT MOST 1048576: true; the input reads as it did. -/
def poolRunsUptoRow : OpenClaim := { program := "ytdgfnlagbdmniaadoor", sum := "14579580d159f68e44c2df5fb3389b9afeebc40b5021052c540d54302587ca70", func := "hackamore/hackamorelaw32.PoolRuns", spec := "poolRuns", unfollowed := true, recurses := true, named := ["math/bits.deBruijn32tab"], apart := false, laid := [("math/bits.deBruijn32tab", laid_math_bits_deBruijn32tab)], narrowed := true }
def PoolRunsUptoSaid : Prop := poolRunsUptoRow.holds Tryd.pinned (OpenSpec.upto poolRunsSpec)

end Rows
end Go.Proofs.YtdgfnlagbdmniaaDoor
