/-
  No cell of these rows narrows 'for every input' (looked for: loops, veiled, ifaces, maps, wideKeys, modest, calm, conditions, laid).
  DERIVED. THE GIVEN ROWS OF THIS SEAT. 5 by the template 'for every input the law returns true; each argument reads behind the call as it read before'; 0 by the template 'total and deterministic' (their statements: YtgbafpjeapkklaaTotals.lean).
  GIVEN WITH THE SEED: the statements are not yours to turn. If you find one false, say at which input.
  Laid BY PROGRAM, IN A SANDBOX (cutbox-rows.mjs): the forced cells as the released guide's own fill.sh prints them over the translation b9d8d3761bad0981… (all of the seat's roots in one cut). By AI agents, Wed Nov 11 2026. No macro, syntax, notation, axiom, sorry.
-/
import Derived.Test.YtgbafpjeapkklaaChecked
import GoSem.Claim
import GoSem.ClaimJoined
import GoSem.ClaimMapViews
import Derived.JoinedTies
import Derived.KernelRfl
namespace Go.Proofs.Ytgbafpjeapkklaa
/- THE CELL 'sum', in the pinned program and in every row, IS THE sha256 OF THE DUMP (.gsa) THAT YtgbafpjeapkklaaProg.lean LOADS. Nothing in Lean hashes anything: it is a label: what it is worth is what the hold of that sum in a sandbox is worth. -/
noncomputable def Try.pinned : Pinned := { name := "ytgbafpjeapkklaa", sum := "b9d8d3761bad0981f6e7c8972f208f5fcf8bdefb385044e91627e7a7437cabb7", checked := Try.checked }
namespace Rows
def none {H : Type} : Left H := { results := [], args := [] }

/-- 'hackamorelaw28.MailboxProgress': WHATEVER THE INPUT: true; the input reads as it did. -/
def mailboxProgressSpec : ChangeSpec := { name := "mailboxProgress", fn := fun _ => fun
  | [d1, d2] => { results := [.lit (.bool true)], args := [d1, d2] }
  | _ => none }
def mailboxProgressRow : OpenClaim := { program := "ytgbafpjeapkklaa", sum := "b9d8d3761bad0981f6e7c8972f208f5fcf8bdefb385044e91627e7a7437cabb7", func := "hackamore/hackamorelaw28.MailboxProgress", spec := "mailboxProgress", inPlace := ["slices.overlaps[hackamore/mailbox.Push]"], unfollowed := true, recurses := true, apart := false }
def MailboxProgressSaid : Prop := mailboxProgressRow.holds Try.pinned (OpenSpec.ofChange mailboxProgressSpec)

/-- ITS FALSE NEIGHBOUR: 'it returns false'. Refute it at one input. -/
def mailboxProgressWrong : ChangeSpec := { name := "mailboxProgress", fn := fun _ => fun
  | [d1, d2] => { results := [.lit (.bool false)], args := [d1, d2] }
  | _ => none }
def MailboxProgressWrongFalsely : Prop := mailboxProgressRow.holds Try.pinned (OpenSpec.ofChange mailboxProgressWrong)

/-- 'hackamorelaw28.MailboxRuns': WHATEVER THE INPUT: true; the input reads as it did. -/
def mailboxRunsSpec : ChangeSpec := { name := "mailboxRuns", fn := fun _ => fun
  | [d] => { results := [.lit (.bool true)], args := [d] }
  | _ => none }
def mailboxRunsRow : OpenClaim := { program := "ytgbafpjeapkklaa", sum := "b9d8d3761bad0981f6e7c8972f208f5fcf8bdefb385044e91627e7a7437cabb7", func := "hackamore/hackamorelaw28.MailboxRuns", spec := "mailboxRuns", inPlace := ["slices.overlaps[hackamore/mailbox.Push]"], unfollowed := true, recurses := true, apart := false }
def MailboxRunsSaid : Prop := mailboxRunsRow.holds Try.pinned (OpenSpec.ofChange mailboxRunsSpec)

/-- ITS FALSE NEIGHBOUR: 'it returns false'. Refute it at one input. -/
def mailboxRunsWrong : ChangeSpec := { name := "mailboxRuns", fn := fun _ => fun
  | [d] => { results := [.lit (.bool false)], args := [d] }
  | _ => none }
def MailboxRunsWrongFalsely : Prop := mailboxRunsRow.holds Try.pinned (OpenSpec.ofChange mailboxRunsWrong)

/-- 'hackamorelaw28.MailboxStates': WHATEVER THE INPUT: true; the input reads as it did. -/
def mailboxStatesSpec : ChangeSpec := { name := "mailboxStates", fn := fun _ => fun
  | [d1, d2] => { results := [.lit (.bool true)], args := [d1, d2] }
  | _ => none }
def mailboxStatesRow : OpenClaim := { program := "ytgbafpjeapkklaa", sum := "b9d8d3761bad0981f6e7c8972f208f5fcf8bdefb385044e91627e7a7437cabb7", func := "hackamore/hackamorelaw28.MailboxStates", spec := "mailboxStates", inPlace := ["slices.overlaps[hackamore/mailbox.Push]"], unfollowed := true, recurses := true, apart := false }
def MailboxStatesSaid : Prop := mailboxStatesRow.holds Try.pinned (OpenSpec.ofChange mailboxStatesSpec)

/-- ITS FALSE NEIGHBOUR: 'it returns false'. Refute it at one input. -/
def mailboxStatesWrong : ChangeSpec := { name := "mailboxStates", fn := fun _ => fun
  | [d1, d2] => { results := [.lit (.bool false)], args := [d1, d2] }
  | _ => none }
def MailboxStatesWrongFalsely : Prop := mailboxStatesRow.holds Try.pinned (OpenSpec.ofChange mailboxStatesWrong)

/-- 'hackamorelaw28.MailboxOrder': WHATEVER THE INPUT: true; the input reads as it did. -/
def mailboxOrderSpec : ChangeSpec := { name := "mailboxOrder", fn := fun _ => fun
  | [d] => { results := [.lit (.bool true)], args := [d] }
  | _ => none }
def mailboxOrderRow : OpenClaim := { program := "ytgbafpjeapkklaa", sum := "b9d8d3761bad0981f6e7c8972f208f5fcf8bdefb385044e91627e7a7437cabb7", func := "hackamore/hackamorelaw28.MailboxOrder", spec := "mailboxOrder", inPlace := ["slices.overlaps[hackamore/mailbox.Push]"], unfollowed := true, recurses := true, apart := false }
def MailboxOrderSaid : Prop := mailboxOrderRow.holds Try.pinned (OpenSpec.ofChange mailboxOrderSpec)

/-- ITS FALSE NEIGHBOUR: 'it returns false'. Refute it at one input. -/
def mailboxOrderWrong : ChangeSpec := { name := "mailboxOrder", fn := fun _ => fun
  | [d] => { results := [.lit (.bool false)], args := [d] }
  | _ => none }
def MailboxOrderWrongFalsely : Prop := mailboxOrderRow.holds Try.pinned (OpenSpec.ofChange mailboxOrderWrong)

/-- 'hackamorelaw28.MailboxGroups': WHATEVER THE INPUT: true; the input reads as it did. -/
def mailboxGroupsSpec : ChangeSpec := { name := "mailboxGroups", fn := fun _ => fun
  | [d] => { results := [.lit (.bool true)], args := [d] }
  | _ => none }
def mailboxGroupsRow : OpenClaim := { program := "ytgbafpjeapkklaa", sum := "b9d8d3761bad0981f6e7c8972f208f5fcf8bdefb385044e91627e7a7437cabb7", func := "hackamore/hackamorelaw28.MailboxGroups", spec := "mailboxGroups", inPlace := ["slices.overlaps[hackamore/mailbox.Push]"], unfollowed := true, recurses := true, apart := false }
def MailboxGroupsSaid : Prop := mailboxGroupsRow.holds Try.pinned (OpenSpec.ofChange mailboxGroupsSpec)

/-- ITS FALSE NEIGHBOUR: 'it returns false'. Refute it at one input. -/
def mailboxGroupsWrong : ChangeSpec := { name := "mailboxGroups", fn := fun _ => fun
  | [d] => { results := [.lit (.bool false)], args := [d] }
  | _ => none }
def MailboxGroupsWrongFalsely : Prop := mailboxGroupsRow.holds Try.pinned (OpenSpec.ofChange mailboxGroupsWrong)

/- THE SECOND FORM. 'bulk': how many values and letters a reading holds, each counted each time it is reached (what is shared counts as often as it is met; a slice's spare places count too). A statement '..UptoSaid' is the law's where the arguments, and the package variables that the reading takes, are together of bulk at most 1048576: NARROWER than '..Said'. Prove '..Said' where nothing that the law and all that it calls make is longer than what came in: it says more and counts as full. Else prove '..UptoSaid'. A law counts once. -/
mutual
def uptoBulk {H : Type} : DataW H → Nat
  | .lit (.string bytes) => bytes.length + 1
  | .lit _ => 1
  | .nil => 1
  | .ptr d => uptoBulk d + 1
  | .slice elems spare => uptoBulkAll elems + uptoBulkAll spare + 1
  | .agg parts => uptoBulkAll parts + 1
  | .iface _ d => uptoBulk d + 1
  | .map entries => uptoBulkEntries entries + 1
  | .held _ => 1
def uptoBulkAll {H : Type} : List (DataW H) → Nat
  | [] => 0
  | d :: r => uptoBulk d + uptoBulkAll r
def uptoBulkEntries {H : Type} : List (Lit × DataW H) → Nat
  | [] => 0
  | x :: r => uptoBulkEntry x + uptoBulkEntries r
def uptoBulkEntry {H : Type} : Lit × DataW H → Nat
  | (.string bytes, d) => bytes.length + uptoBulk d + 1
  | (_, d) => uptoBulk d + 1
 end
def uptoSmall : (H : Type) → List (DataW H) → Bool := fun _ ds => decide (uptoBulkAll ds ≤ 1048576)
def OpenSpec.upto (s : _root_.Go.ChangeSpec) : _root_.Go.OpenSpec := { _root_.Go.OpenSpec.ofChange s with cond := some uptoSmall }

/-- 'hackamorelaw28.MailboxProgress', WHERE WHAT IT READS IS OF BULK AT MOST 1048576: true; the input reads as it did. -/
def mailboxProgressUptoRow : OpenClaim := { program := "ytgbafpjeapkklaa", sum := "b9d8d3761bad0981f6e7c8972f208f5fcf8bdefb385044e91627e7a7437cabb7", func := "hackamore/hackamorelaw28.MailboxProgress", spec := "mailboxProgress", inPlace := ["slices.overlaps[hackamore/mailbox.Push]"], unfollowed := true, recurses := true, apart := false, narrowed := true }
def MailboxProgressUptoSaid : Prop := mailboxProgressUptoRow.holds Try.pinned (OpenSpec.upto mailboxProgressSpec)

/-- 'hackamorelaw28.MailboxRuns', WHERE WHAT IT READS IS OF BULK AT MOST 1048576: true; the input reads as it did. -/
def mailboxRunsUptoRow : OpenClaim := { program := "ytgbafpjeapkklaa", sum := "b9d8d3761bad0981f6e7c8972f208f5fcf8bdefb385044e91627e7a7437cabb7", func := "hackamore/hackamorelaw28.MailboxRuns", spec := "mailboxRuns", inPlace := ["slices.overlaps[hackamore/mailbox.Push]"], unfollowed := true, recurses := true, apart := false, narrowed := true }
def MailboxRunsUptoSaid : Prop := mailboxRunsUptoRow.holds Try.pinned (OpenSpec.upto mailboxRunsSpec)

/-- 'hackamorelaw28.MailboxStates', WHERE WHAT IT READS IS OF BULK AT MOST 1048576: true; the input reads as it did. -/
def mailboxStatesUptoRow : OpenClaim := { program := "ytgbafpjeapkklaa", sum := "b9d8d3761bad0981f6e7c8972f208f5fcf8bdefb385044e91627e7a7437cabb7", func := "hackamore/hackamorelaw28.MailboxStates", spec := "mailboxStates", inPlace := ["slices.overlaps[hackamore/mailbox.Push]"], unfollowed := true, recurses := true, apart := false, narrowed := true }
def MailboxStatesUptoSaid : Prop := mailboxStatesUptoRow.holds Try.pinned (OpenSpec.upto mailboxStatesSpec)

/-- 'hackamorelaw28.MailboxOrder', WHERE WHAT IT READS IS OF BULK AT MOST 1048576: true; the input reads as it did. -/
def mailboxOrderUptoRow : OpenClaim := { program := "ytgbafpjeapkklaa", sum := "b9d8d3761bad0981f6e7c8972f208f5fcf8bdefb385044e91627e7a7437cabb7", func := "hackamore/hackamorelaw28.MailboxOrder", spec := "mailboxOrder", inPlace := ["slices.overlaps[hackamore/mailbox.Push]"], unfollowed := true, recurses := true, apart := false, narrowed := true }
def MailboxOrderUptoSaid : Prop := mailboxOrderUptoRow.holds Try.pinned (OpenSpec.upto mailboxOrderSpec)

/-- 'hackamorelaw28.MailboxGroups', WHERE WHAT IT READS IS OF BULK AT MOST 1048576: true; the input reads as it did. -/
def mailboxGroupsUptoRow : OpenClaim := { program := "ytgbafpjeapkklaa", sum := "b9d8d3761bad0981f6e7c8972f208f5fcf8bdefb385044e91627e7a7437cabb7", func := "hackamore/hackamorelaw28.MailboxGroups", spec := "mailboxGroups", inPlace := ["slices.overlaps[hackamore/mailbox.Push]"], unfollowed := true, recurses := true, apart := false, narrowed := true }
def MailboxGroupsUptoSaid : Prop := mailboxGroupsUptoRow.holds Try.pinned (OpenSpec.upto mailboxGroupsSpec)

end Rows
end Go.Proofs.Ytgbafpjeapkklaa
