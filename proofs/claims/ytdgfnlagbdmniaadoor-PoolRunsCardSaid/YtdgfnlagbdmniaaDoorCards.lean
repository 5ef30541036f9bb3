/-
  DERIVED. GIVEN WITH THE SEED: THE CARDS: each row of YtdgfnlagbdmniaaDoorRows.lean that lists a variable, with what it lists TIED to the program's text (the seventh form; the later family's looks); each row that meets fmt, with fmt's text TOLD by the authors' own Lean function (tested against real Go, not proved from fmt's source: count such statements apart). THE CARD IS WHAT COUNTS. Prove the row's statement (the work); the ties are given (YtdgfnlagbdmniaaDoorTie.lean); close each card by the builder's one call (the guide's Derived/Test/ToyasCard.lean, 'card_holds'). Laid BY PROGRAM, IN A SANDBOX (cutbox-door.mjs). By AI agents, Wed Nov 11 2026. No macro, syntax, notation, axiom, sorry.
-/
import Derived.Test.YtdgfnlagbdmniaaDoorRows
import GoSem.ClaimSeven
namespace Go.Proofs.YtdgfnlagbdmniaaDoor
namespace Rows

/-- THE TIED CARD OF 'hackamorelaw32.PoolRooms'. -/
def poolRoomsCard : Claim7 := { stood := { row := poolRoomsRow, standIns := [], harness := (true, "8741af012f02df6c5155827689caf83707fe406adac56a6eebec9bcdc62eeaff"), looks := false }, kinds := [], alts := [], laidByText := true, laidKinds := [.data], laidTests := true, laidLooks := .later }
def PoolRoomsCardSaid : Prop := Claim7.holds Tryd.pinned (.plain (OpenSpec.ofChange poolRoomsSpec)) poolRoomsCard

/-- THE TIED CARD OF 'hackamorelaw32.PoolApart'. -/
def poolApartCard : Claim7 := { stood := { row := poolApartRow, standIns := [], harness := (true, "8741af012f02df6c5155827689caf83707fe406adac56a6eebec9bcdc62eeaff"), looks := false }, kinds := [], alts := [], laidByText := true, laidKinds := [.data], laidTests := true, laidLooks := .later }
def PoolApartCardSaid : Prop := Claim7.holds Tryd.pinned (.plain (OpenSpec.ofChange poolApartSpec)) poolApartCard

/-- THE TIED CARD OF 'hackamorelaw32.PoolFirst'. -/
def poolFirstCard : Claim7 := { stood := { row := poolFirstRow, standIns := [], harness := (true, "8741af012f02df6c5155827689caf83707fe406adac56a6eebec9bcdc62eeaff"), looks := false }, kinds := [], alts := [], laidByText := true, laidKinds := [.data], laidTests := true, laidLooks := .later }
def PoolFirstCardSaid : Prop := Claim7.holds Tryd.pinned (.plain (OpenSpec.ofChange poolFirstSpec)) poolFirstCard

/-- THE TIED CARD OF 'hackamorelaw32.PoolClasses'. -/
def poolClassesCard : Claim7 := { stood := { row := poolClassesRow, standIns := [], harness := (true, "8741af012f02df6c5155827689caf83707fe406adac56a6eebec9bcdc62eeaff"), looks := false }, kinds := [], alts := [], laidByText := true, laidKinds := [.data], laidTests := true, laidLooks := .later }
def PoolClassesCardSaid : Prop := Claim7.holds Tryd.pinned (.plain (OpenSpec.ofChange poolClassesSpec)) poolClassesCard

/-- THE TIED CARD OF 'hackamorelaw32.PoolSweeps'. -/
def poolSweepsCard : Claim7 := { stood := { row := poolSweepsRow, standIns := [], harness := (true, "8741af012f02df6c5155827689caf83707fe406adac56a6eebec9bcdc62eeaff"), looks := false }, kinds := [], alts := [], laidByText := true, laidKinds := [.data], laidTests := true, laidLooks := .later }
def PoolSweepsCardSaid : Prop := Claim7.holds Tryd.pinned (.plain (OpenSpec.ofChange poolSweepsSpec)) poolSweepsCard

/-- THE TIED CARD OF 'hackamorelaw32.PoolRuns'. -/
def poolRunsCard : Claim7 := { stood := { row := poolRunsRow, standIns := [], harness := (true, "8741af012f02df6c5155827689caf83707fe406adac56a6eebec9bcdc62eeaff"), looks := false }, kinds := [], alts := [], laidByText := true, laidKinds := [.data], laidTests := true, laidLooks := .later }
def PoolRunsCardSaid : Prop := Claim7.holds Tryd.pinned (.plain (OpenSpec.ofChange poolRunsSpec)) poolRunsCard

/-- THE SECOND FORM's CARD OF 'hackamorelaw32.PoolRooms'. -/
def poolRoomsUptoCard : Claim7 := { stood := { row := poolRoomsUptoRow, standIns := [], harness := (true, "8741af012f02df6c5155827689caf83707fe406adac56a6eebec9bcdc62eeaff"), looks := false }, kinds := [], alts := [], laidByText := true, laidKinds := [.data], laidTests := true, laidLooks := .later }
def PoolRoomsUptoCardSaid : Prop := Claim7.holds Tryd.pinned (.plain (OpenSpec.upto poolRoomsSpec)) poolRoomsUptoCard

/-- THE SECOND FORM's CARD OF 'hackamorelaw32.PoolApart'. -/
def poolApartUptoCard : Claim7 := { stood := { row := poolApartUptoRow, standIns := [], harness := (true, "8741af012f02df6c5155827689caf83707fe406adac56a6eebec9bcdc62eeaff"), looks := false }, kinds := [], alts := [], laidByText := true, laidKinds := [.data], laidTests := true, laidLooks := .later }
def PoolApartUptoCardSaid : Prop := Claim7.holds Tryd.pinned (.plain (OpenSpec.upto poolApartSpec)) poolApartUptoCard

/-- THE SECOND FORM's CARD OF 'hackamorelaw32.PoolFirst'. -/
def poolFirstUptoCard : Claim7 := { stood := { row := poolFirstUptoRow, standIns := [], harness := (true, "8741af012f02df6c5155827689caf83707fe406adac56a6eebec9bcdc62eeaff"), looks := false }, kinds := [], alts := [], laidByText := true, laidKinds := [.data], laidTests := true, laidLooks := .later }
def PoolFirstUptoCardSaid : Prop := Claim7.holds Tryd.pinned (.plain (OpenSpec.upto poolFirstSpec)) poolFirstUptoCard

/-- THE SECOND FORM's CARD OF 'hackamorelaw32.PoolClasses'. -/
def poolClassesUptoCard : Claim7 := { stood := { row := poolClassesUptoRow, standIns := [], harness := (true, "8741af012f02df6c5155827689caf83707fe406adac56a6eebec9bcdc62eeaff"), looks := false }, kinds := [], alts := [], laidByText := true, laidKinds := [.data], laidTests := true, laidLooks := .later }
def PoolClassesUptoCardSaid : Prop := Claim7.holds Tryd.pinned (.plain (OpenSpec.upto poolClassesSpec)) poolClassesUptoCard

/-- THE SECOND FORM's CARD OF 'hackamorelaw32.PoolSweeps'. -/
def poolSweepsUptoCard : Claim7 := { stood := { row := poolSweepsUptoRow, standIns := [], harness := (true, "8741af012f02df6c5155827689caf83707fe406adac56a6eebec9bcdc62eeaff"), looks := false }, kinds := [], alts := [], laidByText := true, laidKinds := [.data], laidTests := true, laidLooks := .later }
def PoolSweepsUptoCardSaid : Prop := Claim7.holds Tryd.pinned (.plain (OpenSpec.upto poolSweepsSpec)) poolSweepsUptoCard

/-- THE SECOND FORM's CARD OF 'hackamorelaw32.PoolRuns'. -/
def poolRunsUptoCard : Claim7 := { stood := { row := poolRunsUptoRow, standIns := [], harness := (true, "8741af012f02df6c5155827689caf83707fe406adac56a6eebec9bcdc62eeaff"), looks := false }, kinds := [], alts := [], laidByText := true, laidKinds := [.data], laidTests := true, laidLooks := .later }
def PoolRunsUptoCardSaid : Prop := Claim7.holds Tryd.pinned (.plain (OpenSpec.upto poolRunsSpec)) poolRunsUptoCard
end Rows
end Go.Proofs.YtdgfnlagbdmniaaDoor
