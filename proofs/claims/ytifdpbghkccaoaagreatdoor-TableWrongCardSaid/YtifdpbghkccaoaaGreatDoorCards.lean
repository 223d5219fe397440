/-
  DERIVED. GIVEN WITH THE SEED: THE CARDS: each row of YtifdpbghkccaoaaGreatDoorRows.lean that lists a variable, with what it lists TIED to the program's text (the seventh form; the later family's looks); each row that meets fmt, with fmt's text TOLD by the authors' own Lean function (tested against real Go, not proved from fmt's source: count such statements apart). THE CARD IS WHAT COUNTS. Prove the row's statement (the work); the ties are given (YtifdpbghkccaoaaGreatDoorTie.lean); close each card by the builder's one call (the guide's Derived/Test/ToyasCard.lean, 'card_holds'). Laid BY PROGRAM, IN A SANDBOX (cutbox-door.mjs). By AI agents, Wed Nov 11 2026. No macro, syntax, notation, axiom, sorry.
-/
import Derived.Test.YtifdpbghkccaoaaGreatDoorRows
import GoSem.ClaimSeven
namespace Go.Proofs.YtifdpbghkccaoaaGreatDoor
namespace Rows

/-- THE TIED CARD OF 'hubbublaw12.TableMerges'. -/
def tableMergesCard : Claim7 := { stood := { row := tableMergesRow, standIns := [], harness := (true, "9d8ee22a882a351bb4beb015ba62c2ac45062519243bab2553c9ff76a4de1c8c"), looks := false }, kinds := [], alts := [], laidByText := true, laidKinds := [.data, .data, .data, .data, .pinned], laidTests := true, laidLooks := .later }
def TableMergesCardSaid : Prop := Claim7.holds Tryz.pinned (.plain (OpenSpec.ofChange tableMergesSpec)) tableMergesCard

/-- THE TIED CARD OF 'hubbublaw12.TableSeen'. -/
def tableSeenCard : Claim7 := { stood := { row := tableSeenRow, standIns := [], harness := (true, "9d8ee22a882a351bb4beb015ba62c2ac45062519243bab2553c9ff76a4de1c8c"), looks := false }, kinds := [], alts := [], laidByText := true, laidKinds := [.data, .data, .data, .data, .pinned], laidTests := true, laidLooks := .later }
def TableSeenCardSaid : Prop := Claim7.holds Tryz.pinned (.plain (OpenSpec.ofChange tableSeenSpec)) tableSeenCard

/-- THE TIED CARD OF 'hubbublaw12.TableLater'. -/
def tableLaterCard : Claim7 := { stood := { row := tableLaterRow, standIns := [], harness := (true, "9d8ee22a882a351bb4beb015ba62c2ac45062519243bab2553c9ff76a4de1c8c"), looks := false }, kinds := [], alts := [], laidByText := true, laidKinds := [.data, .data, .data, .data, .pinned], laidTests := true, laidLooks := .later }
def TableLaterCardSaid : Prop := Claim7.holds Tryz.pinned (.plain (OpenSpec.ofChange tableLaterSpec)) tableLaterCard

/-- THE TIED CARD OF 'hubbublaw12.TableWrong'. -/
def tableWrongCard : Claim7 := { stood := { row := tableWrongRow, standIns := [], harness := (true, "9d8ee22a882a351bb4beb015ba62c2ac45062519243bab2553c9ff76a4de1c8c"), looks := false }, kinds := [], alts := [], laidByText := true, laidKinds := [.data, .data, .data, .data, .pinned], laidTests := true, laidLooks := .later }
def TableWrongCardSaid : Prop := Claim7.holds Tryz.pinned (.plain (OpenSpec.ofChange tableWrongSpec)) tableWrongCard

/-- THE SECOND FORM's CARD OF 'hubbublaw12.TableMerges'. -/
def tableMergesUptoCard : Claim7 := { stood := { row := tableMergesUptoRow, standIns := [], harness := (true, "9d8ee22a882a351bb4beb015ba62c2ac45062519243bab2553c9ff76a4de1c8c"), looks := false }, kinds := [], alts := [], laidByText := true, laidKinds := [.data, .data, .data, .data, .pinned], laidTests := true, laidLooks := .later }
def TableMergesUptoCardSaid : Prop := Claim7.holds Tryz.pinned (.plain (OpenSpec.upto tableMergesSpec)) tableMergesUptoCard

/-- THE SECOND FORM's CARD OF 'hubbublaw12.TableSeen'. -/
def tableSeenUptoCard : Claim7 := { stood := { row := tableSeenUptoRow, standIns := [], harness := (true, "9d8ee22a882a351bb4beb015ba62c2ac45062519243bab2553c9ff76a4de1c8c"), looks := false }, kinds := [], alts := [], laidByText := true, laidKinds := [.data, .data, .data, .data, .pinned], laidTests := true, laidLooks := .later }
def TableSeenUptoCardSaid : Prop := Claim7.holds Tryz.pinned (.plain (OpenSpec.upto tableSeenSpec)) tableSeenUptoCard

/-- THE SECOND FORM's CARD OF 'hubbublaw12.TableLater'. -/
def tableLaterUptoCard : Claim7 := { stood := { row := tableLaterUptoRow, standIns := [], harness := (true, "9d8ee22a882a351bb4beb015ba62c2ac45062519243bab2553c9ff76a4de1c8c"), looks := false }, kinds := [], alts := [], laidByText := true, laidKinds := [.data, .data, .data, .data, .pinned], laidTests := true, laidLooks := .later }
def TableLaterUptoCardSaid : Prop := Claim7.holds Tryz.pinned (.plain (OpenSpec.upto tableLaterSpec)) tableLaterUptoCard

/-- THE SECOND FORM's CARD OF 'hubbublaw12.TableWrong'. -/
def tableWrongUptoCard : Claim7 := { stood := { row := tableWrongUptoRow, standIns := [], harness := (true, "9d8ee22a882a351bb4beb015ba62c2ac45062519243bab2553c9ff76a4de1c8c"), looks := false }, kinds := [], alts := [], laidByText := true, laidKinds := [.data, .data, .data, .data, .pinned], laidTests := true, laidLooks := .later }
def TableWrongUptoCardSaid : Prop := Claim7.holds Tryz.pinned (.plain (OpenSpec.upto tableWrongSpec)) tableWrongUptoCard
end Rows
end Go.Proofs.YtifdpbghkccaoaaGreatDoor
