/-
  DERIVED. GIVEN WITH THE SEED: THE CARDS: each row of YtbmbcjmgjdnlnaaGreatDoorRows.lean that lists a variable, with what it lists TIED to the program's text (the seventh form; the later family's looks); each row that meets fmt, with fmt's text TOLD by the authors' own Lean function (tested against real Go, not proved from fmt's source: count such statements apart). THE CARD IS WHAT COUNTS. Prove the row's statement (the work); the ties are given (YtbmbcjmgjdnlnaaGreatDoorTie.lean); close each card by the builder's one call (the guide's Derived/Test/ToyasCard.lean, 'card_holds'). Laid BY PROGRAM, IN A SANDBOX (cutbox-door.mjs). By AI agents, Wed Nov 11 2026. No macro, syntax, notation, axiom, sorry.
-/
import Derived.Test.YtbmbcjmgjdnlnaaGreatDoorRows
import GoSem.ClaimSeven
namespace Go.Proofs.YtbmbcjmgjdnlnaaGreatDoor
namespace Rows

/-- THE TIED CARD OF 'hubbublaw14.FrameTells'. -/
def frameTellsCard : Claim7 := { stood := { row := frameTellsRow, standIns := [], harness := (true, "2d336d30b0411224886f3d91233d5cb7d7732ec2f95424449166798ee78a1a1b"), looks := false }, kinds := [], alts := [], laidByText := true, laidKinds := [.data, .pinned], laidTests := true, laidLooks := .later }
def FrameTellsCardSaid : Prop := Claim7.holds Tryz.pinned (.plain (OpenSpec.ofChange frameTellsSpec)) frameTellsCard

/-- THE TIED CARD OF 'hubbublaw14.FrameReads'. -/
def frameReadsCard : Claim7 := { stood := { row := frameReadsRow, standIns := [], harness := (true, "2d336d30b0411224886f3d91233d5cb7d7732ec2f95424449166798ee78a1a1b"), looks := false }, kinds := [], alts := [], laidByText := true, laidKinds := [.data, .pinned], laidTests := true, laidLooks := .later }
def FrameReadsCardSaid : Prop := Claim7.holds Tryz.pinned (.plain (OpenSpec.ofChange frameReadsSpec)) frameReadsCard

/-- THE TIED CARD OF 'hubbublaw13.DigestPlaces'. -/
def digestPlacesCard : Claim7 := { stood := { row := digestPlacesRow, standIns := [], harness := (true, "2d336d30b0411224886f3d91233d5cb7d7732ec2f95424449166798ee78a1a1b"), looks := false }, kinds := [], alts := [], laidByText := true, laidKinds := [.data, .data, .data, .data, .pinned], laidTests := true, laidLooks := .later }
def DigestPlacesCardSaid : Prop := Claim7.holds Tryz.pinned (.plain (OpenSpec.ofChange digestPlacesSpec)) digestPlacesCard

/-- THE TIED CARD OF 'hubbublaw13.DigestAlike'. -/
def digestAlikeCard : Claim7 := { stood := { row := digestAlikeRow, standIns := [], harness := (true, "2d336d30b0411224886f3d91233d5cb7d7732ec2f95424449166798ee78a1a1b"), looks := false }, kinds := [], alts := [], laidByText := true, laidKinds := [.data, .data, .data, .data, .pinned], laidTests := true, laidLooks := .later }
def DigestAlikeCardSaid : Prop := Claim7.holds Tryz.pinned (.plain (OpenSpec.ofChange digestAlikeSpec)) digestAlikeCard

/-- THE TIED CARD OF 'hubbublaw12.TableMerges'. -/
def tableMergesCard : Claim7 := { stood := { row := tableMergesRow, standIns := [], harness := (true, "2d336d30b0411224886f3d91233d5cb7d7732ec2f95424449166798ee78a1a1b"), looks := false }, kinds := [], alts := [], laidByText := true, laidKinds := [.data, .data, .data, .data, .pinned], laidTests := true, laidLooks := .later }
def TableMergesCardSaid : Prop := Claim7.holds Tryz.pinned (.plain (OpenSpec.ofChange tableMergesSpec)) tableMergesCard

/-- THE TIED CARD OF 'hubbublaw12.TableSeen'. -/
def tableSeenCard : Claim7 := { stood := { row := tableSeenRow, standIns := [], harness := (true, "2d336d30b0411224886f3d91233d5cb7d7732ec2f95424449166798ee78a1a1b"), looks := false }, kinds := [], alts := [], laidByText := true, laidKinds := [.data, .data, .data, .data, .pinned], laidTests := true, laidLooks := .later }
def TableSeenCardSaid : Prop := Claim7.holds Tryz.pinned (.plain (OpenSpec.ofChange tableSeenSpec)) tableSeenCard

/-- THE TIED CARD OF 'hubbublaw12.TableLater'. -/
def tableLaterCard : Claim7 := { stood := { row := tableLaterRow, standIns := [], harness := (true, "2d336d30b0411224886f3d91233d5cb7d7732ec2f95424449166798ee78a1a1b"), looks := false }, kinds := [], alts := [], laidByText := true, laidKinds := [.data, .data, .data, .data, .pinned], laidTests := true, laidLooks := .later }
def TableLaterCardSaid : Prop := Claim7.holds Tryz.pinned (.plain (OpenSpec.ofChange tableLaterSpec)) tableLaterCard

/-- THE TIED CARD OF 'hubbublaw12.TableWrong'. -/
def tableWrongCard : Claim7 := { stood := { row := tableWrongRow, standIns := [], harness := (true, "2d336d30b0411224886f3d91233d5cb7d7732ec2f95424449166798ee78a1a1b"), looks := false }, kinds := [], alts := [], laidByText := true, laidKinds := [.data, .data, .data, .data, .pinned], laidTests := true, laidLooks := .later }
def TableWrongCardSaid : Prop := Claim7.holds Tryz.pinned (.plain (OpenSpec.ofChange tableWrongSpec)) tableWrongCard

/-- THE SECOND FORM's CARD OF 'hubbublaw14.FrameTells'. -/
def frameTellsUptoCard : Claim7 := { stood := { row := frameTellsUptoRow, standIns := [], harness := (true, "2d336d30b0411224886f3d91233d5cb7d7732ec2f95424449166798ee78a1a1b"), looks := false }, kinds := [], alts := [], laidByText := true, laidKinds := [.data, .pinned], laidTests := true, laidLooks := .later }
def FrameTellsUptoCardSaid : Prop := Claim7.holds Tryz.pinned (.plain (OpenSpec.upto frameTellsSpec)) frameTellsUptoCard

/-- THE SECOND FORM's CARD OF 'hubbublaw14.FrameReads'. -/
def frameReadsUptoCard : Claim7 := { stood := { row := frameReadsUptoRow, standIns := [], harness := (true, "2d336d30b0411224886f3d91233d5cb7d7732ec2f95424449166798ee78a1a1b"), looks := false }, kinds := [], alts := [], laidByText := true, laidKinds := [.data, .pinned], laidTests := true, laidLooks := .later }
def FrameReadsUptoCardSaid : Prop := Claim7.holds Tryz.pinned (.plain (OpenSpec.upto frameReadsSpec)) frameReadsUptoCard

/-- THE SECOND FORM's CARD OF 'hubbublaw13.DigestPlaces'. -/
def digestPlacesUptoCard : Claim7 := { stood := { row := digestPlacesUptoRow, standIns := [], harness := (true, "2d336d30b0411224886f3d91233d5cb7d7732ec2f95424449166798ee78a1a1b"), looks := false }, kinds := [], alts := [], laidByText := true, laidKinds := [.data, .data, .data, .data, .pinned], laidTests := true, laidLooks := .later }
def DigestPlacesUptoCardSaid : Prop := Claim7.holds Tryz.pinned (.plain (OpenSpec.upto digestPlacesSpec)) digestPlacesUptoCard

/-- THE SECOND FORM's CARD OF 'hubbublaw13.DigestAlike'. -/
def digestAlikeUptoCard : Claim7 := { stood := { row := digestAlikeUptoRow, standIns := [], harness := (true, "2d336d30b0411224886f3d91233d5cb7d7732ec2f95424449166798ee78a1a1b"), looks := false }, kinds := [], alts := [], laidByText := true, laidKinds := [.data, .data, .data, .data, .pinned], laidTests := true, laidLooks := .later }
def DigestAlikeUptoCardSaid : Prop := Claim7.holds Tryz.pinned (.plain (OpenSpec.upto digestAlikeSpec)) digestAlikeUptoCard

/-- THE SECOND FORM's CARD OF 'hubbublaw12.TableMerges'. -/
def tableMergesUptoCard : Claim7 := { stood := { row := tableMergesUptoRow, standIns := [], harness := (true, "2d336d30b0411224886f3d91233d5cb7d7732ec2f95424449166798ee78a1a1b"), looks := false }, kinds := [], alts := [], laidByText := true, laidKinds := [.data, .data, .data, .data, .pinned], laidTests := true, laidLooks := .later }
def TableMergesUptoCardSaid : Prop := Claim7.holds Tryz.pinned (.plain (OpenSpec.upto tableMergesSpec)) tableMergesUptoCard

/-- THE SECOND FORM's CARD OF 'hubbublaw12.TableSeen'. -/
def tableSeenUptoCard : Claim7 := { stood := { row := tableSeenUptoRow, standIns := [], harness := (true, "2d336d30b0411224886f3d91233d5cb7d7732ec2f95424449166798ee78a1a1b"), looks := false }, kinds := [], alts := [], laidByText := true, laidKinds := [.data, .data, .data, .data, .pinned], laidTests := true, laidLooks := .later }
def TableSeenUptoCardSaid : Prop := Claim7.holds Tryz.pinned (.plain (OpenSpec.upto tableSeenSpec)) tableSeenUptoCard

/-- THE SECOND FORM's CARD OF 'hubbublaw12.TableLater'. -/
def tableLaterUptoCard : Claim7 := { stood := { row := tableLaterUptoRow, standIns := [], harness := (true, "2d336d30b0411224886f3d91233d5cb7d7732ec2f95424449166798ee78a1a1b"), looks := false }, kinds := [], alts := [], laidByText := true, laidKinds := [.data, .data, .data, .data, .pinned], laidTests := true, laidLooks := .later }
def TableLaterUptoCardSaid : Prop := Claim7.holds Tryz.pinned (.plain (OpenSpec.upto tableLaterSpec)) tableLaterUptoCard

/-- THE SECOND FORM's CARD OF 'hubbublaw12.TableWrong'. -/
def tableWrongUptoCard : Claim7 := { stood := { row := tableWrongUptoRow, standIns := [], harness := (true, "2d336d30b0411224886f3d91233d5cb7d7732ec2f95424449166798ee78a1a1b"), looks := false }, kinds := [], alts := [], laidByText := true, laidKinds := [.data, .data, .data, .data, .pinned], laidTests := true, laidLooks := .later }
def TableWrongUptoCardSaid : Prop := Claim7.holds Tryz.pinned (.plain (OpenSpec.upto tableWrongSpec)) tableWrongUptoCard
end Rows
end Go.Proofs.YtbmbcjmgjdnlnaaGreatDoor
