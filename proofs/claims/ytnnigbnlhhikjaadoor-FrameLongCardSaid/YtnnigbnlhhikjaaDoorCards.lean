/-
  DERIVED. GIVEN WITH THE SEED: THE CARDS: each row of YtnnigbnlhhikjaaDoorRows.lean that lists a variable, with what it lists TIED to the program's text (the seventh form; the later family's looks); each row that meets fmt, with fmt's text TOLD by the authors' own Lean function (tested against real Go, not proved from fmt's source: count such statements apart). THE CARD IS WHAT COUNTS. Prove the row's statement (the work); the ties are given (YtnnigbnlhhikjaaDoorTie.lean); close each card by the builder's one call (the guide's Derived/Test/ToyasCard.lean, 'card_holds'). Laid BY PROGRAM, IN A SANDBOX (cutbox-door.mjs). By AI agents, Wed Nov 11 2026. No macro, syntax, notation, axiom, sorry.
-/
import Derived.Test.YtnnigbnlhhikjaaDoorRows
import GoSem.ClaimSeven
namespace Go.Proofs.YtnnigbnlhhikjaaDoor
namespace Rows

/-- THE TIED CARD OF 'hubbublaw14.FrameLong'. -/
def frameLongCard : Claim7 := { stood := { row := frameLongRow, standIns := [], harness := (true, "96e9542eb78b85c17136bcafadfcf885a30a0500657dff7aabe1648233772625"), looks := false }, kinds := [], alts := [], laidByText := true, laidKinds := [.data, .pinned], laidTests := true, laidLooks := .later }
def FrameLongCardSaid : Prop := Claim7.holds Tryd.pinned (.plain (OpenSpec.ofChange frameLongSpec)) frameLongCard

/-- THE TIED CARD OF 'hubbublaw13.DigestBuckets'. -/
def digestBucketsCard : Claim7 := { stood := { row := digestBucketsRow, standIns := [], harness := (true, "96e9542eb78b85c17136bcafadfcf885a30a0500657dff7aabe1648233772625"), looks := false }, kinds := [], alts := [], laidByText := true, laidKinds := [.data, .data, .data, .data, .pinned], laidTests := true, laidLooks := .later }
def DigestBucketsCardSaid : Prop := Claim7.holds Tryd.pinned (.plain (OpenSpec.ofChange digestBucketsSpec)) digestBucketsCard

/-- THE SECOND FORM's CARD OF 'hubbublaw14.FrameLong'. -/
def frameLongUptoCard : Claim7 := { stood := { row := frameLongUptoRow, standIns := [], harness := (true, "96e9542eb78b85c17136bcafadfcf885a30a0500657dff7aabe1648233772625"), looks := false }, kinds := [], alts := [], laidByText := true, laidKinds := [.data, .pinned], laidTests := true, laidLooks := .later }
def FrameLongUptoCardSaid : Prop := Claim7.holds Tryd.pinned (.plain (OpenSpec.upto frameLongSpec)) frameLongUptoCard

/-- THE SECOND FORM's CARD OF 'hubbublaw13.DigestBuckets'. -/
def digestBucketsUptoCard : Claim7 := { stood := { row := digestBucketsUptoRow, standIns := [], harness := (true, "96e9542eb78b85c17136bcafadfcf885a30a0500657dff7aabe1648233772625"), looks := false }, kinds := [], alts := [], laidByText := true, laidKinds := [.data, .data, .data, .data, .pinned], laidTests := true, laidLooks := .later }
def DigestBucketsUptoCardSaid : Prop := Claim7.holds Tryd.pinned (.plain (OpenSpec.upto digestBucketsSpec)) digestBucketsUptoCard
end Rows
end Go.Proofs.YtnnigbnlhhikjaaDoor
