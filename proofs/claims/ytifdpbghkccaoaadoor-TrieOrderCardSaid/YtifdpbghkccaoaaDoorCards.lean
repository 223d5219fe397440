/-
  DERIVED. GIVEN WITH THE SEED: THE CARDS: each row of YtifdpbghkccaoaaDoorRows.lean that lists a variable, with what it lists TIED to the program's text (the seventh form; the later family's looks); each row that meets fmt, with fmt's text TOLD by the authors' own Lean function (tested against real Go, not proved from fmt's source: count such statements apart). THE CARD IS WHAT COUNTS. Prove the row's statement (the work); the ties are given (YtifdpbghkccaoaaDoorTie.lean); close each card by the builder's one call (the guide's Derived/Test/ToyasCard.lean, 'card_holds'). Laid BY PROGRAM, IN A SANDBOX (cutbox-door.mjs). By AI agents, Wed Nov 11 2026. No macro, syntax, notation, axiom, sorry.
-/
import Derived.Test.YtifdpbghkccaoaaDoorRows
import GoSem.ClaimSeven
namespace Go.Proofs.YtifdpbghkccaoaaDoor
namespace Rows

/-- THE TIED CARD OF 'hubbublaw7.TrieQos'. -/
def trieQosCard : Claim7 := { stood := { row := trieQosRow, standIns := [], harness := (true, "896464b3944475b263800b1559906ff15381b84f6e997821c5dc02f7590d55c1"), looks := false }, kinds := [], alts := [], laidByText := true, laidKinds := [.data, .pinned], laidTests := true, laidLooks := .later }
def TrieQosCardSaid : Prop := Claim7.holds Tryd.pinned (.plain (OpenSpec.ofChange trieQosSpec)) trieQosCard

/-- THE TIED CARD OF 'hubbublaw7.TrieNone'. -/
def trieNoneCard : Claim7 := { stood := { row := trieNoneRow, standIns := [], harness := (true, "896464b3944475b263800b1559906ff15381b84f6e997821c5dc02f7590d55c1"), looks := false }, kinds := [], alts := [], laidByText := true, laidKinds := [.data, .pinned], laidTests := true, laidLooks := .later }
def TrieNoneCardSaid : Prop := Claim7.holds Tryd.pinned (.plain (OpenSpec.ofChange trieNoneSpec)) trieNoneCard

/-- THE TIED CARD OF 'hubbublaw7.TrieOrder'. -/
def trieOrderCard : Claim7 := { stood := { row := trieOrderRow, standIns := [], harness := (true, "896464b3944475b263800b1559906ff15381b84f6e997821c5dc02f7590d55c1"), looks := false }, kinds := [], alts := [], laidByText := true, laidKinds := [.data, .pinned], laidTests := true, laidLooks := .later }
def TrieOrderCardSaid : Prop := Claim7.holds Tryd.pinned (.plain (OpenSpec.ofChange trieOrderSpec)) trieOrderCard

/-- THE TIED CARD OF 'hubbublaw7.TriePlays'. -/
def triePlaysCard : Claim7 := { stood := { row := triePlaysRow, standIns := [], harness := (true, "896464b3944475b263800b1559906ff15381b84f6e997821c5dc02f7590d55c1"), looks := false }, kinds := [], alts := [], laidByText := true, laidKinds := [.data, .pinned], laidTests := true, laidLooks := .later }
def TriePlaysCardSaid : Prop := Claim7.holds Tryd.pinned (.plain (OpenSpec.ofChange triePlaysSpec)) triePlaysCard

/-- THE SECOND FORM's CARD OF 'hubbublaw7.TrieQos'. -/
def trieQosUptoCard : Claim7 := { stood := { row := trieQosUptoRow, standIns := [], harness := (true, "896464b3944475b263800b1559906ff15381b84f6e997821c5dc02f7590d55c1"), looks := false }, kinds := [], alts := [], laidByText := true, laidKinds := [.data, .pinned], laidTests := true, laidLooks := .later }
def TrieQosUptoCardSaid : Prop := Claim7.holds Tryd.pinned (.plain (OpenSpec.upto trieQosSpec)) trieQosUptoCard

/-- THE SECOND FORM's CARD OF 'hubbublaw7.TrieNone'. -/
def trieNoneUptoCard : Claim7 := { stood := { row := trieNoneUptoRow, standIns := [], harness := (true, "896464b3944475b263800b1559906ff15381b84f6e997821c5dc02f7590d55c1"), looks := false }, kinds := [], alts := [], laidByText := true, laidKinds := [.data, .pinned], laidTests := true, laidLooks := .later }
def TrieNoneUptoCardSaid : Prop := Claim7.holds Tryd.pinned (.plain (OpenSpec.upto trieNoneSpec)) trieNoneUptoCard

/-- THE SECOND FORM's CARD OF 'hubbublaw7.TrieOrder'. -/
def trieOrderUptoCard : Claim7 := { stood := { row := trieOrderUptoRow, standIns := [], harness := (true, "896464b3944475b263800b1559906ff15381b84f6e997821c5dc02f7590d55c1"), looks := false }, kinds := [], alts := [], laidByText := true, laidKinds := [.data, .pinned], laidTests := true, laidLooks := .later }
def TrieOrderUptoCardSaid : Prop := Claim7.holds Tryd.pinned (.plain (OpenSpec.upto trieOrderSpec)) trieOrderUptoCard

/-- THE SECOND FORM's CARD OF 'hubbublaw7.TriePlays'. -/
def triePlaysUptoCard : Claim7 := { stood := { row := triePlaysUptoRow, standIns := [], harness := (true, "896464b3944475b263800b1559906ff15381b84f6e997821c5dc02f7590d55c1"), looks := false }, kinds := [], alts := [], laidByText := true, laidKinds := [.data, .pinned], laidTests := true, laidLooks := .later }
def TriePlaysUptoCardSaid : Prop := Claim7.holds Tryd.pinned (.plain (OpenSpec.upto triePlaysSpec)) triePlaysUptoCard
end Rows
end Go.Proofs.YtifdpbghkccaoaaDoor
