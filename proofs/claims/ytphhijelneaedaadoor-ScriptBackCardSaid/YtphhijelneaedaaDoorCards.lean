/-
  DERIVED. GIVEN WITH THE SEED: THE CARDS: each row of YtphhijelneaedaaDoorRows.lean that lists a variable, with what it lists TIED to the program's text (the seventh form; the later family's looks); each row that meets fmt, with fmt's text TOLD by the authors' own Lean function (tested against real Go, not proved from fmt's source: count such statements apart). THE CARD IS WHAT COUNTS. Prove the row's statement (the work); the ties are given (YtphhijelneaedaaDoorTie.lean); close each card by the builder's one call (the guide's Derived/Test/ToyasCard.lean, 'card_holds'). Laid BY PROGRAM, IN A SANDBOX (cutbox-door.mjs). By AI agents, Wed Nov 11 2026. No macro, syntax, notation, axiom, sorry.
-/
import Derived.Test.YtphhijelneaedaaDoorRows
import GoSem.ClaimSeven
namespace Go.Proofs.YtphhijelneaedaaDoor
namespace Rows

/-- THE TIED CARD OF 'hubbublaw7.TriePlays'. -/
def triePlaysCard : Claim7 := { stood := { row := triePlaysRow, standIns := [], harness := (true, "94b8fcd22ce4e28b7e2b10bb0c143fe15a7dbc6a929d6adf350ea95a91bc1c32"), looks := true }, kinds := [], alts := [], laidByText := true, laidKinds := [.data, .pinned], laidTests := true, laidLooks := .later }
def TriePlaysCardSaid : Prop := Claim7.holds Tryd.pinned (.plain (OpenSpec.ofChange triePlaysSpec)) triePlaysCard

/-- THE TIED CARD OF 'hubbublaw23.ScriptBack'. -/
def scriptBackCard : Claim7 := { stood := { row := scriptBackRow, standIns := [], harness := (true, "94b8fcd22ce4e28b7e2b10bb0c143fe15a7dbc6a929d6adf350ea95a91bc1c32"), looks := true }, kinds := [], alts := [], laidByText := true, laidKinds := [.data, .data, .data, .data, .sentinel, .sentinel, .pinned], laidTests := true, laidLooks := .later }
def ScriptBackCardSaid : Prop := Claim7.holds Tryd.pinned (.plain (OpenSpec.ofChange scriptBackSpec)) scriptBackCard

/-- THE SECOND FORM's CARD OF 'hubbublaw7.TriePlays'. -/
def triePlaysUptoCard : Claim7 := { stood := { row := triePlaysUptoRow, standIns := [], harness := (true, "94b8fcd22ce4e28b7e2b10bb0c143fe15a7dbc6a929d6adf350ea95a91bc1c32"), looks := true }, kinds := [], alts := [], laidByText := true, laidKinds := [.data, .pinned], laidTests := true, laidLooks := .later }
def TriePlaysUptoCardSaid : Prop := Claim7.holds Tryd.pinned (.plain (OpenSpec.upto triePlaysSpec)) triePlaysUptoCard

/-- THE SECOND FORM's CARD OF 'hubbublaw23.ScriptBack'. -/
def scriptBackUptoCard : Claim7 := { stood := { row := scriptBackUptoRow, standIns := [], harness := (true, "94b8fcd22ce4e28b7e2b10bb0c143fe15a7dbc6a929d6adf350ea95a91bc1c32"), looks := true }, kinds := [], alts := [], laidByText := true, laidKinds := [.data, .data, .data, .data, .sentinel, .sentinel, .pinned], laidTests := true, laidLooks := .later }
def ScriptBackUptoCardSaid : Prop := Claim7.holds Tryd.pinned (.plain (OpenSpec.upto scriptBackSpec)) scriptBackUptoCard
end Rows
end Go.Proofs.YtphhijelneaedaaDoor
