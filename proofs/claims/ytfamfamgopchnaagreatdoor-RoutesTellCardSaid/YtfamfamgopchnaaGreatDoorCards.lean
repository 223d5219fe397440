/-
  DERIVED. GIVEN WITH THE SEED: THE CARDS: each row of YtfamfamgopchnaaGreatDoorRows.lean that lists a variable, with what it lists TIED to the program's text (the seventh form; the later family's looks); each row that meets fmt, with fmt's text TOLD by the authors' own Lean function (tested against real Go, not proved from fmt's source: count such statements apart). THE CARD IS WHAT COUNTS. Prove the row's statement (the work); the ties are given (YtfamfamgopchnaaGreatDoorTie.lean); close each card by the builder's one call (the guide's Derived/Test/ToyasCard.lean, 'card_holds'). Laid BY PROGRAM, IN A SANDBOX (cutbox-door.mjs). By AI agents, Wed Nov 11 2026. No macro, syntax, notation, axiom, sorry.
-/
import Derived.Test.YtfamfamgopchnaaGreatDoorRows
import GoSem.ClaimSeven
namespace Go.Proofs.YtfamfamgopchnaaGreatDoor
namespace Rows

/-- THE TIED CARD OF 'hubbublaw14.FrameTurned'. -/
def frameTurnedCard : Claim7 := { stood := { row := frameTurnedRow, standIns := [], harness := (true, "d12baa25ea3457f3f18546b1ae65fb0a4f7f3fa09c91c08c6f8436c58ead2492"), looks := false }, kinds := [], alts := [], laidByText := true, laidKinds := [.data, .pinned], laidTests := true, laidLooks := .later }
def FrameTurnedCardSaid : Prop := Claim7.holds Tryz.pinned (.plain (OpenSpec.ofChange frameTurnedSpec)) frameTurnedCard

/-- THE TIED CARD OF 'hubbublaw10.RoutesOrder'. -/
def routesOrderCard : Claim7 := { stood := { row := routesOrderRow, standIns := [], harness := (true, "d12baa25ea3457f3f18546b1ae65fb0a4f7f3fa09c91c08c6f8436c58ead2492"), looks := false }, kinds := [], alts := [], laidByText := true, laidKinds := [.data, .pinned], laidTests := true, laidLooks := .later }
def RoutesOrderCardSaid : Prop := Claim7.holds Tryz.pinned (.plain (OpenSpec.ofChange routesOrderSpec)) routesOrderCard

/-- THE TIED CARD OF 'hubbublaw10.RoutesRight'. -/
def routesRightCard : Claim7 := { stood := { row := routesRightRow, standIns := [], harness := (true, "d12baa25ea3457f3f18546b1ae65fb0a4f7f3fa09c91c08c6f8436c58ead2492"), looks := false }, kinds := [], alts := [], laidByText := true, laidKinds := [.data, .pinned], laidTests := true, laidLooks := .later }
def RoutesRightCardSaid : Prop := Claim7.holds Tryz.pinned (.plain (OpenSpec.ofChange routesRightSpec)) routesRightCard

/-- THE TIED CARD OF 'hubbublaw10.RoutesTell'. -/
def routesTellCard : Claim7 := { stood := { row := routesTellRow, standIns := [], harness := (true, "d12baa25ea3457f3f18546b1ae65fb0a4f7f3fa09c91c08c6f8436c58ead2492"), looks := false }, kinds := [], alts := [], laidByText := true, laidKinds := [.data, .pinned], laidTests := true, laidLooks := .later }
def RoutesTellCardSaid : Prop := Claim7.holds Tryz.pinned (.plain (OpenSpec.ofChange routesTellSpec)) routesTellCard

/-- THE TIED CARD OF 'hubbublaw10.RoutesTwice'. -/
def routesTwiceCard : Claim7 := { stood := { row := routesTwiceRow, standIns := [], harness := (true, "d12baa25ea3457f3f18546b1ae65fb0a4f7f3fa09c91c08c6f8436c58ead2492"), looks := false }, kinds := [], alts := [], laidByText := true, laidKinds := [.data, .pinned], laidTests := true, laidLooks := .later }
def RoutesTwiceCardSaid : Prop := Claim7.holds Tryz.pinned (.plain (OpenSpec.ofChange routesTwiceSpec)) routesTwiceCard

/-- THE TIED CARD OF 'hubbublaw10.RoutesOwn'. -/
def routesOwnCard : Claim7 := { stood := { row := routesOwnRow, standIns := [], harness := (true, "d12baa25ea3457f3f18546b1ae65fb0a4f7f3fa09c91c08c6f8436c58ead2492"), looks := false }, kinds := [], alts := [], laidByText := true, laidKinds := [.data, .pinned], laidTests := true, laidLooks := .later }
def RoutesOwnCardSaid : Prop := Claim7.holds Tryz.pinned (.plain (OpenSpec.ofChange routesOwnSpec)) routesOwnCard

/-- THE TIED CARD OF 'hubbublaw10.RoutesFenced'. -/
def routesFencedCard : Claim7 := { stood := { row := routesFencedRow, standIns := [], harness := (true, "d12baa25ea3457f3f18546b1ae65fb0a4f7f3fa09c91c08c6f8436c58ead2492"), looks := false }, kinds := [], alts := [], laidByText := true, laidKinds := [.data, .pinned], laidTests := true, laidLooks := .later }
def RoutesFencedCardSaid : Prop := Claim7.holds Tryz.pinned (.plain (OpenSpec.ofChange routesFencedSpec)) routesFencedCard

/-- THE SECOND FORM's CARD OF 'hubbublaw14.FrameTurned'. -/
def frameTurnedUptoCard : Claim7 := { stood := { row := frameTurnedUptoRow, standIns := [], harness := (true, "d12baa25ea3457f3f18546b1ae65fb0a4f7f3fa09c91c08c6f8436c58ead2492"), looks := false }, kinds := [], alts := [], laidByText := true, laidKinds := [.data, .pinned], laidTests := true, laidLooks := .later }
def FrameTurnedUptoCardSaid : Prop := Claim7.holds Tryz.pinned (.plain (OpenSpec.upto frameTurnedSpec)) frameTurnedUptoCard

/-- THE SECOND FORM's CARD OF 'hubbublaw10.RoutesOrder'. -/
def routesOrderUptoCard : Claim7 := { stood := { row := routesOrderUptoRow, standIns := [], harness := (true, "d12baa25ea3457f3f18546b1ae65fb0a4f7f3fa09c91c08c6f8436c58ead2492"), looks := false }, kinds := [], alts := [], laidByText := true, laidKinds := [.data, .pinned], laidTests := true, laidLooks := .later }
def RoutesOrderUptoCardSaid : Prop := Claim7.holds Tryz.pinned (.plain (OpenSpec.upto routesOrderSpec)) routesOrderUptoCard

/-- THE SECOND FORM's CARD OF 'hubbublaw10.RoutesRight'. -/
def routesRightUptoCard : Claim7 := { stood := { row := routesRightUptoRow, standIns := [], harness := (true, "d12baa25ea3457f3f18546b1ae65fb0a4f7f3fa09c91c08c6f8436c58ead2492"), looks := false }, kinds := [], alts := [], laidByText := true, laidKinds := [.data, .pinned], laidTests := true, laidLooks := .later }
def RoutesRightUptoCardSaid : Prop := Claim7.holds Tryz.pinned (.plain (OpenSpec.upto routesRightSpec)) routesRightUptoCard

/-- THE SECOND FORM's CARD OF 'hubbublaw10.RoutesTell'. -/
def routesTellUptoCard : Claim7 := { stood := { row := routesTellUptoRow, standIns := [], harness := (true, "d12baa25ea3457f3f18546b1ae65fb0a4f7f3fa09c91c08c6f8436c58ead2492"), looks := false }, kinds := [], alts := [], laidByText := true, laidKinds := [.data, .pinned], laidTests := true, laidLooks := .later }
def RoutesTellUptoCardSaid : Prop := Claim7.holds Tryz.pinned (.plain (OpenSpec.upto routesTellSpec)) routesTellUptoCard

/-- THE SECOND FORM's CARD OF 'hubbublaw10.RoutesTwice'. -/
def routesTwiceUptoCard : Claim7 := { stood := { row := routesTwiceUptoRow, standIns := [], harness := (true, "d12baa25ea3457f3f18546b1ae65fb0a4f7f3fa09c91c08c6f8436c58ead2492"), looks := false }, kinds := [], alts := [], laidByText := true, laidKinds := [.data, .pinned], laidTests := true, laidLooks := .later }
def RoutesTwiceUptoCardSaid : Prop := Claim7.holds Tryz.pinned (.plain (OpenSpec.upto routesTwiceSpec)) routesTwiceUptoCard

/-- THE SECOND FORM's CARD OF 'hubbublaw10.RoutesOwn'. -/
def routesOwnUptoCard : Claim7 := { stood := { row := routesOwnUptoRow, standIns := [], harness := (true, "d12baa25ea3457f3f18546b1ae65fb0a4f7f3fa09c91c08c6f8436c58ead2492"), looks := false }, kinds := [], alts := [], laidByText := true, laidKinds := [.data, .pinned], laidTests := true, laidLooks := .later }
def RoutesOwnUptoCardSaid : Prop := Claim7.holds Tryz.pinned (.plain (OpenSpec.upto routesOwnSpec)) routesOwnUptoCard

/-- THE SECOND FORM's CARD OF 'hubbublaw10.RoutesFenced'. -/
def routesFencedUptoCard : Claim7 := { stood := { row := routesFencedUptoRow, standIns := [], harness := (true, "d12baa25ea3457f3f18546b1ae65fb0a4f7f3fa09c91c08c6f8436c58ead2492"), looks := false }, kinds := [], alts := [], laidByText := true, laidKinds := [.data, .pinned], laidTests := true, laidLooks := .later }
def RoutesFencedUptoCardSaid : Prop := Claim7.holds Tryz.pinned (.plain (OpenSpec.upto routesFencedSpec)) routesFencedUptoCard
end Rows
end Go.Proofs.YtfamfamgopchnaaGreatDoor
