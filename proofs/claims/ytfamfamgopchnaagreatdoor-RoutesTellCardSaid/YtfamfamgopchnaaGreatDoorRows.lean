/-
  NARROWER THAN 'FOR EVERY INPUT', by the rows' own cells (each row's printed sentence says how): FrameTurned: laid · RoutesOrder: laid · RoutesRight: laid · RoutesTell: laid · RoutesTwice: laid · RoutesOwn: laid · RoutesFenced: laid.
  DERIVED. THE GIVEN ROWS OF THIS SEAT. 7 by the template 'for every input the law returns true; each argument reads behind the call as it read before'; 0 by the template 'total and deterministic' (their statements: YtfamfamgopchnaaGreatDoorTotals.lean).
  GIVEN WITH THE SEED: the statements are not yours to turn. If you find one false, say at which input.
  Laid BY PROGRAM, IN A SANDBOX (cutbox-rows.mjs): the forced cells as the released guide's own fill.sh prints them over the translation 42703b847d4b3cfd… (all of the seat's roots in one cut). By AI agents, Wed Nov 11 2026. No macro, syntax, notation, axiom, sorry.
-/
import Derived.Test.YtfamfamgopchnaaGreatDoorChecked
import GoSem.PinnedTables
import GoSem.Claim
import GoSem.ClaimJoined
import GoSem.ClaimMapViews
import Derived.JoinedTies
import Derived.KernelRfl
namespace Go.Proofs.YtfamfamgopchnaaGreatDoor
/- THE CELL 'sum', in the pinned program and in every row, IS THE sha256 OF THE DUMP (.gsa) THAT YtfamfamgopchnaaGreatDoorProg.lean LOADS. Nothing in Lean hashes anything: it is a label: what it is worth is what the hold of that sum in a sandbox is worth. -/
noncomputable def Tryz.pinned : Pinned := { name := "ytfamfamgopchnaagreatdoor", sum := "42703b847d4b3cfd389d3bc95212d359d26f81822364d7edc9b2f3fe66c86c62", checked := Tryz.checked }
namespace Rows
def none {H : Type} : Left H := { results := [], args := [] }

/- WHAT THE LISTED PACKAGE-LEVEL VARIABLES READ AS WHEN THE CALL BEGINS. Each datum BY PROGRAM (the guide's laid-datum.mjs) off the statement by which the dump's own 'gosem.cut.vars' lays the variable. In a bare row this is a premise. The card (YtfamfamgopchnaaGreatDoorCards.lean) ties it to the program's text. -/
def laid_unicode_utf8_acceptRanges {H : Type} : DataW H := .agg [.agg [.lit (.int .u8 128), .lit (.int .u8 191)], .agg [.lit (.int .u8 160), .lit (.int .u8 191)], .agg [.lit (.int .u8 128), .lit (.int .u8 159)], .agg [.lit (.int .u8 144), .lit (.int .u8 191)], .agg [.lit (.int .u8 128), .lit (.int .u8 143)], .agg [.lit (.int .u8 0), .lit (.int .u8 0)], .agg [.lit (.int .u8 0), .lit (.int .u8 0)], .agg [.lit (.int .u8 0), .lit (.int .u8 0)], .agg [.lit (.int .u8 0), .lit (.int .u8 0)], .agg [.lit (.int .u8 0), .lit (.int .u8 0)], .agg [.lit (.int .u8 0), .lit (.int .u8 0)], .agg [.lit (.int .u8 0), .lit (.int .u8 0)], .agg [.lit (.int .u8 0), .lit (.int .u8 0)], .agg [.lit (.int .u8 0), .lit (.int .u8 0)], .agg [.lit (.int .u8 0), .lit (.int .u8 0)], .agg [.lit (.int .u8 0), .lit (.int .u8 0)]]
/-- One of Go's own tables, pinned by name: the form's constant. -/
def laid_unicode_utf8_first : DataW Unit := Go.Pinned.utf8First

/-- 'hubbublaw14.FrameTurned': WHATEVER THE INPUT: true; the input reads as it did. -/
def frameTurnedSpec : ChangeSpec := { name := "frameTurned", fn := fun _ => fun
  | [d1, d2, d3, d4, d5, d6] => { results := [.lit (.bool true)], args := [d1, d2, d3, d4, d5, d6] }
  | _ => none }
def frameTurnedRow : OpenClaim := { program := "ytfamfamgopchnaagreatdoor", sum := "42703b847d4b3cfd389d3bc95212d359d26f81822364d7edc9b2f3fe66c86c62", func := "hubbub/hubbublaw14.FrameTurned", spec := "frameTurned", inPlace := ["internal/bytealg.CountString", "internal/bytealg.IndexByteString", "internal/bytealg.IndexString"], unfollowed := true, recurses := true, named := ["unicode/utf8.first", "unicode/utf8.acceptRanges", "internal/bytealg.MaxLen"], plainKeys := false, apart := false, laid := [("unicode/utf8.acceptRanges", laid_unicode_utf8_acceptRanges), ("unicode/utf8.first", laid_unicode_utf8_first)] }
def FrameTurnedSaid : Prop := frameTurnedRow.holds Tryz.pinned (OpenSpec.ofChange frameTurnedSpec)

/-- ITS FALSE NEIGHBOUR: 'it returns false'. Refute it at one input. -/
def frameTurnedWrong : ChangeSpec := { name := "frameTurned", fn := fun _ => fun
  | [d1, d2, d3, d4, d5, d6] => { results := [.lit (.bool false)], args := [d1, d2, d3, d4, d5, d6] }
  | _ => none }
def FrameTurnedWrongFalsely : Prop := frameTurnedRow.holds Tryz.pinned (OpenSpec.ofChange frameTurnedWrong)

/-- 'hubbublaw10.RoutesOrder': WHATEVER THE INPUT: true; the input reads as it did. -/
def routesOrderSpec : ChangeSpec := { name := "routesOrder", fn := fun _ => fun
  | [d1, d2, d3, d4] => { results := [.lit (.bool true)], args := [d1, d2, d3, d4] }
  | _ => none }
def routesOrderRow : OpenClaim := { program := "ytfamfamgopchnaagreatdoor", sum := "42703b847d4b3cfd389d3bc95212d359d26f81822364d7edc9b2f3fe66c86c62", func := "hubbub/hubbublaw10.RoutesOrder", spec := "routesOrder", inPlace := ["internal/bytealg.CountString", "internal/bytealg.IndexByteString", "internal/bytealg.IndexString", "slices.overlaps[hubbub/api.Dot]", "slices.overlaps[hubbub/api.Fence]"], unfollowed := true, recurses := true, named := ["unicode/utf8.first", "unicode/utf8.acceptRanges", "internal/bytealg.MaxLen"], plainKeys := false, apart := false, laid := [("unicode/utf8.acceptRanges", laid_unicode_utf8_acceptRanges), ("unicode/utf8.first", laid_unicode_utf8_first)] }
def RoutesOrderSaid : Prop := routesOrderRow.holds Tryz.pinned (OpenSpec.ofChange routesOrderSpec)

/-- ITS FALSE NEIGHBOUR: 'it returns false'. Refute it at one input. -/
def routesOrderWrong : ChangeSpec := { name := "routesOrder", fn := fun _ => fun
  | [d1, d2, d3, d4] => { results := [.lit (.bool false)], args := [d1, d2, d3, d4] }
  | _ => none }
def RoutesOrderWrongFalsely : Prop := routesOrderRow.holds Tryz.pinned (OpenSpec.ofChange routesOrderWrong)

/-- 'hubbublaw10.RoutesRight': WHATEVER THE INPUT: true; the input reads as it did. -/
def routesRightSpec : ChangeSpec := { name := "routesRight", fn := fun _ => fun
  | [d1, d2, d3] => { results := [.lit (.bool true)], args := [d1, d2, d3] }
  | _ => none }
def routesRightRow : OpenClaim := { program := "ytfamfamgopchnaagreatdoor", sum := "42703b847d4b3cfd389d3bc95212d359d26f81822364d7edc9b2f3fe66c86c62", func := "hubbub/hubbublaw10.RoutesRight", spec := "routesRight", inPlace := ["internal/bytealg.CountString", "internal/bytealg.IndexByteString", "internal/bytealg.IndexString", "slices.overlaps[hubbub/api.Dot]", "slices.overlaps[hubbub/api.Fence]"], unfollowed := true, recurses := true, named := ["unicode/utf8.first", "unicode/utf8.acceptRanges", "internal/bytealg.MaxLen"], plainKeys := false, apart := false, laid := [("unicode/utf8.acceptRanges", laid_unicode_utf8_acceptRanges), ("unicode/utf8.first", laid_unicode_utf8_first)] }
def RoutesRightSaid : Prop := routesRightRow.holds Tryz.pinned (OpenSpec.ofChange routesRightSpec)

/-- ITS FALSE NEIGHBOUR: 'it returns false'. Refute it at one input. -/
def routesRightWrong : ChangeSpec := { name := "routesRight", fn := fun _ => fun
  | [d1, d2, d3] => { results := [.lit (.bool false)], args := [d1, d2, d3] }
  | _ => none }
def RoutesRightWrongFalsely : Prop := routesRightRow.holds Tryz.pinned (OpenSpec.ofChange routesRightWrong)

/-- 'hubbublaw10.RoutesTell': WHATEVER THE INPUT: true; the input reads as it did. -/
def routesTellSpec : ChangeSpec := { name := "routesTell", fn := fun _ => fun
  | [d1, d2, d3, d4, d5, d6, d7] => { results := [.lit (.bool true)], args := [d1, d2, d3, d4, d5, d6, d7] }
  | _ => none }
def routesTellRow : OpenClaim := { program := "ytfamfamgopchnaagreatdoor", sum := "42703b847d4b3cfd389d3bc95212d359d26f81822364d7edc9b2f3fe66c86c62", func := "hubbub/hubbublaw10.RoutesTell", spec := "routesTell", inPlace := ["internal/bytealg.CountString", "internal/bytealg.IndexByteString", "internal/bytealg.IndexString", "slices.overlaps[hubbub/api.Dot]", "slices.overlaps[hubbub/api.Fence]"], unfollowed := true, recurses := true, named := ["unicode/utf8.first", "unicode/utf8.acceptRanges", "internal/bytealg.MaxLen"], plainKeys := false, apart := false, laid := [("unicode/utf8.acceptRanges", laid_unicode_utf8_acceptRanges), ("unicode/utf8.first", laid_unicode_utf8_first)] }
def RoutesTellSaid : Prop := routesTellRow.holds Tryz.pinned (OpenSpec.ofChange routesTellSpec)

/-- ITS FALSE NEIGHBOUR: 'it returns false'. Refute it at one input. -/
def routesTellWrong : ChangeSpec := { name := "routesTell", fn := fun _ => fun
  | [d1, d2, d3, d4, d5, d6, d7] => { results := [.lit (.bool false)], args := [d1, d2, d3, d4, d5, d6, d7] }
  | _ => none }
def RoutesTellWrongFalsely : Prop := routesTellRow.holds Tryz.pinned (OpenSpec.ofChange routesTellWrong)

/-- 'hubbublaw10.RoutesTwice': WHATEVER THE INPUT: true; the input reads as it did. -/
def routesTwiceSpec : ChangeSpec := { name := "routesTwice", fn := fun _ => fun
  | [d1, d2] => { results := [.lit (.bool true)], args := [d1, d2] }
  | _ => none }
def routesTwiceRow : OpenClaim := { program := "ytfamfamgopchnaagreatdoor", sum := "42703b847d4b3cfd389d3bc95212d359d26f81822364d7edc9b2f3fe66c86c62", func := "hubbub/hubbublaw10.RoutesTwice", spec := "routesTwice", inPlace := ["internal/bytealg.CountString", "internal/bytealg.IndexByteString", "internal/bytealg.IndexString", "slices.overlaps[hubbub/api.Dot]", "slices.overlaps[hubbub/api.Fence]"], unfollowed := true, recurses := true, named := ["unicode/utf8.first", "unicode/utf8.acceptRanges", "internal/bytealg.MaxLen"], plainKeys := false, apart := false, laid := [("unicode/utf8.acceptRanges", laid_unicode_utf8_acceptRanges), ("unicode/utf8.first", laid_unicode_utf8_first)] }
def RoutesTwiceSaid : Prop := routesTwiceRow.holds Tryz.pinned (OpenSpec.ofChange routesTwiceSpec)

/-- ITS FALSE NEIGHBOUR: 'it returns false'. Refute it at one input. -/
def routesTwiceWrong : ChangeSpec := { name := "routesTwice", fn := fun _ => fun
  | [d1, d2] => { results := [.lit (.bool false)], args := [d1, d2] }
  | _ => none }
def RoutesTwiceWrongFalsely : Prop := routesTwiceRow.holds Tryz.pinned (OpenSpec.ofChange routesTwiceWrong)

/-- 'hubbublaw10.RoutesOwn': WHATEVER THE INPUT: true; the input reads as it did. -/
def routesOwnSpec : ChangeSpec := { name := "routesOwn", fn := fun _ => fun
  | [d1, d2] => { results := [.lit (.bool true)], args := [d1, d2] }
  | _ => none }
def routesOwnRow : OpenClaim := { program := "ytfamfamgopchnaagreatdoor", sum := "42703b847d4b3cfd389d3bc95212d359d26f81822364d7edc9b2f3fe66c86c62", func := "hubbub/hubbublaw10.RoutesOwn", spec := "routesOwn", inPlace := ["internal/bytealg.CountString", "internal/bytealg.IndexByteString", "internal/bytealg.IndexString", "slices.overlaps[hubbub/api.Dot]", "slices.overlaps[hubbub/api.Fence]"], unfollowed := true, recurses := true, named := ["unicode/utf8.first", "unicode/utf8.acceptRanges", "internal/bytealg.MaxLen"], plainKeys := false, apart := false, laid := [("unicode/utf8.acceptRanges", laid_unicode_utf8_acceptRanges), ("unicode/utf8.first", laid_unicode_utf8_first)] }
def RoutesOwnSaid : Prop := routesOwnRow.holds Tryz.pinned (OpenSpec.ofChange routesOwnSpec)

/-- ITS FALSE NEIGHBOUR: 'it returns false'. Refute it at one input. -/
def routesOwnWrong : ChangeSpec := { name := "routesOwn", fn := fun _ => fun
  | [d1, d2] => { results := [.lit (.bool false)], args := [d1, d2] }
  | _ => none }
def RoutesOwnWrongFalsely : Prop := routesOwnRow.holds Tryz.pinned (OpenSpec.ofChange routesOwnWrong)

/-- 'hubbublaw10.RoutesFenced': WHATEVER THE INPUT: true; the input reads as it did. -/
def routesFencedSpec : ChangeSpec := { name := "routesFenced", fn := fun _ => fun
  | [d1, d2, d3, d4] => { results := [.lit (.bool true)], args := [d1, d2, d3, d4] }
  | _ => none }
def routesFencedRow : OpenClaim := { program := "ytfamfamgopchnaagreatdoor", sum := "42703b847d4b3cfd389d3bc95212d359d26f81822364d7edc9b2f3fe66c86c62", func := "hubbub/hubbublaw10.RoutesFenced", spec := "routesFenced", inPlace := ["internal/bytealg.CountString", "internal/bytealg.IndexByteString", "internal/bytealg.IndexString", "slices.overlaps[hubbub/api.Dot]", "slices.overlaps[hubbub/api.Fence]"], unfollowed := true, recurses := true, named := ["unicode/utf8.first", "unicode/utf8.acceptRanges", "internal/bytealg.MaxLen"], plainKeys := false, apart := false, laid := [("unicode/utf8.acceptRanges", laid_unicode_utf8_acceptRanges), ("unicode/utf8.first", laid_unicode_utf8_first)] }
def RoutesFencedSaid : Prop := routesFencedRow.holds Tryz.pinned (OpenSpec.ofChange routesFencedSpec)

/-- ITS FALSE NEIGHBOUR: 'it returns false'. Refute it at one input. -/
def routesFencedWrong : ChangeSpec := { name := "routesFenced", fn := fun _ => fun
  | [d1, d2, d3, d4] => { results := [.lit (.bool false)], args := [d1, d2, d3, d4] }
  | _ => none }
def RoutesFencedWrongFalsely : Prop := routesFencedRow.holds Tryz.pinned (OpenSpec.ofChange routesFencedWrong)

/- THE SECOND FORM. 'bulk': how many values and letters a reading holds, each counted each time it is reached (what is shared counts as often as it is met; a slice's spare places count too). A statement '..UptoSaid' is the law's where the arguments, and the package variables that the reading takes, are together of bulk at most 1048576: NARROWER than '..Said'. Prove '..Said' where nothing that the law and all that it calls make is longer than what came in: it says more and counts as full. Else prove '..UptoSaid'. A law counts once. -/
mutual
def uptoBulk {H : Type} : DataW H → Nat
  | .lit (.string bytes) => bytes.length + 1
  | .lit _ => 1
  | .nil => 1
  | .ptr d => uptoBulk d + 1
  | .slice elems spare => uptoBulkAll elems + uptoBulkAll spare + 1
  | .agg parts => uptoBulkAll parts + 1
  | .iface _ d => uptoBulk d + 1
  | .map entries => uptoBulkEntries entries + 1
  | .held _ => 1
def uptoBulkAll {H : Type} : List (DataW H) → Nat
  | [] => 0
  | d :: r => uptoBulk d + uptoBulkAll r
def uptoBulkEntries {H : Type} : List (Lit × DataW H) → Nat
  | [] => 0
  | x :: r => uptoBulkEntry x + uptoBulkEntries r
def uptoBulkEntry {H : Type} : Lit × DataW H → Nat
  | (.string bytes, d) => bytes.length + uptoBulk d + 1
  | (_, d) => uptoBulk d + 1
 end
def uptoSmall : (H : Type) → List (DataW H) → Bool := fun _ ds => decide (uptoBulkAll ds ≤ 1048576)
def OpenSpec.upto (s : _root_.Go.ChangeSpec) : _root_.Go.OpenSpec := { _root_.Go.OpenSpec.ofChange s with cond := some uptoSmall }

/-- 'hubbublaw14.FrameTurned', WHERE WHAT IT READS IS OF BULK AT MOST 1048576: true; the input reads as it did. -/
def frameTurnedUptoRow : OpenClaim := { program := "ytfamfamgopchnaagreatdoor", sum := "42703b847d4b3cfd389d3bc95212d359d26f81822364d7edc9b2f3fe66c86c62", func := "hubbub/hubbublaw14.FrameTurned", spec := "frameTurned", inPlace := ["internal/bytealg.CountString", "internal/bytealg.IndexByteString", "internal/bytealg.IndexString"], unfollowed := true, recurses := true, named := ["unicode/utf8.first", "unicode/utf8.acceptRanges", "internal/bytealg.MaxLen"], plainKeys := false, apart := false, laid := [("unicode/utf8.acceptRanges", laid_unicode_utf8_acceptRanges), ("unicode/utf8.first", laid_unicode_utf8_first)], narrowed := true }
def FrameTurnedUptoSaid : Prop := frameTurnedUptoRow.holds Tryz.pinned (OpenSpec.upto frameTurnedSpec)

/-- 'hubbublaw10.RoutesOrder', WHERE WHAT IT READS IS OF BULK AT MOST 1048576: true; the input reads as it did. -/
def routesOrderUptoRow : OpenClaim := { program := "ytfamfamgopchnaagreatdoor", sum := "42703b847d4b3cfd389d3bc95212d359d26f81822364d7edc9b2f3fe66c86c62", func := "hubbub/hubbublaw10.RoutesOrder", spec := "routesOrder", inPlace := ["internal/bytealg.CountString", "internal/bytealg.IndexByteString", "internal/bytealg.IndexString", "slices.overlaps[hubbub/api.Dot]", "slices.overlaps[hubbub/api.Fence]"], unfollowed := true, recurses := true, named := ["unicode/utf8.first", "unicode/utf8.acceptRanges", "internal/bytealg.MaxLen"], plainKeys := false, apart := false, laid := [("unicode/utf8.acceptRanges", laid_unicode_utf8_acceptRanges), ("unicode/utf8.first", laid_unicode_utf8_first)], narrowed := true }
def RoutesOrderUptoSaid : Prop := routesOrderUptoRow.holds Tryz.pinned (OpenSpec.upto routesOrderSpec)

/-- 'hubbublaw10.RoutesRight', WHERE WHAT IT READS IS OF BULK AT MOST 1048576: true; the input reads as it did. -/
def routesRightUptoRow : OpenClaim := { program := "ytfamfamgopchnaagreatdoor", sum := "42703b847d4b3cfd389d3bc95212d359d26f81822364d7edc9b2f3fe66c86c62", func := "hubbub/hubbublaw10.RoutesRight", spec := "routesRight", inPlace := ["internal/bytealg.CountString", "internal/bytealg.IndexByteString", "internal/bytealg.IndexString", "slices.overlaps[hubbub/api.Dot]", "slices.overlaps[hubbub/api.Fence]"], unfollowed := true, recurses := true, named := ["unicode/utf8.first", "unicode/utf8.acceptRanges", "internal/bytealg.MaxLen"], plainKeys := false, apart := false, laid := [("unicode/utf8.acceptRanges", laid_unicode_utf8_acceptRanges), ("unicode/utf8.first", laid_unicode_utf8_first)], narrowed := true }
def RoutesRightUptoSaid : Prop := routesRightUptoRow.holds Tryz.pinned (OpenSpec.upto routesRightSpec)

/-- 'hubbublaw10.RoutesTell', WHERE WHAT IT READS IS OF BULK AT MOST 1048576: true; the input reads as it did. -/
def routesTellUptoRow : OpenClaim := { program := "ytfamfamgopchnaagreatdoor", sum := "42703b847d4b3cfd389d3bc95212d359d26f81822364d7edc9b2f3fe66c86c62", func := "hubbub/hubbublaw10.RoutesTell", spec := "routesTell", inPlace := ["internal/bytealg.CountString", "internal/bytealg.IndexByteString", "internal/bytealg.IndexString", "slices.overlaps[hubbub/api.Dot]", "slices.overlaps[hubbub/api.Fence]"], unfollowed := true, recurses := true, named := ["unicode/utf8.first", "unicode/utf8.acceptRanges", "internal/bytealg.MaxLen"], plainKeys := false, apart := false, laid := [("unicode/utf8.acceptRanges", laid_unicode_utf8_acceptRanges), ("unicode/utf8.first", laid_unicode_utf8_first)], narrowed := true }
def RoutesTellUptoSaid : Prop := routesTellUptoRow.holds Tryz.pinned (OpenSpec.upto routesTellSpec)

/-- 'hubbublaw10.RoutesTwice', WHERE WHAT IT READS IS OF BULK AT MOST 1048576: true; the input reads as it did. -/
def routesTwiceUptoRow : OpenClaim := { program := "ytfamfamgopchnaagreatdoor", sum := "42703b847d4b3cfd389d3bc95212d359d26f81822364d7edc9b2f3fe66c86c62", func := "hubbub/hubbublaw10.RoutesTwice", spec := "routesTwice", inPlace := ["internal/bytealg.CountString", "internal/bytealg.IndexByteString", "internal/bytealg.IndexString", "slices.overlaps[hubbub/api.Dot]", "slices.overlaps[hubbub/api.Fence]"], unfollowed := true, recurses := true, named := ["unicode/utf8.first", "unicode/utf8.acceptRanges", "internal/bytealg.MaxLen"], plainKeys := false, apart := false, laid := [("unicode/utf8.acceptRanges", laid_unicode_utf8_acceptRanges), ("unicode/utf8.first", laid_unicode_utf8_first)], narrowed := true }
def RoutesTwiceUptoSaid : Prop := routesTwiceUptoRow.holds Tryz.pinned (OpenSpec.upto routesTwiceSpec)

/-- 'hubbublaw10.RoutesOwn', WHERE WHAT IT READS IS OF BULK AT MOST 1048576: true; the input reads as it did. -/
def routesOwnUptoRow : OpenClaim := { program := "ytfamfamgopchnaagreatdoor", sum := "42703b847d4b3cfd389d3bc95212d359d26f81822364d7edc9b2f3fe66c86c62", func := "hubbub/hubbublaw10.RoutesOwn", spec := "routesOwn", inPlace := ["internal/bytealg.CountString", "internal/bytealg.IndexByteString", "internal/bytealg.IndexString", "slices.overlaps[hubbub/api.Dot]", "slices.overlaps[hubbub/api.Fence]"], unfollowed := true, recurses := true, named := ["unicode/utf8.first", "unicode/utf8.acceptRanges", "internal/bytealg.MaxLen"], plainKeys := false, apart := false, laid := [("unicode/utf8.acceptRanges", laid_unicode_utf8_acceptRanges), ("unicode/utf8.first", laid_unicode_utf8_first)], narrowed := true }
def RoutesOwnUptoSaid : Prop := routesOwnUptoRow.holds Tryz.pinned (OpenSpec.upto routesOwnSpec)

/-- 'hubbublaw10.RoutesFenced', WHERE WHAT IT READS IS OF BULK AT MOST 1048576: true; the input reads as it did. -/
def routesFencedUptoRow : OpenClaim := { program := "ytfamfamgopchnaagreatdoor", sum := "42703b847d4b3cfd389d3bc95212d359d26f81822364d7edc9b2f3fe66c86c62", func := "hubbub/hubbublaw10.RoutesFenced", spec := "routesFenced", inPlace := ["internal/bytealg.CountString", "internal/bytealg.IndexByteString", "internal/bytealg.IndexString", "slices.overlaps[hubbub/api.Dot]", "slices.overlaps[hubbub/api.Fence]"], unfollowed := true, recurses := true, named := ["unicode/utf8.first", "unicode/utf8.acceptRanges", "internal/bytealg.MaxLen"], plainKeys := false, apart := false, laid := [("unicode/utf8.acceptRanges", laid_unicode_utf8_acceptRanges), ("unicode/utf8.first", laid_unicode_utf8_first)], narrowed := true }
def RoutesFencedUptoSaid : Prop := routesFencedUptoRow.holds Tryz.pinned (OpenSpec.upto routesFencedSpec)

end Rows
end Go.Proofs.YtfamfamgopchnaaGreatDoor
