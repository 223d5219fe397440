/-
  No cell of these rows narrows 'for every input' (looked for: loops, veiled, ifaces, maps, wideKeys, modest, calm, conditions, laid).
  DERIVED. THE GIVEN ROWS OF THIS SEAT. 8 by the template 'for every input the law returns true; each argument reads behind the call as it read before'; 0 by the template 'total and deterministic' (their statements: YtdplieimkphneaaTotals.lean).
  GIVEN WITH THE SEED: the statements are not yours to turn. If you find one false, say at which input.
  Laid BY PROGRAM, IN A SANDBOX (cutbox-rows.mjs): the forced cells as the released guide's own fill.sh prints them over the translation 86fa6e9446704457… (all of the seat's roots in one cut). By AI agents, Wed Nov 11 2026. No macro, syntax, notation, axiom, sorry.
-/
import Derived.Test.YtdplieimkphneaaChecked
import GoSem.Claim
import GoSem.ClaimJoined
import GoSem.ClaimMapViews
import Derived.JoinedTies
import Derived.KernelRfl
namespace Go.Proofs.Ytdplieimkphneaa
/- THE CELL 'sum', in the pinned program and in every row, IS THE sha256 OF THE DUMP (.gsa) THAT YtdplieimkphneaaProg.lean LOADS. Nothing in Lean hashes anything: it is a label: what it is worth is what the hold of that sum in a sandbox is worth. -/
noncomputable def Try.pinned : Pinned := { name := "ytdplieimkphneaa", sum := "86fa6e9446704457ed103a53314aa484eeffd5ac196600afb553d6c4c74e55c3", checked := Try.checked }
namespace Rows
def none {H : Type} : Left H := { results := [], args := [] }

/-- 'hubbublaw16.ViewPlays': WHATEVER THE INPUT: true; the input reads as it did. -/
def viewPlaysSpec : ChangeSpec := { name := "viewPlays", fn := fun _ => fun
  | [d1, d2, d3, d4] => { results := [.lit (.bool true)], args := [d1, d2, d3, d4] }
  | _ => none }
def viewPlaysRow : OpenClaim := { program := "ytdplieimkphneaa", sum := "86fa6e9446704457ed103a53314aa484eeffd5ac196600afb553d6c4c74e55c3", func := "hubbub/hubbublaw16.ViewPlays", spec := "viewPlays", apart := false }
def ViewPlaysSaid : Prop := viewPlaysRow.holds Try.pinned (OpenSpec.ofChange viewPlaysSpec)

/-- ITS FALSE NEIGHBOUR: 'it returns false'. Refute it at one input. -/
def viewPlaysWrong : ChangeSpec := { name := "viewPlays", fn := fun _ => fun
  | [d1, d2, d3, d4] => { results := [.lit (.bool false)], args := [d1, d2, d3, d4] }
  | _ => none }
def ViewPlaysWrongFalsely : Prop := viewPlaysRow.holds Try.pinned (OpenSpec.ofChange viewPlaysWrong)

/-- 'hubbublaw16.ViewLate': WHATEVER THE INPUT: true; the input reads as it did. -/
def viewLateSpec : ChangeSpec := { name := "viewLate", fn := fun _ => fun
  | [d1, d2, d3, d4] => { results := [.lit (.bool true)], args := [d1, d2, d3, d4] }
  | _ => none }
def viewLateRow : OpenClaim := { program := "ytdplieimkphneaa", sum := "86fa6e9446704457ed103a53314aa484eeffd5ac196600afb553d6c4c74e55c3", func := "hubbub/hubbublaw16.ViewLate", spec := "viewLate", apart := false }
def ViewLateSaid : Prop := viewLateRow.holds Try.pinned (OpenSpec.ofChange viewLateSpec)

/-- ITS FALSE NEIGHBOUR: 'it returns false'. Refute it at one input. -/
def viewLateWrong : ChangeSpec := { name := "viewLate", fn := fun _ => fun
  | [d1, d2, d3, d4] => { results := [.lit (.bool false)], args := [d1, d2, d3, d4] }
  | _ => none }
def ViewLateWrongFalsely : Prop := viewLateRow.holds Try.pinned (OpenSpec.ofChange viewLateWrong)

/-- 'hubbublaw16.ViewEpochs': WHATEVER THE INPUT: true; the input reads as it did. -/
def viewEpochsSpec : ChangeSpec := { name := "viewEpochs", fn := fun _ => fun
  | [d] => { results := [.lit (.bool true)], args := [d] }
  | _ => none }
def viewEpochsRow : OpenClaim := { program := "ytdplieimkphneaa", sum := "86fa6e9446704457ed103a53314aa484eeffd5ac196600afb553d6c4c74e55c3", func := "hubbub/hubbublaw16.ViewEpochs", spec := "viewEpochs", apart := false }
def ViewEpochsSaid : Prop := viewEpochsRow.holds Try.pinned (OpenSpec.ofChange viewEpochsSpec)

/-- ITS FALSE NEIGHBOUR: 'it returns false'. Refute it at one input. -/
def viewEpochsWrong : ChangeSpec := { name := "viewEpochs", fn := fun _ => fun
  | [d] => { results := [.lit (.bool false)], args := [d] }
  | _ => none }
def ViewEpochsWrongFalsely : Prop := viewEpochsRow.holds Try.pinned (OpenSpec.ofChange viewEpochsWrong)

/-- 'hubbublaw8.ClockOrder': WHATEVER THE INPUT: true; the input reads as it did. -/
def clockOrderSpec : ChangeSpec := { name := "clockOrder", fn := fun _ => fun
  | [d1, d2, d3] => { results := [.lit (.bool true)], args := [d1, d2, d3] }
  | _ => none }
def clockOrderRow : OpenClaim := { program := "ytdplieimkphneaa", sum := "86fa6e9446704457ed103a53314aa484eeffd5ac196600afb553d6c4c74e55c3", func := "hubbub/hubbublaw8.ClockOrder", spec := "clockOrder", apart := false }
def ClockOrderSaid : Prop := clockOrderRow.holds Try.pinned (OpenSpec.ofChange clockOrderSpec)

/-- ITS FALSE NEIGHBOUR: 'it returns false'. Refute it at one input. -/
def clockOrderWrong : ChangeSpec := { name := "clockOrder", fn := fun _ => fun
  | [d1, d2, d3] => { results := [.lit (.bool false)], args := [d1, d2, d3] }
  | _ => none }
def ClockOrderWrongFalsely : Prop := clockOrderRow.holds Try.pinned (OpenSpec.ofChange clockOrderWrong)

/-- 'hubbublaw8.ClockPlays': WHATEVER THE INPUT: true; the input reads as it did. -/
def clockPlaysSpec : ChangeSpec := { name := "clockPlays", fn := fun _ => fun
  | [d1, d2] => { results := [.lit (.bool true)], args := [d1, d2] }
  | _ => none }
def clockPlaysRow : OpenClaim := { program := "ytdplieimkphneaa", sum := "86fa6e9446704457ed103a53314aa484eeffd5ac196600afb553d6c4c74e55c3", func := "hubbub/hubbublaw8.ClockPlays", spec := "clockPlays", apart := false }
def ClockPlaysSaid : Prop := clockPlaysRow.holds Try.pinned (OpenSpec.ofChange clockPlaysSpec)

/-- ITS FALSE NEIGHBOUR: 'it returns false'. Refute it at one input. -/
def clockPlaysWrong : ChangeSpec := { name := "clockPlays", fn := fun _ => fun
  | [d1, d2] => { results := [.lit (.bool false)], args := [d1, d2] }
  | _ => none }
def ClockPlaysWrongFalsely : Prop := clockPlaysRow.holds Try.pinned (OpenSpec.ofChange clockPlaysWrong)

/-- 'hubbublaw8.ClockRises': WHATEVER THE INPUT: true; the input reads as it did. -/
def clockRisesSpec : ChangeSpec := { name := "clockRises", fn := fun _ => fun
  | [d] => { results := [.lit (.bool true)], args := [d] }
  | _ => none }
def clockRisesRow : OpenClaim := { program := "ytdplieimkphneaa", sum := "86fa6e9446704457ed103a53314aa484eeffd5ac196600afb553d6c4c74e55c3", func := "hubbub/hubbublaw8.ClockRises", spec := "clockRises", apart := false }
def ClockRisesSaid : Prop := clockRisesRow.holds Try.pinned (OpenSpec.ofChange clockRisesSpec)

/-- ITS FALSE NEIGHBOUR: 'it returns false'. Refute it at one input. -/
def clockRisesWrong : ChangeSpec := { name := "clockRises", fn := fun _ => fun
  | [d] => { results := [.lit (.bool false)], args := [d] }
  | _ => none }
def ClockRisesWrongFalsely : Prop := clockRisesRow.holds Try.pinned (OpenSpec.ofChange clockRisesWrong)

/-- 'hubbublaw8.ClockTwo': WHATEVER THE INPUT: true; the input reads as it did. -/
def clockTwoSpec : ChangeSpec := { name := "clockTwo", fn := fun _ => fun
  | [d] => { results := [.lit (.bool true)], args := [d] }
  | _ => none }
def clockTwoRow : OpenClaim := { program := "ytdplieimkphneaa", sum := "86fa6e9446704457ed103a53314aa484eeffd5ac196600afb553d6c4c74e55c3", func := "hubbub/hubbublaw8.ClockTwo", spec := "clockTwo", apart := false }
def ClockTwoSaid : Prop := clockTwoRow.holds Try.pinned (OpenSpec.ofChange clockTwoSpec)

/-- ITS FALSE NEIGHBOUR: 'it returns false'. Refute it at one input. -/
def clockTwoWrong : ChangeSpec := { name := "clockTwo", fn := fun _ => fun
  | [d] => { results := [.lit (.bool false)], args := [d] }
  | _ => none }
def ClockTwoWrongFalsely : Prop := clockTwoRow.holds Try.pinned (OpenSpec.ofChange clockTwoWrong)

/-- 'hubbublaw8.ClockEnds': WHATEVER THE INPUT: true; the input reads as it did. -/
def clockEndsSpec : ChangeSpec := { name := "clockEnds", fn := fun _ => fun
  | [d1, d2, d3] => { results := [.lit (.bool true)], args := [d1, d2, d3] }
  | _ => none }
def clockEndsRow : OpenClaim := { program := "ytdplieimkphneaa", sum := "86fa6e9446704457ed103a53314aa484eeffd5ac196600afb553d6c4c74e55c3", func := "hubbub/hubbublaw8.ClockEnds", spec := "clockEnds", apart := false }
def ClockEndsSaid : Prop := clockEndsRow.holds Try.pinned (OpenSpec.ofChange clockEndsSpec)

/-- ITS FALSE NEIGHBOUR: 'it returns false'. Refute it at one input. -/
def clockEndsWrong : ChangeSpec := { name := "clockEnds", fn := fun _ => fun
  | [d1, d2, d3] => { results := [.lit (.bool false)], args := [d1, d2, d3] }
  | _ => none }
def ClockEndsWrongFalsely : Prop := clockEndsRow.holds Try.pinned (OpenSpec.ofChange clockEndsWrong)

/- THE SECOND FORM. 'bulk': how many values and letters a reading holds, each counted each time it is reached (what is shared counts as often as it is met; a slice's spare places count too). A statement '..UptoSaid' is the law's where the arguments, and the package variables that the reading takes, are together of bulk at most 1048576: NARROWER than '..Said'. Prove '..Said' where nothing that the law and all that it calls make is longer than what came in: it says more and counts as full. Else prove '..UptoSaid'. A law counts once. -/
mutual
def uptoBulk {H : Type} : DataW H → Nat
  | .lit (.string bytes) => bytes.length + 1
  | .lit _ => 1
  | .nil => 1
  | .ptr d => uptoBulk d + 1
  | .slice elems spare => uptoBulkAll elems + uptoBulkAll spare + 1
  | .agg parts => uptoBulkAll parts + 1
  | .iface _ d => uptoBulk d + 1
  | .map entries => uptoBulkEntries entries + 1
  | .held _ => 1
def uptoBulkAll {H : Type} : List (DataW H) → Nat
  | [] => 0
  | d :: r => uptoBulk d + uptoBulkAll r
def uptoBulkEntries {H : Type} : List (Lit × DataW H) → Nat
  | [] => 0
  | x :: r => uptoBulkEntry x + uptoBulkEntries r
def uptoBulkEntry {H : Type} : Lit × DataW H → Nat
  | (.string bytes, d) => bytes.length + uptoBulk d + 1
  | (_, d) => uptoBulk d + 1
 end
def uptoSmall : (H : Type) → List (DataW H) → Bool := fun _ ds => decide (uptoBulkAll ds ≤ 1048576)
def OpenSpec.upto (s : _root_.Go.ChangeSpec) : _root_.Go.OpenSpec := { _root_.Go.OpenSpec.ofChange s with cond := some uptoSmall }

/-- 'hubbublaw16.ViewPlays', WHERE WHAT IT READS IS OF BULK AT MOST 1048576: true; the input reads as it did. -/
def viewPlaysUptoRow : OpenClaim := { program := "ytdplieimkphneaa", sum := "86fa6e9446704457ed103a53314aa484eeffd5ac196600afb553d6c4c74e55c3", func := "hubbub/hubbublaw16.ViewPlays", spec := "viewPlays", apart := false, narrowed := true }
def ViewPlaysUptoSaid : Prop := viewPlaysUptoRow.holds Try.pinned (OpenSpec.upto viewPlaysSpec)

/-- 'hubbublaw16.ViewLate', WHERE WHAT IT READS IS OF BULK AT MOST 1048576: true; the input reads as it did. -/
def viewLateUptoRow : OpenClaim := { program := "ytdplieimkphneaa", sum := "86fa6e9446704457ed103a53314aa484eeffd5ac196600afb553d6c4c74e55c3", func := "hubbub/hubbublaw16.ViewLate", spec := "viewLate", apart := false, narrowed := true }
def ViewLateUptoSaid : Prop := viewLateUptoRow.holds Try.pinned (OpenSpec.upto viewLateSpec)

/-- 'hubbublaw16.ViewEpochs', WHERE WHAT IT READS IS OF BULK AT MOST 1048576: true; the input reads as it did. -/
def viewEpochsUptoRow : OpenClaim := { program := "ytdplieimkphneaa", sum := "86fa6e9446704457ed103a53314aa484eeffd5ac196600afb553d6c4c74e55c3", func := "hubbub/hubbublaw16.ViewEpochs", spec := "viewEpochs", apart := false, narrowed := true }
def ViewEpochsUptoSaid : Prop := viewEpochsUptoRow.holds Try.pinned (OpenSpec.upto viewEpochsSpec)

/-- 'hubbublaw8.ClockOrder', WHERE WHAT IT READS IS OF BULK AT MOST 1048576: true; the input reads as it did. -/
def clockOrderUptoRow : OpenClaim := { program := "ytdplieimkphneaa", sum := "86fa6e9446704457ed103a53314aa484eeffd5ac196600afb553d6c4c74e55c3", func := "hubbub/hubbublaw8.ClockOrder", spec := "clockOrder", apart := false, narrowed := true }
def ClockOrderUptoSaid : Prop := clockOrderUptoRow.holds Try.pinned (OpenSpec.upto clockOrderSpec)

/-- 'hubbublaw8.ClockPlays', WHERE WHAT IT READS IS OF BULK AT MOST 1048576: true; the input reads as it did. -/
def clockPlaysUptoRow : OpenClaim := { program := "ytdplieimkphneaa", sum := "86fa6e9446704457ed103a53314aa484eeffd5ac196600afb553d6c4c74e55c3", func := "hubbub/hubbublaw8.ClockPlays", spec := "clockPlays", apart := false, narrowed := true }
def ClockPlaysUptoSaid : Prop := clockPlaysUptoRow.holds Try.pinned (OpenSpec.upto clockPlaysSpec)

/-- 'hubbublaw8.ClockRises', WHERE WHAT IT READS IS OF BULK AT MOST 1048576: true; the input reads as it did. -/
def clockRisesUptoRow : OpenClaim := { program := "ytdplieimkphneaa", sum := "86fa6e9446704457ed103a53314aa484eeffd5ac196600afb553d6c4c74e55c3", func := "hubbub/hubbublaw8.ClockRises", spec := "clockRises", apart := false, narrowed := true }
def ClockRisesUptoSaid : Prop := clockRisesUptoRow.holds Try.pinned (OpenSpec.upto clockRisesSpec)

/-- 'hubbublaw8.ClockTwo', WHERE WHAT IT READS IS OF BULK AT MOST 1048576: true; the input reads as it did. -/
def clockTwoUptoRow : OpenClaim := { program := "ytdplieimkphneaa", sum := "86fa6e9446704457ed103a53314aa484eeffd5ac196600afb553d6c4c74e55c3", func := "hubbub/hubbublaw8.ClockTwo", spec := "clockTwo", apart := false, narrowed := true }
def ClockTwoUptoSaid : Prop := clockTwoUptoRow.holds Try.pinned (OpenSpec.upto clockTwoSpec)

/-- 'hubbublaw8.ClockEnds', WHERE WHAT IT READS IS OF BULK AT MOST 1048576: true; the input reads as it did. -/
def clockEndsUptoRow : OpenClaim := { program := "ytdplieimkphneaa", sum := "86fa6e9446704457ed103a53314aa484eeffd5ac196600afb553d6c4c74e55c3", func := "hubbub/hubbublaw8.ClockEnds", spec := "clockEnds", apart := false, narrowed := true }
def ClockEndsUptoSaid : Prop := clockEndsUptoRow.holds Try.pinned (OpenSpec.upto clockEndsSpec)

end Rows
end Go.Proofs.Ytdplieimkphneaa
