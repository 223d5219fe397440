/- Texts of plain runes are right. -/
import Derived.Test.YtifdpbghkccaoaaDoorPtfx
import Derived.KernelRfl
import Derived.Test.YtifdpbghkccaoaaDoorSo
import Derived.Shelf.Sort.Plain
import Derived.Shelf.Slices.In.SortNone
import Derived.Shelf.Slices.CompactI
import Derived.Lib.RowBridge
namespace Go.Proofs.YtifdpbghkccaoaaDoor
open Go.RowKit
set_option linter.unusedSimpArgs false
set_option linter.unusedVariables false
set_option linter.unusedSectionVars false
set_option maxHeartbeats 4000000
set_option maxRecDepth 100000
section
attribute [local irreducible] DW SeqD DV DOp DC DVX
section
attribute [local push_cast 2000] u8
end
section
attribute [local push_cast 2000] u8
end
section
attribute [local push_cast 2000] u8
end
end
section
theorem one_of {xs:Array Value} (h:xs.size=1):∃ a,xs = #[a]:=by
 obtain ⟨l⟩:=xs
 match l,h with
 | [a],_=>exact ⟨a,rfl⟩
section
variable {P:Program} {ρ : Go.Shelf.Ren}
end
end
end Go.Proofs.YtifdpbghkccaoaaDoor
