/- Any bytes are read: a frame. -/
import Derived.Test.YtfmjboanoojhcaaGreatDoorFp4x
import Derived.Test.YtfmjboanoojhcaaGreatDoorFm7x
import Derived.KernelRfl
namespace Go.Proofs.YtfmjboanoojhcaaGreatDoor
open Go.RowKit
set_option linter.unusedSimpArgs false
set_option linter.unusedVariables false
set_option linter.unusedSectionVars false
set_option maxHeartbeats 4000000
set_option maxRecDepth 100000


def gS1 (s : RS) : RS := (intR s).2
def gS2 (s : RS) : RS := (intR (gS1 s)).2
def gS3 (s : RS) : RS := (intR (gS2 s)).2
def gS4 (s : RS) : RS := (intR (gS3 s)).2
def gS5 (s : RS) : RS := (textR (gS4 s)).2
def gS6 (s : RS) : RS := (textR (gS5 s)).2
/-- The frame behind its first three letters: c is its kind, s what follows. -/
def frameR (c : UInt8) (s : RS) : TFrame × RS :=
  if (c.toNat : Int) = 1 then (⟨(c.toNat : Int), (intR s).1, (intR (gS1 s)).1, (intR (gS2 s)).1, (runL numR (gS3 s)).1, (runL dotR (runL numR (gS3 s)).2).1, emptyT, 0, [], [], 0, false⟩, (runL dotR (runL numR (gS3 s)).2).2)
  else if (c.toNat : Int) = 2 then (⟨(c.toNat : Int), (intR s).1, (intR (gS1 s)).1, (intR (gS2 s)).1, [], [], (tabR (gS3 s)).1, 0, [], [], 0, false⟩, (tabR (gS3 s)).2)
  else if (c.toNat : Int) = 3 then (⟨(c.toNat : Int), (intR s).1, (intR (gS1 s)).1, (intR (gS2 s)).1, [], [], emptyT, (intR (gS3 s)).1, (textR (gS4 s)).1, (textR (gS5 s)).1, (intR (gS6 s)).1, false⟩, (intR (gS6 s)).2)
  else (⟨(c.toNat : Int), (intR s).1, (intR (gS1 s)).1, (intR (gS2 s)).1, [], [], emptyT, 0, [], [], 0, false⟩, gS3 s)
theorem frameR_1 {c : UInt8} {s : RS} (h : (c.toNat : Int) = 1) : frameR c s = (⟨(c.toNat : Int), (intR s).1, (intR (gS1 s)).1, (intR (gS2 s)).1, (runL numR (gS3 s)).1, (runL dotR (runL numR (gS3 s)).2).1, emptyT, 0, [], [], 0, false⟩, (runL dotR (runL numR (gS3 s)).2).2) := by rw [frameR, if_pos h]
theorem frameR_2 {c : UInt8} {s : RS} (h : (c.toNat : Int) = 2) : frameR c s = (⟨(c.toNat : Int), (intR s).1, (intR (gS1 s)).1, (intR (gS2 s)).1, [], [], (tabR (gS3 s)).1, 0, [], [], 0, false⟩, (tabR (gS3 s)).2) := by rw [frameR, if_neg (by omega), if_pos h]
theorem frameR_3 {c : UInt8} {s : RS} (h : (c.toNat : Int) = 3) : frameR c s = (⟨(c.toNat : Int), (intR s).1, (intR (gS1 s)).1, (intR (gS2 s)).1, [], [], emptyT, (intR (gS3 s)).1, (textR (gS4 s)).1, (textR (gS5 s)).1, (intR (gS6 s)).1, false⟩, (intR (gS6 s)).2) := by rw [frameR, if_neg (by omega), if_neg (by omega), if_pos h]
attribute [local irreducible] DW SeqD DV DOp DC DVX DVJ DVM numR intR textR dotR takeR cellR fenR routeR runL tabR
section
attribute [local push_cast 2000] byteOf_map isU8_map
end
end Go.Proofs.YtfmjboanoojhcaaGreatDoor
