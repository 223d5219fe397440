/- Tables held against one another; what the laws on routes ask first. -/
import Derived.Test.YtfmjboanoojhcaaGreatDoorPtgx
import Derived.Test.YtfmjboanoojhcaaGreatDoorRa1x
import Derived.Test.YtfmjboanoojhcaaGreatDoorSox
import Derived.KernelRfl
namespace Go.Proofs.YtfmjboanoojhcaaGreatDoor
open Go.RowKit
set_option linter.unusedSimpArgs false
set_option linter.unusedVariables false
set_option linter.unusedSectionVars false
set_option maxHeartbeats 4000000
set_option maxRecDepth 100000


theorem dot_ext {x y : TDot} (h : x.node = y.node ∧ x.epoch = y.epoch ∧ x.n = y.n) : x = y := by
  obtain ⟨a, b, c⟩ := x; obtain ⟨a', b', c'⟩ := y
  simp only at h; obtain ⟨rfl, rfl, rfl⟩ := h; rfl
theorem fence_ext {x y : TFence} (h : x.node = y.node ∧ x.epoch = y.epoch) : x = y := by
  obtain ⟨a, b⟩ := x; obtain ⟨a', b'⟩ := y
  simp only at h; obtain ⟨rfl, rfl⟩ := h; rfl
theorem route_ext {x y : TRoute} (h : x.dot.node = y.dot.node ∧ x.dot.epoch = y.dot.epoch ∧ x.dot.n = y.dot.n ∧ x.filter = y.filter) : x = y := by
  obtain ⟨⟨a, b, c⟩, d⟩ := x; obtain ⟨⟨a', b', c'⟩, d'⟩ := y
  simp only at h; obtain ⟨rfl, rfl, rfl, rfl⟩ := h; rfl
/-- All elements ahead of k are alike. -/
def eqK {α : Type} [Inhabited α] (l m : List α) (k : Nat) : Prop := ∀ j, j < k → l.getD j default = m.getD j default
theorem eqK_0 {α : Type} [Inhabited α] (l m : List α) : eqK l m 0 := fun j h => absurd h (Nat.not_lt_zero _)
theorem eqK_s {α : Type} [Inhabited α] {l m : List α} {k : Nat} (h : eqK l m k) (e : l.getD k default = m.getD k default) : eqK l m (k + 1) := fun j hj => by
  rcases Nat.lt_or_eq_of_le (Nat.le_of_lt_succ hj) with h1 | rfl
  · exact h j h1
  · exact e
theorem eqK_all {α : Type} [Inhabited α] {l m : List α} {k : Nat} (h : eqK l m k) (hk : l.length ≤ k) (hl : l.length = m.length) : l = m := by
  apply List.ext_getElem hl
  intro i h1 h2
  have := h i (by omega)
  rwa [getD_get l i h1, getD_get m i h2] at this
def sameC (a b : TCell) : Bool := decide (a = b)
theorem sameC_t {a b : TCell} (h : sameC a b = true) : a = b := of_decide_eq_true h
theorem sameC_f {a b : TCell} (h : sameC a b = false) : a ≠ b := of_decide_eq_false h
attribute [local irreducible] DW SeqD DV DOp DC DVX DVJ
section
attribute [local push_cast 2000] bytes_back bytes_are
end
section
attribute [local push_cast 2000] encDot encFence encRoute encCell
end
end Go.Proofs.YtfmjboanoojhcaaGreatDoor
