/- What is put into a row at a place. -/
import Derived.Test.YtfmjboanoojhcaaGreatDoorPt2x
import Derived.Test.YtfmjboanoojhcaaGreatDoorSox
import Derived.KernelRfl
namespace Go.Proofs.YtfmjboanoojhcaaGreatDoor
open Go.RowKit
set_option linter.unusedSimpArgs false
set_option linter.unusedVariables false
set_option linter.unusedSectionVars false
set_option maxHeartbeats 4000000
set_option maxRecDepth 100000


theorem toNs (a b : Nat) : ((a : Int) + 1 - (b : Int)).toNat = a + 1 - b := by omega
theorem toNp (a : Nat) : ((a : Int) + 1).toNat = a + 1 := by omega
theorem all_part {cs : List V} (h : ∀ y ∈ cs, V.one y = true) (a b : Nat) : (List.take a (List.drop b cs)).all V.one = true := List.all_eq_true.2 fun y hy => h y (List.mem_of_mem_drop (List.mem_of_mem_take hy))
theorem cells_one {l : List V} (h : ∀ y ∈ l, ∀ z ∈ y.cs, V.one z = true) : ∀ z ∈ cells l, V.one z = true := fun z hz => by
  unfold cells at hz
  obtain ⟨m, hm, hz⟩ := List.mem_flatten.1 hz
  obtain ⟨y, hy, rfl⟩ := List.mem_map.1 hm
  exact h y hy z hz
theorem one_d (l : List TDot) (a b : Nat) : (List.take a (List.drop b (cells (l.map encDot)))).all V.one = true := all_part (cells_one fun y hy z hz => by
  obtain ⟨x, _, rfl⟩ := List.mem_map.1 hy
  simp only [encDot, V.cs, List.mem_cons, List.not_mem_nil, or_false] at hz
  rcases hz with rfl | rfl | rfl <;> rfl) a b
theorem part_left {cs R : List V} {a b : Nat} (h : b + a ≤ cs.length) : List.take a (List.drop b (cs ++ R)) = List.take a (List.drop b cs) := by
  rw [List.drop_append, List.take_append_of_le_length (by rw [List.length_drop]; omega)]
theorem lay0 (R X : List V) : layV R 0 X = X ++ R.drop X.length := by simp [layV]
section
variable {T : Type} {enc : T → V} {s : Nat}
theorem len_all (hs : ∀ x, (enc x).cs.length = s) : ∀ l : List T, (cells (l.map enc)).length = l.length * s
  | [] => by simp [cells]
  | x :: l => by rw [List.map_cons, cells_cons, List.length_append, hs, len_all hs l, List.length_cons, Nat.succ_mul]; omega
end
theorem one_f (l : List TFence) (a b : Nat) : (List.take a (List.drop b (cells (l.map encFence)))).all V.one = true := all_part (cells_one fun y hy z hz => by
  obtain ⟨x, _, rfl⟩ := List.mem_map.1 hy
  simp only [encFence, V.cs, List.mem_cons, List.not_mem_nil, or_false] at hz
  rcases hz with rfl | rfl <;> rfl) a b
theorem one2_f (l : List TFence) {a b c : Nat} (h : b + a ≤ l.length * 2) : (List.take a (List.drop b (cells (l.map encFence) ++ List.replicate c V.any))).all V.one = true := by
  rw [part_left (by rw [len_all (s := 2) (fun _ => rfl)]; exact h)]; exact one_f l a b
theorem cells_encf (l : List TFence) : (cells (l.map encFence)).length = l.length * 2 := len_all (s := 2) (fun _ => rfl) l
theorem one2_d (l : List TDot) {a b c : Nat} (h : b + a ≤ l.length * 3) : (List.take a (List.drop b (cells (l.map encDot) ++ List.replicate c V.any))).all V.one = true := by
  rw [part_left (by rw [len_all (s := 3) (fun _ => rfl)]; exact h)]; exact one_d l a b
theorem cells_encd (l : List TDot) : (cells (l.map encDot)).length = l.length * 3 := by rw [cells_len (sz := 3) _ (fun y hy => by obtain ⟨x, _, rfl⟩ := List.mem_map.1 hy; rfl), List.length_map]
attribute [local irreducible] DW SeqD DV DOp DC DVX DVJ
section
attribute [local push_cast 2000] cells_encd encDot AppZ Nat.sub_zero toNs toNp one_d one2_d List.length_take Nat.min_eq_left Nat.min_eq_right
end
section
attribute [local push_cast 2000] cells_encf encFence AppZ Nat.sub_zero toNs toNp one_f one2_f List.length_take Nat.min_eq_left Nat.min_eq_right
end
end Go.Proofs.YtfmjboanoojhcaaGreatDoor
