/- What views do: New, Hear, Epoch of package view and of the reference, on blocks that are known. -/
import Derived.Test.YtdplieimkphneaaView1
namespace Go.Proofs.Ytdplieimkphneaa
open Go.RowKit Go.ChangeShapes Go.WideShapes Go.ChangeAt Go.Joins
set_option linter.unusedSimpArgs false
set_option linter.unusedVariables false

def upd (E : Nat → Int) (i : Nat) (x : Int) : Nat → Int := fun j => if j = i then x else E j
/-- The program's view: its block, and the block of what was heard. -/
def PView (w : World) (B Bl n : Nat) (self : Int) (E At : Nat → Int) : Prop :=
  Blk w B 71 #[.slice (some ⟨Bl, 0, none⟩) n n, .int .i64 self] ∧ ∃ cs, Blk w Bl 76 cs ∧ cs.size = n * 2 ∧ ∀ i, i < n → cs[i * 2]? = some (.int .i64 (E i)) ∧ cs[i * 2 + 1]? = some (.int .i64 (At i))
/-- The reference's view. -/
def RView (w : World) (B n : Nat) (self : Int) (E At : Nat → Int) : Prop :=
  ∃ cs, Blk w B 74 cs ∧ cs.size = 34 ∧ cs[0]? = some (.int .i64 n) ∧ cs[1]? = some (.int .i64 self) ∧ ∀ i, i < 16 → cs[i + 2]? = some (.int .i64 (E i)) ∧ cs[i + 18]? = some (.int .i64 (At i))
theorem PView.below {w w' : World} {B Bl n : Nat} {self : Int} {E At : Nat → Int} (h : PView w B Bl n self E At) (hb : Below w.heap.size w w') : PView w' B Bl n self E At :=
  ⟨Below.blk hb h.1, h.2.elim fun cs hc => ⟨cs, Below.blk hb hc.1, hc.2⟩⟩
theorem RView.below {w w' : World} {B n : Nat} {self : Int} {E At : Nat → Int} (h : RView w B n self E At) (hb : Below w.heap.size w w') : RView w' B n self E At :=
  h.elim fun cs hc => ⟨cs, Below.blk hb hc.1, hc.2⟩
theorem PView.only {w w' : World} {B Bl n g : Nat} {self : Int} {E At : Nat → Int} (h : PView w B Bl n self E At) (ho : Only g w w') (h1 : B ≠ g) (h2 : Bl ≠ g) : PView w' B Bl n self E At :=
  ⟨Only.blk ho h.1 h1, h.2.elim fun cs hc => ⟨cs, Only.blk ho hc.1 h2, hc.2⟩⟩
theorem RView.only {w w' : World} {B n g : Nat} {self : Int} {E At : Nat → Int} (h : RView w B n self E At) (ho : Only g w w') (h1 : B ≠ g) : RView w' B n self E At :=
  h.elim fun cs hc => ⟨cs, Only.blk ho hc.1 h1, hc.2⟩

def hearB (n : Nat) (self : Int) (E : Nat → Int) (frm epoch : Int) : Bool := decide (0 ≤ frm ∧ frm < n ∧ frm ≠ self ∧ 1 ≤ epoch ∧ E frm.toNat ≤ epoch)

set_option maxHeartbeats 400000 in
theorem vepoch_yes (B Bl n : Nat) (self : Int) (E At : Nat → Int) (i : Nat) (w : World) (hv : PView w B Bl n self E At) (hn : n ≤ 16) (hi : i < n) :
    Calls Try.prog 20 #[.pointer (some ⟨B, 0, none⟩), .int .i64 i] w fun e w' => e = .returned (.int .i64 (E i)) ∧ w = w' := by
  obtain ⟨h1, cs, h2, hsz, hc⟩ := hv
  have c1 := Blk.cell h1
  have c2 : w.cell? ⟨Bl, i * 2, none⟩ = some (.int .i64 (E i)) := (Blk.cell h2 _).trans (hc i hi).1
  clear hc
  go_enter Try.func20, Try.ntmps20
  go_wp2
  go_ret
  exact ⟨rfl, rfl⟩
set_option maxHeartbeats 400000 in
theorem vepoch_no (B Bl n : Nat) (self : Int) (E At : Nat → Int) (i : Int) (w : World) (hv : PView w B Bl n self E At) (hn : n ≤ 16) (hi : i < 0 ∨ (n : Int) ≤ i) :
    Calls Try.prog 20 #[.pointer (some ⟨B, 0, none⟩), .int .i64 i] w fun e w' => e = .returned (.int .i64 0) ∧ w = w' := by
  obtain ⟨h1, cs, h2, hsz, hc⟩ := hv
  have c1 := Blk.cell h1
  clear hc
  rcases hi with hi | hi
  · go_enter Try.func20, Try.ntmps20
    go_wp2
    go_ret
    exact ⟨rfl, rfl⟩
  · have h0 : ¬ i < 0 := by omega
    go_enter Try.func20, Try.ntmps20
    go_wp2
    go_ret
    exact ⟨rfl, rfl⟩
set_option maxHeartbeats 400000 in
theorem repoch_yes (B n : Nat) (self : Int) (E At : Nat → Int) (i : Nat) (w : World) (hv : RView w B n self E At) (hn : n ≤ 16) (hi : i < n) :
    Calls Try.prog 21 #[.pointer (some ⟨B, 0, none⟩), .int .i64 i] w fun e w' => e = .returned (.int .i64 (E i)) ∧ w = w' := by
  obtain ⟨cs, h1, hsz, g0, g1, hc⟩ := hv
  have c0 : w.cell? ⟨B, 0, none⟩ = some (.int .i64 n) := (Blk.cell h1 0).trans g0
  have c2 : w.cell? ⟨B, 2 + i, none⟩ = some (.int .i64 (E i)) := (Blk.cell h1 _).trans (by rw [Nat.add_comm]; exact (hc i (by omega)).1)
  have hi16 : (i : Int) < 16 := by omega
  clear hc g0 g1
  go_enter Try.func21, Try.ntmps21
  go_wp2
  go_ret
  exact ⟨rfl, rfl⟩
set_option maxHeartbeats 400000 in
theorem repoch_no (B n : Nat) (self : Int) (E At : Nat → Int) (i : Int) (w : World) (hv : RView w B n self E At) (hn : n ≤ 16) (hi : i < 0 ∨ (n : Int) ≤ i) :
    Calls Try.prog 21 #[.pointer (some ⟨B, 0, none⟩), .int .i64 i] w fun e w' => e = .returned (.int .i64 0) ∧ w = w' := by
  obtain ⟨cs, h1, hsz, g0, g1, hc⟩ := hv
  have c0 : w.cell? ⟨B, 0, none⟩ = some (.int .i64 n) := (Blk.cell h1 0).trans g0
  clear hc g0 g1
  rcases hi with hi | hi
  · go_enter Try.func21, Try.ntmps21
    go_wp2
    go_ret
    exact ⟨rfl, rfl⟩
  · have h0 : ¬ i < 0 := by omega
    go_enter Try.func21, Try.ntmps21
    go_wp2
    go_ret
    exact ⟨rfl, rfl⟩
end Go.Proofs.Ytdplieimkphneaa
