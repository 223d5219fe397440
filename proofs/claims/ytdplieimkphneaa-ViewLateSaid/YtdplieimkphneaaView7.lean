/- What Hear, Epoch and Late do, in one law each; the law's own first question on views. -/
import Derived.Test.YtdplieimkphneaaView6
namespace Go.Proofs.Ytdplieimkphneaa
open Go.RowKit Go.ChangeShapes Go.WideShapes Go.ChangeAt Go.Joins
set_option linter.unusedSimpArgs false
set_option linter.unusedVariables false

def hE (b : Bool) (E : Nat → Int) (frm x : Int) : Nat → Int := bif b then upd E frm.toNat x else E
theorem hE_bd {b : Bool} {At : Nat → Int} {frm x : Int} (h : ∀ i, -1099511627776 ≤ At i ∧ At i ≤ 1099511627776) (hx : -1099511627776 ≤ x ∧ x ≤ 1099511627776) : ∀ i, -1099511627776 ≤ hE b At frm x i ∧ hE b At frm x i ≤ 1099511627776 := by
  intro i
  cases b
  · exact h i
  · show -1099511627776 ≤ upd At frm.toNat x i ∧ upd At frm.toNat x i ≤ 1099511627776
    unfold upd
    split
    · exact hx
    · exact h i
theorem vhear (B Bl n : Nat) (self : Int) (E At : Nat → Int) (frm epoch now : Int) (w : World) (hv : PView w B Bl n self E At) (hn : n ≤ 16) (b : Bool) (hb : hearB n self E frm epoch = b) :
    Calls Try.prog 15 #[.pointer (some ⟨B, 0, none⟩), .int .i64 frm, .int .i64 epoch, .int .i64 now] w fun e w' => e = .returned (.bool b) ∧ PView w' B Bl n self (hE b E frm epoch) (hE b At frm (tnear now)) ∧ Only Bl w w' := by
  cases b
  · refine (vhear_no B Bl n self E At frm epoch now w hv hn hb).mono ?_
    rintro e w' ⟨rfl, rfl⟩
    exact ⟨rfl, hv, Only.refl _ _⟩
  · simp only [hearB, decide_eq_true_eq] at hb
    obtain ⟨b0, b1, b2, b3, b4⟩ := hb
    obtain ⟨i, rfl⟩ := Int.eq_ofNat_of_zero_le b0
    exact vhear_yes B Bl n self E At i epoch now w hv hn (by omega) b2 b3 b4
theorem rhear (B n : Nat) (self : Int) (E At : Nat → Int) (frm epoch now : Int) (w : World) (hv : RView w B n self E At) (hn : n ≤ 16) (b : Bool) (hb : hearB n self E frm epoch = b) :
    Calls Try.prog 16 #[.pointer (some ⟨B, 0, none⟩), .int .i64 frm, .int .i64 epoch, .int .i64 now] w fun e w' => e = .returned (.bool b) ∧ RView w' B n self (hE b E frm epoch) (hE b At frm (tnear now)) ∧ Only B w w' := by
  cases b
  · refine (rhear_no B n self E At frm epoch now w hv hn hb).mono ?_
    rintro e w' ⟨rfl, rfl⟩
    exact ⟨rfl, hv, Only.refl _ _⟩
  · simp only [hearB, decide_eq_true_eq] at hb
    obtain ⟨b0, b1, b2, b3, b4⟩ := hb
    obtain ⟨i, rfl⟩ := Int.eq_ofNat_of_zero_le b0
    exact rhear_yes B n self E At i epoch now w hv hn (by omega) b2 b3 b4
def epochV (n : Nat) (E : Nat → Int) (i : Int) : Int := if 0 ≤ i ∧ i < n then E i.toNat else 0
theorem vepoch (B Bl n : Nat) (self : Int) (E At : Nat → Int) (i x : Int) (w : World) (hv : PView w B Bl n self E At) (hn : n ≤ 16) (hx : epochV n E i = x) :
    Calls Try.prog 20 #[.pointer (some ⟨B, 0, none⟩), .int .i64 i] w fun e w' => e = .returned (.int .i64 x) ∧ w = w' := by
  subst hx
  unfold epochV
  split
  · rename_i h
    obtain ⟨j, rfl⟩ := Int.eq_ofNat_of_zero_le h.1
    exact vepoch_yes B Bl n self E At j w hv hn (by omega)
  · exact vepoch_no B Bl n self E At i w hv hn (by omega)
theorem repoch (B n : Nat) (self : Int) (E At : Nat → Int) (i x : Int) (w : World) (hv : RView w B n self E At) (hn : n ≤ 16) (hx : epochV n E i = x) :
    Calls Try.prog 21 #[.pointer (some ⟨B, 0, none⟩), .int .i64 i] w fun e w' => e = .returned (.int .i64 x) ∧ w = w' := by
  subst hx
  unfold epochV
  split
  · rename_i h
    obtain ⟨j, rfl⟩ := Int.eq_ofNat_of_zero_le h.1
    exact repoch_yes B n self E At j w hv hn (by omega)
  · exact repoch_no B n self E At i w hv hn (by omega)
/-- Told of a call that answers a list: its length, and what it reads as. -/
def listTo (m : Nat) (l : List (Int × Int)) : Told := ⟨fun v => ∃ A cap, v = .slice A m cap, fun v w => SliceL w v 2 fenF l, bstep⟩
theorem listTo_lasts (m : Nat) (l : List (Int × Int)) : Lasts (listTo m l) := ⟨fun _ _ _ h hb => h.below hb, rfl⟩
theorem vlateM (B Bl n : Nat) (self : Int) (E At : Nat → Int) (now : Int) (A : Option Addr) (cap : Nat) (fs : List (Int × Int)) (w : World) (hv : PView w B Bl n self E At) (hn : n ≤ 16) (hAt : ∀ i, -1099511627776 ≤ At i ∧ At i ≤ 1099511627776)
    (hs : SeqL w A 2 fenF fs) (m : Nat) (hm : fs.length = m) (hfl : m ≤ 9223372036854775807) (l : List (Int × Int)) (hl : lateU E At now fs n = l) (k : Nat) (hk : l.length = k) :
    Calls Try.prog 18 #[.pointer (some ⟨B, 0, none⟩), .int .i64 now, .slice A m cap] w fun e w' => ∃ A' cap', e = .returned (.slice A' k cap') ∧ SliceL w' (.slice A' k cap') 2 fenF l ∧ Below w.heap.size w w' := by
  subst hm hl hk
  refine (vlate B Bl n self E At now A cap fs w hv hn hAt hs hfl).mono ?_
  rintro e w' ⟨v, rfl, ⟨A', cap', rfl, hc, hs'⟩, hb⟩
  exact ⟨A', cap', rfl, ⟨A', cap', rfl, hc, hs'⟩, hb⟩
theorem fences_sameM (A A' : Option Addr) (cap cap' : Nat) (l : List (Int × Int)) (w : World) (m : Nat) (hm : l.length = m) (hs : SliceL w (.slice A m cap) 2 fenF l) (hs' : SliceL w (.slice A' m cap') 2 fenF l) (hl : m ≤ 9223372036854775807) :
    Calls Try.prog 17 #[.slice A m cap, .slice A' m cap'] w fun e w' => e = .returned (.bool true) ∧ Below w.heap.size w w' := by
  subst hm
  obtain ⟨_, _, e1, _, s1⟩ := hs
  obtain ⟨_, _, e2, _, s2⟩ := hs'
  cases e1
  cases e2
  exact fences_same A A' cap cap' l w s1 s2 hl
def E1 : Nat → Int := hE true (fun _ => 0) 1 2
def At1 : Nat → Int := hE true (fun _ => 0) 1 5
theorem At1_bd : ∀ i, -1099511627776 ≤ At1 i ∧ At1 i ≤ 1099511627776 := hE_bd (fun _ => by decide) (by decide)
theorem SliceL.at0 {w : World} {A : Option Addr} {cap : Nat} {x : Int × Int} (h : SliceL w (.slice A 1 cap) 2 fenF [x]) : ∃ b off, A = some ⟨b, off, none⟩ ∧ b < w.heap.size ∧ w.cell? ⟨b, off, none⟩ = some (.int .i64 x.1) ∧ w.cell? ⟨b, off + 1, none⟩ = some (.int .i64 x.2) := by
  obtain ⟨A', cap', e, hc, hs⟩ := h
  cases e
  obtain ⟨b, off, h1, h2, h3⟩ := hs 0 x rfl
  refine ⟨b, off, h1, h2, ?_, ?_⟩
  · simpa using h3 0 _ rfl
  · simpa using h3 1 _ rfl

set_option maxHeartbeats 2000000 in
theorem vwKnown (w : World) : Calls Try.prog 11 #[] w fun e w' => e = .returned (.bool true) ∧ Below w.heap.size w w' := by
  have hN : Hid (min (max 3 1) 16 = ((3 : Nat) : Int)) := by unfold Hid; decide
  have hh : Hid (hearB 3 0 (fun _ => 0) 1 2 = true) := by unfold Hid; decide
  have ht : Hid (tnear 5 = 5) := by unfold Hid; decide
  have hU1 : Hid (lateU E1 At1 12 [] 3 = [(1, 2)]) := by unfold Hid; decide +kernel
  have hU0 : Hid (lateU E1 At1 11 [] 3 = []) := by unfold Hid; decide +kernel
  have hx1 : Hid (hearB 3 0 E1 1 1 = false) := by unfold Hid; decide +kernel
  have hx2 : Hid (hearB 3 0 E1 0 1 = false) := by unfold Hid; decide +kernel
  have hy1 : Hid (epochV 3 E1 1 = 2) := by unfold Hid; decide +kernel
  have hy2 : Hid (epochV 3 E1 2 = 0) := by unfold Hid; decide +kernel
  go_enter Try.func11, Try.ntmps11
  go_wp2_with fail
  refine (vnew 3 0 0 w 3 hN.out).mono ?_
  rintro e w1 ⟨rfl, hv, hb1⟩
  have hz : min (max (0 : Int) 0) (((3 : Nat) : Int) - 1) = 0 := by decide
  rw [hz] at hv
  clear hz
  go_wp2_with fail
  refine (vhear (w.heap.size + 1) w.heap.size 3 0 _ _ 1 2 5 w1 hv (by decide) true hh.out).mono ?_
  rintro e w2 ⟨rfl, hv2, ho2⟩
  rw [ht.out] at hv2
  have hv2' : PView w2 (w.heap.size + 1) w.heap.size 3 0 E1 At1 := hv2
  have hb2 : Below w.heap.size w w2 := hb1.trans (Only.below ho2 hb1.size (Nat.le_refl _))
  clear hv hv2 hb1 ho2
  go_wp2_with fail
  refine (vlateM (w.heap.size + 1) w.heap.size 3 0 E1 At1 12 none 0 [] w2 hv2' (by decide) At1_bd SeqL.nil_ 0 rfl (by decide) [(1, 2)] hU1.out 1 rfl).mono ?_
  rintro e w3 ⟨A', cap', rfl, hs3, hb3⟩
  have hv3 := hv2'.below hb3
  have hb4 := bthen hb2 hb3
  clear hv2' hb2 hb3
  obtain ⟨b, off, rfl, lb, cb0, cb1⟩ := hs3.at0
  clear hs3
  go_wp2_with (first | (go_at_call 18; (with_reducible refine (vlateM (w.heap.size + 1) w.heap.size 3 0 E1 At1 11 none 0 [] _ hv3 (by decide) At1_bd SeqL.nil_ 0 rfl (by decide) [] hU0.out 0 rfl).mono ?_); rintro e w5 ⟨A5, cap5, rfl, hs5, hb5⟩; have hv5 := hv3.below hb5; obtain ⟨hcc5, hff5⟩ := bcell hb5) | (go_at_call 20; (with_reducible refine (vepoch (w.heap.size + 1) w.heap.size 3 0 E1 At1 1 2 _ hv5 (by decide) hy1.out).mono ?_); rintro e w' ⟨rfl, rfl⟩) | (go_at_call 20; (with_reducible refine (vepoch (w.heap.size + 1) w.heap.size 3 0 E1 At1 2 0 _ hv5 (by decide) hy2.out).mono ?_); rintro e w' ⟨rfl, rfl⟩) | (go_at_call 15; (with_reducible refine (vhear_no (w.heap.size + 1) w.heap.size 3 0 E1 At1 1 1 6 _ hv5 (by decide) hx1.out).mono ?_); rintro e w' ⟨rfl, rfl⟩) | (go_at_call 15; (with_reducible refine (vhear_no (w.heap.size + 1) w.heap.size 3 0 E1 At1 0 1 6 _ hv5 (by decide) hx2.out).mono ?_); rintro e w' ⟨rfl, rfl⟩))
  go_ret
  exact ⟨rfl, bthen hb4 hb5⟩
end Go.Proofs.Ytdplieimkphneaa
