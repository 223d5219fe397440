/- What the small functions of the views compute: the nearest time, whether an epoch is fenced. -/
import Derived.Test.YtdplieimkphneaaSeq
namespace Go.Proofs.Ytdplieimkphneaa
open Go.RowKit Go.ChangeShapes Go.WideShapes Go.ChangeAt Go.Joins
set_option linter.unusedSimpArgs false
set_option linter.unusedVariables false

def tnear (v : Int) : Int := min (max v (-1099511627776)) 1099511627776
theorem tnear_bd (v : Int) : -1099511627776 ≤ tnear v ∧ tnear v ≤ 1099511627776 := by unfold tnear; omega
def fenF (f : Int × Int) : List Value := [.int .i64 f.1, .int .i64 f.2]
def fencedB (l : List (Int × Int)) (node epoch : Int) : Bool := l.any fun f => decide (f.1 = node ∧ epoch ≤ f.2)
theorem fenced_true (l : List (Int × Int)) (node epoch : Int) (k : Nat) (x : Int × Int) (hx : l[k]? = some x) (h1 : x.1 = node) (h2 : epoch ≤ x.2) : fencedB l node epoch = true :=
  List.any_eq_true.2 ⟨x, List.mem_of_getElem? hx, by simp [h1, h2]⟩
theorem fenced_false (l : List (Int × Int)) (node epoch : Int) (h : ∀ (j : Nat) (x : Int × Int), l[j]? = some x → ¬ (x.1 = node ∧ epoch ≤ x.2)) : fencedB l node epoch = false := by
  refine List.any_eq_false.2 fun x hx => ?_
  obtain ⟨j, hj⟩ := List.getElem?_of_mem hx
  simpa using h j x hj
set_option maxHeartbeats 400000 in
theorem vnear (v : Int) (w : World) : Calls Try.prog 31 #[.int .i64 v] w fun e w' => e = .returned (.int .i64 (tnear v)) ∧ w = w' := by
  go_enter Try.func31, Try.ntmps31
  go_wp2
  go_ret
  exact ⟨rfl, rfl⟩
set_option maxHeartbeats 400000 in
theorem vtime (v : Int) (w : World) : Calls Try.prog 32 #[.int .i64 v] w fun e w' => e = .returned (.int .i64 (tnear v)) ∧ w = w' := by
  go_enter Try.func32, Try.ntmps32
  go_wp2
  go_ret
  exact ⟨rfl, rfl⟩

set_option maxHeartbeats 1000000 in
theorem vfenced (A : Option Addr) (cap : Nat) (l : List (Int × Int)) (node epoch : Int) (w : World) (hs : SeqL w A 2 fenF l) (hl : l.length ≤ 9223372036854775807) :
    Calls Try.prog 33 #[.slice A l.length cap, .int .i64 node, .int .i64 epoch] w fun e w' => e = .returned (.bool (fencedB l node epoch)) ∧ Below w.heap.size w w' := by
  obtain ⟨len, hlen⟩ : ∃ n, Hid (l.length = n) := ⟨_, rfl⟩
  rw [hlen.out] at hl ⊢
  have hfin := Lib.hid (fenced_true l node epoch)
  have hfin2 := Lib.hid (fenced_false l node epoch)
  go_enter Try.func33, Try.ntmps33
  go_wp2_with fail
  go_loopw [11] (fun i wr => ∃ k : Nat, k ≤ len ∧ i = .int .i64 k ∧ Hid (∀ (j : Nat) (x : Int × Int), j < k → l[j]? = some x → ¬ (x.1 = node ∧ epoch ≤ x.2)) ∧ Below w.heap.size w wr) (fun i _ => len - (intOf i).toNat)
  case atStart => exact ⟨0, Nat.zero_le _, rfl, fun j x hj => absurd hj (by omega), Below.refl _ _⟩
  case round =>
    obtain ⟨k, hk, rfl, hno, kb⟩ := hrel
    by_cases hlt : k < len
    · have hkl : k < l.length := by rw [hlen.out]; exact hlt
      obtain ⟨b, off, rfl, hb, hc⟩ := hs k l[k] (List.getElem?_eq_getElem hkl)
      have hx := Lib.hid (List.getElem?_eq_getElem hkl)
      generalize l[k] = x at *
      obtain ⟨p, q⟩ := x
      have hbr : b < wr.heap.size := Nat.lt_of_lt_of_le hb kb.size
      have f0 : wr.cell? ⟨b, off + k * 2, none⟩ = some (.int .i64 p) := (kb.cell (p := ⟨b, off + k * 2, none⟩) hb).trans (hc 0 _ rfl)
      have f1 : wr.cell? ⟨b, off + k * 2 + 1, none⟩ = some (.int .i64 q) := (kb.cell (p := ⟨b, off + k * 2 + 1, none⟩) hb).trans (hc 1 _ rfl)
      clear hc
      by_cases h1 : p = node
      · subst h1
        by_cases h2 : epoch ≤ q
        · have ht := hfin.out k (p, q) hx.out rfl h2
          have HT := Lib.hid ht
          clear ht
          go_wp2_with fail
          go_ret
          rw [HT.out]
          exact ⟨rfl, kb.alloc kb.size _⟩
        · have h2' : decide (epoch ≤ q) = false := by simpa using h2
          have hno2 : Hid (∀ (j : Nat) (x : Int × Int), j < k + 1 → l[j]? = some x → ¬ (x.1 = p ∧ epoch ≤ x.2)) := fun j x hj he hh => by
            by_cases hjk : j = k
            · subst hjk
              have := hx.out
              rw [he] at this
              injection this with this
              subst this
              exact h2 hh.2
            · exact hno.out j x (by omega) he hh
          go_wp2_with fail
          go_roundw
          case rel => exact ⟨k + 1, by omega, by go_num, hno2, kb.alloc kb.size _⟩
          case measure => simp [intOf]; omega
      · have h1' : (p == node) = false := by simpa using h1
        have hno2 : Hid (∀ (j : Nat) (x : Int × Int), j < k + 1 → l[j]? = some x → ¬ (x.1 = node ∧ epoch ≤ x.2)) := fun j x hj he hh => by
          by_cases hjk : j = k
          · subst hjk
            have := hx.out
            rw [he] at this
            injection this with this
            subst this
            exact h1 hh.1
          · exact hno.out j x (by omega) he hh
        go_wp2_with fail
        go_roundw
        case rel => exact ⟨k + 1, by omega, by go_num, hno2, kb.alloc kb.size _⟩
        case measure => simp [intOf]; omega
    · have ht := hfin2.out (fun j x he hh => hno.out j x (by have := (List.getElem?_eq_some_iff.1 he).1; rw [hlen.out] at this; omega) he hh)
      have HT := Lib.hid ht
      clear ht
      go_wp2_with fail
      go_ret
      rw [HT.out]
      exact ⟨rfl, kb⟩

set_option maxHeartbeats 1000000 in
theorem rfenced (A : Option Addr) (cap : Nat) (l : List (Int × Int)) (node epoch : Int) (w : World) (hs : SeqL w A 2 fenF l) (hl : l.length ≤ 9223372036854775807) :
    Calls Try.prog 34 #[.slice A l.length cap, .int .i64 node, .int .i64 epoch] w fun e w' => e = .returned (.bool (fencedB l node epoch)) ∧ Below w.heap.size w w' := by
  obtain ⟨len, hlen⟩ : ∃ n, Hid (l.length = n) := ⟨_, rfl⟩
  rw [hlen.out] at hl ⊢
  have hfin := Lib.hid (fenced_true l node epoch)
  have hfin2 := Lib.hid (fenced_false l node epoch)
  go_enter Try.func34, Try.ntmps34
  go_wp2_with fail
  go_loopw [7] (fun i wr => ∃ k : Nat, k ≤ len ∧ i = .int .i64 k ∧ Hid (∀ (j : Nat) (x : Int × Int), j < k → l[j]? = some x → ¬ (x.1 = node ∧ epoch ≤ x.2)) ∧ Below w.heap.size w wr) (fun i _ => len - (intOf i).toNat)
  case atStart => exact ⟨0, Nat.zero_le _, rfl, fun j x hj => absurd hj (by omega), Below.refl _ _⟩
  case round =>
    obtain ⟨k, hk, rfl, hno, kb⟩ := hrel
    by_cases hlt : k < len
    · have hkl : k < l.length := by rw [hlen.out]; exact hlt
      obtain ⟨b, off, rfl, hb, hc⟩ := hs k l[k] (List.getElem?_eq_getElem hkl)
      have hx := Lib.hid (List.getElem?_eq_getElem hkl)
      generalize l[k] = x at *
      obtain ⟨p, q⟩ := x
      have hbr : b < wr.heap.size := Nat.lt_of_lt_of_le hb kb.size
      have f0 : wr.cell? ⟨b, off + k * 2, none⟩ = some (.int .i64 p) := (kb.cell (p := ⟨b, off + k * 2, none⟩) hb).trans (hc 0 _ rfl)
      have f1 : wr.cell? ⟨b, off + k * 2 + 1, none⟩ = some (.int .i64 q) := (kb.cell (p := ⟨b, off + k * 2 + 1, none⟩) hb).trans (hc 1 _ rfl)
      clear hc
      by_cases h1 : p = node
      · subst h1
        by_cases h2 : epoch ≤ q
        · have ht := hfin.out k (p, q) hx.out rfl h2
          have HT := Lib.hid ht
          clear ht
          go_wp2_with fail
          go_ret
          rw [HT.out]
          exact ⟨rfl, kb⟩
        · have h2' : decide (epoch ≤ q) = false := by simpa using h2
          have hno2 : Hid (∀ (j : Nat) (x : Int × Int), j < k + 1 → l[j]? = some x → ¬ (x.1 = p ∧ epoch ≤ x.2)) := fun j x hj he hh => by
            by_cases hjk : j = k
            · subst hjk
              have := hx.out
              rw [he] at this
              injection this with this
              subst this
              exact h2 hh.2
            · exact hno.out j x (by omega) he hh
          go_wp2_with fail
          go_roundw
          case rel => exact ⟨k + 1, by omega, by go_num, hno2, kb⟩
          case measure => simp [intOf]; omega
      · have h1' : (p == node) = false := by simpa using h1
        have hno2 : Hid (∀ (j : Nat) (x : Int × Int), j < k + 1 → l[j]? = some x → ¬ (x.1 = node ∧ epoch ≤ x.2)) := fun j x hj he hh => by
          by_cases hjk : j = k
          · subst hjk
            have := hx.out
            rw [he] at this
            injection this with this
            subst this
            exact h1 hh.1
          · exact hno.out j x (by omega) he hh
        go_wp2_with fail
        go_roundw
        case rel => exact ⟨k + 1, by omega, by go_num, hno2, kb⟩
        case measure => simp [intOf]; omega
    · have ht := hfin2.out (fun j x he hh => hno.out j x (by have := (List.getElem?_eq_some_iff.1 he).1; rw [hlen.out] at this; omega) he hh)
      have HT := Lib.hid ht
      clear ht
      go_wp2_with fail
      go_ret
      rw [HT.out]
      exact ⟨rfl, kb⟩
end Go.Proofs.Ytdplieimkphneaa
