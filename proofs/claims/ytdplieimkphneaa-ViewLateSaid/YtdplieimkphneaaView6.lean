/- fences, New of both views, Place. -/
import Derived.Test.YtdplieimkphneaaView4
namespace Go.Proofs.Ytdplieimkphneaa
open Go.RowKit Go.ChangeShapes Go.WideShapes Go.ChangeAt Go.Joins
set_option linter.unusedSimpArgs false
set_option linter.unusedVariables false

set_option maxHeartbeats 1000000 in
theorem fences_same (A A' : Option Addr) (cap cap' : Nat) (l : List (Int × Int)) (w : World) (hs : SeqL w A 2 fenF l) (hs' : SeqL w A' 2 fenF l) (hl : l.length ≤ 9223372036854775807) :
    Calls Try.prog 17 #[.slice A l.length cap, .slice A' l.length cap'] w fun e w' => e = .returned (.bool true) ∧ Below w.heap.size w w' := by
  obtain ⟨len, hlen⟩ : ∃ n, Hid (l.length = n) := ⟨_, rfl⟩
  rw [hlen.out] at hl ⊢
  go_enter Try.func17, Try.ntmps17
  go_wp2_with fail
  go_loopw [5] (fun i wr => ∃ k : Nat, k ≤ len ∧ i = .int .i64 k ∧ Below w.heap.size w wr) (fun i _ => len - (intOf i).toNat)
  case atStart => exact ⟨0, Nat.zero_le _, rfl, Below.refl _ _⟩
  case round =>
    obtain ⟨k, hk, rfl, kb⟩ := hrel
    by_cases hlt : k < len
    · have hkl : k < l.length := by rw [hlen.out]; exact hlt
      obtain ⟨b, off, rfl, hb, hc⟩ := hs k l[k] (List.getElem?_eq_getElem hkl)
      obtain ⟨b', off', rfl, hb', hc'⟩ := hs' k l[k] (List.getElem?_eq_getElem hkl)
      generalize l[k] = x at *
      obtain ⟨p, q⟩ := x
      have f0 : wr.cell? ⟨b, off + k * 2, none⟩ = some (.int .i64 p) := (kb.cell (p := ⟨b, off + k * 2, none⟩) hb).trans (hc 0 _ rfl)
      have f1 : wr.cell? ⟨b, off + k * 2 + 1, none⟩ = some (.int .i64 q) := (kb.cell (p := ⟨b, off + k * 2 + 1, none⟩) hb).trans (hc 1 _ rfl)
      have g0 : wr.cell? ⟨b', off' + k * 2, none⟩ = some (.int .i64 p) := (kb.cell (p := ⟨b', off' + k * 2, none⟩) hb').trans (hc' 0 _ rfl)
      have g1 : wr.cell? ⟨b', off' + k * 2 + 1, none⟩ = some (.int .i64 q) := (kb.cell (p := ⟨b', off' + k * 2 + 1, none⟩) hb').trans (hc' 1 _ rfl)
      clear hc hc'
      have hi : (k : Int) < len := by omega
      go_wp2_with fail
      go_quiet (fail)
      go_wp2_with fail
      go_roundw
      case rel => exact ⟨k + 1, by omega, by go_num, below_drewN kb _⟩
      case measure => simp [intOf]; omega
    · go_wp2_with fail
      go_ret
      exact ⟨rfl, kb⟩

theorem run_make_rowN {P : Program} (t e : TypeId) (i : TypeInfo) (z : Value) (ht : P.underlying t = some (.slice e)) (hi : P.info? e = some i) (hz : i.zero = some z)
    (kl kc : IntKind) (n c : Nat) (hnc : n ≤ c) (hbytes : i.bytes * c ≤ 281474976710656) (h63 : c ≤ 9223372036854775807) (w : World) :
    (Instr.makeSlice t (.int kl (n : Int)) (.int kc (c : Int))).run P w = .ok (.slice (some ⟨w.heap.size, 0, none⟩) n c) (w.alloc (.cells (madeCells z.cells (c * i.size)) e)) := by
  have hb : (i.bytes : Int) * (c : Int) ≤ 281474976710656 := by
    have h : ((i.bytes * c : Nat) : Int) ≤ 281474976710656 := by omega
    rwa [Int.natCast_mul] at h
  have hr := run_make (P := P) w t e i z ht hi hz kl kc n c (by omega) (by omega) hb (by omega)
  simp only [Int.toNat_natCast] at hr
  exact hr
theorem madeCells_at (a b : Value) (n j : Nat) (h : j < n) : (madeCells #[a, b] n)[j]? = some (if j % 2 = 0 then a else b) := by
  unfold madeCells
  rw [Array.getElem?_map, Array.getElem?_range]
  simp only [h, if_true, Option.map_some]
  rcases Nat.mod_two_eq_zero_or_one j with h2 | h2 <;> simp [h2]

set_option maxHeartbeats 1000000 in
theorem vnew (n self now : Int) (w : World) (N : Nat) (hN : min (max n 1) 16 = (N : Int)) :
    Calls Try.prog 13 #[.int .i64 n, .int .i64 self, .int .i64 now] w fun e w' => e = .returned (.pointer (some ⟨w.heap.size + 1, 0, none⟩)) ∧ PView w' (w.heap.size + 1) w.heap.size N (min (max self 0) ((N : Int) - 1)) (fun _ => 0) (fun _ => 0) ∧ Below w.heap.size w w' := by
  obtain ⟨i0, hi0, hz0, hz1, hz2⟩ := info_parts Try.infoHeard
  have hN1 : 1 ≤ N ∧ N ≤ 16 := by omega
  have hmk := fun W => run_make_rowN (P := Try.prog) 69 76 i0 _ Try.underlying69 hi0 hz0 .i64 .i64 N N (Nat.le_refl _) (by rw [hz2]; omega) (by omega) W
  rw [hz1] at hmk
  obtain ⟨hn1, hn2⟩ := hN1
  have hsub : IntKind.i64.wrap ((N : Int) - 1) = (N : Int) - 1 := IntWalk.i64_in _ (by omega)
  go_enter Try.func13, Try.ntmps13
  go_wp2
  go_ret
  have e2 := Blk.new (w.alloc (.cells (madeCells (Value.agg #[.int .i64 0, .int .i64 0]).cells (N * 2)) 76)) 71 #[.slice (some ⟨w.heap.size, 0, none⟩) N N, .int .i64 (min (max self 0) ((N : Int) - 1))]
  rw [show (w.alloc (.cells (madeCells (Value.agg #[.int .i64 0, .int .i64 0]).cells (N * 2)) 76)).heap.size = w.heap.size + 1 by simp] at e2
  refine ⟨rfl, ⟨e2, _, Blk.alloc (Blk.new w _ _) _, by rw [size_madeCells], fun i hi => ?_⟩, ((Below.refl _ _).alloc (Nat.le_refl _) _).alloc (by simp) _⟩
  refine ⟨?_, ?_⟩
  · rw [madeCells_at _ _ _ _ (by omega), if_pos (by omega)]
  · rw [madeCells_at _ _ _ _ (by omega), if_neg (by omega)]

set_option maxHeartbeats 1000000 in
theorem rnew (n self now : Int) (w : World) (N : Nat) (hN : min (max n 1) 16 = (N : Int)) :
    Calls Try.prog 14 #[.int .i64 n, .int .i64 self, .int .i64 now] w fun e w' => e = .returned (.pointer (some ⟨w.heap.size, 0, none⟩)) ∧ RView w' w.heap.size N (min (max self 0) ((N : Int) - 1)) (fun _ => 0) (fun _ => 0) ∧ Below w.heap.size w w' := by
  have hN1 : 1 ≤ N ∧ N ≤ 16 := by omega
  obtain ⟨hn1, hn2⟩ := hN1
  have hsub : IntKind.i64.wrap ((N : Int) - 1) = (N : Int) - 1 := IntWalk.i64_in _ (by omega)
  go_enter Try.func14, Try.ntmps14
  go_wp2
  go_ret
  refine ⟨rfl, ⟨_, Blk.new w _ _, rfl, rfl, rfl, fun i hi => ?_⟩, (Below.refl _ _).alloc (Nat.le_refl _) _⟩
  have h16 : i = 0 ∨ i = 1 ∨ i = 2 ∨ i = 3 ∨ i = 4 ∨ i = 5 ∨ i = 6 ∨ i = 7 ∨ i = 8 ∨ i = 9 ∨ i = 10 ∨ i = 11 ∨ i = 12 ∨ i = 13 ∨ i = 14 ∨ i = 15 := by omega
  rcases h16 with rfl | rfl | rfl | rfl | rfl | rfl | rfl | rfl | rfl | rfl | rfl | rfl | rfl | rfl | rfl | rfl <;> exact ⟨rfl, rfl⟩

def placeI (k n : Int) : Int := if k.tmod n < 0 then k.tmod n + n else k.tmod n
theorem neg_lt_tmod (k n : Int) (hn : 0 < n) : -n < k.tmod n := by
  by_cases hk : 0 ≤ k
  · have := Int.tmod_nonneg n hk; omega
  · have h1 := Int.tmod_lt_of_pos (-k) hn
    rw [Int.neg_tmod] at h1
    omega
theorem placeI_bd (k n : Int) (hn : 0 < n) : 0 ≤ placeI k n ∧ placeI k n < n := by
  unfold placeI
  have h1 := Int.tmod_lt_of_pos k hn
  have h2 := neg_lt_tmod k n hn
  split <;> omega
set_option maxHeartbeats 1000000 in
theorem place_any (k n : Int) (w : World) (hn : 0 < n) (hn1 : n ≤ 1000) :
    Calls Try.prog 12 #[.int .i64 k, .int .i64 n] w fun e w' => e = .returned (.int .i64 (placeI k n)) ∧ w = w' := by
  have h1 := Int.tmod_lt_of_pos k hn
  have h2 := neg_lt_tmod k n hn
  unfold placeI
  generalize hm : k.tmod n = m at *
  have hn0 : (n == 0) = false := by simp; omega
  by_cases hneg : m < 0
  · rw [if_pos hneg]
    go_enter Try.func12, Try.ntmps12
    go_wp2
    go_ret
    exact ⟨rfl, rfl⟩
  · rw [if_neg hneg]
    go_enter Try.func12, Try.ntmps12
    go_wp2
    go_ret
    exact ⟨rfl, rfl⟩
end Go.Proofs.Ytdplieimkphneaa
