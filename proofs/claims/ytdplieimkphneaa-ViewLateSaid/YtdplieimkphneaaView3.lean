/- Hear of package view and of the reference: what it answers, and what it changes. -/
import Derived.Test.YtdplieimkphneaaView2
namespace Go.Proofs.Ytdplieimkphneaa
open Go.RowKit Go.ChangeShapes Go.WideShapes Go.ChangeAt Go.Joins
set_option linter.unusedSimpArgs false
set_option linter.unusedVariables false

set_option maxHeartbeats 2000000 in
theorem vhear_no (B Bl n : Nat) (self : Int) (E At : Nat → Int) (frm epoch now : Int) (w : World) (hv : PView w B Bl n self E At) (hn : n ≤ 16) (hh : hearB n self E frm epoch = false) :
    Calls Try.prog 15 #[.pointer (some ⟨B, 0, none⟩), .int .i64 frm, .int .i64 epoch, .int .i64 now] w fun e w' => e = .returned (.bool false) ∧ w = w' := by
  obtain ⟨h1, cs, h2, hsz, hc⟩ := hv
  have c1 := Blk.cell h1
  by_cases a1 : frm < 0
  · go_enter Try.func15, Try.ntmps15
    go_wp2
    go_ret
    exact ⟨rfl, rfl⟩
  obtain ⟨i, rfl⟩ := Int.eq_ofNat_of_zero_le (Int.not_lt.1 a1)
  by_cases a2 : n ≤ i
  · have a2' : decide ((n : Int) ≤ (i : Int)) = true := by simpa using a2
    go_enter Try.func15, Try.ntmps15
    go_wp2
    go_ret
    exact ⟨rfl, rfl⟩
  have a2' : decide ((n : Int) ≤ (i : Int)) = false := by simpa using a2
  by_cases a3 : (i : Int) = self
  · have a3' : ((i : Int) == self) = true := by simp [a3]
    clear a3
    go_enter Try.func15, Try.ntmps15
    go_wp2
    go_ret
    exact ⟨rfl, rfl⟩
  have a3' : ((i : Int) == self) = false := by simp [a3]
  by_cases a4 : epoch < 1
  · go_enter Try.func15, Try.ntmps15
    go_wp2
    go_ret
    exact ⟨rfl, rfl⟩
  have hi : i < n := by omega
  have c2 : w.cell? ⟨Bl, i * 2, none⟩ = some (.int .i64 (E i)) := (Blk.cell h2 _).trans (hc i hi).1
  have a5 : epoch < E i := by
    simp only [hearB, decide_eq_false_iff_not, Int.toNat_natCast] at hh
    omega
  clear a3 hh
  go_enter Try.func15, Try.ntmps15
  go_wp2
  go_ret
  exact ⟨rfl, rfl⟩

set_option maxHeartbeats 2000000 in
theorem rhear_no (B n : Nat) (self : Int) (E At : Nat → Int) (frm epoch now : Int) (w : World) (hv : RView w B n self E At) (hn : n ≤ 16) (hh : hearB n self E frm epoch = false) :
    Calls Try.prog 16 #[.pointer (some ⟨B, 0, none⟩), .int .i64 frm, .int .i64 epoch, .int .i64 now] w fun e w' => e = .returned (.bool false) ∧ w = w' := by
  obtain ⟨cs, h1, hsz, g0, g1, hc⟩ := hv
  have c0 : w.cell? ⟨B, 0, none⟩ = some (.int .i64 n) := (Blk.cell h1 0).trans g0
  have c1 : w.cell? ⟨B, 1, none⟩ = some (.int .i64 self) := (Blk.cell h1 1).trans g1
  by_cases a1 : frm < 0
  · go_enter Try.func16, Try.ntmps16
    go_wp2
    go_ret
    exact ⟨rfl, rfl⟩
  obtain ⟨i, rfl⟩ := Int.eq_ofNat_of_zero_le (Int.not_lt.1 a1)
  by_cases a2 : n ≤ i
  · have a2' : decide ((n : Int) ≤ (i : Int)) = true := by simpa using a2
    go_enter Try.func16, Try.ntmps16
    go_wp2
    go_ret
    exact ⟨rfl, rfl⟩
  have a2' : decide ((n : Int) ≤ (i : Int)) = false := by simpa using a2
  by_cases a3 : (i : Int) = self
  · have a3' : ((i : Int) == self) = true := by simp [a3]
    clear a3
    go_enter Try.func16, Try.ntmps16
    go_wp2
    go_ret
    exact ⟨rfl, rfl⟩
  have a3' : ((i : Int) == self) = false := by simp [a3]
  by_cases a4 : epoch < 1
  · go_enter Try.func16, Try.ntmps16
    go_wp2
    go_ret
    exact ⟨rfl, rfl⟩
  have hi : i < n := by omega
  have c2 : w.cell? ⟨B, 2 + i, none⟩ = some (.int .i64 (E i)) := (Blk.cell h1 _).trans (by rw [Nat.add_comm]; exact (hc i (by omega)).1)
  have hi16 : (i : Int) < 16 := by omega
  have a5 : epoch < E i := by
    simp only [hearB, decide_eq_false_iff_not, Int.toNat_natCast] at hh
    omega
  clear a3 hh
  go_enter Try.func16, Try.ntmps16
  go_wp2
  go_ret
  exact ⟨rfl, rfl⟩

set_option maxHeartbeats 2000000 in
theorem vhear_yes (B Bl n : Nat) (self : Int) (E At : Nat → Int) (i : Nat) (epoch now : Int) (w : World) (hv : PView w B Bl n self E At) (hn : n ≤ 16) (hi : i < n) (a3 : (i : Int) ≠ self) (a4 : 1 ≤ epoch) (a5 : E i ≤ epoch) :
    Calls Try.prog 15 #[.pointer (some ⟨B, 0, none⟩), .int .i64 i, .int .i64 epoch, .int .i64 now] w fun e w' => e = .returned (.bool true) ∧ PView w' B Bl n self (upd E i epoch) (upd At i (tnear now)) ∧ Only Bl w w' := by
  obtain ⟨h1, cs, h2, hsz, hc⟩ := hv
  have hne : B ≠ Bl := Blk.ne_ h1 h2 (by decide)
  have c1 := Blk.cell h1
  have c2 : w.cell? ⟨Bl, i * 2, none⟩ = some (.int .i64 (E i)) := (Blk.cell h2 _).trans (hc i hi).1
  have a3' : ((i : Int) == self) = false := by simp [a3]
  have a2' : decide ((n : Int) ≤ (i : Int)) = false := by simp; omega
  have a5' : decide (epoch < E i) = false := by simp; omega
  have a4' : decide (epoch < 1) = false := by simp; omega
  have i0 : (i : Int) < n := by omega
  have lB := Blk.lt h1
  have lBl := Blk.lt h2
  have HC := Lib.hid hc
  clear hc a3
  go_enter Try.func15, Try.ntmps15
  go_wp2_with fail
  refine wp_region_below 10 [] []
    [(7, exactly (.int .i64 (tnear now)))]
    (by kernel_rfl) (by kernel_rfl) (by kernel_rfl) (by simp [exactly_lasts, ptrTo_lasts, sliceTo_lasts]) (fun _ _ _ _ _ h => h) ?_
  simp only [List.take_succ_cons, List.take_zero, List.drop_succ_cons, List.drop_zero, List.drop_nil]
  repeat (first | (refine wpLex_skip (by rfl) ?_; simp only [Act.put, List.setIfInBounds_toArray, List.set_cons_zero, List.set_cons_succ]) | (refine wpLex_plain (by rfl) (by rfl) ?_; apply Exists.intro; refine ⟨fun wx hx => ?_, ?_⟩; (obtain ⟨hcc, hff⟩ := bcell (hx rfl).1; go_simp; first | rfl | (rw [if_pos (by omega)]; first | rfl | (go_simp; rfl))); simp only [Act.put, List.setIfInBounds_toArray, List.set_cons_zero, List.set_cons_succ]) | (refine wpLex_plain (by rfl) (by rfl) ?_; apply Exists.intro; refine ⟨fun wx hx => ?_, ?_⟩; (go_simp; rfl); simp only [Act.put, List.setIfInBounds_toArray, List.set_cons_zero, List.set_cons_succ]) | (refine wpLex_rel (by rfl) _ rfl (relAt_below ⟨_, rfl⟩ rfl fun wx hx hd => ?_) ?_; (obtain ⟨hcc, hff⟩ := bcell hx; go_simp; simp only [gives]; first | (go_at_call 31; (with_reducible refine (vnear _ _).mono ?_); rintro e w' ⟨rfl, rfl⟩; exact ⟨_, rfl, rfl, Below.refl _ _, not_fresh rfl, trivial⟩)); rintro _ rfl; simp only [Act.put, List.setIfInBounds_toArray, List.set_cons_zero, List.set_cons_succ]))
  refine wpLex_nil fun w2 hw2 hr _ => ?_
  clear hr
  have k1 := Below.blk hw2 h1
  have k2 := Below.blk hw2 h2
  have d1 := Blk.cell k1
  have d2 : w2.cell? ⟨Bl, i * 2, none⟩ = some (.int .i64 (E i)) := (Blk.cell k2 _).trans (HC.out i hi).1
  have d3 : w2.cell? ⟨Bl, i * 2 + 1, none⟩ = some (.int .i64 (At i)) := (Blk.cell k2 _).trans (HC.out i hi).2
  have f2 := Blk.frozen k2
  go_wp2_with fail
  go_ret
  refine ⟨rfl, ⟨?_, (cs.setIfInBounds (i * 2) (.int .i64 epoch)).setIfInBounds (i * 2 + 1) (.int .i64 (tnear now)), ?_, by simpa using hsz, fun j hj => ?_⟩, ((Only.of_below hw2 Bl).self_ (i * 2) _).self_ (i * 2 + 1) _⟩
  · exact (Blk.far k1 (p := ⟨Bl, i * 2, none⟩) hne _).far (p := ⟨Bl, i * 2 + 1, none⟩) hne _
  · exact (Blk.set_ k2 (i * 2) _).set_ (i * 2 + 1) _
  · unfold upd
    by_cases hji : j = i
    · subst hji
      simp only [if_true]
      refine ⟨?_, ?_⟩
      · rw [Array.getElem?_setIfInBounds_ne (by omega), Array.getElem?_setIfInBounds_self_of_lt (by omega)]
      · rw [Array.getElem?_setIfInBounds_self_of_lt (by simp; omega)]
    · simp only [hji, if_false]
      refine ⟨?_, ?_⟩
      · rw [Array.getElem?_setIfInBounds_ne (by omega), Array.getElem?_setIfInBounds_ne (by omega)]; exact (HC.out j hj).1
      · rw [Array.getElem?_setIfInBounds_ne (by omega), Array.getElem?_setIfInBounds_ne (by omega)]; exact (HC.out j hj).2

set_option maxHeartbeats 2000000 in
theorem rhear_yes (B n : Nat) (self : Int) (E At : Nat → Int) (i : Nat) (epoch now : Int) (w : World) (hv : RView w B n self E At) (hn : n ≤ 16) (hi : i < n) (a3 : (i : Int) ≠ self) (a4 : 1 ≤ epoch) (a5 : E i ≤ epoch) :
    Calls Try.prog 16 #[.pointer (some ⟨B, 0, none⟩), .int .i64 i, .int .i64 epoch, .int .i64 now] w fun e w' => e = .returned (.bool true) ∧ RView w' B n self (upd E i epoch) (upd At i (tnear now)) ∧ Only B w w' := by
  obtain ⟨cs, h1, hsz, g0, g1, hc⟩ := hv
  have c0 : w.cell? ⟨B, 0, none⟩ = some (.int .i64 n) := (Blk.cell h1 0).trans g0
  have c1 : w.cell? ⟨B, 1, none⟩ = some (.int .i64 self) := (Blk.cell h1 1).trans g1
  have c2 : w.cell? ⟨B, 2 + i, none⟩ = some (.int .i64 (E i)) := (Blk.cell h1 _).trans (by rw [Nat.add_comm]; exact (hc i (by omega)).1)
  have a3' : ((i : Int) == self) = false := by simp [a3]
  have a2' : decide ((n : Int) ≤ (i : Int)) = false := by simp; omega
  have a5' : decide (epoch < E i) = false := by simp; omega
  have a4' : decide (epoch < 1) = false := by simp; omega
  have hi16 : (i : Int) < 16 := by omega
  have lB := Blk.lt h1
  have HC := Lib.hid hc
  have HG := Lib.hid (And.intro g0 g1)
  clear hc a3 g0 g1
  go_enter Try.func16, Try.ntmps16
  go_wp2_with fail
  have d3 : w.cell? ⟨B, 18 + i, none⟩ = some (.int .i64 (At i)) := (Blk.cell h1 _).trans (by rw [Nat.add_comm]; exact (HC.out i (by omega)).2)
  have f2 := Blk.frozen h1
  have e2 : w.drew.cell? ⟨B, 2 + i, none⟩ = some (.int .i64 (E i)) := c2
  go_region_with (go_at_call 32; refine (vtime _ _).mono ?_; rintro e w' ⟨rfl, rfl⟩)
  go_wp2_with fail
  go_ret
  refine ⟨rfl, ⟨(cs.setIfInBounds (2 + i) (.int .i64 epoch)).setIfInBounds (18 + i) (.int .i64 (tnear now)), ?_, by simpa using hsz, ?_, ?_, fun j hj => ?_⟩, ((Only.refl B w).drew.self_ (2 + i) _).self_ (18 + i) _⟩
  · exact (Blk.set_ (Blk.drew h1) (2 + i) _).set_ (18 + i) _
  · rw [Array.getElem?_setIfInBounds_ne (by omega), Array.getElem?_setIfInBounds_ne (by omega)]; exact HG.out.1
  · rw [Array.getElem?_setIfInBounds_ne (by omega), Array.getElem?_setIfInBounds_ne (by omega)]; exact HG.out.2
  · unfold upd
    by_cases hji : j = i
    · subst hji
      simp only [if_true]
      refine ⟨?_, ?_⟩
      · rw [Array.getElem?_setIfInBounds_ne (by omega), Nat.add_comm j 2, Array.getElem?_setIfInBounds_self_of_lt (by omega)]
      · rw [Nat.add_comm j 18, Array.getElem?_setIfInBounds_self_of_lt (by simp; omega)]
    · simp only [hji, if_false]
      refine ⟨?_, ?_⟩
      · rw [Array.getElem?_setIfInBounds_ne (by omega), Array.getElem?_setIfInBounds_ne (by omega)]; exact (HC.out j hj).1
      · rw [Array.getElem?_setIfInBounds_ne (by omega), Array.getElem?_setIfInBounds_ne (by omega)]; exact (HC.out j hj).2
end Go.Proofs.Ytdplieimkphneaa
