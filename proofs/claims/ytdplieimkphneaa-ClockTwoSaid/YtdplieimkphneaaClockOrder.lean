/- hubbublaw8.ClockOrder answers true for every three stamps: stamps are in one order. -/
import Derived.Test.YtdplieimkphneaaCkKnown
namespace Go.Proofs.Ytdplieimkphneaa
open Go.RowKit Go.ChangeShapes Go.WideShapes Go.ChangeAt Go.Joins
set_option linter.unusedSimpArgs false
set_option linter.unusedVariables false

theorem refLess_v (al ac an bl bc bn : Int) (r : Bool) (h : lessB ⟨al, ac, an⟩ ⟨bl, bc, bn⟩ = r) (w : World) :
    Calls Try.prog 24 #[.agg #[.int .i64 al, .int .i64 ac, .int .i64 an], .agg #[.int .i64 bl, .int .i64 bc, .int .i64 bn]] w fun e w' => e = .returned (.bool r) ∧ Below w.heap.size w w' := by
  have := refLess_any ⟨al, ac, an⟩ ⟨bl, bc, bn⟩ w
  rwa [h] at this
theorem open_stamp {H : Type} {enc : TypeId × Value → H} {W : World} {base : Nat} {v : Value} {d : DataW H} {p : List MemPlace}
    (o0 : Value.okWide Try.prog W .any base 46 v) (h0 : DataW.Trod enc Try.prog W 0 (fun _ => true) true 46 v d p) : ∃ l c n : Int, v = .agg #[.int .i64 l, .int .i64 c, .int .i64 n] := by
  obtain ⟨c0, c1, c2, y0, y1, y2, m, rfl, _, _, h0, h1, h2⟩ := open_agg3 Try.underlying46 (by kernel_rfl) (by kernel_rfl) o0 h0
  obtain ⟨a, e0, _, _⟩ := DataW.trod_int Try.underlying2 h0
  obtain ⟨b, e1, _, _⟩ := DataW.trod_int Try.underlying2 h1
  obtain ⟨c, e2, _, _⟩ := DataW.trod_int Try.underlying3 h2
  simp at e0 e1 e2
  subst e0 e1 e2
  exact ⟨a, b, c, rfl⟩
theorem less_irr (a : St3) : lessB a a = false := by simp [lessB]
theorem less_asym (a b : St3) (h : lessB a b = true) : lessB b a = false := by
  simp only [lessB, decide_eq_true_eq, decide_eq_false_iff_not] at h ⊢
  omega
theorem less_trans (a b c : St3) (h : lessB a b = true) (h' : lessB b c = true) : lessB a c = true := by
  simp only [lessB, decide_eq_true_eq] at h h' ⊢
  omega

set_option maxHeartbeats 4000000 in
theorem ord_core (al ac an bl bc bn cl cc cn : Int) (x y : Bool) (hx : lessB ⟨al, ac, an⟩ ⟨bl, bc, bn⟩ = x) (hy : lessB ⟨bl, bc, bn⟩ ⟨cl, cc, cn⟩ = y) (w : World) :
    Calls Try.prog 6 #[.agg #[.int .i64 al, .int .i64 ac, .int .i64 an], .agg #[.int .i64 bl, .int .i64 bc, .int .i64 bn], .agg #[.int .i64 cl, .int .i64 cc, .int .i64 cn]] w fun e w' => e = .returned (.bool true) ∧ Below w.heap.size w w' := by
  have Lab := Lib.hid (less_v al ac an bl bc bn x hx)
  have Lbc := Lib.hid (less_v bl bc bn cl cc cn y hy)
  have Laa := Lib.hid (less_v al ac an al ac an false (less_irr _))
  have Rab := Lib.hid (refLess_v al ac an bl bc bn x hx)
  have Rbc := Lib.hid (refLess_v bl bc bn cl cc cn y hy)
  obtain ⟨z, hz, hxz⟩ : ∃ z, lessB ⟨bl, bc, bn⟩ ⟨al, ac, an⟩ = z ∧ (x = true → z = false) := ⟨_, rfl, fun e => less_asym _ _ (hx.trans e)⟩
  obtain ⟨u, hu, hxu⟩ : ∃ u, lessB ⟨al, ac, an⟩ ⟨cl, cc, cn⟩ = u ∧ (x = true → y = true → u = true) := ⟨_, rfl, fun e e' => less_trans _ _ _ (hx.trans e) (hy.trans e')⟩
  have Lba := Lib.hid (less_v bl bc bn al ac an z hz)
  have Lac := Lib.hid (less_v al ac an cl cc cn u hu)
  clear hx hy hz hu
  have hx1 := ((Blk.new w 46 #[.int .i64 al, .int .i64 ac, .int .i64 an]).alloc (.cells #[.int .i64 bl, .int .i64 bc, .int .i64 bn] 46)).alloc (.cells #[.int .i64 cl, .int .i64 cc, .int .i64 cn] 46)
  have hx2 := (Blk.new (w.alloc (.cells #[.int .i64 al, .int .i64 ac, .int .i64 an] 46)) 46 #[.int .i64 bl, .int .i64 bc, .int .i64 bn]).alloc (.cells #[.int .i64 cl, .int .i64 cc, .int .i64 cn] 46)
  have hx3 := Blk.new ((w.alloc (.cells #[.int .i64 al, .int .i64 ac, .int .i64 an] 46)).alloc (.cells #[.int .i64 bl, .int .i64 bc, .int .i64 bn] 46)) 46 #[.int .i64 cl, .int .i64 cc, .int .i64 cn]
  have hbw := (((Below.refl w.heap.size w).alloc (Nat.le_refl _) (.cells #[.int .i64 al, .int .i64 ac, .int .i64 an] 46)).alloc (by simp) (.cells #[.int .i64 bl, .int .i64 bc, .int .i64 bn] 46)).alloc (by simp; omega) (.cells #[.int .i64 cl, .int .i64 cc, .int .i64 cn] 46)
  rw [show (w.alloc (.cells #[.int .i64 al, .int .i64 ac, .int .i64 an] 46)).heap.size = w.heap.size + 1 by simp] at hx2
  rw [show ((w.alloc (.cells #[.int .i64 al, .int .i64 ac, .int .i64 an] 46)).alloc (.cells #[.int .i64 bl, .int .i64 bc, .int .i64 bn] 46)).heap.size = w.heap.size + 1 + 1 by simp] at hx3
  go_enter Try.func6, Try.ntmps6
  go_wp2_with fail
  generalize ((w.alloc (.cells #[.int .i64 al, .int .i64 ac, .int .i64 an] 46)).alloc (.cells #[.int .i64 bl, .int .i64 bc, .int .i64 bn] 46)).alloc (.cells #[.int .i64 cl, .int .i64 cc, .int .i64 cn] 46) = w1 at *
  refine (ckKnown _).mono ?_
  rintro e w2 ⟨rfl, hb2⟩
  have hy1 := Below.blk hb2 hx1
  have hy2 := Below.blk hb2 hx2
  have hy3 := Below.blk hb2 hx3
  have hbw2 := hbw.trans (hb2.mono hbw.size)
  clear hx1 hx2 hx3 hbw hb2
  go_wp2_with fail
  have l1 := Blk.lt hy1
  have l2 := Blk.lt hy2
  have l3 := Blk.lt hy3
  have c1 := Blk.cell hy1
  have c2 := Blk.cell hy2
  have c3 := Blk.cell hy3
  cases x <;> cases y
  · refine wp_region_below 31 [] []
      [(2, exactly (.bool false)), (5, exactly (.bool false)), (10, exactly (.bool false)), (13, exactly (.bool false)), (19, exactly (.bool false)), (24, exactly (.bool false)), (28, exactly (.bool false))]
      (by kernel_rfl) (by kernel_rfl) (by kernel_rfl) (by simp [exactly_lasts, ptrTo_lasts, sliceTo_lasts]) (fun _ _ _ _ _ h => h) ?_
    simp only [List.take_succ_cons, List.take_zero, List.drop_succ_cons, List.drop_zero, List.drop_nil]
    repeat (first | (refine wpLex_skip (by rfl) ?_; simp only [Act.put, List.setIfInBounds_toArray, List.set_cons_zero, List.set_cons_succ]) | (refine wpLex_plain (by rfl) (by rfl) ?_; apply Exists.intro; refine ⟨fun wx hx => ?_, ?_⟩; (obtain ⟨hcc, hff⟩ := bcell (hx rfl).1; go_simp; rfl); simp only [Act.put, List.setIfInBounds_toArray, List.set_cons_zero, List.set_cons_succ]) | (refine wpLex_plain (by rfl) (by rfl) ?_; apply Exists.intro; refine ⟨fun wx hx => ?_, ?_⟩; (go_simp; rfl); simp only [Act.put, List.setIfInBounds_toArray, List.set_cons_zero, List.set_cons_succ]) | (refine wpLex_rel (by rfl) _ rfl (relAt_below ⟨_, rfl⟩ rfl fun wx hx hd => ?_) ?_; (obtain ⟨hcc, hff⟩ := bcell hx; go_simp; simp only [gives]; first | (go_at_call 23; first | ((with_reducible refine (Lab.out _).mono ?_); rintro e w' ⟨rfl, hb'⟩; exact ⟨_, rfl, rfl, hb', not_fresh rfl, trivial⟩) | ((with_reducible refine (Lbc.out _).mono ?_); rintro e w' ⟨rfl, hb'⟩; exact ⟨_, rfl, rfl, hb', not_fresh rfl, trivial⟩) | ((with_reducible refine (Laa.out _).mono ?_); rintro e w' ⟨rfl, hb'⟩; exact ⟨_, rfl, rfl, hb', not_fresh rfl, trivial⟩) | ((with_reducible refine (Lba.out _).mono ?_); rintro e w' ⟨rfl, hb'⟩; exact ⟨_, rfl, rfl, hb', not_fresh rfl, trivial⟩) | ((with_reducible refine (Lac.out _).mono ?_); rintro e w' ⟨rfl, hb'⟩; exact ⟨_, rfl, rfl, hb', not_fresh rfl, trivial⟩)) | (go_at_call 24; first | ((with_reducible refine (Rab.out _).mono ?_); rintro e w' ⟨rfl, hb'⟩; exact ⟨_, rfl, rfl, hb', not_fresh rfl, trivial⟩) | ((with_reducible refine (Rbc.out _).mono ?_); rintro e w' ⟨rfl, hb'⟩; exact ⟨_, rfl, rfl, hb', not_fresh rfl, trivial⟩))); rintro _ rfl; simp only [Act.put, List.setIfInBounds_toArray, List.set_cons_zero, List.set_cons_succ]))
    refine wpLex_nil fun w5 hw5 hr hap => ?_
    clear hr hap
    have hy4 := Below.blk hw5 hy1
    have hy5 := Below.blk hw5 hy2
    have hy6 := Below.blk hw5 hy3
    have hbw3 := hbw2.trans (hw5.mono hbw2.size)
    clear hy1 hy2 hy3 hbw2 hw5 c1 c2 c3 l1 l2 l3
    have l1 := Blk.lt hy4
    have l2 := Blk.lt hy5
    have l3 := Blk.lt hy6
    have c1 := Blk.cell hy4
    have c2 := Blk.cell hy5
    have c3 := Blk.cell hy6
    go_wp2_with (first | (go_at_call 23; first | ((with_reducible refine (Lab.out _).mono ?_); rintro e w6 ⟨rfl, hb6⟩; obtain ⟨hcc6, hff6⟩ := bcell hb6; have m1 := Nat.lt_of_lt_of_le l1 hb6.size; have m2 := Nat.lt_of_lt_of_le l2 hb6.size; have m3 := Nat.lt_of_lt_of_le l3 hb6.size) | ((with_reducible refine (Lbc.out _).mono ?_); rintro e w7 ⟨rfl, hb7⟩; obtain ⟨hcc7, hff7⟩ := bcell hb7; have n1 := Nat.lt_of_lt_of_le m1 hb7.size; have n2 := Nat.lt_of_lt_of_le m2 hb7.size; have n3 := Nat.lt_of_lt_of_le m3 hb7.size) | ((with_reducible refine (Lac.out _).mono ?_); rintro e w8 ⟨rfl, hb8⟩)))
    go_ret
    exact ⟨rfl, bthen hbw3 hb6⟩
  · refine wp_region_below 31 [] []
      [(2, exactly (.bool false)), (5, exactly (.bool false)), (10, exactly (.bool true)), (13, exactly (.bool true)), (19, exactly (.bool false)), (24, exactly (.bool false)), (28, exactly (.bool false))]
      (by kernel_rfl) (by kernel_rfl) (by kernel_rfl) (by simp [exactly_lasts, ptrTo_lasts, sliceTo_lasts]) (fun _ _ _ _ _ h => h) ?_
    simp only [List.take_succ_cons, List.take_zero, List.drop_succ_cons, List.drop_zero, List.drop_nil]
    repeat (first | (refine wpLex_skip (by rfl) ?_; simp only [Act.put, List.setIfInBounds_toArray, List.set_cons_zero, List.set_cons_succ]) | (refine wpLex_plain (by rfl) (by rfl) ?_; apply Exists.intro; refine ⟨fun wx hx => ?_, ?_⟩; (obtain ⟨hcc, hff⟩ := bcell (hx rfl).1; go_simp; rfl); simp only [Act.put, List.setIfInBounds_toArray, List.set_cons_zero, List.set_cons_succ]) | (refine wpLex_plain (by rfl) (by rfl) ?_; apply Exists.intro; refine ⟨fun wx hx => ?_, ?_⟩; (go_simp; rfl); simp only [Act.put, List.setIfInBounds_toArray, List.set_cons_zero, List.set_cons_succ]) | (refine wpLex_rel (by rfl) _ rfl (relAt_below ⟨_, rfl⟩ rfl fun wx hx hd => ?_) ?_; (obtain ⟨hcc, hff⟩ := bcell hx; go_simp; simp only [gives]; first | (go_at_call 23; first | ((with_reducible refine (Lab.out _).mono ?_); rintro e w' ⟨rfl, hb'⟩; exact ⟨_, rfl, rfl, hb', not_fresh rfl, trivial⟩) | ((with_reducible refine (Lbc.out _).mono ?_); rintro e w' ⟨rfl, hb'⟩; exact ⟨_, rfl, rfl, hb', not_fresh rfl, trivial⟩) | ((with_reducible refine (Laa.out _).mono ?_); rintro e w' ⟨rfl, hb'⟩; exact ⟨_, rfl, rfl, hb', not_fresh rfl, trivial⟩) | ((with_reducible refine (Lba.out _).mono ?_); rintro e w' ⟨rfl, hb'⟩; exact ⟨_, rfl, rfl, hb', not_fresh rfl, trivial⟩) | ((with_reducible refine (Lac.out _).mono ?_); rintro e w' ⟨rfl, hb'⟩; exact ⟨_, rfl, rfl, hb', not_fresh rfl, trivial⟩)) | (go_at_call 24; first | ((with_reducible refine (Rab.out _).mono ?_); rintro e w' ⟨rfl, hb'⟩; exact ⟨_, rfl, rfl, hb', not_fresh rfl, trivial⟩) | ((with_reducible refine (Rbc.out _).mono ?_); rintro e w' ⟨rfl, hb'⟩; exact ⟨_, rfl, rfl, hb', not_fresh rfl, trivial⟩))); rintro _ rfl; simp only [Act.put, List.setIfInBounds_toArray, List.set_cons_zero, List.set_cons_succ]))
    refine wpLex_nil fun w5 hw5 hr hap => ?_
    clear hr hap
    have hy4 := Below.blk hw5 hy1
    have hy5 := Below.blk hw5 hy2
    have hy6 := Below.blk hw5 hy3
    have hbw3 := hbw2.trans (hw5.mono hbw2.size)
    clear hy1 hy2 hy3 hbw2 hw5 c1 c2 c3 l1 l2 l3
    have l1 := Blk.lt hy4
    have l2 := Blk.lt hy5
    have l3 := Blk.lt hy6
    have c1 := Blk.cell hy4
    have c2 := Blk.cell hy5
    have c3 := Blk.cell hy6
    go_wp2_with (first | (go_at_call 23; first | ((with_reducible refine (Lab.out _).mono ?_); rintro e w6 ⟨rfl, hb6⟩; obtain ⟨hcc6, hff6⟩ := bcell hb6; have m1 := Nat.lt_of_lt_of_le l1 hb6.size; have m2 := Nat.lt_of_lt_of_le l2 hb6.size; have m3 := Nat.lt_of_lt_of_le l3 hb6.size) | ((with_reducible refine (Lbc.out _).mono ?_); rintro e w7 ⟨rfl, hb7⟩; obtain ⟨hcc7, hff7⟩ := bcell hb7; have n1 := Nat.lt_of_lt_of_le m1 hb7.size; have n2 := Nat.lt_of_lt_of_le m2 hb7.size; have n3 := Nat.lt_of_lt_of_le m3 hb7.size) | ((with_reducible refine (Lac.out _).mono ?_); rintro e w8 ⟨rfl, hb8⟩)))
    go_ret
    exact ⟨rfl, bthen hbw3 hb6⟩
  · obtain rfl : z = false := hxz rfl
    refine wp_region_below 31 [] []
      [(2, exactly (.bool true)), (5, exactly (.bool true)), (10, exactly (.bool false)), (13, exactly (.bool false)), (19, exactly (.bool false)), (24, exactly (.bool true)), (28, exactly (.bool false))]
      (by kernel_rfl) (by kernel_rfl) (by kernel_rfl) (by simp [exactly_lasts, ptrTo_lasts, sliceTo_lasts]) (fun _ _ _ _ _ h => h) ?_
    simp only [List.take_succ_cons, List.take_zero, List.drop_succ_cons, List.drop_zero, List.drop_nil]
    repeat (first | (refine wpLex_skip (by rfl) ?_; simp only [Act.put, List.setIfInBounds_toArray, List.set_cons_zero, List.set_cons_succ]) | (refine wpLex_plain (by rfl) (by rfl) ?_; apply Exists.intro; refine ⟨fun wx hx => ?_, ?_⟩; (obtain ⟨hcc, hff⟩ := bcell (hx rfl).1; go_simp; rfl); simp only [Act.put, List.setIfInBounds_toArray, List.set_cons_zero, List.set_cons_succ]) | (refine wpLex_plain (by rfl) (by rfl) ?_; apply Exists.intro; refine ⟨fun wx hx => ?_, ?_⟩; (go_simp; rfl); simp only [Act.put, List.setIfInBounds_toArray, List.set_cons_zero, List.set_cons_succ]) | (refine wpLex_rel (by rfl) _ rfl (relAt_below ⟨_, rfl⟩ rfl fun wx hx hd => ?_) ?_; (obtain ⟨hcc, hff⟩ := bcell hx; go_simp; simp only [gives]; first | (go_at_call 23; first | ((with_reducible refine (Lab.out _).mono ?_); rintro e w' ⟨rfl, hb'⟩; exact ⟨_, rfl, rfl, hb', not_fresh rfl, trivial⟩) | ((with_reducible refine (Lbc.out _).mono ?_); rintro e w' ⟨rfl, hb'⟩; exact ⟨_, rfl, rfl, hb', not_fresh rfl, trivial⟩) | ((with_reducible refine (Laa.out _).mono ?_); rintro e w' ⟨rfl, hb'⟩; exact ⟨_, rfl, rfl, hb', not_fresh rfl, trivial⟩) | ((with_reducible refine (Lba.out _).mono ?_); rintro e w' ⟨rfl, hb'⟩; exact ⟨_, rfl, rfl, hb', not_fresh rfl, trivial⟩) | ((with_reducible refine (Lac.out _).mono ?_); rintro e w' ⟨rfl, hb'⟩; exact ⟨_, rfl, rfl, hb', not_fresh rfl, trivial⟩)) | (go_at_call 24; first | ((with_reducible refine (Rab.out _).mono ?_); rintro e w' ⟨rfl, hb'⟩; exact ⟨_, rfl, rfl, hb', not_fresh rfl, trivial⟩) | ((with_reducible refine (Rbc.out _).mono ?_); rintro e w' ⟨rfl, hb'⟩; exact ⟨_, rfl, rfl, hb', not_fresh rfl, trivial⟩))); rintro _ rfl; simp only [Act.put, List.setIfInBounds_toArray, List.set_cons_zero, List.set_cons_succ]))
    refine wpLex_nil fun w5 hw5 hr hap => ?_
    clear hr hap
    have hy4 := Below.blk hw5 hy1
    have hy5 := Below.blk hw5 hy2
    have hy6 := Below.blk hw5 hy3
    have hbw3 := hbw2.trans (hw5.mono hbw2.size)
    clear hy1 hy2 hy3 hbw2 hw5 c1 c2 c3 l1 l2 l3
    have l1 := Blk.lt hy4
    have l2 := Blk.lt hy5
    have l3 := Blk.lt hy6
    have c1 := Blk.cell hy4
    have c2 := Blk.cell hy5
    have c3 := Blk.cell hy6
    go_wp2_with (first | (go_at_call 23; first | ((with_reducible refine (Lab.out _).mono ?_); rintro e w6 ⟨rfl, hb6⟩; obtain ⟨hcc6, hff6⟩ := bcell hb6; have m1 := Nat.lt_of_lt_of_le l1 hb6.size; have m2 := Nat.lt_of_lt_of_le l2 hb6.size; have m3 := Nat.lt_of_lt_of_le l3 hb6.size) | ((with_reducible refine (Lbc.out _).mono ?_); rintro e w7 ⟨rfl, hb7⟩; obtain ⟨hcc7, hff7⟩ := bcell hb7; have n1 := Nat.lt_of_lt_of_le m1 hb7.size; have n2 := Nat.lt_of_lt_of_le m2 hb7.size; have n3 := Nat.lt_of_lt_of_le m3 hb7.size) | ((with_reducible refine (Lac.out _).mono ?_); rintro e w8 ⟨rfl, hb8⟩)))
    go_ret
    exact ⟨rfl, bthen (bthen hbw3 hb6) hb7⟩
  · obtain rfl : z = false := hxz rfl
    obtain rfl : u = true := hxu rfl rfl
    refine wp_region_below 31 [] []
      [(2, exactly (.bool true)), (5, exactly (.bool true)), (10, exactly (.bool true)), (13, exactly (.bool true)), (19, exactly (.bool false)), (24, exactly (.bool true)), (28, exactly (.bool false))]
      (by kernel_rfl) (by kernel_rfl) (by kernel_rfl) (by simp [exactly_lasts, ptrTo_lasts, sliceTo_lasts]) (fun _ _ _ _ _ h => h) ?_
    simp only [List.take_succ_cons, List.take_zero, List.drop_succ_cons, List.drop_zero, List.drop_nil]
    repeat (first | (refine wpLex_skip (by rfl) ?_; simp only [Act.put, List.setIfInBounds_toArray, List.set_cons_zero, List.set_cons_succ]) | (refine wpLex_plain (by rfl) (by rfl) ?_; apply Exists.intro; refine ⟨fun wx hx => ?_, ?_⟩; (obtain ⟨hcc, hff⟩ := bcell (hx rfl).1; go_simp; rfl); simp only [Act.put, List.setIfInBounds_toArray, List.set_cons_zero, List.set_cons_succ]) | (refine wpLex_plain (by rfl) (by rfl) ?_; apply Exists.intro; refine ⟨fun wx hx => ?_, ?_⟩; (go_simp; rfl); simp only [Act.put, List.setIfInBounds_toArray, List.set_cons_zero, List.set_cons_succ]) | (refine wpLex_rel (by rfl) _ rfl (relAt_below ⟨_, rfl⟩ rfl fun wx hx hd => ?_) ?_; (obtain ⟨hcc, hff⟩ := bcell hx; go_simp; simp only [gives]; first | (go_at_call 23; first | ((with_reducible refine (Lab.out _).mono ?_); rintro e w' ⟨rfl, hb'⟩; exact ⟨_, rfl, rfl, hb', not_fresh rfl, trivial⟩) | ((with_reducible refine (Lbc.out _).mono ?_); rintro e w' ⟨rfl, hb'⟩; exact ⟨_, rfl, rfl, hb', not_fresh rfl, trivial⟩) | ((with_reducible refine (Laa.out _).mono ?_); rintro e w' ⟨rfl, hb'⟩; exact ⟨_, rfl, rfl, hb', not_fresh rfl, trivial⟩) | ((with_reducible refine (Lba.out _).mono ?_); rintro e w' ⟨rfl, hb'⟩; exact ⟨_, rfl, rfl, hb', not_fresh rfl, trivial⟩) | ((with_reducible refine (Lac.out _).mono ?_); rintro e w' ⟨rfl, hb'⟩; exact ⟨_, rfl, rfl, hb', not_fresh rfl, trivial⟩)) | (go_at_call 24; first | ((with_reducible refine (Rab.out _).mono ?_); rintro e w' ⟨rfl, hb'⟩; exact ⟨_, rfl, rfl, hb', not_fresh rfl, trivial⟩) | ((with_reducible refine (Rbc.out _).mono ?_); rintro e w' ⟨rfl, hb'⟩; exact ⟨_, rfl, rfl, hb', not_fresh rfl, trivial⟩))); rintro _ rfl; simp only [Act.put, List.setIfInBounds_toArray, List.set_cons_zero, List.set_cons_succ]))
    refine wpLex_nil fun w5 hw5 hr hap => ?_
    clear hr hap
    have hy4 := Below.blk hw5 hy1
    have hy5 := Below.blk hw5 hy2
    have hy6 := Below.blk hw5 hy3
    have hbw3 := hbw2.trans (hw5.mono hbw2.size)
    clear hy1 hy2 hy3 hbw2 hw5 c1 c2 c3 l1 l2 l3
    have l1 := Blk.lt hy4
    have l2 := Blk.lt hy5
    have l3 := Blk.lt hy6
    have c1 := Blk.cell hy4
    have c2 := Blk.cell hy5
    have c3 := Blk.cell hy6
    go_wp2_with (first | (go_at_call 23; first | ((with_reducible refine (Lab.out _).mono ?_); rintro e w6 ⟨rfl, hb6⟩; obtain ⟨hcc6, hff6⟩ := bcell hb6; have m1 := Nat.lt_of_lt_of_le l1 hb6.size; have m2 := Nat.lt_of_lt_of_le l2 hb6.size; have m3 := Nat.lt_of_lt_of_le l3 hb6.size) | ((with_reducible refine (Lbc.out _).mono ?_); rintro e w7 ⟨rfl, hb7⟩; obtain ⟨hcc7, hff7⟩ := bcell hb7; have n1 := Nat.lt_of_lt_of_le m1 hb7.size; have n2 := Nat.lt_of_lt_of_le m2 hb7.size; have n3 := Nat.lt_of_lt_of_le m3 hb7.size) | ((with_reducible refine (Lac.out _).mono ?_); rintro e w8 ⟨rfl, hb8⟩)))
    go_ret
    exact ⟨rfl, bthen (bthen (bthen hbw3 hb6) hb7) hb8⟩

theorem clockOrder.walk {H : Type} {enc : TypeId × Value → H} (W : World) (base : Nat) {v0 v1 v2 : Value} {d0 d1 d2 : DataW H} {p0 p1 p2 : List MemPlace}
    (o0 : Value.okWide Try.prog W .any base 46 v0) (h0 : DataW.Trod enc Try.prog W 0 (fun _ => true) true 46 v0 d0 p0)
    (o1 : Value.okWide Try.prog W .any base 46 v1) (h1 : DataW.Trod enc Try.prog W 0 (fun _ => true) true 46 v1 d1 p1)
    (o2 : Value.okWide Try.prog W .any base 46 v2) (h2 : DataW.Trod enc Try.prog W 0 (fun _ => true) true 46 v2 d2 p2) :
    Calls Try.prog 6 #[v0, v1, v2] W fun e w' => e = .returned (.bool true) ∧ Below W.heap.size W w' := by
  obtain ⟨al, ac, an, rfl⟩ := open_stamp o0 h0
  obtain ⟨bl, bc, bn, rfl⟩ := open_stamp o1 h1
  obtain ⟨cl, cc, cn, rfl⟩ := open_stamp o2 h2
  exact ord_core al ac an bl bc bn cl cc cn _ _ rfl rfl W

theorem clockOrder.own : ownKnob Try.prog.godebug = none := by kernel_rfl
theorem clockOrder.laidOut : laidOutB Try.prog = true := by kernel_rfl
set_option maxRecDepth 100000 in
theorem clockOrder.lifted (os : Os) (started : os.Started) (H : Type) (enc : TypeId × Value → H) :
    ReturnsInHanded {} Try.checked os 6 .any (Rows.clockOrderSpec.pre6 enc Try.prog Try.f6 Rows.clockOrderRow.domain false) (Rows.clockOrderSpec.post enc Try.prog Try.f6 false true false false) := by
  refine returnsInHanded_of_change (C := Try.checked) clockOrder.own started (by kernel_rfl) Try.func6
    (ChangeSpec.witness6 (enc := enc) (C := Try.checked) false ⟨#[], #[.agg #[.int .i64 0, .int .i64 0, .int .i64 0], .agg #[.int .i64 0, .int .i64 0, .int .i64 0], .agg #[.int .i64 0, .int .i64 0, .int .i64 0]], []⟩ 8 (by kernel_rfl) (by kernel_rfl) (by kernel_rfl) (by kernel_rfl)) ?_
  intro W base args ds gs before hval0 hW hcnd _
  have hval : ∀ (j : Nat) t v, Try.f6.params[j]? = some t → args[j]? = some v → Value.okWide Try.prog W .any base t v := hval0
  have hW' := hW
  obtain ⟨p, q, hA0, hV, rfl, hfz, hnd⟩ := hW
  have hA : DataW.TrodAll enc Try.prog W 0 (fun _ => true) true Try.f6.params.toList args.toList ds p := hA0
  rw [Try.params6] at hA hval
  obtain ⟨v0, vs0, d0, ds0, p0, q0, hargs, rfl, rfl, h0, r0⟩ := trodAll_cons hA
  obtain ⟨v1, vs1, d1, ds1, p1, q1, rfl, rfl, rfl, h1, r1⟩ := trodAll_cons r0
  obtain ⟨v2, vs2, d2, ds2, p2, q2, rfl, rfl, rfl, h2, r2⟩ := trodAll_cons r1
  obtain ⟨rfl, rfl, rfl⟩ := trodAll_nil r2
  obtain rfl : args = #[v0, v1, v2] := by cases args; simp_all
  obtain ⟨rfl, rfl⟩ := trodVars_none hV
  have k0 := h0
  have lt0 : ∀ x ∈ p0, x.block < W.heap.size := by obtain ⟨m, hm⟩ := k0; exact DataW.trod_lt m _ _ _ hm
  have k1 := h1
  have lt1 : ∀ x ∈ p1, x.block < W.heap.size := by obtain ⟨m, hm⟩ := k1; exact DataW.trod_lt m _ _ _ hm
  have k2 := h2
  have lt2 : ∀ x ∈ p2, x.block < W.heap.size := by obtain ⟨m, hm⟩ := k2; exact DataW.trod_lt m _ _ _ hm
  clear hA0 hval0
  refine (clockOrder.walk W base (hval 0 46 v0 rfl rfl) h0 (hval 1 46 v1 rfl rfl) h1 (hval 2 46 v2 rfl rfl) h2).mono fun e W' ⟨he, bel⟩ => ?_
  subst he
  exact ⟨_, rfl, _, _, _, [], _, [], hW', trodAll_mk1 (shut_bool Try.underlying4 _), (trodAll_cons_mk (Below.trod clockOrder.laidOut (by kernel_rfl) (of_decide_eq_true (by kernel_rfl)) k0 bel lt0) (trodAll_cons_mk (Below.trod clockOrder.laidOut (by kernel_rfl) (of_decide_eq_true (by kernel_rfl)) k1 bel lt1) (trodAll_cons_mk (Below.trod clockOrder.laidOut (by kernel_rfl) (of_decide_eq_true (by kernel_rfl)) k2 bel lt2) trodAll_mk0))), rfl, bel.frame _, fun h => by cases h⟩

theorem clockOrder.over : Rows.clockOrderRow.holds Try.pinned (OpenSpec.ofChange Rows.clockOrderSpec) :=
  OpenClaim.holds_of_wide 6 Try.f6 rfl rfl rfl rfl rfl rfl rfl ⟨rfl, rfl, rfl, rfl, rfl⟩ rfl rfl rfl rfl rfl (by kernel_rfl) Try.func6 (by kernel_rfl)
    (of_decide_eq_true (by kernel_rfl)) (by unfold Func.isWrapper; first | (rw [if_pos (by decide +kernel)]; kernel_rfl) | (rw [if_neg (by decide +kernel)]; exact ⟨rfl, rfl⟩))
    (fun os started H enc _ => clockOrder.lifted os started H enc)

theorem clockOrder.proved : Rows.ClockOrderSaid := clockOrder.over
#print axioms clockOrder.proved
end Go.Proofs.Ytdplieimkphneaa
