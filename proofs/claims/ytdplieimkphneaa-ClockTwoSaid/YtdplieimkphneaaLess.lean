/- What clock.Less and the reference's Less tell. -/
import Derived.Test.YtdplieimkphneaaClock
namespace Go.Proofs.Ytdplieimkphneaa
open Go.RowKit
set_option linter.unusedSimpArgs false
set_option linter.unusedVariables false
def orI (x y z : Int) : Int := if x = 0 then (if y = 0 then z else y) else x
set_option maxHeartbeats 400000 in
theorem or_any (g : Nat) (x y z : Int) (w : World) (hb : Blk w g 3 #[.int .i64 x, .int .i64 y, .int .i64 z]) :
    Calls Try.prog 35 #[.slice (some ⟨g, 0, none⟩) 3 3] w fun e w' => e = .returned (.int .i64 (orI x y z)) ∧ w = w' := by
  have hc := Blk.cell hb
  by_cases hx : x = 0
  · subst hx
    by_cases hy : y = 0
    · subst hy
      by_cases hz : z = 0
      · subst hz
        have H : Hid (orI 0 0 0 = 0) := by simp [Hid, orI]
        go_enter Try.func35, Try.ntmps35
        go_wp2
        refine wp_loop_rounds 4 ?_
        repeat any_goals (rw [rounds_succ]; go_wp2)
        go_ret
        rw [H.out]
        exact ⟨rfl, rfl⟩
      · have H : Hid (orI 0 0 z = z) := by simp [Hid, orI]
        have h1 : (z != 0) = true := by simp [hz]
        go_enter Try.func35, Try.ntmps35
        go_wp2
        refine wp_loop_rounds 4 ?_
        repeat any_goals (rw [rounds_succ]; go_wp2)
        go_ret
        rw [H.out]
        exact ⟨rfl, rfl⟩
    · have H : Hid (orI 0 y z = y) := by simp [Hid, orI, hy]
      have h1 : (y != 0) = true := by simp [hy]
      go_enter Try.func35, Try.ntmps35
      go_wp2
      refine wp_loop_rounds 4 ?_
      repeat any_goals (rw [rounds_succ]; go_wp2)
      go_ret
      rw [H.out]
      exact ⟨rfl, rfl⟩
  · have H : Hid (orI x y z = x) := by simp [Hid, orI, hx]
    have h1 : (x != 0) = true := by simp [hx]
    go_enter Try.func35, Try.ntmps35
    go_wp2
    refine wp_loop_rounds 4 ?_
    repeat any_goals (rw [rounds_succ]; go_wp2)
    go_ret
    rw [H.out]
    exact ⟨rfl, rfl⟩

/-- A stamp's three numbers. -/
structure St3 where
  l : Int
  c : Int
  n : Int
def St3.v (s : St3) : Value := .agg #[.int .i64 s.l, .int .i64 s.c, .int .i64 s.n]
def lessB (a b : St3) : Bool := decide (near a.l < near b.l ∨ (near a.l = near b.l ∧ (near a.c < near b.c ∨ (near a.c = near b.c ∧ a.n < b.n))))
theorem less_or (a b : St3) : decide (orI (cmpI (near a.l) (near b.l)) (cmpI (near a.c) (near b.c)) (cmpI a.n b.n) < 0) = lessB a b := by
  unfold lessB orI cmpI
  generalize near a.l = x; generalize near b.l = y; generalize near a.c = z; generalize near b.c = u; generalize a.n = p; generalize b.n = q
  by_cases h1 : x < y
  · simp [h1]
  · by_cases h2 : y < x
    · have : x ≠ y := by omega
      simp [h1, h2, this]
    · have : x = y := by omega
      subst this
      by_cases h3 : z < u
      · simp [h3]
      · by_cases h4 : u < z
        · have : z ≠ u := by omega
          simp [h3, h4, this]
        · have : z = u := by omega
          subst this
          by_cases h5 : p < q
          · simp [h5]
          · by_cases h6 : q < p <;> simp [h5, h6]

set_option maxHeartbeats 1000000 in
theorem less_any (a b : St3) (w : World) : Calls Try.prog 23 #[a.v, b.v] w fun e w' => e = .returned (.bool (lessB a b)) ∧ Below w.heap.size w w' := by
  have H := Lib.hid (less_or a b)
  obtain ⟨al, ac, an⟩ := a
  obtain ⟨bl, bc, bn⟩ := b
  unfold St3.v
  dsimp only at H ⊢
  go_enter Try.func23, Try.ntmps23
  go_wp2_with fail
  have hx1 := (Blk.new w 46 #[Value.int IntKind.i64 al, Value.int IntKind.i64 ac, Value.int IntKind.i64 an]).alloc (Obj.cells #[Value.int IntKind.i64 bl, Value.int IntKind.i64 bc, Value.int IntKind.i64 bn] 46)
  have hx2 := Blk.new (w.alloc (Obj.cells #[Value.int IntKind.i64 al, Value.int IntKind.i64 ac, Value.int IntKind.i64 an] 46)) 46 #[Value.int IntKind.i64 bl, Value.int IntKind.i64 bc, Value.int IntKind.i64 bn]
  have hbw := ((Below.refl w.heap.size w).alloc (Nat.le_refl _) (Obj.cells #[Value.int IntKind.i64 al, Value.int IntKind.i64 ac, Value.int IntKind.i64 an] 46)).alloc (by simp) (Obj.cells #[Value.int IntKind.i64 bl, Value.int IntKind.i64 bc, Value.int IntKind.i64 bn] 46)
  rw [show (w.alloc (Obj.cells #[Value.int IntKind.i64 al, Value.int IntKind.i64 ac, Value.int IntKind.i64 an] 46)).heap.size = w.heap.size + 1 by simp] at hx2
  generalize (w.alloc (Obj.cells #[Value.int IntKind.i64 al, Value.int IntKind.i64 ac, Value.int IntKind.i64 an] 46)).alloc (Obj.cells #[Value.int IntKind.i64 bl, Value.int IntKind.i64 bc, Value.int IntKind.i64 bn] 46) = w1 at *
  have l1 := Blk.lt hx1
  have l2 := Blk.lt hx2
  have c1 := Blk.cell hx1
  have c2 := Blk.cell hx2
  refine wp_region_below 23 [] []
    [(2, exactly (.int .i64 (near al))), (5, exactly (.int .i64 (near bl))), (6, exactly (.int .i64 (cmpI (near al) (near bl)))), (9, exactly (.int .i64 (near ac))), (12, exactly (.int .i64 (near bc))), (13, exactly (.int .i64 (cmpI (near ac) (near bc)))), (18, exactly (.int .i64 (cmpI an bn))), (19, sliceTo w1.heap.size 3 3 #[.int .i64 (cmpI (near al) (near bl)), .int .i64 (cmpI (near ac) (near bc)), .int .i64 (cmpI an bn)]), (20, exactly (.int .i64 (orI (cmpI (near al) (near bl)) (cmpI (near ac) (near bc)) (cmpI an bn))))]
    (by kernel_rfl) (by kernel_rfl) (by kernel_rfl) (by simp [exactly_lasts, ptrTo_lasts, sliceTo_lasts]) (fun _ _ _ _ _ h => h) ?_
  simp only [List.take_succ_cons, List.take_zero, List.drop_succ_cons, List.drop_zero, List.drop_nil]
  repeat (first | (refine wpLex_skip (by rfl) ?_; simp only [Act.put, List.setIfInBounds_toArray, List.set_cons_zero, List.set_cons_succ]) | (refine wpLex_plain (by rfl) (by rfl) ?_; apply Exists.intro; refine ⟨fun wx hx => ?_, ?_⟩; (obtain ⟨hcc, hff⟩ := bcell (hx rfl).1; go_simp; rfl); simp only [Act.put, List.setIfInBounds_toArray, List.set_cons_zero, List.set_cons_succ]) | (refine wpLex_plain (by rfl) (by rfl) ?_; apply Exists.intro; refine ⟨fun wx hx => ?_, ?_⟩; (go_simp; rfl); simp only [Act.put, List.setIfInBounds_toArray, List.set_cons_zero, List.set_cons_succ]) | (refine wpLex_rel (by rfl) _ rfl (relAt_below ⟨_, rfl⟩ rfl fun wx hx hd => ?_) ?_; (obtain ⟨hcc, hff⟩ := bcell hx; go_simp; simp only [gives]; first | (go_at_call 37; (with_reducible refine (near_any _ _).mono ?_); rintro e w' ⟨rfl, rfl⟩; exact ⟨_, rfl, rfl, Below.refl _ _, not_fresh rfl, trivial⟩) | (go_at_call 36; (with_reducible refine (cmp64 _ _ _).mono ?_); rintro e w' ⟨rfl, rfl⟩; exact ⟨_, rfl, rfl, Below.refl _ _, not_fresh rfl, trivial⟩) | (go_at_call 38; (with_reducible refine (cmpInt _ _ _).mono ?_); rintro e w' ⟨rfl, rfl⟩; exact ⟨_, rfl, rfl, Below.refl _ _, not_fresh rfl, trivial⟩)); rintro _ rfl; simp only [Act.put, List.setIfInBounds_toArray, List.set_cons_zero, List.set_cons_succ]))
  refine wpLex_rel (by rfl) _ rfl (relAt_below ⟨_, 0 + w1.heap.size, rfl, by omega⟩ rfl fun wx hx hd => ?_) ?_
  · go_simp
    simp only [gives]
    exact ⟨⟨_, rfl, hx.size⟩, (Below.refl _ _).alloc (Nat.le_refl _) _, not_fresh rfl, sliceTo_new _⟩
  rintro _ ⟨g, rfl, hg⟩
  simp only [Act.put, List.setIfInBounds_toArray, List.set_cons_zero, List.set_cons_succ]
  refine wpLex_rel (by rfl) _ rfl (relAt_below ⟨_, rfl⟩ rfl fun wx hx hd => ?_) ?_
  · have hs := hd _ List.mem_cons_self (Under.one (by kernel_rfl)) g rfl
    go_simp
    simp only [gives]
    refine (or_any g _ _ _ wx hs).mono ?_
    rintro e w' ⟨rfl, rfl⟩
    exact ⟨_, rfl, rfl, Below.refl _ _, not_fresh rfl, trivial⟩
  rintro _ rfl
  simp only [Act.put, List.setIfInBounds_toArray, List.set_cons_zero, List.set_cons_succ]
  repeat (first | (refine wpLex_skip (by rfl) ?_; simp only [Act.put, List.setIfInBounds_toArray, List.set_cons_zero, List.set_cons_succ]) | (refine wpLex_plain (by rfl) (by rfl) ?_; apply Exists.intro; refine ⟨fun wx hx => ?_, ?_⟩; (obtain ⟨hcc, hff⟩ := bcell (hx rfl).1; go_simp; rfl); simp only [Act.put, List.setIfInBounds_toArray, List.set_cons_zero, List.set_cons_succ]) | (refine wpLex_plain (by rfl) (by rfl) ?_; apply Exists.intro; refine ⟨fun wx hx => ?_, ?_⟩; (go_simp; rfl); simp only [Act.put, List.setIfInBounds_toArray, List.set_cons_zero, List.set_cons_succ]) | (refine wpLex_rel (by rfl) _ rfl (relAt_below ⟨_, rfl⟩ rfl fun wx hx hd => ?_) ?_; (obtain ⟨hcc, hff⟩ := bcell hx; go_simp; simp only [gives]; first | (go_at_call 37; (with_reducible refine (near_any _ _).mono ?_); rintro e w' ⟨rfl, rfl⟩; exact ⟨_, rfl, rfl, Below.refl _ _, not_fresh rfl, trivial⟩) | (go_at_call 36; (with_reducible refine (cmp64 _ _ _).mono ?_); rintro e w' ⟨rfl, rfl⟩; exact ⟨_, rfl, rfl, Below.refl _ _, not_fresh rfl, trivial⟩) | (go_at_call 38; (with_reducible refine (cmpInt _ _ _).mono ?_); rintro e w' ⟨rfl, rfl⟩; exact ⟨_, rfl, rfl, Below.refl _ _, not_fresh rfl, trivial⟩)); rintro _ rfl; simp only [Act.put, List.setIfInBounds_toArray, List.set_cons_zero, List.set_cons_succ]))
  refine wpLex_nil fun w2 hw2 hr hap => ?_
  clear hr hap
  go_wp2_with fail
  go_ret
  rw [← H.out]
  exact ⟨rfl, hbw.trans (hw2.mono hbw.size)⟩

set_option maxHeartbeats 1000000 in
theorem refLess_any (a b : St3) (w : World) : Calls Try.prog 24 #[a.v, b.v] w fun e w' => e = .returned (.bool (lessB a b)) ∧ Below w.heap.size w w' := by
  obtain ⟨al, ac, an⟩ := a
  obtain ⟨bl, bc, bn⟩ := b
  unfold St3.v
  dsimp only
  have hx1 := (Blk.new w 46 #[Value.int IntKind.i64 al, Value.int IntKind.i64 ac, Value.int IntKind.i64 an]).alloc (Obj.cells #[Value.int IntKind.i64 bl, Value.int IntKind.i64 bc, Value.int IntKind.i64 bn] 46)
  have hx2 := Blk.new (w.alloc (Obj.cells #[Value.int IntKind.i64 al, Value.int IntKind.i64 ac, Value.int IntKind.i64 an] 46)) 46 #[Value.int IntKind.i64 bl, Value.int IntKind.i64 bc, Value.int IntKind.i64 bn]
  have hbw := ((Below.refl w.heap.size w).alloc (Nat.le_refl _) (Obj.cells #[Value.int IntKind.i64 al, Value.int IntKind.i64 ac, Value.int IntKind.i64 an] 46)).alloc (by simp) (Obj.cells #[Value.int IntKind.i64 bl, Value.int IntKind.i64 bc, Value.int IntKind.i64 bn] 46)
  rw [show (w.alloc (Obj.cells #[Value.int IntKind.i64 al, Value.int IntKind.i64 ac, Value.int IntKind.i64 an] 46)).heap.size = w.heap.size + 1 by simp] at hx2
  by_cases k1 : near al = near bl
  · have t1 : (near al != near bl) = false := by simp [k1]
    by_cases k2 : near ac = near bc
    · have t2 : (near ac != near bc) = false := by simp [k2]
      have H : Hid (lessB ⟨al, ac, an⟩ ⟨bl, bc, bn⟩ = decide (an < bn)) := by simp [Hid, lessB, k1, k2]
      clear k1 k2
      go_enter Try.func24, Try.ntmps24
      go_wp2_with fail
      generalize (w.alloc (Obj.cells #[Value.int IntKind.i64 al, Value.int IntKind.i64 ac, Value.int IntKind.i64 an] 46)).alloc (Obj.cells #[Value.int IntKind.i64 bl, Value.int IntKind.i64 bc, Value.int IntKind.i64 bn] 46) = w1 at *
      have l1 := Blk.lt hx1
      have l2 := Blk.lt hx2
      have c1 := Blk.cell hx1
      have c2 := Blk.cell hx2
      go_quiet ((go_at_call 39; exact quietS (held_any _ _)))
      go_wp2_with fail
      go_quiet ((go_at_call 39; exact quietA (held_any _ _)))
      go_wp2_with fail
      go_ret
      rw [H.out]
      exact ⟨rfl, below_drewN hbw _⟩
    · have t2 : (near ac != near bc) = true := by simp [k2]
      have H : Hid (lessB ⟨al, ac, an⟩ ⟨bl, bc, bn⟩ = decide (near ac < near bc)) := by simp [Hid, lessB, k1, k2]
      clear k1 k2
      go_enter Try.func24, Try.ntmps24
      go_wp2_with fail
      generalize (w.alloc (Obj.cells #[Value.int IntKind.i64 al, Value.int IntKind.i64 ac, Value.int IntKind.i64 an] 46)).alloc (Obj.cells #[Value.int IntKind.i64 bl, Value.int IntKind.i64 bc, Value.int IntKind.i64 bn] 46) = w1 at *
      have l1 := Blk.lt hx1
      have l2 := Blk.lt hx2
      have c1 := Blk.cell hx1
      have c2 := Blk.cell hx2
      go_quiet ((go_at_call 39; exact quietS (held_any _ _)))
      go_wp2_with fail
      go_quiet ((go_at_call 39; exact quietA (held_any _ _)))
      go_wp2_with fail
      go_ret
      rw [H.out]
      exact ⟨rfl, below_drewN hbw _⟩
  · have t1 : (near al != near bl) = true := by simp [k1]
    have H : Hid (lessB ⟨al, ac, an⟩ ⟨bl, bc, bn⟩ = decide (near al < near bl)) := by simp [Hid, lessB, k1]
    clear k1
    go_enter Try.func24, Try.ntmps24
    go_wp2_with fail
    generalize (w.alloc (Obj.cells #[Value.int IntKind.i64 al, Value.int IntKind.i64 ac, Value.int IntKind.i64 an] 46)).alloc (Obj.cells #[Value.int IntKind.i64 bl, Value.int IntKind.i64 bc, Value.int IntKind.i64 bn] 46) = w1 at *
    have l1 := Blk.lt hx1
    have l2 := Blk.lt hx2
    have c1 := Blk.cell hx1
    have c2 := Blk.cell hx2
    go_quiet ((go_at_call 39; exact quietS (held_any _ _)))
    go_wp2_with fail
    go_ret
    rw [H.out]
    exact ⟨rfl, below_drewN hbw _⟩
end Go.Proofs.Ytdplieimkphneaa
