/- What the clock's See does, and the reference's. -/
import Derived.Test.YtdplieimkphneaaClock
namespace Go.Proofs.Ytdplieimkphneaa
open Go.RowKit
set_option linter.unusedSimpArgs false
set_option linter.unusedVariables false

set_option maxHeartbeats 1000000 in
theorem see_any (b : Nat) (l c n v sl sc sn : Int) (w : World) (hc : Clk w 82 b l c n) (b0 : 0 ≤ l) (b1 : l ≤ 4611686018427387904) (b2 : 0 ≤ c) (b3 : c ≤ 4611686018427387904) :
    Calls Try.prog 26 #[.pointer (some ⟨b, 0, none⟩), .int .i64 v, .agg #[.int .i64 sl, .int .i64 sc, .int .i64 sn]] w fun e w' => e = .returned (.tuple #[]) ∧ Clk w' 82 b (seeL l c v sl sc).1 (seeL l c v sl sc).2 n ∧ Only b w w' := by
  have hb := Blk.lt hc
  go_enter Try.func26, Try.ntmps26
  go_wp2_with fail
  have hc1 := Blk.alloc hc (Obj.cells #[Value.int IntKind.i64 sl, Value.int IntKind.i64 sc, Value.int IntKind.i64 sn] 46)
  have hx1 := Blk.new w 46 #[Value.int IntKind.i64 sl, Value.int IntKind.i64 sc, Value.int IntKind.i64 sn]
  have ho1 := (Only.refl b w).alloc (Obj.cells #[Value.int IntKind.i64 sl, Value.int IntKind.i64 sc, Value.int IntKind.i64 sn] 46)
  have hg : w.heap.size ≤ w.heap.size := Nat.le_refl _
  generalize w.alloc (Obj.cells #[Value.int IntKind.i64 sl, Value.int IntKind.i64 sc, Value.int IntKind.i64 sn] 46) = w1 at *
  generalize w.heap.size = g at hx1 hg ⊢
  have hgl := Blk.lt hx1
  have hbl := Blk.lt hc1
  have h0 : w1.cell? ⟨b, 0, none⟩ = some (.int .i64 l) := Blk.cell hc1 0
  have h1 : w1.cell? ⟨b, 1, none⟩ = some (.int .i64 c) := Blk.cell hc1 1
  have h2 : w1.cell? ⟨b, 2, none⟩ = some (.int .i64 n) := Blk.cell hc1 2
  have x0 : w1.cell? ⟨g, 0, none⟩ = some (.int .i64 sl) := Blk.cell hx1 0
  have x1 : w1.cell? ⟨g, 1, none⟩ = some (.int .i64 sc) := Blk.cell hx1 1
  refine wp_region_below 13 [10] [11, 12]
    [(6, exactly (.int .i64 (near sl))), (9, exactly (.int .i64 (near sc))), (11, ptrTo w1.heap.size 46 #[.int .i64 0, .int .i64 0, .int .i64 0]), (12, ptrTo w1.heap.size 46 #[.int .i64 0, .int .i64 0, .int .i64 0])]
    (by kernel_rfl) (by kernel_rfl) (by kernel_rfl) (by simp [exactly_lasts, ptrTo_lasts]) (fun _ _ _ _ _ h => h) ?_
  simp only [List.take_succ_cons, List.take_zero]
  iterate 6
    refine wpLex_plain (by rfl) (by rfl) ?_
    apply Exists.intro
    refine ⟨fun wx hx => ?_, ?_⟩
    · obtain ⟨hcc, hff⟩ := bcell (hx rfl).1
      go_simp
      rfl
    simp only [Act.put, List.setIfInBounds_toArray, List.set_cons_zero, List.set_cons_succ]
  refine wpLex_rel (by rfl) _ rfl (relAt_below ⟨_, rfl⟩ rfl fun wx hx hd => ?_) ?_
  · go_simp
    simp only [gives]
    refine (near_any _ _).mono ?_
    rintro e w' ⟨rfl, rfl⟩
    exact ⟨_, rfl, rfl, Below.refl _ _, not_fresh rfl, trivial⟩
  rintro _ rfl
  simp only [Act.put, List.setIfInBounds_toArray, List.set_cons_zero, List.set_cons_succ]
  iterate 2
    refine wpLex_plain (by rfl) (by rfl) ?_
    apply Exists.intro
    refine ⟨fun wx hx => ?_, ?_⟩
    · obtain ⟨hcc, hff⟩ := bcell (hx rfl).1
      go_simp
      rfl
    simp only [Act.put, List.setIfInBounds_toArray, List.set_cons_zero, List.set_cons_succ]
  refine wpLex_rel (by rfl) _ rfl (relAt_below ⟨_, rfl⟩ rfl fun wx hx hd => ?_) ?_
  · go_simp
    simp only [gives]
    refine (near_any _ _).mono ?_
    rintro e w' ⟨rfl, rfl⟩
    exact ⟨_, rfl, rfl, Below.refl _ _, not_fresh rfl, trivial⟩
  rintro _ rfl
  simp only [Act.put, List.setIfInBounds_toArray, List.set_cons_zero, List.set_cons_succ]
  refine wpLex_plain (by rfl) (by rfl) ?_
  apply Exists.intro
  refine ⟨fun wx hx => ?_, ?_⟩
  · go_simp
    rfl
  simp only [Act.put, List.setIfInBounds_toArray, List.set_cons_zero, List.set_cons_succ]
  iterate 2
    refine wpLex_rel (by rfl) _ rfl (relAt_below ⟨_, 0 + w1.heap.size, rfl, by omega⟩ rfl fun wx hx hd => ?_) ?_
    · go_simp
      simp only [gives]
      exact ⟨⟨_, rfl, hx.size⟩, (Below.refl _ _).alloc (Nat.le_refl _) _, fun _ => ⟨_, rfl, Nat.le_refl _, by simp⟩, ptrTo_new _⟩
    rintro _ ⟨g7, rfl, hg7⟩
    simp only [Act.put, List.setIfInBounds_toArray, List.set_cons_zero, List.set_cons_succ]
  refine wpLex_nil fun w2 hw2 hr hap => ?_
  rename_i g6 hg6
  have k7 : Blk w2 g7 46 _ := hr _ List.mem_cons_self g7 rfl
  have k6 : Blk w2 g6 46 _ := hr _ (List.mem_cons_of_mem _ List.mem_cons_self) g6 rfl
  have hne : g6 ≠ g7 := fun e => hap _ List.mem_cons_self _ (List.mem_cons_of_mem _ List.mem_cons_self) rfl rfl (by simp) (by subst e; rfl)
  clear hr hap
  have hc2 := Below.blk hw2 hc1
  have ho2 := ho1.trans (Only.of_below hw2 b)
  have l6 := Blk.lt k6
  have l7 := Blk.lt k7
  have c6 := Blk.cell k6
  have f6 := Blk.frozen k6
  have c7 := Blk.cell k7
  have f7 := Blk.frozen k7
  go_wp2_with fail
  have hcn6 : b ≠ g6 := by omega
  have hcn7 : b ≠ g7 := by omega
  have m6 := Blk.far3 (Blk.set3 k6 (.int .i64 l) (.int .i64 c) (.int .i64 n)) hne (.int .i64 (near sl)) (.int .i64 (near sc)) (.int .i64 0)
  have m7 := Blk.set3 (Blk.far3 k7 (Ne.symm hne) (.int .i64 l) (.int .i64 c) (.int .i64 n)) (.int .i64 (near sl)) (.int .i64 (near sc)) (.int .i64 0)
  have mc := Blk.far3 (Blk.far3 hc2 hcn6 (.int .i64 l) (.int .i64 c) (.int .i64 n)) hcn7 (.int .i64 (near sl)) (.int .i64 (near sc)) (.int .i64 0)
  have h6w : w.heap.size ≤ g6 := by have := ho1.size; omega
  have h7w : w.heap.size ≤ g7 := by have := ho1.size; omega
  have mo := (((((ho2.new_ h6w 0 (.int .i64 l)).new_ h6w 1 (.int .i64 c)).new_ h6w 2 (.int .i64 n)).new_ h7w 0 (.int .i64 (near sl))).new_ h7w 1 (.int .i64 (near sc))).new_ h7w 2 (.int .i64 0)
  generalize (((((w2.setCell ⟨g6, 0, none⟩ (.int .i64 l)).setCell ⟨g6, 1, none⟩ (.int .i64 c)).setCell ⟨g6, 2, none⟩ (.int .i64 n)).setCell ⟨g7, 0, none⟩ (.int .i64 (near sl))).setCell ⟨g7, 1, none⟩ (.int .i64 (near sc))).setCell ⟨g7, 2, none⟩ (.int .i64 0) = w3 at *
  clear k6 k7 c6 f6 c7 f7 hc2 ho2 hw2 ho1 hc1 hx1 x0 x1 h0 h1 h2 l6 l7
  have c6 := Blk.cell m6
  have c7 := Blk.cell m7
  have cc := Blk.cell mc
  have fc := Blk.frozen mc
  go_quiet ((go_at_call 37; exact quietS (near_any _ _)))
  have hm0 := near_bd sl
  have hm1 := near_bd v
  have hm2 := near_bd sc
  have hfin : seeL l c v sl sc = (max l (max (near sl) (near v)), near (if max l (max (near sl) (near v)) = near sl then max (if max l (max (near sl) (near v)) = l then c + 1 else 0) (near sc + 1) else (if max l (max (near sl) (near v)) = l then c + 1 else 0))) := rfl
  have e1 : l ≤ max l (max (near sl) (near v)) := by omega
  generalize max l (max (near sl) (near v)) = m at *
  generalize near sl = sl' at *
  generalize near sc = sc' at *
  by_cases k1 : m = l
  · subst k1
    by_cases k2 : m = sl'
    · subst k2
      have H : Hid (seeL m c v sl sc = (m, near (max c sc' + 1))) := by rw [hfin]; simp [Hid]
      clear hfin
      go_wp2_with fail
      refine (near_any _ _).mono ?_
      rintro e w' ⟨rfl, rfl⟩
      go_wp2_with fail
      go_end0
      rw [H.out]
      exact ⟨rfl, Clk.set2 (Blk.drewN mc nq) _ _, ((mo.drewN nq).self_ 0 _).self_ 1 _⟩
    · have H : Hid (seeL m c v sl sc = (m, near (c + 1))) := by rw [hfin]; simp [Hid, k2]
      have t2 : (m == sl') = false := by simp [k2]
      clear hfin
      go_wp2_with fail
      refine (near_any _ _).mono ?_
      rintro e w' ⟨rfl, rfl⟩
      go_wp2_with fail
      go_end0
      rw [H.out]
      exact ⟨rfl, Clk.set2 (Blk.drewN mc nq) _ _, ((mo.drewN nq).self_ 0 _).self_ 1 _⟩
  · have t1 : (m == l) = false := by simp [k1]
    by_cases k2 : m = sl'
    · subst k2
      have H : Hid (seeL l c v sl sc = (m, near (max 0 (sc' + 1)))) := by rw [hfin]; simp [Hid, k1]
      clear hfin
      go_wp2_with fail
      refine (near_any _ _).mono ?_
      rintro e w' ⟨rfl, rfl⟩
      go_wp2_with fail
      go_end0
      rw [H.out]
      exact ⟨rfl, Clk.set2 (Blk.drewN mc nq) _ _, ((mo.drewN nq).self_ 0 _).self_ 1 _⟩
    · have H : Hid (seeL l c v sl sc = (m, near 0)) := by rw [hfin]; simp [Hid, k1, k2]
      have t2 : (m == sl') = false := by simp [k2]
      clear hfin
      go_wp2_with fail
      refine (near_any _ _).mono ?_
      rintro e w' ⟨rfl, rfl⟩
      go_wp2_with fail
      go_end0
      rw [H.out]
      exact ⟨rfl, Clk.set2 (Blk.drewN mc nq) _ _, ((mo.drewN nq).self_ 0 _).self_ 1 _⟩

set_option maxHeartbeats 1000000 in
theorem refSee_any (b : Nat) (l c n v sl sc sn : Int) (w : World) (hc : Clk w 54 b l c n) (b0 : 0 ≤ l) (b1 : l ≤ 4611686018427387904) (b2 : 0 ≤ c) (b3 : c ≤ 4611686018427387904) :
    Calls Try.prog 27 #[.pointer (some ⟨b, 0, none⟩), .int .i64 v, .agg #[.int .i64 sl, .int .i64 sc, .int .i64 sn]] w fun e w' => e = .returned (.tuple #[]) ∧ Clk w' 54 b (seeL l c v sl sc).1 (seeL l c v sl sc).2 n ∧ Only b w w' := by
  have hb := Blk.lt hc
  have hm0 := near_bd sl
  have hm1 := near_bd v
  have hm2 := near_bd sc
  have hfin : seeL l c v sl sc = (max l (max (near sl) (near v)), near (if max l (max (near sl) (near v)) = near sl then max (if max l (max (near sl) (near v)) = l then c + 1 else 0) (near sc + 1) else (if max l (max (near sl) (near v)) = l then c + 1 else 0))) := rfl
  have e1 : l ≤ max l (max (near sl) (near v)) := by omega
  have HF := Lib.hid hfin
  clear hfin
  go_enter Try.func27, Try.ntmps27
  go_wp2_with fail
  refine (held_any _ _).mono ?_
  rintro e w' ⟨rfl, rfl⟩
  go_wp2_with fail
  have hc1 := Blk.alloc hc (Obj.cells #[Value.int IntKind.i64 sl, Value.int IntKind.i64 sc, Value.int IntKind.i64 sn] 46)
  have hx1 := Blk.new w 46 #[Value.int IntKind.i64 sl, Value.int IntKind.i64 sc, Value.int IntKind.i64 sn]
  have ho1 := (Only.refl b w).alloc (Obj.cells #[Value.int IntKind.i64 sl, Value.int IntKind.i64 sc, Value.int IntKind.i64 sn] 46)
  generalize w.alloc (Obj.cells #[Value.int IntKind.i64 sl, Value.int IntKind.i64 sc, Value.int IntKind.i64 sn] 46) = w1 at *
  generalize w.heap.size = g at hx1 ⊢
  have hgl := Blk.lt hx1
  have hbl := Blk.lt hc1
  have c1 := Blk.cell hc1
  have f1 := Blk.frozen hc1
  have cx := Blk.cell hx1
  go_quiet ((go_at_call 39; exact quietS (held_any _ _)))
  go_upto_region 4 with fail
  generalize max l (max (near sl) (near v)) = m at *
  generalize near sl = sl' at *
  generalize near sc = sc' at *
  by_cases k1 : m = l
  · subst k1
    by_cases k2 : m = sl'
    · subst k2
      have H : Hid (seeL m c v sl sc = (m, min (max c sc' + 1) 4611686018427387904)) := by rw [HF.out]; simp [Hid, near]; omega
      clear HF
      go_wp2_with fail
      go_end0
      rw [H.out]
      exact ⟨rfl, Clk.set2 (Blk.drewN hc1 nq) _ _, ((ho1.drewN nq).self_ 0 _).self_ 1 _⟩
    · have H : Hid (seeL m c v sl sc = (m, min (c + 1) 4611686018427387904)) := by rw [HF.out]; simp [Hid, k2, near]; omega
      have t2 : (m == sl') = false := by simp [k2]
      clear HF
      go_wp2_with fail
      go_end0
      rw [H.out]
      exact ⟨rfl, Clk.set2 (Blk.drewN hc1 nq) _ _, ((ho1.drewN nq).self_ 0 _).self_ 1 _⟩
  · have t1 : (m == l) = false := by simp [k1]
    by_cases k2 : m = sl'
    · subst k2
      have H : Hid (seeL l c v sl sc = (m, min (sc' + 1) 4611686018427387904)) := by rw [HF.out]; simp [Hid, k1, near]; omega
      clear HF
      go_wp2_with fail
      go_end0
      rw [H.out]
      exact ⟨rfl, Clk.set2 (Blk.drewN hc1 nq) _ _, ((ho1.drewN nq).self_ 0 _).self_ 1 _⟩
    · have z0 : near 0 = 0 := by unfold near; omega
      have H : Hid (seeL l c v sl sc = (m, 0)) := by rw [HF.out]; simp [Hid, k1, k2, z0]
      clear z0
      have t2 : (m == sl') = false := by simp [k2]
      clear HF
      go_wp2_with fail
      go_end0
      rw [H.out]
      exact ⟨rfl, Clk.set2 (Blk.drewN hc1 nq) _ _, ((ho1.drewN nq).self_ 0 _).self_ 1 _⟩
end Go.Proofs.Ytdplieimkphneaa
