/- hubbublaw8.ClockEnds answers true for every input: the clock at the greatest numbers is the document's. -/
import Derived.Test.YtdplieimkphneaaClockPlays
namespace Go.Proofs.Ytdplieimkphneaa
open Go.RowKit Go.ChangeShapes Go.WideShapes Go.ChangeAt Go.Joins
set_option linter.unusedSimpArgs false
set_option linter.unusedVariables false

def endL : List Int := [4611686018427387904, 4611686018427387903, 4611686018427387905, 9223372036854775807, 0, -9223372036854775808]
theorem endL_at (w : World) (g : Nat) (h : Blk w g 2 #[.int .i64 4611686018427387904, .int .i64 4611686018427387903, .int .i64 4611686018427387905, .int .i64 9223372036854775807, .int .i64 0, .int .i64 (-9223372036854775808)]) (i : Nat) (hi : i < 6) : w.cell? ⟨g, i, none⟩ = some (.int .i64 (endL.getD i 0)) := by
  rw [Blk.cell h i]
  match i, hi with
  | 0, _ => rfl
  | 1, _ => rfl
  | 2, _ => rfl
  | 3, _ => rfl
  | 4, _ => rfl
  | 5, _ => rfl

set_option maxHeartbeats 2000000 in
theorem clockEnds.core (k j v : Int) (w : World) (hk0 : 0 ≤ k) (hk1 : k ≤ 255) (hj0 : 0 ≤ j) (hj1 : j ≤ 255) :
    Calls Try.prog 10 #[.int .u8 k, .int .u8 j, .int .i64 v] w fun e w' => e = .returned (.bool true) ∧ Below w.heap.size w w' := by
  go_enter Try.func10, Try.ntmps10
  go_wp2_with fail
  refine (ckKnown _).mono ?_
  rintro e w0 ⟨rfl, hb0⟩
  go_wp2_with fail
  have hl := Blk.new w0 2 #[.int .i64 4611686018427387904, .int .i64 4611686018427387903, .int .i64 4611686018427387905, .int .i64 9223372036854775807, .int .i64 0, .int .i64 (-9223372036854775808)]
  have hb1 := hb0.alloc hb0.size (.cells #[.int .i64 4611686018427387904, .int .i64 4611686018427387903, .int .i64 4611686018427387905, .int .i64 9223372036854775807, .int .i64 0, .int .i64 (-9223372036854775808)] 2)
  have hgl := hb0.size
  generalize w0.alloc (.cells #[.int .i64 4611686018427387904, .int .i64 4611686018427387903, .int .i64 4611686018427387905, .int .i64 9223372036854775807, .int .i64 0, .int .i64 (-9223372036854775808)] 2) = w1 at *
  generalize w0.heap.size = gl at *
  refine (new_any _ _).mono ?_
  rintro e w2 ⟨rfl, hw2⟩
  have hc1 : Clk w2 82 w1.heap.size 0 0 2 := by rw [← hw2]; exact Blk.new _ _ _
  have hb2 : Below w1.heap.size w1 w2 := by rw [← hw2]; exact (Below.refl _ _).alloc (Nat.le_refl _) _
  have hl2 := Below.blk hb2 hl
  have hbb2 := hb1.trans (hb2.mono hb1.size)
  have hB1 : w.heap.size ≤ w1.heap.size := hb1.size
  clear hw2 hl hb1 hb0 hb2
  generalize w1.heap.size = B1 at *
  go_upto_region 5 with fail
  have hc2 : Clk (w2.alloc (.cells #[.int .i64 0, .int .i64 0, .int .i64 2] 54)) 54 w2.heap.size 0 0 2 := Blk.new _ _ _
  have hc1' : Clk (w2.alloc (.cells #[.int .i64 0, .int .i64 0, .int .i64 2] 54)) 82 B1 0 0 2 := Blk.alloc hc1 _
  have hl3 := Blk.alloc hl2 (.cells #[.int .i64 0, .int .i64 0, .int .i64 2] 54)
  have hb3 := hbb2.alloc hbb2.size (.cells #[.int .i64 0, .int .i64 0, .int .i64 2] 54)
  have hB2 : w.heap.size ≤ w2.heap.size := hbb2.size
  generalize w2.alloc (.cells #[.int .i64 0, .int .i64 0, .int .i64 2] 54) = w3 at *
  generalize w2.heap.size = B2 at *
  clear hc1 hl2 hbb2
  have lgl := Blk.lt hl3
  obtain ⟨k6, t1, m1⟩ : ∃ k6 : Nat, k.tmod 6 = (k6 : Int) ∧ k6 < 6 := ⟨(k % 6).toNat, by rw [Int.tmod_eq_emod_of_nonneg hk0]; omega, by omega⟩
  obtain ⟨j6, t2, m2⟩ : ∃ j6 : Nat, j.tmod 6 = (j6 : Int) ∧ j6 < 6 := ⟨(j % 6).toNat, by rw [Int.tmod_eq_emod_of_nonneg hj0]; omega, by omega⟩
  have m1' : ((k6 : Nat) : Int) < 6 := by omega
  have m2' : ((j6 : Nat) : Int) < 6 := by omega
  obtain ⟨x1, r1⟩ : ∃ x, w3.cell? ⟨gl, k6, none⟩ = some (.int .i64 x) := ⟨_, endL_at _ _ hl3 _ m1⟩
  obtain ⟨x2, r2⟩ : ∃ x, w3.cell? ⟨gl, j6, none⟩ = some (.int .i64 x) := ⟨_, endL_at _ _ hl3 _ m2⟩
  refine wp_region_below 12 [] []
    [(11, ptrTo w3.heap.size 46 #[.int .i64 0, .int .i64 0, .int .i64 0])]
    (by kernel_rfl) (by kernel_rfl) (by kernel_rfl) (by simp [exactly_lasts, ptrTo_lasts, sliceTo_lasts]) (fun _ _ _ _ _ h => h) ?_
  simp only [List.take_succ_cons, List.take_zero, List.drop_succ_cons, List.drop_zero, List.drop_nil]
  repeat (first | (refine wpLex_skip (by rfl) ?_; simp only [Act.put, List.setIfInBounds_toArray, List.set_cons_zero, List.set_cons_succ]) | (refine wpLex_plain (by rfl) (by rfl) ?_; apply Exists.intro; refine ⟨fun wx hx => ?_, ?_⟩; (obtain ⟨hcc, hff⟩ := bcell (hx rfl).1; go_simp; first | rfl | (rw [if_pos (by omega)]; first | rfl | (go_simp; rfl))); simp only [Act.put, List.setIfInBounds_toArray, List.set_cons_zero, List.set_cons_succ]) | (refine wpLex_plain (by rfl) (by rfl) ?_; apply Exists.intro; refine ⟨fun wx hx => ?_, ?_⟩; (go_simp; rfl); simp only [Act.put, List.setIfInBounds_toArray, List.set_cons_zero, List.set_cons_succ]))
  refine wpLex_rel (by rfl) _ rfl (relAt_below ⟨_, 0 + w3.heap.size, rfl, by omega⟩ rfl fun wx hx hd => ?_) ?_
  · go_simp
    simp only [gives]
    exact ⟨⟨_, rfl, hx.size⟩, (Below.refl _ _).alloc (Nat.le_refl _) _, not_fresh rfl, ptrTo_new _⟩
  rintro _ ⟨g, rfl, hg⟩
  simp only [Act.put, List.setIfInBounds_toArray, List.set_cons_zero, List.set_cons_succ]
  refine wpLex_nil fun w4 hw4 hr hap => ?_
  have kg : Blk w4 g 46 _ := hr _ List.mem_cons_self g rfl
  clear hr hap
  have k1 : Clk w4 82 B1 0 0 2 := Clk.below hc1' hw4
  have k2 : Clk w4 54 B2 0 0 2 := Clk.below hc2 hw4
  have kl := Below.blk hw4 hl3
  have kb := bthen hb3 hw4
  clear hc1' hc2 hl3 hb3 r1 r2
  have hB1g : g ≠ B1 := Blk.ne_ kg k1 (by decide)
  have hB2g : g ≠ B2 := Blk.ne_ kg k2 (by decide)
  have h12 : B1 ≠ B2 := Blk.ne_ k1 k2 (by decide)
  have hlg : gl ≠ g := Blk.ne_ kl kg (by decide)
  have hl1 : gl ≠ B1 := Blk.ne_ kl k1 (by decide)
  have hl2 : gl ≠ B2 := Blk.ne_ kl k2 (by decide)
  have cg := Blk.cell kg
  have fg := Blk.frozen kg
  have lg := Blk.lt kg
  have hgw : w.heap.size ≤ g := by have := kb.size; omega
  go_wp2_with fail
  have mg := Blk.set3 kg (.int .i64 x1) (.int .i64 x2) (.int .i64 1)
  have n1 := Blk.far3 k1 (Ne.symm hB1g) (.int .i64 x1) (.int .i64 x2) (.int .i64 1)
  have n2 := Blk.far3 k2 (Ne.symm hB2g) (.int .i64 x1) (.int .i64 x2) (.int .i64 1)
  have nl := Blk.far3 kl hlg (.int .i64 x1) (.int .i64 x2) (.int .i64 1)
  have nb := ((kb.setCell (p := ⟨g, 0, none⟩) hgw (.int .i64 x1)).setCell (p := ⟨g, 1, none⟩) hgw (.int .i64 x2)).setCell (p := ⟨g, 2, none⟩) hgw (.int .i64 1)
  generalize ((w4.setCell ⟨g, 0, none⟩ (.int .i64 x1)).setCell ⟨g, 1, none⟩ (.int .i64 x2)).setCell ⟨g, 2, none⟩ (.int .i64 1) = w5 at *
  clear kg k1 k2 kl kb cg fg lg hw4
  refine (see_any B1 0 0 2 v x1 x2 1 _ n1 (by decide) (by decide) (by decide) (by decide)).mono ?_
  rintro e w6 ⟨rfl, o1, oo⟩
  have o2 : Clk w6 54 B2 0 0 2 := Only.blk oo n2 (Ne.symm h12)
  have og := Only.blk oo mg hB1g
  have ol := Only.blk oo nl hl1
  have ob := Only.belowB oo nb hB1
  clear mg n1 n2 nl nb oo
  have cg := Blk.cell og
  have lg := Blk.lt og
  go_wp2_with fail
  refine (refSee_any B2 0 0 2 v x1 x2 1 _ o2 (by decide) (by decide) (by decide) (by decide)).mono ?_
  rintro e w7 ⟨rfl, q2, oo⟩
  have q1 : Clk w7 82 B1 (seeL 0 0 v x1 x2).1 (seeL 0 0 v x1 x2).2 2 := Only.blk oo o1 h12
  have ql := Only.blk oo ol hl2
  have qb := Only.belowB oo ob hB2
  clear o1 o2 og ol ob oo cg lg
  have bd := seeL_bd 0 0 v x1 x2 (by decide) (by decide)
  generalize (seeL 0 0 v x1 x2).1 = L0 at *
  generalize (seeL 0 0 v x1 x2).2 = C0 at *
  go_wp2_with fail
  obtain ⟨z6, t3, m3⟩ : ∃ z6 : Nat, (IntKind.u8.wrap (k + j)).tmod 6 = (z6 : Int) ∧ z6 < 6 := by
    have hw : 0 ≤ IntKind.u8.wrap (k + j) := by rw [IntKind.wrap_u8]; omega
    exact ⟨(IntKind.u8.wrap (k + j) % 6).toNat, by rw [Int.tmod_eq_emod_of_nonneg hw]; omega, by omega⟩
  have m3' : ((z6 : Nat) : Int) < 6 := by omega
  go_loopw [11] (fun i wr => ∃ (k' : Nat) (L C : Int), k' ≤ 3 ∧ i = .int .i64 k' ∧ 0 ≤ L ∧ L ≤ 4611686018427387904 ∧ 0 ≤ C ∧ C ≤ 4611686018427387904 ∧ Clk wr 82 B1 L C 2 ∧ Clk wr 54 B2 L C 2 ∧ Blk wr gl 2 #[.int .i64 4611686018427387904, .int .i64 4611686018427387903, .int .i64 4611686018427387905, .int .i64 9223372036854775807, .int .i64 0, .int .i64 (-9223372036854775808)] ∧ Below w.heap.size w wr) (fun i _ => 3 - (intOf i).toNat)
  case atStart => exact ⟨0, L0, C0, by decide, rfl, bd.1, bd.2.1, bd.2.2.1, bd.2.2.2, q1, q2, ql, qb⟩
  case round =>
    clear q1 q2 ql qb bd
    obtain ⟨k', L, C, hk', rfl, b0, b1, b2, b3, q1, q2, ql, qb⟩ := hrel
    by_cases hlt : k' < 3
    · have lgl := Blk.lt ql
      obtain ⟨x3, hx3⟩ : ∃ x, Hid (x = endL.getD z6 0) := ⟨_, rfl⟩
      go_wp2_with fail
      refine wp_region_tbl 28 [] [] (fun wx => Blk wx gl 2 #[.int .i64 4611686018427387904, .int .i64 4611686018427387903, .int .i64 4611686018427387905, .int .i64 9223372036854775807, .int .i64 0, .int .i64 (-9223372036854775808)] ∧ Below w.heap.size w wx)
        [(1, fun wx => Clk wx 82 B1 L C 2), (5, fun wx => Clk wx 54 B2 L C 2), (16, fun wx => Clk wx 82 B1 L C 2), (25, fun wx => Clk wx 54 B2 L C 2)]
        [(1, exactly (.agg #[.int .i64 L, .int .i64 C, .int .i64 2])), (16, nowTold B1 82 (nowL L C x3).1 (nowL L C x3).2 2), (25, nowTold B2 54 (nowL L C x3).1 (nowL L C x3).2 2)]
        (by kernel_rfl) (by kernel_rfl) (by kernel_rfl) (fun _ _ _ _ _ h => h) ⟨ql, qb.drew⟩ (by simp only [List.forall_mem_cons]; exact ⟨q1, q2, q1, q2, fun _ h => by cases h⟩) ?_ ?_ ?_
      · intro x hx y hy
        simp only [List.mem_cons, List.not_mem_nil, or_false] at hx hy
        rcases hx with rfl | rfl | rfl <;> rcases hy with rfl | rfl | rfl <;> intro hne v w w' h1 h2 <;> first | exact absurd rfl hne | exact trivial | exact Only.blk h2 h1 h12 | exact Only.blk h2 h1 (Ne.symm h12) | exact Below.blk h2 h1
      · intro x hx y hy
        simp only [List.mem_cons, List.not_mem_nil, or_false] at hx hy
        rcases hx with rfl | rfl | rfl | rfl <;> rcases hy with rfl | rfl | rfl <;> intro hne <;> first | exact absurd rfl hne | exact .inr fun w w' h1 h2 => Below.blk h2 h1 | exact .inr fun w w' h1 h2 => Only.blk h2 h1 h12 | exact .inr fun w w' h1 h2 => Only.blk h2 h1 (Ne.symm h12) | exact .inl (Under.step (m := 7) (by kernel_rfl) (Under.step (m := 6) (by kernel_rfl) (Under.one (by kernel_rfl))))
      simp only [List.take_succ_cons, List.take_zero, List.drop_succ_cons, List.drop_zero, List.drop_nil]
      (refine wpLex_plain (by rfl) (by rfl) ?_; apply Exists.intro; refine ⟨fun wx hx => ?_, ?_⟩; (have r3 : wx.cell? ⟨gl, z6, none⟩ = some (.int .i64 x3) := hx3.out ▸ endL_at _ _ (hx rfl).1.1 _ m3; go_simp; rfl); simp only [Act.put, List.setIfInBounds_toArray, List.set_cons_zero, List.set_cons_succ])
      refine wpLex_rel (by rfl) _ rfl ⟨⟨_, rfl⟩, fun wx hx hp hd => ?_⟩ ?_
      · have hpp := hp _ List.mem_cons_self rfl
        go_simp
        simp only [gives]
        refine (last_any B1 L C 2 _ hpp).mono ?_
        rintro e w' ⟨rfl, q⟩
        exact ⟨_, rfl, rfl, ⟨Below.blk q hx.1, bthen hx.2 q⟩, q, q.size, not_fresh rfl, trivial⟩
      rintro _ rfl
      simp only [Act.put, List.setIfInBounds_toArray, List.set_cons_zero, List.set_cons_succ]
      iterate 3
        (refine wpLex_plain (by rfl) (by rfl) ?_; apply Exists.intro; refine ⟨fun wx hx => ?_, ?_⟩; (have r3 : wx.cell? ⟨gl, z6, none⟩ = some (.int .i64 x3) := hx3.out ▸ endL_at _ _ (hx rfl).1.1 _ m3; go_simp; rfl); simp only [Act.put, List.setIfInBounds_toArray, List.set_cons_zero, List.set_cons_succ])
      refine wpLex_plain (by rfl) (by rfl) ?_
      apply Exists.intro
      refine ⟨fun wx hx => ?_, ?_⟩
      · have hcc := Blk.cell ((hx rfl).2.1 _ (List.mem_cons_of_mem _ List.mem_cons_self) rfl)
        go_simp
        rfl
      simp only [Act.put, List.setIfInBounds_toArray, List.set_cons_zero, List.set_cons_succ]
      iterate 10
        (refine wpLex_plain (by rfl) (by rfl) ?_; apply Exists.intro; refine ⟨fun wx hx => ?_, ?_⟩; (have r3 : wx.cell? ⟨gl, z6, none⟩ = some (.int .i64 x3) := hx3.out ▸ endL_at _ _ (hx rfl).1.1 _ m3; go_simp; rfl); simp only [Act.put, List.setIfInBounds_toArray, List.set_cons_zero, List.set_cons_succ])
      refine wpLex_rel (by rfl) _ rfl ⟨⟨_, rfl⟩, fun wx hx hp hd => ?_⟩ ?_
      · have hpp := hp _ (List.mem_cons_of_mem _ (List.mem_cons_of_mem _ List.mem_cons_self)) rfl
        go_simp
        simp only [gives]
        refine (now_any B1 L C 2 x3 _ hpp b0 b1 b2 b3).mono ?_
        rintro e w' ⟨rfl, q, oo⟩
        exact ⟨_, rfl, rfl, ⟨Only.blk oo hx.1 hl1, Only.belowB oo hx.2 hB1⟩, oo, oo.size, not_fresh rfl, q⟩
      rintro _ rfl
      simp only [Act.put, List.setIfInBounds_toArray, List.set_cons_zero, List.set_cons_succ]
      iterate 8
        (refine wpLex_plain (by rfl) (by rfl) ?_; apply Exists.intro; refine ⟨fun wx hx => ?_, ?_⟩; (have r3 : wx.cell? ⟨gl, z6, none⟩ = some (.int .i64 x3) := hx3.out ▸ endL_at _ _ (hx rfl).1.1 _ m3; go_simp; rfl); simp only [Act.put, List.setIfInBounds_toArray, List.set_cons_zero, List.set_cons_succ])
      refine wpLex_rel (by rfl) _ rfl ⟨⟨_, rfl⟩, fun wx hx hp hd => ?_⟩ ?_
      · have hpp := hp _ (List.mem_cons_of_mem _ (List.mem_cons_of_mem _ (List.mem_cons_of_mem _ List.mem_cons_self))) rfl
        go_simp
        simp only [gives]
        refine (refNow_any B2 L C 2 x3 _ hpp b0 b1 b2 b3).mono ?_
        rintro e w' ⟨rfl, q, oo⟩
        exact ⟨_, rfl, rfl, ⟨Only.blk oo hx.1 hl2, Only.belowB oo hx.2 hB2⟩, oo, oo.size, not_fresh rfl, q⟩
      rintro _ rfl
      simp only [Act.put, List.setIfInBounds_toArray, List.set_cons_zero, List.set_cons_succ]
      iterate 2
        (refine wpLex_plain (by rfl) (by rfl) ?_; apply Exists.intro; refine ⟨fun wx hx => ?_, ?_⟩; (have r3 : wx.cell? ⟨gl, z6, none⟩ = some (.int .i64 x3) := hx3.out ▸ endL_at _ _ (hx rfl).1.1 _ m3; go_simp; rfl); simp only [Act.put, List.setIfInBounds_toArray, List.set_cons_zero, List.set_cons_succ])
      refine wpLex_nil fun w8 jc hr _ => ?_
      have j2 : Clk w8 54 B2 _ _ 2 := hr _ List.mem_cons_self
      have j1 : Clk w8 82 B1 _ _ 2 := hr _ (List.mem_cons_of_mem _ List.mem_cons_self)
      have bd := nowL_bd L C x3 b0 b1 b2 b3
      clear hr
      go_wp2_with fail
      go_roundw
      case rel => exact ⟨k' + 1, _, _, by omega, by go_num, bd.1, bd.2.1, bd.2.2.1, bd.2.2.2, j1, j2, jc.1, jc.2⟩
      case measure => simp [intOf]; omega
    · go_wp2_with fail
      go_ret
      exact ⟨rfl, qb⟩

theorem clockEnds.walk {H : Type} {enc : TypeId × Value → H} (W : World) (base : Nat) {v0 v1 v2 : Value} {d0 d1 d2 : DataW H} {p0 p1 p2 : List MemPlace}
    (o0 : Value.okWide Try.prog W .any base 5 v0) (h0 : DataW.Trod enc Try.prog W 0 (fun _ => true) true 5 v0 d0 p0)
    (o1 : Value.okWide Try.prog W .any base 5 v1) (h1 : DataW.Trod enc Try.prog W 0 (fun _ => true) true 5 v1 d1 p1)
    (o2 : Value.okWide Try.prog W .any base 2 v2) (h2 : DataW.Trod enc Try.prog W 0 (fun _ => true) true 2 v2 d2 p2) :
    Calls Try.prog 10 #[v0, v1, v2] W fun e w' => e = .returned (.bool true) ∧ Below W.heap.size W w' := by
  obtain ⟨k, rfl, _, _, wk⟩ := open_int Try.underlying5 o0 h0
  obtain ⟨j, rfl, _, _, wj⟩ := open_int Try.underlying5 o1 h1
  obtain ⟨v, rfl, _, _, _⟩ := open_int Try.underlying2 o2 h2
  have bk := bounds_u8 wk
  have bj := bounds_u8 wj
  exact clockEnds.core k j v W bk.1 (by omega) bj.1 (by omega)
theorem clockEnds.own : ownKnob Try.prog.godebug = none := by kernel_rfl
theorem clockEnds.laidOut : laidOutB Try.prog = true := by kernel_rfl
set_option maxRecDepth 100000 in
theorem clockEnds.lifted (os : Os) (started : os.Started) (H : Type) (enc : TypeId × Value → H) :
    ReturnsInHanded {} Try.checked os 10 .any (Rows.clockEndsSpec.pre6 enc Try.prog Try.f10 Rows.clockEndsRow.domain false) (Rows.clockEndsSpec.post enc Try.prog Try.f10 false true false false) := by
  refine returnsInHanded_of_change (C := Try.checked) clockEnds.own started (by kernel_rfl) Try.func10
    (ChangeSpec.witness6 (enc := enc) (C := Try.checked) false ⟨#[], #[.int .u8 0, .int .u8 0, .int .i64 0], []⟩ 8 (by kernel_rfl) (by kernel_rfl) (by kernel_rfl) (by kernel_rfl)) ?_
  intro W base args ds gs before hval0 hW hcnd _
  have hval : ∀ (j : Nat) t v, Try.f10.params[j]? = some t → args[j]? = some v → Value.okWide Try.prog W .any base t v := hval0
  have hW' := hW
  obtain ⟨p, q, hA0, hV, rfl, hfz, hnd⟩ := hW
  have hA : DataW.TrodAll enc Try.prog W 0 (fun _ => true) true Try.f10.params.toList args.toList ds p := hA0
  rw [Try.params10] at hA hval
  obtain ⟨v0, vs0, d0, ds0, p0, q0, hargs, rfl, rfl, h0, r0⟩ := trodAll_cons hA
  obtain ⟨v1, vs1, d1, ds1, p1, q1, rfl, rfl, rfl, h1, r1⟩ := trodAll_cons r0
  obtain ⟨v2, vs2, d2, ds2, p2, q2, rfl, rfl, rfl, h2, r2⟩ := trodAll_cons r1
  obtain ⟨rfl, rfl, rfl⟩ := trodAll_nil r2
  obtain rfl : args = #[v0, v1, v2] := by cases args; simp_all
  obtain ⟨rfl, rfl⟩ := trodVars_none hV
  have k0 := h0
  have lt0 : ∀ x ∈ p0, x.block < W.heap.size := by obtain ⟨m, hm⟩ := k0; exact DataW.trod_lt m _ _ _ hm
  have k1 := h1
  have lt1 : ∀ x ∈ p1, x.block < W.heap.size := by obtain ⟨m, hm⟩ := k1; exact DataW.trod_lt m _ _ _ hm
  have k2 := h2
  have lt2 : ∀ x ∈ p2, x.block < W.heap.size := by obtain ⟨m, hm⟩ := k2; exact DataW.trod_lt m _ _ _ hm
  clear hA0 hval0
  refine (clockEnds.walk W base (hval 0 5 v0 rfl rfl) h0 (hval 1 5 v1 rfl rfl) h1 (hval 2 2 v2 rfl rfl) h2).mono fun e W' ⟨he, bel⟩ => ?_
  subst he
  exact ⟨_, rfl, _, _, _, [], _, [], hW', trodAll_mk1 (shut_bool Try.underlying4 _), (trodAll_cons_mk (Below.trod clockEnds.laidOut (by kernel_rfl) (of_decide_eq_true (by kernel_rfl)) k0 bel lt0) (trodAll_cons_mk (Below.trod clockEnds.laidOut (by kernel_rfl) (of_decide_eq_true (by kernel_rfl)) k1 bel lt1) (trodAll_cons_mk (Below.trod clockEnds.laidOut (by kernel_rfl) (of_decide_eq_true (by kernel_rfl)) k2 bel lt2) trodAll_mk0))), rfl, bel.frame _, fun h => by cases h⟩

theorem clockEnds.over : Rows.clockEndsRow.holds Try.pinned (OpenSpec.ofChange Rows.clockEndsSpec) :=
  OpenClaim.holds_of_wide 10 Try.f10 rfl rfl rfl rfl rfl rfl rfl ⟨rfl, rfl, rfl, rfl, rfl⟩ rfl rfl rfl rfl rfl (by kernel_rfl) Try.func10 (by kernel_rfl)
    (of_decide_eq_true (by kernel_rfl)) (by unfold Func.isWrapper; first | (rw [if_pos (by decide +kernel)]; kernel_rfl) | (rw [if_neg (by decide +kernel)]; exact ⟨rfl, rfl⟩))
    (fun os started H enc _ => clockEnds.lifted os started H enc)

theorem clockEnds.proved : Rows.ClockEndsSaid := clockEnds.over
#print axioms clockEnds.proved
end Go.Proofs.Ytdplieimkphneaa
