/- hubbublaw8.ClockPlays answers true for every node and every story: the clock's stamps are the document's. -/
import Derived.Test.YtdplieimkphneaaCkKnown
import Derived.Test.YtdplieimkphneaaOpen
namespace Go.Proofs.Ytdplieimkphneaa
open Go.RowKit Go.ChangeShapes Go.WideShapes Go.ChangeAt Go.Joins
set_option linter.unusedSimpArgs false
set_option linter.unusedVariables false

/-- Element i of a slice of clock acts that came in. -/
def ActAt (w : World) (A : Option Addr) (i : Nat) : Prop :=
  ∃ (b off : Nat) (s : Bool) (wl sl sc sn : Int), A = some ⟨b, off, none⟩ ∧ b < w.heap.size ∧ w.cell? ⟨b, off + i * 5, none⟩ = some (.bool s) ∧ w.cell? ⟨b, off + i * 5 + 1, none⟩ = some (.int .i64 wl) ∧
    w.cell? ⟨b, off + i * 5 + 2, none⟩ = some (.int .i64 sl) ∧ w.cell? ⟨b, off + i * 5 + 3, none⟩ = some (.int .i64 sc) ∧ w.cell? ⟨b, off + i * 5 + 4, none⟩ = some (.int .i64 sn)

theorem Only.belowB {g : Nat} {w a b : World} (h : Only g a b) (k : Below w.heap.size w a) (hg : w.heap.size ≤ g) : Below w.heap.size w b :=
  k.trans (Only.below h k.size hg)
def nowTold (b T : Nat) (l c n : Int) : Told := ⟨fun v => v = .agg #[.int .i64 l, .int .i64 c, .int .i64 n], fun _ w => Clk w T b l c n, fun x y => Only b x y⟩
theorem nowTold_stable {b b' T T' : Nat} {l c n l' c' n' : Int} {p q : Nat} (hb : b ≠ b') (hpq : p ≠ q) : ∀ j k Tj Tk, j ≠ k → table [(p, nowTold b T l c n), (q, nowTold b' T' l' c' n')] j = some Tj → table [(p, nowTold b T l c n), (q, nowTold b' T' l' c' n')] k = some Tk → ∀ v w w', Tj.holds v w → Tk.step w w' → Tj.holds v w' := by
  intro j k Tj Tk hne hj hk v w w' h1 h2
  have mj := table_mem hj
  have mk := table_mem hk
  simp only [List.mem_cons, Prod.mk.injEq, List.not_mem_nil, or_false] at mj mk
  rcases mj with ⟨rfl, rfl⟩ | ⟨rfl, rfl⟩ <;> rcases mk with ⟨rfl, rfl⟩ | ⟨rfl, rfl⟩
  · exact absurd rfl hne
  · exact Only.blk h2 h1 hb
  · exact Only.blk h2 h1 (Ne.symm hb)
  · exact absurd rfl hne
theorem nowTold_pre {ops : Array Oper} {b b' T T' : Nat} {l c n l' c' n' x y z : Int} (hb : b ≠ b') (hpq : (3 : Nat) ≠ 7) : ∀ k i Ti, k ≠ i → table [(3, nowTold b T l c n), (7, nowTold b' T' l' c' n')] i = some Ti → Under ops i k ∨ ∀ w w', (match k with | 3 => Clk w T b x y z | 7 => Clk w T' b' x y z | _ => True) → Ti.step w w' → (match k with | 3 => Clk w' T b x y z | 7 => Clk w' T' b' x y z | _ => True) := by
  intro k i Ti hne hi
  refine .inr fun w w' h1 h2 => ?_
  have mi := table_mem hi
  simp only [List.mem_cons, Prod.mk.injEq, List.not_mem_nil, or_false] at mi
  rcases mi with ⟨rfl, rfl⟩ | ⟨rfl, rfl⟩
  · split at h1
    · exact absurd rfl hne
    · exact Only.blk h2 h1 (Ne.symm hb)
    · trivial
  · split at h1
    · exact Only.blk h2 h1 hb
    · exact absurd rfl hne
    · trivial

theorem nowL_bd (l c v : Int) (b0 : 0 ≤ l) (b1 : l ≤ 4611686018427387904) (b2 : 0 ≤ c) (b3 : c ≤ 4611686018427387904) :
    0 ≤ (nowL l c v).1 ∧ (nowL l c v).1 ≤ 4611686018427387904 ∧ 0 ≤ (nowL l c v).2 ∧ (nowL l c v).2 ≤ 4611686018427387904 := by
  have := near_bd v
  unfold nowL
  split
  · simp only; omega
  · split
    · simp only; omega
    · split <;> simp only <;> omega
theorem seeL_bd (l c v sl sc : Int) (b0 : 0 ≤ l) (b1 : l ≤ 4611686018427387904) :
    0 ≤ (seeL l c v sl sc).1 ∧ (seeL l c v sl sc).1 ≤ 4611686018427387904 ∧ 0 ≤ (seeL l c v sl sc).2 ∧ (seeL l c v sl sc).2 ≤ 4611686018427387904 := by
  have h1 := near_bd v
  have h2 := near_bd sl
  unfold seeL
  refine ⟨by simp only; omega, by simp only; omega, (near_bd _).1, (near_bd _).2⟩

set_option maxHeartbeats 2000000 in
theorem clockPlays.core (n : Int) (A : Option Addr) (len cap : Nat) (w : World) (hlc : len ≤ cap) (hcm : cap ≤ maxLen) (hE : ∀ i, i < len → ActAt w A i) :
    Calls Try.prog 7 #[.int .i64 n, .slice A len cap] w fun e w' => e = .returned (.bool true) ∧ Below w.heap.size w w' := by
  unfold maxLen at hcm
  go_enter Try.func7, Try.ntmps7
  go_wp2_with fail
  refine (ckKnown _).mono ?_
  rintro e w0 ⟨rfl, hb0⟩
  by_cases h60 : 60 < len
  · go_wp2_with fail
    go_ret
    exact ⟨rfl, hb0⟩
  · go_wp2_with fail
    refine (new_any _ _).mono ?_
    rintro e w1 ⟨rfl, hw1⟩
    have hc1 : Clk w1 82 w0.heap.size 0 0 n := by rw [← hw1]; exact Blk.new _ _ _
    have hb1 : Below w0.heap.size w0 w1 := by rw [← hw1]; exact (Below.refl _ _).alloc (Nat.le_refl _) _
    clear hw1
    have hw0 := hb0.size
    have hb1' := bthen hb0 hb1
    clear hb0 hb1
    generalize w0.heap.size = B1 at *
    have hl1 := Blk.lt hc1
    go_wp2_with fail
    have hc2 : Clk (w1.alloc (.cells #[.int .i64 0, .int .i64 0, .int .i64 n] 54)) 54 w1.heap.size 0 0 n := Blk.new _ _ _
    have hc1' : Clk (w1.alloc (.cells #[.int .i64 0, .int .i64 0, .int .i64 n] 54)) 82 B1 0 0 n := Blk.alloc hc1 _
    have hb2 := hb1'.alloc hb1'.size (.cells #[.int .i64 0, .int .i64 0, .int .i64 n] 54)
    have hB2 : w.heap.size ≤ w1.heap.size := hb1'.size
    generalize w1.alloc (.cells #[.int .i64 0, .int .i64 0, .int .i64 n] 54) = w2 at *
    generalize w1.heap.size = B2 at *
    clear hc1 hb1'
    go_loopw [7] (fun i wr => ∃ (k : Nat) (L C : Int), k ≤ len ∧ i = .int .i64 k ∧ 0 ≤ L ∧ L ≤ 4611686018427387904 ∧ 0 ≤ C ∧ C ≤ 4611686018427387904 ∧ Clk wr 82 B1 L C n ∧ Clk wr 54 B2 L C n ∧ Below w.heap.size w wr) (fun i _ => len - (intOf i).toNat)
    case atStart => exact ⟨0, 0, 0, Nat.zero_le _, rfl, by decide, by decide, by decide, by decide, hc1', hc2, hb2⟩
    case round =>
      obtain ⟨k, L, C, hk, rfl, b0, b1, b2, b3, k1, k2, kb⟩ := hrel
      clear hc1' hc2 hb2
      by_cases hlt : k < len
      · obtain ⟨b, off, s, wl, sl, sc, sn, rfl, hbs, e0, e1, e2, e3, e4⟩ := hE k hlt
        have hbr : b < wr.heap.size := Nat.lt_of_lt_of_le hbs kb.size
        have f0 := (kb.cell (p := ⟨b, off + k * 5, none⟩) hbs).trans e0
        have f1 := (kb.cell (p := ⟨b, off + k * 5 + 1, none⟩) hbs).trans e1
        have f2 := (kb.cell (p := ⟨b, off + k * 5 + 2, none⟩) hbs).trans e2
        have f3 := (kb.cell (p := ⟨b, off + k * 5 + 3, none⟩) hbs).trans e3
        have f4 := (kb.cell (p := ⟨b, off + k * 5 + 4, none⟩) hbs).trans e4
        clear e0 e1 e2 e3 e4
        go_upto_if 32 with fail
        go_cut [8] (fun s8 wx => ∃ (g : Nat) (wl sl sc : Int), s8 = .pointer (some ⟨g, 0, none⟩) ∧ Blk wx g 56 #[.bool s, .int .i64 wl, .int .i64 sl, .int .i64 sc, .int .i64 sn] ∧ Clk wx 82 B1 L C n ∧ Clk wx 54 B2 L C n ∧ Below w.heap.size w wx)
        case first =>
          go_wp2_with fail
          all_goals go_meet
          all_goals exact ⟨wr.heap.size, _, _, _, rfl, Blk.new _ _ _, Blk.alloc k1 _, Blk.alloc k2 _, kb.alloc kb.size _⟩
        case rest =>
          clear kb k1 k2 f0 f1 f2 f3 f4
          obtain ⟨g, wl, sl, sc, rfl, kg, k1, k2, kb⟩ := hcut
          have hg1 : g ≠ B1 := Blk.ne_ kg k1 (by decide)
          have hg2 : g ≠ B2 := Blk.ne_ kg k2 (by decide)
          have h12 : B1 ≠ B2 := Blk.ne_ k1 k2 (by decide)
          have cg := Blk.cell kg
          have lg := Blk.lt kg
          cases s
          · go_wp2_with fail
            refine wp_region_rel 9 [] [] (fun wx => Blk wx g 56 #[.bool false, .int .i64 wl, .int .i64 sl, .int .i64 sc, .int .i64 sn] ∧ Below w.heap.size w wx)
              (fun k wx => match k with | 3 => Clk wx 82 B1 L C n | 7 => Clk wx 54 B2 L C n | _ => True)
              (table [(3, nowTold B1 82 (nowL L C wl).1 (nowL L C wl).2 n), (7, nowTold B2 54 (nowL L C wl).1 (nowL L C wl).2 n)])
              (by kernel_rfl) (by kernel_rfl) (by kernel_rfl) (fun _ _ _ _ _ h => h) ⟨kg, kb.drew⟩ (fun k => by split <;> first | exact k1 | exact k2 | trivial) (nowTold_stable h12 (by decide)) (nowTold_pre h12 (by decide)) ?_
            simp only [List.take_succ_cons, List.take_zero, List.drop_succ_cons, List.drop_zero, List.drop_nil]
            iterate 3
              (refine wpLex_plain (by rfl) (by rfl) ?_; apply Exists.intro; refine ⟨fun wx hx => ?_, ?_⟩; (have hcc := Blk.cell (hx rfl).1.1; go_simp; rfl); simp only [Act.put, List.setIfInBounds_toArray, List.set_cons_zero, List.set_cons_succ])
            refine wpLex_rel (by rfl) _ rfl ⟨⟨_, rfl⟩, fun wx hx hp hd => ?_⟩ ?_
            · go_simp
              simp only [gives]
              refine (now_any B1 L C n wl _ hp b0 b1 b2 b3).mono ?_
              rintro e w' ⟨rfl, q1, q2⟩
              exact ⟨_, rfl, rfl, ⟨Only.blk q2 hx.1 hg1, Only.belowB q2 hx.2 hw0⟩, q2, q2.size, not_fresh rfl, q1⟩
            rintro _ rfl
            simp only [Act.put, List.setIfInBounds_toArray, List.set_cons_zero, List.set_cons_succ]
            iterate 3
              (refine wpLex_plain (by rfl) (by rfl) ?_; apply Exists.intro; refine ⟨fun wx hx => ?_, ?_⟩; (have hcc := Blk.cell (hx rfl).1.1; go_simp; rfl); simp only [Act.put, List.setIfInBounds_toArray, List.set_cons_zero, List.set_cons_succ])
            refine wpLex_rel (by rfl) _ rfl ⟨⟨_, rfl⟩, fun wx hx hp hd => ?_⟩ ?_
            · go_simp
              simp only [gives]
              refine (refNow_any B2 L C n wl _ hp b0 b1 b2 b3).mono ?_
              rintro e w' ⟨rfl, q1, q2⟩
              exact ⟨_, rfl, rfl, ⟨Only.blk q2 hx.1 hg2, Only.belowB q2 hx.2 hB2⟩, q2, q2.size, not_fresh rfl, q1⟩
            rintro _ rfl
            simp only [Act.put, List.setIfInBounds_toArray, List.set_cons_zero, List.set_cons_succ]
            (refine wpLex_plain (by rfl) (by rfl) ?_; apply Exists.intro; refine ⟨fun wx hx => ?_, ?_⟩; (go_simp; rfl); simp only [Act.put, List.setIfInBounds_toArray, List.set_cons_zero, List.set_cons_succ])
            refine wpLex_nil fun w5 hw5 hr _ => ?_
            have j1 : Clk w5 82 B1 _ _ n := hr _ (List.mem_cons_of_mem _ List.mem_cons_self)
            have j2 : Clk w5 54 B2 _ _ n := hr _ List.mem_cons_self
            clear hr kg k1 k2 kb cg lg
            obtain ⟨kg, kb⟩ := hw5
            have k1 := j1
            have k2 := j2
            clear j1 j2
            go_wp2_with fail
            have bd := nowL_bd L C wl b0 b1 b2 b3
            generalize (nowL L C wl).1 = L' at *
            generalize (nowL L C wl).2 = C' at *
            have cg := Blk.cell k2
            have lg := Blk.lt k2
            refine wp_region_below 7 [] []
              [(1, exactly (.agg #[.int .i64 L', .int .i64 C', .int .i64 n]))]
              (by kernel_rfl) (by kernel_rfl) (by kernel_rfl) (by simp [exactly_lasts, ptrTo_lasts, sliceTo_lasts]) (fun _ _ _ _ _ h => h) ?_
            simp only [List.take_succ_cons, List.take_zero, List.drop_succ_cons, List.drop_zero, List.drop_nil]
            repeat (first | (refine wpLex_skip (by rfl) ?_; simp only [Act.put, List.setIfInBounds_toArray, List.set_cons_zero, List.set_cons_succ]) | (refine wpLex_plain (by rfl) (by rfl) ?_; apply Exists.intro; refine ⟨fun wx hx => ?_, ?_⟩; (obtain ⟨hcc, hff⟩ := bcell (hx rfl).1; go_simp; rfl); simp only [Act.put, List.setIfInBounds_toArray, List.set_cons_zero, List.set_cons_succ]) | (refine wpLex_plain (by rfl) (by rfl) ?_; apply Exists.intro; refine ⟨fun wx hx => ?_, ?_⟩; (go_simp; rfl); simp only [Act.put, List.setIfInBounds_toArray, List.set_cons_zero, List.set_cons_succ]) | (refine wpLex_rel (by rfl) _ rfl (relAt_below ⟨_, rfl⟩ rfl fun wx hx hd => ?_) ?_; (obtain ⟨hcc, hff⟩ := bcell hx; go_simp; simp only [gives]; first | (go_at_call 30; (with_reducible refine (last_any B1 L' C' n _ (Clk.below k1 hx)).mono ?_); rintro e w' ⟨rfl, hb'⟩; exact ⟨_, rfl, rfl, hb', not_fresh rfl, trivial⟩)); rintro _ rfl; simp only [Act.put, List.setIfInBounds_toArray, List.set_cons_zero, List.set_cons_succ]))
            refine wpLex_nil fun w6 hw6 hr hap => ?_
            clear hr hap
            go_wp2_with fail
            go_roundw
            case rel => exact ⟨k + 1, L', C', by omega, by go_num, bd.1, bd.2.1, bd.2.2.1, bd.2.2.2, Clk.below k1 hw6, Clk.below k2 hw6, bthen kb hw6⟩
            case measure => simp [intOf]; omega
          · go_wp2_with fail
            refine (see_any B1 L C n wl sl sc sn _ k1 b0 b1 b2 b3).mono ?_
            rintro e w3 ⟨rfl, j1, o1⟩
            have kg3 := Only.blk o1 kg hg1
            have j2 : Clk w3 54 B2 L C n := Only.blk o1 k2 (Ne.symm h12)
            have kb3 := Only.belowB o1 kb hw0
            clear kg k1 k2 kb cg lg
            have cg := Blk.cell kg3
            go_wp2_with fail
            refine (refSee_any B2 L C n wl sl sc sn _ j2 b0 b1 b2 b3).mono ?_
            rintro e w4 ⟨rfl, k2, o2⟩
            have kg := Only.blk o2 kg3 hg2
            have k1 : Clk w4 82 B1 _ _ n := Only.blk o2 j1 h12
            have kb := Only.belowB o2 kb3 hB2
            clear kg3 j1 j2 kb3 cg o1 o2
            have bd := seeL_bd L C wl sl sc b0 b1
            generalize (seeL L C wl sl sc).1 = L' at *
            generalize (seeL L C wl sl sc).2 = C' at *
            go_wp2_with fail
            have cg := Blk.cell k2
            have lg := Blk.lt k2
            refine wp_region_below 7 [] []
              [(1, exactly (.agg #[.int .i64 L', .int .i64 C', .int .i64 n]))]
              (by kernel_rfl) (by kernel_rfl) (by kernel_rfl) (by simp [exactly_lasts, ptrTo_lasts, sliceTo_lasts]) (fun _ _ _ _ _ h => h) ?_
            simp only [List.take_succ_cons, List.take_zero, List.drop_succ_cons, List.drop_zero, List.drop_nil]
            repeat (first | (refine wpLex_skip (by rfl) ?_; simp only [Act.put, List.setIfInBounds_toArray, List.set_cons_zero, List.set_cons_succ]) | (refine wpLex_plain (by rfl) (by rfl) ?_; apply Exists.intro; refine ⟨fun wx hx => ?_, ?_⟩; (obtain ⟨hcc, hff⟩ := bcell (hx rfl).1; go_simp; rfl); simp only [Act.put, List.setIfInBounds_toArray, List.set_cons_zero, List.set_cons_succ]) | (refine wpLex_plain (by rfl) (by rfl) ?_; apply Exists.intro; refine ⟨fun wx hx => ?_, ?_⟩; (go_simp; rfl); simp only [Act.put, List.setIfInBounds_toArray, List.set_cons_zero, List.set_cons_succ]) | (refine wpLex_rel (by rfl) _ rfl (relAt_below ⟨_, rfl⟩ rfl fun wx hx hd => ?_) ?_; (obtain ⟨hcc, hff⟩ := bcell hx; go_simp; simp only [gives]; first | (go_at_call 30; (with_reducible refine (last_any B1 L' C' n _ (Clk.below k1 hx)).mono ?_); rintro e w' ⟨rfl, hb'⟩; exact ⟨_, rfl, rfl, hb', not_fresh rfl, trivial⟩)); rintro _ rfl; simp only [Act.put, List.setIfInBounds_toArray, List.set_cons_zero, List.set_cons_succ]))
            refine wpLex_nil fun w6 hw6 hr hap => ?_
            clear hr hap
            go_wp2_with fail
            go_roundw
            case rel => exact ⟨k + 1, L', C', by omega, by go_num, bd.1, bd.2.1, bd.2.2.1, bd.2.2.2, Clk.below k1 hw6, Clk.below k2 hw6, bthen kb hw6⟩
            case measure => simp [intOf]; omega
      · go_wp2_with fail
        go_ret
        exact ⟨rfl, kb⟩

theorem acts_of {H : Type} {enc : TypeId × Value → H} {W : World} {A : Option Addr} {len cap : Nat} (hE : Elems enc Try.prog W 56 5 A len cap) : ∀ i, i < len → ActAt W A i := by
  intro i hi
  obtain ⟨b, off, cs, n, y, hA, hb, hl, hc, ht⟩ := hE.at_ i hi
  have hl' : cs.length = Try.prog.cellsOf 56 := hl.trans (by kernel_rfl)
  obtain ⟨s, g0⟩ := bool_at ht hl' 3 0 0 4 (by kernel_rfl) (by kernel_rfl) Try.underlying4
  obtain ⟨wl, g1, _⟩ := int_at ht hl' 3 1 1 2 .i64 (by kernel_rfl) (by kernel_rfl) Try.underlying2
  obtain ⟨sl, g2, _⟩ := int_at ht hl' 3 2 2 2 .i64 (by kernel_rfl) (by kernel_rfl) Try.underlying2
  obtain ⟨sc, g3, _⟩ := int_at ht hl' 3 3 3 2 .i64 (by kernel_rfl) (by kernel_rfl) Try.underlying2
  obtain ⟨sn, g4, _⟩ := int_at ht hl' 3 4 4 3 .i64 (by kernel_rfl) (by kernel_rfl) Try.underlying3
  exact ⟨b, off, s, wl, sl, sc, sn, hA, hb, hc 0 _ g0, hc 1 _ g1, hc 2 _ g2, hc 3 _ g3, hc 4 _ g4⟩

theorem clockPlays.walk {H : Type} {enc : TypeId × Value → H} (W : World) (base : Nat) {v0 v1 : Value} {d0 d1 : DataW H} {p0 p1 : List MemPlace}
    (o0 : Value.okWide Try.prog W .any base 3 v0) (h0 : DataW.Trod enc Try.prog W 0 (fun _ => true) true 3 v0 d0 p0)
    (o1 : Value.okWide Try.prog W .any base 49 v1) (h1 : DataW.Trod enc Try.prog W 0 (fun _ => true) true 49 v1 d1 p1) :
    Calls Try.prog 7 #[v0, v1] W fun e w' => e = .returned (.bool true) ∧ Below W.heap.size W w' := by
  obtain ⟨n, rfl, _, _, _⟩ := open_int Try.underlying3 o0 h0
  obtain ⟨A, len, cap, rfl, hE⟩ := elems_of (C := 5) Try.underlying49 (by kernel_rfl) (by decide) o1 h1
  exact clockPlays.core n A len cap W hE.le hE.max (acts_of hE)
theorem clockPlays.own : ownKnob Try.prog.godebug = none := by kernel_rfl
theorem clockPlays.laidOut : laidOutB Try.prog = true := by kernel_rfl
set_option maxRecDepth 100000 in
theorem clockPlays.lifted (os : Os) (started : os.Started) (H : Type) (enc : TypeId × Value → H) :
    ReturnsInHanded {} Try.checked os 7 .any (Rows.clockPlaysSpec.pre6 enc Try.prog Try.f7 Rows.clockPlaysRow.domain false) (Rows.clockPlaysSpec.post enc Try.prog Try.f7 false true false false) := by
  refine returnsInHanded_of_change (C := Try.checked) clockPlays.own started (by kernel_rfl) Try.func7
    (ChangeSpec.witness6 (enc := enc) (C := Try.checked) false ⟨#[], #[.int .i64 0, .slice none 0 0], []⟩ 8 (by kernel_rfl) (by kernel_rfl) (by kernel_rfl) (by kernel_rfl)) ?_
  intro W base args ds gs before hval0 hW hcnd _
  have hval : ∀ (j : Nat) t v, Try.f7.params[j]? = some t → args[j]? = some v → Value.okWide Try.prog W .any base t v := hval0
  have hW' := hW
  obtain ⟨p, q, hA0, hV, rfl, hfz, hnd⟩ := hW
  have hA : DataW.TrodAll enc Try.prog W 0 (fun _ => true) true Try.f7.params.toList args.toList ds p := hA0
  rw [Try.params7] at hA hval
  obtain ⟨v0, vs0, d0, ds0, p0, q0, hargs, rfl, rfl, h0, r0⟩ := trodAll_cons hA
  obtain ⟨v1, vs1, d1, ds1, p1, q1, rfl, rfl, rfl, h1, r1⟩ := trodAll_cons r0
  obtain ⟨rfl, rfl, rfl⟩ := trodAll_nil r1
  obtain rfl : args = #[v0, v1] := by cases args; simp_all
  obtain ⟨rfl, rfl⟩ := trodVars_none hV
  have k0 := h0
  have lt0 : ∀ x ∈ p0, x.block < W.heap.size := by obtain ⟨m, hm⟩ := k0; exact DataW.trod_lt m _ _ _ hm
  have k1 := h1
  have lt1 : ∀ x ∈ p1, x.block < W.heap.size := by obtain ⟨m, hm⟩ := k1; exact DataW.trod_lt m _ _ _ hm
  clear hA0 hval0
  refine (clockPlays.walk W base (hval 0 3 v0 rfl rfl) h0 (hval 1 49 v1 rfl rfl) h1).mono fun e W' ⟨he, bel⟩ => ?_
  subst he
  exact ⟨_, rfl, _, _, _, [], _, [], hW', trodAll_mk1 (shut_bool Try.underlying4 _), (trodAll_cons_mk (Below.trod clockPlays.laidOut (by kernel_rfl) (of_decide_eq_true (by kernel_rfl)) k0 bel lt0) (trodAll_cons_mk (Below.trod clockPlays.laidOut (by kernel_rfl) (of_decide_eq_true (by kernel_rfl)) k1 bel lt1) trodAll_mk0)), rfl, bel.frame _, fun h => by cases h⟩

theorem clockPlays.over : Rows.clockPlaysRow.holds Try.pinned (OpenSpec.ofChange Rows.clockPlaysSpec) :=
  OpenClaim.holds_of_wide 7 Try.f7 rfl rfl rfl rfl rfl rfl rfl ⟨rfl, rfl, rfl, rfl, rfl⟩ rfl rfl rfl rfl rfl (by kernel_rfl) Try.func7 (by kernel_rfl)
    (of_decide_eq_true (by kernel_rfl)) (by unfold Func.isWrapper; first | (rw [if_pos (by decide +kernel)]; kernel_rfl) | (rw [if_neg (by decide +kernel)]; exact ⟨rfl, rfl⟩))
    (fun os started H enc _ => clockPlays.lifted os started H enc)

theorem clockPlays.proved : Rows.ClockPlaysSaid := clockPlays.over
#print axioms clockPlays.proved
end Go.Proofs.Ytdplieimkphneaa
