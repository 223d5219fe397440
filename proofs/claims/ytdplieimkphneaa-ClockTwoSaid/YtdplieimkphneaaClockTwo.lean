/- hubbublaw8.ClockTwo answers true for every input: of two clocks that hear one another what was heard is ahead of what comes behind. -/
import Derived.Test.YtdplieimkphneaaClockRises
namespace Go.Proofs.Ytdplieimkphneaa
open Go.RowKit Go.ChangeShapes Go.WideShapes Go.ChangeAt Go.Joins
set_option linter.unusedSimpArgs false
set_option linter.unusedVariables false

theorem and_mask16 (a : Int) (m : Nat) (hm : m < 65536) : 0 ≤ bits .and .u16 a (m : Int) ∧ bits .and .u16 a (m : Int) ≤ m := by
  have h1 : (BitVec.ofInt 16 (m : Int)).toNat = m := by
    rw [BitVec.ofInt_natCast, BitVec.toNat_ofNat]; exact Nat.mod_eq_of_lt (by omega)
  have h2 : (BitVec.ofInt 16 a &&& BitVec.ofInt 16 (m : Int)).toNat ≤ m := by
    rw [BitVec.toNat_and, h1]; exact Nat.and_le_right
  show 0 ≤ IntKind.u16.wrap ((BitVec.ofInt 16 a &&& BitVec.ofInt 16 (m : Int)).toNat : Int) ∧ IntKind.u16.wrap ((BitVec.ofInt 16 a &&& BitVec.ofInt 16 (m : Int)).toNat : Int) ≤ m
  generalize (BitVec.ofInt 16 a &&& BitVec.ofInt 16 (m : Int)).toNat = x at *
  rw [IntKind.wrap_u16]
  omega
theorem two_now (L C v : Int) (h : L ≤ v) (a0 : 0 ≤ L) (a2 : 0 ≤ C) (a3 : C ≤ 1000) (v0 : 0 ≤ v) (v1 : v ≤ 1000) :
    (nowL L C v).1 = v ∧ 0 ≤ (nowL L C v).2 ∧ (nowL L C v).2 ≤ C + 1 ∧ (L < v ∨ C < (nowL L C v).2) := by
  have hv := near_id v v0 (by omega)
  by_cases c1 : L < v
  · rw [show nowL L C v = (v, 0) by unfold nowL; rw [hv, if_pos c1]]
    exact ⟨rfl, Int.le_refl _, by simp only; omega, .inl c1⟩
  · rw [show nowL L C v = (L, C + 1) by unfold nowL; rw [hv, if_neg c1, if_pos (by omega)]]
    exact ⟨by simp only; omega, by simp only; omega, Int.le_refl _, .inr (by simp only; omega)⟩
theorem two_see (L C v sc : Int) (h : L ≤ v) (a0 : 0 ≤ L) (a2 : 0 ≤ C) (a3 : C ≤ 1000) (v0 : 0 ≤ v) (v1 : v ≤ 1000) (t0 : 0 ≤ sc) (t1 : sc ≤ 1000) :
    (seeL L C v v sc).1 = v ∧ sc < (seeL L C v v sc).2 ∧ (seeL L C v v sc).2 ≤ max C sc + 1 := by
  have hv := near_id v v0 (by omega)
  have e2 := near_id sc t0 (by omega)
  have hn : ∀ x : Int, near x = min (max x 0) 4611686018427387904 := fun _ => rfl
  unfold seeL
  simp only [hv, e2]
  have hm : max L (max v v) = v := by omega
  rw [hm, if_pos rfl, hn]
  by_cases k2 : v = L
  · rw [if_pos k2]; omega
  · rw [if_neg k2]; omega

/-- Element i of a slice of uint16 that came in. -/
def U16At (w : World) (A : Option Addr) (i : Nat) : Prop := ∃ (b off : Nat) (x : Int), A = some ⟨b, off, none⟩ ∧ b < w.heap.size ∧ w.cell? ⟨b, off + i, none⟩ = some (.int .u16 x)

set_option maxHeartbeats 4000000 in
theorem clockTwo.core (A : Option Addr) (len cap : Nat) (w : World) (hlc : len ≤ cap) (hcm : cap ≤ maxLen) (hE : ∀ i, i < len → U16At w A i) :
    Calls Try.prog 9 #[.slice A len cap] w fun e w' => e = .returned (.bool true) ∧ Below w.heap.size w w' := by
  unfold maxLen at hcm
  go_enter Try.func9, Try.ntmps9
  go_wp2_with fail
  refine (ckKnown _).mono ?_
  rintro e w0 ⟨rfl, hb0⟩
  by_cases h60 : 60 < len
  · go_wp2_with fail
    go_ret
    exact ⟨rfl, hb0⟩
  · go_upto_region 6 with fail
    have ka := Blk.new w0 63 #[.pointer none, .pointer none]
    have kb := hb0.alloc hb0.size (.cells #[.pointer none, .pointer none] 63)
    have hGA : w.heap.size ≤ w0.heap.size := hb0.size
    generalize w0.alloc (.cells #[.pointer none, .pointer none] 63) = w1 at *
    generalize w0.heap.size = GA at *
    clear hb0
    go_wp2_with fail
    refine (new_any _ _).mono ?_
    rintro e w2 ⟨rfl, hw2⟩
    have hc0 : Clk w2 82 w1.heap.size 0 0 0 := by rw [← hw2]; exact Blk.new _ _ _
    have hb2 : Below w1.heap.size w1 w2 := by rw [← hw2]; exact (Below.refl _ _).alloc (Nat.le_refl _) _
    clear hw2
    have ka2 := Below.blk hb2 ka
    have hB0 : w.heap.size ≤ w1.heap.size := kb.size
    have kb2 := bthen kb hb2
    clear ka kb hb2
    generalize w1.heap.size = B0 at *
    go_wp2_with fail
    refine (new_any _ _).mono ?_
    rintro e w3 ⟨rfl, hw3⟩
    have hc1 : Clk w3 82 w2.heap.size 0 0 1 := by rw [← hw3]; exact Blk.new _ _ _
    have hb3 : Below w2.heap.size w2 w3 := by rw [← hw3]; exact (Below.refl _ _).alloc (Nat.le_refl _) _
    clear hw3
    have h01 : B0 ≠ w2.heap.size := by have := Blk.lt hc0; omega
    have ka3 := Below.blk hb3 ka2
    have hc0' : Clk w3 82 B0 0 0 0 := Below.blk hb3 hc0
    have hB1 : w.heap.size ≤ w2.heap.size := kb2.size
    have kb3 := bthen kb2 hb3
    clear ka2 kb2 hb3 hc0
    generalize w2.heap.size = B1 at *
    have ca3 := Blk.cell ka3
    have fa3 := Blk.frozen ka3
    have la3 := Blk.lt ka3
    have hA0 : GA ≠ B0 := Blk.ne_ ka3 hc0' (by decide)
    have hA1 : GA ≠ B1 := Blk.ne_ ka3 hc1 (by decide)
    go_wp2_with fail
    have ka4 : Blk ((w3.setCell ⟨GA, 0, none⟩ (.pointer (some ⟨B0, 0, none⟩))).setCell ⟨GA, 1, none⟩ (.pointer (some ⟨B1, 0, none⟩))) GA 63 #[.pointer (some ⟨B0, 0, none⟩), .pointer (some ⟨B1, 0, none⟩)] := by
      simpa using (Blk.set_ ka3 0 (.pointer (some ⟨B0, 0, none⟩))).set_ 1 (.pointer (some ⟨B1, 0, none⟩))
    have hc4 : Clk _ 82 B0 0 0 0 := (Blk.far hc0' (p := ⟨GA, 0, none⟩) (Ne.symm hA0) (.pointer (some ⟨B0, 0, none⟩))).far (p := ⟨GA, 1, none⟩) (Ne.symm hA0) (.pointer (some ⟨B1, 0, none⟩))
    have hd4 : Clk _ 82 B1 0 0 1 := (Blk.far hc1 (p := ⟨GA, 0, none⟩) (Ne.symm hA1) (.pointer (some ⟨B0, 0, none⟩))).far (p := ⟨GA, 1, none⟩) (Ne.symm hA1) (.pointer (some ⟨B1, 0, none⟩))
    have kb4 := (kb3.setCell (p := ⟨GA, 0, none⟩) hGA (.pointer (some ⟨B0, 0, none⟩))).setCell (p := ⟨GA, 1, none⟩) hGA (.pointer (some ⟨B1, 0, none⟩))
    generalize (w3.setCell ⟨GA, 0, none⟩ (.pointer (some ⟨B0, 0, none⟩))).setCell ⟨GA, 1, none⟩ (.pointer (some ⟨B1, 0, none⟩)) = w4 at *
    clear ka3 hc0' hc1 kb3 ca3 fa3 la3
    go_loopw [4, 5] (fun wl i wr => ∃ (k : Nat) (V L0 C0 L1 C1 : Int), k ≤ len ∧ i = .int .i64 k ∧ wl = .int .i64 V ∧ (0 ≤ V ∧ V ≤ 3 * k) ∧ (0 ≤ L0 ∧ L0 ≤ V ∧ 0 ≤ C0 ∧ C0 ≤ 3 * k ∧ 0 ≤ L1 ∧ L1 ≤ V ∧ 0 ≤ C1 ∧ C1 ≤ 3 * k) ∧ Blk wr GA 63 #[.pointer (some ⟨B0, 0, none⟩), .pointer (some ⟨B1, 0, none⟩)] ∧ (Clk wr 82 B0 L0 C0 0 ∧ Clk wr 82 B1 L1 C1 1) ∧ Below w.heap.size w wr) (fun _ i _ => len - (intOf i).toNat)
    case atStart => exact ⟨0, 0, 0, 0, 0, 0, Nat.zero_le _, rfl, rfl, by decide, by decide, ka4, ⟨hc4, hd4⟩, kb4⟩
    case round =>
      clear ka4 hc4 hd4 kb4
      obtain ⟨k, V, L0, C0, L1, C1, hk, rfl, rfl, bv, bc, ka, ⟨k0, k1⟩, kb⟩ := hrel
      by_cases hlt : k < len
      · obtain ⟨b, off, x, rfl, hbs, e0⟩ := hE k hlt
        have hbr : b < wr.heap.size := Nat.lt_of_lt_of_le hbs kb.size
        have f0 := (kb.cell (p := ⟨b, off + k, none⟩) hbs).trans e0
        have hE0 := Lib.hid e0
        clear e0
        go_upto_region 11 with fail
        go_cut [6] (fun s6 wx => ∃ n : Int, s6 = .int .i64 n ∧ (n = 0 ∨ n = 1) ∧ wx = wr)
        case first =>
          have hm : 0 ≤ bits .and .u16 x 1 ∧ bits .and .u16 x 1 ≤ 1 := and_mask16 x 1 (by decide)
          obtain ⟨hm1, hm2⟩ := hm
          go_wp2_with fail
          all_goals go_meet
          exact ⟨_, rfl, by omega, rfl⟩
        case rest =>
          obtain ⟨n, rfl, hn01, rfl⟩ := hcut
          go_upto_region 12 with fail
          go_cut [4] (fun s4 wx => ∃ q : Int, s4 = .int .i64 q ∧ V ≤ q ∧ q ≤ V + 3 ∧ wx = wc)
          case first =>
            have hm : 0 ≤ bits .and .u16 (x / 2) 3 ∧ bits .and .u16 (x / 2) 3 ≤ 3 := and_mask16 (x / 2) 3 (by decide)
            obtain ⟨hm1, hm2⟩ := hm
            go_wp2_with fail
            all_goals go_meet
            exact ⟨_, rfl, by omega, by omega, rfl⟩
          case rest =>
            obtain ⟨q, rfl, hq1, hq2, rfl⟩ := hcut
            clear f0 hbr
            have h01' := Ne.symm h01
            have e0 := hE0.out
            have f0 := (kb.cell (p := ⟨b, off + k, none⟩) hbs).trans e0
            have hbr : b < wc.heap.size := Nat.lt_of_lt_of_le hbs kb.size
            rcases hn01 with rfl | rfl
            · skip
              have cga := Blk.cell ka
              have lga := Blk.lt ka
              have hn := two_now L0 C0 q (by omega) (by omega) (by omega) (by omega) (by omega) (by omega)
              go_wp2_with fail
              refine (now_any B0 L0 C0 0 q _ k0 (by omega) (by omega) (by omega) (by omega)).mono ?_
              rintro e w3 ⟨rfl, j1, oo⟩
              obtain ⟨hn1, hn2, hn3, hn4⟩ := hn
              rw [hn1] at j1
              rw [hn1]
              clear hn1
              generalize (nowL L0 C0 q).2 = C' at *
              have ja := (Only.blk oo ka hA0).alloc (.cells #[.int .i64 q, .int .i64 C', .int .i64 0] 46)
              have jo := (Only.blk oo k1 h01').alloc (.cells #[.int .i64 q, .int .i64 C', .int .i64 0] 46)
              have js := Blk.new w3 46 #[.int .i64 q, .int .i64 C', .int .i64 0]
              have j1' := Blk.alloc j1 (.cells #[.int .i64 q, .int .i64 C', .int .i64 0] 46)
              have jb := (Only.belowB oo kb hB0).alloc (Only.belowB oo kb hB0).size (.cells #[.int .i64 q, .int .i64 C', .int .i64 0] 46)
              have fx := (jb.cell (p := ⟨b, off + k, none⟩) hbs).trans e0
              have lfx : b < w3.heap.size + 1 := by have := (Only.belowB oo kb hB0).size; omega
              clear ka k0 k1 kb j1 cga lga oo f0
              go_upto_region 14 with fail
              generalize hw4 : w3.alloc (.cells #[.int .i64 q, .int .i64 C', .int .i64 0] 46) = w4 at *
              clear hw4
              generalize w3.heap.size = GS at *
              have cja := Blk.cell ja
              have cjs := Blk.cell js
              have lja := Blk.lt ja
              have ljs := Blk.lt js
              go_wp2_with fail
              · refine wp_region_below 6 [] []
                  []
                  (by kernel_rfl) (by kernel_rfl) (by kernel_rfl) (by simp [exactly_lasts, ptrTo_lasts, sliceTo_lasts]) (fun _ _ _ _ _ h => h) ?_
                simp only [List.take_succ_cons, List.take_zero, List.drop_succ_cons, List.drop_zero, List.drop_nil]
                iterate 6
                  (refine wpLex_plain (by rfl) (by rfl) ?_; apply Exists.intro; refine ⟨fun wx hx => ?_, ?_⟩; (obtain ⟨hcc, hff⟩ := bcell (hx rfl).1; go_simp; rfl); simp only [Act.put, List.setIfInBounds_toArray, List.set_cons_zero, List.set_cons_succ])
                refine wpLex_nil fun w5 hw5 hr _ => ?_
                clear hr
                have i1 : Clk w5 82 B0 q C' 0 := Below.blk hw5 j1'
                have ia := Below.blk hw5 ja
                have io : Clk w5 82 B1 L1 C1 1 := Below.blk hw5 jo
                have is_ := Below.blk hw5 js
                have ib := bthen jb hw5
                clear j1' ja jo js jb hw5 cja cjs lja ljs fx
                have hs := two_see L1 C1 q C' (by omega) (by omega) (by omega) (by omega) (by omega) (by omega) (by omega) (by omega)
                go_wp2_with fail
                refine (see_any B1 L1 C1 1 q q C' 0 _ io (by omega) (by omega) (by omega) (by omega)).mono ?_
                rintro e w6 ⟨rfl, m2, oo⟩
                obtain ⟨hs1, hs2, hs3⟩ := hs
                rw [hs1] at m2
                clear hs1
                generalize (seeL L1 C1 q q C').2 = C2 at *
                have m1 : Clk w6 82 B0 q C' 0 := Only.blk oo i1 (Ne.symm h01')
                have ma := Only.blk oo ia hA1
                have ms := Only.blk oo is_ (Blk.ne_ is_ io (by decide))
                have mb := Only.belowB oo ib hB1
                clear i1 ia io is_ ib oo
                have cma := Blk.cell ma
                have lma := Blk.lt ma
                have hn := two_now q C2 q (Int.le_refl _) (by omega) (by omega) (by omega) (by omega) (by omega)
                go_wp2_with fail
                refine (now_any B1 q C2 1 q _ m2 (by omega) (by omega) (by omega) (by omega)).mono ?_
                rintro e w7 ⟨rfl, p2, oo⟩
                obtain ⟨hn5, hn6, hn7, hn8⟩ := hn
                rw [hn5] at p2
                rw [hn5]
                clear hn5
                generalize (nowL q C2 q).2 = C3 at *
                have p1 : Clk _ 82 B0 q C' 0 := (Only.blk oo m1 (Ne.symm h01')).alloc (.cells #[.int .i64 q, .int .i64 C3, .int .i64 1] 46)
                have pa := (Only.blk oo ma hA1).alloc (.cells #[.int .i64 q, .int .i64 C3, .int .i64 1] 46)
                have ps := (Only.blk oo ms (Blk.ne_ ms m2 (by decide))).alloc (.cells #[.int .i64 q, .int .i64 C3, .int .i64 1] 46)
                have pt := Blk.new w7 46 #[.int .i64 q, .int .i64 C3, .int .i64 1]
                have p2' : Clk _ 82 B1 q C3 1 := Blk.alloc p2 (.cells #[.int .i64 q, .int .i64 C3, .int .i64 1] 46)
                have pb := (Only.belowB oo mb hB1).alloc (Only.belowB oo mb hB1).size (.cells #[.int .i64 q, .int .i64 C3, .int .i64 1] 46)
                clear m1 m2 ma ms mb p2 cma lma oo
                go_upto_region 17 with fail
                generalize w7.alloc (.cells #[.int .i64 q, .int .i64 C3, .int .i64 1] 46) = w8 at *
                generalize w7.heap.size = GT at *
                have cps := Blk.cell ps
                have cpt := Blk.cell pt
                have eq1 := near_id q (by omega) (by omega)
                have eq2 := near_id C' (by omega) (by omega)
                have eq3 := near_id C3 (by omega) (by omega)
                have HL := Lib.hid (less_v q C' 0 q C3 1 true (by simp only [lessB, eq1, eq2, eq3, decide_eq_true_eq]; exact .inr ⟨trivial, .inl (by omega)⟩))
                clear eq1 eq2 eq3
                go_wp2_with fail
                refine (HL.out _).mono ?_
                rintro e w9 ⟨rfl, hb9⟩
                have q1 : Clk w9 82 B0 q C' 0 := Below.blk hb9 p1
                have q2 : Clk w9 82 B1 q C3 1 := Below.blk hb9 p2'
                have qa := Below.blk hb9 pa
                have qs := Below.blk hb9 ps
                have qt := Below.blk hb9 pt
                have qb := bthen pb hb9
                clear p1 p2' pa ps pt pb hb9 cps cpt
                have cqs := Blk.cell qs
                have cqt := Blk.cell qt
                have tr : ¬ q < q := Int.lt_irrefl _
                go_wp2_with fail
                go_roundw
                case rel => exact ⟨k + 1, q, q, C', q, C3, by omega, by go_num, rfl, by omega, ⟨by omega, by omega, by omega, by omega, by omega, by omega, by omega, by omega⟩, qa, ⟨q1, q2⟩, qb⟩
                case measure => simp [intOf]; omega
              · have tr : ¬ q < q := Int.lt_irrefl _
                go_wp2_with fail
                go_roundw
                case rel => exact ⟨k + 1, q, q, C', L1, C1, by omega, by go_num, rfl, by omega, ⟨by omega, by omega, by omega, by omega, by omega, by omega, by omega, by omega⟩, ja, ⟨j1', jo⟩, jb⟩
                case measure => simp [intOf]; omega
            · skip
              have cga := Blk.cell ka
              have lga := Blk.lt ka
              have hn := two_now L1 C1 q (by omega) (by omega) (by omega) (by omega) (by omega) (by omega)
              go_wp2_with fail
              refine (now_any B1 L1 C1 1 q _ k1 (by omega) (by omega) (by omega) (by omega)).mono ?_
              rintro e w3 ⟨rfl, j1, oo⟩
              obtain ⟨hn1, hn2, hn3, hn4⟩ := hn
              rw [hn1] at j1
              rw [hn1]
              clear hn1
              generalize (nowL L1 C1 q).2 = C' at *
              have ja := (Only.blk oo ka hA1).alloc (.cells #[.int .i64 q, .int .i64 C', .int .i64 1] 46)
              have jo := (Only.blk oo k0 h01).alloc (.cells #[.int .i64 q, .int .i64 C', .int .i64 1] 46)
              have js := Blk.new w3 46 #[.int .i64 q, .int .i64 C', .int .i64 1]
              have j1' := Blk.alloc j1 (.cells #[.int .i64 q, .int .i64 C', .int .i64 1] 46)
              have jb := (Only.belowB oo kb hB1).alloc (Only.belowB oo kb hB1).size (.cells #[.int .i64 q, .int .i64 C', .int .i64 1] 46)
              have fx := (jb.cell (p := ⟨b, off + k, none⟩) hbs).trans e0
              have lfx : b < w3.heap.size + 1 := by have := (Only.belowB oo kb hB1).size; omega
              clear ka k0 k1 kb j1 cga lga oo f0
              go_upto_region 14 with fail
              generalize hw4 : w3.alloc (.cells #[.int .i64 q, .int .i64 C', .int .i64 1] 46) = w4 at *
              clear hw4
              generalize w3.heap.size = GS at *
              have cja := Blk.cell ja
              have cjs := Blk.cell js
              have lja := Blk.lt ja
              have ljs := Blk.lt js
              go_wp2_with fail
              · refine wp_region_below 6 [] []
                  []
                  (by kernel_rfl) (by kernel_rfl) (by kernel_rfl) (by simp [exactly_lasts, ptrTo_lasts, sliceTo_lasts]) (fun _ _ _ _ _ h => h) ?_
                simp only [List.take_succ_cons, List.take_zero, List.drop_succ_cons, List.drop_zero, List.drop_nil]
                iterate 6
                  (refine wpLex_plain (by rfl) (by rfl) ?_; apply Exists.intro; refine ⟨fun wx hx => ?_, ?_⟩; (obtain ⟨hcc, hff⟩ := bcell (hx rfl).1; go_simp; rfl); simp only [Act.put, List.setIfInBounds_toArray, List.set_cons_zero, List.set_cons_succ])
                refine wpLex_nil fun w5 hw5 hr _ => ?_
                clear hr
                have i1 : Clk w5 82 B1 q C' 1 := Below.blk hw5 j1'
                have ia := Below.blk hw5 ja
                have io : Clk w5 82 B0 L0 C0 0 := Below.blk hw5 jo
                have is_ := Below.blk hw5 js
                have ib := bthen jb hw5
                clear j1' ja jo js jb hw5 cja cjs lja ljs fx
                have hs := two_see L0 C0 q C' (by omega) (by omega) (by omega) (by omega) (by omega) (by omega) (by omega) (by omega)
                go_wp2_with fail
                refine (see_any B0 L0 C0 0 q q C' 1 _ io (by omega) (by omega) (by omega) (by omega)).mono ?_
                rintro e w6 ⟨rfl, m2, oo⟩
                obtain ⟨hs1, hs2, hs3⟩ := hs
                rw [hs1] at m2
                clear hs1
                generalize (seeL L0 C0 q q C').2 = C2 at *
                have m1 : Clk w6 82 B1 q C' 1 := Only.blk oo i1 (Ne.symm h01)
                have ma := Only.blk oo ia hA0
                have ms := Only.blk oo is_ (Blk.ne_ is_ io (by decide))
                have mb := Only.belowB oo ib hB0
                clear i1 ia io is_ ib oo
                have cma := Blk.cell ma
                have lma := Blk.lt ma
                have hn := two_now q C2 q (Int.le_refl _) (by omega) (by omega) (by omega) (by omega) (by omega)
                go_wp2_with fail
                refine (now_any B0 q C2 0 q _ m2 (by omega) (by omega) (by omega) (by omega)).mono ?_
                rintro e w7 ⟨rfl, p2, oo⟩
                obtain ⟨hn5, hn6, hn7, hn8⟩ := hn
                rw [hn5] at p2
                rw [hn5]
                clear hn5
                generalize (nowL q C2 q).2 = C3 at *
                have p1 : Clk _ 82 B1 q C' 1 := (Only.blk oo m1 (Ne.symm h01)).alloc (.cells #[.int .i64 q, .int .i64 C3, .int .i64 0] 46)
                have pa := (Only.blk oo ma hA0).alloc (.cells #[.int .i64 q, .int .i64 C3, .int .i64 0] 46)
                have ps := (Only.blk oo ms (Blk.ne_ ms m2 (by decide))).alloc (.cells #[.int .i64 q, .int .i64 C3, .int .i64 0] 46)
                have pt := Blk.new w7 46 #[.int .i64 q, .int .i64 C3, .int .i64 0]
                have p2' : Clk _ 82 B0 q C3 0 := Blk.alloc p2 (.cells #[.int .i64 q, .int .i64 C3, .int .i64 0] 46)
                have pb := (Only.belowB oo mb hB0).alloc (Only.belowB oo mb hB0).size (.cells #[.int .i64 q, .int .i64 C3, .int .i64 0] 46)
                clear m1 m2 ma ms mb p2 cma lma oo
                go_upto_region 17 with fail
                generalize w7.alloc (.cells #[.int .i64 q, .int .i64 C3, .int .i64 0] 46) = w8 at *
                generalize w7.heap.size = GT at *
                have cps := Blk.cell ps
                have cpt := Blk.cell pt
                have eq1 := near_id q (by omega) (by omega)
                have eq2 := near_id C' (by omega) (by omega)
                have eq3 := near_id C3 (by omega) (by omega)
                have HL := Lib.hid (less_v q C' 1 q C3 0 true (by simp only [lessB, eq1, eq2, eq3, decide_eq_true_eq]; exact .inr ⟨trivial, .inl (by omega)⟩))
                clear eq1 eq2 eq3
                go_wp2_with fail
                refine (HL.out _).mono ?_
                rintro e w9 ⟨rfl, hb9⟩
                have q1 : Clk w9 82 B1 q C' 1 := Below.blk hb9 p1
                have q2 : Clk w9 82 B0 q C3 0 := Below.blk hb9 p2'
                have qa := Below.blk hb9 pa
                have qs := Below.blk hb9 ps
                have qt := Below.blk hb9 pt
                have qb := bthen pb hb9
                clear p1 p2' pa ps pt pb hb9 cps cpt
                have cqs := Blk.cell qs
                have cqt := Blk.cell qt
                have tr : ¬ q < q := Int.lt_irrefl _
                go_wp2_with fail
                go_roundw
                case rel => exact ⟨k + 1, q, q, C3, q, C', by omega, by go_num, rfl, by omega, ⟨by omega, by omega, by omega, by omega, by omega, by omega, by omega, by omega⟩, qa, ⟨q2, q1⟩, qb⟩
                case measure => simp [intOf]; omega
              · have tr : ¬ q < q := Int.lt_irrefl _
                go_wp2_with fail
                go_roundw
                case rel => exact ⟨k + 1, q, L0, C0, q, C', by omega, by go_num, rfl, by omega, ⟨by omega, by omega, by omega, by omega, by omega, by omega, by omega, by omega⟩, ja, ⟨jo, j1'⟩, jb⟩
                case measure => simp [intOf]; omega
      · go_wp2_with fail
        go_ret
        exact ⟨rfl, kb⟩

theorem u16_of {H : Type} {enc : TypeId × Value → H} {W : World} {A : Option Addr} {len cap : Nat} (hE : Elems enc Try.prog W 64 1 A len cap) : ∀ i, i < len → U16At W A i := by
  intro i hi
  obtain ⟨b, off, cs, n, y, hA, hb, hl, hc, ht⟩ := hE.at_ i hi
  obtain ⟨x, g0, _, _⟩ := DataW.trod_int Try.underlying64 ht
  subst g0
  exact ⟨b, off, x, hA, hb, by simpa using hc 0 _ rfl⟩
theorem clockTwo.walk {H : Type} {enc : TypeId × Value → H} (W : World) (base : Nat) {v0 : Value} {d0 : DataW H} {p0 : List MemPlace}
    (o0 : Value.okWide Try.prog W .any base 62 v0) (h0 : DataW.Trod enc Try.prog W 0 (fun _ => true) true 62 v0 d0 p0) :
    Calls Try.prog 9 #[v0] W fun e w' => e = .returned (.bool true) ∧ Below W.heap.size W w' := by
  obtain ⟨A, len, cap, rfl, hE⟩ := elems_of (C := 1) Try.underlying62 (by kernel_rfl) (by decide) o0 h0
  exact clockTwo.core A len cap W hE.le hE.max (u16_of hE)
theorem clockTwo.own : ownKnob Try.prog.godebug = none := by kernel_rfl
theorem clockTwo.laidOut : laidOutB Try.prog = true := by kernel_rfl
set_option maxRecDepth 100000 in
theorem clockTwo.lifted (os : Os) (started : os.Started) (H : Type) (enc : TypeId × Value → H) :
    ReturnsInHanded {} Try.checked os 9 .any (Rows.clockTwoSpec.pre6 enc Try.prog Try.f9 Rows.clockTwoRow.domain false) (Rows.clockTwoSpec.post enc Try.prog Try.f9 false true false false) := by
  refine returnsInHanded_of_change (C := Try.checked) clockTwo.own started (by kernel_rfl) Try.func9
    (ChangeSpec.witness6 (enc := enc) (C := Try.checked) false ⟨#[], #[.slice none 0 0], []⟩ 8 (by kernel_rfl) (by kernel_rfl) (by kernel_rfl) (by kernel_rfl)) ?_
  intro W base args ds gs before hval0 hW hcnd _
  have hval : ∀ (j : Nat) t v, Try.f9.params[j]? = some t → args[j]? = some v → Value.okWide Try.prog W .any base t v := hval0
  have hW' := hW
  obtain ⟨p, q, hA0, hV, rfl, hfz, hnd⟩ := hW
  have hA : DataW.TrodAll enc Try.prog W 0 (fun _ => true) true Try.f9.params.toList args.toList ds p := hA0
  rw [Try.params9] at hA hval
  obtain ⟨v0, vs0, d0, ds0, p0, q0, hargs, rfl, rfl, h0, r0⟩ := trodAll_cons hA
  obtain ⟨rfl, rfl, rfl⟩ := trodAll_nil r0
  obtain rfl : args = #[v0] := by cases args; simp_all
  obtain ⟨rfl, rfl⟩ := trodVars_none hV
  have k0 := h0
  have lt0 : ∀ x ∈ p0, x.block < W.heap.size := by obtain ⟨m, hm⟩ := k0; exact DataW.trod_lt m _ _ _ hm
  clear hA0 hval0
  refine (clockTwo.walk W base (hval 0 62 v0 rfl rfl) h0).mono fun e W' ⟨he, bel⟩ => ?_
  subst he
  exact ⟨_, rfl, _, _, _, [], _, [], hW', trodAll_mk1 (shut_bool Try.underlying4 _), (trodAll_cons_mk (Below.trod clockTwo.laidOut (by kernel_rfl) (of_decide_eq_true (by kernel_rfl)) k0 bel lt0) trodAll_mk0), rfl, bel.frame _, fun h => by cases h⟩

theorem clockTwo.over : Rows.clockTwoRow.holds Try.pinned (OpenSpec.ofChange Rows.clockTwoSpec) :=
  OpenClaim.holds_of_wide 9 Try.f9 rfl rfl rfl rfl rfl rfl rfl ⟨rfl, rfl, rfl, rfl, rfl⟩ rfl rfl rfl rfl rfl (by kernel_rfl) Try.func9 (by kernel_rfl)
    (of_decide_eq_true (by kernel_rfl)) (by unfold Func.isWrapper; first | (rw [if_pos (by decide +kernel)]; kernel_rfl) | (rw [if_neg (by decide +kernel)]; exact ⟨rfl, rfl⟩))
    (fun os started H enc _ => clockTwo.lifted os started H enc)

theorem clockTwo.proved : Rows.ClockTwoSaid := clockTwo.over
#print axioms clockTwo.proved
end Go.Proofs.Ytdplieimkphneaa
