/- hubbublaw8.ClockRises answers true for every story: stamps rise, above all that was seen and not below the wall. -/
import Derived.Test.YtdplieimkphneaaClockPlays
import Derived.Test.YtdplieimkphneaaClockOrder
namespace Go.Proofs.Ytdplieimkphneaa
open Go.RowKit Go.ChangeShapes Go.WideShapes Go.ChangeAt Go.Joins
set_option linter.unusedSimpArgs false
set_option linter.unusedVariables false

theorem and_mask (a : Int) (m : Nat) (hm : m < 9223372036854775808) : 0 ≤ bits .and .i64 a (m : Int) ∧ bits .and .i64 a (m : Int) ≤ m := by
  have h1 : (BitVec.ofInt 64 (m : Int)).toNat = m := by
    rw [BitVec.ofInt_natCast, BitVec.toNat_ofNat]; exact Nat.mod_eq_of_lt (by omega)
  have h2 : (BitVec.ofInt 64 a &&& BitVec.ofInt 64 (m : Int)).toNat ≤ m := by
    rw [BitVec.toNat_and, h1]; exact Nat.and_le_right
  show 0 ≤ IntKind.i64.wrap ((BitVec.ofInt 64 a &&& BitVec.ofInt 64 (m : Int)).toNat : Int) ∧ IntKind.i64.wrap ((BitVec.ofInt 64 a &&& BitVec.ofInt 64 (m : Int)).toNat : Int) ≤ m
  generalize (BitVec.ofInt 64 a &&& BitVec.ofInt 64 (m : Int)).toNat = x at *
  rw [IntKind.wrap_i64]
  omega
theorem and_ffff (a : Int) : ∃ m : Int, bits .and .i64 a 65535 = m ∧ 0 ≤ m ∧ m ≤ 65535 := ⟨_, rfl, and_mask a 65535 (by decide)⟩

def lexle (a b c d : Int) : Prop := a < c ∨ (a = c ∧ b ≤ d)
theorem near_id (v : Int) (h0 : 0 ≤ v) (h1 : v ≤ 4611686018427387904) : near v = v := by unfold near; omega
theorem now_step (L C v ll lc zl zc : Int) (a0 : 0 ≤ L) (a1 : L ≤ 65535) (a2 : 0 ≤ C) (a3 : C ≤ 100000) (v0 : 0 ≤ v) (v1 : v ≤ 65535) (h1 : lexle ll lc L C) (h2 : lexle zl zc L C)
    (l0 : 0 ≤ ll) (l1 : ll ≤ 65535) (l2 : 0 ≤ lc) (l3 : lc ≤ 100000) (z0 : 0 ≤ zl) (z1 : zl ≤ 65535) (z2 : 0 ≤ zc) (z3 : zc ≤ 100000) :
    0 ≤ (nowL L C v).1 ∧ (nowL L C v).1 ≤ 65535 ∧ 0 ≤ (nowL L C v).2 ∧ (nowL L C v).2 ≤ C + 1 ∧ lexle zl zc (nowL L C v).1 (nowL L C v).2 ∧
      lessB ⟨ll, lc, 1⟩ ⟨(nowL L C v).1, (nowL L C v).2, 1⟩ = true ∧ lessB ⟨zl, zc, 0⟩ ⟨(nowL L C v).1, (nowL L C v).2, 1⟩ = true ∧ ¬ (nowL L C v).1 < v := by
  have hv := near_id v v0 (by omega)
  have e1 := near_id ll l0 (by omega)
  have e2 := near_id lc l2 (by omega)
  have e3 := near_id zl z0 (by omega)
  have e4 := near_id zc z2 (by omega)
  unfold lexle at *
  have key : ∀ p q : Int, 0 ≤ p → p ≤ 65535 → 0 ≤ q → q ≤ C + 1 → (L < p ∨ (L = p ∧ C < q)) → ¬ p < v → 0 ≤ p ∧ p ≤ 65535 ∧ 0 ≤ q ∧ q ≤ C + 1 ∧ (zl < p ∨ (zl = p ∧ zc ≤ q)) ∧
      lessB ⟨ll, lc, 1⟩ ⟨p, q, 1⟩ = true ∧ lessB ⟨zl, zc, 0⟩ ⟨p, q, 1⟩ = true ∧ ¬ p < v := by
    intro p q p0 p1 q0 q1 hr hpv
    have e5 := near_id p p0 (by omega)
    have e6 := near_id q q0 (by omega)
    refine ⟨p0, p1, q0, q1, by omega, ?_, ?_, hpv⟩
    · simp only [lessB, e1, e2, e5, e6, decide_eq_true_eq]; omega
    · simp only [lessB, e3, e4, e5, e6, decide_eq_true_eq]; omega
  by_cases c1 : L < v
  · rw [show nowL L C v = (v, 0) by unfold nowL; rw [hv, if_pos c1]]
    exact key v 0 v0 v1 (Int.le_refl _) (by omega) (.inl c1) (by omega)
  · rw [show nowL L C v = (L, C + 1) by unfold nowL; rw [hv, if_neg c1, if_pos (by omega)]]
    exact key L (C + 1) a0 a1 (by omega) (Int.le_refl _) (.inr ⟨rfl, by omega⟩) c1
theorem see_step (L C v sl sc ll lc zl zc : Int) (a0 : 0 ≤ L) (a1 : L ≤ 65535) (a2 : 0 ≤ C) (a3 : C ≤ 100000) (v0 : 0 ≤ v) (v1 : v ≤ 65535) (s0 : 0 ≤ sl) (s1 : sl ≤ 65535) (t0 : 0 ≤ sc) (t1 : sc ≤ 65535) (h1 : lexle ll lc L C) (h2 : lexle zl zc L C) :
    0 ≤ (seeL L C v sl sc).1 ∧ (seeL L C v sl sc).1 ≤ 65535 ∧ 0 ≤ (seeL L C v sl sc).2 ∧ (seeL L C v sl sc).2 ≤ max C 65535 + 1 ∧ lexle ll lc (seeL L C v sl sc).1 (seeL L C v sl sc).2 ∧ lexle zl zc (seeL L C v sl sc).1 (seeL L C v sl sc).2 ∧ lexle sl sc (seeL L C v sl sc).1 (seeL L C v sl sc).2 := by
  have hv := near_id v v0 (by omega)
  have e1 := near_id sl s0 (by omega)
  have e2 := near_id sc t0 (by omega)
  have hn : ∀ x : Int, near x = min (max x 0) 4611686018427387904 := fun _ => rfl
  unfold lexle at *
  unfold seeL
  simp only [hv, e1, e2]
  generalize hm : max L (max sl v) = m
  by_cases k1 : m = sl <;> by_cases k2 : m = L
  · rw [if_pos k1, if_pos k2, hn]; omega
  · rw [if_pos k1, if_neg k2, hn]; omega
  · rw [if_neg k1, if_pos k2, hn]; omega
  · rw [if_neg k1, if_neg k2, hn]; omega

set_option maxHeartbeats 2000000 in
theorem clockRises.core (A : Option Addr) (len cap : Nat) (w : World) (hlc : len ≤ cap) (hcm : cap ≤ maxLen) (hE : ∀ i, i < len → ActAt w A i) :
    Calls Try.prog 8 #[.slice A len cap] w fun e w' => e = .returned (.bool true) ∧ Below w.heap.size w w' := by
  unfold maxLen at hcm
  go_enter Try.func8, Try.ntmps8
  go_wp2_with fail
  refine (ckKnown _).mono ?_
  rintro e w0 ⟨rfl, hb0⟩
  by_cases h60 : 60 < len
  · go_wp2_with fail
    go_ret
    exact ⟨rfl, hb0⟩
  · go_wp2_with fail
    refine (new_any _ _).mono ?_
    rintro e w1 ⟨rfl, hw1⟩
    have hc1 : Clk w1 82 w0.heap.size 0 0 1 := by rw [← hw1]; exact Blk.new _ _ _
    have hb1 : Below w0.heap.size w0 w1 := by rw [← hw1]; exact (Below.refl _ _).alloc (Nat.le_refl _) _
    clear hw1
    have hw0 := hb0.size
    have hb1' := bthen hb0 hb1
    clear hb0 hb1
    generalize w0.heap.size = B1 at *
    have hl1 := Blk.lt hc1
    go_wp2_with fail
    have hc2 := (Blk.alloc hc1 (.cells #[.int .i64 0, .int .i64 0, .int .i64 1] 46)).alloc (.cells #[.int .i64 0, .int .i64 0, .int .i64 0] 46)
    have hg4 := (Blk.new w1 46 #[.int .i64 0, .int .i64 0, .int .i64 1]).alloc (.cells #[.int .i64 0, .int .i64 0, .int .i64 0] 46)
    have hg5 := Blk.new (w1.alloc (.cells #[.int .i64 0, .int .i64 0, .int .i64 1] 46)) 46 #[.int .i64 0, .int .i64 0, .int .i64 0]
    have hb2 := (hb1'.alloc hb1'.size (.cells #[.int .i64 0, .int .i64 0, .int .i64 1] 46)).alloc (by have := hb1'.size; simp; omega) (.cells #[.int .i64 0, .int .i64 0, .int .i64 0] 46)
    rw [show (w1.alloc (.cells #[.int .i64 0, .int .i64 0, .int .i64 1] 46)).heap.size = w1.heap.size + 1 by simp] at hg5
    generalize (w1.alloc (.cells #[.int .i64 0, .int .i64 0, .int .i64 1] 46)).alloc (.cells #[.int .i64 0, .int .i64 0, .int .i64 0] 46) = w2 at *
    have hG4 : w.heap.size ≤ w1.heap.size := hb1'.size
    obtain ⟨G5, eG5, h45, hG5⟩ : ∃ G5, w1.heap.size + 1 = G5 ∧ w1.heap.size ≠ G5 ∧ w.heap.size ≤ G5 := ⟨_, rfl, by omega, by omega⟩
    rw [eG5] at hg5 ⊢
    clear eG5
    generalize w1.heap.size = G4 at *
    clear hc1 hb1'
    go_loopw [6] (fun i wr => ∃ (k : Nat) (L C ll lc zl zc : Int), k ≤ len ∧ i = .int .i64 k ∧ (0 ≤ L ∧ L ≤ 65535 ∧ 0 ≤ C ∧ C ≤ 65536 + k) ∧ (0 ≤ ll ∧ ll ≤ 65535 ∧ 0 ≤ lc ∧ lc ≤ 100000) ∧ (0 ≤ zl ∧ zl ≤ 65535 ∧ 0 ≤ zc ∧ zc ≤ 100000) ∧ lexle ll lc L C ∧ lexle zl zc L C ∧
      Clk wr 82 B1 L C 1 ∧ Blk wr G4 46 #[.int .i64 ll, .int .i64 lc, .int .i64 1] ∧ Blk wr G5 46 #[.int .i64 zl, .int .i64 zc, .int .i64 0] ∧ Below w.heap.size w wr) (fun i _ => len - (intOf i).toNat)
    case atStart => exact ⟨0, 0, 0, 0, 0, 0, 0, Nat.zero_le _, rfl, by decide, by decide, by decide, .inr ⟨rfl, by decide⟩, .inr ⟨rfl, by decide⟩, hc2, hg4, hg5, hb2⟩
    case round =>
      obtain ⟨k, L, C, ll, lc, zl, zc, hk, rfl, bc, bl, bz, x1, x2, k1, k4, k5, kb⟩ := hrel
      clear hc2 hg4 hg5 hb2
      by_cases hlt : k < len
      · obtain ⟨b, off, s, wl, sl, sc, sn, rfl, hbs, e0, e1, e2, e3, e4⟩ := hE k hlt
        have hbr : b < wr.heap.size := Nat.lt_of_lt_of_le hbs kb.size
        have f0 := (kb.cell (p := ⟨b, off + k * 5, none⟩) hbs).trans e0
        have f1 := (kb.cell (p := ⟨b, off + k * 5 + 1, none⟩) hbs).trans e1
        have f2 := (kb.cell (p := ⟨b, off + k * 5 + 2, none⟩) hbs).trans e2
        have f3 := (kb.cell (p := ⟨b, off + k * 5 + 3, none⟩) hbs).trans e3
        have f4 := (kb.cell (p := ⟨b, off + k * 5 + 4, none⟩) hbs).trans e4
        clear e0 e1 e2 e3 e4
        obtain ⟨wl', t1, u1⟩ := and_ffff wl
        obtain ⟨sl', t2, u2⟩ := and_ffff sl
        obtain ⟨sc', t3, u3⟩ := and_ffff sc
        go_upto_region 12 with fail
        go_cut [7] (fun s8 wx => ∃ g : Nat, s8 = .pointer (some ⟨g, 0, none⟩) ∧ w.heap.size ≤ g ∧ Blk wx g 56 #[.bool s, .int .i64 wl', .int .i64 sl', .int .i64 sc', .int .i64 sn] ∧ Clk wx 82 B1 L C 1 ∧ Blk wx G4 46 #[.int .i64 ll, .int .i64 lc, .int .i64 1] ∧ Blk wx G5 46 #[.int .i64 zl, .int .i64 zc, .int .i64 0] ∧ Below w.heap.size w wx)
        case first =>
          go_wp2_with fail
          all_goals go_meet
          all_goals exact ⟨wr.heap.size, rfl, kb.size, Blk.new _ _ _, Blk.alloc k1 _, Blk.alloc k4 _, Blk.alloc k5 _, kb.alloc kb.size _⟩
        case rest =>
          clear k1 k4 k5 kb f0 f1 f2 f3 f4
          obtain ⟨g, rfl, hgw, kg, k1, k4, k5, kb⟩ := hcut
          have hg1 : g ≠ B1 := Blk.ne_ kg k1 (by decide)
          have h14 : G4 ≠ B1 := Blk.ne_ k4 k1 (by decide)
          have h15 : G5 ≠ B1 := Blk.ne_ k5 k1 (by decide)
          have hg4 : g ≠ G4 := Blk.ne_ kg k4 (by decide)
          have hg5 : g ≠ G5 := Blk.ne_ kg k5 (by decide)
          have cg := Blk.cell kg
          have lg := Blk.lt kg
          clear t1 t2 t3
          cases s
          · have st := now_step L C wl' ll lc zl zc bc.1 bc.2.1 bc.2.2.1 (by omega) u1.1 u1.2 x1 x2 bl.1 bl.2.1 bl.2.2.1 bl.2.2.2 bz.1 bz.2.1 bz.2.2.1 bz.2.2.2
            go_wp2_with fail
            refine (now_any B1 L C 1 wl' _ k1 bc.1 (by omega) bc.2.2.1 (by omega)).mono ?_
            rintro e w3 ⟨rfl, j1, oo⟩
            generalize (nowL L C wl').1 = L' at *
            generalize (nowL L C wl').2 = C' at *
            obtain ⟨s1, s2, s3, s4, s5, s6, s7, s8⟩ := st
            have HL1 := Lib.hid (less_v ll lc 1 L' C' 1 true s6)
            have HL2 := Lib.hid (less_v zl zc 0 L' C' 1 true s7)
            clear s6 s7
            have jg := (Only.blk oo kg hg1).alloc (.cells #[.int .i64 L', .int .i64 C', .int .i64 1] 46)
            have j4 := (Only.blk oo k4 h14).alloc (.cells #[.int .i64 L', .int .i64 C', .int .i64 1] 46)
            have j5 := (Only.blk oo k5 h15).alloc (.cells #[.int .i64 L', .int .i64 C', .int .i64 1] 46)
            have j8 := Blk.new w3 46 #[.int .i64 L', .int .i64 C', .int .i64 1]
            have j1' := Blk.alloc j1 (.cells #[.int .i64 L', .int .i64 C', .int .i64 1] 46)
            have jb := (Only.belowB oo kb hw0).alloc (Only.belowB oo kb hw0).size (.cells #[.int .i64 L', .int .i64 C', .int .i64 1] 46)
            clear kg k4 k5 k1 kb j1 cg lg
            go_upto_region 19 with fail
            generalize w3.alloc (.cells #[.int .i64 L', .int .i64 C', .int .i64 1] 46) = w4 at *
            generalize w3.heap.size = G8 at *
            clear oo
            have cj4 := Blk.cell j4
            have cj8 := Blk.cell j8
            go_wp2_with fail
            refine (HL1.out _).mono ?_
            rintro e w5 ⟨rfl, hb5⟩
            have i1 : Clk w5 82 B1 L' C' 1 := Below.blk hb5 j1'
            have ig := Below.blk hb5 jg
            have i4 := Below.blk hb5 j4
            have i5 := Below.blk hb5 j5
            have i8 := Below.blk hb5 j8
            have ib := bthen jb hb5
            clear j1' jg j4 j5 j8 jb hb5 cj4 cj8
            have ci5 := Blk.cell i5
            have ci8 := Blk.cell i8
            go_wp2_with fail
            refine (HL2.out _).mono ?_
            rintro e w6 ⟨rfl, hb6⟩
            have k1 : Clk w6 82 B1 L' C' 1 := Below.blk hb6 i1
            have kg := Below.blk hb6 ig
            have k4 := Below.blk hb6 i4
            have k5 := Below.blk hb6 i5
            have k8 := Below.blk hb6 i8
            have kb := bthen ib hb6
            clear i1 ig i4 i5 i8 ib hb6 ci5 ci8
            have ck8 := Blk.cell k8
            have ckg := Blk.cell kg
            have ck4 := Blk.cell k4
            have fk4 := Blk.frozen k4
            have lk4 := Blk.lt k4
            go_wp2_with fail
            go_roundw
            case rel => exact ⟨k + 1, L', C', L', C', zl, zc, by omega, by go_num, ⟨s1, s2, s3, by omega⟩, ⟨s1, s2, s3, by omega⟩, bz, .inr ⟨rfl, Int.le_refl _⟩, s5, Blk.far3 k1 (Ne.symm h14) _ _ _, Blk.set3 k4 _ _ _, Blk.far3 k5 (Ne.symm h45) _ _ _, ((kb.setCell (p := ⟨G4, 0, none⟩) hG4 _).setCell (p := ⟨G4, 1, none⟩) hG4 _).setCell (p := ⟨G4, 2, none⟩) hG4 _⟩
            case measure => simp [intOf]; omega
          · have st := see_step L C wl' sl' sc' ll lc zl zc bc.1 bc.2.1 bc.2.2.1 (by omega) u1.1 u1.2 u2.1 u2.2 u3.1 u3.2 x1 x2
            go_wp2_with fail
            refine (see_any B1 L C 1 wl' sl' sc' sn _ k1 bc.1 (by omega) bc.2.2.1 (by omega)).mono ?_
            rintro e w3 ⟨rfl, j1, oo⟩
            generalize (seeL L C wl' sl' sc').1 = L' at *
            generalize (seeL L C wl' sl' sc').2 = C' at *
            obtain ⟨s1, s2, s3, s4, s5, s6, s7⟩ := st
            have jg := Only.blk oo kg hg1
            have j4 := Only.blk oo k4 h14
            have j5 := Only.blk oo k5 h15
            have jb := Only.belowB oo kb hw0
            clear kg k1 k4 k5 kb oo cg lg
            have cg := Blk.cell jg
            have fg := Blk.frozen jg
            obtain ⟨r, hr⟩ : ∃ r, lessB ⟨zl, zc, 0⟩ ⟨sl', sc', 0⟩ = r := ⟨_, rfl⟩
            have HL := Lib.hid (less_v zl zc 0 sl' sc' 0 r hr)
            clear hr
            go_upto_region 16 with fail
            have mg : Blk (w3.setCell ⟨g, 4, none⟩ (.int .i64 0)) g 56 #[.bool true, .int .i64 wl', .int .i64 sl', .int .i64 sc', .int .i64 0] := by simpa using Blk.set_ jg 4 (.int .i64 0)
            have m1 : Clk _ 82 B1 L' C' 1 := Blk.far j1 (p := ⟨g, 4, none⟩) (Ne.symm hg1) (.int .i64 0)
            have m4 := Blk.far j4 (p := ⟨g, 4, none⟩) (Ne.symm hg4) (.int .i64 0)
            have m5 := Blk.far j5 (p := ⟨g, 4, none⟩) (Ne.symm hg5) (.int .i64 0)
            have mb := jb.setCell (p := ⟨g, 4, none⟩) hgw (.int .i64 0)
            generalize w3.setCell ⟨g, 4, none⟩ (.int .i64 0) = w4 at *
            clear jg j1 j4 j5 jb cg fg
            have cmg := Blk.cell mg
            have cm5 := Blk.cell m5
            go_wp2_with fail
            refine (HL.out _).mono ?_
            rintro e w5 ⟨rfl, hb5⟩
            have k1 : Clk w5 82 B1 L' C' 1 := Below.blk hb5 m1
            have kg := Below.blk hb5 mg
            have k4 := Below.blk hb5 m4
            have k5 := Below.blk hb5 m5
            have kb := bthen mb hb5
            clear m1 mg m4 m5 mb hb5 cmg cm5
            have ckg := Blk.cell kg
            have ck5 := Blk.cell k5
            have fk5 := Blk.frozen k5
            have lk5 := Blk.lt k5
            cases r
            · go_wp2_with fail
              go_roundw
              case rel => exact ⟨k + 1, L', C', ll, lc, zl, zc, by omega, by go_num, ⟨s1, s2, s3, by omega⟩, bl, bz, s5, s6, k1, k4, k5, kb⟩
              case measure => simp [intOf]; omega
            · go_wp2_with fail
              go_roundw
              case rel => exact ⟨k + 1, L', C', ll, lc, sl', sc', by omega, by go_num, ⟨s1, s2, s3, by omega⟩, bl, ⟨u2.1, u2.2, u3.1, by omega⟩, s5, s7, Blk.far3 k1 (Ne.symm h15) _ _ _, Blk.far3 k4 h45 _ _ _, Blk.set3 k5 _ _ _, ((kb.setCell (p := ⟨G5, 0, none⟩) hG5 _).setCell (p := ⟨G5, 1, none⟩) hG5 _).setCell (p := ⟨G5, 2, none⟩) hG5 _⟩
              case measure => simp [intOf]; omega
      · go_wp2_with fail
        go_ret
        exact ⟨rfl, kb⟩

theorem clockRises.walk {H : Type} {enc : TypeId × Value → H} (W : World) (base : Nat) {v0 : Value} {d0 : DataW H} {p0 : List MemPlace}
    (o0 : Value.okWide Try.prog W .any base 49 v0) (h0 : DataW.Trod enc Try.prog W 0 (fun _ => true) true 49 v0 d0 p0) :
    Calls Try.prog 8 #[v0] W fun e w' => e = .returned (.bool true) ∧ Below W.heap.size W w' := by
  obtain ⟨A, len, cap, rfl, hE⟩ := elems_of (C := 5) Try.underlying49 (by kernel_rfl) (by decide) o0 h0
  exact clockRises.core A len cap W hE.le hE.max (acts_of hE)
theorem clockRises.own : ownKnob Try.prog.godebug = none := by kernel_rfl
theorem clockRises.laidOut : laidOutB Try.prog = true := by kernel_rfl
set_option maxRecDepth 100000 in
theorem clockRises.lifted (os : Os) (started : os.Started) (H : Type) (enc : TypeId × Value → H) :
    ReturnsInHanded {} Try.checked os 8 .any (Rows.clockRisesSpec.pre6 enc Try.prog Try.f8 Rows.clockRisesRow.domain false) (Rows.clockRisesSpec.post enc Try.prog Try.f8 false true false false) := by
  refine returnsInHanded_of_change (C := Try.checked) clockRises.own started (by kernel_rfl) Try.func8
    (ChangeSpec.witness6 (enc := enc) (C := Try.checked) false ⟨#[], #[.slice none 0 0], []⟩ 8 (by kernel_rfl) (by kernel_rfl) (by kernel_rfl) (by kernel_rfl)) ?_
  intro W base args ds gs before hval0 hW hcnd _
  have hval : ∀ (j : Nat) t v, Try.f8.params[j]? = some t → args[j]? = some v → Value.okWide Try.prog W .any base t v := hval0
  have hW' := hW
  obtain ⟨p, q, hA0, hV, rfl, hfz, hnd⟩ := hW
  have hA : DataW.TrodAll enc Try.prog W 0 (fun _ => true) true Try.f8.params.toList args.toList ds p := hA0
  rw [Try.params8] at hA hval
  obtain ⟨v0, vs0, d0, ds0, p0, q0, hargs, rfl, rfl, h0, r0⟩ := trodAll_cons hA
  obtain ⟨rfl, rfl, rfl⟩ := trodAll_nil r0
  obtain rfl : args = #[v0] := by cases args; simp_all
  obtain ⟨rfl, rfl⟩ := trodVars_none hV
  have k0 := h0
  have lt0 : ∀ x ∈ p0, x.block < W.heap.size := by obtain ⟨m, hm⟩ := k0; exact DataW.trod_lt m _ _ _ hm
  clear hA0 hval0
  refine (clockRises.walk W base (hval 0 49 v0 rfl rfl) h0).mono fun e W' ⟨he, bel⟩ => ?_
  subst he
  exact ⟨_, rfl, _, _, _, [], _, [], hW', trodAll_mk1 (shut_bool Try.underlying4 _), (trodAll_cons_mk (Below.trod clockRises.laidOut (by kernel_rfl) (of_decide_eq_true (by kernel_rfl)) k0 bel lt0) trodAll_mk0), rfl, bel.frame _, fun h => by cases h⟩

theorem clockRises.over : Rows.clockRisesRow.holds Try.pinned (OpenSpec.ofChange Rows.clockRisesSpec) :=
  OpenClaim.holds_of_wide 8 Try.f8 rfl rfl rfl rfl rfl rfl rfl ⟨rfl, rfl, rfl, rfl, rfl⟩ rfl rfl rfl rfl rfl (by kernel_rfl) Try.func8 (by kernel_rfl)
    (of_decide_eq_true (by kernel_rfl)) (by unfold Func.isWrapper; first | (rw [if_pos (by decide +kernel)]; kernel_rfl) | (rw [if_neg (by decide +kernel)]; exact ⟨rfl, rfl⟩))
    (fun os started H enc _ => clockRises.lifted os started H enc)

theorem clockRises.proved : Rows.ClockRisesSaid := clockRises.over
#print axioms clockRises.proved
end Go.Proofs.Ytdplieimkphneaa
