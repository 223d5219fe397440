/- Late of package view and of the reference answer the same list; New of both. -/
import Derived.Test.YtdplieimkphneaaView3
namespace Go.Proofs.Ytdplieimkphneaa
open Go.RowKit Go.ChangeShapes Go.WideShapes Go.ChangeAt Go.Joins
set_option linter.unusedSimpArgs false
set_option linter.unusedVariables false

theorem Try.infoFen : (Try.prog.info? 41).map (fun i => (i.zero, i.size, i.bytes)) = some (some (.agg #[.int .i64 0, .int .i64 0]), 2, 16) := by kernel_rfl
theorem Try.infoHeard : (Try.prog.info? 76).map (fun i => (i.zero, i.size, i.bytes)) = some (some (.agg #[.int .i64 0, .int .i64 0]), 2, 16) := by kernel_rfl
def lateC (E At : Nat → Int) (now : Int) (fs : List (Int × Int)) (i : Nat) : Bool := decide (0 < E i ∧ 6 < tnear now - At i) && !fencedB fs i (E i)
def lateU (E At : Nat → Int) (now : Int) (fs : List (Int × Int)) (k : Nat) : List (Int × Int) := (List.range k).filterMap fun i => if lateC E At now fs i then some ((i : Int), E i) else none
theorem lateU_len (E At : Nat → Int) (now : Int) (fs : List (Int × Int)) (k : Nat) : (lateU E At now fs k).length ≤ k := by
  have := List.length_filterMap_le (fun i : Nat => if lateC E At now fs i then some ((i : Int), E i) else none) (List.range k)
  simpa [lateU] using this
theorem lateU_yes {E At : Nat → Int} {now : Int} {fs : List (Int × Int)} {k : Nat} (h : lateC E At now fs k = true) : lateU E At now fs (k + 1) = lateU E At now fs k ++ [((k : Int), E k)] := by
  simp [lateU, List.range_succ, List.filterMap_append, h]
theorem lateU_no {E At : Nat → Int} {now : Int} {fs : List (Int × Int)} {k : Nat} (h : lateC E At now fs k = false) : lateU E At now fs (k + 1) = lateU E At now fs k := by
  simp [lateU, List.range_succ, List.filterMap_append, h]
theorem fenF_len (x : Int × Int) : (fenF x).length = 2 := rfl
/-- What the round of Late hands on. -/
def LateRel (w : World) (E At : Nat → Int) (now : Int) (fs : List (Int × Int)) (n : Nat) (v i : Value) (wr : World) : Prop :=
  ∃ k : Nat, k ≤ n ∧ i = .int .i64 k ∧ wr.ownsRow w.heap.size 41 2 v (lateU E At now fs k).length ((lateU E At now fs k).flatMap fenF) ∧ Below w.heap.size w wr
theorem LateRel.skip {w wr w1 : World} {E At : Nat → Int} {now : Int} {fs : List (Int × Int)} {n k : Nat} {v : Value} (hk : k < n) (hc : lateC E At now fs k = false) (hown : w1.ownsRow w.heap.size 41 2 v (lateU E At now fs k).length ((lateU E At now fs k).flatMap fenF)) (hb : Below w.heap.size w w1) :
    LateRel w E At now fs n v (.int .i64 ((k : Int) + 1)) w1 := ⟨k + 1, hk, by go_num, by rw [lateU_no hc]; exact hown, hb⟩
theorem LateRel.add {w wr w1 : World} {E At : Nat → Int} {now : Int} {fs : List (Int × Int)} {n k : Nat} {v : Value} (hk : k < n) (hc : lateC E At now fs k = true) (hown : w1.ownsRow w.heap.size 41 2 v ((lateU E At now fs k).length + 1) ((lateU E At now fs k).flatMap fenF ++ [.int .i64 k, .int .i64 (E k)])) (hb : Below w.heap.size w w1) :
    LateRel w E At now fs n v (.int .i64 ((k : Int) + 1)) w1 := ⟨k + 1, hk, by go_num, by rw [lateU_yes hc]; simpa [fenF] using hown, hb⟩
theorem own_below {a b : World} {base e size n : Nat} {v : Value} {xs : List Value} (h : a.ownsRow base e size v n xs) (hb : Below a.heap.size a b) : b.ownsRow base e size v n xs := by
  refine ⟨h.1, ?_⟩
  rcases h.2 with h2 | ⟨g, cap, cur, hv, hg, hh, r⟩
  · exact .inl h2
  · refine .inr ⟨g, cap, cur, hv, hg, ?_, r⟩
    rw [hb.block g]
    · exact hh
    · rcases Nat.lt_or_ge g a.heap.size with hlt | hge
      · exact hlt
      · rw [Array.getElem?_eq_none hge] at hh; cases hh

set_option maxHeartbeats 4000000 in
theorem vlate (B Bl n : Nat) (self : Int) (E At : Nat → Int) (now : Int) (A : Option Addr) (cap : Nat) (fs : List (Int × Int)) (w : World) (hv : PView w B Bl n self E At) (hn : n ≤ 16) (hAt : ∀ i, -1099511627776 ≤ At i ∧ At i ≤ 1099511627776)
    (hs : SeqL w A 2 fenF fs) (hfl : fs.length ≤ 9223372036854775807) :
    Calls Try.prog 18 #[.pointer (some ⟨B, 0, none⟩), .int .i64 now, .slice A fs.length cap] w fun e w' => ∃ v, e = .returned v ∧ SliceL w' v 2 fenF (lateU E At now fs n) ∧ Below w.heap.size w w' := by
  obtain ⟨i0, hi0, hz0, hz1, hz2⟩ := info_parts Try.infoFen
  obtain ⟨h1, cs, h2, hsz, hc⟩ := hv
  have HC := Lib.hid hc
  have c1 := Blk.cell h1
  have lBl := Blk.lt h2
  clear hc
  go_enter Try.func18, Try.ntmps18
  go_wp2_with fail
  go_loopw [7, 15] (fun v i wr => LateRel w E At now fs n v i wr) (fun _ i _ => n - (intOf i).toNat)
  case atStart => exact ⟨0, Nat.zero_le _, rfl, ⟨by simp [lateU], .inl ⟨rfl, by simp [lateU]⟩⟩, Below.refl _ _⟩
  case round =>
    obtain ⟨k, hk, rfl, hown, kb⟩ := hrel
    by_cases hlt : k < n
    · have f0 : wr.cell? ⟨Bl, k * 2, none⟩ = some (.int .i64 (E k)) := (kb.cell (p := ⟨Bl, k * 2, none⟩) lBl).trans ((Blk.cell h2 _).trans (HC.out k hlt).1)
      have f1 : wr.cell? ⟨Bl, k * 2 + 1, none⟩ = some (.int .i64 (At k)) := (kb.cell (p := ⟨Bl, k * 2 + 1, none⟩) lBl).trans ((Blk.cell h2 _).trans (HC.out k hlt).2)
      have lr : Bl < wr.heap.size := Nat.lt_of_lt_of_le lBl kb.size
      have i0' : (k : Int) < n := by omega
      have hA := hAt k
      have hT := tnear_bd now
      have hsub : IntKind.i64.wrap (tnear now - At k) = tnear now - At k := IntWalk.i64_in _ (by omega)
      have hll := lateU_len E At now fs k
      go_upto_region 5 with fail
      have kg := Blk.new wr 76 #[.int .i64 (E k), .int .i64 (At k)]
      have hown1 := hown.alloc (.cells #[.int .i64 (E k), .int .i64 (At k)] 76)
      have kb1 := kb.alloc kb.size (.cells #[.int .i64 (E k), .int .i64 (At k)] 76)
      generalize wr.alloc (.cells #[.int .i64 (E k), .int .i64 (At k)] 76) = w1 at *
      generalize wr.heap.size = g at kg ⊢
      clear kb hown f0 f1 lr
      have cg := Blk.cell kg
      have lg := Blk.lt kg
      have q0 := SeqL.below hs kb1
      obtain ⟨fb, hfb⟩ : ∃ b, Hid (fencedB fs k (E k) = b) := ⟨_, rfl⟩
      by_cases d1 : 0 < E k
      · by_cases d2 : 6 < tnear now - At k
        · have hC : Hid (lateC E At now fs k = !fb) := by simp [Hid, lateC, d1, d2, hfb.out]
          cases fb
          · refine wp_region_below 19 [] []
              [(5, exactly (.int .i64 (tnear now))), (16, exactly (.bool false))]
              (by kernel_rfl) (by kernel_rfl) (by kernel_rfl) (by simp [exactly_lasts, ptrTo_lasts, sliceTo_lasts]) (fun _ _ _ _ _ h => h) ?_
            simp only [List.take_succ_cons, List.take_zero, List.drop_succ_cons, List.drop_zero, List.drop_nil]
            repeat (first | (refine wpLex_skip (by rfl) ?_; simp only [Act.put, List.setIfInBounds_toArray, List.set_cons_zero, List.set_cons_succ]) | (refine wpLex_plain (by rfl) (by rfl) ?_; apply Exists.intro; refine ⟨fun wx hx => ?_, ?_⟩; (obtain ⟨hcc, hff⟩ := bcell (hx rfl).1; go_simp; first | rfl | (rw [if_pos (by omega)]; first | rfl | (go_simp; rfl))); simp only [Act.put, List.setIfInBounds_toArray, List.set_cons_zero, List.set_cons_succ]) | (refine wpLex_plain (by rfl) (by rfl) ?_; apply Exists.intro; refine ⟨fun wx hx => ?_, ?_⟩; (go_simp; rfl); simp only [Act.put, List.setIfInBounds_toArray, List.set_cons_zero, List.set_cons_succ]) | (refine wpLex_rel (by rfl) _ rfl (relAt_below ⟨_, rfl⟩ rfl fun wx hx hd => ?_) ?_; (obtain ⟨hcc, hff⟩ := bcell hx; go_simp; simp only [gives]; first | (go_at_call 31; (with_reducible refine (vnear _ _).mono ?_); rintro e w' ⟨rfl, rfl⟩; exact ⟨_, rfl, rfl, Below.refl _ _, not_fresh rfl, trivial⟩) | (go_at_call 33; (with_reducible refine (vfenced A cap fs _ _ _ (SeqL.below q0 hx) hfl).mono ?_); rintro e w' ⟨rfl, hb'⟩; rw [hfb.out]; exact ⟨_, rfl, rfl, hb', not_fresh rfl, trivial⟩)); rintro _ rfl; simp only [Act.put, List.setIfInBounds_toArray, List.set_cons_zero, List.set_cons_succ]))
            refine wpLex_nil fun w2 hw2 hr _ => ?_
            clear hr
            have hown2 := (own_below hown1 hw2).alloc (.cells #[.int .i64 k, .int .i64 (E k)] 41)
            have kb2 := (bthen kb1 hw2).alloc (bthen kb1 hw2).size (.cells #[.int .i64 k, .int .i64 (E k)] 41)
            have cg2 := Blk.cell (Below.blk hw2 kg)
            have h1c : ∀ u ∈ [Value.int .i64 (k : Int), .int .i64 (E k)], u.oneCell' = true := by
              intro u hu
              simp only [List.mem_cons, List.not_mem_nil, or_false] at hu
              rcases hu with rfl | rfl <;> rfl
            have h63 : (lateU E At now fs k).length + 1 ≤ maxLen := by simp only [maxLen]; omega
            have hby : ((lateU E At now fs k).length + 1) * 16 ≤ 140737488355328 := by omega
            go_wp2_with (at_builtin; refine wpList_append1 rfl (.tmp 39) (.tmp 44) 31 rfl w.heap.size 41 i0 (.agg #[.int .i64 0, .int .i64 0]) 2 16 Try.underlying31 hi0 hz0 hz1 hz2 rfl (by omega) _ (lateU E At now fs k).length _ rfl hown2 w2.heap.size 1 1 [.int .i64 k, .int .i64 (E k)] rfl rfl (Blk.new _ _ _) h1c h63 hby kb2.size ?_; intro v' w3 hown3 hg3 _; have kb3 := Below.append1 kb2 hg3 kb2.size hown2 (Nat.le_refl _))
            go_roundw
            case rel => exact LateRel.add (wr := w3) hlt (by rw [hC.out]; rfl) hown3 kb3
            case measure => simp [intOf]; omega
          · refine wp_region_below 19 [] []
              [(5, exactly (.int .i64 (tnear now))), (16, exactly (.bool true))]
              (by kernel_rfl) (by kernel_rfl) (by kernel_rfl) (by simp [exactly_lasts, ptrTo_lasts, sliceTo_lasts]) (fun _ _ _ _ _ h => h) ?_
            simp only [List.take_succ_cons, List.take_zero, List.drop_succ_cons, List.drop_zero, List.drop_nil]
            repeat (first | (refine wpLex_skip (by rfl) ?_; simp only [Act.put, List.setIfInBounds_toArray, List.set_cons_zero, List.set_cons_succ]) | (refine wpLex_plain (by rfl) (by rfl) ?_; apply Exists.intro; refine ⟨fun wx hx => ?_, ?_⟩; (obtain ⟨hcc, hff⟩ := bcell (hx rfl).1; go_simp; first | rfl | (rw [if_pos (by omega)]; first | rfl | (go_simp; rfl))); simp only [Act.put, List.setIfInBounds_toArray, List.set_cons_zero, List.set_cons_succ]) | (refine wpLex_plain (by rfl) (by rfl) ?_; apply Exists.intro; refine ⟨fun wx hx => ?_, ?_⟩; (go_simp; rfl); simp only [Act.put, List.setIfInBounds_toArray, List.set_cons_zero, List.set_cons_succ]) | (refine wpLex_rel (by rfl) _ rfl (relAt_below ⟨_, rfl⟩ rfl fun wx hx hd => ?_) ?_; (obtain ⟨hcc, hff⟩ := bcell hx; go_simp; simp only [gives]; first | (go_at_call 31; (with_reducible refine (vnear _ _).mono ?_); rintro e w' ⟨rfl, rfl⟩; exact ⟨_, rfl, rfl, Below.refl _ _, not_fresh rfl, trivial⟩) | (go_at_call 33; (with_reducible refine (vfenced A cap fs _ _ _ (SeqL.below q0 hx) hfl).mono ?_); rintro e w' ⟨rfl, hb'⟩; rw [hfb.out]; exact ⟨_, rfl, rfl, hb', not_fresh rfl, trivial⟩)); rintro _ rfl; simp only [Act.put, List.setIfInBounds_toArray, List.set_cons_zero, List.set_cons_succ]))
            refine wpLex_nil fun w2 hw2 hr _ => ?_
            clear hr
            go_wp2_with fail
            go_roundw
            case rel => exact LateRel.skip (wr := w2) hlt (by rw [hC.out]; rfl) (own_below hown1 hw2) (bthen kb1 hw2)
            case measure => simp [intOf]; omega
        · have hC : Hid (lateC E At now fs k = false) := by simp [Hid, lateC, d2]
          have d2' : decide (6 < tnear now - At k) = false := by simpa using d2
          refine wp_region_below 19 [] []
            [(5, exactly (.int .i64 (tnear now))), (16, exactly (.bool true))]
            (by kernel_rfl) (by kernel_rfl) (by kernel_rfl) (by simp [exactly_lasts, ptrTo_lasts, sliceTo_lasts]) (fun _ _ _ _ _ h => h) ?_
          simp only [List.take_succ_cons, List.take_zero, List.drop_succ_cons, List.drop_zero, List.drop_nil]
          repeat (first | (refine wpLex_skip (by rfl) ?_; simp only [Act.put, List.setIfInBounds_toArray, List.set_cons_zero, List.set_cons_succ]) | (refine wpLex_plain (by rfl) (by rfl) ?_; apply Exists.intro; refine ⟨fun wx hx => ?_, ?_⟩; (obtain ⟨hcc, hff⟩ := bcell (hx rfl).1; go_simp; first | rfl | (rw [if_pos (by omega)]; first | rfl | (go_simp; rfl))); simp only [Act.put, List.setIfInBounds_toArray, List.set_cons_zero, List.set_cons_succ]) | (refine wpLex_plain (by rfl) (by rfl) ?_; apply Exists.intro; refine ⟨fun wx hx => ?_, ?_⟩; (go_simp; rfl); simp only [Act.put, List.setIfInBounds_toArray, List.set_cons_zero, List.set_cons_succ]) | (refine wpLex_rel (by rfl) _ rfl (relAt_below ⟨_, rfl⟩ rfl fun wx hx hd => ?_) ?_; (obtain ⟨hcc, hff⟩ := bcell hx; go_simp; simp only [gives]; first | (go_at_call 31; (with_reducible refine (vnear _ _).mono ?_); rintro e w' ⟨rfl, rfl⟩; exact ⟨_, rfl, rfl, Below.refl _ _, not_fresh rfl, trivial⟩) | (go_at_call 33; (with_reducible refine (vfenced A cap fs _ _ _ (SeqL.below q0 hx) hfl).mono ?_); rintro e w' ⟨rfl, hb'⟩; rw [hfb.out]; exact ⟨_, rfl, rfl, hb', not_fresh rfl, trivial⟩)); rintro _ rfl; simp only [Act.put, List.setIfInBounds_toArray, List.set_cons_zero, List.set_cons_succ]))
          refine wpLex_nil fun w2 hw2 hr _ => ?_
          clear hr
          go_wp2_with fail
          go_roundw
          case rel => exact LateRel.skip (wr := w2) hlt hC.out (own_below hown1 hw2) (bthen kb1 hw2)
          case measure => simp [intOf]; omega
      · have hC : Hid (lateC E At now fs k = false) := by simp [Hid, lateC, d1]
        have d1' : decide (0 < E k) = false := by simpa using d1
        refine wp_region_below 19 [] []
          [(5, exactly (.int .i64 (tnear now))), (16, exactly (.bool true))]
          (by kernel_rfl) (by kernel_rfl) (by kernel_rfl) (by simp [exactly_lasts, ptrTo_lasts, sliceTo_lasts]) (fun _ _ _ _ _ h => h) ?_
        simp only [List.take_succ_cons, List.take_zero, List.drop_succ_cons, List.drop_zero, List.drop_nil]
        repeat (first | (refine wpLex_skip (by rfl) ?_; simp only [Act.put, List.setIfInBounds_toArray, List.set_cons_zero, List.set_cons_succ]) | (refine wpLex_plain (by rfl) (by rfl) ?_; apply Exists.intro; refine ⟨fun wx hx => ?_, ?_⟩; (obtain ⟨hcc, hff⟩ := bcell (hx rfl).1; go_simp; first | rfl | (rw [if_pos (by omega)]; first | rfl | (go_simp; rfl))); simp only [Act.put, List.setIfInBounds_toArray, List.set_cons_zero, List.set_cons_succ]) | (refine wpLex_plain (by rfl) (by rfl) ?_; apply Exists.intro; refine ⟨fun wx hx => ?_, ?_⟩; (go_simp; rfl); simp only [Act.put, List.setIfInBounds_toArray, List.set_cons_zero, List.set_cons_succ]) | (refine wpLex_rel (by rfl) _ rfl (relAt_below ⟨_, rfl⟩ rfl fun wx hx hd => ?_) ?_; (obtain ⟨hcc, hff⟩ := bcell hx; go_simp; simp only [gives]; first | (go_at_call 31; (with_reducible refine (vnear _ _).mono ?_); rintro e w' ⟨rfl, rfl⟩; exact ⟨_, rfl, rfl, Below.refl _ _, not_fresh rfl, trivial⟩) | (go_at_call 33; (with_reducible refine (vfenced A cap fs _ _ _ (SeqL.below q0 hx) hfl).mono ?_); rintro e w' ⟨rfl, hb'⟩; rw [hfb.out]; exact ⟨_, rfl, rfl, hb', not_fresh rfl, trivial⟩)); rintro _ rfl; simp only [Act.put, List.setIfInBounds_toArray, List.set_cons_zero, List.set_cons_succ]))
        refine wpLex_nil fun w2 hw2 hr _ => ?_
        clear hr
        go_wp2_with fail
        go_roundw
        case rel => exact LateRel.skip (wr := w2) hlt hC.out (own_below hown1 hw2) (bthen kb1 hw2)
        case measure => simp [intOf]; omega
    · have hkn : k = n := by omega
      have HK := Lib.hid hkn
      clear hkn
      go_wp2_with fail
      go_ret
      rw [← HK.out]
      exact ⟨_, rfl, SliceL.of_own fenF_len hown, kb⟩
end Go.Proofs.Ytdplieimkphneaa
