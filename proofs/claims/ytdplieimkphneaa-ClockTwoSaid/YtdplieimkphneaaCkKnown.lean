/- The law's own first question on clocks: it is answered yes. -/
import Derived.Test.YtdplieimkphneaaLess
import Derived.Test.YtdplieimkphneaaSee
namespace Go.Proofs.Ytdplieimkphneaa
open Go.RowKit Go.ChangeShapes Go.WideShapes Go.ChangeAt Go.Joins
set_option linter.unusedSimpArgs false
set_option linter.unusedVariables false

theorem less_v (al ac an bl bc bn : Int) (r : Bool) (h : lessB ⟨al, ac, an⟩ ⟨bl, bc, bn⟩ = r) (w : World) :
    Calls Try.prog 23 #[.agg #[.int .i64 al, .int .i64 ac, .int .i64 an], .agg #[.int .i64 bl, .int .i64 bc, .int .i64 bn]] w fun e w' => e = .returned (.bool r) ∧ Below w.heap.size w w' := by
  have := less_any ⟨al, ac, an⟩ ⟨bl, bc, bn⟩ w
  rwa [h] at this
theorem Clk.below {w w' : World} {T b : Nat} {l c n : Int} (h : Clk w T b l c n) (hb : Below w.heap.size w w') : Clk w' T b l c n := Below.blk hb h
theorem now_v (b : Nat) (l c n v : Int) (w : World) (hc : Clk w 82 b l c n) (b0 : 0 ≤ l) (b1 : l ≤ 4611686018427387904) (b2 : 0 ≤ c) (b3 : c ≤ 4611686018427387904) {r1 r2 : Int} (h : nowL l c v = (r1, r2)) :
    Calls Try.prog 28 #[.pointer (some ⟨b, 0, none⟩), .int .i64 v] w fun e w' => e = .returned (.agg #[.int .i64 r1, .int .i64 r2, .int .i64 n]) ∧ Clk w' 82 b r1 r2 n ∧ Only b w w' := by
  have := now_any b l c n v w hc b0 b1 b2 b3
  unfold NowP at this
  rwa [h] at this
set_option maxHeartbeats 2000000 in
theorem ckKnown (w : World) : Calls Try.prog 22 #[] w fun e w' => e = .returned (.bool true) ∧ Below w.heap.size w w' := by
  have n1 : nowL 0 0 5 = (5, 0) := by decide
  have n2 : nowL 5 0 5 = (5, 1) := by decide
  have L1 := less_v 5 0 3 5 1 3 true (by decide)
  have L2 := less_v 5 1 3 5 1 3 false (by decide)
  have H1 := Lib.hid n1
  have H2 := Lib.hid n2
  have HL1 := Lib.hid L1
  have HL2 := Lib.hid L2
  clear n1 n2 L1 L2
  go_enter Try.func22, Try.ntmps22
  go_wp2_with fail
  refine (new_any _ _).mono ?_
  rintro e w' ⟨rfl, hw'⟩
  have hn : Clk w' 82 w.heap.size 0 0 3 := by rw [← hw']; exact Blk.new _ _ _
  have hbw : Only w.heap.size w w' := by rw [← hw']; exact (Only.refl _ _).alloc _
  clear hw'
  generalize hB : w.heap.size = B at *
  go_wp2_with fail
  refine (now_v B 0 0 3 5 _ hn (by decide) (by decide) (by decide) (by decide) H1.out).mono ?_
  rintro e w2 ⟨rfl, hn2, ho2⟩
  go_wp2_with fail
  refine (now_v B 5 0 3 5 _ hn2 (by decide) (by decide) (by decide) (by decide) H2.out).mono ?_
  rintro e w3 ⟨rfl, hn3, ho3⟩
  have hl := Blk.lt hn3
  go_upto_region 5 with fail
  have hn4 : Clk _ 82 B 5 1 3 := (Blk.alloc hn3 (.cells #[.int .i64 5, .int .i64 0, .int .i64 3] 46)).alloc (.cells #[.int .i64 5, .int .i64 1, .int .i64 3] 46)
  have ho4 := (((hbw.trans ho2).trans ho3).alloc (.cells #[.int .i64 5, .int .i64 0, .int .i64 3] 46)).alloc (.cells #[.int .i64 5, .int .i64 1, .int .i64 3] 46)
  have hx2 := (Blk.new w3 46 #[.int .i64 5, .int .i64 0, .int .i64 3]).alloc (.cells #[.int .i64 5, .int .i64 1, .int .i64 3] 46)
  have hx3 := Blk.new (w3.alloc (.cells #[.int .i64 5, .int .i64 0, .int .i64 3] 46)) 46 #[.int .i64 5, .int .i64 1, .int .i64 3]
  rw [show (w3.alloc (.cells #[.int .i64 5, .int .i64 0, .int .i64 3] 46)).heap.size = w3.heap.size + 1 by simp] at hx3
  generalize (w3.alloc (.cells #[.int .i64 5, .int .i64 0, .int .i64 3] 46)).alloc (.cells #[.int .i64 5, .int .i64 1, .int .i64 3] 46) = w4 at *
  have l1 := Blk.lt hx2
  have l2 := Blk.lt hx3
  have c1 := Blk.cell hx2
  have c2 := Blk.cell hx3
  refine wp_region_below 26 [] []
    [(11, exactly (.bool true)), (16, exactly (.bool false)), (21, exactly (.agg #[.int .i64 5, .int .i64 1, .int .i64 3]))]
    (by kernel_rfl) (by kernel_rfl) (by kernel_rfl) (by simp [exactly_lasts, ptrTo_lasts, sliceTo_lasts]) (fun _ _ _ _ _ h => h) ?_
  simp only [List.take_succ_cons, List.take_zero, List.drop_succ_cons, List.drop_zero, List.drop_nil]
  repeat (first | (refine wpLex_skip (by rfl) ?_; simp only [Act.put, List.setIfInBounds_toArray, List.set_cons_zero, List.set_cons_succ]) | (refine wpLex_plain (by rfl) (by rfl) ?_; apply Exists.intro; refine ⟨fun wx hx => ?_, ?_⟩; (obtain ⟨hcc, hff⟩ := bcell (hx rfl).1; go_simp; rfl); simp only [Act.put, List.setIfInBounds_toArray, List.set_cons_zero, List.set_cons_succ]) | (refine wpLex_plain (by rfl) (by rfl) ?_; apply Exists.intro; refine ⟨fun wx hx => ?_, ?_⟩; (go_simp; rfl); simp only [Act.put, List.setIfInBounds_toArray, List.set_cons_zero, List.set_cons_succ]) | (refine wpLex_rel (by rfl) _ rfl (relAt_below ⟨_, rfl⟩ rfl fun wx hx hd => ?_) ?_; (obtain ⟨hcc, hff⟩ := bcell hx; go_simp; simp only [gives]; first | (go_at_call 23; first | ((with_reducible refine (HL1.out _).mono ?_); rintro e w' ⟨rfl, hb'⟩; exact ⟨_, rfl, rfl, hb', not_fresh rfl, trivial⟩) | ((with_reducible refine (HL2.out _).mono ?_); rintro e w' ⟨rfl, hb'⟩; exact ⟨_, rfl, rfl, hb', not_fresh rfl, trivial⟩)) | (go_at_call 30; (with_reducible refine (last_any B 5 1 3 _ (Clk.below hn4 hx)).mono ?_); rintro e w' ⟨rfl, hb'⟩; exact ⟨_, rfl, rfl, hb', not_fresh rfl, trivial⟩)); rintro _ rfl; simp only [Act.put, List.setIfInBounds_toArray, List.set_cons_zero, List.set_cons_succ]))
  refine wpLex_nil fun w5 hw5 hr hap => ?_
  clear hr hap
  go_wp2_with fail
  go_ret
  exact ⟨rfl, (ho4.trans (Only.of_below hw5 _)).below (Nat.le_refl _) (Nat.le_of_eq hB)⟩
end Go.Proofs.Ytdplieimkphneaa
