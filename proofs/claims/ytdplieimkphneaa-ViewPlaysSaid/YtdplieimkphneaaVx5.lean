/- Fences held against one another; places; what the laws ask first. -/
import Derived.Test.YtdplieimkphneaaVx4
import Derived.KernelRfl
namespace Go.Proofs.Ytdplieimkphneaa
open Go.RowKit
set_option linter.unusedSimpArgs false
set_option linter.unusedVariables false
set_option linter.unusedSectionVars false
set_option maxHeartbeats 4000000
set_option maxRecDepth 100000
attribute [local irreducible] DW SeqD DV DOp DC

def placeZ (k n : Int) : Int := if k.tmod n < 0 then k.tmod n + n else k.tmod n
theorem tmod_b (k n : Int) (h : 0 < n) : -n < k.tmod n ∧ k.tmod n < n := ⟨Int.lt_tmod_of_pos k h, Int.tmod_lt_of_pos k h⟩
theorem placeZ_b (k n : Int) (h : 0 < n) : 0 ≤ placeZ k n ∧ placeZ k n < n := by
  unfold placeZ
  have h1 := Int.tmod_lt_of_pos k h
  have h2 := Int.lt_tmod_of_pos k h
  split <;> omega
theorem take_next {a b : List (Int × Int)} {k : Nat} (hk : k < a.length) (hb : k < b.length) (h : a.take k = b.take k) (e1 : (a.getD k default).1 = (b.getD k default).1) (e2 : (a.getD k default).2 = (b.getD k default).2) : a.take (k + 1) = b.take (k + 1) := by
  rw [List.take_add_one, List.take_add_one, h]
  congr 1
  simp only [List.getD_eq_getElem?_getD] at e1 e2
  rw [List.getElem?_eq_getElem hk, List.getElem?_eq_getElem hb] at e1 e2 ⊢
  simp only [Option.getD_some] at e1 e2
  rw [Prod.ext e1 e2]
theorem place_dc (k n : Int) (F : Own) : (0 < n ∧ n ≤ 1000000000) → DC Try.prog 12 [.int .i64 k, .int .i64 n] (([] : Own) ++ F) fun d G => d = .int .i64 (placeZ k n) ∧ G = [] ++ F := by
  intro hA
  have hn := hA
  refine DC.bodyS (n_ := 14) (show Try.prog.funcs[12]? = some Try.f12 by kernel_rfl) rfl rfl (by rfl) ?_
  simp only [env0, List.cons_append, List.nil_append]
  have hb := tmod_b k n hn.1
  repeat' (first
    | with_reducible refine DW.sq ?_
    | with_reducible refine DW.block ?_
    | with_reducible refine DW.skip ?_
    | with_reducible refine DW.exit ?_
    | ((with_reducible refine DW.ret ?_))
    | with_reducible refine then_n ?_
    | with_reducible refine then_x ?_
    | with_reducible refine then_r ?_
    | with_reducible refine blk_n ?_
    | with_reducible refine blk_r ?_
    | with_reducible refine blk_x ?_
    | with_reducible refine blk_y (by decide) ?_
    | with_reducible refine Next.go ?_
    | with_reducible refine SeqD.nil ?_
    | with_reducible refine DV.nil ?_
    | ((with_reducible refine And.intro ?_ ?_); (first | exact True.intro | omega | assumption | (simp <;> fail) | (simp; omega) | (refine ⟨?_, ?_⟩ <;> first | omega | assumption | (simp <;> fail) | (simp; omega)) | (refine ⟨?_, ?_, ?_⟩ <;> first | omega | assumption | (simp <;> fail) | (simp; omega))))
    | ((with_reducible refine DW.ct ?_ ?_); (simp only [opd_tmp, opd_const, ofConst, ofConst1, get_cons, Nat.reduceEqDiff, ↓reduceIte, if_true, if_false] <;> fail))
    | ((with_reducible refine DW.cf ?_ ?_); (simp only [opd_tmp, opd_const, ofConst, ofConst1, get_cons, Nat.reduceEqDiff, ↓reduceIte, if_true, if_false] <;> fail))
    | (refine DW.cond (by rfl) (fun hb => ?_) (fun hb => ?_) <;> (try simp only [decide_eq_true_eq, decide_eq_false_iff_not, beq_iff_eq, bne_iff_ne, ne_eq, beq_eq_false_iff_ne, bne_eq_false_iff_eq, Bool.and_eq_true, Bool.and_true, Bool.not_eq_true', Bool.not_eq_false', Int.not_lt, Int.not_le, not_and, Bool.not_eq_eq_eq_not, Bool.not_true, Bool.not_false, tEq, fEq, Bool.not_eq_true, Bool.not_eq_false, Int.reduceBEq, Int.reduceBNe, Int.reduceEq] at hb; try (exfalso; omega)))
    | ((first | ((with_reducible refine DW.regK [0, 1, 4, 9] (by kernel_rfl) ?_); refine SeqD.go (own := []) _ _ ?_) | (with_reducible refine ret_r rfl ?_) | (with_reducible refine ret_n rfl ?_) | ((with_reducible refine FVg_cases (fun hb => ?_) (fun hb => ?_)) <;> (rw [hb]; try simp only [decide_eq_true_eq, decide_eq_false_iff_not, beq_iff_eq, bne_iff_ne, ne_eq, beq_eq_false_iff_ne, bne_eq_false_iff_eq, Bool.and_eq_true, Bool.and_true, Bool.not_eq_true', Bool.not_eq_false', Int.not_lt, Int.not_le, not_and, Bool.not_eq_eq_eq_not, Bool.not_true, Bool.not_false, tEq, fEq, Bool.not_eq_true, Bool.not_eq_false, Int.reduceBEq, Int.reduceBNe, Int.reduceEq] at hb; try (exfalso; omega))) | ((with_reducible first | refine SeqD.opF [] rfl ?_ | refine SeqD.opgF [] rfl rfl ?_); (first | (refine DOp.alloc_ rfl ?_) | (refine DOp.box_ rfl ?_) | (refine DOp.list_ rfl ?_) | (refine DOp.store_ rfl rfl ?_; (repeat (first | (with_reducible refine OnB.here ?_) | (with_reducible refine OnB.mid ?_) | (with_reducible refine OnB.next ?_)))) | (refine DOp.load_ rfl rfl ?_; (repeat (first | (with_reducible refine OnB.here ?_) | (with_reducible refine OnB.mid ?_) | (with_reducible refine OnB.next ?_)))) | (refine DOp.loada_ rfl rfl ?_; (repeat (first | (with_reducible refine OnA.here ?_) | (with_reducible refine OnA.next ?_)))) | (refine DOp.storea_ rfl rfl ?_; (repeat (first | (with_reducible refine OnA.here ?_) | (with_reducible refine OnA.next ?_)))) | (refine DOp.appa_ rfl rfl rfl ?_; (repeat (first | (with_reducible refine OnA.here ?_) | (with_reducible refine OnA.next ?_)))) | (refine DOp.appz_ rfl rfl rfl ?_; (repeat (first | (with_reducible refine OnT.here ?_) | (with_reducible refine OnT.next ?_)))) | (refine DOp.append0_ rfl rfl rfl ?_) | (refine DOp.make_ rfl rfl rfl ?_) | (refine DOp.make0_ rfl rfl rfl ?_)))) <;> (simp (maxSteps := 1000000) (disch := omega) only [push_cast, ↓reduceIte, reduceCtorEq, Nat.reduceAdd, Nat.reduceMul, Nat.reduceLT, Nat.reduceLeDiff, Nat.reduceEqDiff, Nat.reduceSub, Int.reduceToNat, Int.reduceLT, Int.reduceLE, Int.reduceAdd, Int.reduceSub, Int.reduceMul, Int.reduceNeg, Nat.reduceBEq, Int.reduceBEq, Int.reduceBNe, Nat.reduceBNe, Int.reduceEq]))
    | with_reducible intro b)
  all_goals
    refine ⟨_, _, le.of_eq ?_, ⟨rfl, rfl⟩, SubP.refl⟩
    unfold placeZ
    first | rw [if_pos (by omega)] | rw [if_neg (by omega)]
theorem fences_dc (a b : List (Int × Int)) (F : Own) : (a.length ≤ 1000000000000000 ∧ b.length ≤ 1000000000000000) → DC Try.prog 17 [.sl (a.map encF), .sl (b.map encF)] (([] : Own) ++ F) fun d G => d = .bool (decide (a = b)) ∧ G = [] ++ F := by
  intro hA
  obtain ⟨ha, hb2⟩ := hA
  refine DC.bodyS (n_ := 26) (show Try.prog.funcs[17]? = some Try.f17 by kernel_rfl) rfl rfl (by rfl) ?_
  simp only [env0, List.cons_append, List.nil_append]
  repeat' (first
    | ((with_reducible refine DW.loopB 0 (X := Nat) (fun x => x ≤ a.length ∧ a.length = b.length ∧ a.take x = b.take x) (fun x => [(0, .sl (a.map encF)), (1, .sl (b.map encF)), (5, .int .i64 x)]) (fun x => ([] : Own)) (fun x => a.length - x) (0) ?_ ?_ ?_); exact (⟨Nat.zero_le _, by omega, rfl⟩); (simp [Sub, get, keepL] <;> fail); (try simp only [List.cons_append, List.nil_append]); (repeat (first | (with_reducible refine Pull.nil ?_) | (with_reducible refine Pull.cons ?_) | (with_reducible refine Out.here ?_) | (with_reducible refine Out.next ?_))); intro k ⟨hx, hl, he⟩; (try simp only [List.cons_append, List.nil_append]))
    | with_reducible refine DW.sq ?_
    | with_reducible refine DW.block ?_
    | with_reducible refine DW.skip ?_
    | with_reducible refine DW.exit ?_
    | ((with_reducible refine DW.ret ?_))
    | with_reducible refine then_n ?_
    | with_reducible refine then_x ?_
    | with_reducible refine then_r ?_
    | with_reducible refine blk_n ?_
    | with_reducible refine blk_r ?_
    | with_reducible refine blk_x ?_
    | with_reducible refine blk_y (by decide) ?_
    | with_reducible refine Next.go ?_
    | with_reducible refine SeqD.nil ?_
    | with_reducible refine DV.nil ?_
    | ((with_reducible refine And.intro ?_ ?_); (first | exact True.intro | omega | assumption | (simp <;> fail) | (simp; omega) | (refine ⟨?_, ?_⟩ <;> first | omega | assumption | (simp <;> fail) | (simp; omega)) | (refine ⟨?_, ?_, ?_⟩ <;> first | omega | assumption | (simp <;> fail) | (simp; omega))))
    | ((with_reducible refine DW.ct ?_ ?_); (simp only [opd_tmp, opd_const, ofConst, ofConst1, get_cons, Nat.reduceEqDiff, ↓reduceIte, if_true, if_false] <;> fail))
    | ((with_reducible refine DW.cf ?_ ?_); (simp only [opd_tmp, opd_const, ofConst, ofConst1, get_cons, Nat.reduceEqDiff, ↓reduceIte, if_true, if_false] <;> fail))
    | (refine DW.cond (by rfl) (fun hb => ?_) (fun hb => ?_) <;> (try simp only [decide_eq_true_eq, decide_eq_false_iff_not, beq_iff_eq, bne_iff_ne, ne_eq, beq_eq_false_iff_ne, bne_eq_false_iff_eq, Bool.and_eq_true, Bool.and_true, Bool.not_eq_true', Bool.not_eq_false', Int.not_lt, Int.not_le, not_and, Bool.not_eq_eq_eq_not, Bool.not_true, Bool.not_false, tEq, fEq, Bool.not_eq_true, Bool.not_eq_false, Int.reduceBEq, Int.reduceBNe, Int.reduceEq] at hb; try (exfalso; omega)))
    | ((first | ((with_reducible refine DW.regK [0, 1, 4, 5, 10, 14, 25] (by kernel_rfl) ?_); refine SeqD.go (own := []) _ _ ?_) | ((with_reducible refine DW.drawK (id := 6) [0, 1, 4, 5, 10, 14, 25] [] [3, 7] (by kernel_rfl) (by kernel_rfl) (by kernel_rfl) ?_); refine DV.go [3, 7] [] _ _ _ ?_) | (with_reducible refine ret_r rfl ?_) | (with_reducible refine ret_n rfl ?_) | ((with_reducible refine FVg_cases (fun hb => ?_) (fun hb => ?_)) <;> (rw [hb]; try simp only [decide_eq_true_eq, decide_eq_false_iff_not, beq_iff_eq, bne_iff_ne, ne_eq, beq_eq_false_iff_ne, bne_eq_false_iff_eq, Bool.and_eq_true, Bool.and_true, Bool.not_eq_true', Bool.not_eq_false', Int.not_lt, Int.not_le, not_and, Bool.not_eq_eq_eq_not, Bool.not_true, Bool.not_false, tEq, fEq, Bool.not_eq_true, Bool.not_eq_false, Int.reduceBEq, Int.reduceBNe, Int.reduceEq] at hb; try (exfalso; omega))) | ((with_reducible refine FDg_cases (fun hb => ?_) (fun hb => ?_)) <;> (rw [hb]; try simp only [decide_eq_true_eq, decide_eq_false_iff_not, beq_iff_eq, bne_iff_ne, ne_eq, beq_eq_false_iff_ne, bne_eq_false_iff_eq, Bool.and_eq_true, Bool.and_true, Bool.not_eq_true', Bool.not_eq_false', Int.not_lt, Int.not_le, not_and, Bool.not_eq_eq_eq_not, Bool.not_true, Bool.not_false, tEq, fEq, Bool.not_eq_true, Bool.not_eq_false, Int.reduceBEq, Int.reduceBNe, Int.reduceEq] at hb; try (exfalso; omega))) | ((with_reducible first | refine SeqD.opF [] rfl ?_ | refine SeqD.opgF [] rfl rfl ?_); (first | (refine DOp.alloc_ rfl ?_) | (refine DOp.box_ rfl ?_) | (refine DOp.list_ rfl ?_) | (refine DOp.store_ rfl rfl ?_; (repeat (first | (with_reducible refine OnB.here ?_) | (with_reducible refine OnB.mid ?_) | (with_reducible refine OnB.next ?_)))) | (refine DOp.load_ rfl rfl ?_; (repeat (first | (with_reducible refine OnB.here ?_) | (with_reducible refine OnB.mid ?_) | (with_reducible refine OnB.next ?_)))) | (refine DOp.loada_ rfl rfl ?_; (repeat (first | (with_reducible refine OnA.here ?_) | (with_reducible refine OnA.next ?_)))) | (refine DOp.storea_ rfl rfl ?_; (repeat (first | (with_reducible refine OnA.here ?_) | (with_reducible refine OnA.next ?_)))) | (refine DOp.appa_ rfl rfl rfl ?_; (repeat (first | (with_reducible refine OnA.here ?_) | (with_reducible refine OnA.next ?_)))) | (refine DOp.appz_ rfl rfl rfl ?_; (repeat (first | (with_reducible refine OnT.here ?_) | (with_reducible refine OnT.next ?_)))) | (refine DOp.append0_ rfl rfl rfl ?_) | (refine DOp.make_ rfl rfl rfl ?_) | (refine DOp.make0_ rfl rfl rfl ?_))) | ((with_reducible first | refine DV.mk rfl ?_ | refine DV.mkg rfl rfl ?_); (first | (refine DVop.load_ rfl rfl rfl rfl ?_; (repeat (first | (with_reducible refine OnB.here ?_) | (with_reducible refine OnB.mid ?_) | (with_reducible refine OnB.next ?_)))) | (refine DVop.f_ rfl ?_) | ((refine DVop.mv_ rfl ?_); (first | (refine DOp.alloc_ rfl ?_) | (refine DOp.box_ rfl ?_) | (refine DOp.list_ rfl ?_) | (refine DOp.store_ rfl rfl ?_; (repeat (first | (with_reducible refine OnB.here ?_) | (with_reducible refine OnB.mid ?_) | (with_reducible refine OnB.next ?_)))) | (refine DOp.load_ rfl rfl ?_; (repeat (first | (with_reducible refine OnB.here ?_) | (with_reducible refine OnB.mid ?_) | (with_reducible refine OnB.next ?_)))) | (refine DOp.loada_ rfl rfl ?_; (repeat (first | (with_reducible refine OnA.here ?_) | (with_reducible refine OnA.next ?_)))) | (refine DOp.storea_ rfl rfl ?_; (repeat (first | (with_reducible refine OnA.here ?_) | (with_reducible refine OnA.next ?_)))) | (refine DOp.appa_ rfl rfl rfl ?_; (repeat (first | (with_reducible refine OnA.here ?_) | (with_reducible refine OnA.next ?_)))) | (refine DOp.appz_ rfl rfl rfl ?_; (repeat (first | (with_reducible refine OnT.here ?_) | (with_reducible refine OnT.next ?_)))) | (refine DOp.append0_ rfl rfl rfl ?_) | (refine DOp.make_ rfl rfl rfl ?_) | (refine DOp.make0_ rfl rfl rfl ?_)))))) <;> (simp (maxSteps := 1000000) (disch := omega) only [push_cast, ↓reduceIte, reduceCtorEq, Nat.reduceAdd, Nat.reduceMul, Nat.reduceLT, Nat.reduceLeDiff, Nat.reduceEqDiff, Nat.reduceSub, Int.reduceToNat, Int.reduceLT, Int.reduceLE, Int.reduceAdd, Int.reduceSub, Int.reduceMul, Int.reduceNeg, Nat.reduceBEq, Int.reduceBEq, Int.reduceBNe, Nat.reduceBNe, Int.reduceEq, encF]))
    | with_reducible intro b)
  all_goals first
  | (have hne : a ≠ b := by intro h; subst h; omega
     refine ⟨_, _, le.of_eq ?_, ⟨rfl, rfl⟩, SubP.refl⟩
     rw [decide_eq_false hne])
  | (have hne : a ≠ b := by intro h; subst h; exact absurd rfl (by assumption)
     refine ⟨_, _, le.of_eq ?_, ⟨rfl, rfl⟩, SubP.refl⟩
     rw [decide_eq_false hne])
  | (have hne : a ≠ b := by intro h; subst h; simp at hb
     refine ⟨_, _, le.of_eq ?_, ⟨rfl, rfl⟩, SubP.refl⟩
     rw [decide_eq_false hne])
  | (refine ⟨k + 1, ⟨by omega, hl, take_next (by omega) (by omega) he hb.1 hb.2⟩, by omega, by simp [Sub, get], ?_⟩
     repeat (first | (with_reducible exact SubP.refl) | (with_reducible exact SubP.nil) | (with_reducible refine SubP.pick ?_) | (with_reducible refine Out.here ?_) | (with_reducible refine Out.next ?_) | (with_reducible refine SubP.drop ?_)))
  | (have hab : a = b := by rw [List.take_of_length_le (by omega), List.take_of_length_le (by omega)] at he; exact he
     refine ⟨_, _, le.of_eq ?_, ⟨rfl, rfl⟩, SubP.refl⟩
     rw [decide_eq_true hab])
theorem knN : (clampN 3).toNat = 3 := by decide
theorem kn0 : List.replicate 3 ((0 : Int), (0 : Int)) = [(0, 0), (0, 0), (0, 0)] := by decide
theorem kn00 : List.replicate (clampN 3).toNat ((0 : Int), (0 : Int)) = [(0, 0), (0, 0), (0, 0)] := by decide
theorem kn1 : clampS 3 0 = 0 := by decide
theorem kn2 : hearL 0 [(0, 0), (0, 0), (0, 0)] 1 2 5 = [(0, 0), (2, 5), (0, 0)] := by decide
theorem kn3 : hearB 0 [(0, 0), (0, 0), (0, 0)] 1 2 = true := by decide
theorem kn4 : lateK [(0, 0), (2, 5), (0, 0)] [] 12 3 = [(1, 2)] := by decide
theorem kn5 : lateK [(0, 0), (2, 5), (0, 0)] [] 11 3 = [] := by decide
theorem kn6 : epochV [(0, 0), (2, 5), (0, 0)] 1 = 2 := by decide
theorem kn7 : epochV [(0, 0), (2, 5), (0, 0)] 2 = 0 := by decide
theorem kn8 : hearB 0 [(0, 0), (2, 5), (0, 0)] 1 1 = false := by decide
theorem kn9 : hearB 0 [(0, 0), (2, 5), (0, 0)] 0 1 = false := by decide
theorem kn10 : hearL 0 [(0, 0), (2, 5), (0, 0)] 1 1 6 = [(0, 0), (2, 5), (0, 0)] := by decide
theorem kn11 : hearL 0 [(0, 0), (2, 5), (0, 0)] 0 1 6 = [(0, 0), (2, 5), (0, 0)] := by decide
theorem hearL_len (self : Int) (l : List (Int × Int)) (fr ep now : Int) : (hearL self l fr ep now).length = l.length := by unfold hearL; split <;> simp
theorem hearL_near (self : Int) (l : List (Int × Int)) (fr ep now : Int) (h : Near l) : Near (hearL self l fr ep now) := by
  unfold hearL
  split
  · intro x hx
    rcases List.mem_or_eq_of_mem_set hx with hx | hx
    · exact h x hx
    · subst hx; exact ⟨nearZ_lo now, nearZ_hi now⟩
  · exact h
theorem near0 (m : Nat) : Near (List.replicate m (0, 0)) := fun x hx => by rw [List.eq_of_mem_replicate hx]; decide
theorem nearK1 : Near [(0, 0), (2, 5), (0, 0)] := by unfold Near; decide
theorem nearK2 : Near [(0, 0), (0, 0), (0, 0)] := by unfold Near; decide
theorem known_dc  (F : Own) : (True) → DC Try.prog 11 [] (([] : Own) ++ F) fun d G => d = .bool true ∧ G = [] ++ F := by
  intro hA
  refine DC.bodyS (n_ := 50) (show Try.prog.funcs[11]? = some Try.f11 by kernel_rfl) rfl rfl (by rfl) ?_
  simp only [env0, viewO, List.cons_append, List.nil_append]
  repeat' (first
    | with_reducible refine DW.sq ?_
    | with_reducible refine DW.block ?_
    | with_reducible refine DW.skip ?_
    | with_reducible refine DW.exit ?_
    | ((with_reducible refine DW.ret ?_))
    | with_reducible refine then_n ?_
    | with_reducible refine then_x ?_
    | with_reducible refine then_r ?_
    | with_reducible refine blk_n ?_
    | with_reducible refine blk_r ?_
    | with_reducible refine blk_x ?_
    | with_reducible refine blk_y (by decide) ?_
    | with_reducible refine Next.go ?_
    | with_reducible refine SeqD.nil ?_
    | with_reducible refine DV.nil ?_
    | ((with_reducible refine And.intro ?_ ?_); (first | exact True.intro | omega | (simp only [hearL_len]; omega) | (refine ⟨⟨?_, ?_⟩, ?_, ?_⟩ <;> first | exact True.intro | omega | assumption | (simp only [hearL_len]; omega) | (refine Nat.le_trans (lateK_len _ _ _ _) ?_; (try simp only [hearL_len]); omega) | (exact hearL_near _ _ _ _ _ (by assumption)) | (simp <;> fail) | (simp; omega) | exact nearK1 | exact nearK2) | (refine ⟨?_, ?_, ?_⟩ <;> first | exact True.intro | omega | assumption | (simp only [hearL_len]; omega) | (refine Nat.le_trans (lateK_len _ _ _ _) ?_; (try simp only [hearL_len]); omega) | (exact hearL_near _ _ _ _ _ (by assumption)) | (simp <;> fail) | (simp; omega) | exact nearK1 | exact nearK2) | (refine ⟨?_, ?_⟩ <;> first | exact True.intro | omega | assumption | (simp only [hearL_len]; omega) | (refine Nat.le_trans (lateK_len _ _ _ _) ?_; (try simp only [hearL_len]); omega) | (exact hearL_near _ _ _ _ _ (by assumption)) | (simp <;> fail) | (simp; omega) | exact nearK1 | exact nearK2) | assumption | (simp <;> fail) | (simp; omega)))
    | ((with_reducible refine DW.ct ?_ ?_); (simp only [opd_tmp, opd_const, ofConst, ofConst1, get_cons, Nat.reduceEqDiff, ↓reduceIte, if_true, if_false] <;> fail))
    | ((with_reducible refine DW.cf ?_ ?_); (simp only [opd_tmp, opd_const, ofConst, ofConst1, get_cons, Nat.reduceEqDiff, ↓reduceIte, if_true, if_false] <;> fail))
    | (refine DW.cond (by rfl) (fun hb => ?_) (fun hb => ?_) <;> (try simp only [decide_eq_true_eq, decide_eq_false_iff_not, beq_iff_eq, bne_iff_ne, ne_eq, beq_eq_false_iff_ne, bne_eq_false_iff_eq, Bool.and_eq_true, Bool.and_true, Bool.not_eq_true', Bool.not_eq_false', Int.not_lt, Int.not_le, not_and, Bool.not_eq_eq_eq_not, Bool.not_true, Bool.not_false, tEq, fEq, Bool.not_eq_true, Bool.not_eq_false, Int.reduceBEq, Int.reduceBNe, Int.reduceEq] at hb; try (exfalso; omega)))
    | ((first | ((with_reducible refine DW.regK [0, 1, 2, 3, 6] (by kernel_rfl) ?_); refine SeqD.go (own := []) _ _ ?_) | (with_reducible refine ret_r rfl ?_) | (with_reducible refine ret_n rfl ?_) | ((with_reducible refine FVg_cases (fun hb => ?_) (fun hb => ?_)) <;> (rw [hb]; try simp only [decide_eq_true_eq, decide_eq_false_iff_not, beq_iff_eq, bne_iff_ne, ne_eq, beq_eq_false_iff_ne, bne_eq_false_iff_eq, Bool.and_eq_true, Bool.and_true, Bool.not_eq_true', Bool.not_eq_false', Int.not_lt, Int.not_le, not_and, Bool.not_eq_eq_eq_not, Bool.not_true, Bool.not_false, tEq, fEq, Bool.not_eq_true, Bool.not_eq_false, Int.reduceBEq, Int.reduceBNe, Int.reduceEq] at hb; try (exfalso; omega))) | ((with_reducible first | refine SeqD.opF [] rfl ?_ | refine SeqD.opgF [] rfl rfl ?_); (first | (apply DOp.callp_ rfl rfl (h := new_dc _ _ _ _); (repeat (first | exact Les.nil | refine Les.cons le.rfl_ ?_ | refine Les.cons (le.gs rfl) ?_ | refine Les.cons (le.gs List.map_nil.symm) ?_)); (repeat (first | (with_reducible exact Pulled.nil) | (with_reducible apply Pulled.cons) | (with_reducible exact Took.here) | (with_reducible apply Took.next))); refine And.intro ?_ ?_; (first | exact True.intro | omega | (simp only [hearL_len]; omega) | (refine ⟨⟨?_, ?_⟩, ?_, ?_⟩ <;> first | exact True.intro | omega | assumption | (simp only [hearL_len]; omega) | (refine Nat.le_trans (lateK_len _ _ _ _) ?_; (try simp only [hearL_len]); omega) | (exact hearL_near _ _ _ _ _ (by assumption)) | (simp <;> fail) | (simp; omega) | exact nearK1 | exact nearK2) | (refine ⟨?_, ?_, ?_⟩ <;> first | exact True.intro | omega | assumption | (simp only [hearL_len]; omega) | (refine Nat.le_trans (lateK_len _ _ _ _) ?_; (try simp only [hearL_len]); omega) | (exact hearL_near _ _ _ _ _ (by assumption)) | (simp <;> fail) | (simp; omega) | exact nearK1 | exact nearK2) | (refine ⟨?_, ?_⟩ <;> first | exact True.intro | omega | assumption | (simp only [hearL_len]; omega) | (refine Nat.le_trans (lateK_len _ _ _ _) ?_; (try simp only [hearL_len]); omega) | (exact hearL_near _ _ _ _ _ (by assumption)) | (simp <;> fail) | (simp; omega) | exact nearK1 | exact nearK2) | assumption | (simp <;> fail) | (simp; omega)); rintro d H1 ⟨p, c, rfl, rfl⟩) | (apply DOp.callp_ rfl rfl (h := hear_dc _ _ _ _ _ _ _ _ _); (repeat (first | exact Les.nil | refine Les.cons le.rfl_ ?_ | refine Les.cons (le.gs rfl) ?_ | refine Les.cons (le.gs List.map_nil.symm) ?_)); (repeat (first | (with_reducible exact Pulled.nil) | (with_reducible apply Pulled.cons) | (with_reducible exact Took.here) | (with_reducible apply Took.next))); refine And.intro ?_ ?_; (first | exact True.intro | omega | (simp only [hearL_len]; omega) | (refine ⟨⟨?_, ?_⟩, ?_, ?_⟩ <;> first | exact True.intro | omega | assumption | (simp only [hearL_len]; omega) | (refine Nat.le_trans (lateK_len _ _ _ _) ?_; (try simp only [hearL_len]); omega) | (exact hearL_near _ _ _ _ _ (by assumption)) | (simp <;> fail) | (simp; omega) | exact nearK1 | exact nearK2) | (refine ⟨?_, ?_, ?_⟩ <;> first | exact True.intro | omega | assumption | (simp only [hearL_len]; omega) | (refine Nat.le_trans (lateK_len _ _ _ _) ?_; (try simp only [hearL_len]); omega) | (exact hearL_near _ _ _ _ _ (by assumption)) | (simp <;> fail) | (simp; omega) | exact nearK1 | exact nearK2) | (refine ⟨?_, ?_⟩ <;> first | exact True.intro | omega | assumption | (simp only [hearL_len]; omega) | (refine Nat.le_trans (lateK_len _ _ _ _) ?_; (try simp only [hearL_len]); omega) | (exact hearL_near _ _ _ _ _ (by assumption)) | (simp <;> fail) | (simp; omega) | exact nearK1 | exact nearK2) | assumption | (simp <;> fail) | (simp; omega)); rintro d H1 ⟨rfl, rfl⟩) | (apply DOp.callq_ rfl rfl (h := late_dc _ _ _ _ _ _ _ _); (repeat (first | exact Les.nil | refine Les.cons le.rfl_ ?_ | refine Les.cons (le.gs rfl) ?_ | refine Les.cons (le.gs List.map_nil.symm) ?_)); (repeat (first | (with_reducible exact Pulled.nil) | (with_reducible apply Pulled.cons) | (with_reducible exact Took.here) | (with_reducible apply Took.next))); refine And.intro ?_ ?_; (first | exact True.intro | omega | (simp only [hearL_len]; omega) | (refine ⟨⟨?_, ?_⟩, ?_, ?_⟩ <;> first | exact True.intro | omega | assumption | (simp only [hearL_len]; omega) | (refine Nat.le_trans (lateK_len _ _ _ _) ?_; (try simp only [hearL_len]); omega) | (exact hearL_near _ _ _ _ _ (by assumption)) | (simp <;> fail) | (simp; omega) | exact nearK1 | exact nearK2) | (refine ⟨?_, ?_, ?_⟩ <;> first | exact True.intro | omega | assumption | (simp only [hearL_len]; omega) | (refine Nat.le_trans (lateK_len _ _ _ _) ?_; (try simp only [hearL_len]); omega) | (exact hearL_near _ _ _ _ _ (by assumption)) | (simp <;> fail) | (simp; omega) | exact nearK1 | exact nearK2) | (refine ⟨?_, ?_⟩ <;> first | exact True.intro | omega | assumption | (simp only [hearL_len]; omega) | (refine Nat.le_trans (lateK_len _ _ _ _) ?_; (try simp only [hearL_len]); omega) | (exact hearL_near _ _ _ _ _ (by assumption)) | (simp <;> fail) | (simp; omega) | exact nearK1 | exact nearK2) | assumption | (simp <;> fail) | (simp; omega)); rintro d rfl) | (apply DOp.callq_ rfl rfl (h := epoch_dc _ _ _ _ _ _ _); (repeat (first | exact Les.nil | refine Les.cons le.rfl_ ?_ | refine Les.cons (le.gs rfl) ?_ | refine Les.cons (le.gs List.map_nil.symm) ?_)); (repeat (first | (with_reducible exact Pulled.nil) | (with_reducible apply Pulled.cons) | (with_reducible exact Took.here) | (with_reducible apply Took.next))); refine And.intro ?_ ?_; (first | exact True.intro | omega | (simp only [hearL_len]; omega) | (refine ⟨⟨?_, ?_⟩, ?_, ?_⟩ <;> first | exact True.intro | omega | assumption | (simp only [hearL_len]; omega) | (refine Nat.le_trans (lateK_len _ _ _ _) ?_; (try simp only [hearL_len]); omega) | (exact hearL_near _ _ _ _ _ (by assumption)) | (simp <;> fail) | (simp; omega) | exact nearK1 | exact nearK2) | (refine ⟨?_, ?_, ?_⟩ <;> first | exact True.intro | omega | assumption | (simp only [hearL_len]; omega) | (refine Nat.le_trans (lateK_len _ _ _ _) ?_; (try simp only [hearL_len]); omega) | (exact hearL_near _ _ _ _ _ (by assumption)) | (simp <;> fail) | (simp; omega) | exact nearK1 | exact nearK2) | (refine ⟨?_, ?_⟩ <;> first | exact True.intro | omega | assumption | (simp only [hearL_len]; omega) | (refine Nat.le_trans (lateK_len _ _ _ _) ?_; (try simp only [hearL_len]); omega) | (exact hearL_near _ _ _ _ _ (by assumption)) | (simp <;> fail) | (simp; omega) | exact nearK1 | exact nearK2) | assumption | (simp <;> fail) | (simp; omega)); rintro d rfl) | (refine DOp.alloc_ rfl ?_) | (refine DOp.box_ rfl ?_) | (refine DOp.list_ rfl ?_) | (refine DOp.store_ rfl rfl ?_; (repeat (first | (with_reducible refine OnB.here ?_) | (with_reducible refine OnB.mid ?_) | (with_reducible refine OnB.next ?_)))) | (refine DOp.load_ rfl rfl ?_; (repeat (first | (with_reducible refine OnB.here ?_) | (with_reducible refine OnB.mid ?_) | (with_reducible refine OnB.next ?_)))) | (refine DOp.loada_ rfl rfl ?_; (repeat (first | (with_reducible refine OnA.here ?_) | (with_reducible refine OnA.next ?_)))) | (refine DOp.storea_ rfl rfl ?_; (repeat (first | (with_reducible refine OnA.here ?_) | (with_reducible refine OnA.next ?_)))) | (refine DOp.appa_ rfl rfl rfl ?_; (repeat (first | (with_reducible refine OnA.here ?_) | (with_reducible refine OnA.next ?_)))) | (refine DOp.appz_ rfl rfl rfl ?_; (repeat (first | (with_reducible refine OnT.here ?_) | (with_reducible refine OnT.next ?_)))) | (refine DOp.append0_ rfl rfl rfl ?_) | (refine DOp.make_ rfl rfl rfl ?_) | (refine DOp.make0_ rfl rfl rfl ?_)))) <;> (simp (maxSteps := 1000000) (disch := omega) only [push_cast, ↓reduceIte, reduceCtorEq, Nat.reduceAdd, Nat.reduceMul, Nat.reduceLT, Nat.reduceLeDiff, Nat.reduceEqDiff, Nat.reduceSub, Int.reduceToNat, Int.reduceLT, Int.reduceLE, Int.reduceAdd, Int.reduceSub, Int.reduceMul, Int.reduceNeg, Nat.reduceBEq, Int.reduceBEq, Int.reduceBNe, Nat.reduceBNe, Int.reduceEq, encF, knN, kn0, kn00, kn1, kn2, kn3, kn4, kn5, kn6, kn7, kn8, kn9, kn10, kn11, Int.reduceBEq, Int.reduceBNe, viewO]))
    | with_reducible intro b)
  (refine ⟨_, _, ?_, ⟨rfl, rfl⟩, ?_⟩; (first | exact le.rfl_ | exact le.gs rfl | refine le.of_eq ?_ | refine le.gs ?_); rotate_left; (repeat (first | (with_reducible exact SubP.refl) | (with_reducible exact SubP.nil) | (with_reducible refine SubP.pick ?_) | (with_reducible refine Out.here ?_) | (with_reducible refine Out.next ?_) | (with_reducible refine SubP.drop ?_))))
  all_goals rfl
end Go.Proofs.Ytdplieimkphneaa
