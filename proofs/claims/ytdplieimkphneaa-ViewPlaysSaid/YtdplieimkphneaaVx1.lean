/- Times and fences. -/
import Derived.Test.YtdplieimkphneaaEn
import Derived.KernelRfl
namespace Go.Proofs.Ytdplieimkphneaa
open Go.RowKit
set_option linter.unusedSimpArgs false
set_option linter.unusedVariables false
set_option linter.unusedSectionVars false
set_option maxHeartbeats 4000000
set_option maxRecDepth 100000

def nearZ (now : Int) : Int := min (max now (-1099511627776)) 1099511627776
theorem nearZ_lo (n : Int) : -1099511627776 ≤ nearZ n := by unfold nearZ; omega
theorem nearZ_hi (n : Int) : nearZ n ≤ 1099511627776 := by unfold nearZ; omega
def encF (f : Int × Int) : V := .agg [.int .i64 f.1, .int .i64 f.2]
def fencedB (l : List (Int × Int)) (node epoch : Int) : Bool := l.any fun f => f.1 == node && decide (epoch ≤ f.2)
theorem fenced_more (l : List (Int × Int)) (node epoch : Int) (k : Nat) (h : k < l.length) : fencedB (l.take (k + 1)) node epoch = (fencedB (l.take k) node epoch || ((l.getD k default).1 == node && decide (epoch ≤ (l.getD k default).2))) := by
  simp only [fencedB, List.take_add_one, List.any_append, List.getElem?_eq_getElem h, Option.toList_some, List.any_cons, List.any_nil, Bool.or_false, List.getD_eq_getElem?_getD, Option.getD_some]
theorem fenced_next (l : List (Int × Int)) (node epoch : Int) (k : Nat) (h : k < l.length) (hf : fencedB (l.take k) node epoch = false) (hn : (l.getD k default).1 = node → (l.getD k default).2 < epoch) : fencedB (l.take (k + 1)) node epoch = false := by
  rw [fenced_more _ _ _ _ h, hf, Bool.false_or, Bool.and_eq_false_iff]
  by_cases h1 : (l.getD k default).1 = node
  · exact .inr (by simpa using hn h1)
  · exact .inl (by simpa using h1)
theorem fenced_all (l : List (Int × Int)) (node epoch : Int) (k : Nat) (hk : k < l.length) (h1 : (l.getD k default).1 = node) (h2 : epoch ≤ (l.getD k default).2) : fencedB l node epoch = true := by
  unfold fencedB
  rw [List.any_eq_true]
  refine ⟨l[k], List.getElem_mem hk, ?_⟩
  simp [List.getD_eq_getElem?_getD, hk] at h1 h2
  simp [h1, h2]
theorem near_dc (now : Int) (F : Own) : (True) → DC Try.prog 31 [.int .i64 now] (([] : Own) ++ F) fun d G => d = .int .i64 (nearZ now) ∧ G = [] ++ F := by
  intro hA
  refine DC.bodyS (n_ := 6) (show Try.prog.funcs[31]? = some Try.f31 by kernel_rfl) rfl rfl (by rfl) ?_
  simp only [env0, List.cons_append, List.nil_append]
  repeat' (first
    | with_reducible refine DW.sq ?_
    | with_reducible refine DW.block ?_
    | with_reducible refine DW.skip ?_
    | with_reducible refine DW.exit ?_
    | ((with_reducible refine DW.ret ?_))
    | with_reducible refine then_n ?_
    | with_reducible refine then_x ?_
    | with_reducible refine then_r ?_
    | with_reducible refine blk_n ?_
    | with_reducible refine blk_r ?_
    | with_reducible refine blk_x ?_
    | with_reducible refine blk_y (by decide) ?_
    | with_reducible refine Next.go ?_
    | with_reducible refine SeqD.nil ?_
    | with_reducible refine DV.nil ?_
    | ((with_reducible refine And.intro ?_ ?_); (first | exact True.intro | omega | assumption | (simp <;> fail) | (simp; omega) | (refine ⟨?_, ?_⟩ <;> first | omega | assumption | (simp <;> fail) | (simp; omega)) | (refine ⟨?_, ?_, ?_⟩ <;> first | omega | assumption | (simp <;> fail) | (simp; omega))))
    | ((with_reducible refine DW.ct ?_ ?_); (simp only [opd_tmp, opd_const, ofConst, ofConst1, get_cons, Nat.reduceEqDiff, ↓reduceIte, if_true, if_false] <;> fail))
    | ((with_reducible refine DW.cf ?_ ?_); (simp only [opd_tmp, opd_const, ofConst, ofConst1, get_cons, Nat.reduceEqDiff, ↓reduceIte, if_true, if_false] <;> fail))
    | (refine DW.cond (by rfl) (fun hb => ?_) (fun hb => ?_) <;> (try simp only [decide_eq_true_eq, decide_eq_false_iff_not, beq_iff_eq, bne_iff_ne, ne_eq, beq_eq_false_iff_ne, bne_eq_false_iff_eq, Bool.and_eq_true, Bool.and_true, Bool.not_eq_true', Bool.not_eq_false', Int.not_lt, Int.not_le, not_and, Bool.not_eq_eq_eq_not, Bool.not_true, Bool.not_false, tEq, fEq, Bool.not_eq_true, Bool.not_eq_false, Int.reduceBEq, Int.reduceBNe, Int.reduceEq] at hb; try (exfalso; omega)))
    | ((first | ((with_reducible refine DW.regK [0, 2] (by kernel_rfl) ?_); refine SeqD.go (own := []) _ _ ?_) | (with_reducible refine ret_r rfl ?_) | (with_reducible refine ret_n rfl ?_) | ((with_reducible refine FVg_cases (fun hb => ?_) (fun hb => ?_)) <;> (rw [hb]; try simp only [decide_eq_true_eq, decide_eq_false_iff_not, beq_iff_eq, bne_iff_ne, ne_eq, beq_eq_false_iff_ne, bne_eq_false_iff_eq, Bool.and_eq_true, Bool.and_true, Bool.not_eq_true', Bool.not_eq_false', Int.not_lt, Int.not_le, not_and, Bool.not_eq_eq_eq_not, Bool.not_true, Bool.not_false, tEq, fEq, Bool.not_eq_true, Bool.not_eq_false, Int.reduceBEq, Int.reduceBNe, Int.reduceEq] at hb; try (exfalso; omega))) | ((with_reducible first | refine SeqD.opF [] rfl ?_ | refine SeqD.opgF [] rfl rfl ?_); (first | (refine DOp.alloc_ rfl ?_) | (refine DOp.box_ rfl ?_) | (refine DOp.list_ rfl ?_) | (refine DOp.store_ rfl rfl ?_; (repeat (first | (with_reducible refine OnB.here ?_) | (with_reducible refine OnB.mid ?_) | (with_reducible refine OnB.next ?_)))) | (refine DOp.load_ rfl rfl ?_; (repeat (first | (with_reducible refine OnB.here ?_) | (with_reducible refine OnB.mid ?_) | (with_reducible refine OnB.next ?_)))) | (refine DOp.loada_ rfl rfl ?_; (repeat (first | (with_reducible refine OnA.here ?_) | (with_reducible refine OnA.next ?_)))) | (refine DOp.storea_ rfl rfl ?_; (repeat (first | (with_reducible refine OnA.here ?_) | (with_reducible refine OnA.next ?_)))) | (refine DOp.appa_ rfl rfl rfl ?_; (repeat (first | (with_reducible refine OnA.here ?_) | (with_reducible refine OnA.next ?_)))) | (refine DOp.appz_ rfl rfl rfl ?_; (repeat (first | (with_reducible refine OnT.here ?_) | (with_reducible refine OnT.next ?_)))) | (refine DOp.append0_ rfl rfl rfl ?_) | (refine DOp.make_ rfl rfl rfl ?_) | (refine DOp.make0_ rfl rfl rfl ?_)))) <;> (simp (maxSteps := 1000000) (disch := omega) only [push_cast, ↓reduceIte, reduceCtorEq, Nat.reduceAdd, Nat.reduceMul, Nat.reduceLT, Nat.reduceLeDiff, Nat.reduceEqDiff, Nat.reduceSub, Int.reduceToNat, Int.reduceLT, Int.reduceLE, Int.reduceAdd, Int.reduceSub, Int.reduceMul, Int.reduceNeg, Nat.reduceBEq, Int.reduceBEq, Int.reduceBNe, Nat.reduceBNe, Int.reduceEq]))
    | with_reducible intro b)
  (refine ⟨_, _, ?_, ⟨rfl, rfl⟩, ?_⟩; (first | exact le.rfl_ | exact le.gs rfl | refine le.of_eq ?_ | refine le.gs ?_); rotate_left; (repeat (first | (with_reducible exact SubP.refl) | (with_reducible exact SubP.nil) | (with_reducible refine SubP.pick ?_) | (with_reducible refine Out.here ?_) | (with_reducible refine Out.next ?_) | (with_reducible refine SubP.drop ?_))))
  all_goals rfl
theorem time_dc (now : Int) (F : Own) : (True) → DC Try.prog 32 [.int .i64 now] (([] : Own) ++ F) fun d G => d = .int .i64 (nearZ now) ∧ G = [] ++ F := by
  intro hA
  refine DC.bodyS (n_ := 6) (show Try.prog.funcs[32]? = some Try.f32 by kernel_rfl) rfl rfl (by rfl) ?_
  simp only [env0, List.cons_append, List.nil_append]
  repeat' (first
    | with_reducible refine DW.sq ?_
    | with_reducible refine DW.block ?_
    | with_reducible refine DW.skip ?_
    | with_reducible refine DW.exit ?_
    | ((with_reducible refine DW.ret ?_))
    | with_reducible refine then_n ?_
    | with_reducible refine then_x ?_
    | with_reducible refine then_r ?_
    | with_reducible refine blk_n ?_
    | with_reducible refine blk_r ?_
    | with_reducible refine blk_x ?_
    | with_reducible refine blk_y (by decide) ?_
    | with_reducible refine Next.go ?_
    | with_reducible refine SeqD.nil ?_
    | with_reducible refine DV.nil ?_
    | ((with_reducible refine And.intro ?_ ?_); (first | exact True.intro | omega | assumption | (simp <;> fail) | (simp; omega) | (refine ⟨?_, ?_⟩ <;> first | omega | assumption | (simp <;> fail) | (simp; omega)) | (refine ⟨?_, ?_, ?_⟩ <;> first | omega | assumption | (simp <;> fail) | (simp; omega))))
    | ((with_reducible refine DW.ct ?_ ?_); (simp only [opd_tmp, opd_const, ofConst, ofConst1, get_cons, Nat.reduceEqDiff, ↓reduceIte, if_true, if_false] <;> fail))
    | ((with_reducible refine DW.cf ?_ ?_); (simp only [opd_tmp, opd_const, ofConst, ofConst1, get_cons, Nat.reduceEqDiff, ↓reduceIte, if_true, if_false] <;> fail))
    | (refine DW.cond (by rfl) (fun hb => ?_) (fun hb => ?_) <;> (try simp only [decide_eq_true_eq, decide_eq_false_iff_not, beq_iff_eq, bne_iff_ne, ne_eq, beq_eq_false_iff_ne, bne_eq_false_iff_eq, Bool.and_eq_true, Bool.and_true, Bool.not_eq_true', Bool.not_eq_false', Int.not_lt, Int.not_le, not_and, Bool.not_eq_eq_eq_not, Bool.not_true, Bool.not_false, tEq, fEq, Bool.not_eq_true, Bool.not_eq_false, Int.reduceBEq, Int.reduceBNe, Int.reduceEq] at hb; try (exfalso; omega)))
    | ((first | ((with_reducible refine DW.regK [0, 2] (by kernel_rfl) ?_); refine SeqD.go (own := []) _ _ ?_) | (with_reducible refine ret_r rfl ?_) | (with_reducible refine ret_n rfl ?_) | ((with_reducible refine FVg_cases (fun hb => ?_) (fun hb => ?_)) <;> (rw [hb]; try simp only [decide_eq_true_eq, decide_eq_false_iff_not, beq_iff_eq, bne_iff_ne, ne_eq, beq_eq_false_iff_ne, bne_eq_false_iff_eq, Bool.and_eq_true, Bool.and_true, Bool.not_eq_true', Bool.not_eq_false', Int.not_lt, Int.not_le, not_and, Bool.not_eq_eq_eq_not, Bool.not_true, Bool.not_false, tEq, fEq, Bool.not_eq_true, Bool.not_eq_false, Int.reduceBEq, Int.reduceBNe, Int.reduceEq] at hb; try (exfalso; omega))) | ((with_reducible first | refine SeqD.opF [] rfl ?_ | refine SeqD.opgF [] rfl rfl ?_); (first | (refine DOp.alloc_ rfl ?_) | (refine DOp.box_ rfl ?_) | (refine DOp.list_ rfl ?_) | (refine DOp.store_ rfl rfl ?_; (repeat (first | (with_reducible refine OnB.here ?_) | (with_reducible refine OnB.mid ?_) | (with_reducible refine OnB.next ?_)))) | (refine DOp.load_ rfl rfl ?_; (repeat (first | (with_reducible refine OnB.here ?_) | (with_reducible refine OnB.mid ?_) | (with_reducible refine OnB.next ?_)))) | (refine DOp.loada_ rfl rfl ?_; (repeat (first | (with_reducible refine OnA.here ?_) | (with_reducible refine OnA.next ?_)))) | (refine DOp.storea_ rfl rfl ?_; (repeat (first | (with_reducible refine OnA.here ?_) | (with_reducible refine OnA.next ?_)))) | (refine DOp.appa_ rfl rfl rfl ?_; (repeat (first | (with_reducible refine OnA.here ?_) | (with_reducible refine OnA.next ?_)))) | (refine DOp.appz_ rfl rfl rfl ?_; (repeat (first | (with_reducible refine OnT.here ?_) | (with_reducible refine OnT.next ?_)))) | (refine DOp.append0_ rfl rfl rfl ?_) | (refine DOp.make_ rfl rfl rfl ?_) | (refine DOp.make0_ rfl rfl rfl ?_)))) <;> (simp (maxSteps := 1000000) (disch := omega) only [push_cast, ↓reduceIte, reduceCtorEq, Nat.reduceAdd, Nat.reduceMul, Nat.reduceLT, Nat.reduceLeDiff, Nat.reduceEqDiff, Nat.reduceSub, Int.reduceToNat, Int.reduceLT, Int.reduceLE, Int.reduceAdd, Int.reduceSub, Int.reduceMul, Int.reduceNeg, Nat.reduceBEq, Int.reduceBEq, Int.reduceBNe, Nat.reduceBNe, Int.reduceEq]))
    | with_reducible intro b)
  (refine ⟨_, _, ?_, ⟨rfl, rfl⟩, ?_⟩; (first | exact le.rfl_ | exact le.gs rfl | refine le.of_eq ?_ | refine le.gs ?_); rotate_left; (repeat (first | (with_reducible exact SubP.refl) | (with_reducible exact SubP.nil) | (with_reducible refine SubP.pick ?_) | (with_reducible refine Out.here ?_) | (with_reducible refine Out.next ?_) | (with_reducible refine SubP.drop ?_))))
  all_goals rfl
theorem fenced_dc (l : List (Int × Int)) (node epoch : Int) (F : Own) : (l.length ≤ 1000000000000000) → DC Try.prog 33 [.sl (l.map encF), .int .i64 node, .int .i64 epoch] (([] : Own) ++ F) fun d G => d = .bool (fencedB l node epoch) ∧ G = [] ++ F := by
  intro hA
  have hl := hA
  refine DC.bodyS (n_ := 26) (show Try.prog.funcs[33]? = some Try.f33 by kernel_rfl) rfl rfl (by rfl) ?_
  simp only [env0, List.cons_append, List.nil_append]
  repeat' (first
    | ((with_reducible refine DW.loopB 0 (X := Nat) (fun x => x ≤ l.length ∧ fencedB (l.take x) node epoch = false) (fun x => [(1, .int .i64 node), (2, .int .i64 epoch), (9, .sl (l.map encF)), (10, .int .i64 l.length), (11, .int .i64 x)]) (fun x => ([] : Own)) (fun x => l.length - x) (0) ?_ ?_ ?_); exact (⟨Nat.zero_le _, rfl⟩); (simp [Sub, get, keepL] <;> fail); (try simp only [List.cons_append, List.nil_append]); (repeat (first | (with_reducible refine Pull.nil ?_) | (with_reducible refine Pull.cons ?_) | (with_reducible refine Out.here ?_) | (with_reducible refine Out.next ?_))); intro k ⟨hk, hf⟩; (try simp only [List.cons_append, List.nil_append]))
    | with_reducible refine DW.sq ?_
    | with_reducible refine DW.block ?_
    | with_reducible refine DW.skip ?_
    | with_reducible refine DW.exit ?_
    | ((with_reducible refine DW.ret ?_))
    | with_reducible refine then_n ?_
    | with_reducible refine then_x ?_
    | with_reducible refine then_r ?_
    | with_reducible refine blk_n ?_
    | with_reducible refine blk_r ?_
    | with_reducible refine blk_x ?_
    | with_reducible refine blk_y (by decide) ?_
    | with_reducible refine Next.go ?_
    | with_reducible refine SeqD.nil ?_
    | with_reducible refine DV.nil ?_
    | ((with_reducible refine And.intro ?_ ?_); (first | exact True.intro | omega | assumption | (simp <;> fail) | (simp; omega) | (refine ⟨?_, ?_⟩ <;> first | omega | assumption | (simp <;> fail) | (simp; omega)) | (refine ⟨?_, ?_, ?_⟩ <;> first | omega | assumption | (simp <;> fail) | (simp; omega))))
    | ((with_reducible refine DW.ct ?_ ?_); (simp only [opd_tmp, opd_const, ofConst, ofConst1, get_cons, Nat.reduceEqDiff, ↓reduceIte, if_true, if_false] <;> fail))
    | ((with_reducible refine DW.cf ?_ ?_); (simp only [opd_tmp, opd_const, ofConst, ofConst1, get_cons, Nat.reduceEqDiff, ↓reduceIte, if_true, if_false] <;> fail))
    | (refine DW.cond (by rfl) (fun hb => ?_) (fun hb => ?_) <;> (try simp only [decide_eq_true_eq, decide_eq_false_iff_not, beq_iff_eq, bne_iff_ne, ne_eq, beq_eq_false_iff_ne, bne_eq_false_iff_eq, Bool.and_eq_true, Bool.and_true, Bool.not_eq_true', Bool.not_eq_false', Int.not_lt, Int.not_le, not_and, Bool.not_eq_eq_eq_not, Bool.not_true, Bool.not_false, tEq, fEq, Bool.not_eq_true, Bool.not_eq_false, Int.reduceBEq, Int.reduceBNe, Int.reduceEq] at hb; try (exfalso; omega)))
    | ((first | ((with_reducible refine DW.regK [0, 1, 2, 6, 8, 9, 10, 11, 12, 24] (by kernel_rfl) ?_); refine SeqD.go (own := []) _ _ ?_) | (with_reducible refine ret_r rfl ?_) | (with_reducible refine ret_n rfl ?_) | ((with_reducible refine FVg_cases (fun hb => ?_) (fun hb => ?_)) <;> (rw [hb]; try simp only [decide_eq_true_eq, decide_eq_false_iff_not, beq_iff_eq, bne_iff_ne, ne_eq, beq_eq_false_iff_ne, bne_eq_false_iff_eq, Bool.and_eq_true, Bool.and_true, Bool.not_eq_true', Bool.not_eq_false', Int.not_lt, Int.not_le, not_and, Bool.not_eq_eq_eq_not, Bool.not_true, Bool.not_false, tEq, fEq, Bool.not_eq_true, Bool.not_eq_false, Int.reduceBEq, Int.reduceBNe, Int.reduceEq] at hb; try (exfalso; omega))) | ((with_reducible first | refine SeqD.opF [] rfl ?_ | refine SeqD.opgF [] rfl rfl ?_); (first | (refine DOp.alloc_ rfl ?_) | (refine DOp.box_ rfl ?_) | (refine DOp.list_ rfl ?_) | (refine DOp.store_ rfl rfl ?_; (repeat (first | (with_reducible refine OnB.here ?_) | (with_reducible refine OnB.mid ?_) | (with_reducible refine OnB.next ?_)))) | (refine DOp.load_ rfl rfl ?_; (repeat (first | (with_reducible refine OnB.here ?_) | (with_reducible refine OnB.mid ?_) | (with_reducible refine OnB.next ?_)))) | (refine DOp.loada_ rfl rfl ?_; (repeat (first | (with_reducible refine OnA.here ?_) | (with_reducible refine OnA.next ?_)))) | (refine DOp.storea_ rfl rfl ?_; (repeat (first | (with_reducible refine OnA.here ?_) | (with_reducible refine OnA.next ?_)))) | (refine DOp.appa_ rfl rfl rfl ?_; (repeat (first | (with_reducible refine OnA.here ?_) | (with_reducible refine OnA.next ?_)))) | (refine DOp.appz_ rfl rfl rfl ?_; (repeat (first | (with_reducible refine OnT.here ?_) | (with_reducible refine OnT.next ?_)))) | (refine DOp.append0_ rfl rfl rfl ?_) | (refine DOp.make_ rfl rfl rfl ?_) | (refine DOp.make0_ rfl rfl rfl ?_)))) <;> (simp (maxSteps := 1000000) (disch := omega) only [push_cast, ↓reduceIte, reduceCtorEq, Nat.reduceAdd, Nat.reduceMul, Nat.reduceLT, Nat.reduceLeDiff, Nat.reduceEqDiff, Nat.reduceSub, Int.reduceToNat, Int.reduceLT, Int.reduceLE, Int.reduceAdd, Int.reduceSub, Int.reduceMul, Int.reduceNeg, Nat.reduceBEq, Int.reduceBEq, Int.reduceBNe, Nat.reduceBNe, Int.reduceEq, encF]))
    | with_reducible intro b)
  all_goals first
  | ((refine ⟨_, _, ?_, ⟨rfl, rfl⟩, ?_⟩; (first | exact le.rfl_ | exact le.gs rfl | refine le.of_eq ?_ | refine le.gs ?_); rotate_left; (repeat (first | (with_reducible exact SubP.refl) | (with_reducible exact SubP.nil) | (with_reducible refine SubP.pick ?_) | (with_reducible refine Out.here ?_) | (with_reducible refine Out.next ?_) | (with_reducible refine SubP.drop ?_)))); exact congrArg V.bool (fenced_all l node epoch k (by omega) (by assumption) (by assumption)).symm)
  | (refine ⟨k + 1, ⟨by omega, fenced_next _ _ _ _ (by omega) hf fun h => by first | assumption | exact absurd h (by assumption)⟩, by omega, by simp [Sub, get], ?_⟩; repeat (first | (with_reducible exact SubP.refl) | (with_reducible exact SubP.nil) | (with_reducible refine SubP.pick ?_) | (with_reducible refine Out.here ?_) | (with_reducible refine Out.next ?_) | (with_reducible refine SubP.drop ?_)))
  | ((refine ⟨_, _, ?_, ⟨rfl, rfl⟩, ?_⟩; (first | exact le.rfl_ | exact le.gs rfl | refine le.of_eq ?_ | refine le.gs ?_); rotate_left; (repeat (first | (with_reducible exact SubP.refl) | (with_reducible exact SubP.nil) | (with_reducible refine SubP.pick ?_) | (with_reducible refine Out.here ?_) | (with_reducible refine Out.next ?_) | (with_reducible refine SubP.drop ?_)))); rw [← hf, List.take_of_length_le (by omega)])
theorem rfenced_dc (l : List (Int × Int)) (node epoch : Int) (F : Own) : (l.length ≤ 1000000000000000) → DC Try.prog 34 [.sl (l.map encF), .int .i64 node, .int .i64 epoch] (([] : Own) ++ F) fun d G => d = .bool (fencedB l node epoch) ∧ G = [] ++ F := by
  intro hA
  have hl := hA
  refine DC.bodyS (n_ := 30) (show Try.prog.funcs[34]? = some Try.f34 by kernel_rfl) rfl rfl (by rfl) ?_
  simp only [env0, List.cons_append, List.nil_append]
  repeat' (first
    | ((with_reducible refine DW.loopB 0 (X := Nat) (fun x => x ≤ l.length ∧ fencedB (l.take x) node epoch = false) (fun x => [(0, .sl (l.map encF)), (1, .int .i64 node), (2, .int .i64 epoch), (7, .int .i64 x)]) (fun x => ([] : Own)) (fun x => l.length - x) (0) ?_ ?_ ?_); exact (⟨Nat.zero_le _, rfl⟩); (simp [Sub, get, keepL] <;> fail); (try simp only [List.cons_append, List.nil_append]); (repeat (first | (with_reducible refine Pull.nil ?_) | (with_reducible refine Pull.cons ?_) | (with_reducible refine Out.here ?_) | (with_reducible refine Out.next ?_))); intro k ⟨hk, hf⟩; (try simp only [List.cons_append, List.nil_append]))
    | with_reducible refine DW.sq ?_
    | with_reducible refine DW.block ?_
    | with_reducible refine DW.skip ?_
    | with_reducible refine DW.exit ?_
    | ((with_reducible refine DW.ret ?_))
    | with_reducible refine then_n ?_
    | with_reducible refine then_x ?_
    | with_reducible refine then_r ?_
    | with_reducible refine blk_n ?_
    | with_reducible refine blk_r ?_
    | with_reducible refine blk_x ?_
    | with_reducible refine blk_y (by decide) ?_
    | with_reducible refine Next.go ?_
    | with_reducible refine SeqD.nil ?_
    | with_reducible refine DV.nil ?_
    | ((with_reducible refine And.intro ?_ ?_); (first | exact True.intro | omega | assumption | (simp <;> fail) | (simp; omega) | (refine ⟨?_, ?_⟩ <;> first | omega | assumption | (simp <;> fail) | (simp; omega)) | (refine ⟨?_, ?_, ?_⟩ <;> first | omega | assumption | (simp <;> fail) | (simp; omega))))
    | ((with_reducible refine DW.ct ?_ ?_); (simp only [opd_tmp, opd_const, ofConst, ofConst1, get_cons, Nat.reduceEqDiff, ↓reduceIte, if_true, if_false] <;> fail))
    | ((with_reducible refine DW.cf ?_ ?_); (simp only [opd_tmp, opd_const, ofConst, ofConst1, get_cons, Nat.reduceEqDiff, ↓reduceIte, if_true, if_false] <;> fail))
    | (refine DW.cond (by rfl) (fun hb => ?_) (fun hb => ?_) <;> (try simp only [decide_eq_true_eq, decide_eq_false_iff_not, beq_iff_eq, bne_iff_ne, ne_eq, beq_eq_false_iff_ne, bne_eq_false_iff_eq, Bool.and_eq_true, Bool.and_true, Bool.not_eq_true', Bool.not_eq_false', Int.not_lt, Int.not_le, not_and, Bool.not_eq_eq_eq_not, Bool.not_true, Bool.not_false, tEq, fEq, Bool.not_eq_true, Bool.not_eq_false, Int.reduceBEq, Int.reduceBNe, Int.reduceEq] at hb; try (exfalso; omega)))
    | ((first | ((with_reducible refine DW.regK [0, 1, 2, 6, 7, 11, 29] (by kernel_rfl) ?_); refine SeqD.go (own := []) _ _ ?_) | (with_reducible refine ret_r rfl ?_) | (with_reducible refine ret_n rfl ?_) | ((with_reducible refine FVg_cases (fun hb => ?_) (fun hb => ?_)) <;> (rw [hb]; try simp only [decide_eq_true_eq, decide_eq_false_iff_not, beq_iff_eq, bne_iff_ne, ne_eq, beq_eq_false_iff_ne, bne_eq_false_iff_eq, Bool.and_eq_true, Bool.and_true, Bool.not_eq_true', Bool.not_eq_false', Int.not_lt, Int.not_le, not_and, Bool.not_eq_eq_eq_not, Bool.not_true, Bool.not_false, tEq, fEq, Bool.not_eq_true, Bool.not_eq_false, Int.reduceBEq, Int.reduceBNe, Int.reduceEq] at hb; try (exfalso; omega))) | ((with_reducible first | refine SeqD.opF [] rfl ?_ | refine SeqD.opgF [] rfl rfl ?_); (first | (refine DOp.alloc_ rfl ?_) | (refine DOp.box_ rfl ?_) | (refine DOp.list_ rfl ?_) | (refine DOp.store_ rfl rfl ?_; (repeat (first | (with_reducible refine OnB.here ?_) | (with_reducible refine OnB.mid ?_) | (with_reducible refine OnB.next ?_)))) | (refine DOp.load_ rfl rfl ?_; (repeat (first | (with_reducible refine OnB.here ?_) | (with_reducible refine OnB.mid ?_) | (with_reducible refine OnB.next ?_)))) | (refine DOp.loada_ rfl rfl ?_; (repeat (first | (with_reducible refine OnA.here ?_) | (with_reducible refine OnA.next ?_)))) | (refine DOp.storea_ rfl rfl ?_; (repeat (first | (with_reducible refine OnA.here ?_) | (with_reducible refine OnA.next ?_)))) | (refine DOp.appa_ rfl rfl rfl ?_; (repeat (first | (with_reducible refine OnA.here ?_) | (with_reducible refine OnA.next ?_)))) | (refine DOp.appz_ rfl rfl rfl ?_; (repeat (first | (with_reducible refine OnT.here ?_) | (with_reducible refine OnT.next ?_)))) | (refine DOp.append0_ rfl rfl rfl ?_) | (refine DOp.make_ rfl rfl rfl ?_) | (refine DOp.make0_ rfl rfl rfl ?_)))) <;> (simp (maxSteps := 1000000) (disch := omega) only [push_cast, ↓reduceIte, reduceCtorEq, Nat.reduceAdd, Nat.reduceMul, Nat.reduceLT, Nat.reduceLeDiff, Nat.reduceEqDiff, Nat.reduceSub, Int.reduceToNat, Int.reduceLT, Int.reduceLE, Int.reduceAdd, Int.reduceSub, Int.reduceMul, Int.reduceNeg, Nat.reduceBEq, Int.reduceBEq, Int.reduceBNe, Nat.reduceBNe, Int.reduceEq, encF]))
    | with_reducible intro b)
  all_goals first
  | ((refine ⟨_, _, ?_, ⟨rfl, rfl⟩, ?_⟩; (first | exact le.rfl_ | exact le.gs rfl | refine le.of_eq ?_ | refine le.gs ?_); rotate_left; (repeat (first | (with_reducible exact SubP.refl) | (with_reducible exact SubP.nil) | (with_reducible refine SubP.pick ?_) | (with_reducible refine Out.here ?_) | (with_reducible refine Out.next ?_) | (with_reducible refine SubP.drop ?_)))); exact congrArg V.bool (fenced_all l node epoch k (by omega) (by assumption) (by assumption)).symm)
  | (refine ⟨k + 1, ⟨by omega, fenced_next _ _ _ _ (by omega) hf fun h => by first | assumption | exact absurd h (by assumption)⟩, by omega, by simp [Sub, get], ?_⟩; repeat (first | (with_reducible exact SubP.refl) | (with_reducible exact SubP.nil) | (with_reducible refine SubP.pick ?_) | (with_reducible refine Out.here ?_) | (with_reducible refine Out.next ?_) | (with_reducible refine SubP.drop ?_)))
  | ((refine ⟨_, _, ?_, ⟨rfl, rfl⟩, ?_⟩; (first | exact le.rfl_ | exact le.gs rfl | refine le.of_eq ?_ | refine le.gs ?_); rotate_left; (repeat (first | (with_reducible exact SubP.refl) | (with_reducible exact SubP.nil) | (with_reducible refine SubP.pick ?_) | (with_reducible refine Out.here ?_) | (with_reducible refine Out.next ?_) | (with_reducible refine SubP.drop ?_)))); rw [← hf, List.take_of_length_le (by omega)])
end Go.Proofs.Ytdplieimkphneaa
