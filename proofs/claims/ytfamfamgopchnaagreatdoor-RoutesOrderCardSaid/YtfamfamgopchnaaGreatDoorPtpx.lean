/- The order of routes. -/
import Derived.Test.YtfamfamgopchnaaGreatDoorPtnx
import Derived.KernelRfl
namespace Go.Proofs.YtfamfamgopchnaaGreatDoor
open Go.RowKit
set_option linter.unusedSimpArgs false
set_option linter.unusedVariables false
set_option linter.unusedSectionVars false
set_option maxHeartbeats 4000000
set_option maxRecDepth 100000
attribute [local irreducible] DW SeqD DV DOp DC DVX


def filtOL : List Str := [[97], [35], [97, 47, 43], [43, 47, 98], [97, 47, 35], [98, 47, 99], [36, 115, 47, 35], [43], [43, 47, 43], [195, 169, 47, 35]]
def filtO (k : Int) : Str := filtOL.getD (k.tmod 10).toNat default
theorem rb_asym {a b : TRoute} (h : rbefore a b = true) : rbefore b a = false := by
  cases e : rbefore b a with
  | false => rfl
  | true => have := rbefore_trans a b a h e; rw [rbefore_irrefl] at this; cases this
theorem rb_not {a b : TRoute} (h : rbefore a b = true) : ¬ rbefore b a = true := fun h' => by rw [rb_asym h] at h'; cases h'
theorem filtO_dc (k : Int) (F : Own) : (0 ≤ k ∧ k ≤ 255) → DC Tryz.prog 18 [.int .u8 k] (([] : Own) ++ F) fun d G => d = .str (filtO k) ∧ G = [] ++ F := by
  intro hA
  obtain ⟨h0, h1⟩ := hA
  refine DC.bodyS (n_ := 8) (show Tryz.prog.funcs[18]? = some Tryz.f18 by kernel_rfl) rfl rfl (by rfl) ?_
  simp only [env0, List.cons_append, List.nil_append]
  have q0 := Int.tmod_nonneg 10 h0; have q1 := Int.tmod_lt_of_pos k (show (0 : Int) < 10 by decide)
  rcases (show k.tmod 10 = 0 ∨ k.tmod 10 = 1 ∨ k.tmod 10 = 2 ∨ k.tmod 10 = 3 ∨ k.tmod 10 = 4 ∨ k.tmod 10 = 5 ∨ k.tmod 10 = 6 ∨ k.tmod 10 = 7 ∨ k.tmod 10 = 8 ∨ k.tmod 10 = 9 by omega) with hkm | hkm | hkm | hkm | hkm | hkm | hkm | hkm | hkm | hkm
  repeat' (first
    | with_reducible first | refine DW.sq ?_ | refine DW.block ?_ | refine DW.skip ?_ | refine DW.exit ?_
    | ((with_reducible refine DW.ret ?_))
    | with_reducible first | refine then_n ?_ | refine then_x ?_ | refine then_r ?_ | refine blk_n ?_ | refine blk_r ?_ | refine blk_x ?_
    | with_reducible refine blk_y (by decide) ?_
    | with_reducible first | refine Next.go ?_ | refine SeqD.nil ?_ | refine DV.nil ?_
    | ((with_reducible refine And.intro ?_ ?_); (exact sv))
    | with_reducible first | refine DW.ct_ ?_ | refine DW.cf_ ?_
    | (refine DW.cond (by rfl) (fun hb => ?_) (fun hb => ?_) <;> (try simp only [hbs, Int.reduceBEq, Int.reduceBNe, Int.reduceEq] at hb; try (exfalso; omega)))
    | ((first | ((with_reducible refine DW.regK [0, 2] (by kernel_rfl) ?_); refine SeqD.go (own := []) _ _ ?_) | ((first | refine Both.imp (fun hb => ?_) (fun hb => ?_) | (with_reducible first | refine FVg_cases (fun hb => ?_) (fun hb => ?_) | refine FDg_cases (fun hb => ?_) (fun hb => ?_)) <;> rw [hb]) <;> (try simp only [hbs, Int.reduceBEq, Int.reduceBNe, Int.reduceEq] at hb; try (exfalso; omega))) | (with_reducible refine ret_r rfl ?_) | ((refine ret_c [.tmp 2] (by rfl) ?_); (try (refine RetK_cell _ _ _ _ _ _ rfl ?_; (repeat (with_reducible first | refine OnB.here ?_ | refine OnB.mid ?_ | refine OnB.next ?_))))) | ((refine RetK_cell _ _ _ _ _ _ rfl ?_); (repeat (with_reducible first | refine OnB.here ?_ | refine OnB.mid ?_ | refine OnB.next ?_))) | (with_reducible refine ret_n rfl ?_) | (first | (refine DOp.list_ rfl ?_) | (refine DOp.load_ rfl rfl ?_; (repeat (with_reducible first | refine OnB.here ?_ | refine OnB.mid ?_ | refine OnB.next ?_))) | (refine DOp.loada_ rfl rfl ?_; (repeat (with_reducible first | refine OnA.here ?_ | refine OnA.next ?_))))) <;> (simp (maxSteps := 1000000) (disch := omega) only [push_cast, ↓reduceIte, reduceCtorEq, Nat.reduceAdd, Nat.reduceMul, Nat.reduceLT, Nat.reduceLeDiff, Nat.reduceEqDiff, Nat.reduceSub, Int.reduceToNat, Int.reduceLT, Int.reduceLE, Int.reduceAdd, Int.reduceSub, Int.reduceMul, Int.reduceNeg, Nat.reduceBEq, Int.reduceBEq, Int.reduceBNe, Nat.reduceBNe, Int.reduceEq, hkm]))
    | (with_reducible first | refine SeqD.opF [] rfl ?_ | refine SeqD.opgF [] rfl rfl ?_)
    | with_reducible intro b)
  all_goals (refine ⟨_, _, le.of_eq ?_, ⟨rfl, rfl⟩, SubP.refl⟩; rw [filtO, hkm]; rfl)
theorem routesOrder_dc (a1 a2 a3 : Int) (f1 : Str) (b1 b2 b3 : Int) (f2 : Str) (x1 y1 : Int) (m : Int) (F : Own) : ((0 ≤ x1 ∧ x1 ≤ 255) ∧ (0 ≤ y1 ∧ y1 ≤ 255)) → DC Tryz.prog 4 [.agg [.int .i64 a1, .int .i64 a2, .int .i64 a3, .str f1], .agg [.int .i64 b1, .int .i64 b2, .int .i64 b3, .str f2], .int .u8 x1, .int .u8 y1] ([knF, knA, knM m] ++ F) fun d G => d = .bool true ∧ G = [knF, knA, knM m] ++ F := by
  intro hA
  obtain ⟨⟨h1, h2⟩, ⟨h3, h4⟩⟩ := hA
  refine DC.bodyS (n_ := 91) (show Tryz.prog.funcs[4]? = some Tryz.f4 by kernel_rfl) rfl rfl (by rfl) ?_
  simp only [env0, List.cons_append, List.nil_append]
  repeat' (first
    | ((with_reducible apply DW.frzB 7 9); (focus (exact rfl)); (repeat (with_reducible first | refine Out.here ?_ | refine Out.next ?_)); simp only [put_cons, put_nil, Nat.reduceEqDiff, ↓reduceIte, if_true, if_false, reduceCtorEq])
    | ((with_reducible apply DW.frzB 7 10); (focus (exact rfl)); (repeat (with_reducible first | refine Out.here ?_ | refine Out.next ?_)); simp only [put_cons, put_nil, Nat.reduceEqDiff, ↓reduceIte, if_true, if_false, reduceCtorEq])
    | with_reducible first | refine DW.sq ?_ | refine DW.block ?_ | refine DW.skip ?_ | refine DW.exit ?_
    | ((with_reducible refine DW.ret ?_))
    | with_reducible first | refine then_n ?_ | refine then_x ?_ | refine then_r ?_ | refine blk_n ?_ | refine blk_r ?_ | refine blk_x ?_
    | with_reducible refine blk_y (by decide) ?_
    | with_reducible first | refine Next.go ?_ | refine SeqD.nil ?_ | refine DV.nil ?_
    | ((with_reducible refine And.intro ?_ ?_); (exact sv))
    | with_reducible first | refine DW.ct_ ?_ | refine DW.cf_ ?_
    | (refine DW.cond (by rfl) (fun hb => ?_) (fun hb => ?_) <;> (try simp only [hbs, Int.reduceBEq, Int.reduceBNe, Int.reduceEq] at hb; try (exfalso; omega)))
    | ((first | ((with_reducible refine DW.regK [0, 1, 2, 3, 4, 5, 8, 9, 10, 12, 22] (by kernel_rfl) ?_); refine SeqD.go (own := []) _ _ ?_) | ((with_reducible refine DW.drawK (id := 7) [0, 1, 2, 3, 4, 5, 8, 9, 10, 12, 22] [] [0, 1, 2, 3, 4, 5, 8, 9, 10, 11, 12, 13, 17, 18, 19, 23, 24, 25, 27, 28, 29, 34, 35, 36, 38, 39, 40, 43, 44] (by kernel_rfl) (by kernel_rfl) (by kernel_rfl) ?_); refine DV.go [0, 1, 2, 3, 4, 5, 8, 9, 10, 11, 12, 13, 17, 18, 19, 23, 24, 25, 27, 28, 29, 34, 35, 36, 38, 39, 40, 43, 44] [] _ _ _ ?_) | ((first | refine Both.imp (fun hb => ?_) (fun hb => ?_) | (with_reducible first | refine FVg_cases (fun hb => ?_) (fun hb => ?_) | refine FDg_cases (fun hb => ?_) (fun hb => ?_)) <;> rw [hb]) <;> (try simp only [hbs, Int.reduceBEq, Int.reduceBNe, Int.reduceEq] at hb; try (exfalso; omega))) | (with_reducible refine ret_r rfl ?_) | ((refine ret_c [.tmp 8] (by rfl) ?_); (try (refine RetK_cell _ _ _ _ _ _ rfl ?_; (repeat (with_reducible first | refine OnB.here ?_ | refine OnB.mid ?_ | refine OnB.next ?_))))) | ((refine RetK_cell _ _ _ _ _ _ rfl ?_); (repeat (with_reducible first | refine OnB.here ?_ | refine OnB.mid ?_ | refine OnB.next ?_))) | (with_reducible refine ret_n rfl ?_) | ((with_reducible first | refine DV.mk rfl ?_ | refine DV.mkg rfl rfl ?_); (first | ((first | apply DVop.callq_ rfl rfl rfl rfl (h1 := known10_dc _ _) | apply DVop.callq_ rfl rfl rfl rfl (h1 := filtO_dc _ _) | apply DVop.callq_ rfl rfl rfl rfl (h1 := prbefore_dc _ _ _ _ _ _ _ _ _) | apply DVop.callq_ rfl rfl rfl rfl (h1 := rbefore_dc _ _ _ _ _ _ _ _ _)); (repeat (first | exact Les.nil | refine Les.cons le.rfl_ ?_ | refine Les.cons (le.gs rfl) ?_ | refine Les.cons (le.gs List.map_nil.symm) ?_ | refine Les.cons (le.agg ?_) ?_)); (repeat (with_reducible first | exact Pulled.nil | apply Pulled.cons | exact Took.here | apply Took.next)); refine And.intro ?_ ?_; (exact sv)) | (refine DVop.loada_ rfl rfl rfl rfl ?_; (repeat (with_reducible first | refine OnA.here ?_ | refine OnA.next ?_))) | (refine DVop.load_ rfl rfl rfl rfl ?_; (repeat (with_reducible first | refine OnB.here ?_ | refine OnB.mid ?_ | refine OnB.next ?_))) | (refine DVop.f_ rfl ?_))) | (first | ((first | apply DOp.callq_ rfl rfl (h := known10_dc _ _) | apply DOp.callq_ rfl rfl (h := filtO_dc _ _) | apply DOp.callq_ rfl rfl (h := prbefore_dc _ _ _ _ _ _ _ _ _) | apply DOp.callq_ rfl rfl (h := rbefore_dc _ _ _ _ _ _ _ _ _)); (repeat (first | exact Les.nil | refine Les.cons le.rfl_ ?_ | refine Les.cons (le.gs rfl) ?_ | refine Les.cons (le.gs List.map_nil.symm) ?_ | refine Les.cons (le.agg ?_) ?_)); (repeat (with_reducible first | exact Pulled.nil | apply Pulled.cons | exact Took.here | apply Took.next)); refine And.intro ?_ ?_; (exact sv); rintro d rfl) | (refine DOp.alloc_ rfl ?_) | (refine DOp.box_ rfl ?_) | (refine DOp.store_ rfl rfl ?_; (repeat (with_reducible first | refine OnB.here ?_ | refine OnB.mid ?_ | refine OnB.next ?_))) | (refine DOp.load_ rfl rfl ?_; (repeat (with_reducible first | refine OnB.here ?_ | refine OnB.mid ?_ | refine OnB.next ?_))) | (refine DOp.loada_ rfl rfl ?_; (repeat (with_reducible first | refine OnA.here ?_ | refine OnA.next ?_))) | (refine DOp.storea_ rfl rfl ?_; (repeat (with_reducible first | refine OnA.here ?_ | refine OnA.next ?_))))) <;> (simp (maxSteps := 1000000) (disch := omega) only [push_cast, ↓reduceIte, reduceCtorEq, Nat.reduceAdd, Nat.reduceMul, Nat.reduceLT, Nat.reduceLeDiff, Nat.reduceEqDiff, Nat.reduceSub, Int.reduceToNat, Int.reduceLT, Int.reduceLE, Int.reduceAdd, Int.reduceSub, Int.reduceMul, Int.reduceNeg, Nat.reduceBEq, Int.reduceBEq, Int.reduceBNe, Nat.reduceBNe, Int.reduceEq]))
    | (with_reducible first | refine SeqD.opF [] rfl ?_ | refine SeqD.opgF [] rfl rfl ?_)
    | ((with_reducible first | refine DV.mk rfl ?_ | refine DV.mkg rfl rfl ?_); (refine DVop.mv_ rfl ?_))
    | ((fail_if_success (have zz := p1)); with_reducible intro p1)
    | ((fail_if_success (have zz := p2)); with_reducible intro p2)
    | with_reducible intro b)
  all_goals first
  | ((refine ⟨_, _, ?_, ⟨rfl, rfl⟩, ?_⟩; (first | exact le.rfl_ | exact le.gs rfl | refine le.of_eq ?_ | refine le.gs ?_); rotate_left; (repeat (with_reducible first | exact SubP.refl | exact SubP.nil | refine SubP.pick ?_ | refine Out.here ?_ | refine Out.next ?_ | refine SubP.drop ?_))); done)
  | (exfalso; rw [rbefore_irrefl] at hb; cases hb)
  | ((refine absurd hb ?_); exact rb_not (by assumption))
  | ((have e := rbefore_tri (by assumption) hb); (have e1 := congrArg (fun r => r.dot.node) e); simp only at e1; (refine ⟨_, _, le.of_eq ?_, ⟨rfl, rfl⟩, ?_⟩); (rw [e1]; simp only [beq_self_eq_true, Bool.and_self]); (repeat (with_reducible first | exact SubP.refl | exact SubP.nil | refine SubP.pick ?_ | refine Out.here ?_ | refine Out.next ?_ | refine SubP.drop ?_)))
end Go.Proofs.YtfamfamgopchnaaGreatDoor
