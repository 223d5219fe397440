/- A route goes. -/
import Derived.Test.YtfamfamgopchnaaGreatDoorPta
import Derived.KernelRfl
namespace Go.Proofs.YtfamfamgopchnaaGreatDoor
open Go.RowKit
set_option linter.unusedSimpArgs false
set_option linter.unusedVariables false
set_option linter.unusedSectionVars false
set_option maxHeartbeats 4000000
set_option maxRecDepth 100000


def fencedP (node epoch : Int) (x : TFence) : Bool := x.node == node && decide (epoch ≤ x.epoch)
theorem any_fenced (fe : List TFence) (node epoch : Int) : fe.any (fencedP node epoch) = fencedL fe node epoch := by
  rw [Bool.eq_iff_iff, fenced_iff, List.any_eq_true]
  simp only [fencedP, Bool.and_eq_true, beq_iff_eq, decide_eq_true_eq]
theorem DW.frzRO {P : Program} {n : Nat} {Q : Exit → Env → Own → Prop} {e e' : Env} {H H' : Own} {v : Value} {l : List V} (h : OnA H v fun sz cs C => cs = cells l ∧ 0 < sz ∧ (∀ y ∈ l, y.n = sz) ∧ CvE v l e e' ∧ CvO v l (C (.tail sz v)) H' ∧ DW P n .ret Q e' H') : DW P n .ret Q e H := by
  obtain ⟨sz, cs, L1, L2, h0, h1, h2, h3, h4, h5, h6⟩ := h
  exact DW.frzO v ⟨sz, cs, L1, L2, h0, h1, h2, h3, h4, H', h5, h6⟩
attribute [local irreducible] DW SeqD DV DOp DC DVX DVJ
theorem contr_dc (l : List TRoute) (g : FuncId) (c1 c2 c3 : V) (p : TRoute → Bool) (F : Own) : ((∀ (a b c : Int) (fl : Str) (F : Own), True → DC Tryz.prog g [.agg [.int .i64 a, .int .i64 b, .int .i64 c, .str fl], c1, c2, c3] (([] : Own) ++ F) fun d G => d = .bool (p ⟨⟨a, b, c⟩, fl⟩) ∧ G = [] ++ F) ∧ l.length ≤ 1000000000) → DC Tryz.prog 77 [.sl (l.map encRoute), .fn (.func g) [] [c1, c2, c3]] (([] : Own) ++ F) fun d G => d = .bool (l.any p) ∧ G = [] ++ F := by
  intro hA
  obtain ⟨hcl, hl⟩ := hA
  refine DC.bodyS (n_ := 9) (show Tryz.prog.funcs[77]? = some Tryz.f77 by kernel_rfl) rfl rfl (by rfl) ?_
  simp only [env0, List.cons_append, List.nil_append]
  repeat' (first
    | with_reducible first | refine DW.sq ?_ | refine DW.block ?_ | refine DW.skip ?_ | refine DW.exit ?_
    | ((with_reducible refine DW.ret ?_))
    | with_reducible first | refine then_n ?_ | refine then_x ?_ | refine then_r ?_ | refine blk_n ?_ | refine blk_r ?_ | refine blk_x ?_
    | with_reducible refine blk_y (by decide) ?_
    | with_reducible first | refine Next.go ?_ | refine SeqD.nil ?_ | refine DV.nil ?_
    | ((with_reducible refine And.intro ?_ ?_); (first | exact sv | exact ⟨hcl, hl⟩))
    | with_reducible first | refine DW.ct_ ?_ | refine DW.cf_ ?_
    | (refine DW.cond (by rfl) (fun hb => ?_) (fun hb => ?_) <;> (try simp only [hbs, Int.reduceBEq, Int.reduceBNe, Int.reduceEq] at hb; try (exfalso; omega)))
    | ((first | ((with_reducible refine DW.regK [0, 1, 4] (by kernel_rfl) ?_); refine SeqD.go (own := []) _ _ ?_) | ((first | refine Both.imp (fun hb => ?_) (fun hb => ?_) | (with_reducible first | refine FVg_cases (fun hb => ?_) (fun hb => ?_) | refine FDg_cases (fun hb => ?_) (fun hb => ?_)) <;> rw [hb]) <;> (try simp only [hbs, Int.reduceBEq, Int.reduceBNe, Int.reduceEq] at hb; try (exfalso; omega))) | (with_reducible refine ret_r rfl ?_) | ((refine ret_c [.tmp 4] (by rfl) ?_); (try (refine RetK_cell _ _ _ _ _ _ rfl ?_; (repeat (with_reducible first | refine OnB.here ?_ | refine OnB.mid ?_ | refine OnB.next ?_))))) | ((refine RetK_cell _ _ _ _ _ _ rfl ?_); (repeat (with_reducible first | refine OnB.here ?_ | refine OnB.mid ?_ | refine OnB.next ?_))) | (with_reducible refine ret_n rfl ?_) | (first | (apply DOp.callp_ rfl rfl (h := idxr_dc _ _ _ _ _ _ _); (repeat (first | exact Les.nil | refine Les.cons le.rfl_ ?_ | refine Les.cons (le.gs rfl) ?_ | refine Les.cons (le.gs List.map_nil.symm) ?_ | refine Les.cons (le.agg ?_) ?_)); (repeat (with_reducible first | exact Pulled.nil | apply Pulled.cons | exact Took.here | apply Took.next)); refine And.intro ?_ ?_; (first | exact sv | exact ⟨hcl, hl⟩); rintro d H1 ⟨⟨hnn, rfl⟩ | ⟨k, hk, rfl⟩, rfl⟩))) <;> (simp (maxSteps := 1000000) (disch := omega) only [push_cast, ↓reduceIte, reduceCtorEq, Nat.reduceAdd, Nat.reduceMul, Nat.reduceLT, Nat.reduceLeDiff, Nat.reduceEqDiff, Nat.reduceSub, Int.reduceToNat, Int.reduceLT, Int.reduceLE, Int.reduceAdd, Int.reduceSub, Int.reduceMul, Int.reduceNeg, Nat.reduceBEq, Int.reduceBEq, Int.reduceBNe, Nat.reduceBNe, Int.reduceEq]))
    | (with_reducible first | refine SeqD.opF [] rfl ?_ | refine SeqD.opgF [] rfl rfl ?_)
    | with_reducible intro b)
  all_goals first
  | (have e := any_no hnn
     rw [e]; (refine ⟨_, _, ?_, ⟨rfl, rfl⟩, ?_⟩; (first | exact le.rfl_ | exact le.gs rfl | refine le.of_eq ?_ | refine le.gs ?_); rotate_left; (repeat (with_reducible first | exact SubP.refl | exact SubP.nil | refine SubP.pick ?_ | refine Out.here ?_ | refine Out.next ?_ | refine SubP.drop ?_))); done)
  | (have e := any_yes (p := p) hk.1 hk.2.1
     refine ⟨_, _, ?_, ⟨rfl, rfl⟩, ?_⟩; rotate_left; (repeat (with_reducible first | exact SubP.refl | exact SubP.nil | refine SubP.pick ?_ | refine Out.here ?_ | refine Out.next ?_ | refine SubP.drop ?_)); (exact le.of_eq (by rw [e]; simp)); done)
theorem contf_dc (l : List TFence) (g : FuncId) (c1 c2 : V) (p : TFence → Bool) (F : Own) : ((∀ (a b : Int) (F : Own), True → DC Tryz.prog g [.agg [.int .i64 a, .int .i64 b], c1, c2] (([] : Own) ++ F) fun d G => d = .bool (p ⟨a, b⟩) ∧ G = [] ++ F) ∧ l.length ≤ 1000000000) → DC Tryz.prog 90 [.sl (l.map encFence), .fn (.func g) [] [c1, c2]] (([] : Own) ++ F) fun d G => d = .bool (l.any p) ∧ G = [] ++ F := by
  intro hA
  obtain ⟨hcl, hl⟩ := hA
  refine DC.bodyS (n_ := 9) (show Tryz.prog.funcs[90]? = some Tryz.f90 by kernel_rfl) rfl rfl (by rfl) ?_
  simp only [env0, List.cons_append, List.nil_append]
  repeat' (first
    | with_reducible first | refine DW.sq ?_ | refine DW.block ?_ | refine DW.skip ?_ | refine DW.exit ?_
    | ((with_reducible refine DW.ret ?_))
    | with_reducible first | refine then_n ?_ | refine then_x ?_ | refine then_r ?_ | refine blk_n ?_ | refine blk_r ?_ | refine blk_x ?_
    | with_reducible refine blk_y (by decide) ?_
    | with_reducible first | refine Next.go ?_ | refine SeqD.nil ?_ | refine DV.nil ?_
    | ((with_reducible refine And.intro ?_ ?_); (first | exact sv | exact ⟨hcl, hl⟩))
    | with_reducible first | refine DW.ct_ ?_ | refine DW.cf_ ?_
    | (refine DW.cond (by rfl) (fun hb => ?_) (fun hb => ?_) <;> (try simp only [hbs, Int.reduceBEq, Int.reduceBNe, Int.reduceEq] at hb; try (exfalso; omega)))
    | ((first | ((with_reducible refine DW.regK [0, 1, 4] (by kernel_rfl) ?_); refine SeqD.go (own := []) _ _ ?_) | ((first | refine Both.imp (fun hb => ?_) (fun hb => ?_) | (with_reducible first | refine FVg_cases (fun hb => ?_) (fun hb => ?_) | refine FDg_cases (fun hb => ?_) (fun hb => ?_)) <;> rw [hb]) <;> (try simp only [hbs, Int.reduceBEq, Int.reduceBNe, Int.reduceEq] at hb; try (exfalso; omega))) | (with_reducible refine ret_r rfl ?_) | ((refine ret_c [.tmp 4] (by rfl) ?_); (try (refine RetK_cell _ _ _ _ _ _ rfl ?_; (repeat (with_reducible first | refine OnB.here ?_ | refine OnB.mid ?_ | refine OnB.next ?_))))) | ((refine RetK_cell _ _ _ _ _ _ rfl ?_); (repeat (with_reducible first | refine OnB.here ?_ | refine OnB.mid ?_ | refine OnB.next ?_))) | (with_reducible refine ret_n rfl ?_) | (first | (apply DOp.callp_ rfl rfl (h := idxf_dc _ _ _ _ _ _); (repeat (first | exact Les.nil | refine Les.cons le.rfl_ ?_ | refine Les.cons (le.gs rfl) ?_ | refine Les.cons (le.gs List.map_nil.symm) ?_ | refine Les.cons (le.agg ?_) ?_)); (repeat (with_reducible first | exact Pulled.nil | apply Pulled.cons | exact Took.here | apply Took.next)); refine And.intro ?_ ?_; (first | exact sv | exact ⟨hcl, hl⟩); rintro d H1 ⟨⟨hnn, rfl⟩ | ⟨k, hk, rfl⟩, rfl⟩))) <;> (simp (maxSteps := 1000000) (disch := omega) only [push_cast, ↓reduceIte, reduceCtorEq, Nat.reduceAdd, Nat.reduceMul, Nat.reduceLT, Nat.reduceLeDiff, Nat.reduceEqDiff, Nat.reduceSub, Int.reduceToNat, Int.reduceLT, Int.reduceLE, Int.reduceAdd, Int.reduceSub, Int.reduceMul, Int.reduceNeg, Nat.reduceBEq, Int.reduceBEq, Int.reduceBNe, Nat.reduceBNe, Int.reduceEq]))
    | (with_reducible first | refine SeqD.opF [] rfl ?_ | refine SeqD.opgF [] rfl rfl ?_)
    | with_reducible intro b)
  all_goals first
  | (have e := any_no hnn
     rw [e]; (refine ⟨_, _, ?_, ⟨rfl, rfl⟩, ?_⟩; (first | exact le.rfl_ | exact le.gs rfl | refine le.of_eq ?_ | refine le.gs ?_); rotate_left; (repeat (with_reducible first | exact SubP.refl | exact SubP.nil | refine SubP.pick ?_ | refine Out.here ?_ | refine Out.next ?_ | refine SubP.drop ?_))); done)
  | (have e := any_yes (p := p) hk.1 hk.2.1
     refine ⟨_, _, ?_, ⟨rfl, rfl⟩, ?_⟩; rotate_left; (repeat (with_reducible first | exact SubP.refl | exact SubP.nil | refine SubP.pick ?_ | refine Out.here ?_ | refine Out.next ?_ | refine SubP.drop ?_)); (exact le.of_eq (by rw [e]; simp)); done)
theorem fcl_dc (node epoch a b : Int) (F : Own) : (True) → DC Tryz.prog 91 [.agg [.int .i64 a, .int .i64 b], .sp [.int .i64 node], .sp [.int .i64 epoch]] (([] : Own) ++ F) fun d G => d = .bool (fencedP node epoch ⟨a, b⟩) ∧ G = [] ++ F := by
  intro hA
  refine DC.bodyS (n_ := 15) (show Tryz.prog.funcs[91]? = some Tryz.f91 by kernel_rfl) rfl rfl (by rfl) ?_
  simp only [env0, List.cons_append, List.nil_append]
  repeat' (first
    | with_reducible first | refine DW.sq ?_ | refine DW.block ?_ | refine DW.skip ?_ | refine DW.exit ?_
    | ((with_reducible refine DW.ret ?_))
    | with_reducible first | refine then_n ?_ | refine then_x ?_ | refine then_r ?_ | refine blk_n ?_ | refine blk_r ?_ | refine blk_x ?_
    | with_reducible refine blk_y (by decide) ?_
    | with_reducible first | refine Next.go ?_ | refine SeqD.nil ?_ | refine DV.nil ?_
    | ((with_reducible refine And.intro ?_ ?_); (exact sv))
    | with_reducible first | refine DW.ct_ ?_ | refine DW.cf_ ?_
    | (refine DW.cond (by rfl) (fun hb => ?_) (fun hb => ?_) <;> (try simp only [hbs, Int.reduceBEq, Int.reduceBNe, Int.reduceEq] at hb; try (exfalso; omega)))
    | ((first | ((with_reducible refine DW.regK [0, 1, 2, 3, 4] (by kernel_rfl) ?_); refine SeqD.go (own := []) _ _ ?_) | ((first | refine Both.imp (fun hb => ?_) (fun hb => ?_) | (with_reducible first | refine FVg_cases (fun hb => ?_) (fun hb => ?_) | refine FDg_cases (fun hb => ?_) (fun hb => ?_)) <;> rw [hb]) <;> (try simp only [hbs, Int.reduceBEq, Int.reduceBNe, Int.reduceEq] at hb; try (exfalso; omega))) | (with_reducible refine ret_r rfl ?_) | ((refine ret_c [.tmp 4] (by rfl) ?_); (try (refine RetK_cell _ _ _ _ _ _ rfl ?_; (repeat (with_reducible first | refine OnB.here ?_ | refine OnB.mid ?_ | refine OnB.next ?_))))) | ((refine RetK_cell _ _ _ _ _ _ rfl ?_); (repeat (with_reducible first | refine OnB.here ?_ | refine OnB.mid ?_ | refine OnB.next ?_))) | (with_reducible refine ret_n rfl ?_) | (first | (refine DOp.box_ rfl ?_) | (refine DOp.load_ rfl rfl ?_; (repeat (with_reducible first | refine OnB.here ?_ | refine OnB.mid ?_ | refine OnB.next ?_))) | (refine DOp.loada_ rfl rfl ?_; (repeat (with_reducible first | refine OnA.here ?_ | refine OnA.next ?_))))) <;> (simp (maxSteps := 1000000) (disch := omega) only [push_cast, ↓reduceIte, reduceCtorEq, Nat.reduceAdd, Nat.reduceMul, Nat.reduceLT, Nat.reduceLeDiff, Nat.reduceEqDiff, Nat.reduceSub, Int.reduceToNat, Int.reduceLT, Int.reduceLE, Int.reduceAdd, Int.reduceSub, Int.reduceMul, Int.reduceNeg, Nat.reduceBEq, Int.reduceBEq, Int.reduceBNe, Nat.reduceBNe, Int.reduceEq]))
    | (with_reducible first | refine SeqD.opF [] rfl ?_ | refine SeqD.opgF [] rfl rfl ?_)
    | with_reducible intro b)
  all_goals
    refine ⟨_, _, le.of_eq ?_, ⟨rfl, rfl⟩, SubP.refl⟩
    unfold fencedP
    simp_all
theorem contF_dc (l : List TFence) (node epoch : Int) (F : Own) : l.length ≤ 1000000000 → DC Tryz.prog 90 [.sl (l.map encFence), .fn (.func 91) [] [.sp [.int .i64 node], .sp [.int .i64 epoch]]] (([] : Own) ++ F) fun d G => d = .bool (fencedL l node epoch) ∧ G = [] ++ F := fun h => by
  rw [← any_fenced]
  exact contf_dc l 91 _ _ (fencedP node epoch) F ⟨fun a b F _ => fcl_dc node epoch a b F trivial, h⟩
theorem pfenced_dc (se : List TDot) (fe : List TFence) (ro : List TRoute) (ce : List TCell) (node epoch : Int) (F : Own) : (fe.length ≤ 1000000000) → DC Tryz.prog 30 [.agg [.sl (se.map encDot), .sl (fe.map encFence), .sl (ro.map encRoute), .sl (ce.map encCell)], .int .i64 node, .int .i64 epoch] (([] : Own) ++ F) fun d G => d = .bool (fencedL fe node epoch) ∧ G = [] ++ F := by
  intro hA
  have hf := hA
  refine DC.bodyS (n_ := 11) (show Tryz.prog.funcs[30]? = some Tryz.f30 by kernel_rfl) rfl rfl (by rfl) ?_
  simp only [env0, List.cons_append, List.nil_append]
  repeat' (first
    | with_reducible first | refine DW.sq ?_ | refine DW.block ?_ | refine DW.skip ?_ | refine DW.exit ?_
    | ((with_reducible refine DW.ret ?_))
    | with_reducible first | refine then_n ?_ | refine then_x ?_ | refine then_r ?_ | refine blk_n ?_ | refine blk_r ?_ | refine blk_x ?_
    | with_reducible refine blk_y (by decide) ?_
    | with_reducible first | refine Next.go ?_ | refine SeqD.nil ?_ | refine DV.nil ?_
    | ((with_reducible refine And.intro ?_ ?_); (exact sv))
    | with_reducible first | refine DW.ct_ ?_ | refine DW.cf_ ?_
    | (refine DW.cond (by rfl) (fun hb => ?_) (fun hb => ?_) <;> (try simp only [hbs, Int.reduceBEq, Int.reduceBNe, Int.reduceEq] at hb; try (exfalso; omega)))
    | ((first | ((with_reducible refine DW.regK [0, 1, 2, 3, 4, 5, 6] (by kernel_rfl) ?_); refine SeqD.go (own := []) _ _ ?_) | ((first | refine Both.imp (fun hb => ?_) (fun hb => ?_) | (with_reducible first | refine FVg_cases (fun hb => ?_) (fun hb => ?_) | refine FDg_cases (fun hb => ?_) (fun hb => ?_)) <;> rw [hb]) <;> (try simp only [hbs, Int.reduceBEq, Int.reduceBNe, Int.reduceEq] at hb; try (exfalso; omega))) | (with_reducible refine ret_r rfl ?_) | ((refine ret_c [.tmp 6] (by rfl) ?_); (try (refine RetK_cell _ _ _ _ _ _ rfl ?_; (repeat (with_reducible first | refine OnB.here ?_ | refine OnB.mid ?_ | refine OnB.next ?_))))) | ((refine RetK_cell _ _ _ _ _ _ rfl ?_); (repeat (with_reducible first | refine OnB.here ?_ | refine OnB.mid ?_ | refine OnB.next ?_))) | (with_reducible refine ret_n rfl ?_) | (first | (apply DOp.callq_ rfl rfl (h := contF_dc _ _ _ _); (repeat (first | exact Les.nil | refine Les.cons le.rfl_ ?_ | refine Les.cons (le.gs rfl) ?_ | refine Les.cons (le.gs List.map_nil.symm) ?_ | refine Les.cons (le.agg ?_) ?_)); (repeat (with_reducible first | exact Pulled.nil | apply Pulled.cons | exact Took.here | apply Took.next)); refine And.intro ?_ ?_; (exact sv); rintro d rfl) | (refine DOp.box_ rfl ?_) | (refine DOp.load_ rfl rfl ?_; (repeat (with_reducible first | refine OnB.here ?_ | refine OnB.mid ?_ | refine OnB.next ?_))) | (refine DOp.loada_ rfl rfl ?_; (repeat (with_reducible first | refine OnA.here ?_ | refine OnA.next ?_))))) <;> (simp (maxSteps := 1000000) (disch := omega) only [push_cast, ↓reduceIte, reduceCtorEq, Nat.reduceAdd, Nat.reduceMul, Nat.reduceLT, Nat.reduceLeDiff, Nat.reduceEqDiff, Nat.reduceSub, Int.reduceToNat, Int.reduceLT, Int.reduceLE, Int.reduceAdd, Int.reduceSub, Int.reduceMul, Int.reduceNeg, Nat.reduceBEq, Int.reduceBEq, Int.reduceBNe, Nat.reduceBNe, Int.reduceEq]))
    | (with_reducible first | refine SeqD.opF [] rfl ?_ | refine SeqD.opgF [] rfl rfl ?_)
    | with_reducible intro b)
  (refine ⟨_, _, ?_, ⟨rfl, rfl⟩, ?_⟩; (first | exact le.rfl_ | exact le.gs rfl | refine le.of_eq ?_ | refine le.gs ?_); rotate_left; (repeat (with_reducible first | exact SubP.refl | exact SubP.nil | refine SubP.pick ?_ | refine Out.here ?_ | refine Out.next ?_ | refine SubP.drop ?_)))
  all_goals rfl
theorem pfencedv_dc (se : List TDot) (fe : List TFence) (ce : List TCell) (v1 v3 v4 : Value) (n3 : Nat) (node epoch : Int) (F : Own) : (fe.length ≤ 1000000000) → DC Tryz.prog 30 [.agg [.gs v1 (se.map encDot), .sl (fe.map encFence), .ar v3 n3, .gs v4 (ce.map encCell)], .int .i64 node, .int .i64 epoch] (([] : Own) ++ F) fun d G => d = .bool (fencedL fe node epoch) ∧ G = [] ++ F := by
  intro hA
  have hf := hA
  refine DC.bodyS (n_ := 11) (show Tryz.prog.funcs[30]? = some Tryz.f30 by kernel_rfl) rfl rfl (by rfl) ?_
  simp only [env0, List.cons_append, List.nil_append]
  repeat' (first
    | with_reducible first | refine DW.sq ?_ | refine DW.block ?_ | refine DW.skip ?_ | refine DW.exit ?_
    | ((with_reducible refine DW.ret ?_))
    | with_reducible first | refine then_n ?_ | refine then_x ?_ | refine then_r ?_ | refine blk_n ?_ | refine blk_r ?_ | refine blk_x ?_
    | with_reducible refine blk_y (by decide) ?_
    | with_reducible first | refine Next.go ?_ | refine SeqD.nil ?_ | refine DV.nil ?_
    | ((with_reducible refine And.intro ?_ ?_); (exact sv))
    | with_reducible first | refine DW.ct_ ?_ | refine DW.cf_ ?_
    | (refine DW.cond (by rfl) (fun hb => ?_) (fun hb => ?_) <;> (try simp only [hbs, Int.reduceBEq, Int.reduceBNe, Int.reduceEq] at hb; try (exfalso; omega)))
    | ((first | ((with_reducible refine DW.regK [0, 1, 2, 3, 4, 5, 6] (by kernel_rfl) ?_); refine SeqD.go (own := []) _ _ ?_) | ((first | refine Both.imp (fun hb => ?_) (fun hb => ?_) | (with_reducible first | refine FVg_cases (fun hb => ?_) (fun hb => ?_) | refine FDg_cases (fun hb => ?_) (fun hb => ?_)) <;> rw [hb]) <;> (try simp only [hbs, Int.reduceBEq, Int.reduceBNe, Int.reduceEq] at hb; try (exfalso; omega))) | (with_reducible refine ret_r rfl ?_) | ((refine ret_c [.tmp 6] (by rfl) ?_); (try (refine RetK_cell _ _ _ _ _ _ rfl ?_; (repeat (with_reducible first | refine OnB.here ?_ | refine OnB.mid ?_ | refine OnB.next ?_))))) | ((refine RetK_cell _ _ _ _ _ _ rfl ?_); (repeat (with_reducible first | refine OnB.here ?_ | refine OnB.mid ?_ | refine OnB.next ?_))) | (with_reducible refine ret_n rfl ?_) | (first | (apply DOp.callq_ rfl rfl (h := contF_dc _ _ _ _); (repeat (first | exact Les.nil | refine Les.cons le.rfl_ ?_ | refine Les.cons (le.gs rfl) ?_ | refine Les.cons (le.gs List.map_nil.symm) ?_ | refine Les.cons (le.agg ?_) ?_)); (repeat (with_reducible first | exact Pulled.nil | apply Pulled.cons | exact Took.here | apply Took.next)); refine And.intro ?_ ?_; (exact sv); rintro d rfl) | (refine DOp.box_ rfl ?_) | (refine DOp.load_ rfl rfl ?_; (repeat (with_reducible first | refine OnB.here ?_ | refine OnB.mid ?_ | refine OnB.next ?_))) | (refine DOp.loada_ rfl rfl ?_; (repeat (with_reducible first | refine OnA.here ?_ | refine OnA.next ?_))))) <;> (simp (maxSteps := 1000000) (disch := omega) only [push_cast, ↓reduceIte, reduceCtorEq, Nat.reduceAdd, Nat.reduceMul, Nat.reduceLT, Nat.reduceLeDiff, Nat.reduceEqDiff, Nat.reduceSub, Int.reduceToNat, Int.reduceLT, Int.reduceLE, Int.reduceAdd, Int.reduceSub, Int.reduceMul, Int.reduceNeg, Nat.reduceBEq, Int.reduceBEq, Int.reduceBNe, Nat.reduceBNe, Int.reduceEq]))
    | (with_reducible first | refine SeqD.opF [] rfl ?_ | refine SeqD.opgF [] rfl rfl ?_)
    | with_reducible intro b)
  (refine ⟨_, _, ?_, ⟨rfl, rfl⟩, ?_⟩; (first | exact le.rfl_ | exact le.gs rfl | refine le.of_eq ?_ | refine le.gs ?_); rotate_left; (repeat (with_reducible first | exact SubP.refl | exact SubP.nil | refine SubP.pick ?_ | refine Out.here ?_ | refine Out.next ?_ | refine SubP.drop ?_)))
  all_goals rfl
theorem contA_dc (l : List TRoute) (node epoch : Int) (f : Str) (F : Own) : l.length ≤ 1000000000 → DC Tryz.prog 77 [.sl (l.map encRoute), .fn (.func 73) [] [.sp [.int .i64 node], .sp [.int .i64 epoch], .sp [.str f]]] (([] : Own) ++ F) fun d G => d = .bool (l.any fun r => ownB r node epoch f) ∧ G = [] ++ F := fun h =>
  contr_dc l 73 _ _ _ (fun r => ownB r node epoch f) F ⟨fun a b c fl F _ => ownA_dc node epoch f a b c fl F trivial, h⟩
theorem delA_dc (l : List TRoute) (v : Value) (n : Nat) (node epoch : Int) (f : Str) (F : Own) : (n = l.length ∧ l.length ≤ 1000000000) → DC Tryz.prog 72 [.ar v n, .fn (.func 73) [] [.sp [.int .i64 node], .sp [.int .i64 epoch], .sp [.str f]]] ([.arr 4 v (cells (l.map encRoute))] ++ F) fun d G => ∃ v2, d = .ar v2 (withoutR l node epoch f).length ∧ G = .arr 4 v2 (cells ((withoutR l node epoch f).map encRoute)) :: F := fun h =>
  del_dc l 73 v n _ _ _ (fun r => ownB r node epoch f) F ⟨fun a b c fl F _ => ownA_dc node epoch f a b c fl F trivial, h.1, h.2⟩
theorem contD_dc (l : List TRoute) (node epoch : Int) (f : Str) (F : Own) : l.length ≤ 1000000000 → DC Tryz.prog 77 [.sl (l.map encRoute), .fn (.func 76) [] [.sp [.int .i64 node], .sp [.int .i64 epoch], .sp [.str f]]] (([] : Own) ++ F) fun d G => d = .bool (l.any fun r => ownB r node epoch f) ∧ G = [] ++ F := fun h =>
  contr_dc l 76 _ _ _ (fun r => ownB r node epoch f) F ⟨fun a b c fl F _ => ownD_dc node epoch f a b c fl F trivial, h⟩
theorem delD_dc (l : List TRoute) (v : Value) (n : Nat) (node epoch : Int) (f : Str) (F : Own) : (n = l.length ∧ l.length ≤ 1000000000) → DC Tryz.prog 72 [.ar v n, .fn (.func 76) [] [.sp [.int .i64 node], .sp [.int .i64 epoch], .sp [.str f]]] ([.arr 4 v (cells (l.map encRoute))] ++ F) fun d G => ∃ v2, d = .ar v2 (withoutR l node epoch f).length ∧ G = .arr 4 v2 (cells ((withoutR l node epoch f).map encRoute)) :: F := fun h =>
  del_dc l 76 v n _ _ _ (fun r => ownB r node epoch f) F ⟨fun a b c fl F _ => ownD_dc node epoch f a b c fl F trivial, h.1, h.2⟩
theorem pdrop_dc (se : List TDot) (fe : List TFence) (ro : List TRoute) (ce : List TCell) (node epoch : Int) (f : Str) (F : Own) : ((se.length ≤ 1000000000 ∧ fe.length ≤ 1000000000 ∧ ro.length ≤ 1000000000 ∧ ce.length ≤ 1000000000 ∧ ∀ k, k < ce.length → (ce.getD k default).payload.length ≤ 1000000000) ∧ -1000000000000 ≤ topM se node epoch ∧ topM se node epoch ≤ 1000000000000) → DC Tryz.prog 24 [.agg [.sl (se.map encDot), .sl (fe.map encFence), .sl (ro.map encRoute), .sl (ce.map encCell)], .int .i64 node, .int .i64 epoch, .str f] (([] : Own) ++ F) fun d G => (ro.any (fun r => ownB r node epoch f) = false ∧ d = .agg [.sl ((se).map encDot), .sl ((fe).map encFence), .sl ((ro).map encRoute), .sl ((ce).map encCell)] ∨ ro.any (fun r => ownB r node epoch f) = true ∧ d = .agg [.sl ((addM se ⟨node, epoch, topM se node epoch + 1⟩).map encDot), .sl ((fe).map encFence), .sl ((withoutR ro node epoch f).map encRoute), .sl ((ce).map encCell)]) ∧ G = [] ++ F := by
  intro hA
  obtain ⟨hL, ht1, ht2⟩ := hA
  refine DC.bodyS (n_ := 31) (show Tryz.prog.funcs[24]? = some Tryz.f24 by kernel_rfl) rfl rfl (by rfl) ?_
  simp only [env0, List.cons_append, List.nil_append]
  have hr := hL.2.2.1
  repeat' (first
    | ((with_reducible apply DW.frzRO); (repeat (with_reducible first | apply OnA.here | apply OnA.next)); refine ⟨rfl, by decide, (by intro y hy; obtain ⟨x, _, rfl⟩ := List.mem_map.1 hy; rfl), ?_, ?_, ?_⟩; (focus (repeat (first | exact CvE.nil | apply CvE.cons (Cv.hit _) | apply CvE.cons (Cv.rfl _)))); (focus ((repeat (first | apply CvO.blk _ (by repeat (first | exact CvL.nil | apply CvL.cons (Cv.hit _) | apply CvL.cons (Cv.rfl _))) | apply CvO.keep | exact CvO.rfl_ _ _ _)))))
    | with_reducible first | refine DW.sq ?_ | refine DW.block ?_ | refine DW.skip ?_ | refine DW.exit ?_
    | ((with_reducible refine DW.ret ?_))
    | with_reducible first | refine then_n ?_ | refine then_x ?_ | refine then_r ?_ | refine blk_n ?_ | refine blk_r ?_ | refine blk_x ?_
    | with_reducible refine blk_y (by decide) ?_
    | with_reducible first | refine Next.go ?_ | refine SeqD.nil ?_ | refine DV.nil ?_
    | ((with_reducible refine And.intro ?_ ?_); (first | exact sv | exact hL | exact ⟨hL, ht1, ht2⟩))
    | with_reducible first | refine DW.ct_ ?_ | refine DW.cf_ ?_
    | (refine DW.cond (by rfl) (fun hb => ?_) (fun hb => ?_) <;> (try simp only [hbs, Int.reduceBEq, Int.reduceBNe, Int.reduceEq] at hb; try (exfalso; omega)))
    | ((first | ((with_reducible refine DW.regK [0, 1, 2, 3, 4, 5, 6, 7, 8, 9, 15] (by kernel_rfl) ?_); refine SeqD.go (own := [4]) _ _ ?_) | ((first | refine Both.imp (fun hb => ?_) (fun hb => ?_) | (with_reducible first | refine FVg_cases (fun hb => ?_) (fun hb => ?_) | refine FDg_cases (fun hb => ?_) (fun hb => ?_)) <;> rw [hb]) <;> (try simp only [hbs, Int.reduceBEq, Int.reduceBNe, Int.reduceEq] at hb; try (exfalso; omega))) | (with_reducible refine ret_r rfl ?_) | ((refine ret_c [.cell 8 35] (by rfl) ?_); (try (refine RetK_cell _ _ _ _ _ _ rfl ?_; (repeat (with_reducible first | refine OnB.here ?_ | refine OnB.mid ?_ | refine OnB.next ?_))))) | ((refine RetK_cell _ _ _ _ _ _ rfl ?_); (repeat (with_reducible first | refine OnB.here ?_ | refine OnB.mid ?_ | refine OnB.next ?_))) | (with_reducible refine ret_n rfl ?_) | (first | (apply DOp.callq_ rfl rfl (h := contD_dc _ _ _ _ _); (repeat (first | exact Les.nil | refine Les.cons le.rfl_ ?_ | refine Les.cons (le.gs rfl) ?_ | refine Les.cons (le.gs List.map_nil.symm) ?_ | refine Les.cons (le.agg ?_) ?_)); (repeat (with_reducible first | exact Pulled.nil | apply Pulled.cons | exact Took.here | apply Took.next)); refine And.intro ?_ ?_; (first | exact sv | exact hL | exact ⟨hL, ht1, ht2⟩); rintro d rfl) | (apply DOp.callp_ rfl rfl (h := copy_dc _ _ _ _ _); (repeat (first | exact Les.nil | refine Les.cons le.rfl_ ?_ | refine Les.cons (le.gs rfl) ?_ | refine Les.cons (le.gs List.map_nil.symm) ?_ | refine Les.cons (le.agg ?_) ?_)); (repeat (with_reducible first | exact Pulled.nil | apply Pulled.cons | exact Took.here | apply Took.next)); refine And.intro ?_ ?_; (first | exact sv | exact hL | exact ⟨hL, ht1, ht2⟩); rintro d H1 ⟨v1, v2, v3, v4, rfl, rfl⟩) | (apply DOp.callp_ rfl rfl (h := next_dc _ _ _ _ _ _ _); (repeat (first | exact Les.nil | refine Les.cons le.rfl_ ?_ | refine Les.cons (le.gs rfl) ?_ | refine Les.cons (le.gs List.map_nil.symm) ?_ | refine Les.cons (le.agg ?_) ?_)); (repeat (with_reducible first | exact Pulled.nil | apply Pulled.cons | exact Took.here | apply Took.next)); refine And.intro ?_ ?_; (first | exact sv | exact hL | exact ⟨hL, ht1, ht2⟩); rintro d H1 ⟨v2, v3, v4, rfl, rfl⟩) | (apply DOp.callp_ rfl rfl (h := delD_dc _ _ _ _ _ _ _); (repeat (first | exact Les.nil | refine Les.cons le.rfl_ ?_ | refine Les.cons (le.gs rfl) ?_ | refine Les.cons (le.gs List.map_nil.symm) ?_ | refine Les.cons (le.agg ?_) ?_)); (repeat (with_reducible first | exact Pulled.nil | apply Pulled.cons | exact Took.here | apply Took.next)); refine And.intro ?_ ?_; (first | exact sv | exact hL | exact ⟨hL, ht1, ht2⟩); rintro d H1 ⟨v5, rfl, rfl⟩) | (refine DOp.alloc_ rfl ?_) | (refine DOp.box_ rfl ?_) | (refine DOp.store_ rfl rfl ?_; (repeat (with_reducible first | refine OnB.here ?_ | refine OnB.mid ?_ | refine OnB.next ?_))) | (refine DOp.load_ rfl rfl ?_; (repeat (with_reducible first | refine OnB.here ?_ | refine OnB.mid ?_ | refine OnB.next ?_))) | (refine DOp.loada_ rfl rfl ?_; (repeat (with_reducible first | refine OnA.here ?_ | refine OnA.next ?_))) | (refine DOp.storea_ rfl rfl ?_; (repeat (with_reducible first | refine OnA.here ?_ | refine OnA.next ?_))))) <;> (simp (maxSteps := 1000000) (disch := omega) only [push_cast, ↓reduceIte, reduceCtorEq, Nat.reduceAdd, Nat.reduceMul, Nat.reduceLT, Nat.reduceLeDiff, Nat.reduceEqDiff, Nat.reduceSub, Int.reduceToNat, Int.reduceLT, Int.reduceLE, Int.reduceAdd, Int.reduceSub, Int.reduceMul, Int.reduceNeg, Nat.reduceBEq, Int.reduceBEq, Int.reduceBNe, Nat.reduceBNe, Int.reduceEq]))
    | (with_reducible first | refine SeqD.opF [4] rfl ?_ | refine SeqD.opgF [4] rfl rfl ?_)
    | ((fail_if_success (have zz := b1)); with_reducible intro b1)
    | ((fail_if_success (have zz := b2)); with_reducible intro b2)
    | with_reducible intro b)
  all_goals first
  | (have hq := hb
     rw [hb]; (refine ⟨_, _, ?_, ⟨.inl ⟨rfl, rfl⟩, rfl⟩, ?_⟩; rotate_left; (repeat (with_reducible first | exact SubP.refl | exact SubP.nil | refine SubP.pick ?_ | refine Out.here ?_ | refine Out.next ?_ | refine SubP.drop ?_)); refine le.agg ?_; (repeat (first | exact Les.nil | refine Les.cons le.rfl_ ?_ | refine Les.cons (le.gs rfl) ?_ | refine Les.cons (le.gs List.map_nil.symm) ?_ | refine Les.cons (le.agg ?_) ?_)); done))
  | (have hq := hb
     rw [hb]; (refine ⟨_, _, ?_, ⟨.inr ⟨rfl, rfl⟩, rfl⟩, ?_⟩; rotate_left; (repeat (with_reducible first | exact SubP.refl | exact SubP.nil | refine SubP.pick ?_ | refine Out.here ?_ | refine Out.next ?_ | refine SubP.drop ?_)); refine le.agg ?_; (repeat (first | exact Les.nil | refine Les.cons le.rfl_ ?_ | refine Les.cons (le.gs rfl) ?_ | refine Les.cons (le.gs List.map_nil.symm) ?_ | refine Les.cons (le.agg ?_) ?_)); done))
end Go.Proofs.YtfamfamgopchnaaGreatDoor
