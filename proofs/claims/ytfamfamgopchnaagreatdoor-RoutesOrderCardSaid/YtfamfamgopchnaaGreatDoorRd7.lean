/- Stamps, which cell is newer, fences that are right. -/
import Derived.Test.YtfamfamgopchnaaGreatDoorRd1
import Derived.KernelRfl
namespace Go.Proofs.YtfamfamgopchnaaGreatDoor
open Go.RowKit
set_option linter.unusedSimpArgs false
set_option linter.unusedVariables false
set_option linter.unusedSectionVars false
set_option maxHeartbeats 4000000
set_option maxRecDepth 100000
attribute [local irreducible] DW SeqD DV DOp DC DVX


def heldM (n : Int) : Int := min (max n 0) 4611686018427387904
theorem held_fold (n : Int) : min (max n 0) 4611686018427387904 = heldM n := rfl
def lessM (a b : TStamp) : Bool := if heldM a.l ≠ heldM b.l then decide (heldM a.l < heldM b.l) else if heldM a.c ≠ heldM b.c then decide (heldM a.c < heldM b.c) else decide (a.node < b.node)
def newerDS (ad : TDot) (sa : TStamp) (bd : TDot) (sb : TStamp) : Bool := lessM sb sa || (!lessM sa sb && before bd ad)
def stampedM (s : TStamp) : Bool := decide (0 ≤ s.l) && decide (s.l ≤ 4611686018427387904) && decide (0 ≤ s.c) && decide (s.c ≤ 4611686018427387904) && decide (0 ≤ s.node) && decide (s.node < 16)
def fenceOk (fe : List TFence) (i : Nat) : Bool := pairB (fe.getD i default).node (fe.getD i default).epoch && (decide (i = 0) || decide ((fe.getD (i - 1) default).node < (fe.getD i default).node))
def fencesB (fe : List TFence) : Bool := allK (fenceOk fe) fe.length
theorem toNat_pred1 {n : Nat} (h : 1 ≤ n) : ((n : Int) - 1).toNat = n - 1 := by omega
attribute [local irreducible] heldM
theorem held_dc (n : Int) (F : Own) : (True) → DC Tryz.prog 225 [.int .i64 n] (([] : Own) ++ F) fun d G => d = .int .i64 (heldM n) ∧ G = [] ++ F := by
  intro hA
  refine DC.bodyS (n_ := 6) (show Tryz.prog.funcs[225]? = some Tryz.f225 by kernel_rfl) rfl rfl (by rfl) ?_
  simp only [env0, List.cons_append, List.nil_append]
  repeat' (first
    | with_reducible first | refine DW.sq ?_ | refine DW.block ?_ | refine DW.skip ?_ | refine DW.exit ?_
    | ((with_reducible refine DW.ret ?_))
    | with_reducible first | refine then_n ?_ | refine then_x ?_ | refine then_r ?_ | refine blk_n ?_ | refine blk_r ?_ | refine blk_x ?_
    | with_reducible refine blk_y (by decide) ?_
    | with_reducible first | refine Next.go ?_ | refine SeqD.nil ?_ | refine DV.nil ?_
    | ((with_reducible refine And.intro ?_ ?_); (exact sv))
    | with_reducible first | refine DW.ct_ ?_ | refine DW.cf_ ?_
    | (refine DW.cond (by rfl) (fun hb => ?_) (fun hb => ?_) <;> (try simp only [hbs, Int.reduceBEq, Int.reduceBNe, Int.reduceEq] at hb; try (exfalso; omega)))
    | ((first | ((with_reducible refine DW.regK [0, 2] (by kernel_rfl) ?_); refine SeqD.go (own := []) _ _ ?_) | ((first | refine Both.imp (fun hb => ?_) (fun hb => ?_) | (with_reducible first | refine FVg_cases (fun hb => ?_) (fun hb => ?_) | refine FDg_cases (fun hb => ?_) (fun hb => ?_)) <;> rw [hb]) <;> (try simp only [hbs, Int.reduceBEq, Int.reduceBNe, Int.reduceEq] at hb; try (exfalso; omega))) | (with_reducible refine ret_r rfl ?_) | ((refine ret_c [.tmp 2] (by rfl) ?_); (try (refine RetK_cell _ _ _ _ _ _ rfl ?_; (repeat (with_reducible first | refine OnB.here ?_ | refine OnB.mid ?_ | refine OnB.next ?_))))) | ((refine RetK_cell _ _ _ _ _ _ rfl ?_); (repeat (with_reducible first | refine OnB.here ?_ | refine OnB.mid ?_ | refine OnB.next ?_))) | (with_reducible refine ret_n rfl ?_) | (first | (fail))) <;> (simp (maxSteps := 1000000) (disch := omega) only [push_cast, ↓reduceIte, reduceCtorEq, Nat.reduceAdd, Nat.reduceMul, Nat.reduceLT, Nat.reduceLeDiff, Nat.reduceEqDiff, Nat.reduceSub, Int.reduceToNat, Int.reduceLT, Int.reduceLE, Int.reduceAdd, Int.reduceSub, Int.reduceMul, Int.reduceNeg, Nat.reduceBEq, Int.reduceBEq, Int.reduceBNe, Nat.reduceBNe, Int.reduceEq, held_fold]))
    | (with_reducible first | refine SeqD.opF [] rfl ?_ | refine SeqD.opgF [] rfl rfl ?_)
    | with_reducible intro b)
  all_goals ((refine ⟨_, _, ?_, ⟨rfl, rfl⟩, ?_⟩; (first | exact le.rfl_ | exact le.gs rfl | refine le.of_eq ?_ | refine le.gs ?_); rotate_left; (repeat (with_reducible first | exact SubP.refl | exact SubP.nil | refine SubP.pick ?_ | refine Out.here ?_ | refine Out.next ?_ | refine SubP.drop ?_))); done)
theorem less6_dc (a1 a2 a3 b1 b2 b3 : Int) (F : Own) : (True) → DC Tryz.prog 216 [.agg [.int .i64 a1, .int .i64 a2, .int .i64 a3], .agg [.int .i64 b1, .int .i64 b2, .int .i64 b3]] (([] : Own) ++ F) fun d G => d = .bool (lessM ⟨a1, a2, a3⟩ ⟨b1, b2, b3⟩) ∧ G = [] ++ F := by
  intro hA
  refine DC.bodyS (n_ := 36) (show Tryz.prog.funcs[216]? = some Tryz.f216 by kernel_rfl) rfl rfl (by rfl) ?_
  simp only [env0, List.cons_append, List.nil_append]
  repeat' (first
    | with_reducible first | refine DW.sq ?_ | refine DW.block ?_ | refine DW.skip ?_ | refine DW.exit ?_
    | ((with_reducible refine DW.ret ?_))
    | with_reducible first | refine then_n ?_ | refine then_x ?_ | refine then_r ?_ | refine blk_n ?_ | refine blk_r ?_ | refine blk_x ?_
    | with_reducible refine blk_y (by decide) ?_
    | with_reducible first | refine Next.go ?_ | refine SeqD.nil ?_ | refine DV.nil ?_
    | ((with_reducible refine And.intro ?_ ?_); (exact sv))
    | with_reducible first | refine DW.ct_ ?_ | refine DW.cf_ ?_
    | (refine DW.cond (by rfl) (fun hb => ?_) (fun hb => ?_) <;> (try simp only [hbs, Int.reduceBEq, Int.reduceBNe, Int.reduceEq] at hb; try (exfalso; omega)))
    | ((first | ((with_reducible refine DW.regK [0, 1, 2, 3, 4, 5, 6, 15, 27] (by kernel_rfl) ?_); refine SeqD.go (own := []) _ _ ?_) | ((with_reducible refine DW.drawK (id := 1) [0, 1, 2, 3, 4, 5, 6, 15, 27] [] [1, 2, 4, 5] (by kernel_rfl) (by kernel_rfl) (by kernel_rfl) ?_); refine DV.go [1, 2, 4, 5] [] _ _ _ ?_) | ((with_reducible refine DW.drawK (id := 4) [0, 1, 2, 3, 4, 5, 6, 15, 27] [] [1, 2, 4, 5] (by kernel_rfl) (by kernel_rfl) (by kernel_rfl) ?_); refine DV.go [1, 2, 4, 5] [] _ _ _ ?_) | ((first | refine Both.imp (fun hb => ?_) (fun hb => ?_) | (with_reducible first | refine FVg_cases (fun hb => ?_) (fun hb => ?_) | refine FDg_cases (fun hb => ?_) (fun hb => ?_)) <;> rw [hb]) <;> (try simp only [hbs, Int.reduceBEq, Int.reduceBNe, Int.reduceEq] at hb; try (exfalso; omega))) | (with_reducible refine ret_r rfl ?_) | ((refine ret_c [.tmp 4] (by rfl) ?_); (try (refine RetK_cell _ _ _ _ _ _ rfl ?_; (repeat (with_reducible first | refine OnB.here ?_ | refine OnB.mid ?_ | refine OnB.next ?_))))) | ((refine RetK_cell _ _ _ _ _ _ rfl ?_); (repeat (with_reducible first | refine OnB.here ?_ | refine OnB.mid ?_ | refine OnB.next ?_))) | (with_reducible refine ret_n rfl ?_) | ((with_reducible first | refine DV.mk rfl ?_ | refine DV.mkg rfl rfl ?_); (first | (apply DVop.callq_ rfl rfl rfl rfl (h1 := held_dc _ _); (repeat (first | exact Les.nil | refine Les.cons le.rfl_ ?_ | refine Les.cons (le.gs rfl) ?_ | refine Les.cons (le.gs List.map_nil.symm) ?_ | refine Les.cons (le.agg ?_) ?_)); (repeat (with_reducible first | exact Pulled.nil | apply Pulled.cons | exact Took.here | apply Took.next)); refine And.intro ?_ ?_; (exact sv)) | (refine DVop.loada_ rfl rfl rfl rfl ?_; (repeat (with_reducible first | refine OnA.here ?_ | refine OnA.next ?_))) | (refine DVop.load_ rfl rfl rfl rfl ?_; (repeat (with_reducible first | refine OnB.here ?_ | refine OnB.mid ?_ | refine OnB.next ?_))) | (refine DVop.f_ rfl ?_))) | (first | (apply DOp.callq_ rfl rfl (h := held_dc _ _); (repeat (first | exact Les.nil | refine Les.cons le.rfl_ ?_ | refine Les.cons (le.gs rfl) ?_ | refine Les.cons (le.gs List.map_nil.symm) ?_ | refine Les.cons (le.agg ?_) ?_)); (repeat (with_reducible first | exact Pulled.nil | apply Pulled.cons | exact Took.here | apply Took.next)); refine And.intro ?_ ?_; (exact sv); rintro d rfl) | (refine DOp.box_ rfl ?_) | (refine DOp.load_ rfl rfl ?_; (repeat (with_reducible first | refine OnB.here ?_ | refine OnB.mid ?_ | refine OnB.next ?_))) | (refine DOp.loada_ rfl rfl ?_; (repeat (with_reducible first | refine OnA.here ?_ | refine OnA.next ?_))))) <;> (simp (maxSteps := 1000000) (disch := omega) only [push_cast, ↓reduceIte, reduceCtorEq, Nat.reduceAdd, Nat.reduceMul, Nat.reduceLT, Nat.reduceLeDiff, Nat.reduceEqDiff, Nat.reduceSub, Int.reduceToNat, Int.reduceLT, Int.reduceLE, Int.reduceAdd, Int.reduceSub, Int.reduceMul, Int.reduceNeg, Nat.reduceBEq, Int.reduceBEq, Int.reduceBNe, Nat.reduceBNe, Int.reduceEq]))
    | (with_reducible first | refine SeqD.opF [] rfl ?_ | refine SeqD.opgF [] rfl rfl ?_)
    | ((with_reducible first | refine DV.mk rfl ?_ | refine DV.mkg rfl rfl ?_); (refine DVop.mv_ rfl ?_))
    | with_reducible intro b)
  all_goals
    refine ⟨_, _, le.of_eq ?_, ⟨rfl, rfl⟩, SubP.refl⟩
    unfold lessM
    simp_all
theorem newer_dc (a1 a2 a3 a4 a5 a6 : Int) (a7 : Str) (a8 : List V) (a9 : Int) (a10 : Bool) (b1 b2 b3 b4 b5 b6 : Int) (b7 : Str) (b8 : List V) (b9 : Int) (b10 : Bool) (F : Own) : (True) → DC Tryz.prog 200 [.agg [.int .i64 a1, .int .i64 a2, .int .i64 a3, .int .i64 a4, .int .i64 a5, .int .i64 a6, .str a7, .sl a8, .int .i64 a9, .bool a10], .agg [.int .i64 b1, .int .i64 b2, .int .i64 b3, .int .i64 b4, .int .i64 b5, .int .i64 b6, .str b7, .sl b8, .int .i64 b9, .bool b10]] (([] : Own) ++ F) fun d G => d = .bool (newerDS ⟨a1, a2, a3⟩ ⟨a4, a5, a6⟩ ⟨b1, b2, b3⟩ ⟨b4, b5, b6⟩) ∧ G = [] ++ F := by
  intro hA
  refine DC.bodyS (n_ := 23) (show Tryz.prog.funcs[200]? = some Tryz.f200 by kernel_rfl) rfl rfl (by rfl) ?_
  simp only [env0, List.cons_append, List.nil_append]
  repeat' (first
    | with_reducible first | refine DW.sq ?_ | refine DW.block ?_ | refine DW.skip ?_ | refine DW.exit ?_
    | ((with_reducible refine DW.ret ?_))
    | with_reducible first | refine then_n ?_ | refine then_x ?_ | refine then_r ?_ | refine blk_n ?_ | refine blk_r ?_ | refine blk_x ?_
    | with_reducible refine blk_y (by decide) ?_
    | with_reducible first | refine Next.go ?_ | refine SeqD.nil ?_ | refine DV.nil ?_
    | ((with_reducible refine And.intro ?_ ?_); (exact sv))
    | with_reducible first | refine DW.ct_ ?_ | refine DW.cf_ ?_
    | (refine DW.cond (by rfl) (fun hb => ?_) (fun hb => ?_) <;> (try simp only [hbs, Int.reduceBEq, Int.reduceBNe, Int.reduceEq] at hb; try (exfalso; omega)))
    | ((first | ((with_reducible refine DW.regK [0, 1, 2, 3, 4, 9] (by kernel_rfl) ?_); refine SeqD.go (own := []) _ _ ?_) | ((first | refine Both.imp (fun hb => ?_) (fun hb => ?_) | (with_reducible first | refine FVg_cases (fun hb => ?_) (fun hb => ?_) | refine FDg_cases (fun hb => ?_) (fun hb => ?_)) <;> rw [hb]) <;> (try simp only [hbs, Int.reduceBEq, Int.reduceBNe, Int.reduceEq] at hb; try (exfalso; omega))) | (with_reducible refine ret_r rfl ?_) | ((refine ret_c [.tmp 4] (by rfl) ?_); (try (refine RetK_cell _ _ _ _ _ _ rfl ?_; (repeat (with_reducible first | refine OnB.here ?_ | refine OnB.mid ?_ | refine OnB.next ?_))))) | ((refine RetK_cell _ _ _ _ _ _ rfl ?_); (repeat (with_reducible first | refine OnB.here ?_ | refine OnB.mid ?_ | refine OnB.next ?_))) | (with_reducible refine ret_n rfl ?_) | (first | ((first | apply DOp.callq_ rfl rfl (h := less6_dc _ _ _ _ _ _ _) | apply DOp.callq_ rfl rfl (h := before_dc _ _ _ _ _ _ _)); (repeat (first | exact Les.nil | refine Les.cons le.rfl_ ?_ | refine Les.cons (le.gs rfl) ?_ | refine Les.cons (le.gs List.map_nil.symm) ?_ | refine Les.cons (le.agg ?_) ?_)); (repeat (with_reducible first | exact Pulled.nil | apply Pulled.cons | exact Took.here | apply Took.next)); refine And.intro ?_ ?_; (exact sv); rintro d rfl) | (refine DOp.box_ rfl ?_) | (refine DOp.load_ rfl rfl ?_; (repeat (with_reducible first | refine OnB.here ?_ | refine OnB.mid ?_ | refine OnB.next ?_))) | (refine DOp.loada_ rfl rfl ?_; (repeat (with_reducible first | refine OnA.here ?_ | refine OnA.next ?_))))) <;> (simp (maxSteps := 1000000) (disch := omega) only [push_cast, ↓reduceIte, reduceCtorEq, Nat.reduceAdd, Nat.reduceMul, Nat.reduceLT, Nat.reduceLeDiff, Nat.reduceEqDiff, Nat.reduceSub, Int.reduceToNat, Int.reduceLT, Int.reduceLE, Int.reduceAdd, Int.reduceSub, Int.reduceMul, Int.reduceNeg, Nat.reduceBEq, Int.reduceBEq, Int.reduceBNe, Nat.reduceBNe, Int.reduceEq]))
    | (with_reducible first | refine SeqD.opF [] rfl ?_ | refine SeqD.opgF [] rfl rfl ?_)
    | with_reducible intro b)
  all_goals
    refine ⟨_, _, le.of_eq ?_, ⟨rfl, rfl⟩, SubP.refl⟩
    unfold newerDS
    simp_all
theorem stamped_dc (a1 a2 a3 : Int) (F : Own) : (True) → DC Tryz.prog 64 [.agg [.int .i64 a1, .int .i64 a2, .int .i64 a3]] (([] : Own) ++ F) fun d G => d = .bool (stampedM ⟨a1, a2, a3⟩) ∧ G = [] ++ F := by
  intro hA
  refine DC.bodyS (n_ := 31) (show Tryz.prog.funcs[64]? = some Tryz.f64 by kernel_rfl) rfl rfl (by rfl) ?_
  simp only [env0, List.cons_append, List.nil_append]
  repeat' (first
    | with_reducible first | refine DW.sq ?_ | refine DW.block ?_ | refine DW.skip ?_ | refine DW.exit ?_
    | ((with_reducible refine DW.ret ?_))
    | with_reducible first | refine then_n ?_ | refine then_x ?_ | refine then_r ?_ | refine blk_n ?_ | refine blk_r ?_ | refine blk_x ?_
    | with_reducible refine blk_y (by decide) ?_
    | with_reducible first | refine Next.go ?_ | refine SeqD.nil ?_ | refine DV.nil ?_
    | ((with_reducible refine And.intro ?_ ?_); (exact sv))
    | with_reducible first | refine DW.ct_ ?_ | refine DW.cf_ ?_
    | (refine DW.cond (by rfl) (fun hb => ?_) (fun hb => ?_) <;> (try simp only [hbs, Int.reduceBEq, Int.reduceBNe, Int.reduceEq] at hb; try (exfalso; omega)))
    | ((first | ((with_reducible refine DW.regK [0, 1, 2] (by kernel_rfl) ?_); refine SeqD.go (own := []) _ _ ?_) | ((first | refine Both.imp (fun hb => ?_) (fun hb => ?_) | (with_reducible first | refine FVg_cases (fun hb => ?_) (fun hb => ?_) | refine FDg_cases (fun hb => ?_) (fun hb => ?_)) <;> rw [hb]) <;> (try simp only [hbs, Int.reduceBEq, Int.reduceBNe, Int.reduceEq] at hb; try (exfalso; omega))) | (with_reducible refine ret_r rfl ?_) | ((refine ret_c [.tmp 2] (by rfl) ?_); (try (refine RetK_cell _ _ _ _ _ _ rfl ?_; (repeat (with_reducible first | refine OnB.here ?_ | refine OnB.mid ?_ | refine OnB.next ?_))))) | ((refine RetK_cell _ _ _ _ _ _ rfl ?_); (repeat (with_reducible first | refine OnB.here ?_ | refine OnB.mid ?_ | refine OnB.next ?_))) | (with_reducible refine ret_n rfl ?_) | (first | (refine DOp.box_ rfl ?_) | (refine DOp.load_ rfl rfl ?_; (repeat (with_reducible first | refine OnB.here ?_ | refine OnB.mid ?_ | refine OnB.next ?_))) | (refine DOp.loada_ rfl rfl ?_; (repeat (with_reducible first | refine OnA.here ?_ | refine OnA.next ?_))))) <;> (simp (maxSteps := 1000000) (disch := omega) only [push_cast, ↓reduceIte, reduceCtorEq, Nat.reduceAdd, Nat.reduceMul, Nat.reduceLT, Nat.reduceLeDiff, Nat.reduceEqDiff, Nat.reduceSub, Int.reduceToNat, Int.reduceLT, Int.reduceLE, Int.reduceAdd, Int.reduceSub, Int.reduceMul, Int.reduceNeg, Nat.reduceBEq, Int.reduceBEq, Int.reduceBNe, Nat.reduceBNe, Int.reduceEq]))
    | (with_reducible first | refine SeqD.opF [] rfl ?_ | refine SeqD.opgF [] rfl rfl ?_)
    | with_reducible intro b)
  all_goals
    refine ⟨_, _, le.of_eq ?_, ⟨rfl, rfl⟩, SubP.refl⟩
    unfold stampedM
    simp_all <;> omega
theorem fencesright_dc (l : List TFence) (F : Own) : (l.length ≤ 1000000000) → DC Tryz.prog 60 [.sl (l.map encFence)] (([] : Own) ++ F) fun d G => d = .bool (fencesB l) ∧ G = [] ++ F := by
  intro hA
  have hl := hA
  refine DC.bodyS (n_ := 40) (show Tryz.prog.funcs[60]? = some Tryz.f60 by kernel_rfl) rfl rfl (by rfl) ?_
  simp only [env0, List.cons_append, List.nil_append]
  repeat' (first
    | ((with_reducible refine DW.loopB 0 (X := Nat) (fun x => x ≤ l.length ∧ allK (fenceOk l) x = true) (fun x => [(0, .sl (l.map encFence)), (3, .int .i64 x)]) (fun x => ([] : Own)) (fun x => l.length - x) (0) ?_ ?_ ?_); exact (⟨Nat.zero_le _, rfl⟩); (simp [Sub, get, keepL] <;> fail); (try simp only [List.cons_append, List.nil_append]); (repeat (with_reducible first | refine Pull.nil ?_ | refine Pull.cons ?_ | refine Out.here ?_ | refine Out.next ?_)); intro k ⟨hk, ha⟩; (try simp only [List.cons_append, List.nil_append]))
    | with_reducible first | refine DW.sq ?_ | refine DW.block ?_ | refine DW.skip ?_ | refine DW.exit ?_
    | ((with_reducible refine DW.ret ?_))
    | with_reducible first | refine then_n ?_ | refine then_x ?_ | refine then_r ?_ | refine blk_n ?_ | refine blk_r ?_ | refine blk_x ?_
    | with_reducible refine blk_y (by decide) ?_
    | with_reducible first | refine Next.go ?_ | refine SeqD.nil ?_ | refine DV.nil ?_
    | ((with_reducible refine And.intro ?_ ?_); (exact sv))
    | with_reducible first | refine DW.ct_ ?_ | refine DW.cf_ ?_
    | (refine DW.cond (by rfl) (fun hb => ?_) (fun hb => ?_) <;> (try simp only [hbs, Int.reduceBEq, Int.reduceBNe, Int.reduceEq] at hb; try (exfalso; omega)))
    | ((first | ((with_reducible refine DW.regK [0, 2, 3, 7, 39] (by kernel_rfl) ?_); refine SeqD.go (own := []) _ _ ?_) | ((with_reducible refine DW.drawK (id := 4) [0, 2, 3, 7, 39] [] [4, 9, 10, 21, 26] (by kernel_rfl) (by kernel_rfl) (by kernel_rfl) ?_); refine DV.go [4, 9, 10, 21, 26] [] _ _ _ ?_) | ((first | refine Both.imp (fun hb => ?_) (fun hb => ?_) | (with_reducible first | refine FVg_cases (fun hb => ?_) (fun hb => ?_) | refine FDg_cases (fun hb => ?_) (fun hb => ?_)) <;> rw [hb]) <;> (try simp only [hbs, Int.reduceBEq, Int.reduceBNe, Int.reduceEq] at hb; try (exfalso; omega))) | (with_reducible refine ret_r rfl ?_) | ((refine ret_c [.tmp 2] (by rfl) ?_); (try (refine RetK_cell _ _ _ _ _ _ rfl ?_; (repeat (with_reducible first | refine OnB.here ?_ | refine OnB.mid ?_ | refine OnB.next ?_))))) | ((refine RetK_cell _ _ _ _ _ _ rfl ?_); (repeat (with_reducible first | refine OnB.here ?_ | refine OnB.mid ?_ | refine OnB.next ?_))) | (with_reducible refine ret_n rfl ?_) | ((with_reducible first | refine DV.mk rfl ?_ | refine DV.mkg rfl rfl ?_); (first | (apply DVop.callq_ rfl rfl rfl rfl (h1 := pair_dc _ _ _); (repeat (first | exact Les.nil | refine Les.cons le.rfl_ ?_ | refine Les.cons (le.gs rfl) ?_ | refine Les.cons (le.gs List.map_nil.symm) ?_ | refine Les.cons (le.agg ?_) ?_)); (repeat (with_reducible first | exact Pulled.nil | apply Pulled.cons | exact Took.here | apply Took.next)); refine And.intro ?_ ?_; (exact sv)) | (refine DVop.loada_ rfl rfl rfl rfl ?_; (repeat (with_reducible first | refine OnA.here ?_ | refine OnA.next ?_))) | (refine DVop.load_ rfl rfl rfl rfl ?_; (repeat (with_reducible first | refine OnB.here ?_ | refine OnB.mid ?_ | refine OnB.next ?_))) | (refine DVop.f_ rfl ?_))) | (first | (apply DOp.callq_ rfl rfl (h := pair_dc _ _ _); (repeat (first | exact Les.nil | refine Les.cons le.rfl_ ?_ | refine Les.cons (le.gs rfl) ?_ | refine Les.cons (le.gs List.map_nil.symm) ?_ | refine Les.cons (le.agg ?_) ?_)); (repeat (with_reducible first | exact Pulled.nil | apply Pulled.cons | exact Took.here | apply Took.next)); refine And.intro ?_ ?_; (exact sv); rintro d rfl) | (refine DOp.load_ rfl rfl ?_; (repeat (with_reducible first | refine OnB.here ?_ | refine OnB.mid ?_ | refine OnB.next ?_))) | (refine DOp.loada_ rfl rfl ?_; (repeat (with_reducible first | refine OnA.here ?_ | refine OnA.next ?_))))) <;> (simp (maxSteps := 1000000) (disch := omega) only [push_cast, ↓reduceIte, reduceCtorEq, Nat.reduceAdd, Nat.reduceMul, Nat.reduceLT, Nat.reduceLeDiff, Nat.reduceEqDiff, Nat.reduceSub, Int.reduceToNat, Int.reduceLT, Int.reduceLE, Int.reduceAdd, Int.reduceSub, Int.reduceMul, Int.reduceNeg, Nat.reduceBEq, Int.reduceBEq, Int.reduceBNe, Nat.reduceBNe, Int.reduceEq, encFence]))
    | (with_reducible first | refine SeqD.opF [] rfl ?_ | refine SeqD.opgF [] rfl rfl ?_)
    | ((with_reducible first | refine DV.mk rfl ?_ | refine DV.mkg rfl rfl ?_); (refine DVop.mv_ rfl ?_))
    | with_reducible intro b)
  all_goals first
  | (have hf : fenceOk l k = false := by
       unfold fenceOk
       first | (simp_all; done) | (simp_all; omega) | (rw [toNat_pred1 (by omega)] at *; simp_all; omega)
     refine ⟨_, _, le.of_eq ?_, ⟨rfl, rfl⟩, SubP.refl⟩; rw [fencesB, allK_not hf (by omega)])
  | (have hk0 : k = l.length := by omega
     subst hk0
     refine ⟨_, _, le.of_eq ?_, ⟨rfl, rfl⟩, SubP.refl⟩; rw [fencesB, ha])
  | (have ht : fenceOk l k = true := by
       unfold fenceOk
       first | (simp_all; done) | (simp_all; omega) | (rw [toNat_pred1 (by omega)] at *; simp_all; omega)
     refine ⟨k + 1, ⟨by omega, allK_next ha ht⟩, by omega, by simp [Sub, get], ?_⟩; repeat (with_reducible first | exact SubP.refl | exact SubP.nil | refine SubP.pick ?_ | refine Out.here ?_ | refine Out.next ?_ | refine SubP.drop ?_))
end Go.Proofs.YtfamfamgopchnaaGreatDoor
