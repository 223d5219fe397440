/- Which bytes are texts: from rune to rune. -/
import Derived.Test.YtfamfamgopchnaaGreatDoorRf1
import Derived.KernelRfl
namespace Go.Proofs.YtfamfamgopchnaaGreatDoor
open Go.RowKit
set_option linter.unusedSimpArgs false
set_option linter.unusedVariables false
set_option linter.unusedSectionVars false
set_option maxHeartbeats 4000000
set_option maxRecDepth 100000
attribute [local irreducible] DW SeqD DV DOp DC DVX


def chkF : Nat → Str → Bool
  | 0, _ => true
  | f + 1, l => if l.length = 0 then true else (stepM l).2.2 && (stepM l).1 != 0 && chkF f (l.drop (stepM l).2.1.toNat)
def chkB (l : Str) : Bool := chkF l.length l
theorem chkF_nil : ∀ f, chkF f [] = true
  | 0 => rfl
  | f + 1 => by unfold chkF; simp
theorem chkF_more (f : Nat) {l : Str} (h : l.length ≠ 0) : chkF (f + 1) l = ((stepM l).2.2 && (stepM l).1 != 0 && chkF f (l.drop (stepM l).2.1.toNat)) := by
  conv => lhs; unfold chkF
  rw [if_neg h]
theorem dropM1 (n : Nat) (l : Str) : List.drop n (List.map u8 l) = List.map u8 (List.drop n l) := List.map_drop.symm
theorem takeM1 (n : Nat) (l : Str) : List.take n (List.map u8 l) = List.map u8 (List.take n l) := List.map_take.symm
theorem takeL1 (l : Str) : List.take l.length l = l := List.take_length
theorem chk_bad {l : Str} {f k : Nat} (hk : k < l.length) (hf : l.length - k ≤ f) (h : (stepM (l.drop k)).2.2 = false ∨ (stepM (l.drop k)).1 = 0) : chkF f (l.drop k) = false := by
  obtain ⟨g, rfl⟩ : ∃ g, f = g + 1 := ⟨f - 1, by omega⟩
  rw [chkF_more g (by rw [List.length_drop]; omega)]
  rcases h with h | h <;> rw [h] <;> simp
theorem chk_go {l : Str} {f k : Nat} (hk : k < l.length) (hf : l.length - k ≤ f) (h1 : (stepM (l.drop k)).2.2 = true) (h2 : ¬ (stepM (l.drop k)).1 = 0) : ∃ m g : Nat, ((stepM (l.drop k)).2.1 = (m : Int)) ∧ 1 ≤ m ∧ k + m ≤ l.length ∧ l.length - (k + m) ≤ g ∧ chkF f (l.drop k) = chkF g (l.drop (k + m)) := by
  obtain ⟨g, rfl⟩ : ∃ g, f = g + 1 := ⟨f - 1, by omega⟩
  have hne : l.drop k ≠ [] := fun e => by have := congrArg List.length e; rw [List.length_drop] at this; simp at this; omega
  obtain ⟨a1, a2⟩ := stepM_ok hne h1
  rw [List.length_drop] at a2
  refine ⟨(stepM (l.drop k)).2.1.toNat, g, by omega, by omega, by omega, by omega, ?_⟩
  rw [chkF_more g (by rw [List.length_drop]; omega), h1, List.drop_drop]
  have : ((stepM (l.drop k)).1 != 0) = true := by simpa using h2
  rw [this]
  rfl
theorem check_dc (l : Str) (F : Own) : (l.length ≤ 1000000000) → DC Tryz.prog 165 [.sl (l.map u8)] (([] : Own) ++ F) fun d G => ∃ i : Int, d = .int .i64 i ∧ decide (i < 0) = chkB l ∧ G = [] ++ F := by
  intro hA
  have hl := hA
  refine DC.bodyS (n_ := 29) (show Tryz.prog.funcs[165]? = some Tryz.f165 by kernel_rfl) rfl rfl (by rfl) ?_
  simp only [env0, List.cons_append, List.nil_append]
  repeat' (first
    | ((with_reducible refine DW.loopB 0 (X := Nat) (fun x => x ≤ l.length ∧ ∃ f, l.length - x ≤ f ∧ chkB l = chkF f (l.drop x)) (fun x => [(0, .sl (l.map u8)), (3, .int .i64 x)]) (fun x => ([] : Own)) (fun x => l.length - x) (0) ?_ ?_ ?_); exact (⟨Nat.zero_le _, l.length, by omega, by rw [List.drop_zero]; rfl⟩); (simp [Sub, get, keepL] <;> fail); (try simp only [List.cons_append, List.nil_append]); (repeat (with_reducible first | refine Pull.nil ?_ | refine Pull.cons ?_ | refine Out.here ?_ | refine Out.next ?_)); intro k ⟨hk, f, hf, ha⟩; (try simp only [List.cons_append, List.nil_append]))
    | with_reducible first | refine DW.sq ?_ | refine DW.block ?_ | refine DW.skip ?_ | refine DW.exit ?_
    | ((with_reducible refine DW.ret ?_))
    | with_reducible first | refine then_n ?_ | refine then_x ?_ | refine then_r ?_ | refine blk_n ?_ | refine blk_r ?_ | refine blk_x ?_
    | with_reducible refine blk_y (by decide) ?_
    | with_reducible first | refine Next.go ?_ | refine SeqD.nil ?_ | refine DV.nil ?_
    | ((with_reducible refine And.intro ?_ ?_); (first | exact sv | (simp [u8]; omega) | (simp [u8] <;> omega) | (simp only [List.length_drop]; omega)))
    | with_reducible first | refine DW.ct_ ?_ | refine DW.cf_ ?_
    | (refine DW.cond (by rfl) (fun hb => ?_) (fun hb => ?_) <;> (try simp only [hbs, Int.reduceBEq, Int.reduceBNe, Int.reduceEq] at hb; try (exfalso; omega)))
    | ((first | ((with_reducible refine DW.regK [0, 2, 3, 4, 5, 6, 10, 24] (by kernel_rfl) ?_); refine SeqD.go (own := []) _ _ ?_) | ((first | refine Both.imp (fun hb => ?_) (fun hb => ?_) | (with_reducible first | refine FVg_cases (fun hb => ?_) (fun hb => ?_) | refine FDg_cases (fun hb => ?_) (fun hb => ?_)) <;> rw [hb]) <;> (try simp only [hbs, Int.reduceBEq, Int.reduceBNe, Int.reduceEq] at hb; try (exfalso; omega))) | (with_reducible refine ret_r rfl ?_) | ((refine ret_c [.tmp 2] (by rfl) ?_); (try (refine RetK_cell _ _ _ _ _ _ rfl ?_; (repeat (with_reducible first | refine OnB.here ?_ | refine OnB.mid ?_ | refine OnB.next ?_))))) | ((refine RetK_cell _ _ _ _ _ _ rfl ?_); (repeat (with_reducible first | refine OnB.here ?_ | refine OnB.mid ?_ | refine OnB.next ?_))) | (with_reducible refine ret_n rfl ?_) | (first | (apply DOp.callq_ rfl rfl (h := step_dc _ _); (repeat (first | exact Les.nil | refine Les.cons le.rfl_ ?_ | refine Les.cons (le.gs rfl) ?_ | refine Les.cons (le.gs List.map_nil.symm) ?_ | refine Les.cons (le.agg ?_) ?_)); (repeat (with_reducible first | exact Pulled.nil | apply Pulled.cons | exact Took.here | apply Took.next)); refine And.intro ?_ ?_; (first | exact sv | (simp [u8]; omega) | (simp [u8] <;> omega) | (simp only [List.length_drop]; omega)); rintro d rfl))) <;> (simp (maxSteps := 1000000) (disch := omega) only [push_cast, ↓reduceIte, reduceCtorEq, Nat.reduceAdd, Nat.reduceMul, Nat.reduceLT, Nat.reduceLeDiff, Nat.reduceEqDiff, Nat.reduceSub, Int.reduceToNat, Int.reduceLT, Int.reduceLE, Int.reduceAdd, Int.reduceSub, Int.reduceMul, Int.reduceNeg, Nat.reduceBEq, Int.reduceBEq, Int.reduceBNe, Nat.reduceBNe, Int.reduceEq, dropM1, takeM1, takeL1, List.length_drop]))
    | (with_reducible first | refine SeqD.opF [] rfl ?_ | refine SeqD.opgF [] rfl rfl ?_)
    | with_reducible intro b)
  all_goals first
  | (have hkl : k = l.length := by omega
     subst hkl
     rw [List.drop_length, chkF_nil] at ha
     refine ⟨_, _, le.rfl_, ⟨-1, rfl, by rw [ha]; rfl, rfl⟩, SubP.refl⟩)
  | (have hb2 := chk_bad (show k < l.length by omega) hf (by first | (left; assumption) | (right; assumption))
     rw [hb2] at ha
     refine ⟨_, _, le.rfl_, ⟨(k : Int), rfl, by rw [ha]; exact decide_eq_false (by omega), rfl⟩, SubP.refl⟩)
  | (obtain ⟨m, g, e1, e2, e3, e4, e5⟩ := chk_go (show k < l.length by omega) hf (by assumption) (by assumption)
     refine ⟨k + m, ⟨e3, g, e4, by rw [ha, e5]⟩, by omega, ?_, ?_⟩; (simp [Sub, get, e1, wrap_i64 ((k : Int) + (m : Int)) (by omega) (by omega)] <;> fail); (repeat (with_reducible first | exact SubP.refl | exact SubP.nil | refine SubP.pick ?_ | refine Out.here ?_ | refine Out.next ?_ | refine SubP.drop ?_)); done)
def textB (t : Str) : Bool := decide (1 ≤ t.length) && decide (t.length ≤ 65535) && chkB t
theorem rtext6_dc (t : Str) (F : Own) : (t.length ≤ 1000000000) → DC Tryz.prog 122 [.str t] (([] : Own) ++ F) fun d G => d = .bool (textB t) ∧ G = [] ++ F := by
  intro hA
  have ht := hA
  refine DC.bodyS (n_ := 17) (show Tryz.prog.funcs[122]? = some Tryz.f122 by kernel_rfl) rfl rfl (by rfl) ?_
  simp only [env0, List.cons_append, List.nil_append]
  repeat' (first
    | with_reducible first | refine DW.sq ?_ | refine DW.block ?_ | refine DW.skip ?_ | refine DW.exit ?_
    | ((with_reducible refine DW.ret ?_))
    | with_reducible first | refine then_n ?_ | refine then_x ?_ | refine then_r ?_ | refine blk_n ?_ | refine blk_r ?_ | refine blk_x ?_
    | with_reducible refine blk_y (by decide) ?_
    | with_reducible first | refine Next.go ?_ | refine SeqD.nil ?_ | refine DV.nil ?_
    | ((with_reducible refine And.intro ?_ ?_); (exact sv))
    | with_reducible first | refine DW.ct_ ?_ | refine DW.cf_ ?_
    | (refine DW.cond (by rfl) (fun hb => ?_) (fun hb => ?_) <;> (try simp only [hbs, Int.reduceBEq, Int.reduceBNe, Int.reduceEq] at hb; try (exfalso; omega)))
    | ((first | ((with_reducible refine DW.regK [0, 2] (by kernel_rfl) ?_); refine SeqD.go (own := []) _ _ ?_) | ((first | refine Both.imp (fun hb => ?_) (fun hb => ?_) | (with_reducible first | refine FVg_cases (fun hb => ?_) (fun hb => ?_) | refine FDg_cases (fun hb => ?_) (fun hb => ?_)) <;> rw [hb]) <;> (try simp only [hbs, Int.reduceBEq, Int.reduceBNe, Int.reduceEq] at hb; try (exfalso; omega))) | (with_reducible refine ret_r rfl ?_) | ((refine ret_c [.tmp 2] (by rfl) ?_); (try (refine RetK_cell _ _ _ _ _ _ rfl ?_; (repeat (with_reducible first | refine OnB.here ?_ | refine OnB.mid ?_ | refine OnB.next ?_))))) | ((refine RetK_cell _ _ _ _ _ _ rfl ?_); (repeat (with_reducible first | refine OnB.here ?_ | refine OnB.mid ?_ | refine OnB.next ?_))) | (with_reducible refine ret_n rfl ?_) | (first | (apply DOp.callp_ rfl rfl (h := check_dc _ _); (repeat (first | exact Les.nil | refine Les.cons le.rfl_ ?_ | refine Les.cons (le.gs rfl) ?_ | refine Les.cons (le.gs List.map_nil.symm) ?_ | refine Les.cons (le.agg ?_) ?_)); (repeat (with_reducible first | exact Pulled.nil | apply Pulled.cons | exact Took.here | apply Took.next)); refine And.intro ?_ ?_; (exact sv); rintro d H1 ⟨i1, rfl, hi1, rfl⟩))) <;> (simp (maxSteps := 1000000) (disch := omega) only [push_cast, ↓reduceIte, reduceCtorEq, Nat.reduceAdd, Nat.reduceMul, Nat.reduceLT, Nat.reduceLeDiff, Nat.reduceEqDiff, Nat.reduceSub, Int.reduceToNat, Int.reduceLT, Int.reduceLE, Int.reduceAdd, Int.reduceSub, Int.reduceMul, Int.reduceNeg, Nat.reduceBEq, Int.reduceBEq, Int.reduceBNe, Nat.reduceBNe, Int.reduceEq]))
    | (with_reducible first | refine SeqD.opF [] rfl ?_ | refine SeqD.opgF [] rfl rfl ?_)
    | with_reducible intro b)
  all_goals first
  | (have e : textB t = false := by unfold textB; first | (rw [decide_eq_false (by omega)]; rfl) | (rw [decide_eq_false (show ¬ t.length ≤ 65535 by omega)]; simp)
     rw [e]; refine ⟨_, _, le.rfl_, ⟨rfl, rfl⟩, ?_⟩; (repeat (with_reducible first | exact SubP.refl | exact SubP.nil | refine SubP.pick ?_ | refine Out.here ?_ | refine Out.next ?_ | refine SubP.drop ?_)); done)
  | (have e : textB t = chkB t := by unfold textB; rw [decide_eq_true (by omega), decide_eq_true (by omega)]; rfl
     rw [e, ← hi1]; refine ⟨_, _, le.rfl_, ⟨rfl, rfl⟩, ?_⟩; (repeat (with_reducible first | exact SubP.refl | exact SubP.nil | refine SubP.pick ?_ | refine Out.here ?_ | refine Out.next ?_ | refine SubP.drop ?_)); done)
def nameB (t : Str) : Bool := textB t && !hasC t 43 && !hasC t 35
theorem rname_dc (t : Str) (F : Own) : (t.length ≤ 1000000000) → DC Tryz.prog 63 [.str t] (([] : Own) ++ F) fun d G => d = .bool (nameB t) ∧ G = [] ++ F := by
  intro hA
  have ht := hA
  refine DC.bodyS (n_ := 15) (show Tryz.prog.funcs[63]? = some Tryz.f63 by kernel_rfl) rfl rfl (by rfl) ?_
  simp only [env0, List.cons_append, List.nil_append]
  repeat' (first
    | with_reducible first | refine DW.sq ?_ | refine DW.block ?_ | refine DW.skip ?_ | refine DW.exit ?_
    | ((with_reducible refine DW.ret ?_))
    | with_reducible first | refine then_n ?_ | refine then_x ?_ | refine then_r ?_ | refine blk_n ?_ | refine blk_r ?_ | refine blk_x ?_
    | with_reducible refine blk_y (by decide) ?_
    | with_reducible first | refine Next.go ?_ | refine SeqD.nil ?_ | refine DV.nil ?_
    | ((with_reducible refine And.intro ?_ ?_); (exact sv))
    | with_reducible first | refine DW.ct_ ?_ | refine DW.cf_ ?_
    | (refine DW.cond (by rfl) (fun hb => ?_) (fun hb => ?_) <;> (try simp only [hbs, Int.reduceBEq, Int.reduceBNe, Int.reduceEq] at hb; try (exfalso; omega)))
    | ((first | ((with_reducible refine DW.regK [0, 2] (by kernel_rfl) ?_); refine SeqD.go (own := []) _ _ ?_) | ((first | refine Both.imp (fun hb => ?_) (fun hb => ?_) | (with_reducible first | refine FVg_cases (fun hb => ?_) (fun hb => ?_) | refine FDg_cases (fun hb => ?_) (fun hb => ?_)) <;> rw [hb]) <;> (try simp only [hbs, Int.reduceBEq, Int.reduceBNe, Int.reduceEq] at hb; try (exfalso; omega))) | (with_reducible refine ret_r rfl ?_) | ((refine ret_c [.tmp 2] (by rfl) ?_); (try (refine RetK_cell _ _ _ _ _ _ rfl ?_; (repeat (with_reducible first | refine OnB.here ?_ | refine OnB.mid ?_ | refine OnB.next ?_))))) | ((refine RetK_cell _ _ _ _ _ _ rfl ?_); (repeat (with_reducible first | refine OnB.here ?_ | refine OnB.mid ?_ | refine OnB.next ?_))) | (with_reducible refine ret_n rfl ?_) | (first | ((first | apply DOp.callq_ rfl rfl (h := rtext6_dc _ _) | apply DOp.callq_ rfl rfl (h := hasc_dc _ _ _)); (repeat (first | exact Les.nil | refine Les.cons le.rfl_ ?_ | refine Les.cons (le.gs rfl) ?_ | refine Les.cons (le.gs List.map_nil.symm) ?_ | refine Les.cons (le.agg ?_) ?_)); (repeat (with_reducible first | exact Pulled.nil | apply Pulled.cons | exact Took.here | apply Took.next)); refine And.intro ?_ ?_; (exact sv); rintro d rfl))) <;> (simp (maxSteps := 1000000) (disch := omega) only [push_cast, ↓reduceIte, reduceCtorEq, Nat.reduceAdd, Nat.reduceMul, Nat.reduceLT, Nat.reduceLeDiff, Nat.reduceEqDiff, Nat.reduceSub, Int.reduceToNat, Int.reduceLT, Int.reduceLE, Int.reduceAdd, Int.reduceSub, Int.reduceMul, Int.reduceNeg, Nat.reduceBEq, Int.reduceBEq, Int.reduceBNe, Nat.reduceBNe, Int.reduceEq]))
    | (with_reducible first | refine SeqD.opF [] rfl ?_ | refine SeqD.opgF [] rfl rfl ?_)
    | with_reducible intro b)
  all_goals
    refine ⟨_, _, le.of_eq ?_, ⟨rfl, rfl⟩, SubP.refl⟩
    unfold nameB
    first | rfl | simp_all
end Go.Proofs.YtfamfamgopchnaaGreatDoor
