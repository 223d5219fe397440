/- A frame that forwards, as bytes. -/
import Derived.Test.YtfamfamgopchnaaGreatDoorFm2
import Derived.KernelRfl
namespace Go.Proofs.YtfamfamgopchnaaGreatDoor
open Go.RowKit
set_option linter.unusedSimpArgs false
set_option linter.unusedVariables false
set_option linter.unusedSectionVars false
set_option maxHeartbeats 4000000
set_option maxRecDepth 100000
attribute [local irreducible] DW SeqD DV DOp DC DVX


theorem decode97_dc (F : Own) : True → DC Tryz.prog 201 [.sl [.int .u8 97]] (([] : Own) ++ F) fun d G => d = .tup [.int .i32 97, .int .i64 1] ∧ G = [] ++ F := fun _ => decode1_dc 97 [] F ⟨by decide, by decide⟩
theorem in1_dc (v a b : Int) (F : Own) : (a ≤ v ∧ v ≤ b) → DC Tryz.prog 103 [.int .i64 v, .int .i64 a, .int .i64 b] (([] : Own) ++ F) fun d G => d = .bool true ∧ G = [] ++ F := fun h => (in_dc v a b F trivial).mono fun d G g => by
  rw [decide_eq_true h.1, decide_eq_true h.2] at g; exact g
theorem in0_dc (v a b : Int) (F : Own) : (v < a) → DC Tryz.prog 103 [.int .i64 v, .int .i64 a, .int .i64 b] (([] : Own) ++ F) fun d G => d = .bool false ∧ G = [] ++ F := fun h => (in_dc v a b F trivial).mono fun d G g => by
  rw [decide_eq_false (show ¬ a ≤ v by omega)] at g; exact g
theorem ne_a : (([97] : List UInt8) == []) = false := rfl
theorem eq_aa : (([97] : List UInt8) == [97]) = true := rfl
theorem len_a : ([97] : List UInt8).length = 1 := rfl
theorem check1_dc  (F : Own) : (True) → DC Tryz.prog 172 [.sl [.int .u8 97]] (([] : Own) ++ F) fun d G => d = .int .i64 (-1) ∧ G = [] ++ F := by
  intro hA
  refine DC.bodyS (n_ := 34) (show Tryz.prog.funcs[172]? = some Tryz.f172 by kernel_rfl) rfl rfl (by rfl) ?_
  simp only [env0, List.cons_append, List.nil_append]
  repeat' (first
    | ((with_reducible refine DW.loopB 0 (X := Nat) (fun x => x ≤ 1) (fun x => [(0, .sl [.int .u8 97]), (3, .int .i64 x)]) (fun x => ([] : Own)) (fun x => 1 - x) (0) ?_ ?_ ?_); exact (Nat.zero_le _); (simp [Sub, get, keepL] <;> fail); (try simp only [List.cons_append, List.nil_append]); (repeat (with_reducible first | refine Pull.nil ?_ | refine Pull.cons ?_ | refine Out.here ?_ | refine Out.next ?_)); intro k hk; (try simp only [List.cons_append, List.nil_append]); rcases (show k = 0 ∨ k = 1 by omega) with rfl | rfl)
    | with_reducible first | refine DW.sq ?_ | refine DW.block ?_ | refine DW.skip ?_ | refine DW.exit ?_
    | ((with_reducible refine DW.ret ?_))
    | with_reducible first | refine then_n ?_ | refine then_x ?_ | refine then_r ?_ | refine blk_n ?_ | refine blk_r ?_ | refine blk_x ?_
    | with_reducible refine blk_y (by decide) ?_
    | with_reducible first | refine Next.go ?_ | refine SeqD.nil ?_ | refine DV.nil ?_
    | ((with_reducible refine And.intro ?_ ?_); (exact sv))
    | with_reducible first | refine DW.ct_ ?_ | refine DW.cf_ ?_
    | (refine DW.cond (by rfl) (fun hb => ?_) (fun hb => ?_) <;> (try simp only [hbs, Int.reduceBEq, Int.reduceBNe, Int.reduceEq] at hb; try (exfalso; omega)))
    | ((first | ((with_reducible refine DW.regK [0, 2, 3, 4, 5, 9, 29] (by kernel_rfl) ?_); refine SeqD.go (own := []) _ _ ?_) | ((first | refine Both.imp (fun hb => ?_) (fun hb => ?_) | (with_reducible first | refine FVg_cases (fun hb => ?_) (fun hb => ?_) | refine FDg_cases (fun hb => ?_) (fun hb => ?_)) <;> rw [hb]) <;> (try simp only [hbs, Int.reduceBEq, Int.reduceBNe, Int.reduceEq] at hb; try (exfalso; omega))) | (with_reducible refine ret_r rfl ?_) | ((refine ret_c [.tmp 2] (by rfl) ?_); (try (refine RetK_cell _ _ _ _ _ _ rfl ?_; (repeat (with_reducible first | refine OnB.here ?_ | refine OnB.mid ?_ | refine OnB.next ?_))))) | ((refine RetK_cell _ _ _ _ _ _ rfl ?_); (repeat (with_reducible first | refine OnB.here ?_ | refine OnB.mid ?_ | refine OnB.next ?_))) | (with_reducible refine ret_n rfl ?_) | (first | (apply DOp.callq_ rfl rfl (h := decode97_dc _); (repeat (first | exact Les.nil | refine Les.cons le.rfl_ ?_ | refine Les.cons (le.gs rfl) ?_ | refine Les.cons (le.gs List.map_nil.symm) ?_ | refine Les.cons (le.agg ?_) ?_)); (repeat (with_reducible first | exact Pulled.nil | apply Pulled.cons | exact Took.here | apply Took.next)); refine And.intro ?_ ?_; (exact sv); rintro d rfl) | (refine DOp.load_ rfl rfl ?_; (repeat (with_reducible first | refine OnB.here ?_ | refine OnB.mid ?_ | refine OnB.next ?_))) | (refine DOp.loada_ rfl rfl ?_; (repeat (with_reducible first | refine OnA.here ?_ | refine OnA.next ?_))))) <;> (simp (maxSteps := 1000000) (disch := omega) only [push_cast, ↓reduceIte, reduceCtorEq, Nat.reduceAdd, Nat.reduceMul, Nat.reduceLT, Nat.reduceLeDiff, Nat.reduceEqDiff, Nat.reduceSub, Int.reduceToNat, Int.reduceLT, Int.reduceLE, Int.reduceAdd, Int.reduceSub, Int.reduceMul, Int.reduceNeg, Nat.reduceBEq, Int.reduceBEq, Int.reduceBNe, Nat.reduceBNe, Int.reduceEq]))
    | (with_reducible first | refine SeqD.opF [] rfl ?_ | refine SeqD.opgF [] rfl rfl ?_)
    | with_reducible intro b)
  all_goals first
  | (refine ⟨1, ?_, ?_, ?_, ?_⟩; (((try simp only); omega)); (((try simp only); omega)); (simp [Sub, get] <;> (fail)); (try dsimp only); (repeat (with_reducible first | exact SubP.refl | exact SubP.nil | refine SubP.pick ?_ | refine Out.here ?_ | refine Out.next ?_ | refine SubP.drop ?_)); done)
  | ((refine ⟨_, _, ?_, ⟨rfl, rfl⟩, ?_⟩; (first | exact le.rfl_ | exact le.gs rfl | refine le.of_eq ?_ | refine le.gs ?_); rotate_left; (repeat (with_reducible first | exact SubP.refl | exact SubP.nil | refine SubP.pick ?_ | refine Out.here ?_ | refine Out.next ?_ | refine SubP.drop ?_))); done)
  | (exfalso; omega)
  | (exfalso; simp_all)
theorem byte97 : u8 97 = .int .u8 97 := rfl
theorem text1_dc  (F : Own) : (True) → DC Tryz.prog 128 [.str [97]] (([] : Own) ++ F) fun d G => d = .bool true ∧ G = [] ++ F := by
  intro hA
  refine DC.bodyS (n_ := 16) (show Tryz.prog.funcs[128]? = some Tryz.f128 by kernel_rfl) rfl rfl (by rfl) ?_
  simp only [env0, List.cons_append, List.nil_append]
  repeat' (first
    | with_reducible first | refine DW.sq ?_ | refine DW.block ?_ | refine DW.skip ?_ | refine DW.exit ?_
    | ((with_reducible refine DW.ret ?_))
    | with_reducible first | refine then_n ?_ | refine then_x ?_ | refine then_r ?_ | refine blk_n ?_ | refine blk_r ?_ | refine blk_x ?_
    | with_reducible refine blk_y (by decide) ?_
    | with_reducible first | refine Next.go ?_ | refine SeqD.nil ?_ | refine DV.nil ?_
    | ((with_reducible refine And.intro ?_ ?_); (exact sv))
    | with_reducible first | refine DW.ct_ ?_ | refine DW.cf_ ?_
    | (refine DW.cond (by rfl) (fun hb => ?_) (fun hb => ?_) <;> (try simp only [hbs, Int.reduceBEq, Int.reduceBNe, Int.reduceEq] at hb; try (exfalso; omega)))
    | ((first | ((with_reducible refine DW.regK [0, 2] (by kernel_rfl) ?_); refine SeqD.go (own := []) _ _ ?_) | ((first | refine Both.imp (fun hb => ?_) (fun hb => ?_) | (with_reducible first | refine FVg_cases (fun hb => ?_) (fun hb => ?_) | refine FDg_cases (fun hb => ?_) (fun hb => ?_)) <;> rw [hb]) <;> (try simp only [hbs, Int.reduceBEq, Int.reduceBNe, Int.reduceEq] at hb; try (exfalso; omega))) | (with_reducible refine ret_r rfl ?_) | ((refine ret_c [.tmp 2] (by rfl) ?_); (try (refine RetK_cell _ _ _ _ _ _ rfl ?_; (repeat (with_reducible first | refine OnB.here ?_ | refine OnB.mid ?_ | refine OnB.next ?_))))) | ((refine RetK_cell _ _ _ _ _ _ rfl ?_); (repeat (with_reducible first | refine OnB.here ?_ | refine OnB.mid ?_ | refine OnB.next ?_))) | (with_reducible refine ret_n rfl ?_) | (first | (apply DOp.callq_ rfl rfl (h := check1_dc _); (repeat (first | exact Les.nil | refine Les.cons le.rfl_ ?_ | refine Les.cons (le.gs rfl) ?_ | refine Les.cons (le.gs List.map_nil.symm) ?_ | refine Les.cons (le.agg ?_) ?_)); (repeat (with_reducible first | exact Pulled.nil | apply Pulled.cons | exact Took.here | apply Took.next)); refine And.intro ?_ ?_; (exact sv); rintro d rfl))) <;> (simp (maxSteps := 1000000) (disch := omega) only [byte97, push_cast, ↓reduceIte, reduceCtorEq, Nat.reduceAdd, Nat.reduceMul, Nat.reduceLT, Nat.reduceLeDiff, Nat.reduceEqDiff, Nat.reduceSub, Int.reduceToNat, Int.reduceLT, Int.reduceLE, Int.reduceAdd, Int.reduceSub, Int.reduceMul, Int.reduceNeg, Nat.reduceBEq, Int.reduceBEq, Int.reduceBNe, Nat.reduceBNe, Int.reduceEq, ne_a, Int.reduceNeg]))
    | (with_reducible first | refine SeqD.opF [] rfl ?_ | refine SeqD.opgF [] rfl rfl ?_)
    | with_reducible intro b)
  all_goals first
  | (exact absurd trivial hb)
  | ((refine ⟨_, _, ?_, ⟨rfl, rfl⟩, ?_⟩; (first | exact le.rfl_ | exact le.gs rfl | refine le.of_eq ?_ | refine le.gs ?_); rotate_left; (repeat (with_reducible first | exact SubP.refl | exact SubP.nil | refine SubP.pick ?_ | refine Out.here ?_ | refine Out.next ?_ | refine SubP.drop ?_))); done)
theorem name1_dc  (F : Own) : (True) → DC Tryz.prog 108 [.str [97]] (([] : Own) ++ F) fun d G => d = .bool true ∧ G = [] ++ F := by
  intro hA
  refine DC.bodyS (n_ := 14) (show Tryz.prog.funcs[108]? = some Tryz.f108 by kernel_rfl) rfl rfl (by rfl) ?_
  simp only [env0, List.cons_append, List.nil_append]
  repeat' (first
    | ((with_reducible refine DW.loopB 0 (X := Nat) (fun x => x ≤ 1) (fun x => [(0, .str [97]), (6, .raw (.pointer (some ⟨b, 0, none⟩)))]) (fun x => .siter b [97] x :: ([] : Own)) (fun x => 1 - x) (0) ?_ ?_ ?_); exact (Nat.zero_le _); (simp [Sub, get, keepL] <;> fail); (try simp only [List.cons_append, List.nil_append]); (repeat (with_reducible first | refine Pull.nil ?_ | refine Pull.cons ?_ | refine Out.here ?_ | refine Out.next ?_)); intro k hk; (try simp only [List.cons_append, List.nil_append]); rcases (show k = 0 ∨ k = 1 by omega) with rfl | rfl)
    | with_reducible first | refine DW.sq ?_ | refine DW.block ?_ | refine DW.skip ?_ | refine DW.exit ?_
    | ((with_reducible refine DW.ret ?_))
    | with_reducible first | refine then_n ?_ | refine then_x ?_ | refine then_r ?_ | refine blk_n ?_ | refine blk_r ?_ | refine blk_x ?_
    | with_reducible refine blk_y (by decide) ?_
    | with_reducible first | refine Next.go ?_ | refine SeqD.nil ?_ | refine DV.nil ?_
    | ((with_reducible refine And.intro ?_ ?_); (exact sv))
    | with_reducible first | refine DW.ct_ ?_ | refine DW.cf_ ?_
    | (refine DW.cond (by rfl) (fun hb => ?_) (fun hb => ?_) <;> (try simp only [hbs, Int.reduceBEq, Int.reduceBNe, Int.reduceEq] at hb; try (exfalso; omega)))
    | ((first | ((with_reducible refine DW.regK [0, 2, 4, 6, 7, 8, 11] (by kernel_rfl) ?_); refine SeqD.go (own := []) _ _ ?_) | ((first | refine Both.imp (fun hb => ?_) (fun hb => ?_) | (with_reducible first | refine FVg_cases (fun hb => ?_) (fun hb => ?_) | refine FDg_cases (fun hb => ?_) (fun hb => ?_)) <;> rw [hb]) <;> (try simp only [hbs, Int.reduceBEq, Int.reduceBNe, Int.reduceEq] at hb; try (exfalso; omega))) | (with_reducible refine ret_r rfl ?_) | ((refine ret_c [.tmp 2] (by rfl) ?_); (try (refine RetK_cell _ _ _ _ _ _ rfl ?_; (repeat (with_reducible first | refine OnB.here ?_ | refine OnB.mid ?_ | refine OnB.next ?_))))) | ((refine RetK_cell _ _ _ _ _ _ rfl ?_); (repeat (with_reducible first | refine OnB.here ?_ | refine OnB.mid ?_ | refine OnB.next ?_))) | (with_reducible refine ret_n rfl ?_) | (first | ((first | apply DOp.callq_ rfl rfl (h := wild_dc _ _) | apply DOp.callq_ rfl rfl (h := text1_dc _)); (repeat (first | exact Les.nil | refine Les.cons le.rfl_ ?_ | refine Les.cons (le.gs rfl) ?_ | refine Les.cons (le.gs List.map_nil.symm) ?_ | refine Les.cons (le.agg ?_) ?_)); (repeat (with_reducible first | exact Pulled.nil | apply Pulled.cons | exact Took.here | apply Took.next)); refine And.intro ?_ ?_; (exact sv); rintro d rfl) | (refine DOp.ranges_ rfl rfl ?_) | (refine DOp.nexts_ rfl rfl ?_; (repeat (with_reducible first | refine OnI.here ?_ | refine OnI.next ?_))))) <;> (simp (maxSteps := 1000000) (disch := omega) only [push_cast, ↓reduceIte, reduceCtorEq, Nat.reduceAdd, Nat.reduceMul, Nat.reduceLT, Nat.reduceLeDiff, Nat.reduceEqDiff, Nat.reduceSub, Int.reduceToNat, Int.reduceLT, Int.reduceLE, Int.reduceAdd, Int.reduceSub, Int.reduceMul, Int.reduceNeg, Nat.reduceBEq, Int.reduceBEq, Int.reduceBNe, Nat.reduceBNe, Int.reduceEq, rune_a, wide_a]))
    | (with_reducible first | refine SeqD.opF [] rfl ?_ | refine SeqD.opgF [] rfl rfl ?_)
    | with_reducible intro b)
  all_goals first
  | (exfalso; simp at hb)
  | (refine ⟨1, ?_, ?_, ?_, ?_⟩; (((try simp only); omega)); (((try simp only); omega)); (simp [Sub, get] <;> (fail)); (try dsimp only); (repeat (with_reducible first | exact SubP.refl | exact SubP.nil | refine SubP.pick ?_ | refine Out.here ?_ | refine Out.next ?_ | refine SubP.drop ?_)); done)
  | ((refine ⟨_, _, ?_, ⟨rfl, rfl⟩, ?_⟩; (first | exact le.rfl_ | exact le.gs rfl | refine le.of_eq ?_ | refine le.gs ?_); rotate_left; (repeat (with_reducible first | exact SubP.refl | exact SubP.nil | refine SubP.pick ?_ | refine Out.here ?_ | refine Out.next ?_ | refine SubP.drop ?_))); done)
  | (exfalso; simp_all)
theorem right1_dc (fr ep at_ seq q : Int) (p : List UInt8) (F : Own) : ((0 ≤ fr ∧ fr ≤ 15) ∧ (1 ≤ ep ∧ ep ≤ 2147483647) ∧ (0 ≤ at_ ∧ at_ ≤ 1099511627776) ∧ (1 ≤ seq ∧ seq ≤ 2147483647) ∧ (0 ≤ q ∧ q ≤ 2)) → DC Tryz.prog 42 [.agg [.int .i64 3, .int .i64 fr, .int .i64 ep, .int .i64 at_, .sl [], .sl [], .sl [], .sl [], .sl [], .sl [], .int .i64 seq, .str [97], .sl (p.map u8), .int .i64 q, .bool false]] (([] : Own) ++ F) fun d G => d = .bool true ∧ G = [] ++ F := by
  intro hA
  obtain ⟨h1, h2, h3, h4, h5⟩ := hA
  refine DC.bodyS (n_ := 104) (show Tryz.prog.funcs[42]? = some Tryz.f42 by kernel_rfl) rfl rfl (by rfl) ?_
  simp only [env0, List.cons_append, List.nil_append]
  repeat' (first
    | with_reducible first | refine DW.sq ?_ | refine DW.block ?_ | refine DW.skip ?_ | refine DW.exit ?_
    | ((with_reducible refine DW.ret ?_))
    | with_reducible first | refine then_n ?_ | refine then_x ?_ | refine then_r ?_ | refine blk_n ?_ | refine blk_r ?_ | refine blk_x ?_
    | with_reducible refine blk_y (by decide) ?_
    | with_reducible first | refine Next.go ?_ | refine SeqD.nil ?_ | refine DV.nil ?_
    | ((with_reducible refine And.intro ?_ ?_); (exact sv))
    | with_reducible first | refine DW.ct_ ?_ | refine DW.cf_ ?_
    | (refine DW.cond (by rfl) (fun hb => ?_) (fun hb => ?_) <;> (try simp only [hbs, Int.reduceBEq, Int.reduceBNe, Int.reduceEq] at hb; try (exfalso; omega)))
    | ((first | ((with_reducible refine DW.regK [0, 1, 2, 3, 4, 5, 21, 46, 47, 64, 75] (by kernel_rfl) ?_); refine SeqD.go (own := []) _ _ ?_) | ((with_reducible refine DW.drawK (id := 3) [0, 1, 2, 3, 4, 5, 21, 46, 47, 64, 75] [] [1, 6, 11, 13, 15, 19, 21] (by kernel_rfl) (by kernel_rfl) (by kernel_rfl) ?_); refine DV.go [1, 6, 11, 13, 15, 19, 21] [] _ _ _ ?_) | ((first | refine Both.imp (fun hb => ?_) (fun hb => ?_) | (with_reducible first | refine FVg_cases (fun hb => ?_) (fun hb => ?_) | refine FDg_cases (fun hb => ?_) (fun hb => ?_)) <;> rw [hb]) <;> (try simp only [hbs, Int.reduceBEq, Int.reduceBNe, Int.reduceEq] at hb; try (exfalso; omega))) | (with_reducible refine ret_r rfl ?_) | ((refine ret_c [.tmp 2] (by rfl) ?_); (try (refine RetK_cell _ _ _ _ _ _ rfl ?_; (repeat (with_reducible first | refine OnB.here ?_ | refine OnB.mid ?_ | refine OnB.next ?_))))) | ((refine RetK_cell _ _ _ _ _ _ rfl ?_); (repeat (with_reducible first | refine OnB.here ?_ | refine OnB.mid ?_ | refine OnB.next ?_))) | (with_reducible refine ret_n rfl ?_) | ((with_reducible first | refine DV.mk rfl ?_ | refine DV.mkg rfl rfl ?_); (first | ((first | apply DVop.callq_ rfl rfl rfl rfl (h1 := in1_dc _ _ _ _) | apply DVop.callq_ rfl rfl rfl rfl (h1 := tsame0_dc _) | apply DVop.callq_ rfl rfl rfl rfl (h1 := name1_dc _)); (repeat (first | exact Les.nil | refine Les.cons le.rfl_ ?_ | refine Les.cons (le.gs rfl) ?_ | refine Les.cons (le.gs List.map_nil.symm) ?_ | refine Les.cons (le.agg ?_) ?_)); (repeat (with_reducible first | exact Pulled.nil | apply Pulled.cons | exact Took.here | apply Took.next)); refine And.intro ?_ ?_; (exact sv)) | (refine DVop.loada_ rfl rfl rfl rfl ?_; (repeat (with_reducible first | refine OnA.here ?_ | refine OnA.next ?_))) | (refine DVop.load_ rfl rfl rfl rfl ?_; (repeat (with_reducible first | refine OnB.here ?_ | refine OnB.mid ?_ | refine OnB.next ?_))) | (refine DVop.f_ rfl ?_))) | (first | ((first | apply DOp.callq_ rfl rfl (h := in1_dc _ _ _ _) | apply DOp.callq_ rfl rfl (h := tsame0_dc _) | apply DOp.callq_ rfl rfl (h := name1_dc _)); (repeat (first | exact Les.nil | refine Les.cons le.rfl_ ?_ | refine Les.cons (le.gs rfl) ?_ | refine Les.cons (le.gs List.map_nil.symm) ?_ | refine Les.cons (le.agg ?_) ?_)); (repeat (with_reducible first | exact Pulled.nil | apply Pulled.cons | exact Took.here | apply Took.next)); refine And.intro ?_ ?_; (exact sv); rintro d rfl) | (refine DOp.box_ rfl ?_) | (refine DOp.load_ rfl rfl ?_; (repeat (with_reducible first | refine OnB.here ?_ | refine OnB.mid ?_ | refine OnB.next ?_))) | (refine DOp.loada_ rfl rfl ?_; (repeat (with_reducible first | refine OnA.here ?_ | refine OnA.next ?_))))) <;> (simp (maxSteps := 1000000) (disch := omega) only [push_cast, ↓reduceIte, reduceCtorEq, Nat.reduceAdd, Nat.reduceMul, Nat.reduceLT, Nat.reduceLeDiff, Nat.reduceEqDiff, Nat.reduceSub, Int.reduceToNat, Int.reduceLT, Int.reduceLE, Int.reduceAdd, Int.reduceSub, Int.reduceMul, Int.reduceNeg, Nat.reduceBEq, Int.reduceBEq, Int.reduceBNe, Nat.reduceBNe, Int.reduceEq]))
    | (with_reducible first | refine SeqD.opF [] rfl ?_ | refine SeqD.opgF [] rfl rfl ?_)
    | ((with_reducible first | refine DV.mk rfl ?_ | refine DV.mkg rfl rfl ?_); (refine DVop.mv_ rfl ?_))
    | with_reducible intro b)
  all_goals first
  | ((refine ⟨_, _, ?_, ⟨rfl, rfl⟩, ?_⟩; (first | exact le.rfl_ | exact le.gs rfl | refine le.of_eq ?_ | refine le.gs ?_); rotate_left; (repeat (with_reducible first | exact SubP.refl | exact SubP.nil | refine SubP.pick ?_ | refine Out.here ?_ | refine Out.next ?_ | refine SubP.drop ?_))); done)
  | (exfalso; omega)
theorem right0_dc  (F : Own) : (True) → DC Tryz.prog 42 [.agg [.int .i64 0, .int .i64 0, .int .i64 0, .int .i64 0, .gs (.slice none 0 0) [], .gs (.slice none 0 0) [], .gs (.slice none 0 0) [], .gs (.slice none 0 0) [], .gs (.slice none 0 0) [], .gs (.slice none 0 0) [], .int .i64 0, .str [], .gs (.slice none 0 0) [], .int .i64 0, .bool false]] (([] : Own) ++ F) fun d G => d = .bool false ∧ G = [] ++ F := by
  intro hA
  refine DC.bodyS (n_ := 104) (show Tryz.prog.funcs[42]? = some Tryz.f42 by kernel_rfl) rfl rfl (by rfl) ?_
  simp only [env0, List.cons_append, List.nil_append]
  repeat' (first
    | with_reducible first | refine DW.sq ?_ | refine DW.block ?_ | refine DW.skip ?_ | refine DW.exit ?_
    | ((with_reducible refine DW.ret ?_))
    | with_reducible first | refine then_n ?_ | refine then_x ?_ | refine then_r ?_ | refine blk_n ?_ | refine blk_r ?_ | refine blk_x ?_
    | with_reducible refine blk_y (by decide) ?_
    | with_reducible first | refine Next.go ?_ | refine SeqD.nil ?_ | refine DV.nil ?_
    | ((with_reducible refine And.intro ?_ ?_); (exact sv))
    | with_reducible first | refine DW.ct_ ?_ | refine DW.cf_ ?_
    | (refine DW.cond (by rfl) (fun hb => ?_) (fun hb => ?_) <;> (try simp only [hbs, Int.reduceBEq, Int.reduceBNe, Int.reduceEq] at hb; try (exfalso; omega)))
    | ((first | ((with_reducible refine DW.regK [0, 1, 2, 3, 4, 5, 21, 46, 47, 64, 75] (by kernel_rfl) ?_); refine SeqD.go (own := []) _ _ ?_) | ((with_reducible refine DW.drawK (id := 3) [0, 1, 2, 3, 4, 5, 21, 46, 47, 64, 75] [] [1, 6, 11, 13, 15, 19, 21] (by kernel_rfl) (by kernel_rfl) (by kernel_rfl) ?_); refine DV.go [1, 6, 11, 13, 15, 19, 21] [] _ _ _ ?_) | ((first | refine Both.imp (fun hb => ?_) (fun hb => ?_) | (with_reducible first | refine FVg_cases (fun hb => ?_) (fun hb => ?_) | refine FDg_cases (fun hb => ?_) (fun hb => ?_)) <;> rw [hb]) <;> (try simp only [hbs, Int.reduceBEq, Int.reduceBNe, Int.reduceEq] at hb; try (exfalso; omega))) | (with_reducible refine ret_r rfl ?_) | ((refine ret_c [.tmp 2] (by rfl) ?_); (try (refine RetK_cell _ _ _ _ _ _ rfl ?_; (repeat (with_reducible first | refine OnB.here ?_ | refine OnB.mid ?_ | refine OnB.next ?_))))) | ((refine RetK_cell _ _ _ _ _ _ rfl ?_); (repeat (with_reducible first | refine OnB.here ?_ | refine OnB.mid ?_ | refine OnB.next ?_))) | (with_reducible refine ret_n rfl ?_) | ((with_reducible first | refine DV.mk rfl ?_ | refine DV.mkg rfl rfl ?_); (first | (apply DVop.callq_ rfl rfl rfl rfl (h1 := in1_dc _ _ _ _); (repeat (first | exact Les.nil | refine Les.cons le.rfl_ ?_ | refine Les.cons (le.gs rfl) ?_ | refine Les.cons (le.gs List.map_nil.symm) ?_ | refine Les.cons (le.agg ?_) ?_)); (repeat (with_reducible first | exact Pulled.nil | apply Pulled.cons | exact Took.here | apply Took.next)); refine And.intro ?_ ?_; (exact sv)) | (apply DVop.callq_ rfl rfl rfl rfl (h1 := in0_dc _ _ _ _); (repeat (first | exact Les.nil | refine Les.cons le.rfl_ ?_ | refine Les.cons (le.gs rfl) ?_ | refine Les.cons (le.gs List.map_nil.symm) ?_ | refine Les.cons (le.agg ?_) ?_)); (repeat (with_reducible first | exact Pulled.nil | apply Pulled.cons | exact Took.here | apply Took.next)); refine And.intro ?_ ?_; (exact sv)) | (refine DVop.loada_ rfl rfl rfl rfl ?_; (repeat (with_reducible first | refine OnA.here ?_ | refine OnA.next ?_))) | (refine DVop.load_ rfl rfl rfl rfl ?_; (repeat (with_reducible first | refine OnB.here ?_ | refine OnB.mid ?_ | refine OnB.next ?_))) | (refine DVop.f_ rfl ?_))) | (first | (apply DOp.callq_ rfl rfl (h := in1_dc _ _ _ _); (repeat (first | exact Les.nil | refine Les.cons le.rfl_ ?_ | refine Les.cons (le.gs rfl) ?_ | refine Les.cons (le.gs List.map_nil.symm) ?_ | refine Les.cons (le.agg ?_) ?_)); (repeat (with_reducible first | exact Pulled.nil | apply Pulled.cons | exact Took.here | apply Took.next)); refine And.intro ?_ ?_; (exact sv); rintro d rfl) | (apply DOp.callq_ rfl rfl (h := in0_dc _ _ _ _); (repeat (first | exact Les.nil | refine Les.cons le.rfl_ ?_ | refine Les.cons (le.gs rfl) ?_ | refine Les.cons (le.gs List.map_nil.symm) ?_ | refine Les.cons (le.agg ?_) ?_)); (repeat (with_reducible first | exact Pulled.nil | apply Pulled.cons | exact Took.here | apply Took.next)); refine And.intro ?_ ?_; (exact sv); rintro d rfl) | (refine DOp.box_ rfl ?_) | (refine DOp.load_ rfl rfl ?_; (repeat (with_reducible first | refine OnB.here ?_ | refine OnB.mid ?_ | refine OnB.next ?_))) | (refine DOp.loada_ rfl rfl ?_; (repeat (with_reducible first | refine OnA.here ?_ | refine OnA.next ?_))))) <;> (simp (maxSteps := 1000000) (disch := omega) only [push_cast, ↓reduceIte, reduceCtorEq, Nat.reduceAdd, Nat.reduceMul, Nat.reduceLT, Nat.reduceLeDiff, Nat.reduceEqDiff, Nat.reduceSub, Int.reduceToNat, Int.reduceLT, Int.reduceLE, Int.reduceAdd, Int.reduceSub, Int.reduceMul, Int.reduceNeg, Nat.reduceBEq, Int.reduceBEq, Int.reduceBNe, Nat.reduceBNe, Int.reduceEq]))
    | (with_reducible first | refine SeqD.opF [] rfl ?_ | refine SeqD.opgF [] rfl rfl ?_)
    | ((with_reducible first | refine DV.mk rfl ?_ | refine DV.mkg rfl rfl ?_); (refine DVop.mv_ rfl ?_))
    | with_reducible intro b)
  (refine ⟨_, _, ?_, ⟨rfl, rfl⟩, ?_⟩; (first | exact le.rfl_ | exact le.gs rfl | refine le.of_eq ?_ | refine le.gs ?_); rotate_left; (repeat (with_reducible first | exact SubP.refl | exact SubP.nil | refine SubP.pick ?_ | refine Out.here ?_ | refine Out.next ?_ | refine SubP.drop ?_)))
  all_goals rfl
end Go.Proofs.YtfamfamgopchnaaGreatDoor
