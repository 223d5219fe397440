/- Routes come. -/
import Derived.Test.YtfamfamgopchnaaGreatDoorRd5
import Derived.Test.YtfamfamgopchnaaGreatDoorRf3
import Derived.KernelRfl
namespace Go.Proofs.YtfamfamgopchnaaGreatDoor
open Go.RowKit
set_option linter.unusedSimpArgs false
set_option linter.unusedVariables false
set_option linter.unusedSectionVars false
set_option maxHeartbeats 4000000
set_option maxRecDepth 100000
attribute [local irreducible] DW SeqD DV DOp DC DVX


theorem withoutR_len (ro : List TRoute) (node epoch : Int) (f : Str) : (withoutR ro node epoch f).length ≤ ro.length := List.length_filter_le _ _
def nextDot (se : List TDot) (node epoch : Int) : TDot := ⟨node, epoch, topM se node epoch + 1⟩
theorem routeadd_dc (se : List TDot) (fe : List TFence) (ro : List TRoute) (ce : List TCell) (node epoch : Int) (f : Str) (F : Own) : ((se.length ≤ 1000000000 ∧ fe.length ≤ 1000000000 ∧ ro.length ≤ 1000000000 ∧ ce.length ≤ 1000000000) ∧ f.length ≤ 1000000000 ∧ -1000000000000 ≤ topM se node epoch ∧ topM se node epoch ≤ 1000000000000) → DC Tryz.prog 27 [.agg [.sl (se.map encDot), .sl (fe.map encFence), .sl (ro.map encRoute), .sl (ce.map encCell)], .int .i64 node, .int .i64 epoch, .str f] (([] : Own) ++ F) fun d G => ((filterB f = false ∨ pairB node epoch = false ∨ fencedL fe node epoch = true) ∧ d = .agg [.sl (se.map encDot), .sl (fe.map encFence), .sl (ro.map encRoute), .sl (ce.map encCell)] ∨ (filterB f = true ∧ pairB node epoch = true ∧ fencedL fe node epoch = false) ∧ d = .agg [.sl ((addM se (nextDot se node epoch)).map encDot), .sl (fe.map encFence), .sl ((insR (withoutR ro node epoch f) ⟨nextDot se node epoch, f⟩).map encRoute), .sl (ce.map encCell)]) ∧ G = [] ++ F := by
  intro hA
  obtain ⟨⟨hs, hf, hr, hc⟩, hl, h1, h2⟩ := hA
  refine DC.bodyS (n_ := 53) (show Tryz.prog.funcs[27]? = some Tryz.f27 by kernel_rfl) rfl rfl (by rfl) ?_
  simp only [env0, List.cons_append, List.nil_append]
  have hwl := withoutR_len ro node epoch f
  repeat' (first
    | with_reducible first | refine DW.sq ?_ | refine DW.block ?_ | refine DW.skip ?_ | refine DW.exit ?_
    | ((with_reducible refine DW.ret ?_))
    | with_reducible first | refine then_n ?_ | refine then_x ?_ | refine then_r ?_ | refine blk_n ?_ | refine blk_r ?_ | refine blk_x ?_
    | with_reducible refine blk_y (by decide) ?_
    | with_reducible first | refine Next.go ?_ | refine SeqD.nil ?_ | refine DV.nil ?_
    | ((with_reducible refine And.intro ?_ ?_); (first | exact sv | (simp [encDot, encRoute, encFence, V.one]; omega) | (simp [encRoute, encDot, encFence, V.one, List.length_take, List.length_drop] <;> omega) | (refine ⟨by omega, by omega, ?_⟩; intro y hy; rcases List.mem_append.1 hy with hy | hy; (obtain ⟨x, _, rfl⟩ := List.mem_map.1 hy; rfl); (simp only [List.mem_singleton] at hy; subst hy; rfl)) | (refine ⟨by omega, by omega, ?_⟩; intro y hy; obtain ⟨x, _, rfl⟩ := List.mem_map.1 hy; first | rfl | exact ⟨rfl, rfl⟩) | (refine ⟨?_, ?_, ?_, ?_⟩ <;> first | omega | (simp only [List.length_append, List.length_singleton]; omega))))
    | with_reducible first | refine DW.ct_ ?_ | refine DW.cf_ ?_
    | (refine DW.cond (by rfl) (fun hb => ?_) (fun hb => ?_) <;> (try simp only [hbs, Int.reduceBEq, Int.reduceBNe, Int.reduceEq] at hb; try (exfalso; omega)))
    | ((first | ((with_reducible refine DW.regK [0, 1, 2, 3, 4, 8, 9, 10, 26] (by kernel_rfl) ?_); refine SeqD.go (own := [4]) _ _ ?_) | ((first | refine Both.imp (fun hb => ?_) (fun hb => ?_) | (with_reducible first | refine FVg_cases (fun hb => ?_) (fun hb => ?_) | refine FDg_cases (fun hb => ?_) (fun hb => ?_)) <;> rw [hb]) <;> (try simp only [hbs, Int.reduceBEq, Int.reduceBNe, Int.reduceEq] at hb; try (exfalso; omega))) | (with_reducible refine ret_r rfl ?_) | ((refine ret_c [.cell 8 35] (by rfl) ?_); (try (refine RetK_cell _ _ _ _ _ _ rfl ?_; (repeat (with_reducible first | refine OnB.here ?_ | refine OnB.mid ?_ | refine OnB.next ?_))))) | ((refine RetK_cell _ _ _ _ _ _ rfl ?_); (repeat (with_reducible first | refine OnB.here ?_ | refine OnB.mid ?_ | refine OnB.next ?_))) | (with_reducible refine ret_n rfl ?_) | (first | ((first | apply DOp.callq_ rfl rfl (h := rfilter_dc _ _) | apply DOp.callq_ rfl rfl (h := pair_dc _ _ _) | apply DOp.callq_ rfl rfl (h := rfenced9_dc _ _ _ _ _ _ _) | apply DOp.callq_ rfl rfl (h := deed_dc _ _ _ _ _ _ _) | apply DOp.callq_ rfl rfl (h := radd_dc _ _ _ _ _) | apply DOp.callq_ rfl rfl (h := without_dc _ _ _ _ _) | apply DOp.callq_ rfl rfl (h := insert_dc _ _ _ _ _ _)); (repeat (first | exact Les.nil | refine Les.cons le.rfl_ ?_ | refine Les.cons (le.gs rfl) ?_ | refine Les.cons (le.gs List.map_nil.symm) ?_ | refine Les.cons (le.agg ?_) ?_)); (repeat (with_reducible first | exact Pulled.nil | apply Pulled.cons | exact Took.here | apply Took.next)); refine And.intro ?_ ?_; (first | exact sv | (simp [encDot, encRoute, encFence, V.one]; omega) | (simp [encRoute, encDot, encFence, V.one, List.length_take, List.length_drop] <;> omega) | (refine ⟨by omega, by omega, ?_⟩; intro y hy; rcases List.mem_append.1 hy with hy | hy; (obtain ⟨x, _, rfl⟩ := List.mem_map.1 hy; rfl); (simp only [List.mem_singleton] at hy; subst hy; rfl)) | (refine ⟨by omega, by omega, ?_⟩; intro y hy; obtain ⟨x, _, rfl⟩ := List.mem_map.1 hy; first | rfl | exact ⟨rfl, rfl⟩) | (refine ⟨?_, ?_, ?_, ?_⟩ <;> first | omega | (simp only [List.length_append, List.length_singleton]; omega))); rintro d rfl) | (refine DOp.alloc_ rfl ?_) | (refine DOp.box_ rfl ?_) | (refine DOp.store_ rfl rfl ?_; (repeat (with_reducible first | refine OnB.here ?_ | refine OnB.mid ?_ | refine OnB.next ?_))) | (refine DOp.load_ rfl rfl ?_; (repeat (with_reducible first | refine OnB.here ?_ | refine OnB.mid ?_ | refine OnB.next ?_))) | (refine DOp.loada_ rfl rfl ?_; (repeat (with_reducible first | refine OnA.here ?_ | refine OnA.next ?_))) | (refine DOp.storea_ rfl rfl ?_; (repeat (with_reducible first | refine OnA.here ?_ | refine OnA.next ?_))))) <;> (simp (maxSteps := 1000000) (disch := omega) only [push_cast, ↓reduceIte, reduceCtorEq, Nat.reduceAdd, Nat.reduceMul, Nat.reduceLT, Nat.reduceLeDiff, Nat.reduceEqDiff, Nat.reduceSub, Int.reduceToNat, Int.reduceLT, Int.reduceLE, Int.reduceAdd, Int.reduceSub, Int.reduceMul, Int.reduceNeg, Nat.reduceBEq, Int.reduceBEq, Int.reduceBNe, Nat.reduceBNe, Int.reduceEq, encDot]))
    | (with_reducible first | refine SeqD.opF [4] rfl ?_ | refine SeqD.opgF [4] rfl rfl ?_)
    | with_reducible intro b)
  all_goals first
  | (refine ⟨_, _, le.rfl_, ⟨.inl ⟨by first | (left; assumption) | (right; left; assumption) | (right; right; assumption), rfl⟩, rfl⟩, ?_⟩; (repeat (with_reducible first | exact SubP.refl | exact SubP.nil | refine SubP.pick ?_ | refine Out.here ?_ | refine Out.next ?_ | refine SubP.drop ?_)); done)
  | (refine ⟨_, _, le.rfl_, ⟨.inr ⟨⟨by assumption, by assumption, by assumption⟩, rfl⟩, rfl⟩, ?_⟩; (repeat (with_reducible first | exact SubP.refl | exact SubP.nil | refine SubP.pick ?_ | refine Out.here ?_ | refine Out.next ?_ | refine SubP.drop ?_)); done)
end Go.Proofs.YtfamfamgopchnaaGreatDoor
