/- The next deed. -/
import Derived.Test.YtfamfamgopchnaaGreatDoorPt7
import Derived.KernelRfl
namespace Go.Proofs.YtfamfamgopchnaaGreatDoor
open Go.RowKit
set_option linter.unusedSimpArgs false
set_option linter.unusedVariables false
set_option linter.unusedSectionVars false
set_option maxHeartbeats 4000000
set_option maxRecDepth 100000


theorem DW.frzO2 {P : Program} {n : Nat} {Q : Exit → Env → Own → Prop} {e e' : Env} {H H' : Own} (id : Nat) {ops : Array Oper} {d : Bool} (v : Value) {l : List V} (h : OnA H v fun sz cs C => cs = cells l ∧ 0 < sz ∧ (∀ y ∈ l, y.n = sz) ∧ CvE v l e e' ∧ CvO v l (C (.tail sz v)) H' ∧ DW P n (.region id ops d) Q e' H') : DW P n (.region id ops d) Q e H := by
  obtain ⟨sz, cs, L1, L2, h0, h1, h2, h3, h4, h5, h6⟩ := h
  exact DW.frzOR id v ⟨sz, cs, L1, L2, h0, h1, h2, h3, h4, H', h5, h6⟩
attribute [local irreducible] DW SeqD DV DOp DC DVX DVJ
theorem next_dc (se : List TDot) (fe : List TFence) (ro : List TRoute) (ce : List TCell) (node epoch : Int) (F : Own) : ((se.length ≤ 1000000000 ∧ fe.length ≤ 1000000000 ∧ ro.length ≤ 1000000000 ∧ ce.length ≤ 1000000000 ∧ ∀ k, k < ce.length → (ce.getD k default).payload.length ≤ 1000000000) ∧ -1000000000000 ≤ topM se node epoch ∧ topM se node epoch ≤ 1000000000000) → DC Tryz.prog 71 [.agg [.sl (se.map encDot), .sl (fe.map encFence), .sl (ro.map encRoute), .sl (ce.map encCell)], .int .i64 node, .int .i64 epoch] (([] : Own) ++ F) fun d G => ∃ v2 v3 v4, d = .tup [.agg [.sl ((addM se ⟨node, epoch, topM se node epoch + 1⟩).map encDot), .ar v2 fe.length, .ar v3 ro.length, .gs v4 (ce.map encCell)], .agg [.int .i64 node, .int .i64 epoch, .int .i64 (topM se node epoch + 1)]] ∧ G = .arr 2 v2 (cells (fe.map encFence)) :: .arr 4 v3 (cells (ro.map encRoute)) :: F := by
  intro hA
  obtain ⟨hL, ht1, ht2⟩ := hA
  refine DC.bodyS (n_ := 27) (show Tryz.prog.funcs[71]? = some Tryz.f71 by kernel_rfl) rfl rfl (by rfl) ?_
  simp only [env0, List.cons_append, List.nil_append]
  have hs := hL.1
  repeat' (first
    | ((with_reducible apply DW.frzO2 2 v1); (repeat (with_reducible first | refine OnA.here ?_ | refine OnA.next ?_)); refine ⟨rfl, by decide, (by intro y hy; obtain ⟨x, _, rfl⟩ := List.mem_map.1 hy; rfl), ?_, ?_, ?_⟩; (focus (repeat (first | exact CvE.nil | apply CvE.cons (Cv.hit _) | apply CvE.cons (Cv.rfl _)))); (focus ((repeat (first | apply CvO.blk _ (by repeat (first | exact CvL.nil | apply CvL.cons (Cv.hit _) | apply CvL.cons (Cv.rfl _))) | apply CvO.keep | exact CvO.rfl_ _ _ _)))))
    | ((with_reducible apply DW.frzO2 2 v4); (repeat (with_reducible first | refine OnA.here ?_ | refine OnA.next ?_)); refine ⟨rfl, by decide, (by intro y hy; obtain ⟨x, _, rfl⟩ := List.mem_map.1 hy; rfl), ?_, ?_, ?_⟩; (focus (repeat (first | exact CvE.nil | apply CvE.cons (Cv.hit _) | apply CvE.cons (Cv.rfl _)))); (focus ((repeat (first | apply CvO.blk _ (by repeat (first | exact CvL.nil | apply CvL.cons (Cv.hit _) | apply CvL.cons (Cv.rfl _))) | apply CvO.keep | exact CvO.rfl_ _ _ _)))))
    | ((with_reducible apply DW.frzB 4 8); (focus (exact rfl)); (repeat (with_reducible first | refine Out.here ?_ | refine Out.next ?_)); simp only [put_cons, put_nil, Nat.reduceEqDiff, ↓reduceIte, if_true, if_false, reduceCtorEq])
    | with_reducible first | refine DW.sq ?_ | refine DW.block ?_ | refine DW.skip ?_ | refine DW.exit ?_
    | ((with_reducible refine DW.ret ?_))
    | with_reducible first | refine then_n ?_ | refine then_x ?_ | refine then_r ?_ | refine blk_n ?_ | refine blk_r ?_ | refine blk_x ?_
    | with_reducible refine blk_y (by decide) ?_
    | with_reducible first | refine Next.go ?_ | refine SeqD.nil ?_ | refine DV.nil ?_
    | ((with_reducible refine And.intro ?_ ?_); (first | exact sv | exact hL))
    | with_reducible first | refine DW.ct_ ?_ | refine DW.cf_ ?_
    | (refine DW.cond (by rfl) (fun hb => ?_) (fun hb => ?_) <;> (try simp only [hbs, Int.reduceBEq, Int.reduceBNe, Int.reduceEq] at hb; try (exfalso; omega)))
    | ((first | ((with_reducible refine DW.regK [0, 1, 2, 3, 6, 7, 8] (by kernel_rfl) ?_); refine SeqD.go (own := [3]) _ _ ?_) | ((with_reducible refine DW.drawK (id := 4) [0, 1, 2, 3, 6, 7, 8] [2, 3] [0] (by kernel_rfl) (by kernel_rfl) (by kernel_rfl) ?_); refine DV.go [0] [2, 3] _ _ _ ?_) | ((first | refine Both.imp (fun hb => ?_) (fun hb => ?_) | (with_reducible first | refine FVg_cases (fun hb => ?_) (fun hb => ?_) | refine FDg_cases (fun hb => ?_) (fun hb => ?_)) <;> rw [hb]) <;> (try simp only [hbs, Int.reduceBEq, Int.reduceBNe, Int.reduceEq] at hb; try (exfalso; omega))) | (with_reducible refine ret_r rfl ?_) | ((refine ret_c [.cell 6 35, .cell 7 48] (by rfl) ?_); (try (refine RetK_cell _ _ _ _ _ _ rfl ?_; (repeat (with_reducible first | refine OnB.here ?_ | refine OnB.mid ?_ | refine OnB.next ?_))))) | ((refine RetK_cell _ _ _ _ _ _ rfl ?_); (repeat (with_reducible first | refine OnB.here ?_ | refine OnB.mid ?_ | refine OnB.next ?_))) | (with_reducible refine ret_n rfl ?_) | ((with_reducible first | refine DV.mk rfl ?_ | refine DV.mkg rfl rfl ?_); (first | ((first | apply DVop.callq_ rfl rfl rfl rfl (h1 := ptop_dc _ _ _ _) | apply DVop.callq_ rfl rfl rfl rfl (h1 := padd_dc _ _ _ _ _)); (repeat (first | exact Les.nil | refine Les.cons le.rfl_ ?_ | refine Les.cons (le.gs rfl) ?_ | refine Les.cons (le.gs List.map_nil.symm) ?_ | refine Les.cons (le.agg ?_) ?_)); (repeat (with_reducible first | exact Pulled.nil | apply Pulled.cons | exact Took.here | apply Took.next)); refine And.intro ?_ ?_; (first | exact sv | exact hL)) | (refine DVop.loada_ rfl rfl rfl rfl ?_; (repeat (with_reducible first | refine OnA.here ?_ | refine OnA.next ?_))) | (refine DVop.load_ rfl rfl rfl rfl ?_; (repeat (with_reducible first | refine OnB.here ?_ | refine OnB.mid ?_ | refine OnB.next ?_))) | (refine DVop.f_ rfl ?_))) | (first | (apply DOp.callp_ rfl rfl (h := copy_dc _ _ _ _ _); (repeat (first | exact Les.nil | refine Les.cons le.rfl_ ?_ | refine Les.cons (le.gs rfl) ?_ | refine Les.cons (le.gs List.map_nil.symm) ?_ | refine Les.cons (le.agg ?_) ?_)); (repeat (with_reducible first | exact Pulled.nil | apply Pulled.cons | exact Took.here | apply Took.next)); refine And.intro ?_ ?_; (first | exact sv | exact hL); rintro d H1 ⟨v1, v2, v3, v4, rfl, rfl⟩) | ((first | apply DOp.callq_ rfl rfl (h := ptop_dc _ _ _ _) | apply DOp.callq_ rfl rfl (h := padd_dc _ _ _ _ _)); (repeat (first | exact Les.nil | refine Les.cons le.rfl_ ?_ | refine Les.cons (le.gs rfl) ?_ | refine Les.cons (le.gs List.map_nil.symm) ?_ | refine Les.cons (le.agg ?_) ?_)); (repeat (with_reducible first | exact Pulled.nil | apply Pulled.cons | exact Took.here | apply Took.next)); refine And.intro ?_ ?_; (first | exact sv | exact hL); rintro d rfl) | (refine DOp.alloc_ rfl ?_) | (refine DOp.box_ rfl ?_) | (refine DOp.store_ rfl rfl ?_; (repeat (with_reducible first | refine OnB.here ?_ | refine OnB.mid ?_ | refine OnB.next ?_))) | (refine DOp.load_ rfl rfl ?_; (repeat (with_reducible first | refine OnB.here ?_ | refine OnB.mid ?_ | refine OnB.next ?_))) | (refine DOp.loada_ rfl rfl ?_; (repeat (with_reducible first | refine OnA.here ?_ | refine OnA.next ?_))) | (refine DOp.storea_ rfl rfl ?_; (repeat (with_reducible first | refine OnA.here ?_ | refine OnA.next ?_))))) <;> (simp (maxSteps := 1000000) (disch := omega) only [push_cast, ↓reduceIte, reduceCtorEq, Nat.reduceAdd, Nat.reduceMul, Nat.reduceLT, Nat.reduceLeDiff, Nat.reduceEqDiff, Nat.reduceSub, Int.reduceToNat, Int.reduceLT, Int.reduceLE, Int.reduceAdd, Int.reduceSub, Int.reduceMul, Int.reduceNeg, Nat.reduceBEq, Int.reduceBEq, Int.reduceBNe, Nat.reduceBNe, Int.reduceEq]))
    | (with_reducible first | refine SeqD.opF [3] rfl ?_ | refine SeqD.opgF [3] rfl rfl ?_)
    | ((with_reducible first | refine DV.mk rfl ?_ | refine DV.mkg rfl rfl ?_); (refine DVop.mv_ rfl ?_))
    | ((fail_if_success (have zz := b1)); with_reducible intro b1)
    | ((fail_if_success (have zz := b2)); with_reducible intro b2)
    | ((fail_if_success (have zz := b3)); with_reducible intro b3)
    | with_reducible intro b)
  all_goals first
  | (refine ⟨_, _, le.rfl_, ⟨_, _, _, rfl, rfl⟩, ?_⟩; (repeat (with_reducible first | exact SubP.refl | exact SubP.nil | refine SubP.pick ?_ | refine Out.here ?_ | refine Out.next ?_ | refine SubP.drop ?_)); done)
end Go.Proofs.YtfamfamgopchnaaGreatDoor
