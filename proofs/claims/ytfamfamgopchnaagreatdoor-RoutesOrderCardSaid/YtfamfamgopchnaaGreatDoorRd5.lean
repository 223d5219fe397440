/- Fences come; routes go. -/
import Derived.Test.YtfamfamgopchnaaGreatDoorRd4
import Derived.KernelRfl
namespace Go.Proofs.YtfamfamgopchnaaGreatDoor
open Go.RowKit
set_option linter.unusedSimpArgs false
set_option linter.unusedVariables false
set_option linter.unusedSectionVars false
set_option maxHeartbeats 4000000
set_option maxRecDepth 100000
attribute [local irreducible] DW SeqD DV DOp DC DVX


def stepFe (node epoch : Int) (acc : List TFence × Bool) (f : TFence) : List TFence × Bool :=
  if f.node = node then (if acc.2 = false ∧ node ≤ f.node then (acc.1 ++ [⟨node, epoch⟩], true) else acc)
  else (if acc.2 = false ∧ node ≤ f.node then (acc.1 ++ [⟨node, epoch⟩] ++ [f], true) else (acc.1 ++ [f], acc.2))
def fenceAcc (fe : List TFence) (node epoch : Int) (k : Nat) : List TFence × Bool := (fe.take k).foldl (stepFe node epoch) ([], false)
theorem fenceAcc_0 (fe : List TFence) (node epoch : Int) : fenceAcc fe node epoch 0 = ([], false) := rfl
theorem fenceAcc_more {fe : List TFence} {node epoch : Int} {k : Nat} (h : k < fe.length) : fenceAcc fe node epoch (k + 1) = stepFe node epoch (fenceAcc fe node epoch k) (fe.getD k default) := foldl_more _ _ h
theorem stepFe_len (node epoch : Int) (a : List TFence × Bool) (f : TFence) : (stepFe node epoch a f).1.length ≤ a.1.length + 2 := by
  unfold stepFe; split <;> split <;> simp
theorem fenceAcc_len (fe : List TFence) (node epoch : Int) (k : Nat) (hk : k ≤ fe.length) : (fenceAcc fe node epoch k).1.length ≤ 2 * k := by
  induction k with
  | zero => simp [fenceAcc]
  | succ k ih => rw [fenceAcc_more (by omega)]; have := stepFe_len node epoch (fenceAcc fe node epoch k) (fe.getD k default); have := ih (by omega); omega
def fenceL (fe : List TFence) (node epoch : Int) : List TFence := if (fenceAcc fe node epoch fe.length).2 = true then (fenceAcc fe node epoch fe.length).1 else (fenceAcc fe node epoch fe.length).1 ++ [⟨node, epoch⟩]
theorem fence_snoc (l : List TFence) (a b : Int) : List.map encFence l ++ [V.agg [.int .i64 a, .int .i64 b]] = List.map encFence (l ++ [⟨a, b⟩]) := by simp [encFence]
theorem stepFe_1 {node epoch : Int} {a : List TFence × Bool} {f : TFence} (h1 : a.2 = false) (h2 : node ≤ f.node) (h3 : ¬ f.node = node) : stepFe node epoch a f = (a.1 ++ [⟨node, epoch⟩] ++ [f], true) := by rw [stepFe, if_neg h3, if_pos ⟨h1, h2⟩]
theorem stepFe_2 {node epoch : Int} {a : List TFence × Bool} {f : TFence} (h1 : a.2 = false) (h3 : f.node = node) : stepFe node epoch a f = (a.1 ++ [⟨node, epoch⟩], true) := by rw [stepFe, if_pos h3, if_pos ⟨h1, by omega⟩]
theorem stepFe_3 {node epoch : Int} {a : List TFence × Bool} {f : TFence} (h1 : a.2 = true ∨ f.node < node) (h3 : ¬ f.node = node) : stepFe node epoch a f = (a.1 ++ [f], a.2) := by
  rw [stepFe, if_neg h3, if_neg]
  rintro ⟨x, y⟩
  rcases h1 with h | h
  · rw [h] at x; cases x
  · omega
theorem stepFe_4 {node epoch : Int} {a : List TFence × Bool} {f : TFence} (h1 : a.2 = true) (h3 : f.node = node) : stepFe node epoch a f = a := by
  rw [stepFe, if_pos h3, if_neg]
  rintro ⟨x, y⟩
  rw [h1] at x; cases x
theorem fence_eta (f : TFence) : (⟨f.node, f.epoch⟩ : TFence) = f := rfl
theorem rfence_dc (se : List TDot) (fe : List TFence) (ro : List TRoute) (ce : List TCell) (node epoch : Int) (F : Own) : ((se.length ≤ 1000000000 ∧ fe.length ≤ 1000000000 ∧ ro.length ≤ 1000000000 ∧ ce.length ≤ 1000000000) ∧ fe.length ≤ 100000000) → DC Tryz.prog 29 [.agg [.sl (se.map encDot), .sl (fe.map encFence), .sl (ro.map encRoute), .sl (ce.map encCell)], .int .i64 node, .int .i64 epoch] (([] : Own) ++ F) fun d G => ((pairB node epoch = false ∨ fencedL fe node epoch = true) ∧ d = .agg [.sl (se.map encDot), .sl (fe.map encFence), .sl (ro.map encRoute), .sl (ce.map encCell)] ∨ (pairB node epoch = true ∧ fencedL fe node epoch = false) ∧ d = .agg [.sl (se.map encDot), .sl ((fenceL fe node epoch).map encFence), .sl ((unfR (fenceL fe node epoch) ro).map encRoute), .sl (ce.map encCell)]) ∧ G = [] ++ F := by
  intro hA
  obtain ⟨⟨hs, hf, hr, hc⟩, hf2⟩ := hA
  refine DC.bodyS (n_ := 68) (show Tryz.prog.funcs[29]? = some Tryz.f29 by kernel_rfl) rfl rfl (by rfl) ?_
  simp only [env0, List.cons_append, List.nil_append]
  refine DW.tail0 2 ?_
  repeat' (first
    | (rename_i bb hb1; ((with_reducible refine DW.loopB 0 (X := Nat × Value) (fun x => x.1 ≤ fe.length) (fun x => [(1, .int .i64 node), (2, .int .i64 epoch), (3, .raw (.pointer (some ⟨bb, 0, none⟩))), (6, .raw (.pointer (some ⟨b, 0, none⟩))), (7, .gs x.2 ((fenceAcc fe node epoch x.1).1.map encFence)), (8, .bool (fenceAcc fe node epoch x.1).2), (9, .int .i64 x.1)]) (fun x => .tail 2 x.2 :: .blk bb [.sl (se.map encDot), .sl (fe.map encFence), .sl (ro.map encRoute), .sl (ce.map encCell)] :: ([] : Own)) (fun x => fe.length - x.1) ((0, .slice none 0 0)) ?_ ?_ ?_); exact (Nat.zero_le _); (simp [Sub, get, keepL, fenceAcc_0] <;> fail); (try simp only [List.cons_append, List.nil_append]); (repeat (with_reducible first | refine Pull.nil ?_ | refine Pull.cons ?_ | refine Out.here ?_ | refine Out.next ?_)); intro ⟨k, v⟩ hk; (try simp only [List.cons_append, List.nil_append]); have hlk := fenceAcc_len fe node epoch k hk; simp only at hk))
    | with_reducible first | refine DW.sq ?_ | refine DW.block ?_ | refine DW.skip ?_ | refine DW.exit ?_
    | ((with_reducible refine DW.ret ?_))
    | with_reducible first | refine then_n ?_ | refine then_x ?_ | refine then_r ?_ | refine blk_n ?_ | refine blk_r ?_ | refine blk_x ?_
    | with_reducible refine blk_y (by decide) ?_
    | with_reducible first | refine Next.go ?_ | refine SeqD.nil ?_ | refine DV.nil ?_
    | ((with_reducible refine And.intro ?_ ?_); (first | exact sv | (simp [encDot, encRoute, encFence, V.one]; omega) | (simp [encRoute, encDot, encFence, V.one, List.length_take, List.length_drop] <;> omega) | (refine ⟨by omega, by omega, ?_⟩; intro y hy; rcases List.mem_append.1 hy with hy | hy; (obtain ⟨x, _, rfl⟩ := List.mem_map.1 hy; rfl); (simp only [List.mem_singleton] at hy; subst hy; rfl)) | (refine ⟨by omega, by omega, ?_⟩; intro y hy; obtain ⟨x, _, rfl⟩ := List.mem_map.1 hy; first | rfl | exact ⟨rfl, rfl⟩) | (refine ⟨?_, ?_, ?_, ?_⟩ <;> first | omega | (simp only [List.length_append, List.length_singleton]; omega))))
    | with_reducible first | refine DW.ct_ ?_ | refine DW.cf_ ?_
    | (refine DW.cond (by rfl) (fun hb => ?_) (fun hb => ?_) <;> (try simp only [hbs, Int.reduceBEq, Int.reduceBNe, Int.reduceEq] at hb; try (exfalso; omega)))
    | ((first | ((with_reducible refine DW.regK [0, 1, 2, 3, 6, 7, 8, 9, 10, 20, 26, 41, 51, 57] (by kernel_rfl) ?_); refine SeqD.go (own := [3]) _ _ ?_) | ((first | refine Both.imp (fun hb => ?_) (fun hb => ?_) | (with_reducible first | refine FVg_cases (fun hb => ?_) (fun hb => ?_) | refine FDg_cases (fun hb => ?_) (fun hb => ?_)) <;> rw [hb]) <;> (try simp only [hbs, Int.reduceBEq, Int.reduceBNe, Int.reduceEq] at hb; try (exfalso; omega))) | (with_reducible refine ret_r rfl ?_) | ((refine ret_c [.cell 6 35] (by rfl) ?_); (try (refine RetK_cell _ _ _ _ _ _ rfl ?_; (repeat (with_reducible first | refine OnB.here ?_ | refine OnB.mid ?_ | refine OnB.next ?_))))) | ((refine RetK_cell _ _ _ _ _ _ rfl ?_); (repeat (with_reducible first | refine OnB.here ?_ | refine OnB.mid ?_ | refine OnB.next ?_))) | (with_reducible refine ret_n rfl ?_) | (first | ((first | apply DOp.callq_ rfl rfl (h := pair_dc _ _ _) | apply DOp.callq_ rfl rfl (h := rfenced9_dc _ _ _ _ _ _ _) | apply DOp.callq_ rfl rfl (h := unfenced_dc _ _ _ _ _)); (repeat (first | exact Les.nil | refine Les.cons le.rfl_ ?_ | refine Les.cons (le.gs rfl) ?_ | refine Les.cons (le.gs List.map_nil.symm) ?_ | refine Les.cons (le.agg ?_) ?_)); (repeat (with_reducible first | exact Pulled.nil | apply Pulled.cons | exact Took.here | apply Took.next)); refine And.intro ?_ ?_; (first | exact sv | (simp [encDot, encRoute, encFence, V.one]; omega) | (simp [encRoute, encDot, encFence, V.one, List.length_take, List.length_drop] <;> omega) | (refine ⟨by omega, by omega, ?_⟩; intro y hy; rcases List.mem_append.1 hy with hy | hy; (obtain ⟨x, _, rfl⟩ := List.mem_map.1 hy; rfl); (simp only [List.mem_singleton] at hy; subst hy; rfl)) | (refine ⟨by omega, by omega, ?_⟩; intro y hy; obtain ⟨x, _, rfl⟩ := List.mem_map.1 hy; first | rfl | exact ⟨rfl, rfl⟩) | (refine ⟨?_, ?_, ?_, ?_⟩ <;> first | omega | (simp only [List.length_append, List.length_singleton]; omega))); rintro d rfl) | (refine DOp.alloc_ rfl ?_) | (refine DOp.box_ rfl ?_) | (refine DOp.list_ rfl ?_) | (refine DOp.store_ rfl rfl ?_; (repeat (with_reducible first | refine OnB.here ?_ | refine OnB.mid ?_ | refine OnB.next ?_))) | (refine DOp.load_ rfl rfl ?_; (repeat (with_reducible first | refine OnB.here ?_ | refine OnB.mid ?_ | refine OnB.next ?_))) | (refine DOp.loada_ rfl rfl ?_; (repeat (with_reducible first | refine OnA.here ?_ | refine OnA.next ?_))) | (refine DOp.storea_ rfl rfl ?_; (repeat (with_reducible first | refine OnA.here ?_ | refine OnA.next ?_))) | (refine DOp.appa_ rfl rfl rfl ?_; (repeat (with_reducible first | refine OnA.here ?_ | refine OnA.next ?_))) | (refine DOp.appz_ rfl rfl rfl ?_; (repeat (with_reducible first | refine OnT.here ?_ | refine OnT.next ?_)); (fail_if_success (with_reducible refine OnT_id ?_))) | (refine DOp.append0_ rfl rfl rfl ?_))) <;> (simp (maxSteps := 1000000) (disch := omega) only [push_cast, ↓reduceIte, reduceCtorEq, Nat.reduceAdd, Nat.reduceMul, Nat.reduceLT, Nat.reduceLeDiff, Nat.reduceEqDiff, Nat.reduceSub, Int.reduceToNat, Int.reduceLT, Int.reduceLE, Int.reduceAdd, Int.reduceSub, Int.reduceMul, Int.reduceNeg, Nat.reduceBEq, Int.reduceBEq, Int.reduceBNe, Nat.reduceBNe, Int.reduceEq, encFence, fence_eta, fence_snoc]))
    | (with_reducible first | refine SeqD.opF [3] rfl ?_ | refine SeqD.opgF [3] rfl rfl ?_)
    | with_reducible intro b)
  all_goals first
  | (refine ⟨_, _, le.rfl_, ⟨.inl ⟨by first | (left; assumption) | (right; assumption), rfl⟩, rfl⟩, ?_⟩; (repeat (with_reducible first | exact SubP.refl | exact SubP.nil | refine SubP.pick ?_ | refine Out.here ?_ | refine Out.next ?_ | refine SubP.drop ?_)); done)
  | (have hd : (fenceAcc fe node epoch k).2 = false := by assumption
     have hs2 := (fenceAcc_more (node := node) (epoch := epoch) (show k < fe.length by omega)).trans (stepFe_1 hd (by omega) (by omega))
     refine ⟨(k + 1, b), ?_, ?_, ?_, ?_⟩; (((try simp only); omega)); (((try simp only); omega)); (simp [Sub, get, hs2, encFence, hd] <;> (fail)); (try dsimp only); (repeat (with_reducible first | exact SubP.refl | exact SubP.nil | refine SubP.pick ?_ | refine Out.here ?_ | refine Out.next ?_ | refine SubP.drop ?_)); done)
  | (have hd : (fenceAcc fe node epoch k).2 = false := by assumption
     have hs2 := (fenceAcc_more (node := node) (epoch := epoch) (show k < fe.length by omega)).trans (stepFe_2 hd (by omega))
     refine ⟨(k + 1, b), ?_, ?_, ?_, ?_⟩; (((try simp only); omega)); (((try simp only); omega)); (simp [Sub, get, hs2, encFence, hd] <;> (fail)); (try dsimp only); (repeat (with_reducible first | exact SubP.refl | exact SubP.nil | refine SubP.pick ?_ | refine Out.here ?_ | refine Out.next ?_ | refine SubP.drop ?_)); done)
  | (have hd : (fenceAcc fe node epoch k).2 = false := by assumption
     have hs2 := (fenceAcc_more (node := node) (epoch := epoch) (show k < fe.length by omega)).trans (stepFe_3 (.inr (by omega)) (by omega))
     refine ⟨(k + 1, b), ?_, ?_, ?_, ?_⟩; (((try simp only); omega)); (((try simp only); omega)); (simp [Sub, get, hs2, encFence, hd] <;> (fail)); (try dsimp only); (repeat (with_reducible first | exact SubP.refl | exact SubP.nil | refine SubP.pick ?_ | refine Out.here ?_ | refine Out.next ?_ | refine SubP.drop ?_)); done)
  | (have hd : (fenceAcc fe node epoch k).2 = true := by assumption
     have hs2 := (fenceAcc_more (node := node) (epoch := epoch) (show k < fe.length by omega)).trans (stepFe_3 (.inl hd) (by omega))
     refine ⟨(k + 1, b), ?_, ?_, ?_, ?_⟩; (((try simp only); omega)); (((try simp only); omega)); (simp [Sub, get, hs2, encFence, hd] <;> (fail)); (try dsimp only); (repeat (with_reducible first | exact SubP.refl | exact SubP.nil | refine SubP.pick ?_ | refine Out.here ?_ | refine Out.next ?_ | refine SubP.drop ?_)); done)
  | (have hd : (fenceAcc fe node epoch k).2 = true := by assumption
     have hs2 := (fenceAcc_more (node := node) (epoch := epoch) (show k < fe.length by omega)).trans (stepFe_4 hd (by omega))
     refine ⟨(k + 1, v), ?_, ?_, ?_, ?_⟩; (((try simp only); omega)); (((try simp only); omega)); (simp [Sub, get, hs2, encFence, hd] <;> (fail)); (try dsimp only); (repeat (with_reducible first | exact SubP.refl | exact SubP.nil | refine SubP.pick ?_ | refine Out.here ?_ | refine Out.next ?_ | refine SubP.drop ?_)); done)
  | (have hkl : k = fe.length := by omega
     subst hkl
     have e : fenceL fe node epoch = (fenceAcc fe node epoch fe.length).1 := by rw [fenceL, if_pos (by assumption)]
     rw [e]; refine ⟨_, _, le.rfl_, ⟨.inr ⟨⟨by assumption, by assumption⟩, rfl⟩, rfl⟩, ?_⟩; (repeat (with_reducible first | exact SubP.refl | exact SubP.nil | refine SubP.pick ?_ | refine Out.here ?_ | refine Out.next ?_ | refine SubP.drop ?_)); done)
  | (have hkl : k = fe.length := by omega
     subst hkl
     have e : fenceL fe node epoch = (fenceAcc fe node epoch fe.length).1 ++ [⟨node, epoch⟩] := by rw [fenceL, if_neg (by simp_all)]
     rw [e]; refine ⟨_, _, le.rfl_, ⟨.inr ⟨⟨by assumption, by assumption⟩, rfl⟩, rfl⟩, ?_⟩; (repeat (with_reducible first | exact SubP.refl | exact SubP.nil | refine SubP.pick ?_ | refine Out.here ?_ | refine Out.next ?_ | refine SubP.drop ?_)); done)
theorem rdrop_dc (se : List TDot) (fe : List TFence) (ro : List TRoute) (ce : List TCell) (node epoch : Int) (f : Str) (F : Own) : ((se.length ≤ 1000000000 ∧ fe.length ≤ 1000000000 ∧ ro.length ≤ 1000000000 ∧ ce.length ≤ 1000000000) ∧ -1000000000000 ≤ topM se node epoch ∧ topM se node epoch ≤ 1000000000000) → DC Tryz.prog 28 [.agg [.sl (se.map encDot), .sl (fe.map encFence), .sl (ro.map encRoute), .sl (ce.map encCell)], .int .i64 node, .int .i64 epoch, .str f] (([] : Own) ++ F) fun d G => (ro.length ≤ (withoutR ro node epoch f).length ∧ d = .agg [.sl (se.map encDot), .sl (fe.map encFence), .sl (ro.map encRoute), .sl (ce.map encCell)] ∨ (withoutR ro node epoch f).length < ro.length ∧ d = .agg [.sl ((addM se ⟨node, epoch, topM se node epoch + 1⟩).map encDot), .sl (fe.map encFence), .sl ((withoutR ro node epoch f).map encRoute), .sl (ce.map encCell)]) ∧ G = [] ++ F := by
  intro hA
  obtain ⟨⟨hs, hf, hr, hc⟩, h1, h2⟩ := hA
  refine DC.bodyS (n_ := 34) (show Tryz.prog.funcs[28]? = some Tryz.f28 by kernel_rfl) rfl rfl (by rfl) ?_
  simp only [env0, List.cons_append, List.nil_append]
  repeat' (first
    | with_reducible first | refine DW.sq ?_ | refine DW.block ?_ | refine DW.skip ?_ | refine DW.exit ?_
    | ((with_reducible refine DW.ret ?_))
    | with_reducible first | refine then_n ?_ | refine then_x ?_ | refine then_r ?_ | refine blk_n ?_ | refine blk_r ?_ | refine blk_x ?_
    | with_reducible refine blk_y (by decide) ?_
    | with_reducible first | refine Next.go ?_ | refine SeqD.nil ?_ | refine DV.nil ?_
    | ((with_reducible refine And.intro ?_ ?_); (first | exact sv | (simp [encDot, encRoute, encFence, V.one]; omega) | (simp [encRoute, encDot, encFence, V.one, List.length_take, List.length_drop] <;> omega) | (refine ⟨by omega, by omega, ?_⟩; intro y hy; rcases List.mem_append.1 hy with hy | hy; (obtain ⟨x, _, rfl⟩ := List.mem_map.1 hy; rfl); (simp only [List.mem_singleton] at hy; subst hy; rfl)) | (refine ⟨by omega, by omega, ?_⟩; intro y hy; obtain ⟨x, _, rfl⟩ := List.mem_map.1 hy; first | rfl | exact ⟨rfl, rfl⟩) | (refine ⟨?_, ?_, ?_, ?_⟩ <;> first | omega | (simp only [List.length_append, List.length_singleton]; omega))))
    | with_reducible first | refine DW.ct_ ?_ | refine DW.cf_ ?_
    | (refine DW.cond (by rfl) (fun hb => ?_) (fun hb => ?_) <;> (try simp only [hbs, Int.reduceBEq, Int.reduceBNe, Int.reduceEq] at hb; try (exfalso; omega)))
    | ((first | ((with_reducible refine DW.regK [0, 1, 2, 3, 4, 8, 9, 10, 21] (by kernel_rfl) ?_); refine SeqD.go (own := [4]) _ _ ?_) | ((with_reducible refine DW.drawK (id := 4) [0, 1, 2, 3, 4, 8, 9, 10, 21] [9, 11] [1, 2, 5, 6] (by kernel_rfl) (by kernel_rfl) (by kernel_rfl) ?_); refine DV.go [1, 2, 5, 6] [9, 11] _ _ _ ?_) | ((first | refine Both.imp (fun hb => ?_) (fun hb => ?_) | (with_reducible first | refine FVg_cases (fun hb => ?_) (fun hb => ?_) | refine FDg_cases (fun hb => ?_) (fun hb => ?_)) <;> rw [hb]) <;> (try simp only [hbs, Int.reduceBEq, Int.reduceBNe, Int.reduceEq] at hb; try (exfalso; omega))) | (with_reducible refine ret_r rfl ?_) | ((refine ret_c [.cell 8 35] (by rfl) ?_); (try (refine RetK_cell _ _ _ _ _ _ rfl ?_; (repeat (with_reducible first | refine OnB.here ?_ | refine OnB.mid ?_ | refine OnB.next ?_))))) | ((refine RetK_cell _ _ _ _ _ _ rfl ?_); (repeat (with_reducible first | refine OnB.here ?_ | refine OnB.mid ?_ | refine OnB.next ?_))) | (with_reducible refine ret_n rfl ?_) | ((with_reducible first | refine DV.mk rfl ?_ | refine DV.mkg rfl rfl ?_); (first | ((first | apply DVop.callq_ rfl rfl rfl rfl (h1 := without_dc _ _ _ _ _) | apply DVop.callq_ rfl rfl rfl rfl (h1 := deed_dc _ _ _ _ _ _ _) | apply DVop.callq_ rfl rfl rfl rfl (h1 := radd_dc _ _ _ _ _)); (repeat (first | exact Les.nil | refine Les.cons le.rfl_ ?_ | refine Les.cons (le.gs rfl) ?_ | refine Les.cons (le.gs List.map_nil.symm) ?_ | refine Les.cons (le.agg ?_) ?_)); (repeat (with_reducible first | exact Pulled.nil | apply Pulled.cons | exact Took.here | apply Took.next)); refine And.intro ?_ ?_; (first | exact sv | (simp [encDot, encRoute, encFence, V.one]; omega) | (simp [encRoute, encDot, encFence, V.one, List.length_take, List.length_drop] <;> omega) | (refine ⟨by omega, by omega, ?_⟩; intro y hy; rcases List.mem_append.1 hy with hy | hy; (obtain ⟨x, _, rfl⟩ := List.mem_map.1 hy; rfl); (simp only [List.mem_singleton] at hy; subst hy; rfl)) | (refine ⟨by omega, by omega, ?_⟩; intro y hy; obtain ⟨x, _, rfl⟩ := List.mem_map.1 hy; first | rfl | exact ⟨rfl, rfl⟩) | (refine ⟨?_, ?_, ?_, ?_⟩ <;> first | omega | (simp only [List.length_append, List.length_singleton]; omega)))) | (refine DVop.loada_ rfl rfl rfl rfl ?_; (repeat (with_reducible first | refine OnA.here ?_ | refine OnA.next ?_))) | (refine DVop.load_ rfl rfl rfl rfl ?_; (repeat (with_reducible first | refine OnB.here ?_ | refine OnB.mid ?_ | refine OnB.next ?_))) | (refine DVop.f_ rfl ?_))) | (first | ((first | apply DOp.callq_ rfl rfl (h := without_dc _ _ _ _ _) | apply DOp.callq_ rfl rfl (h := deed_dc _ _ _ _ _ _ _) | apply DOp.callq_ rfl rfl (h := radd_dc _ _ _ _ _)); (repeat (first | exact Les.nil | refine Les.cons le.rfl_ ?_ | refine Les.cons (le.gs rfl) ?_ | refine Les.cons (le.gs List.map_nil.symm) ?_ | refine Les.cons (le.agg ?_) ?_)); (repeat (with_reducible first | exact Pulled.nil | apply Pulled.cons | exact Took.here | apply Took.next)); refine And.intro ?_ ?_; (first | exact sv | (simp [encDot, encRoute, encFence, V.one]; omega) | (simp [encRoute, encDot, encFence, V.one, List.length_take, List.length_drop] <;> omega) | (refine ⟨by omega, by omega, ?_⟩; intro y hy; rcases List.mem_append.1 hy with hy | hy; (obtain ⟨x, _, rfl⟩ := List.mem_map.1 hy; rfl); (simp only [List.mem_singleton] at hy; subst hy; rfl)) | (refine ⟨by omega, by omega, ?_⟩; intro y hy; obtain ⟨x, _, rfl⟩ := List.mem_map.1 hy; first | rfl | exact ⟨rfl, rfl⟩) | (refine ⟨?_, ?_, ?_, ?_⟩ <;> first | omega | (simp only [List.length_append, List.length_singleton]; omega))); rintro d rfl) | (refine DOp.alloc_ rfl ?_) | (refine DOp.box_ rfl ?_) | (refine DOp.store_ rfl rfl ?_; (repeat (with_reducible first | refine OnB.here ?_ | refine OnB.mid ?_ | refine OnB.next ?_))) | (refine DOp.load_ rfl rfl ?_; (repeat (with_reducible first | refine OnB.here ?_ | refine OnB.mid ?_ | refine OnB.next ?_))) | (refine DOp.loada_ rfl rfl ?_; (repeat (with_reducible first | refine OnA.here ?_ | refine OnA.next ?_))) | (refine DOp.storea_ rfl rfl ?_; (repeat (with_reducible first | refine OnA.here ?_ | refine OnA.next ?_))))) <;> (simp (maxSteps := 1000000) (disch := omega) only [push_cast, ↓reduceIte, reduceCtorEq, Nat.reduceAdd, Nat.reduceMul, Nat.reduceLT, Nat.reduceLeDiff, Nat.reduceEqDiff, Nat.reduceSub, Int.reduceToNat, Int.reduceLT, Int.reduceLE, Int.reduceAdd, Int.reduceSub, Int.reduceMul, Int.reduceNeg, Nat.reduceBEq, Int.reduceBEq, Int.reduceBNe, Nat.reduceBNe, Int.reduceEq, encDot]))
    | (with_reducible first | refine SeqD.opF [4] rfl ?_ | refine SeqD.opgF [4] rfl rfl ?_)
    | ((with_reducible first | refine DV.mk rfl ?_ | refine DV.mkg rfl rfl ?_); (refine DVop.mv_ rfl ?_))
    | with_reducible intro b)
  all_goals first
  | (refine ⟨_, _, le.rfl_, ⟨.inl ⟨by omega, rfl⟩, rfl⟩, ?_⟩; (repeat (with_reducible first | exact SubP.refl | exact SubP.nil | refine SubP.pick ?_ | refine Out.here ?_ | refine Out.next ?_ | refine SubP.drop ?_)); done)
  | (refine ⟨_, _, le.rfl_, ⟨.inr ⟨by omega, rfl⟩, rfl⟩, ?_⟩; (repeat (with_reducible first | exact SubP.refl | exact SubP.nil | refine SubP.pick ?_ | refine Out.here ?_ | refine Out.next ?_ | refine SubP.drop ?_)); done)
end Go.Proofs.YtfamfamgopchnaaGreatDoor
