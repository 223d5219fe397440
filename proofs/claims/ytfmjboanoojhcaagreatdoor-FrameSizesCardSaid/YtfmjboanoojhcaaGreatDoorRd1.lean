/- Dots: which may be, which are ahead. -/
import Derived.Test.YtfmjboanoojhcaaGreatDoorLp
import Derived.KernelRfl
namespace Go.Proofs.YtfmjboanoojhcaaGreatDoor
open Go.RowKit
set_option linter.unusedSimpArgs false
set_option linter.unusedVariables false
set_option linter.unusedSectionVars false
set_option maxHeartbeats 4000000
set_option maxRecDepth 100000
attribute [local irreducible] DW SeqD DV DOp DC DVX


theorem dot_eta (x : TDot) : (⟨x.node, x.epoch, x.n⟩ : TDot) = x := rfl
theorem pair_dc (node epoch : Int) (F : Own) : (True) → DC Tryz.prog 82 [.int .i64 node, .int .i64 epoch] (([] : Own) ++ F) fun d G => d = .bool (pairB node epoch) ∧ G = [] ++ F := by
  intro hA
  refine DC.bodyS (n_ := 15) (show Tryz.prog.funcs[82]? = some Tryz.f82 by kernel_rfl) rfl rfl (by rfl) ?_
  simp only [env0, List.cons_append, List.nil_append]
  have kw := ksIs [0, 1, 4]
  have ow := ownIs []
  repeat' (first
    | refine g_ ?_
    | ((with_reducible refine And.intro ?_ ?_); (exact sv))
    | (refine DW.cond (by rfl) ?_ ?_ <;> (first | exact i0_ | (refine ic_ ?_; intro hb)))
    | ((with_reducible refine FVg_cases ?_ ?_) <;> (intro hb; rw [hb]; revert hb; (first | exact i0_ | (refine i_ ?_; intro hb))))
    | refine r_ ?_
    | refine k_ ?_
    | refine o_ ?_
    | refine f_ ?_
    | with_reducible intro b)
  all_goals
    refine ⟨_, _, le.of_eq ?_, ⟨rfl, rfl⟩, SubP.refl⟩
    unfold pairB
    simp_all <;> omega
theorem before_dc (a1 a2 a3 b1 b2 b3 : Int) (F : Own) : (True) → DC Tryz.prog 181 [.agg [.int .i64 a1, .int .i64 a2, .int .i64 a3], .agg [.int .i64 b1, .int .i64 b2, .int .i64 b3]] (([] : Own) ++ F) fun d G => d = .bool (before ⟨a1, a2, a3⟩ ⟨b1, b2, b3⟩) ∧ G = [] ++ F := by
  intro hA
  refine DC.bodyS (n_ := 30) (show Tryz.prog.funcs[181]? = some Tryz.f181 by kernel_rfl) rfl rfl (by rfl) ?_
  simp only [env0, List.cons_append, List.nil_append]
  have kw := ksIs [0, 1, 2, 3, 4, 9, 19]
  have ow := ownIs []
  repeat' (first
    | refine g_ ?_
    | ((with_reducible refine And.intro ?_ ?_); (exact sv))
    | (refine DW.cond (by rfl) ?_ ?_ <;> (first | exact i0_ | (refine ic_ ?_; intro hb)))
    | ((with_reducible refine FVg_cases ?_ ?_) <;> (intro hb; rw [hb]; revert hb; (first | exact i0_ | (refine i_ ?_; intro hb))))
    | refine r_ ?_
    | refine k_ ?_
    | refine o_ ?_
    | refine f_ ?_
    | with_reducible intro b)
  all_goals
    refine ⟨_, _, le.of_eq ?_, ⟨rfl, rfl⟩, SubP.refl⟩
    unfold before
    simp_all
theorem ahead_dc (a1 a2 a3 b1 b2 b3 : Int) (F : Own) : (True) → DC Tryz.prog 130 [.agg [.int .i64 a1, .int .i64 a2, .int .i64 a3], .agg [.int .i64 b1, .int .i64 b2, .int .i64 b3]] (([] : Own) ++ F) fun d G => d = .bool (ahead ⟨a1, a2, a3⟩ ⟨b1, b2, b3⟩) ∧ G = [] ++ F := by
  intro hA
  refine DC.bodyS (n_ := 24) (show Tryz.prog.funcs[130]? = some Tryz.f130 by kernel_rfl) rfl rfl (by rfl) ?_
  simp only [env0, List.cons_append, List.nil_append]
  have kw := ksIs [0, 1, 2, 3, 4]
  have ow := ownIs []
  repeat' (first
    | refine g_ ?_
    | ((with_reducible refine And.intro ?_ ?_); (exact sv))
    | (refine DW.cond (by rfl) ?_ ?_ <;> (first | exact i0_ | (refine ic_ ?_; intro hb)))
    | ((with_reducible refine FVg_cases ?_ ?_) <;> (intro hb; rw [hb]; revert hb; (first | exact i0_ | (refine i_ ?_; intro hb))))
    | refine r_ ?_
    | refine k_ ?_
    | refine o_ ?_
    | refine f_ ?_
    | with_reducible intro b)
  all_goals
    refine ⟨_, _, le.of_eq ?_, ⟨rfl, rfl⟩, SubP.refl⟩
    unfold ahead
    simp_all <;> omega
section
attribute [local push_cast 2000] encDot dot_eta
theorem rright_dc (l : List TDot) (F : Own) : (l.length ≤ 1000000000) → DC Tryz.prog 67 [.sl (l.map encDot)] (([] : Own) ++ F) fun d G => d = .bool (rightB l) ∧ G = [] ++ F := by
  intro hA
  have hl := hA
  refine DC.bodyS (n_ := 47) (show Tryz.prog.funcs[67]? = some Tryz.f67 by kernel_rfl) rfl rfl (by rfl) ?_
  simp only [env0, List.cons_append, List.nil_append]
  have kw := ksIs [0, 2, 3, 7, 46]
  have ow := ownIs []
  have dw4 := drIs 4 [] [4, 9, 10, 17, 28, 32, 33]
  repeat' (first
    | ((with_reducible refine DW.loopB 0 (X := Nat) (fun x => x ≤ l.length ∧ allK (dotOk l) x = true) (fun x => [(0, .sl (l.map encDot)), (3, .int .i64 x)]) (fun x => ([] : Own)) (fun x => l.length - x) (0) ?_ ?_ ?_); exact (⟨Nat.zero_le _, rfl⟩); (simp [Sub, get, keepL] <;> fail); (try simp only [List.cons_append, List.nil_append]); refine pl_ ?_; intro k ⟨hk, ha⟩; (try simp only [List.cons_append, List.nil_append]))
    | refine g_ ?_
    | ((with_reducible refine And.intro ?_ ?_); (exact sv))
    | (refine DW.cond (by rfl) ?_ ?_ <;> (first | exact i0_ | (refine ic_ ?_; intro hb)))
    | ((with_reducible first | refine FVg_cases ?_ ?_ | refine FDg_cases ?_ ?_) <;> (intro hb; rw [hb]; revert hb; (first | exact i0_ | (refine i_ ?_; intro hb))))
    | refine r_ ?_
    | refine d_ ?_
    | refine k_ ?_
    | ((refine dm_ ?_); (first | (refine v_ (pair_dc _ _ _) ?_) | (refine v_ (ahead_dc _ _ _ _ _ _ _) ?_)))
    | refine vo_ ?_
    | (refine q_ (pair_dc _ _ _) ?_)
    | (refine q_ (ahead_dc _ _ _ _ _ _ _) ?_)
    | refine o_ ?_
    | refine f_ ?_
    | refine vm_ ?_
    | with_reducible intro b)
  all_goals first
  | (have hf : dotOk l k = false := by
       unfold dotOk
       first | (simp_all; done) | (simp_all; omega)
     refine ⟨_, _, le.of_eq ?_, ⟨rfl, rfl⟩, SubP.refl⟩; rw [rightB, allK_not hf (by omega)])
  | (have hk0 : k = l.length := by omega
     subst hk0
     refine ⟨_, _, le.of_eq ?_, ⟨rfl, rfl⟩, SubP.refl⟩; rw [rightB, ha])
  | (have ht : dotOk l k = true := by
       unfold dotOk
       first | (simp_all; done) | (simp_all; omega)
     refine ⟨k + 1, ⟨by omega, allK_next ha ht⟩, by omega, by simp [Sub, get], ?_⟩; exact sub_)
end
section
attribute [local push_cast 2000] encDot dot_eta
theorem rtop_dc (l : List TDot) (node epoch : Int) (F : Own) : (l.length ≤ 1000000000) → DC Tryz.prog 144 [.sl (l.map encDot), .int .i64 node, .int .i64 epoch] (([] : Own) ++ F) fun d G => d = .int .i64 (topM l node epoch) ∧ G = [] ++ F := by
  intro hA
  have hl := hA
  refine DC.bodyS (n_ := 38) (show Tryz.prog.funcs[144]? = some Tryz.f144 by kernel_rfl) rfl rfl (by rfl) ?_
  simp only [env0, List.cons_append, List.nil_append]
  have kw := ksIs [0, 1, 2, 6, 7, 10, 14, 32]
  have ow := ownIs []
  repeat' (first
    | ((with_reducible refine DW.loopB 0 (X := Nat) (fun x => x ≤ l.length ∧ ∀ i, 0 ≤ i → i < x → isAt l node epoch i = false) (fun x => [(0, .sl (l.map encDot)), (1, .int .i64 node), (2, .int .i64 epoch), (7, .int .i64 x)]) (fun x => ([] : Own)) (fun x => l.length - x) (0) ?_ ?_ ?_); exact (⟨Nat.zero_le _, fun i _ h => absurd h (Nat.not_lt_zero _)⟩); (simp [Sub, get, keepL] <;> fail); (try simp only [List.cons_append, List.nil_append]); refine pl_ ?_; intro k ⟨hk, ha⟩; (try simp only [List.cons_append, List.nil_append]))
    | refine g_ ?_
    | ((with_reducible refine And.intro ?_ ?_); (exact sv))
    | (refine DW.cond (by rfl) ?_ ?_ <;> (first | exact i0_ | (refine ic_ ?_; intro hb)))
    | ((with_reducible refine FVg_cases ?_ ?_) <;> (intro hb; rw [hb]; revert hb; (first | exact i0_ | (refine i_ ?_; intro hb))))
    | refine r_ ?_
    | refine k_ ?_
    | (refine q_ (rright_dc _ _) ?_)
    | refine o_ ?_
    | refine f_ ?_
    | with_reducible intro b)
  all_goals first
  | (have hr : rightB l = false := by assumption
     refine ⟨_, _, le.of_eq ?_, ⟨rfl, rfl⟩, SubP.refl⟩; rw [topM, if_neg (by rw [hr]; simp)])
  | (have ht : isAt l node epoch k = true := by unfold isAt; simp_all
     have hf := firstK_at (isAt l node epoch) l.length 0 k (Nat.zero_le _) (by omega) ha ht
     refine ⟨_, _, le.of_eq ?_, ⟨rfl, rfl⟩, SubP.refl⟩; rw [topM, hf, if_pos ⟨by assumption, by omega⟩])
  | (have hk0 : k = l.length := by omega
     subst hk0
     have hf := firstK_no (isAt l node epoch) l.length 0 (fun i h1 h2 => ha i h1 (by omega))
     refine ⟨_, _, le.of_eq ?_, ⟨rfl, rfl⟩, SubP.refl⟩; rw [topM, if_neg (by rw [hf]; omega)])
  | (have ht : isAt l node epoch k = false := by unfold isAt; simp_all
     refine ⟨k + 1, ⟨by omega, fun i h1 h2 => ?_⟩, by omega, by simp [Sub, get], ?_⟩; (by_cases hik : i = k; (subst hik; exact ht); exact ha i h1 (by omega)); exact sub_)
end
theorem rhas_dc (l : List TDot) (a b c : Int) (F : Own) : (l.length ≤ 1000000000) → DC Tryz.prog 120 [.sl (l.map encDot), .agg [.int .i64 a, .int .i64 b, .int .i64 c]] (([] : Own) ++ F) fun d G => d = .bool (hasB l ⟨a, b, c⟩) ∧ G = [] ++ F := by
  intro hA
  have hl := hA
  refine DC.bodyS (n_ := 19) (show Tryz.prog.funcs[120]? = some Tryz.f120 by kernel_rfl) rfl rfl (by rfl) ?_
  simp only [env0, List.cons_append, List.nil_append]
  have kw := ksIs [0, 1, 3, 4]
  have ow := ownIs []
  have dw1 := drIs 1 [] [1, 5, 8, 10, 11]
  repeat' (first
    | refine g_ ?_
    | ((with_reducible refine And.intro ?_ ?_); (exact sv))
    | (refine DW.cond (by rfl) ?_ ?_ <;> (first | exact i0_ | (refine ic_ ?_; intro hb)))
    | ((with_reducible first | refine FVg_cases ?_ ?_ | refine FDg_cases ?_ ?_) <;> (intro hb; rw [hb]; revert hb; (first | exact i0_ | (refine i_ ?_; intro hb))))
    | refine r_ ?_
    | refine d_ ?_
    | refine k_ ?_
    | ((refine dm_ ?_); (first | (refine v_ (rtop_dc _ _ _ _) ?_)))
    | refine vo_ ?_
    | (refine q_ (rtop_dc _ _ _ _) ?_)
    | refine o_ ?_
    | refine f_ ?_
    | refine vm_ ?_
    | with_reducible intro b)
  all_goals
    refine ⟨_, _, le.of_eq ?_, ⟨rfl, rfl⟩, SubP.refl⟩
    unfold hasB
    first | rfl | (simp_all; done) | (simp_all <;> omega)
end Go.Proofs.YtfmjboanoojhcaaGreatDoor
