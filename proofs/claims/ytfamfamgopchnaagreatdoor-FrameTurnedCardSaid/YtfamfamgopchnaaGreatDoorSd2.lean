/- Texts as hex digits. -/
import Derived.Test.YtfamfamgopchnaaGreatDoorSd1
import Derived.Test.YtfamfamgopchnaaGreatDoorEu
import Derived.KernelRfl
namespace Go.Proofs.YtfamfamgopchnaaGreatDoor
open Go.RowKit
set_option linter.unusedSimpArgs false
set_option linter.unusedVariables false
set_option linter.unusedSectionVars false
set_option maxHeartbeats 4000000
set_option maxRecDepth 100000
attribute [local irreducible] DW SeqD DV DOp DC DVX


def hexL : List UInt8 := [48, 49, 50, 51, 52, 53, 54, 55, 56, 57, 97, 98, 99, 100, 101, 102]
theorem hex_hi (c : UInt8) : 0 ≤ (c.toNat : Int).fdiv (2 ^ min 4 IntKind.u8.bits) ∧ (c.toNat : Int).fdiv (2 ^ min 4 IntKind.u8.bits) < 16 := by
  have hc := c.toNat_lt
  have e : (2 : Int) ^ min 4 IntKind.u8.bits = 16 := by decide
  rw [e, Int.fdiv_eq_ediv_of_nonneg _ (by decide)]
  omega
theorem hex_lo (c : UInt8) : 0 ≤ IntKind.u8.wrap ((BitVec.ofInt IntKind.u8.bits (c.toNat : Int) &&& BitVec.ofInt IntKind.u8.bits 15).toNat : Int) ∧ IntKind.u8.wrap ((BitVec.ofInt IntKind.u8.bits (c.toNat : Int) &&& BitVec.ofInt IntKind.u8.bits 15).toNat : Int) < 16 := by
  have h : (BitVec.ofInt IntKind.u8.bits (c.toNat : Int) &&& BitVec.ofInt IntKind.u8.bits 15).toNat ≤ 15 := by
    rw [BitVec.toNat_and]
    exact Nat.le_trans Nat.and_le_right (by decide)
  simp [IntKind.wrap, IntKind.bits, IntKind.signed] at h ⊢
  omega
def hexA (c : UInt8) : UInt8 := hexL.getD ((c.toNat : Int).fdiv (2 ^ min 4 IntKind.u8.bits)).toNat 0
def hexB (c : UInt8) : UInt8 := hexL.getD (IntKind.u8.wrap ((BitVec.ofInt IntKind.u8.bits (c.toNat : Int) &&& BitVec.ofInt IntKind.u8.bits 15).toNat : Int)).toNat 0
def hexK (t : List UInt8) (k : Nat) : List UInt8 := ((List.range k).map fun i => [hexA (t.getD i 0), hexB (t.getD i 0)]).flatten
theorem hexK_0 (t : List UInt8) : hexK t 0 = [] := rfl
theorem hexK_more (t : List UInt8) (k : Nat) : hexK t (k + 1) = hexK t k ++ [hexA (t.getD k 0), hexB (t.getD k 0)] := by simp [hexK, List.range_succ]
theorem hexK_len (t : List UInt8) (k : Nat) : (hexK t k).length = 2 * k := by
  induction k with
  | zero => rfl
  | succ k ih => rw [hexK_more, List.length_append, ih]; simp only [List.length_cons, List.length_nil]; omega
def hexM (t : List UInt8) : List UInt8 := if t = [] then [45] else hexK t t.length
theorem hexM_1 {t : List UInt8} (h : t = []) : hexM t = [45] := if_pos h
theorem hexM_2 {t : List UInt8} (h : ¬ t = []) : hexM t = hexK t t.length := if_neg h
theorem hexM_len (t : List UInt8) : (hexM t).length ≤ 2 * t.length + 1 := by
  unfold hexM; split
  · simp
  · rw [hexK_len]; omega
theorem rhex_dc (t : List UInt8) (F : Own) : (t.length ≤ 1000000000) → DC Tryz.prog 111 [.str t] (([] : Own) ++ F) fun d G => d = .str (hexM t) ∧ G = [] ++ F := by
  intro hA
  have ht := hA
  refine DC.bodyS (n_ := 32) (show Tryz.prog.funcs[111]? = some Tryz.f111 by kernel_rfl) rfl rfl (by rfl) ?_
  simp only [env0, List.cons_append, List.nil_append]
  repeat' (first
    | ((with_reducible refine DW.loopB 0 (X := Nat × Value) (fun x => x.1 ≤ t.length) (fun x => [(0, .str t), (3, .gs x.2 ((hexK t x.1).map u8)), (4, .int .i64 x.1)]) (fun x => .tail 1 x.2 :: ([] : Own)) (fun x => t.length - x.1) ((0, b)) ?_ ?_ ?_); exact (Nat.zero_le _); (simp [Sub, get, keepL, hexK_0] <;> fail); (try simp only [List.cons_append, List.nil_append]); (repeat (with_reducible first | refine Pull.nil ?_ | refine Pull.cons ?_ | refine Out.here ?_ | refine Out.next ?_)); intro ⟨k, v⟩ hk; (try simp only [List.cons_append, List.nil_append]); simp only at hk; have hkl := hexK_len t k)
    | with_reducible first | refine DW.sq ?_ | refine DW.block ?_ | refine DW.skip ?_ | refine DW.exit ?_
    | ((with_reducible refine DW.ret ?_))
    | with_reducible first | refine then_n ?_ | refine then_x ?_ | refine then_r ?_ | refine blk_n ?_ | refine blk_r ?_ | refine blk_x ?_
    | with_reducible refine blk_y (by decide) ?_
    | with_reducible first | refine Next.go ?_ | refine SeqD.nil ?_ | refine DV.nil ?_
    | ((with_reducible refine And.intro ?_ ?_); (first | exact sv | exact hex_hi _ | exact hex_lo _))
    | with_reducible first | refine DW.ct_ ?_ | refine DW.cf_ ?_
    | (refine DW.cond (by rfl) (fun hb => ?_) (fun hb => ?_) <;> (try simp only [hbs, Int.reduceBEq, Int.reduceBNe, Int.reduceEq] at hb; try (exfalso; omega)))
    | ((first | ((with_reducible refine DW.regK [0, 2, 3, 4, 6, 14] (by kernel_rfl) ?_); refine SeqD.go (own := []) _ _ ?_) | ((with_reducible refine DW.drawK (id := 7) [0, 2, 3, 4, 6, 14] [12] [] (by kernel_rfl) (by kernel_rfl) (by kernel_rfl) ?_); refine DV.go [] [12] _ _ _ ?_) | ((first | refine Both.imp (fun hb => ?_) (fun hb => ?_) | (with_reducible first | refine FVg_cases (fun hb => ?_) (fun hb => ?_) | refine FDg_cases (fun hb => ?_) (fun hb => ?_)) <;> rw [hb]) <;> (try simp only [hbs, Int.reduceBEq, Int.reduceBNe, Int.reduceEq] at hb; try (exfalso; omega))) | (with_reducible refine ret_r rfl ?_) | ((refine ret_c [.tmp 2] (by rfl) ?_); (try (refine RetK_cell _ _ _ _ _ _ rfl ?_; (repeat (with_reducible first | refine OnB.here ?_ | refine OnB.mid ?_ | refine OnB.next ?_))))) | ((refine RetK_cell _ _ _ _ _ _ rfl ?_); (repeat (with_reducible first | refine OnB.here ?_ | refine OnB.mid ?_ | refine OnB.next ?_))) | (with_reducible refine ret_n rfl ?_) | ((with_reducible first | refine DV.mk rfl ?_ | refine DV.mkg rfl rfl ?_); (first | (refine DVop.f_ rfl ?_))) | (first | (refine DOp.list_ rfl ?_) | (refine DOp.appa_ rfl rfl rfl ?_; (repeat (with_reducible first | refine OnA.here ?_ | refine OnA.next ?_))) | (refine DOp.appz_ rfl rfl rfl ?_; (repeat (with_reducible first | refine OnT.here ?_ | refine OnT.next ?_)); (fail_if_success (with_reducible refine OnT_id ?_))) | (refine DOp.append0_ rfl rfl rfl ?_) | (refine DOp.make0_ rfl rfl rfl ?_) | (refine DOp.make_ rfl rfl rfl ?_))) <;> (simp (maxSteps := 1000000) (disch := omega) only [push_cast, ↓reduceIte, reduceCtorEq, Nat.reduceAdd, Nat.reduceMul, Nat.reduceLT, Nat.reduceLeDiff, Nat.reduceEqDiff, Nat.reduceSub, Int.reduceToNat, Int.reduceLT, Int.reduceLE, Int.reduceAdd, Int.reduceSub, Int.reduceMul, Int.reduceNeg, Nat.reduceBEq, Int.reduceBEq, Int.reduceBNe, Nat.reduceBNe, Int.reduceEq, u8, bytes_are, bytes_back]))
    | (with_reducible first | refine SeqD.opF [] rfl ?_ | refine SeqD.opgF [] rfl rfl ?_)
    | ((with_reducible first | refine DV.mk rfl ?_ | refine DV.mkg rfl rfl ?_); (refine DVop.mv_ rfl ?_))
    | with_reducible intro b)
  all_goals first
  | (rw [hexM_1 (by assumption)]; (refine ⟨_, _, ?_, ⟨rfl, rfl⟩, ?_⟩; (first | exact le.rfl_ | exact le.gs rfl | refine le.of_eq ?_ | refine le.gs ?_); rotate_left; (repeat (with_reducible first | exact SubP.refl | exact SubP.nil | refine SubP.pick ?_ | refine Out.here ?_ | refine Out.next ?_ | refine SubP.drop ?_))); done)
  | (have hkl2 : k = t.length := by omega
     subst hkl2
     rw [hexM_2 (by assumption)]; (refine ⟨_, _, ?_, ⟨rfl, rfl⟩, ?_⟩; (first | exact le.rfl_ | exact le.gs rfl | refine le.of_eq ?_ | refine le.gs ?_); rotate_left; (repeat (with_reducible first | exact SubP.refl | exact SubP.nil | refine SubP.pick ?_ | refine Out.here ?_ | refine Out.next ?_ | refine SubP.drop ?_))); done)
  | (refine ⟨(k + 1, b), ?_, ?_, ?_, ?_⟩; (((try simp only); omega)); (((try simp only); omega)); (simp [Sub, get, u8, hexK_more, hexA, hexB, hexL] <;> (fail)); (try dsimp only); (repeat (with_reducible first | exact SubP.refl | exact SubP.nil | refine SubP.pick ?_ | refine Out.here ?_ | refine Out.next ?_ | refine SubP.drop ?_)); done)
end Go.Proofs.YtfamfamgopchnaaGreatDoor
