/- Tables of one story come together in any order. -/
import Derived.Test.YtifdpbghkccaoaaGreatDoorMwx
import Derived.Test.YtifdpbghkccaoaaGreatDoorMjx
import Derived.KernelRfl
namespace Go.Proofs.YtifdpbghkccaoaaGreatDoor
open Go.RowKit
set_option linter.unusedSimpArgs false
set_option linter.unusedVariables false
set_option linter.unusedSectionVars false
set_option maxHeartbeats 4000000
set_option maxRecDepth 100000
section
attribute [local irreducible] DW SeqD DV DOp DC DVX DVJ DVM mergeM tablesM
theorem sv_tableMerges_dc {p:Prop} (h:p:=by first | exact sv | exact ⟨hn20,deeds12 hl hx30⟩ | exact ⟨hG,sa,sb⟩ | exact ⟨hG,sb,sa⟩ | exact ⟨hG,sab,sc⟩ | exact ⟨hG,sb,sc⟩ | exact ⟨hG,sa,sb.merge hG sc⟩ | exact ⟨hG,sab,sa⟩ | exact ⟨hG,sa,sa⟩ | exact ⟨m_comm hG sa sb,(sb.merge hG sa).few⟩ | exact ⟨m_assoc hG sa sb sc,(sa.merge hG (sb.merge hG sc)).few⟩ | exact ⟨m_again hG sa sb,sab.few⟩ | exact ⟨m_self hG sa,sa.few⟩ | exact ⟨sab.lite,sab.can.tr⟩ | fail):p:=h
section
attribute [local push_cast 2000] encTable
theorem tableMerges_dc (l:List TDeed) (T5:TypeId) (fr:Nat×Nat) (m:Int) (F:Own):((∀ d∈l,deedR d))->DC Tryz.prog 3 [.sl (l.map encDeed)] ([loose,knP T5 fr,knF,knA,knM m]++F) fun d G=>d = .bool true/\G=[loose,knP T5 fr,knF,knA,knM m]++F:=by
 intro hA
 have hl:=hA
 refine DC.bodyS (n_:=61) (show Tryz.prog.funcs[3]? = some Tryz.f3 by kernel_rfl) rfl rfl (by rfl) ?_
 simp only [env0,List.cons_append,List.nil_append]
 have kw:=ksIs [0,2,3,4,5,6,7,9,12]
 have ow:=ownIs []
 have dw8:=drIs 8 [] [0,1,2,3,4,6,7,8,9,10,11,12,13,14,17,18,19,20,21,24,25,26,27,28,31,32]
 repeat' (first
  | ((fail_if_success (have zz:=hG));(have hdo:=deeds12 hl hx30);(have htn:=st_len hdo);(obtain ⟨G,hG,hsm⟩:=sm_story hn20 hdo);(have sa:=hsm 0 (by decide));(have sb:=hsm 1 (by decide));(have sc:=hsm 2 (by decide));(have sab:=sa.merge hG sb))
  | ((with_reducible apply DW.frzB 7 4);(focus (exact rfl));(repeat (with_reducible first | refine Out.here ?_ | refine Out.next ?_));simp only [put_cons,put_nil,Nat.reduceEqDiff,↓reduceIte,if_true,if_false,reduceCtorEq])
  | ((with_reducible apply DW.frzB 7 5);(focus (exact rfl));(repeat (with_reducible first | refine Out.here ?_ | refine Out.next ?_));simp only [put_cons,put_nil,Nat.reduceEqDiff,↓reduceIte,if_true,if_false,reduceCtorEq])
  | ((with_reducible apply DW.frzB 8 4);(focus (exact rfl));(repeat (with_reducible first | refine Out.here ?_ | refine Out.next ?_));simp only [put_cons,put_nil,Nat.reduceEqDiff,↓reduceIte,if_true,if_false,reduceCtorEq])
  | ((with_reducible apply DW.frzB 8 5);(focus (exact rfl));(repeat (with_reducible first | refine Out.here ?_ | refine Out.next ?_));simp only [put_cons,put_nil,Nat.reduceEqDiff,↓reduceIte,if_true,if_false,reduceCtorEq])
  | ((with_reducible apply DW.frzB 8 6);(focus (exact rfl));(repeat (with_reducible first | refine Out.here ?_ | refine Out.next ?_));simp only [put_cons,put_nil,Nat.reduceEqDiff,↓reduceIte,if_true,if_false,reduceCtorEq])
  | ((with_reducible apply DW.frzB 8 7);(focus (exact rfl));(repeat (with_reducible first | refine Out.here ?_ | refine Out.next ?_));simp only [put_cons,put_nil,Nat.reduceEqDiff,↓reduceIte,if_true,if_false,reduceCtorEq])
  | refine g_ ?_
  | ((with_reducible refine And.intro ?_ ?_);(exact sv_tableMerges_dc))
  | (refine DW.cond (by rfl) ?_ ?_<;>(first | exact i0_ | (refine ic_ ?_;intro hb)))
  | ((with_reducible first | refine FVg_cases ?_ ?_ | refine FDg_cases ?_ ?_)<;>(intro hb;rw [hb];revert hb;(first | exact i0_ | (refine i_ ?_;intro hb))))
  | refine r_ ?_
  | refine d_ ?_
  | refine k_ ?_
  | ((refine dm_ ?_);(first | ((first | refine v_ (known12_dc _ _ _ _) ?_ (ha:=by exact sv_tableMerges_dc) | refine v_ (story12_dc _ _) ?_ (ha:=by exact sv_tableMerges_dc) | refine v_ (mergeS_dc _ _ _ _ _) ?_ (ha:=by exact sv_tableMerges_dc) | refine v_ (sameS_dc _ _ _) ?_ (ha:=by exact sv_tableMerges_dc) | refine v_ (rightS_dc _ _ _) ?_ (ha:=by exact sv_tableMerges_dc)))))
  | refine vo_ ?_
  | ((first | ((with_reducible refine DW.drawM (id:=6) [0,2,3,4,5,6,7,9,12] [12,13,14] [9,10,11] [(9,varR Tryz.prog 32),(10,varR Tryz.prog 32),(11,varR Tryz.prog 32)] [0,1,2,3,4,5,6,7,8,9,10,11,12,13,14] (by kernel_rfl) (by kernel_rfl) (by kernel_rfl) ?_)) | (refine DVM.var_ rfl rfl rfl rfl rfl rfl ?_) | (refine DVM.f_ rfl rfl rfl rfl ?_) | ((refine DVM.mv_ rfl rfl rfl ?_);intro X;(try simp only [List.cons_append,List.nil_append]);(first | (refine qq_ (known12_dc _ _ _ _) ?_ (ha:=by exact sv_tableMerges_dc);rintro d rfl) | (refine p_ (few12_dc _ _) ?_ (ha:=by exact sv_tableMerges_dc);rintro d H1 (⟨rfl,⟨hn20,hx30⟩,rfl⟩ | ⟨rfl,rfl⟩)) | (refine qq_ (story12_dc _ _) ?_ (ha:=by exact sv_tableMerges_dc);rintro d rfl) | (refine qq_ (mergeS_dc _ _ _ _ _) ?_ (ha:=by exact sv_tableMerges_dc);rintro d rfl) | (refine qq_ (sameS_dc _ _ _) ?_ (ha:=by exact sv_tableMerges_dc);rintro d rfl) | (refine qq_ (rightS_dc _ _ _) ?_ (ha:=by exact sv_tableMerges_dc);rintro d rfl) | ((refine DOp.load_ rfl rfl ?_);(repeat (with_reducible first | refine OnB.here ?_ | refine OnB.mid ?_ | refine OnB.next ?_));(refine And.intro (by simp (maxSteps:=1000000) (disch:=omega) only [push_cast,↓reduceIte,reduceCtorEq,Nat.reduceAdd,Nat.reduceMul,Nat.reduceLT,Nat.reduceLeDiff,Nat.reduceEqDiff,Nat.reduceSub,Int.reduceToNat,Int.reduceLT,Int.reduceLE,Int.reduceAdd,Int.reduceSub,Int.reduceMul,Int.reduceNeg,Nat.reduceBEq,Int.reduceBEq,Int.reduceBNe,Nat.reduceBNe,Int.reduceEq,encTable]) ?_)) | ((refine DOp.store_ rfl rfl ?_);(repeat (with_reducible first | refine OnB.here ?_ | refine OnB.mid ?_ | refine OnB.next ?_));(refine And.intro (by simp (maxSteps:=1000000) (disch:=omega) only [push_cast,↓reduceIte,reduceCtorEq,Nat.reduceAdd,Nat.reduceMul,Nat.reduceLT,Nat.reduceLeDiff,Nat.reduceEqDiff,Nat.reduceSub,Int.reduceToNat,Int.reduceLT,Int.reduceLE,Int.reduceAdd,Int.reduceSub,Int.reduceMul,Int.reduceNeg,Nat.reduceBEq,Int.reduceBEq,Int.reduceBNe,Nat.reduceBNe,Int.reduceEq,encTable]) ?_);(refine And.intro (by simp (maxSteps:=1000000) (disch:=omega) only [push_cast,↓reduceIte,reduceCtorEq,Nat.reduceAdd,Nat.reduceMul,Nat.reduceLT,Nat.reduceLeDiff,Nat.reduceEqDiff,Nat.reduceSub,Int.reduceToNat,Int.reduceLT,Int.reduceLE,Int.reduceAdd,Int.reduceSub,Int.reduceMul,Int.reduceNeg,Nat.reduceBEq,Int.reduceBEq,Int.reduceBNe,Nat.reduceBNe,Int.reduceEq,encTable]) ?_);(refine And.intro (by simp (maxSteps:=1000000) (disch:=omega) only [push_cast,↓reduceIte,reduceCtorEq,Nat.reduceAdd,Nat.reduceMul,Nat.reduceLT,Nat.reduceLeDiff,Nat.reduceEqDiff,Nat.reduceSub,Int.reduceToNat,Int.reduceLT,Int.reduceLE,Int.reduceAdd,Int.reduceSub,Int.reduceMul,Int.reduceNeg,Nat.reduceBEq,Int.reduceBEq,Int.reduceBNe,Nat.reduceBNe,Int.reduceEq,encTable]) ?_);(refine And.intro (by simp (maxSteps:=1000000) (disch:=omega) only [push_cast,↓reduceIte,reduceCtorEq,Nat.reduceAdd,Nat.reduceMul,Nat.reduceLT,Nat.reduceLeDiff,Nat.reduceEqDiff,Nat.reduceSub,Int.reduceToNat,Int.reduceLT,Int.reduceLE,Int.reduceAdd,Int.reduceSub,Int.reduceMul,Int.reduceNeg,Nat.reduceBEq,Int.reduceBEq,Int.reduceBNe,Nat.reduceBNe,Int.reduceEq,encTable]) ?_);(refine And.intro (by simp (maxSteps:=1000000) (disch:=omega) only [push_cast,↓reduceIte,reduceCtorEq,Nat.reduceAdd,Nat.reduceMul,Nat.reduceLT,Nat.reduceLeDiff,Nat.reduceEqDiff,Nat.reduceSub,Int.reduceToNat,Int.reduceLT,Int.reduceLE,Int.reduceAdd,Int.reduceSub,Int.reduceMul,Int.reduceNeg,Nat.reduceBEq,Int.reduceBEq,Int.reduceBNe,Nat.reduceBNe,Int.reduceEq,encTable]) ?_);(refine And.intro (by simp (maxSteps:=1000000) (disch:=omega) only [push_cast,↓reduceIte,reduceCtorEq,Nat.reduceAdd,Nat.reduceMul,Nat.reduceLT,Nat.reduceLeDiff,Nat.reduceEqDiff,Nat.reduceSub,Int.reduceToNat,Int.reduceLT,Int.reduceLE,Int.reduceAdd,Int.reduceSub,Int.reduceMul,Int.reduceNeg,Nat.reduceBEq,Int.reduceBEq,Int.reduceBNe,Nat.reduceBNe,Int.reduceEq,encTable]) ?_);(try dsimp only)));(try simp only [List.cons_append,List.nil_append]);(repeat (with_reducible first | refine PXK.base ?_ | refine PXK.none ?_ | refine PXK.cons ?_))))<;>(simp (maxSteps:=1000000) (disch:=omega) only [push_cast,↓reduceIte,reduceCtorEq,Nat.reduceAdd,Nat.reduceMul,Nat.reduceLT,Nat.reduceLeDiff,Nat.reduceEqDiff,Nat.reduceSub,Int.reduceToNat,Int.reduceLT,Int.reduceLE,Int.reduceAdd,Int.reduceSub,Int.reduceMul,Int.reduceNeg,Nat.reduceBEq,Int.reduceBEq,Int.reduceBNe,Nat.reduceBNe,Int.reduceEq,encTable]))
  | ((first | refine q_ (known12_dc _ _ _ _) ?_ (ha:=by exact sv_tableMerges_dc) | refine q_ (story12_dc _ _) ?_ (ha:=by exact sv_tableMerges_dc) | refine q_ (mergeS_dc _ _ _ _ _) ?_ (ha:=by exact sv_tableMerges_dc) | refine q_ (sameS_dc _ _ _) ?_ (ha:=by exact sv_tableMerges_dc) | refine q_ (rightS_dc _ _ _) ?_ (ha:=by exact sv_tableMerges_dc)))
  | (refine p_ (few12_dc _ _) ?_ (ha:=by exact sv_tableMerges_dc);rintro d H1 (⟨rfl,⟨hn20,hx30⟩,rfl⟩ | ⟨rfl,rfl⟩)<;>refine s_ ?_)
  | refine o_ ?_
  | refine f_ ?_
  | refine vm_ ?_
  | with_reducible refine DVM.nil ?_
  | with_reducible intro b)
 all_goals first
 | ((first | exact fin_ | refine finq_ ?_);done)
 | (exfalso;omega)
 | (trace_state;fail)
end
end
end Go.Proofs.YtifdpbghkccaoaaGreatDoor
