/- Tables that are the same have the same sums; a fence touches its own. -/
import Derived.Test.YtbmbcjmgjdnlnaaGreatDoorDd9x
import Derived.Test.YtbmbcjmgjdnlnaaGreatDoorRd9x
import Derived.KernelRfl
namespace Go.Proofs.YtbmbcjmgjdnlnaaGreatDoor
open Go.RowKit
set_option linter.unusedSimpArgs false
set_option linter.unusedVariables false
set_option linter.unusedSectionVars false
set_option maxHeartbeats 4000000
set_option maxRecDepth 100000
section
def wrongT:TTable:=⟨[⟨0,0,0⟩],[],[],[]⟩
theorem sumsX_dc (T5:TypeId) (fr:Nat×Nat) (m:Int) (F:Own):True->DC Tryz.prog 32 [.agg [.sl [.agg [.int .i64 0, .int .i64 0, .int .i64 0]], .sl [], .sl [], .sl []]] ([loose,knP T5 fr,knF,knA,knM m]++F) fun d G=>d = .sl (sums0.map encU)/\G=[loose,knP T5 fr,knF,knA,knM m]++F:=fun _ =>
 psumsW_dc wrongT T5 fr m F ⟨⟨by decide,by decide,by decide,by decide,(fun _ h=>nomatch h),(fun _ h=>nomatch h),(fun _ h=>nomatch h)⟩,rfl⟩
theorem dec_self (l:List Int):decide (l=l)=true:=decide_eq_true rfl
theorem k_nat {k:Int} (h:0<=k/\k<=255):natIn (k+1):=⟨by omega,by omega⟩
attribute [local irreducible] DW SeqD DV DOp DC DVX DVJ DVM fnvV bucketV sums0 sumsP diffT routeAddM putZ fenceM filterM topicM topM tablesM
theorem sv_digestAlike_dc {p:Prop} (h:p:=by first | exact sv | exact ⟨hn20,deeds13 hl hx30⟩ | exact fa | exact fb | exact ha | exact ⟨hlt.mono (by decide),hfl,by omega,by omega⟩ | exact ⟨hlt.mono (by decide),by omega⟩ | exact hlt.mono (by decide) | exact hfl | fail):p:=h
section
attribute [local push_cast 2000] encTable encI dec_self diff_self List.map_nil
theorem digestAlike_dc (l:List TDeed) (x1:Int) (T5:TypeId) (fr:Nat×Nat) (m:Int) (F:Own):((∀ d∈l,deedR d)/\(0<=x1/\x1<=255))->DC Tryz.prog 6 [.sl (l.map encDeed), .int .u8 x1] ([loose,knP T5 fr,knF,knA,knM m]++F) fun d G=>d = .bool true/\G=[loose,knP T5 fr,knF,knA,knM m]++F:=by
 intro hA
 obtain ⟨hl,hx⟩:=hA
 refine DC.bodyS (n_:=66) (show Tryz.prog.funcs[6]? = some Tryz.f6 by kernel_rfl) rfl rfl (by rfl) ?_
 simp only [env0,List.cons_append,List.nil_append]
 have kw:=ksIs [0,1,4,5,6,7,8,9,11,14,37,51,58]
 have ow:=ownIs []
 have dw6:=drIs 6 [] [0,1,2,3,4,7,8,9,10,11]
 have dw9:=drIs 9 [] [0,1,2,3,4]
 repeat' (first
  | ((fail_if_success (have zz:=hst));(have hst:=st_at hn20 (deeds13 hl hx30) (k:=0) (by decide));(have htn:=hst.1);(have htr:=hst.2.1);(have hrg:=hst.2.2.1);(have hlt:=hst.2.2.2);(have tt:=st_top htr hrg 3 1);(have fa:=fit_t htr hrg hlt);(have fb:Fit (fenceM ((tablesM l).getD 0 default) 11 (x1+1)):=fit_fence htr hrg hlt (k_nat hx));(have hd1:=fence_only htr hrg (x1+1));(have hsl:=sumsP_len ((tablesM l).getD 0 default));(have hsu:=sumsP_len (fenceM ((tablesM l).getD 0 default) 11 (x1+1)));(have hs0:=sums0_len);(have hdl:=diff_len ((tablesM l).getD 0 default) (fenceM ((tablesM l).getD 0 default) 11 (x1+1))))
  | ((with_reducible apply DW.frzB 6 5);(focus (exact rfl));(repeat (with_reducible first | refine Out.here ?_ | refine Out.next ?_));simp only [put_cons,put_nil,Nat.reduceEqDiff,↓reduceIte,if_true,if_false,reduceCtorEq])
  | ((with_reducible apply DW.frzB 6 6);(focus (exact rfl));(repeat (with_reducible first | refine Out.here ?_ | refine Out.next ?_));simp only [put_cons,put_nil,Nat.reduceEqDiff,↓reduceIte,if_true,if_false,reduceCtorEq])
  | ((with_reducible apply DW.frzB 9 7);(focus (exact rfl));(repeat (with_reducible first | refine Out.here ?_ | refine Out.next ?_));simp only [put_cons,put_nil,Nat.reduceEqDiff,↓reduceIte,if_true,if_false,reduceCtorEq])
  | ((with_reducible refine DW.loopB 0 (X:=Nat) (fun x=>x<=(diffT ((tablesM l).getD 0 default) (fenceM ((tablesM l).getD 0 default) 11 (x1+1))).length) (fun x=>[(8, .sl ((diffT ((tablesM l).getD 0 default) (fenceM ((tablesM l).getD 0 default) 11 (x1+1))).map encI)),(9, .int .i64 x)]) (fun x=>[loose,knP T5 fr,knF,knA,knM m]) (fun x=>(diffT ((tablesM l).getD 0 default) (fenceM ((tablesM l).getD 0 default) 11 (x1+1))).length - x) (0) ?_ ?_ ?_);exact (Nat.zero_le _);(simp [Sub,get,keepL]<;>fail);(try simp only [List.cons_append,List.nil_append]);refine pl_ ?_;intro k hk;(try simp only [List.cons_append,List.nil_append]);try simp only at hk)
  | refine g_ ?_
  | ((with_reducible refine And.intro ?_ ?_);(exact sv_digestAlike_dc))
  | (refine DW.cond (by rfl) ?_ ?_<;>(first | exact i0_ | (refine ic_ ?_;intro hb)))
  | ((with_reducible first | refine FVg_cases ?_ ?_ | refine FDg_cases ?_ ?_)<;>(intro hb;rw [hb];revert hb;(first | exact i0_ | (refine i_ ?_;intro hb))))
  | refine r_ ?_
  | refine d_ ?_
  | refine k_ ?_
  | ((refine dm_ ?_);(first | ((first | refine v_ (known13_dc _ _ _ _) ?_ (ha:=by exact sv_digestAlike_dc) | refine v_ (story13_dc _ _) ?_ (ha:=by exact sv_digestAlike_dc) | refine v_ (filter_dc _ _) ?_ (ha:=by exact sv_digestAlike_dc) | refine v_ (topic_dc _ _) ?_ (ha:=by exact sv_digestAlike_dc) | refine v_ (addT_dc _ _ _ _ _) ?_ (ha:=by exact sv_digestAlike_dc) | refine v_ (putZ_dc _ _ _) ?_ (ha:=by exact sv_digestAlike_dc) | refine v_ (fenceT_dc _ _ _ _) ?_ (ha:=by exact sv_digestAlike_dc) | refine v_ (differT_dc _ _ _) ?_ (ha:=by exact sv_digestAlike_dc) | refine v_ (bucket_dc _ _) ?_ (ha:=by exact sv_digestAlike_dc) | refine v_ (lsums_dc _ _ _) ?_ (ha:=by exact sv_digestAlike_dc))) | (refine v_ (sums_dc _ _ _ _ _) ?_ (ha:=by exact sv_digestAlike_dc)) | (refine v_ (sumsX_dc _ _ _ _) ?_ (ha:=by exact sv_digestAlike_dc)) | (refine v_ (sumsE_dc _ _ _ _) ?_ (ha:=by exact sv_digestAlike_dc))))
  | refine vo_ ?_
  | ((first | ((with_reducible refine DW.drawM (id:=5) [0,1,4,5,6,7,8,9,11,14,37,51,58] [1,5,10,11] [8,9] [(8,varR Tryz.prog 28),(9,varR Tryz.prog 28)] [0,1,2,3,4,5,6,7,8,9,10,11] (by kernel_rfl) (by kernel_rfl) (by kernel_rfl) ?_)) | (refine DVM.var_ rfl rfl rfl rfl rfl rfl ?_) | (refine DVM.f_ rfl rfl rfl rfl ?_) | ((refine DVM.mv_ rfl rfl rfl ?_);intro X;(try simp only [List.cons_append,List.nil_append]);(first | (refine qq_ (known13_dc _ _ _ _) ?_ (ha:=by exact sv_digestAlike_dc);rintro d rfl) | (refine p_ (few13_dc _ _) ?_ (ha:=by exact sv_digestAlike_dc);rintro d H1 (⟨rfl,⟨hn20,hx30⟩,rfl⟩ | ⟨rfl,rfl⟩)) | (refine qq_ (story13_dc _ _) ?_ (ha:=by exact sv_digestAlike_dc);rintro d rfl) | (refine qq_ (filter_dc _ _) ?_ (ha:=by exact sv_digestAlike_dc);rintro d rfl) | (refine qq_ (topic_dc _ _) ?_ (ha:=by exact sv_digestAlike_dc);rintro d rfl) | (refine qq_ (addT_dc _ _ _ _ _) ?_ (ha:=by exact sv_digestAlike_dc);rintro d rfl) | (refine qq_ (putZ_dc _ _ _) ?_ (ha:=by exact sv_digestAlike_dc);rintro d rfl) | (refine qq_ (fenceT_dc _ _ _ _) ?_ (ha:=by exact sv_digestAlike_dc);rintro d rfl) | (refine qq_ (sums_dc _ _ _ _ _) ?_ (ha:=by exact sv_digestAlike_dc);rintro d rfl) | (refine qq_ (sumsX_dc _ _ _ _) ?_ (ha:=by exact sv_digestAlike_dc);rintro d rfl) | (refine qq_ (sumsE_dc _ _ _ _) ?_ (ha:=by exact sv_digestAlike_dc);rintro d rfl) | (refine qq_ (differT_dc _ _ _) ?_ (ha:=by exact sv_digestAlike_dc);rintro d rfl) | (refine qq_ (bucket_dc _ _) ?_ (ha:=by exact sv_digestAlike_dc);rintro d rfl) | (refine qq_ (lsums_dc _ _ _) ?_ (ha:=by exact sv_digestAlike_dc);rintro d rfl) | ((refine DOp.load_ rfl rfl ?_);(repeat (with_reducible first | refine OnB.here ?_ | refine OnB.mid ?_ | refine OnB.next ?_));(refine And.intro (by simp (maxSteps:=1000000) (disch:=omega) only [push_cast,↓reduceIte,reduceCtorEq,Nat.reduceAdd,Nat.reduceMul,Nat.reduceLT,Nat.reduceLeDiff,Nat.reduceEqDiff,Nat.reduceSub,Int.reduceToNat,Int.reduceLT,Int.reduceLE,Int.reduceAdd,Int.reduceSub,Int.reduceMul,Int.reduceNeg,Nat.reduceBEq,Int.reduceBEq,Int.reduceBNe,Nat.reduceBNe,Int.reduceEq,encTable,encI,dec_self,diff_self,List.map_nil]) ?_)) | ((refine DOp.store_ rfl rfl ?_);(repeat (with_reducible first | refine OnB.here ?_ | refine OnB.mid ?_ | refine OnB.next ?_));(refine And.intro (by simp (maxSteps:=1000000) (disch:=omega) only [push_cast,↓reduceIte,reduceCtorEq,Nat.reduceAdd,Nat.reduceMul,Nat.reduceLT,Nat.reduceLeDiff,Nat.reduceEqDiff,Nat.reduceSub,Int.reduceToNat,Int.reduceLT,Int.reduceLE,Int.reduceAdd,Int.reduceSub,Int.reduceMul,Int.reduceNeg,Nat.reduceBEq,Int.reduceBEq,Int.reduceBNe,Nat.reduceBNe,Int.reduceEq,encTable,encI,dec_self,diff_self,List.map_nil]) ?_);(refine And.intro (by simp (maxSteps:=1000000) (disch:=omega) only [push_cast,↓reduceIte,reduceCtorEq,Nat.reduceAdd,Nat.reduceMul,Nat.reduceLT,Nat.reduceLeDiff,Nat.reduceEqDiff,Nat.reduceSub,Int.reduceToNat,Int.reduceLT,Int.reduceLE,Int.reduceAdd,Int.reduceSub,Int.reduceMul,Int.reduceNeg,Nat.reduceBEq,Int.reduceBEq,Int.reduceBNe,Nat.reduceBNe,Int.reduceEq,encTable,encI,dec_self,diff_self,List.map_nil]) ?_);(refine And.intro (by simp (maxSteps:=1000000) (disch:=omega) only [push_cast,↓reduceIte,reduceCtorEq,Nat.reduceAdd,Nat.reduceMul,Nat.reduceLT,Nat.reduceLeDiff,Nat.reduceEqDiff,Nat.reduceSub,Int.reduceToNat,Int.reduceLT,Int.reduceLE,Int.reduceAdd,Int.reduceSub,Int.reduceMul,Int.reduceNeg,Nat.reduceBEq,Int.reduceBEq,Int.reduceBNe,Nat.reduceBNe,Int.reduceEq,encTable,encI,dec_self,diff_self,List.map_nil]) ?_);(refine And.intro (by simp (maxSteps:=1000000) (disch:=omega) only [push_cast,↓reduceIte,reduceCtorEq,Nat.reduceAdd,Nat.reduceMul,Nat.reduceLT,Nat.reduceLeDiff,Nat.reduceEqDiff,Nat.reduceSub,Int.reduceToNat,Int.reduceLT,Int.reduceLE,Int.reduceAdd,Int.reduceSub,Int.reduceMul,Int.reduceNeg,Nat.reduceBEq,Int.reduceBEq,Int.reduceBNe,Nat.reduceBNe,Int.reduceEq,encTable,encI,dec_self,diff_self,List.map_nil]) ?_);(refine And.intro (by simp (maxSteps:=1000000) (disch:=omega) only [push_cast,↓reduceIte,reduceCtorEq,Nat.reduceAdd,Nat.reduceMul,Nat.reduceLT,Nat.reduceLeDiff,Nat.reduceEqDiff,Nat.reduceSub,Int.reduceToNat,Int.reduceLT,Int.reduceLE,Int.reduceAdd,Int.reduceSub,Int.reduceMul,Int.reduceNeg,Nat.reduceBEq,Int.reduceBEq,Int.reduceBNe,Nat.reduceBNe,Int.reduceEq,encTable,encI,dec_self,diff_self,List.map_nil]) ?_);(refine And.intro (by simp (maxSteps:=1000000) (disch:=omega) only [push_cast,↓reduceIte,reduceCtorEq,Nat.reduceAdd,Nat.reduceMul,Nat.reduceLT,Nat.reduceLeDiff,Nat.reduceEqDiff,Nat.reduceSub,Int.reduceToNat,Int.reduceLT,Int.reduceLE,Int.reduceAdd,Int.reduceSub,Int.reduceMul,Int.reduceNeg,Nat.reduceBEq,Int.reduceBEq,Int.reduceBNe,Nat.reduceBNe,Int.reduceEq,encTable,encI,dec_self,diff_self,List.map_nil]) ?_);(try dsimp only)));(try simp only [List.cons_append,List.nil_append]);(repeat (with_reducible first | refine PXK.base ?_ | refine PXK.none ?_ | refine PXK.cons ?_))))<;>(simp (maxSteps:=1000000) (disch:=omega) only [push_cast,↓reduceIte,reduceCtorEq,Nat.reduceAdd,Nat.reduceMul,Nat.reduceLT,Nat.reduceLeDiff,Nat.reduceEqDiff,Nat.reduceSub,Int.reduceToNat,Int.reduceLT,Int.reduceLE,Int.reduceAdd,Int.reduceSub,Int.reduceMul,Int.reduceNeg,Nat.reduceBEq,Int.reduceBEq,Int.reduceBNe,Nat.reduceBNe,Int.reduceEq,encTable,encI,dec_self,diff_self,List.map_nil]))
  | ((first | refine q_ (known13_dc _ _ _ _) ?_ (ha:=by exact sv_digestAlike_dc) | refine q_ (story13_dc _ _) ?_ (ha:=by exact sv_digestAlike_dc) | refine q_ (filter_dc _ _) ?_ (ha:=by exact sv_digestAlike_dc) | refine q_ (topic_dc _ _) ?_ (ha:=by exact sv_digestAlike_dc) | refine q_ (addT_dc _ _ _ _ _) ?_ (ha:=by exact sv_digestAlike_dc) | refine q_ (putZ_dc _ _ _) ?_ (ha:=by exact sv_digestAlike_dc) | refine q_ (fenceT_dc _ _ _ _) ?_ (ha:=by exact sv_digestAlike_dc) | refine q_ (differT_dc _ _ _) ?_ (ha:=by exact sv_digestAlike_dc) | refine q_ (bucket_dc _ _) ?_ (ha:=by exact sv_digestAlike_dc) | refine q_ (lsums_dc _ _ _) ?_ (ha:=by exact sv_digestAlike_dc)))
  | (refine p_ (few13_dc _ _) ?_ (ha:=by exact sv_digestAlike_dc);rintro d H1 (⟨rfl,⟨hn20,hx30⟩,rfl⟩ | ⟨rfl,rfl⟩)<;>refine s_ ?_)
  | (refine q_ (sums_dc _ _ _ _ _) ?_ (ha:=by exact sv_digestAlike_dc))
  | (refine q_ (sumsX_dc _ _ _ _) ?_ (ha:=by exact sv_digestAlike_dc))
  | (refine q_ (sumsE_dc _ _ _ _) ?_ (ha:=by exact sv_digestAlike_dc))
  | refine o_ ?_
  | refine f_ ?_
  | refine vm_ ?_
  | with_reducible refine DVM.nil ?_
  | with_reducible intro b)
 all_goals first
 | ((first | exact fin_ | refine finq_ ?_);done)
 | (refine ⟨k+1,?_,?_,?_,?_⟩;(((try simp only);omega));(((try simp only);omega));(simp [Sub,get]<;>(fail));(try dsimp only);(exact sub_);done)
 | ((exfalso;have h:=hd1 k (by omega);contradiction))
 | (exfalso;omega)
 | (trace_state;fail)
end
end
end Go.Proofs.YtbmbcjmgjdnlnaaGreatDoor
