/- Cells come. -/
import Derived.Test.YtifdpbghkccaoaaGreatDoorRd8x
import Derived.Test.YtifdpbghkccaoaaGreatDoorRd6x
import Derived.KernelRfl
namespace Go.Proofs.YtifdpbghkccaoaaGreatDoor
open Go.RowKit
set_option linter.unusedSimpArgs false
set_option linter.unusedVariables false
set_option linter.unusedSectionVars false
set_option maxHeartbeats 4000000
set_option maxRecDepth 100000
section
attribute [local irreducible] DW SeqD DV DOp DC DVX
def putC (dd:TDot) (s1 s2 s3:Int) (m1 m2:Str) (m3:Int):TCell:=⟨dd,⟨s1,s2,s3⟩,m1,m2,if ((m2.length:Int)==0)=true then 0 else m3,((m2.length:Int)==0)⟩
theorem putC_1 (dd:TDot) (s1 s2 s3:Int) (m1 m2:Str) (m3:Int) (h:((m2.length:Int)==0)=true):putC dd s1 s2 s3 m1 m2 m3=⟨dd,⟨s1,s2,s3⟩,m1,m2,0,((m2.length:Int)==0)⟩:=by rw [putC,if_pos h]
theorem putC_2 (dd:TDot) (s1 s2 s3:Int) (m1 m2:Str) (m3:Int) (h:¬ ((m2.length:Int)==0)=true):putC dd s1 s2 s3 m1 m2 m3=⟨dd,⟨s1,s2,s3⟩,m1,m2,m3,((m2.length:Int)==0)⟩:=by rw [putC,if_neg h]
def putOk (node epoch s1 s2 s3:Int) (m1:Str) (m3:Int):Bool:=nameB m1&&decide (0<=m3)&&decide (m3<=2)&&pairB node epoch&&stampedM ⟨s1,s2,s3⟩
theorem putOk_no {node epoch s1 s2 s3:Int} {m1:Str} {m3:Int} (h:nameB m1=false\/m3<0\/2<m3\/pairB node epoch=false\/stampedM ⟨s1,s2,s3⟩=false):putOk node epoch s1 s2 s3 m1 m3=false:=by
 unfold putOk
 rcases h with h | h | h | h | h
 · rw [h];rfl
 · rw [decide_eq_false (show ¬ 0<=m3 by omega)];simp
 · rw [decide_eq_false (show ¬ m3<=2 by omega)];simp
 · rw [h];simp
 · rw [h];simp
theorem putOk_yes {node epoch s1 s2 s3:Int} {m1:Str} {m3:Int} (h1:nameB m1=true) (h2:0<=m3) (h3:m3<=2) (h4:pairB node epoch=true) (h5:stampedM ⟨s1,s2,s3⟩=true):putOk node epoch s1 s2 s3 m1 m3=true:=by
 rw [putOk,h1,decide_eq_true h2,decide_eq_true h3,h4,h5];rfl
attribute [local irreducible] nameB stampedM pairB
theorem sv_cellput_dc {p:Prop} (h:p:=by first | exact sv | (simp [encDot,encRoute,encFence,V.one];omega) | (simp [encRoute,encDot,encFence,V.one,List.length_take,List.length_drop]<;>omega) | (refine ⟨by omega,by omega,?_⟩;intro y hy;rcases List.mem_append.1 hy with hy | hy;(obtain ⟨x,_,rfl⟩:=List.mem_map.1 hy;rfl);(simp only [List.mem_singleton] at hy;subst hy;rfl)) | (refine ⟨by omega,by omega,?_⟩;intro y hy;obtain ⟨x,_,rfl⟩:=List.mem_map.1 hy;first | rfl | exact ⟨rfl,rfl⟩) | (refine ⟨?_,?_,?_,?_⟩<;>first | omega | (simp only [List.length_append,List.length_singleton];omega)) | fail):p:=h
section
attribute [local push_cast 2000] encDot
theorem cellput_dc (se:List TDot) (fe:List TFence) (ro:List TRoute) (ce:List TCell) (node epoch s1 s2 s3:Int) (m1 m2:Str) (m3:Int) (m4:Bool) (F:Own):((se.length<=1000000000/\fe.length<=1000000000/\ro.length<=1000000000/\ce.length<=1000000000)/\(m1.length<=1000000000/\m2.length<=1000000000) /\ -1000000000000<=topM se node epoch/\topM se node epoch<=1000000000000)->DC Tryz.prog 19 [.agg [.sl (se.map encDot), .sl (fe.map encFence), .sl (ro.map encRoute), .sl (ce.map encCell)], .int .i64 node, .int .i64 epoch, .agg [.int .i64 s1, .int .i64 s2, .int .i64 s3], .agg [.str m1, .sl (m2.map u8), .int .i64 m3, .bool m4]] (([]:Own)++F) fun d G=>(putOk node epoch s1 s2 s3 m1 m3=false/\d = .agg [.sl (se.map encDot), .sl (fe.map encFence), .sl (ro.map encRoute), .sl (ce.map encCell)]\/putOk node epoch s1 s2 s3 m1 m3=true/\d = .agg [.sl ((addM se (nextDot se node epoch)).map encDot), .sl (fe.map encFence), .sl (ro.map encRoute), .sl ((cellInM ce (putC (nextDot se node epoch) s1 s2 s3 m1 m2 m3)).map encCell)])/\G=[]++F:=by
 intro hA
 obtain ⟨⟨hs,hf,hr,hc⟩,⟨hl,hl2⟩,h1,h2⟩:=hA
 refine DC.bodyS (n_:=69) (show Tryz.prog.funcs[19]? = some Tryz.f19 by kernel_rfl) rfl rfl (by rfl) ?_
 simp only [env0,List.cons_append,List.nil_append]
 have kw:=ksIs [0,1,2,3,4,5,8,9,10,11,36,55]
 have ow:=ownIs [5]
 have dw6:=drIs 6 [10,12] [1,3,4,6,7,8]
 have rw_:=rsIs [.cell 10 32]
 repeat' (first
  | refine g_ ?_
  | ((with_reducible refine And.intro ?_ ?_);(exact sv_cellput_dc))
  | (refine DW.cond (by rfl) ?_ ?_<;>(first | exact i0_ | (refine ic_ ?_;intro hb)))
  | ((with_reducible first | refine FVg_cases ?_ ?_ | refine FDg_cases ?_ ?_)<;>(intro hb;rw [hb];revert hb;(first | exact i0_ | (refine i_ ?_;intro hb))))
  | refine r_ ?_
  | refine d_ ?_
  | refine k_ ?_
  | ((refine dm_ ?_);(first | ((first | refine v_ (rname_dc _ _) ?_ (ha:=by exact sv_cellput_dc) | refine v_ (pair_dc _ _ _) ?_ (ha:=by exact sv_cellput_dc) | refine v_ (stamped_dc _ _ _ _) ?_ (ha:=by exact sv_cellput_dc) | refine v_ (deed_dc _ _ _ _ _ _ _) ?_ (ha:=by exact sv_cellput_dc) | refine v_ (radd_dc _ _ _ _ _) ?_ (ha:=by exact sv_cellput_dc) | refine v_ (cellinto_dc _ _ _ _ _ _ _ _ _ _ _ _) ?_ (ha:=by exact sv_cellput_dc)))))
  | refine vo_ ?_
  | ((first | ((with_reducible refine DW.drawX (id:=3) [0,1,2,3,4,5,8,9,10,11,36,55] [0,3,17] 16 76 (some 11) (by kernel_rfl) (by kernel_rfl) (by kernel_rfl) (by kernel_rfl) rfl (by kernel_rfl) ?_ ?_)) | (refine DVX.fl_ rfl rfl rfl ?_) | (refine DVX.f_ rfl rfl (by decide) ?_) | ((refine DVX.mv_ rfl rfl (by decide) ?_);intro X;(try simp only [List.cons_append,List.nil_append]);(first | (refine qq_ (rname_dc _ _) ?_ (ha:=by exact sv_cellput_dc);rintro d rfl) | (refine qq_ (pair_dc _ _ _) ?_ (ha:=by exact sv_cellput_dc);rintro d rfl) | (refine qq_ (stamped_dc _ _ _ _) ?_ (ha:=by exact sv_cellput_dc);rintro d rfl) | (refine qq_ (deed_dc _ _ _ _ _ _ _) ?_ (ha:=by exact sv_cellput_dc);rintro d rfl) | (refine qq_ (radd_dc _ _ _ _ _) ?_ (ha:=by exact sv_cellput_dc);rintro d rfl) | (refine qq_ (cellinto_dc _ _ _ _ _ _ _ _ _ _ _ _) ?_ (ha:=by exact sv_cellput_dc);rintro d rfl) | ((refine DOp.load_ rfl rfl ?_);(repeat (with_reducible first | refine OnB.here ?_ | refine OnB.mid ?_ | refine OnB.next ?_));(refine And.intro (by simp (maxSteps:=1000000) (disch:=omega) only [push_cast,↓reduceIte,reduceCtorEq,Nat.reduceAdd,Nat.reduceMul,Nat.reduceLT,Nat.reduceLeDiff,Nat.reduceEqDiff,Nat.reduceSub,Int.reduceToNat,Int.reduceLT,Int.reduceLE,Int.reduceAdd,Int.reduceSub,Int.reduceMul,Int.reduceNeg,Nat.reduceBEq,Int.reduceBEq,Int.reduceBNe,Nat.reduceBNe,Int.reduceEq,encDot]) ?_)));(try simp only [List.cons_append,List.nil_append]);(repeat (with_reducible first | refine PXK.base ?_ | refine PXK.none ?_ | refine PXK.cons ?_))))<;>(simp (maxSteps:=1000000) (disch:=omega) only [push_cast,↓reduceIte,reduceCtorEq,Nat.reduceAdd,Nat.reduceMul,Nat.reduceLT,Nat.reduceLeDiff,Nat.reduceEqDiff,Nat.reduceSub,Int.reduceToNat,Int.reduceLT,Int.reduceLE,Int.reduceAdd,Int.reduceSub,Int.reduceMul,Int.reduceNeg,Nat.reduceBEq,Int.reduceBEq,Int.reduceBNe,Nat.reduceBNe,Int.reduceEq,encDot]))
  | ((first | refine q_ (rname_dc _ _) ?_ (ha:=by exact sv_cellput_dc) | refine q_ (pair_dc _ _ _) ?_ (ha:=by exact sv_cellput_dc) | refine q_ (stamped_dc _ _ _ _) ?_ (ha:=by exact sv_cellput_dc) | refine q_ (deed_dc _ _ _ _ _ _ _) ?_ (ha:=by exact sv_cellput_dc) | refine q_ (radd_dc _ _ _ _ _) ?_ (ha:=by exact sv_cellput_dc) | refine q_ (cellinto_dc _ _ _ _ _ _ _ _ _ _ _ _) ?_ (ha:=by exact sv_cellput_dc)))
  | refine o_ ?_
  | refine f_ ?_
  | refine vm_ ?_
  | with_reducible intro b)
 all_goals first
 | (refine ⟨_,_,le.rfl_,⟨.inl ⟨putOk_no (by first | (left;assumption) | (right;left;omega) | (right;right;left;omega) | (right;right;right;left;assumption) | (right;right;right;right;assumption)),rfl⟩,rfl⟩,?_⟩;(exact sub_);done)
 | (refine ⟨_,_,?_,⟨.inr ⟨putOk_yes (by assumption) (by omega) (by omega) (by assumption) (by assumption),rfl⟩,rfl⟩,?_⟩;(rw [putC_1 (nextDot se node epoch) s1 s2 s3 m1 m2 m3 (by first | assumption | (simp;done) | (simp;omega) | (simp_all;done) | (simp_all;omega))];exact le.rfl_);(exact sub_);done)
 | (refine ⟨_,_,?_,⟨.inr ⟨putOk_yes (by assumption) (by omega) (by omega) (by assumption) (by assumption),rfl⟩,rfl⟩,?_⟩;(rw [putC_2 (nextDot se node epoch) s1 s2 s3 m1 m2 m3 (by first | assumption | (simp;done) | (simp;omega) | (simp_all;done) | (simp_all;omega))];exact le.rfl_);(exact sub_);done)
end
end
end Go.Proofs.YtifdpbghkccaoaaGreatDoor
