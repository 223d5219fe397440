/- Routes, cells that stay beside another table. -/
import Derived.Test.YtifdpbghkccaoaaGreatDoorRd8x
import Derived.Test.YtifdpbghkccaoaaGreatDoorRd6x
import Derived.KernelRfl
namespace Go.Proofs.YtifdpbghkccaoaaGreatDoor
open Go.RowKit
set_option linter.unusedSimpArgs false
set_option linter.unusedVariables false
set_option linter.unusedSectionVars false
set_option maxHeartbeats 4000000
set_option maxRecDepth 100000
section
attribute [local irreducible] DW SeqD DV DOp DC DVX
def keepStep (r:TRoute) (acc:Bool) (o:TRoute):Bool:=if ownB o r.dot.node r.dot.epoch r.filter=true then decide (o.dot.n<=r.dot.n) else acc
def keepR (se:List TDot) (ro:List TRoute) (r:TRoute):Bool:=ro.foldl (keepStep r) (!hasB se r.dot)
def staysM (ro1:List TRoute) (se2:List TDot) (ro2:List TRoute):List TRoute:=ro1.filter (keepR se2 ro2)
theorem keepStep_1 {r o:TRoute} {a:Bool} (h:ownB o r.dot.node r.dot.epoch r.filter=true):keepStep r a o=decide (o.dot.n<=r.dot.n):=by rw [keepStep,if_pos h]
theorem keepStep_2 {r o:TRoute} {a:Bool} (h:ownB o r.dot.node r.dot.epoch r.filter=false):keepStep r a o=a:=by rw [keepStep,if_neg (by rw [h];simp)]
def keepStepC (c:TCell) (acc:Bool) (o:TCell):Bool:=if o.topic=c.topic then !newerM o c else acc
def keepC (se:List TDot) (ce:List TCell) (c:TCell):Bool:=ce.foldl (keepStepC c) (!hasB se c.dot)
def keepsM (ce1:List TCell) (se2:List TDot) (ce2:List TCell):List TCell:=ce1.filter (keepC se2 ce2)
theorem keepStepC_1 {c o:TCell} {a:Bool} (h:o.topic=c.topic):keepStepC c a o = !newerM o c:=by rw [keepStepC,if_pos h]
theorem keepStepC_2 {c o:TCell} {a:Bool} (h:¬ o.topic=c.topic):keepStepC c a o=a:=by rw [keepStepC,if_neg h]
attribute [local irreducible] hasB newerDS
theorem sv_stays_dc {p:Prop} (h:p:=by first | exact sv | (simp [encDot,encRoute,encFence,V.one];omega) | (simp [encRoute,encDot,encFence,V.one,List.length_take,List.length_drop]<;>omega) | (refine ⟨by omega,by omega,?_⟩;intro y hy;rcases List.mem_append.1 hy with hy | hy;(obtain ⟨x,_,rfl⟩:=List.mem_map.1 hy;rfl);(simp only [List.mem_singleton] at hy;subst hy;rfl)) | (refine ⟨by omega,by omega,?_⟩;intro y hy;obtain ⟨x,_,rfl⟩:=List.mem_map.1 hy;first | rfl | exact ⟨rfl,rfl⟩) | (refine ⟨?_,?_,?_,?_⟩<;>first | omega | (simp only [List.length_append,List.length_singleton];omega)) | fail):p:=h
section
attribute [local push_cast 2000] encDot encRoute route_eta dot_eta
theorem stays_dc (se1:List TDot) (fe1:List TFence) (ro1:List TRoute) (ce1:List TCell) (se2:List TDot) (fe2:List TFence) (ro2:List TRoute) (ce2:List TCell) (F:Own):((se1.length<=1000000000/\fe1.length<=1000000000/\ro1.length<=1000000000/\ce1.length<=1000000000)/\(se2.length<=1000000000/\fe2.length<=1000000000/\ro2.length<=1000000000/\ce2.length<=1000000000))->DC Tryz.prog 114 [.agg [.sl (se1.map encDot), .sl (fe1.map encFence), .sl (ro1.map encRoute), .sl (ce1.map encCell)], .agg [.sl (se2.map encDot), .sl (fe2.map encFence), .sl (ro2.map encRoute), .sl (ce2.map encCell)]] (([]:Own)++F) fun d G=>d = .sl ((staysM ro1 se2 ro2).map encRoute)/\G=[]++F:=by
 intro hA
 obtain ⟨⟨hs1,hf1,hr1,hc1⟩,⟨hs2,hf2,hr2,hc2⟩⟩:=hA
 refine DC.bodyS (n_:=77) (show Tryz.prog.funcs[114]? = some Tryz.f114 by kernel_rfl) rfl rfl (by rfl) ?_
 simp only [env0,List.cons_append,List.nil_append]
 have kw:=ksIs [0,1,2,3,4,5,6,7,8,9,10,15,33,63,71]
 have ow:=ownIs []
 refine DW.tail0 4 ?_
 repeat' (first
  | ((with_reducible apply DW.frzB 6 7);(focus (exact rfl));(repeat (with_reducible first | refine Out.here ?_ | refine Out.next ?_));simp only [put_cons,put_nil,Nat.reduceEqDiff,↓reduceIte,if_true,if_false,reduceCtorEq])
  | ((with_reducible apply DW.frzB 11 10);(focus (exact rfl));(repeat (with_reducible first | refine Out.here ?_ | refine Out.next ?_));simp only [put_cons,put_nil,Nat.reduceEqDiff,↓reduceIte,if_true,if_false,reduceCtorEq])
  | ((with_reducible refine DW.loopB 0 (X:=Nat×Value) (fun x=>x.1<=ro1.length) (fun x=>[(2, .sp [.sl (se1.map encDot), .sl (fe1.map encFence), .sl (ro1.map encRoute), .sl (ce1.map encCell)]),(3, .sp [.sl (se2.map encDot), .sl (fe2.map encFence), .sl (ro2.map encRoute), .sl (ce2.map encCell)]),(5, .gs x.2 (((ro1.take x.1).filter (keepR se2 ro2)).map encRoute)),(6, .int .i64 x.1)]) (fun x=>.tail 4 x.2::([]:Own)) (fun x=>ro1.length - x.1) ((0, .slice none 0 0)) ?_ ?_ ?_);exact (Nat.zero_le _);(simp [Sub,get,keepL]<;>fail);(try simp only [List.cons_append,List.nil_append]);refine pl_ ?_;intro ⟨k,v⟩ hk;(try simp only [List.cons_append,List.nil_append]);have hlk:=filter_len (p:=keepR se2 ro2) ro1 k;simp only at hk)
  | ((with_reducible refine DW.loopB 2 (X:=Nat) (fun x=>x<=ro2.length) (fun x=>[(2, .sp [.sl (se1.map encDot), .sl (fe1.map encFence), .sl (ro1.map encRoute), .sl (ce1.map encCell)]),(3, .sp [.sl (se2.map encDot), .sl (fe2.map encFence), .sl (ro2.map encRoute), .sl (ce2.map encCell)]),(5, .gs v (((ro1.take k).filter (keepR se2 ro2)).map encRoute)),(6, .int .i64 k),(7, .sp (encRoute (ro1.getD k default)).cs),(8, .bool ((ro2.take x).foldl (keepStep (ro1.getD k default)) (!hasB se2 (ro1.getD k default).dot))),(9, .int .i64 x)]) (fun x=>([]:Own)) (fun x=>ro2.length - x) (0) ?_ ?_ ?_);exact (Nat.zero_le _);(simp [Sub,get,keepL,encRoute,V.cs]<;>fail);(try simp only [List.cons_append,List.nil_append]);refine pl_ ?_;intro j hj;(try simp only [List.cons_append,List.nil_append]);simp only [encRoute,V.cs])
  | refine g_ ?_
  | ((with_reducible refine And.intro ?_ ?_);(exact sv_stays_dc))
  | (refine DW.cond (by rfl) ?_ ?_<;>(first | exact i0_ | (refine ic_ ?_;intro hb)))
  | ((with_reducible refine FVg_cases ?_ ?_)<;>(intro hb;rw [hb];revert hb;(first | exact i0_ | (refine i_ ?_;intro hb))))
  | refine r_ ?_
  | refine k_ ?_
  | (refine q_ (rhas_dc _ _ _ _ _) ?_ (ha:=by exact sv_stays_dc))
  | refine o_ ?_
  | refine f_ ?_
  | with_reducible intro b)
 all_goals first
 | (have ho:ownB (ro2.getD j default) (ro1.getD k default).dot.node (ro1.getD k default).dot.epoch (ro1.getD k default).filter=true:=by
     unfold ownB
     simp_all
    generalize ro1.getD k default=R at *
    have e:=(foldl_more (keepStep R) (!hasB se2 R.dot) (show j<ro2.length by omega)).trans (keepStep_1 ho)
    refine ⟨j+1,by omega,by omega,?_,?_⟩;(simp [Sub,get,encRoute,V.cs,e]<;>fail);(exact sub_);done)
 | (have ho:ownB (ro2.getD j default) (ro1.getD k default).dot.node (ro1.getD k default).dot.epoch (ro1.getD k default).filter=false:=by
     unfold ownB
     simp_all
    generalize ro1.getD k default=R at *
    have e:=(foldl_more (keepStep R) (!hasB se2 R.dot) (show j<ro2.length by omega)).trans (keepStep_2 ho)
    refine ⟨j+1,by omega,by omega,?_,?_⟩;(simp [Sub,get,encRoute,V.cs,e]<;>fail);(exact sub_);done)
 | (have hjl:j=ro2.length:=by omega
    subst hjl
    have hy:=filter_yes (p:=keepR se2 ro2) (l:=ro1) (k:=k) (by omega) (by unfold keepR;rw [List.take_length] at hb;exact hb)
    refine ⟨(k+1,b),?_,?_,?_,?_⟩;(((try simp only);omega));(((try simp only);omega));(simp [Sub,get,hy,encRoute]<;>(fail));(try dsimp only);(exact sub_);done)
 | (have hjl:j=ro2.length:=by omega
    subst hjl
    have hy:=filter_no (p:=keepR se2 ro2) (l:=ro1) (k:=k) (by omega) (by unfold keepR;rw [List.take_length] at hb;exact hb)
    refine ⟨(k+1,v),?_,?_,?_,?_⟩;(((try simp only);omega));(((try simp only);omega));(simp [Sub,get,hy,encRoute]<;>(fail));(try dsimp only);(exact sub_);done)
 | (have hkl:k=ro1.length:=by omega
    subst hkl
    rw [List.take_length]
    (first | exact fin_ | refine finq_ ?_);done)
end
theorem cell_eta (c:TCell):(⟨⟨c.dot.node,c.dot.epoch,c.dot.n⟩,⟨c.stamp.l,c.stamp.c,c.stamp.node⟩,c.topic,c.payload,c.qos,c.gone⟩:TCell)=c:=rfl
theorem stamp_eta (s:TStamp):(⟨s.l,s.c,s.node⟩:TStamp)=s:=rfl
theorem newer_fold (a b:TCell):newerDS a.dot a.stamp b.dot b.stamp=newerM a b:=rfl
theorem sv_keeps_dc {p:Prop} (h:p:=by first | exact sv | (simp [encDot,encRoute,encFence,V.one];omega) | (simp [encRoute,encDot,encFence,V.one,List.length_take,List.length_drop]<;>omega) | (refine ⟨by omega,by omega,?_⟩;intro y hy;rcases List.mem_append.1 hy with hy | hy;(obtain ⟨x,_,rfl⟩:=List.mem_map.1 hy;rfl);(simp only [List.mem_singleton] at hy;subst hy;rfl)) | (refine ⟨by omega,by omega,?_⟩;intro y hy;obtain ⟨x,_,rfl⟩:=List.mem_map.1 hy;first | rfl | exact ⟨rfl,rfl⟩) | (refine ⟨?_,?_,?_,?_⟩<;>first | omega | (simp only [List.length_append,List.length_singleton];omega)) | fail):p:=h
section
attribute [local push_cast 2000] encDot encCell cell_eta dot_eta stamp_eta newer_fold
theorem keeps_dc (se1:List TDot) (fe1:List TFence) (ro1:List TRoute) (ce1:List TCell) (se2:List TDot) (fe2:List TFence) (ro2:List TRoute) (ce2:List TCell) (F:Own):((se1.length<=1000000000/\fe1.length<=1000000000/\ro1.length<=1000000000/\ce1.length<=1000000000)/\(se2.length<=1000000000/\fe2.length<=1000000000/\ro2.length<=1000000000/\ce2.length<=1000000000))->DC Tryz.prog 115 [.agg [.sl (se1.map encDot), .sl (fe1.map encFence), .sl (ro1.map encRoute), .sl (ce1.map encCell)], .agg [.sl (se2.map encDot), .sl (fe2.map encFence), .sl (ro2.map encRoute), .sl (ce2.map encCell)]] (([]:Own)++F) fun d G=>d = .sl ((keepsM ce1 se2 ce2).map encCell)/\G=[]++F:=by
 intro hA
 obtain ⟨⟨hs1,hf1,hr1,hc1⟩,⟨hs2,hf2,hr2,hc2⟩⟩:=hA
 refine DC.bodyS (n_:=58) (show Tryz.prog.funcs[115]? = some Tryz.f115 by kernel_rfl) rfl rfl (by rfl) ?_
 simp only [env0,List.cons_append,List.nil_append]
 have kw:=ksIs [0,1,2,3,4,5,6,7,8,9,14,32,43,52]
 have ow:=ownIs []
 have dw10:=drIs 10 [] [1,5,7]
 have dw11:=drIs 11 [] [1,4,5,6]
 refine DW.tail0 10 ?_
 repeat' (first
  | ((with_reducible apply DW.frzB 6 7);(focus (exact rfl));(repeat (with_reducible first | refine Out.here ?_ | refine Out.next ?_));simp only [put_cons,put_nil,Nat.reduceEqDiff,↓reduceIte,if_true,if_false,reduceCtorEq])
  | ((with_reducible refine DW.loopB 0 (X:=Nat×Value) (fun x=>x.1<=ce1.length) (fun x=>[(2, .sp [.sl (se1.map encDot), .sl (fe1.map encFence), .sl (ro1.map encRoute), .sl (ce1.map encCell)]),(3, .sp [.sl (se2.map encDot), .sl (fe2.map encFence), .sl (ro2.map encRoute), .sl (ce2.map encCell)]),(5, .gs x.2 (((ce1.take x.1).filter (keepC se2 ce2)).map encCell)),(6, .int .i64 x.1)]) (fun x=>.tail 10 x.2::([]:Own)) (fun x=>ce1.length - x.1) ((0, .slice none 0 0)) ?_ ?_ ?_);exact (Nat.zero_le _);(simp [Sub,get,keepL]<;>fail);(try simp only [List.cons_append,List.nil_append]);refine pl_ ?_;intro ⟨k,v⟩ hk;(try simp only [List.cons_append,List.nil_append]);have hlk:=filter_len (p:=keepC se2 ce2) ce1 k;simp only at hk)
  | ((with_reducible refine DW.loopB 2 (X:=Nat) (fun x=>x<=ce2.length) (fun x=>[(2, .sp [.sl (se1.map encDot), .sl (fe1.map encFence), .sl (ro1.map encRoute), .sl (ce1.map encCell)]),(3, .sp [.sl (se2.map encDot), .sl (fe2.map encFence), .sl (ro2.map encRoute), .sl (ce2.map encCell)]),(5, .gs v (((ce1.take k).filter (keepC se2 ce2)).map encCell)),(6, .int .i64 k),(7, .sp (encCell (ce1.getD k default)).cs),(8, .bool ((ce2.take x).foldl (keepStepC (ce1.getD k default)) (!hasB se2 (ce1.getD k default).dot))),(9, .int .i64 x)]) (fun x=>([]:Own)) (fun x=>ce2.length - x) (0) ?_ ?_ ?_);exact (Nat.zero_le _);(simp [Sub,get,keepL,encCell,V.cs]<;>fail);(try simp only [List.cons_append,List.nil_append]);refine pl_ ?_;intro j hj;(try simp only [List.cons_append,List.nil_append]);simp only [encCell,V.cs])
  | refine g_ ?_
  | ((with_reducible refine And.intro ?_ ?_);(exact sv_keeps_dc))
  | (refine DW.cond (by rfl) ?_ ?_<;>(first | exact i0_ | (refine ic_ ?_;intro hb)))
  | ((with_reducible first | refine FVg_cases ?_ ?_ | refine FDg_cases ?_ ?_)<;>(intro hb;rw [hb];revert hb;(first | exact i0_ | (refine i_ ?_;intro hb))))
  | refine r_ ?_
  | refine d_ ?_
  | refine k_ ?_
  | ((refine dm_ ?_);(first | ((first | refine v_ (rhas_dc _ _ _ _ _) ?_ (ha:=by exact sv_keeps_dc) | refine v_ (newer_dc _ _ _ _ _ _ _ _ _ _ _ _ _ _ _ _ _ _ _ _ _) ?_ (ha:=by exact sv_keeps_dc)))))
  | refine vo_ ?_
  | ((first | refine q_ (rhas_dc _ _ _ _ _) ?_ (ha:=by exact sv_keeps_dc) | refine q_ (newer_dc _ _ _ _ _ _ _ _ _ _ _ _ _ _ _ _ _ _ _ _ _) ?_ (ha:=by exact sv_keeps_dc)))
  | refine o_ ?_
  | refine f_ ?_
  | refine vm_ ?_
  | with_reducible intro b)
 all_goals first
 | (generalize ce1.getD k default=R at *
    have e:=(foldl_more (keepStepC R) (!hasB se2 R.dot) (show j<ce2.length by omega)).trans (keepStepC_1 (by assumption))
    refine ⟨j+1,by omega,by omega,?_,?_⟩;(simp [Sub,get,encCell,V.cs,e]<;>fail);(exact sub_);done)
 | (generalize ce1.getD k default=R at *
    have e:=(foldl_more (keepStepC R) (!hasB se2 R.dot) (show j<ce2.length by omega)).trans (keepStepC_2 (by assumption))
    refine ⟨j+1,by omega,by omega,?_,?_⟩;(simp [Sub,get,encCell,V.cs,e]<;>fail);(exact sub_);done)
 | (have hjl:j=ce2.length:=by omega
    subst hjl
    have hy:=filter_yes (p:=keepC se2 ce2) (l:=ce1) (k:=k) (by omega) (by unfold keepC;rw [List.take_length] at hb;exact hb)
    refine ⟨(k+1,b),?_,?_,?_,?_⟩;(((try simp only);omega));(((try simp only);omega));(simp [Sub,get,hy,encCell]<;>(fail));(try dsimp only);(exact sub_);done)
 | (have hjl:j=ce2.length:=by omega
    subst hjl
    have hy:=filter_no (p:=keepC se2 ce2) (l:=ce1) (k:=k) (by omega) (by unfold keepC;rw [List.take_length] at hb;exact hb)
    refine ⟨(k+1,v),?_,?_,?_,?_⟩;(((try simp only);omega));(((try simp only);omega));(simp [Sub,get,hy,encCell]<;>(fail));(try dsimp only);(exact sub_);done)
 | (have hkl:k=ce1.length:=by omega
    subst hkl
    rw [List.take_length]
    (first | exact fin_ | refine finq_ ?_);done)
end
end
end Go.Proofs.YtifdpbghkccaoaaGreatDoor
