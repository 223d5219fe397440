/- Which tables are right. -/
import Derived.Test.YtifdpbghkccaoaaGreatDoorRd8x
import Derived.Test.YtifdpbghkccaoaaGreatDoorRd6x
import Derived.KernelRfl
namespace Go.Proofs.YtifdpbghkccaoaaGreatDoor
open Go.RowKit
set_option linter.unusedSimpArgs false
set_option linter.unusedVariables false
set_option linter.unusedSectionVars false
set_option maxHeartbeats 4000000
set_option maxRecDepth 100000
section
attribute [local irreducible] DW SeqD DV DOp DC DVX
def dotsOf (ro:List TRoute) (ce:List TCell):List TDot:=ro.map TRoute.dot++ce.map TCell.dot
def sameAt (ro:List TRoute) (k j:Nat):Bool:=ownB (ro.getD j default) (ro.getD k default).dot.node (ro.getD k default).dot.epoch (ro.getD k default).filter
def routeOk (se:List TDot) (fe:List TFence) (ro:List TRoute) (k:Nat):Bool :=
 (decide (k=0)||rbefore (ro.getD (k - 1) default) (ro.getD k default))&&filterB (ro.getD k default).filter&&hasB se (ro.getD k default).dot && !fencedL fe (ro.getD k default).dot.node (ro.getD k default).dot.epoch && !anyK (sameAt ro k) k
def cellOk (se:List TDot) (ce:List TCell) (k:Nat):Bool :=
 (decide (k=0)||Op.bytesLess (ce.getD (k - 1) default).topic (ce.getD k default).topic)&&nameB (ce.getD k default).topic&&hasB se (ce.getD k default).dot&&stampedM (ce.getD k default).stamp&&decide (0<=(ce.getD k default).qos)&&decide ((ce.getD k default).qos<=2)&&((ce.getD k default).gone==(((ce.getD k default).payload.length:Int)==0))&&(!(ce.getD k default).gone||decide ((ce.getD k default).qos=0))
def dotSame (L:List TDot) (k j:Nat):Bool:=(L.getD k default).node==(L.getD j default).node&&(L.getD k default).epoch==(L.getD j default).epoch&&(L.getD k default).n==(L.getD j default).n
def dotFresh (L:List TDot) (k:Nat):Bool:=!anyK (dotSame L k) k
def tableB (se:List TDot) (fe:List TFence) (ro:List TRoute) (ce:List TCell):Bool :=
 rightB se&&fencesB fe&&allK (routeOk se fe ro) ro.length&&allK (cellOk se ce) ce.length&&allK (dotFresh (dotsOf ro ce)) (dotsOf ro ce).length
section
variable {se:List TDot} {fe:List TFence} {ro:List TRoute} {ce:List TCell}
theorem tableB_1 (h:rightB se=false\/fencesB fe=false):tableB se fe ro ce=false:=by
 unfold tableB;rcases h with h | h<;>rw [h]<;>simp
theorem tableB_2 {k:Nat} (hk:k<ro.length) (h:routeOk se fe ro k=false):tableB se fe ro ce=false:=by
 unfold tableB;rw [allK_not h hk];simp
theorem tableB_3 {k:Nat} (hk:k<ce.length) (h:cellOk se ce k=false):tableB se fe ro ce=false:=by
 unfold tableB;rw [allK_not h hk];simp
theorem tableB_4 {k:Nat} (hk:k<(dotsOf ro ce).length) (h:dotFresh (dotsOf ro ce) k=false):tableB se fe ro ce=false:=by
 unfold tableB;rw [allK_not h hk];simp
theorem tableB_5 (h1:rightB se=true) (h2:fencesB fe=true) (h3:allK (routeOk se fe ro) ro.length=true) (h4:allK (cellOk se ce) ce.length=true) (h5:allK (dotFresh (dotsOf ro ce)) (dotsOf ro ce).length=true):tableB se fe ro ce=true:=by
 rw [tableB,h1,h2,h3,h4,h5];rfl
theorem routeOk_yes {k:Nat} (h1:k=0\/rbefore (ro.getD (k - 1) default) (ro.getD k default)=true) (h2:filterB (ro.getD k default).filter=true) (h3:hasB se (ro.getD k default).dot=true) (h4:fencedL fe (ro.getD k default).dot.node (ro.getD k default).dot.epoch=false) (h5:anyK (sameAt ro k) k=false):routeOk se fe ro k=true:=by
 unfold routeOk
 rw [h2,h3,h4,h5]
 rcases h1 with h | h
 · rw [decide_eq_true h];rfl
 · rw [h];simp
theorem routeOk_no {k:Nat} (h:(¬ k=0/\rbefore (ro.getD (k - 1) default) (ro.getD k default)=false)\/filterB (ro.getD k default).filter=false\/hasB se (ro.getD k default).dot=false\/fencedL fe (ro.getD k default).dot.node (ro.getD k default).dot.epoch=true\/anyK (sameAt ro k) k=true):routeOk se fe ro k=false:=by
 unfold routeOk
 rcases h with ⟨h,h'⟩ | h | h | h | h
 · rw [decide_eq_false h,h'];rfl
 all_goals rw [h];simp
theorem cellOk_yes {k:Nat} (h1:k=0\/Op.bytesLess (ce.getD (k - 1) default).topic (ce.getD k default).topic=true) (h2:nameB (ce.getD k default).topic=true) (h3:hasB se (ce.getD k default).dot=true) (h4:stampedM (ce.getD k default).stamp=true) (h5:0<=(ce.getD k default).qos) (h6:(ce.getD k default).qos<=2) (h7:(ce.getD k default).gone=(((ce.getD k default).payload.length:Int)==0)) (h8:(ce.getD k default).gone=false\/(ce.getD k default).qos=0):cellOk se ce k=true:=by
 unfold cellOk
 rw [h2,h3,h4,decide_eq_true h5,decide_eq_true h6,<-h7]
 have e8:(!(ce.getD k default).gone||decide ((ce.getD k default).qos=0))=true:=by
  rcases h8 with h | h
  · rw [h];rfl
  · rw [decide_eq_true h];simp
 rw [e8]
 rcases h1 with h | h
 · rw [decide_eq_true h];simp
 · rw [h];simp
theorem cellOk_no {k:Nat} (h:(¬ k=0/\Op.bytesLess (ce.getD (k - 1) default).topic (ce.getD k default).topic=false)\/nameB (ce.getD k default).topic=false\/hasB se (ce.getD k default).dot=false\/stampedM (ce.getD k default).stamp=false\/(ce.getD k default).qos<0\/2<(ce.getD k default).qos\/¬ (ce.getD k default).gone=(((ce.getD k default).payload.length:Int)==0)\/((ce.getD k default).gone=true/\¬ (ce.getD k default).qos=0)):cellOk se ce k=false:=by
 unfold cellOk
 rcases h with ⟨h,h'⟩ | h | h | h | h | h | h | ⟨h,h'⟩
 · rw [decide_eq_false h,h'];rfl
 · rw [h];simp
 · rw [h];simp
 · rw [h];simp
 · rw [decide_eq_false (show ¬ 0<=(ce.getD k default).qos by omega)];simp
 · rw [decide_eq_false (show ¬ (ce.getD k default).qos<=2 by omega)];simp
 · rw [show ((ce.getD k default).gone==(((ce.getD k default).payload.length:Int)==0))=false from beq_eq_false_iff_ne.2 h];simp
 · rw [h,decide_eq_false h'];simp
theorem dots_r {k:Nat} (h:k<ro.length):(ro.take (k+1)).map TRoute.dot=(ro.take k).map TRoute.dot++[(ro.getD k default).dot]:=by rw [take_more ro k h,List.map_append];rfl
theorem dots_c {k:Nat} (h:k<ce.length):(ce.take (k+1)).map TCell.dot=(ce.take k).map TCell.dot++[(ce.getD k default).dot]:=by rw [take_more ce k h,List.map_append];rfl
theorem dotsOf_len:(dotsOf ro ce).length=ro.length+ce.length:=by simp [dotsOf]
end
theorem cell_eta (c:TCell):(⟨⟨c.dot.node,c.dot.epoch,c.dot.n⟩,⟨c.stamp.l,c.stamp.c,c.stamp.node⟩,c.topic,c.payload,c.qos,c.gone⟩:TCell)=c:=rfl
theorem stamp_eta (s:TStamp):(⟨s.l,s.c,s.node⟩:TStamp)=s:=rfl
theorem toNat_pred2 {k:Nat}:((k:Int) - 1).toNat=k - 1:=by omega
attribute [local irreducible] nameB filterB stampedM rbefore rightB fencesB hasB fencedL Op.bytesLess
theorem sv_tableright_dc {p:Prop} (h:p:=by first | exact sv | (simp [encDot,encRoute,encFence,V.one];omega) | (simp [encRoute,encDot,encFence,V.one,List.length_take,List.length_drop]<;>omega) | (refine ⟨by omega,by omega,?_⟩;intro y hy;rcases List.mem_append.1 hy with hy | hy;(obtain ⟨x,_,rfl⟩:=List.mem_map.1 hy;rfl);(simp only [List.mem_singleton] at hy;subst hy;rfl)) | (refine ⟨by omega,by omega,?_⟩;intro y hy;obtain ⟨x,_,rfl⟩:=List.mem_map.1 hy;first | rfl | exact ⟨rfl,rfl⟩) | (refine ⟨?_,?_,?_,?_⟩<;>first | omega | (simp only [List.length_append,List.length_singleton];omega)) | (exact Nat.le_trans (hrf _ (by omega)) (by decide)) | (exact Nat.le_trans (hct _ (by omega)) (by decide)) | (have hq:=hcp k2 (by omega);omega) | (have hq:=hcp k2 (by omega);simp;omega) | fail):p:=h
section
attribute [local push_cast 2000] encDot encRoute encCell route_eta dot_eta stamp_eta toNat_pred2
theorem tableright_dc (se:List TDot) (fe:List TFence) (ro:List TRoute) (ce:List TCell) (F:Own):((se.length<=1000000000/\fe.length<=1000000000/\ro.length<=1000000000/\ce.length<=1000000000)/\(∀ k,k<ro.length->(ro.getD k default).filter.length<=65535)/\(∀ k,k<ce.length->(ce.getD k default).topic.length<=65535)/\(∀ k,k<ce.length->(ce.getD k default).payload.length<=1000000000))->DC Tryz.prog 22 [.agg [.sl (se.map encDot), .sl (fe.map encFence), .sl (ro.map encRoute), .sl (ce.map encCell)]] (([]:Own)++F) fun d G=>d = .bool (tableB se fe ro ce)/\G=[]++F:=by
 intro hA
 obtain ⟨⟨hs,hf,hr,hc⟩,hrf,hct,hcp⟩:=hA
 refine DC.bodyS (n_:=208) (show Tryz.prog.funcs[22]? = some Tryz.f22 by kernel_rfl) rfl rfl (by rfl) ?_
 simp only [env0,List.cons_append,List.nil_append]
 have kw:=ksIs [0,1,2,3,4,5,6,7,8,9,10,11,21,26,70,73,103,113,182,191,196,207]
 have ow:=ownIs []
 have dw8:=drIs 8 [] [4,8,9,10,15,16,21,23,24,28,31,34,35]
 have dw21:=drIs 21 [] [4,9,11,16,17,22,24,25,30,31,36,41,46,48,55,58]
 have dw30:=drIs 30 [] [3,7]
 refine DW.tail0 3 ?_
 repeat' (first
  | ((with_reducible apply DW.frzB 8 5);(focus (exact rfl));(repeat (with_reducible first | refine Out.here ?_ | refine Out.next ?_));simp only [put_cons,put_nil,Nat.reduceEqDiff,↓reduceIte,if_true,if_false,reduceCtorEq])
  | ((with_reducible apply DW.frzB 14 7);(focus (exact rfl));(repeat (with_reducible first | refine Out.here ?_ | refine Out.next ?_));simp only [put_cons,put_nil,Nat.reduceEqDiff,↓reduceIte,if_true,if_false,reduceCtorEq])
  | ((with_reducible apply DW.frzB 21 9);(focus (exact rfl));(repeat (with_reducible first | refine Out.here ?_ | refine Out.next ?_));simp only [put_cons,put_nil,Nat.reduceEqDiff,↓reduceIte,if_true,if_false,reduceCtorEq])
  | ((with_reducible refine DW.loopB 0 (X:=Nat×Value) (fun x=>x.1<=ro.length/\allK (routeOk se fe ro) x.1=true) (fun x=>[(1, .sp [.sl (se.map encDot), .sl (fe.map encFence), .sl (ro.map encRoute), .sl (ce.map encCell)]),(3, .gs x.2 (((ro.take x.1).map TRoute.dot).map encDot)),(4, .int .i64 x.1)]) (fun x=>.tail 3 x.2::([]:Own)) (fun x=>ro.length - x.1) ((0, .slice none 0 0)) ?_ ?_ ?_);exact (⟨Nat.zero_le _,rfl⟩);(simp [Sub,get,keepL]<;>fail);(try simp only [List.cons_append,List.nil_append]);refine pl_ ?_;intro ⟨k,v⟩ ⟨hk,ha⟩;(try simp only [List.cons_append,List.nil_append]);simp only at hk ha)
  | ((with_reducible refine DW.loopB 2 (X:=Nat) (fun x=>x<=k/\anyK (sameAt ro k) x=false) (fun x=>[(1, .sp [.sl (se.map encDot), .sl (fe.map encFence), .sl (ro.map encRoute), .sl (ce.map encCell)]),(3, .gs v (((ro.take k).map TRoute.dot).map encDot)),(4, .int .i64 k),(5, .sp (encRoute (ro.getD k default)).cs),(6, .int .i64 x)]) (fun x=>([]:Own)) (fun x=>k - x) (0) ?_ ?_ ?_);exact (⟨Nat.zero_le _,rfl⟩);(simp [Sub,get,keepL,encRoute,V.cs]<;>fail);(try simp only [List.cons_append,List.nil_append]);refine pl_ ?_;intro j ⟨hj,hja⟩;(try simp only [List.cons_append,List.nil_append]);simp only [encRoute,V.cs])
  | ((with_reducible refine DW.loopB 4 (X:=Nat×Value) (fun x=>x.1<=ce.length/\allK (cellOk se ce) x.1=true) (fun x=>[(1, .sp [.sl (se.map encDot), .sl (fe.map encFence), .sl (ro.map encRoute), .sl (ce.map encCell)]),(3, .gs x.2 ((ro.map TRoute.dot++(ce.take x.1).map TCell.dot).map encDot)),(8, .int .i64 x.1)]) (fun x=>.tail 3 x.2::([]:Own)) (fun x=>ce.length - x.1) ((0,v)) ?_ ?_ ?_);exact (⟨Nat.zero_le _,rfl⟩);(have hkl:k=ro.length:=(by omega);subst hkl;simp [Sub,get,keepL]<;>fail);(try simp only [List.cons_append,List.nil_append]);refine pl_ ?_;intro ⟨k2,v2⟩ ⟨hk2,ha2⟩;(try simp only [List.cons_append,List.nil_append]);simp only at hk2 ha2)
  | ((with_reducible refine DW.loopB 6 (X:=Nat) (fun x=>x<=(dotsOf ro ce).length/\allK (dotFresh (dotsOf ro ce)) x=true) (fun x=>[(3, .gs v2 ((dotsOf ro ce).map encDot)),(10, .int .i64 x)]) (fun x=>([]:Own)) (fun x=>(dotsOf ro ce).length - x) (0) ?_ ?_ ?_);exact (⟨Nat.zero_le _,rfl⟩);(have hkl2:k2=ce.length:=(by omega);subst hkl2;simp [Sub,get,keepL,dotsOf]<;>fail);(try simp only [List.cons_append,List.nil_append]);refine pl_ ?_;intro k3 ⟨hk3,ha3⟩;(try simp only [List.cons_append,List.nil_append]);have hdl:=dotsOf_len (ro:=ro) (ce:=ce))
  | ((with_reducible refine DW.loopB 8 (X:=Nat) (fun x=>x<=k3/\anyK (dotSame (dotsOf ro ce) k3) x=false) (fun x=>[(3, .gs v2 ((dotsOf ro ce).map encDot)),(10, .int .i64 k3),(11, .int .i64 x)]) (fun x=>([]:Own)) (fun x=>k3 - x) (0) ?_ ?_ ?_);exact (⟨Nat.zero_le _,rfl⟩);(simp [Sub,get,keepL]<;>fail);(try simp only [List.cons_append,List.nil_append]);refine pl_ ?_;intro j3 ⟨hj3,hja3⟩;(try simp only [List.cons_append,List.nil_append]))
  | refine g_ ?_
  | ((with_reducible refine And.intro ?_ ?_);(exact sv_tableright_dc))
  | (refine DW.cond (by rfl) ?_ ?_<;>(first | exact i0_ | (refine ic_ ?_;intro hb)))
  | ((with_reducible first | refine FVg_cases ?_ ?_ | refine FDg_cases ?_ ?_)<;>(intro hb;rw [hb];revert hb;(first | exact i0_ | (refine i_ ?_;intro hb))))
  | refine r_ ?_
  | refine d_ ?_
  | refine k_ ?_
  | ((refine dm_ ?_);(first | ((first | refine v_ (rright_dc _ _) ?_ (ha:=by exact sv_tableright_dc) | refine v_ (fencesright_dc _ _) ?_ (ha:=by exact sv_tableright_dc) | refine v_ (rbefore_dc _ _ _ _ _ _ _ _ _) ?_ (ha:=by exact sv_tableright_dc) | refine v_ (rfilter_dc _ _) ?_ (ha:=by exact sv_tableright_dc) | refine v_ (rhas_dc _ _ _ _ _) ?_ (ha:=by exact sv_tableright_dc) | refine v_ (rfenced9_dc _ _ _ _ _ _ _) ?_ (ha:=by exact sv_tableright_dc) | refine v_ (rname_dc _ _) ?_ (ha:=by exact sv_tableright_dc) | refine v_ (stamped_dc _ _ _ _) ?_ (ha:=by exact sv_tableright_dc)))))
  | refine vo_ ?_
  | ((first | refine q_ (rright_dc _ _) ?_ (ha:=by exact sv_tableright_dc) | refine q_ (fencesright_dc _ _) ?_ (ha:=by exact sv_tableright_dc) | refine q_ (rbefore_dc _ _ _ _ _ _ _ _ _) ?_ (ha:=by exact sv_tableright_dc) | refine q_ (rfilter_dc _ _) ?_ (ha:=by exact sv_tableright_dc) | refine q_ (rhas_dc _ _ _ _ _) ?_ (ha:=by exact sv_tableright_dc) | refine q_ (rfenced9_dc _ _ _ _ _ _ _) ?_ (ha:=by exact sv_tableright_dc) | refine q_ (rname_dc _ _) ?_ (ha:=by exact sv_tableright_dc) | refine q_ (stamped_dc _ _ _ _) ?_ (ha:=by exact sv_tableright_dc)))
  | refine o_ ?_
  | refine f_ ?_
  | refine vm_ ?_
  | with_reducible intro b)
 all_goals first
 | (have eF:tableB se fe ro ce=false:=tableB_1 (by first | (left;assumption) | (right;assumption))
    rw [eF];(first | exact fin_ | refine finq_ ?_);done)
 | (have eF:tableB se fe ro ce=false:=tableB_2 (k:=k) (by omega) (routeOk_no (by first | (left;refine ⟨?_,?_⟩;(omega);assumption) | (right;left;assumption) | (right;right;left;assumption) | (right;right;right;left;assumption)))
    rw [eF];(first | exact fin_ | refine finq_ ?_);done)
 | (have e:sameAt ro k j=true:=by
     unfold sameAt ownB
     simp_all
    have eF:tableB se fe ro ce=false:=tableB_2 (k:=k) (by omega) (routeOk_no (.inr (.inr (.inr (.inr (anyK_at e (by omega)))))))
    rw [eF];(first | exact fin_ | refine finq_ ?_);done)
 | (have e:sameAt ro k j=false:=by
     unfold sameAt ownB
     simp_all
    refine ⟨j+1,⟨by omega,anyK_next hja e⟩,by omega,by simp [Sub,get,encRoute,V.cs],?_⟩;(exact sub_);done)
 | (have hjk:j=k:=by omega
    subst hjk
    have e:routeOk se fe ro j=true:=routeOk_yes (by first | (left;omega) | (right;assumption)) (by assumption) (by assumption) (by assumption) hja
    have hy:=dots_r (ro:=ro) (show j<ro.length by omega)
    refine ⟨(j+1,b),?_,?_,?_,?_⟩;(exact ⟨by omega,allK_next ha e⟩);(((try simp only);omega));(simp [Sub,get,hy,encDot]<;>(fail));(try dsimp only);(exact sub_);done)
 | (have eF:tableB se fe ro ce=false:=tableB_3 (k:=k2) (by omega) (cellOk_no (by first | (right;left;assumption) | (right;right;left;assumption) | (right;right;right;left;assumption) | (right;right;right;right;left;omega) | (right;right;right;right;right;left;omega) | (left;refine ⟨?_,?_⟩;(omega);(first | assumption | (simp_all<;>fail))) | (right;right;right;right;right;right;left;first | assumption | (simp_all<;>fail)) | (right;right;right;right;right;right;right;refine ⟨?_,?_⟩;(first | assumption | (simp_all<;>fail));(first | assumption | omega | (simp_all<;>fail)))))
    rw [eF];(first | exact fin_ | refine finq_ ?_);done)
 | (have e:cellOk se ce k2=true:=cellOk_yes (by first | (left;omega) | (right;assumption) | (right;(simp_all<;>fail))) (by assumption) (by assumption) (by assumption) (by omega) (by omega) (by first | assumption | (simp_all<;>fail)) (by first | (left;assumption) | (right;omega) | (right;assumption))
    have hy:=dots_c (ce:=ce) (show k2<ce.length by omega)
    refine ⟨(k2+1,b),?_,?_,?_,?_⟩;(exact ⟨by omega,allK_next ha2 e⟩);(((try simp only);omega));(simp [Sub,get,hy,encDot]<;>(fail));(try dsimp only);(exact sub_);done)
 | (have e:dotSame (dotsOf ro ce) k3 j3=true:=by
     unfold dotSame
     simp_all
    have eF:tableB se fe ro ce=false:=tableB_4 (k:=k3) (by omega) (by rw [dotFresh,anyK_at e (by omega)];rfl)
    rw [eF];(first | exact fin_ | refine finq_ ?_);done)
 | (have e:dotSame (dotsOf ro ce) k3 j3=false:=by
     unfold dotSame
     simp_all
    refine ⟨j3+1,⟨by omega,anyK_next hja3 e⟩,by omega,by simp [Sub,get],?_⟩;(exact sub_);done)
 | (have hjk:j3=k3:=by omega
    subst hjk
    refine ⟨j3+1,⟨by omega,allK_next ha3 (by rw [dotFresh,hja3];rfl)⟩,by omega,by simp [Sub,get],?_⟩;(exact sub_);done)
 | (have hkl:k=ro.length:=by omega
    subst hkl
    have hkl2:k2=ce.length:=by omega
    subst hkl2
    have hkl3:k3=(dotsOf ro ce).length:=by omega
    subst hkl3
    rw [tableB_5 (by assumption) (by assumption) ha ha2 ha3];(first | exact fin_ | refine finq_ ?_);done)
end
end
end Go.Proofs.YtifdpbghkccaoaaGreatDoor
