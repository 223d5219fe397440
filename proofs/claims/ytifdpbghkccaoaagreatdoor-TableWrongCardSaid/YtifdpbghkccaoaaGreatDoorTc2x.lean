/- The tables of a story. -/
import Derived.Test.YtifdpbghkccaoaaGreatDoorHtx
import Derived.Test.YtifdpbghkccaoaaGreatDoorRe4x
import Derived.KernelRfl
namespace Go.Proofs.YtifdpbghkccaoaaGreatDoor
open Go.RowKit
set_option linter.unusedSimpArgs false
set_option linter.unusedVariables false
set_option linter.unusedSectionVars false
set_option maxHeartbeats 4000000
set_option maxRecDepth 100000
section
attribute [local irreducible] DW SeqD DV DOp DC DVX
theorem cells_tab2 {ts:List TTable} {k:Nat} {x:TTable} (h:k<ts.length):List.take 4 (List.drop (k * 4) (cells ((ts.set k x).map encTable)))=[.sl (x.seen.map encDot), .sl (x.fences.map encFence), .sl (x.routes.map encRoute), .sl (x.cells.map encCell)]:=by
 rw [cells_tab (by rw [List.length_set];exact h),getD_set_same h]
def eI (k:Nat):List V:=[.int .i64 (if 0<k then 1 else 0), .int .i64 (if 1<k then 1 else 0), .int .i64 (if 2<k then 1 else 0)]
theorem eI_0:eI 0=[.int .i64 0, .int .i64 0, .int .i64 0]:=rfl
theorem eI_1:eI 1=[.int .i64 1, .int .i64 0, .int .i64 0]:=rfl
theorem eI_2:eI 2=[.int .i64 1, .int .i64 1, .int .i64 0]:=rfl
theorem eI_3:eI 3=[.int .i64 1, .int .i64 1, .int .i64 1]:=rfl
attribute [local irreducible] routeAddM routeDropM cellPutM fenceM mergeM fencedL filterM topicM topM
theorem sv_tables_dc {p:Prop} (h:p:=by first | exact sv | (simp [encDot,encRoute,encFence,V.one];omega) | (simp [encRoute,encDot,encFence,V.one,List.length_take,List.length_drop]<;>omega) | (refine ⟨by omega,by omega,?_⟩;intro y hy;rcases List.mem_append.1 hy with hy | hy;(obtain ⟨x,_,rfl⟩:=List.mem_map.1 hy;rfl);(simp only [List.mem_singleton] at hy;subst hy;rfl)) | (refine ⟨by omega,by omega,?_⟩;intro y hy;obtain ⟨x,_,rfl⟩:=List.mem_map.1 hy;first | rfl | exact ⟨rfl,rfl⟩) | (refine ⟨?_,?_,?_,?_⟩<;>first | omega | (simp only [List.length_append,List.length_singleton];omega)) | exact hst.pAdd hk20 m _ _ _ | exact hst.pDrop hk20 m _ _ | exact hst.pPut hk20 m _ _ _ xl | exact hst.pFence hk20 m | exact hst.pMerge hk20 m mk | exact hst.f1 hk20 m | exact hst.f2 hk20 m _ _ _ | exact hst.f3 hk20 m _ _ _ | exact hst.f4 hk20 m _ _ _ _ _ _ | exact hst.f5 hk20 m _ _ | exact hst.f6 hk20 m mk | fail):p:=h
section
attribute [local push_cast 2000] encDeed cells_tab2 cells_tab cells_tset ints_drop ints_set cells_tlen ints_len List.length_set getD_set_same eI_0 eI_1 eI_2 eI_3
theorem tables_dc (l:List TDeed) (F:Own):(l.length<=20/\∀ d∈l,deedOk d)->DC Tryz.prog 25 [.int .i64 3, .sl (l.map encDeed)] (([]:Own)++F) fun d G=>d = .sl ((tablesM l).map encTable)/\G=[]++F:=by
 intro hA
 obtain ⟨hn,hl⟩:=hA
 refine DC.bodyS (n_:=177) (show Tryz.prog.funcs[25]? = some Tryz.f25 by kernel_rfl) rfl rfl (by rfl) ?_
 simp only [env0,tabG_0,epsG_0,eI_0,eI_1,eI_2,eI_3,List.cons_append,List.nil_append]
 have kw:=ksIs [0,1,4,5,6,7,8,9,10,11,12,19,28,48,65,84,102,135,140,169]
 have ow:=ownIs []
 have dw18:=drIs 18 [16] [5,10,12,13,14]
 have dw20:=drIs 20 [16] [5,10,12,13,14]
 have dw23:=drIs 23 [30] [5,10,13,19,20,22,24,28]
 have dw27:=drIs 27 [13] [5,10,11]
 have dw15:=drIs 15 [16] [5,8,13,14]
 have dw28:=drIs 28 [] [3,8,9]
 repeat' (first
  | ((with_reducible apply DW.frzR 30);(repeat (with_reducible first | refine OnA.here ?_ | refine OnA.next ?_));refine ⟨rfl,by decide,(by intro y hy;obtain ⟨x,_,rfl⟩:=List.mem_map.1 hy;rfl),?_,?_⟩;(repeat (first | exact CvE.nil | apply CvE.cons (Cv.hit _) | apply CvE.cons (Cv.rfl _))))
  | ((with_reducible refine DW.lesA 2 5 [.sl [], .sl [], .sl [], .sl [], .sl [], .sl [], .sl [], .sl [], .sl [], .sl [], .sl [], .sl []] rfl ?_);(repeat (first | (with_reducible refine OnA.here ?_) | (with_reducible refine OnA.next ?_)));(refine And.intro ?_ ?_);(focus ((repeat (first | exact Les.nil | refine Les.cons (le.gs rfl) ?_));done));(try dsimp only))
  | ((with_reducible refine DW.loopB 0 (X:=Nat×Value×Value) (fun x=>x.1<=3) (fun x=>[(0, .int .i64 3),(1, .sl (l.map encDeed)),(5, .ar x.2.1 3),(6, .ar x.2.2 3),(7, .int .i64 x.1)]) (fun x=>.arr 4 x.2.1 [.gs (.slice none 0 0) [], .gs (.slice none 0 0) [], .gs (.slice none 0 0) [], .gs (.slice none 0 0) [], .gs (.slice none 0 0) [], .gs (.slice none 0 0) [], .gs (.slice none 0 0) [], .gs (.slice none 0 0) [], .gs (.slice none 0 0) [], .gs (.slice none 0 0) [], .gs (.slice none 0 0) [], .gs (.slice none 0 0) []] :: .arr 1 x.2.2 (eI x.1)::([]:Own)) (fun x=>3 - x.1) ((0,va,vb)) ?_ ?_ ?_);exact (Nat.zero_le _);(simp [Sub,get,keepL]<;>fail);(try simp only [tabG_0,epsG_0,eI_0,eI_1,eI_2,eI_3,List.cons_append,List.nil_append]);refine pl_ ?_;intro ⟨i,v,u⟩ hi;(try simp only [tabG_0,epsG_0,eI_0,eI_1,eI_2,eI_3,List.cons_append,List.nil_append]);rcases (show i=0\/i=1\/i=2\/i=3 by simp only at hi;omega) with rfl | rfl | rfl | rfl)
  | ((with_reducible refine DW.loopB 2 (X:=Nat×Value×Value×TSt) (fun x=>x.1<=l.length/\x.2.2.2=(l.take x.1).foldl stepT startT) (fun x=>[(0, .int .i64 3),(1, .sl (l.map encDeed)),(5, .ar x.2.1 3),(6, .ar x.2.2.1 3),(8, .int .i64 x.2.2.2.at_),(9, .int .i64 x.1)]) (fun x=>.arr 4 x.2.1 (tabG x.2.2.2) :: .arr 1 x.2.2.1 (epsG x.2.2.2)::([]:Own)) (fun x=>l.length - x.1) ((0,v,u,startT)) ?_ ?_ ?_);exact (⟨Nat.zero_le _,rfl⟩);(simp [Sub,get,keepL,startT]<;>fail);(try simp only [tabG_0,epsG_0,eI_0,eI_1,eI_2,eI_3,List.cons_append,List.nil_append]);refine pl_ ?_;intro ⟨k,v,u,st⟩ ⟨hk,hs⟩;(try simp only [tabG_0,epsG_0,eI_0,eI_1,eI_2,eI_3,List.cons_append,List.nil_append]);simp only at hk hs ⊢;have hst:=Story.take hl k hk;rw [<-hs] at hst;have hlt:=hst.lt;have hle:=hst.le;have ht1:=hst.at1;have ht2:=hst.at2;have hk20:k<=20:=Nat.le_trans hk hn;obtain ⟨⟨w0,w1⟩,⟨o0,o1⟩,⟨k0,k1⟩,xl⟩:=deed_at hl k;have m:=tmod3 o0;have mk:=tmod3 k0;have w80:=Int.tmod_nonneg 8 w0;have w81:=Int.tmod_lt_of_pos (l.getD k default).what (show (0:Int)<8 by decide);have k20:=Int.tmod_nonneg 2 k0;have k21:=Int.tmod_lt_of_pos (l.getD k default).k (show (0:Int)<2 by decide);have k40:=Int.tmod_nonneg 4 k0;have k41:=Int.tmod_lt_of_pos (l.getD k default).k (show (0:Int)<4 by decide);have q0:=Int.tdiv_nonneg k0 (show (0:Int)<=4 by decide);have q1:(l.getD k default).k.tdiv 4<=255:=Int.le_trans (Int.tdiv_le_self _ k0) k1;have mq:=tmod3 q0;have ee:=(hst.tab m).2.2;have eq_:=(hst.tab mq).2.2;unfold epT at ee eq_;unfold tabG epsG)
  | refine g_ ?_
  | ((with_reducible refine And.intro ?_ ?_);(exact sv_tables_dc))
  | (refine DW.cond (by rfl) ?_ ?_<;>(first | exact i0_ | (refine ic_ ?_;intro hb)))
  | ((with_reducible first | refine FVg_cases ?_ ?_ | refine FDg_cases ?_ ?_)<;>(intro hb;rw [hb];revert hb;(first | exact i0_ | (refine i_ ?_;intro hb))))
  | refine r_ ?_
  | refine d_ ?_
  | refine k_ ?_
  | ((refine dm_ ?_);(first | ((first | refine v_ (filter_dc _ _) ?_ (ha:=by exact sv_tables_dc) | refine v_ (topic_dc _ _) ?_ (ha:=by exact sv_tables_dc) | refine v_ (addT_dc _ _ _ _ _) ?_ (ha:=by exact sv_tables_dc) | refine v_ (dropT_dc _ _ _ _ _) ?_ (ha:=by exact sv_tables_dc) | refine v_ (putT_dc _ _ _ _ _ _ _ _ _ _ _) ?_ (ha:=by exact sv_tables_dc) | refine v_ (fenceT_dc _ _ _ _) ?_ (ha:=by exact sv_tables_dc) | refine v_ (merge_dc _ _ _) ?_ (ha:=by exact sv_tables_dc) | refine v_ (rfenced9_dc _ _ _ _ _ _ _) ?_ (ha:=by exact sv_tables_dc)))))
  | refine vo_ ?_
  | ((first | (refine DOp.lista_ [14,16] rfl rfl ?_) | (refine DOp.makea_ [14,16] rfl rfl rfl rfl ?_))<;>(refine s_ ?_))
  | ((first | refine q_ (filter_dc _ _) ?_ (ha:=by exact sv_tables_dc) | refine q_ (topic_dc _ _) ?_ (ha:=by exact sv_tables_dc) | refine q_ (addT_dc _ _ _ _ _) ?_ (ha:=by exact sv_tables_dc) | refine q_ (dropT_dc _ _ _ _ _) ?_ (ha:=by exact sv_tables_dc) | refine q_ (putT_dc _ _ _ _ _ _ _ _ _ _ _) ?_ (ha:=by exact sv_tables_dc) | refine q_ (fenceT_dc _ _ _ _) ?_ (ha:=by exact sv_tables_dc) | refine q_ (merge_dc _ _ _) ?_ (ha:=by exact sv_tables_dc) | refine q_ (rfenced9_dc _ _ _ _ _ _ _) ?_ (ha:=by exact sv_tables_dc)))
  | refine o_ ?_
  | refine f_ ?_
  | refine vm_ ?_
  | (exact absurd trivial hb)
  | ((fail_if_success (have zz:=va));with_reducible intro va)
  | ((fail_if_success (have zz:=vb));with_reducible intro vb)
  | with_reducible intro b)
 all_goals first
 | ((exfalso;omega))
 | (refine ⟨(1,v,u),by simp,by simp,(by simp [Sub,get]),?_⟩;(simp only [eI_0,eI_1,eI_2,eI_3]);(exact sub_);done)
 | (refine ⟨(2,v,u),by simp,by simp,(by simp [Sub,get]),?_⟩;(simp only [eI_0,eI_1,eI_2,eI_3]);(exact sub_);done)
 | (refine ⟨(3,v,u),by simp,by simp,(by simp [Sub,get]),?_⟩;(simp only [eI_0,eI_1,eI_2,eI_3]);(exact sub_);done)
 | (have e:=step_y (act_1 (by omega)) hb
    refine ⟨(k+1,v,u,stepT st (l.getD k default)),?_,?_,?_,?_⟩;(exact ⟨by omega,by rw [foldl_more _ _ (by omega),<-hs]⟩);((try simp only);omega);(rw [e];simp [Sub,get]<;>fail);(rw [e];(try dsimp only);(exact sub_));done)
 | (have e:=step_n (act_1 (by omega)) hb
    refine ⟨(k+1,v,u,stepT st (l.getD k default)),?_,?_,?_,?_⟩;(exact ⟨by omega,by rw [foldl_more _ _ (by omega),<-hs]⟩);((try simp only);omega);(rw [e];simp [Sub,get]<;>fail);(rw [e];(try dsimp only);(exact sub_));done)
 | (have e:=step_y (act_2 (by omega)) hb
    refine ⟨(k+1,v,u,stepT st (l.getD k default)),?_,?_,?_,?_⟩;(exact ⟨by omega,by rw [foldl_more _ _ (by omega),<-hs]⟩);((try simp only);omega);(rw [e];simp [Sub,get]<;>fail);(rw [e];(try dsimp only);(exact sub_));done)
 | (have e:=step_n (act_2 (by omega)) hb
    refine ⟨(k+1,v,u,stepT st (l.getD k default)),?_,?_,?_,?_⟩;(exact ⟨by omega,by rw [foldl_more _ _ (by omega),<-hs]⟩);((try simp only);omega);(rw [e];simp [Sub,get]<;>fail);(rw [e];(try dsimp only);(exact sub_));done)
 | (have e:=step_y (act_3 (by omega)) hb
    refine ⟨(k+1,v,u,stepT st (l.getD k default)),?_,?_,?_,?_⟩;(exact ⟨by omega,by rw [foldl_more _ _ (by omega),<-hs]⟩);((try simp only);omega);(rw [e];simp [Sub,get]<;>fail);(rw [e];(try dsimp only);(exact sub_));done)
 | (have e:=step_n (act_3 (by omega)) hb
    refine ⟨(k+1,v,u,stepT st (l.getD k default)),?_,?_,?_,?_⟩;(exact ⟨by omega,by rw [foldl_more _ _ (by omega),<-hs]⟩);((try simp only);omega);(rw [e];simp [Sub,get]<;>fail);(rw [e];(try dsimp only);(exact sub_));done)
 | (have e:=step_y (act_5 (by omega) (by omega)) hb
    refine ⟨(k+1,v,u,stepT st (l.getD k default)),?_,?_,?_,?_⟩;(exact ⟨by omega,by rw [foldl_more _ _ (by omega),<-hs]⟩);((try simp only);omega);(rw [e];simp [Sub,get]<;>fail);(rw [e];(try dsimp only);(exact sub_));done)
 | (have e:=step_n (act_5 (by omega) (by omega)) hb
    refine ⟨(k+1,v,u,stepT st (l.getD k default)),?_,?_,?_,?_⟩;(exact ⟨by omega,by rw [foldl_more _ _ (by omega),<-hs]⟩);((try simp only);omega);(rw [e];simp [Sub,get]<;>fail);(rw [e];(try dsimp only);(exact sub_));done)
 | (have e:=step_y (act_0 (by omega) (by omega)) hb
    rw [set_same (by omega)] at e
    refine ⟨(k+1,v,u,stepT st (l.getD k default)),?_,?_,?_,?_⟩;(exact ⟨by omega,by rw [foldl_more _ _ (by omega),<-hs]⟩);((try simp only);omega);(rw [e];simp [Sub,get]<;>fail);(rw [e];(try dsimp only);(exact sub_));done)
 | (have e:=step_n (act_0 (by omega) (by omega)) hb
    rw [set_same (by omega)] at e
    refine ⟨(k+1,v,u,stepT st (l.getD k default)),?_,?_,?_,?_⟩;(exact ⟨by omega,by rw [foldl_more _ _ (by omega),<-hs]⟩);((try simp only);omega);(rw [e];simp [Sub,get]<;>fail);(rw [e];(try dsimp only);(exact sub_));done)
 | (have e:=step_y (act_6 (by omega)) hb
    refine ⟨(k+1,v,u,stepT st (l.getD k default)),?_,?_,?_,?_⟩;(exact ⟨by omega,by rw [foldl_more _ _ (by omega),<-hs]⟩);((try simp only);omega);(rw [e];simp [Sub,get]<;>fail);(rw [e];(try dsimp only);(exact sub_));done)
 | (have e:=step_n (act_6 (by omega)) hb
    refine ⟨(k+1,v,u,stepT st (l.getD k default)),?_,?_,?_,?_⟩;(exact ⟨by omega,by rw [foldl_more _ _ (by omega),<-hs]⟩);((try simp only);omega);(rw [e];simp [Sub,get]<;>fail);(rw [e];(try dsimp only);(exact sub_));done)
 | (have hkl:k=l.length:=by omega
    subst hkl
    rw [List.take_length] at hs
    refine ⟨_,_,le.gs ?_,⟨rfl,rfl⟩,?_⟩;(rw [hs];rfl);(exact sub_);done)
end
end
end Go.Proofs.YtifdpbghkccaoaaGreatDoor
