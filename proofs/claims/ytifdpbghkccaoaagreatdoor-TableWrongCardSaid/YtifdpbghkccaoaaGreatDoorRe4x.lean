/- Two tables are merged. -/
import Derived.Test.YtifdpbghkccaoaaGreatDoorRe2x
import Derived.Test.YtifdpbghkccaoaaGreatDoorDd2x
import Derived.KernelRfl
namespace Go.Proofs.YtifdpbghkccaoaaGreatDoor
open Go.RowKit
set_option linter.unusedSimpArgs false
set_option linter.unusedVariables false
set_option linter.unusedSectionVars false
set_option maxHeartbeats 4000000
set_option maxRecDepth 100000
section
attribute [local irreducible] DW SeqD DV DOp DC DVX
theorem mergeRo_0 (ro l:List TRoute):mergeRo ro (List.take 0 l)=ro:=rfl
theorem mergeCe_0 (ce l:List TCell):mergeCe ce (List.take 0 l)=ce:=rfl
def anyT (ce:List TCell) (j:Nat) (tp:Str):Bool:=(ce.take j).any fun o=>o.topic==tp
theorem anyT_0 (ce:List TCell) (tp:Str):anyT ce 0 tp=false:=rfl
theorem anyT_more {ce:List TCell} {j:Nat} (h:j<ce.length) (tp:Str):anyT ce (j+1) tp=(anyT ce j tp||(ce.getD j default).topic==tp):=by unfold anyT;rw [take_more ce j h,List.any_append];simp
theorem anyT_all {ce:List TCell} {j:Nat} (h:j=ce.length) {tp:Str} {b:Bool} (hb:anyT ce j tp=b):ce.any (fun o=>o.topic==tp)=b:=by subst h;rw [anyT,List.take_length] at hb;exact hb
theorem sv_merge_dc {p:Prop} (h:p:=by first | exact sv | (simp [encDot,encRoute,encFence,V.one];omega) | (simp [encRoute,encDot,encFence,V.one,List.length_take,List.length_drop]<;>omega) | (refine ⟨by omega,by omega,?_⟩;intro y hy;rcases List.mem_append.1 hy with hy | hy;(obtain ⟨x,_,rfl⟩:=List.mem_map.1 hy;rfl);(simp only [List.mem_singleton] at hy;subst hy;rfl)) | (refine ⟨by omega,by omega,?_⟩;intro y hy;obtain ⟨x,_,rfl⟩:=List.mem_map.1 hy;first | rfl | exact ⟨rfl,rfl⟩) | (refine ⟨?_,?_,?_,?_⟩<;>first | omega | (simp only [List.length_append,List.length_singleton];omega)) | exact ha1 | exact hb1 | exact hfl.mono (by decide) | exact (unf_lite hfl).mono (by decide) | fail):p:=h
section
attribute [local push_cast 2000] encDot encRoute encCell encFence route_eta cell_eta dot_eta mergeFe_0 mergeRo_0 mergeCe_0 anyT_0 m0_seen m0_fences m0_routes m0_cells
theorem merge_dc (a b:TTable) (F:Own):(Lite 4000000 a/\Lite 4000000 b)->DC Tryz.prog 68 [.agg [.sl (a.seen.map encDot), .sl (a.fences.map encFence), .sl (a.routes.map encRoute), .sl (a.cells.map encCell)], .agg [.sl (b.seen.map encDot), .sl (b.fences.map encFence), .sl (b.routes.map encRoute), .sl (b.cells.map encCell)]] (([]:Own)++F) fun d G=>d = .agg [.sl ((mergeM a b).seen.map encDot), .sl ((mergeM a b).fences.map encFence), .sl ((mergeM a b).routes.map encRoute), .sl ((mergeM a b).cells.map encCell)]/\G=[]++F:=by
 intro hA
 obtain ⟨hLa,hLb⟩:=hA
 refine DC.bodyS (n_:=153) (show Tryz.prog.funcs[68]? = some Tryz.f68 by kernel_rfl) rfl rfl (by rfl) ?_
 simp only [env0,mergeFe_0,mergeRo_0,mergeCe_0,anyT_0,m0_seen,m0_fences,m0_routes,m0_cells,List.cons_append,List.nil_append]
 have kw:=ksIs [0,1,2,3,4,5,6,7,8,10,11,12,13,14,15,16,26,31,56,78,90,97,116,129,150]
 have ow:=ownIs []
 have dw24:=drIs 24 [] [3,7,12]
 have dw26:=drIs 26 [8] [1,5,6]
 have dw30:=drIs 30 [14] [0,2,6,8,12,13]
 have rw_:=rsIs [.cell 4 32]
 have ha1:=hLa.mono (show 4000000<=1000000000 by decide)
 have hb1:=hLb.mono (show 4000000<=1000000000 by decide)
 have:=hLa.s;have:=hLa.f;have:=hLa.r;have:=hLa.c;have:=hLb.s;have:=hLb.f;have:=hLb.r;have:=hLb.c
 have hl1:=stays_len a.routes b.seen b.routes;have hl2:=stays_len b.routes a.seen a.routes;have hl3:=keeps_len a.cells b.seen b.cells;have hl4:=keeps_len b.cells a.seen a.cells
 repeat' (first
  | ((with_reducible apply DW.frzB 13 8);(focus (exact rfl));(repeat (with_reducible first | refine Out.here ?_ | refine Out.next ?_));simp only [put_cons,put_nil,Nat.reduceEqDiff,↓reduceIte,if_true,if_false,reduceCtorEq])
  | ((with_reducible refine DW.loopB 1 (X:=Nat) (fun x=>x<=(staysM b.routes a.seen a.routes).length) (fun x=>[(2, .sp [.sl (a.seen.map encDot), .sl (a.fences.map encFence), .sl (a.routes.map encRoute), .sl (a.cells.map encCell)]),(3, .sp [.sl (b.seen.map encDot), .sl (b.fences.map encFence), .sl (b.routes.map encRoute), .sl (b.cells.map encCell)]),(4, .raw (.pointer (some ⟨b1,0,none⟩))),(5, .raw (.pointer (some ⟨b2,0,none⟩))),(6, .sl ((staysM b.routes a.seen a.routes).map encRoute)),(7, .int .i64 x)]) (fun x=>.blk b2 [.sl ((joinM a.seen b.seen).map encDot), .sl (a.fences.map encFence), .sl ((mergeRo (staysM a.routes b.seen b.routes) ((staysM b.routes a.seen a.routes).take x)).map encRoute), .sl ((keepsM a.cells b.seen b.cells).map encCell)] :: .blk b1 [.gs (.slice none 0 0) [], .gs (.slice none 0 0) [], .gs (.slice none 0 0) [], .gs (.slice none 0 0) []]::([]:Own)) (fun x=>(staysM b.routes a.seen a.routes).length - x) (0) ?_ ?_ ?_);exact (Nat.zero_le _);(simp [Sub,get,keepL]<;>fail);(try simp only [mergeFe_0,mergeRo_0,mergeCe_0,anyT_0,m0_seen,m0_fences,m0_routes,m0_cells,List.cons_append,List.nil_append]);refine pl_ ?_;intro k hk;(try simp only [mergeFe_0,mergeRo_0,mergeCe_0,anyT_0,m0_seen,m0_fences,m0_routes,m0_cells,List.cons_append,List.nil_append]);have hlr:=(mergeRo_facts ((staysM b.routes a.seen a.routes).take k) (staysM a.routes b.seen b.routes)).1;rw [List.length_take] at hlr)
  | ((have hkl:k=(staysM b.routes a.seen a.routes).length:=(by omega));subst hkl;simp only [List.take_length] at hlr ⊢;((with_reducible refine DW.loopB 3 (X:=Nat) (fun x=>x<=(keepsM b.cells a.seen a.cells).length) (fun x=>[(2, .sp [.sl (a.seen.map encDot), .sl (a.fences.map encFence), .sl (a.routes.map encRoute), .sl (a.cells.map encCell)]),(3, .sp [.sl (b.seen.map encDot), .sl (b.fences.map encFence), .sl (b.routes.map encRoute), .sl (b.cells.map encCell)]),(4, .raw (.pointer (some ⟨b1,0,none⟩))),(5, .raw (.pointer (some ⟨b2,0,none⟩))),(11, .sl ((keepsM b.cells a.seen a.cells).map encCell)),(12, .int .i64 x)]) (fun x=>.blk b2 [.sl ((joinM a.seen b.seen).map encDot), .sl (a.fences.map encFence), .sl ((mergeRo (staysM a.routes b.seen b.routes) (staysM b.routes a.seen a.routes)).map encRoute), .sl ((mergeCe (keepsM a.cells b.seen b.cells) ((keepsM b.cells a.seen a.cells).take x)).map encCell)] :: .blk b1 [.gs (.slice none 0 0) [], .gs (.slice none 0 0) [], .gs (.slice none 0 0) [], .gs (.slice none 0 0) []]::([]:Own)) (fun x=>(keepsM b.cells a.seen a.cells).length - x) (0) ?_ ?_ ?_);exact (Nat.zero_le _);(simp [Sub,get,keepL]<;>fail);(try simp only [mergeFe_0,mergeRo_0,mergeCe_0,anyT_0,m0_seen,m0_fences,m0_routes,m0_cells,List.cons_append,List.nil_append]);refine pl_ ?_;intro k2 hk2;(try simp only [mergeFe_0,mergeRo_0,mergeCe_0,anyT_0,m0_seen,m0_fences,m0_routes,m0_cells,List.cons_append,List.nil_append]);have hlc:=(mergeCe_facts ((keepsM b.cells a.seen a.cells).take k2) (keepsM a.cells b.seen b.cells)).1;rw [List.length_take] at hlc))
  | ((with_reducible refine DW.loopB 5 (X:=Nat) (fun x=>x<=(mergeCe (keepsM a.cells b.seen b.cells) ((keepsM b.cells a.seen a.cells).take k2)).length) (fun x=>[(2, .sp [.sl (a.seen.map encDot), .sl (a.fences.map encFence), .sl (a.routes.map encRoute), .sl (a.cells.map encCell)]),(3, .sp [.sl (b.seen.map encDot), .sl (b.fences.map encFence), .sl (b.routes.map encRoute), .sl (b.cells.map encCell)]),(4, .raw (.pointer (some ⟨b1,0,none⟩))),(5, .raw (.pointer (some ⟨b2,0,none⟩))),(11, .sl ((keepsM b.cells a.seen a.cells).map encCell)),(12, .int .i64 k2),(13, .bool (anyT (mergeCe (keepsM a.cells b.seen b.cells) ((keepsM b.cells a.seen a.cells).take k2)) x ((keepsM b.cells a.seen a.cells).getD k2 default).topic)),(14, .int .i64 x)]) (fun x=>.blk b2 [.sl ((joinM a.seen b.seen).map encDot), .sl (a.fences.map encFence), .sl ((mergeRo (staysM a.routes b.seen b.routes) (staysM b.routes a.seen a.routes)).map encRoute), .sl ((mergeCe (keepsM a.cells b.seen b.cells) ((keepsM b.cells a.seen a.cells).take k2)).map encCell)] :: .blk b1 [.gs (.slice none 0 0) [], .gs (.slice none 0 0) [], .gs (.slice none 0 0) [], .gs (.slice none 0 0) []]::([]:Own)) (fun x=>(mergeCe (keepsM a.cells b.seen b.cells) ((keepsM b.cells a.seen a.cells).take k2)).length - x) (0) ?_ ?_ ?_);exact (Nat.zero_le _);(simp [Sub,get,keepL,anyT_0]<;>fail);(try simp only [mergeFe_0,mergeRo_0,mergeCe_0,anyT_0,m0_seen,m0_fences,m0_routes,m0_cells,List.cons_append,List.nil_append]);refine pl_ ?_;intro j hj;(try simp only [mergeFe_0,mergeRo_0,mergeCe_0,anyT_0,m0_seen,m0_fences,m0_routes,m0_cells,List.cons_append,List.nil_append]))
  | ((have hkl2:k2=(keepsM b.cells a.seen a.cells).length:=(by omega));subst hkl2;simp only [List.take_length] at hlc ⊢;((with_reducible refine DW.loopB 7 (X:=Nat) (fun x=>x<=b.fences.length) (fun x=>[(2, .sp [.sl (a.seen.map encDot), .sl (a.fences.map encFence), .sl (a.routes.map encRoute), .sl (a.cells.map encCell)]),(3, .sp [.sl (b.seen.map encDot), .sl (b.fences.map encFence), .sl (b.routes.map encRoute), .sl (b.cells.map encCell)]),(4, .raw (.pointer (some ⟨b1,0,none⟩))),(5, .raw (.pointer (some ⟨b2,0,none⟩))),(15, .int .i64 x)]) (fun x=>.blk b2 [.sl ((mergeFe (merge0 a b) (b.fences.take x)).seen.map encDot), .sl ((mergeFe (merge0 a b) (b.fences.take x)).fences.map encFence), .sl ((mergeFe (merge0 a b) (b.fences.take x)).routes.map encRoute), .sl ((mergeFe (merge0 a b) (b.fences.take x)).cells.map encCell)] :: .blk b1 [.gs (.slice none 0 0) [], .gs (.slice none 0 0) [], .gs (.slice none 0 0) [], .gs (.slice none 0 0) []]::([]:Own)) (fun x=>b.fences.length - x) (0) ?_ ?_ ?_);exact (Nat.zero_le _);(simp [Sub,get,keepL]<;>fail);(try simp only [mergeFe_0,mergeRo_0,mergeCe_0,anyT_0,m0_seen,m0_fences,m0_routes,m0_cells,List.cons_append,List.nil_append]);refine pl_ ?_;intro k3 hk3;(try simp only [mergeFe_0,mergeRo_0,mergeCe_0,anyT_0,m0_seen,m0_fences,m0_routes,m0_cells,List.cons_append,List.nil_append]);have hfl:=merge1_lite hLa hLb k3))
  | refine g_ ?_
  | ((with_reducible refine And.intro ?_ ?_);(exact sv_merge_dc))
  | (refine DW.cond (by rfl) ?_ ?_<;>(first | exact i0_ | (refine ic_ ?_;intro hb)))
  | ((with_reducible first | refine FVg_cases ?_ ?_ | refine FDg_cases ?_ ?_)<;>(intro hb;rw [hb];revert hb;(first | exact i0_ | (refine i_ ?_;intro hb))))
  | refine r_ ?_
  | refine d_ ?_
  | refine k_ ?_
  | ((refine dm_ ?_);(first | ((first | refine v_ (rightT_dc _ _) ?_ (ha:=by exact sv_merge_dc) | refine v_ (rjoin_dc _ _ _) ?_ (ha:=by exact sv_merge_dc) | refine v_ (stays_dc _ _ _ _ _ _ _ _ _) ?_ (ha:=by exact sv_merge_dc) | refine v_ (keeps_dc _ _ _ _ _ _ _ _ _) ?_ (ha:=by exact sv_merge_dc) | refine v_ (without_dc _ _ _ _ _) ?_ (ha:=by exact sv_merge_dc) | refine v_ (insert_dc _ _ _ _ _ _) ?_ (ha:=by exact sv_merge_dc) | refine v_ (cellinto_dc _ _ _ _ _ _ _ _ _ _ _ _) ?_ (ha:=by exact sv_merge_dc) | refine v_ (fenceT_dc _ _ _ _) ?_ (ha:=by exact sv_merge_dc) | refine v_ (unfT_dc _ _) ?_ (ha:=by exact sv_merge_dc)))))
  | refine vo_ ?_
  | ((first | ((with_reducible refine DW.drawX (id:=7) [0,1,2,3,4,5,6,7,8,10,11,12,13,14,15,16,26,31,56,78,90,97,116,129,150] [4,9,12,15] 14 32 (some 5) (by kernel_rfl) (by kernel_rfl) (by kernel_rfl) (by kernel_rfl) rfl (by kernel_rfl) ?_ ?_)) | (refine DVX.fl_ rfl rfl rfl ?_) | (refine DVX.f_ rfl rfl (by decide) ?_) | ((refine DVX.mv_ rfl rfl (by decide) ?_);intro X;(try simp only [List.cons_append,List.nil_append]);(first | (refine qq_ (rightT_dc _ _) ?_ (ha:=by exact sv_merge_dc);rintro d rfl) | (refine qq_ (rjoin_dc _ _ _) ?_ (ha:=by exact sv_merge_dc);rintro d rfl) | (refine qq_ (stays_dc _ _ _ _ _ _ _ _ _) ?_ (ha:=by exact sv_merge_dc);rintro d rfl) | (refine qq_ (keeps_dc _ _ _ _ _ _ _ _ _) ?_ (ha:=by exact sv_merge_dc);rintro d rfl) | (refine qq_ (without_dc _ _ _ _ _) ?_ (ha:=by exact sv_merge_dc);rintro d rfl) | (refine qq_ (insert_dc _ _ _ _ _ _) ?_ (ha:=by exact sv_merge_dc);rintro d rfl) | (refine qq_ (cellinto_dc _ _ _ _ _ _ _ _ _ _ _ _) ?_ (ha:=by exact sv_merge_dc);rintro d rfl) | (refine qq_ (fenceT_dc _ _ _ _) ?_ (ha:=by exact sv_merge_dc);rintro d rfl) | (refine qq_ (unfT_dc _ _) ?_ (ha:=by exact sv_merge_dc);rintro d rfl) | ((refine DOp.load_ rfl rfl ?_);(repeat (with_reducible first | refine OnB.here ?_ | refine OnB.mid ?_ | refine OnB.next ?_));(refine And.intro (by simp (maxSteps:=1000000) (disch:=omega) only [push_cast,↓reduceIte,reduceCtorEq,Nat.reduceAdd,Nat.reduceMul,Nat.reduceLT,Nat.reduceLeDiff,Nat.reduceEqDiff,Nat.reduceSub,Int.reduceToNat,Int.reduceLT,Int.reduceLE,Int.reduceAdd,Int.reduceSub,Int.reduceMul,Int.reduceNeg,Nat.reduceBEq,Int.reduceBEq,Int.reduceBNe,Nat.reduceBNe,Int.reduceEq,encDot,encRoute,encCell,encFence,route_eta,cell_eta,dot_eta,mergeFe_0,mergeRo_0,mergeCe_0,anyT_0,m0_seen,m0_fences,m0_routes,m0_cells]) ?_)));(try simp only [List.cons_append,List.nil_append]);(repeat (with_reducible first | refine PXK.base ?_ | refine PXK.none ?_ | refine PXK.cons ?_))))<;>(simp (maxSteps:=1000000) (disch:=omega) only [push_cast,↓reduceIte,reduceCtorEq,Nat.reduceAdd,Nat.reduceMul,Nat.reduceLT,Nat.reduceLeDiff,Nat.reduceEqDiff,Nat.reduceSub,Int.reduceToNat,Int.reduceLT,Int.reduceLE,Int.reduceAdd,Int.reduceSub,Int.reduceMul,Int.reduceNeg,Nat.reduceBEq,Int.reduceBEq,Int.reduceBNe,Nat.reduceBNe,Int.reduceEq,encDot,encRoute,encCell,encFence,route_eta,cell_eta,dot_eta,mergeFe_0,mergeRo_0,mergeCe_0,anyT_0,m0_seen,m0_fences,m0_routes,m0_cells]))
  | ((first | refine q_ (rightT_dc _ _) ?_ (ha:=by exact sv_merge_dc) | refine q_ (rjoin_dc _ _ _) ?_ (ha:=by exact sv_merge_dc) | refine q_ (stays_dc _ _ _ _ _ _ _ _ _) ?_ (ha:=by exact sv_merge_dc) | refine q_ (keeps_dc _ _ _ _ _ _ _ _ _) ?_ (ha:=by exact sv_merge_dc) | refine q_ (without_dc _ _ _ _ _) ?_ (ha:=by exact sv_merge_dc) | refine q_ (insert_dc _ _ _ _ _ _) ?_ (ha:=by exact sv_merge_dc) | refine q_ (cellinto_dc _ _ _ _ _ _ _ _ _ _ _ _) ?_ (ha:=by exact sv_merge_dc) | refine q_ (fenceT_dc _ _ _ _) ?_ (ha:=by exact sv_merge_dc) | refine q_ (unfT_dc _ _) ?_ (ha:=by exact sv_merge_dc)))
  | refine o_ ?_
  | refine f_ ?_
  | refine vm_ ?_
  | ((fail_if_success (have zz:=b1));with_reducible intro b1)
  | ((fail_if_success (have zz:=b2));with_reducible intro b2)
  | ((fail_if_success (have zz:=b3));with_reducible intro b3)
  | ((fail_if_success (have zz:=b4));with_reducible intro b4)
  | ((fail_if_success (have zz:=b5));with_reducible intro b5)
  | with_reducible intro b)
 all_goals first
 | ((exfalso;simp_all;done))
 | (rw [mergeM_1 (by assumption) (by assumption)];refine ⟨_,_,?_,⟨rfl,rfl⟩,?_⟩;(exact le.agg (by repeat (first | exact Les.nil | refine Les.cons le.rfl_ ?_ | refine Les.cons (le.gs rfl) ?_ | refine Les.cons (le.gs List.map_nil.symm) ?_ | refine Les.cons (le.agg ?_) ?_)));(exact sub_);done)
 | (rw [mergeM_2 (by assumption) (by assumption)];refine ⟨_,_,?_,⟨rfl,rfl⟩,?_⟩;(exact le.agg (by repeat (first | exact Les.nil | refine Les.cons le.rfl_ ?_ | refine Les.cons (le.gs rfl) ?_ | refine Les.cons (le.gs List.map_nil.symm) ?_ | refine Les.cons (le.agg ?_) ?_)));(exact sub_);done)
 | (rw [mergeM_3 (by assumption) (by assumption)];refine ⟨_,_,?_,⟨rfl,rfl⟩,?_⟩;(exact le.agg (by repeat (first | exact Les.nil | refine Les.cons le.rfl_ ?_ | refine Les.cons (le.gs rfl) ?_ | refine Les.cons (le.gs List.map_nil.symm) ?_ | refine Les.cons (le.agg ?_) ?_)));(exact sub_);done)
 | (have e:=(mergeRo_more (staysM a.routes b.seen b.routes) (l:=staysM b.routes a.seen a.routes) (k:=k) (by omega)).trans (roStep_1 (by assumption))
    refine ⟨k+1,by omega,by omega,by simp [Sub,get],?_⟩;(try rw [e]);(exact sub_);done)
 | (have e:=(mergeRo_more (staysM a.routes b.seen b.routes) (l:=staysM b.routes a.seen a.routes) (k:=k) (by omega)).trans (roStep_2 (by omega))
    refine ⟨k+1,by omega,by omega,by simp [Sub,get],?_⟩;(try rw [e]);(exact sub_);done)
 | (generalize hTP:((keepsM b.cells a.seen a.cells).getD k2 default).topic=TP at *
    have e:=anyT_more (ce:=mergeCe (keepsM a.cells b.seen b.cells) ((keepsM b.cells a.seen a.cells).take k2)) (j:=j) (by omega) TP
    rw [hb,Bool.true_or] at e
    refine ⟨j+1,by omega,by omega,(by simp [Sub,get,e,hb]),?_⟩;(exact sub_);done)
 | (generalize hTP:((keepsM b.cells a.seen a.cells).getD k2 default).topic=TP at *
    have e:=anyT_more (ce:=mergeCe (keepsM a.cells b.seen b.cells) ((keepsM b.cells a.seen a.cells).take k2)) (j:=j) (by omega) TP
    rw [hb,Bool.false_or] at e
    refine ⟨j+1,by omega,by omega,(by simp [Sub,get,e,hb]),?_⟩;(exact sub_);done)
 | (have e:=(mergeCe_more (keepsM a.cells b.seen b.cells) (l:=keepsM b.cells a.seen a.cells) (k:=k2) (by omega)).trans (ceStep_1 (anyT_all (by omega) hb))
    refine ⟨k2+1,by omega,by omega,by simp [Sub,get],?_⟩;(try rw [e]);(exact sub_);done)
 | (have e:=(mergeCe_more (keepsM a.cells b.seen b.cells) (l:=keepsM b.cells a.seen a.cells) (k:=k2) (by omega)).trans (ceStep_2 (anyT_all (by omega) hb))
    refine ⟨k2+1,by omega,by omega,by simp [Sub,get],?_⟩;(try rw [e]);(exact sub_);done)
 | (have e:=mergeFe_more (merge0 a b) (l:=b.fences) (k:=k3) (by omega)
    refine ⟨k3+1,by omega,by omega,by simp [Sub,get],?_⟩;(try rw [e]);(exact sub_);done)
 | (have hk3l:k3=b.fences.length:=by omega
    subst hk3l
    rw [List.take_length] at *
    rw [mergeM_4 (by assumption) (by assumption) (by assumption)];refine ⟨_,_,?_,⟨rfl,rfl⟩,?_⟩;(exact le.agg (by repeat (first | exact Les.nil | refine Les.cons le.rfl_ ?_ | refine Les.cons (le.gs rfl) ?_ | refine Les.cons (le.gs List.map_nil.symm) ?_ | refine Les.cons (le.agg ?_) ?_)));(exact sub_);done)
 | (have hk3l:k3=b.fences.length:=by omega
    subst hk3l
    rw [List.take_length] at *
    rw [mergeM_5 (by assumption) (by assumption) (by assumption)];refine ⟨_,_,?_,⟨rfl,rfl⟩,?_⟩;(exact le.agg (by repeat (first | exact Les.nil | refine Les.cons le.rfl_ ?_ | refine Les.cons (le.gs rfl) ?_ | refine Les.cons (le.gs List.map_nil.symm) ?_ | refine Les.cons (le.agg ?_) ?_)));(exact sub_);done)
end
end
end Go.Proofs.YtifdpbghkccaoaaGreatDoor
