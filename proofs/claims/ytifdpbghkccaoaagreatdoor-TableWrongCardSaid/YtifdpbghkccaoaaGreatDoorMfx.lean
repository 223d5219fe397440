/- A table without routes is copied, is fenced. -/
import Derived.Test.YtifdpbghkccaoaaGreatDoorPtdx
import Derived.KernelRfl
namespace Go.Proofs.YtifdpbghkccaoaaGreatDoor
open Go.RowKit
set_option linter.unusedSimpArgs false
set_option linter.unusedVariables false
set_option linter.unusedSectionVars false
set_option maxHeartbeats 4000000
set_option maxRecDepth 100000
section
attribute [local irreducible] DW SeqD DV DOp DC DVX DVJ
theorem sv_copyN_dc {p:Prop} (h:p:=by first | exact sv | exact hp k (by omega) | fail):p:=h
section
attribute [local push_cast 2000] cell_lay cells_enccell cell_get
theorem copyN_dc (se:List TDot) (fe:List TFence) (ce:List TCell) (F:Own):(se.length<=1000000000/\fe.length<=1000000000/\ce.length<=1000000000/\∀ k,k<ce.length->(ce.getD k default).payload.length<=1000000000)->DC Tryz.prog 26 [.agg [.sl (se.map encDot), .sl (fe.map encFence), .gs (.slice none 0 0) [], .sl (ce.map encCell)]] (([]:Own)++F) fun d G=>∃ v1 v2 v4,d = .agg [.ar v1 se.length, .ar v2 fe.length, .gs (.slice none 0 0) [], .ar v4 ce.length]/\G = .arr 3 v1 (cells (se.map encDot)) :: .arr 2 v2 (cells (fe.map encFence)) :: .arr 10 v4 (cells (ce.map encCell))::F:=by
 intro hA
 obtain ⟨hs,hf,hc,hp⟩:=hA
 refine DC.bodyS (n_:=40) (show Tryz.prog.funcs[26]? = some Tryz.f26 by kernel_rfl) rfl rfl (by rfl) ?_
 simp only [env0,List.cons_append,List.nil_append]
 have kw:=ksIs [0,1,2,3,22,23,24]
 have ow:=ownIs [1]
 have dw5:=drIs 5 [12] [1,4,8,9]
 have rw_:=rsIs [.cell 2 32]
 repeat' (first
  | ((with_reducible refine DW.loopB 0 (X:=Nat) (fun x=>x<=ce.length) (fun x=>[(1, .raw (.pointer (some ⟨b1,0,none⟩))),(2, .raw (.pointer (some ⟨b2,0,none⟩))),(22, .int .i64 ce.length),(23, .int .i64 x)]) (fun x=>.blk b1 [.ar v1 se.length, .ar v2 fe.length, .gs (.slice none 0 0) [], .ar v4 ce.length] :: .arr 10 v4 (cells (ce.map encCell))::([]:Own)) (fun x=>ce.length - x) (0) ?_ ?_ ?_);exact (Nat.zero_le _);(simp [Sub,get,keepL]<;>fail);(try simp only [List.cons_append,List.nil_append]);refine pl_ ?_;intro k hk;(try simp only [List.cons_append,List.nil_append]))
  | refine g_ ?_
  | ((with_reducible refine And.intro ?_ ?_);(exact sv_copyN_dc))
  | (refine DW.cond (by rfl) ?_ ?_<;>(first | exact i0_ | (refine ic_ ?_;intro hb)))
  | ((with_reducible first | refine FVg_cases ?_ ?_ | refine FDg_cases ?_ ?_)<;>(intro hb;rw [hb];revert hb;(first | exact i0_ | (refine i_ ?_;intro hb))))
  | refine r_ ?_
  | refine d_ ?_
  | refine k_ ?_
  | ((refine dm_ ?_);(first | ((first | refine v_ (clorN_dc _ _ _) ?_ (ha:=by exact sv_copyN_dc) | refine v_ (bclone_dc _ _) ?_ (ha:=by exact sv_copyN_dc)))))
  | refine vo_ ?_
  | ((first | ((with_reducible apply DW.drawJ (id:=1) 1 [0,1,2,3,22,23,24] [2,5,8,11,13,15,17,19] [1,4,7,10] [2,5,8] (hm:=by kernel_rfl) (hd:=by kernel_rfl) (hB:=by kernel_rfl) (hN:=by kernel_rfl));(focus (exact rfl));(repeat (with_reducible first | refine OnB.here ?_ | refine OnB.mid ?_ | refine OnB.next ?_))) | (refine DVJ.k_ rfl rfl rfl ?_) | (refine DVJ.f_ rfl rfl rfl ?_))<;>(simp (maxSteps:=1000000) (disch:=omega) only [push_cast,↓reduceIte,reduceCtorEq,Nat.reduceAdd,Nat.reduceMul,Nat.reduceLT,Nat.reduceLeDiff,Nat.reduceEqDiff,Nat.reduceSub,Int.reduceToNat,Int.reduceLT,Int.reduceLE,Int.reduceAdd,Int.reduceSub,Int.reduceMul,Int.reduceNeg,Nat.reduceBEq,Int.reduceBEq,Int.reduceBNe,Nat.reduceBNe,Int.reduceEq,cell_lay,cells_enccell,cell_get,klS,klV]))
  | (refine p_ (clod_dc _ _) ?_ (ha:=by exact sv_copyN_dc);rintro d H1 ⟨v1,rfl,rfl⟩<;>refine s_ ?_)
  | (refine p_ (clof_dc _ _) ?_ (ha:=by exact sv_copyN_dc);rintro d H1 ⟨v2,rfl,rfl⟩<;>refine s_ ?_)
  | ((first | refine q_ (clorN_dc _ _ _) ?_ (ha:=by exact sv_copyN_dc) | refine q_ (bclone_dc _ _) ?_ (ha:=by exact sv_copyN_dc)))
  | (refine p_ (cloc_dc _ _) ?_ (ha:=by exact sv_copyN_dc);rintro d H1 ⟨v4,rfl,rfl⟩<;>refine s_ ?_)
  | refine o_ ?_
  | refine f_ ?_
  | (first | refine DVJ.ma_ rfl rfl rfl ?_ | refine DVJ.mb_ rfl rfl rfl ?_)
  | refine vm_ ?_
  | ((fail_if_success (have zz:=b1));with_reducible intro b1)
  | ((fail_if_success (have zz:=b2));with_reducible intro b2)
  | with_reducible intro b)
 all_goals first
 | (refine ⟨k+1,?_,?_,?_,?_⟩;(((try simp only);omega));(((try simp only);omega));(simp [Sub,get]<;>(fail));(try dsimp only);(exact sub_);done)
 | (refine ⟨_,_,le.rfl_,⟨_,_,_,rfl,rfl⟩,?_⟩;(exact sub_);done)
 | (trace_state;fail)
end
theorem idxN_dc (g:FuncId) (c1:V) (F:Own):(True)->DC Tryz.prog 125 [.gs (.slice none 0 0) [], .fn (.func g) [] [c1]] (([]:Own)++F) fun d G=>d = .int .i64 (-1)/\G=[]++F:=by
 intro hA
 refine DC.bodyS (n_:=19) (show Tryz.prog.funcs[125]? = some Tryz.f125 by kernel_rfl) rfl rfl (by rfl) ?_
 simp only [env0,List.cons_append,List.nil_append]
 have kw:=ksIs [0,1,4,5,7,8,9,16]
 have ow:=ownIs []
 repeat' (first
  | ((with_reducible refine DW.loopB 0 (X:=Nat) (fun x=>x<=0) (fun x=>[(0, .gs (.slice none 0 0) []),(1, .fn (.func g) [] [c1]),(7, .int .i64 0),(8, .int .i64 x)]) (fun x=>([]:Own)) (fun x=>0 - x) (0) ?_ ?_ ?_);exact (Nat.zero_le _);(simp [Sub,get,keepL]<;>fail);(try simp only [List.cons_append,List.nil_append]);refine pl_ ?_;intro k hk;(try simp only [List.cons_append,List.nil_append]))
  | refine g_ ?_
  | ((with_reducible refine And.intro ?_ ?_);(exact sv))
  | (refine DW.cond (by rfl) ?_ ?_<;>(first | exact i0_ | (refine ic_ ?_;intro hb)))
  | ((with_reducible refine FVg_cases ?_ ?_)<;>(intro hb;rw [hb];revert hb;(first | exact i0_ | (refine i_ ?_;intro hb))))
  | refine r_ ?_
  | refine k_ ?_
  | refine o_ ?_
  | refine f_ ?_
  | with_reducible intro b)
 all_goals first
 | (exfalso;omega)
 | ((first | exact fin_ | refine finq_ ?_);done)
 | (trace_state;fail)
theorem delN_dc (g:FuncId) (c1:V) (F:Own):(True)->DC Tryz.prog 83 [.gs (.slice none 0 0) [], .fn (.func g) [] [c1]] (([]:Own)++F) fun d G=>d = .gs (.slice none 0 0) []/\G=[]++F:=by
 intro hA
 refine DC.bodyS (n_:=42) (show Tryz.prog.funcs[83]? = some Tryz.f83 by kernel_rfl) rfl rfl (by rfl) ?_
 simp only [env0,List.cons_append,List.nil_append]
 have kw:=ksIs [0,1,4,5,6,7,12,19,29]
 have ow:=ownIs []
 repeat' (first
  | refine g_ ?_
  | ((with_reducible refine And.intro ?_ ?_);(exact sv))
  | (refine DW.cond (by rfl) ?_ ?_<;>(first | exact i0_ | (refine ic_ ?_;intro hb)))
  | ((with_reducible refine FVg_cases ?_ ?_)<;>(intro hb;rw [hb];revert hb;(first | exact i0_ | (refine i_ ?_;intro hb))))
  | refine k_ ?_
  | ((with_reducible refine DW.regK [0,1,4,5,6,7,12,19,29] (by kernel_rfl) ?_)<;>(refine s_ ?_))
  | ((first | ((with_reducible refine SeqD.op rfl ?_);(first | (refine DOp.slicea_ rfl rfl ?_) | (refine DOp.capa_ rfl rfl ?_) | (refine DOp.lensub_ rfl rfl ?_) | (refine DOp.copyaa2_ rfl rfl rfl ?_;(repeat (with_reducible first | refine OnA.here ?_ | refine OnA.next ?_));(repeat (with_reducible first | refine OnA.here ?_ | refine OnA.next ?_))) | (refine DOp.copyas2_ rfl rfl rfl ?_;(repeat (with_reducible first | refine OnA.here ?_ | refine OnA.next ?_))) | (refine DOp.cleara2_ rfl rfl ?_;(repeat (with_reducible first | refine OnA.here ?_ | refine OnA.next ?_))) | (refine DOp.appsubz_ rfl rfl rfl ?_;(repeat (with_reducible first | refine OnA.here ?_ | refine OnA.next ?_))) | (refine DOp.appsub_ rfl rfl rfl ?_;(repeat (with_reducible first | refine OnA.here ?_ | refine OnA.next ?_))) | (refine q_ (idxN_dc _ _ _) ?_) | (refine on_ ?_))) | (refine SeqD.opP rfl ?_) | (refine DOp.slicea_ rfl rfl ?_) | (refine DOp.capa_ rfl rfl ?_) | (refine DOp.lensub_ rfl rfl ?_) | (refine DOp.copyaa2_ rfl rfl rfl ?_;(repeat (with_reducible first | refine OnA.here ?_ | refine OnA.next ?_));(repeat (with_reducible first | refine OnA.here ?_ | refine OnA.next ?_))) | (refine DOp.copyas2_ rfl rfl rfl ?_;(repeat (with_reducible first | refine OnA.here ?_ | refine OnA.next ?_))) | (refine DOp.cleara2_ rfl rfl ?_;(repeat (with_reducible first | refine OnA.here ?_ | refine OnA.next ?_))) | (refine DOp.appsubz_ rfl rfl rfl ?_;(repeat (with_reducible first | refine OnA.here ?_ | refine OnA.next ?_))) | (refine DOp.appsub_ rfl rfl rfl ?_;(repeat (with_reducible first | refine OnA.here ?_ | refine OnA.next ?_))))<;>(refine s_ ?_))
  | (refine q_ (idxN_dc _ _ _) ?_)
  | refine o_ ?_
  | refine f_ ?_
  | with_reducible intro b)
 all_goals first
 | ((first | exact fin_ | refine finq_ ?_);done)
 | (trace_state;fail)
theorem sv_pfenceN_dc {p:Prop} (h:p:=by first | exact sv | exact hL | exact ⟨rfl,hfr,by omega⟩ | exact ⟨rfl,placeF_le _ _,by omega⟩ | fail):p:=h
section
attribute [local push_cast 2000] encFence encFence_eta cells_encf cells_encFence cells_fe cells_setf
theorem pfenceN_dc (se:List TDot) (fe:List TFence) (ce:List TCell) (node epoch:Int) (F:Own):((se.length<=1000000000/\fe.length<=1000000000/\ce.length<=1000000000/\∀ k,k<ce.length->(ce.getD k default).payload.length<=1000000000)/\FR fe/\fe.length<=1000000)->DC Tryz.prog 30 [.agg [.sl (se.map encDot), .sl (fe.map encFence), .gs (.slice none 0 0) [], .sl (ce.map encCell)], .int .i64 node, .int .i64 epoch] (([]:Own)++F) fun d G=>(pairB node epoch=false/\d = .agg [.sl ((se).map encDot), .sl ((fe).map encFence), .gs (.slice none 0 0) [], .sl ((ce).map encCell)]\/pairB node epoch=true/\d = .agg [.sl ((se).map encDot), .sl ((fenceP fe node epoch).map encFence), .gs (.slice none 0 0) [], .sl ((ce).map encCell)])/\G=[]++F:=by
 intro hA
 obtain ⟨hL,hfr,hf⟩:=hA
 refine DC.bodyS (n_:=52) (show Tryz.prog.funcs[30]? = some Tryz.f30 by kernel_rfl) rfl rfl (by rfl) ?_
 simp only [env0,List.cons_append,List.nil_append]
 have kw:=ksIs [0,1,2,3,6,7,8,14,23]
 have ow:=ownIs [3,43]
 have dw6:=drIs 6 [13] [1,4,8]
 have rw_:=rsIs [.cell 6 32]
 repeat' (first
  | ((with_reducible apply DW.frzRO);(repeat (with_reducible first | apply OnA.here | apply OnA.next));refine ⟨rfl,by decide,(by intro y hy;obtain ⟨x,_,rfl⟩:=List.mem_map.1 hy;rfl),?_,?_,?_⟩;(focus (repeat (first | exact CvE.nil | apply CvE.cons (Cv.hit _) | apply CvE.cons (Cv.rfl _))));(focus ((repeat (first | apply CvO.blk _ (by repeat (first | exact CvL.nil | apply CvL.cons (Cv.hit _) | apply CvL.cons (Cv.rfl _))) | apply CvO.keep | exact CvO.rfl_ _ _ _)))))
  | ((with_reducible apply DW.frzO2 8 v1);(repeat (with_reducible first | refine OnA.here ?_ | refine OnA.next ?_));refine ⟨rfl,by decide,(by intro y hy;obtain ⟨x,_,rfl⟩:=List.mem_map.1 hy;rfl),?_,?_,?_⟩;(focus (repeat (first | exact CvE.nil | apply CvE.cons (Cv.hit _) | apply CvE.cons (Cv.rfl _))));(focus ((repeat (first | apply CvO.blk _ (by repeat (first | exact CvL.nil | apply CvL.cons (Cv.hit _) | apply CvL.cons (Cv.rfl _))) | apply CvO.keep | exact CvO.rfl_ _ _ _)))))
  | ((with_reducible apply DW.frzO2 8 v4);(repeat (with_reducible first | refine OnA.here ?_ | refine OnA.next ?_));refine ⟨rfl,by decide,(by intro y hy;obtain ⟨x,_,rfl⟩:=List.mem_map.1 hy;rfl),?_,?_,?_⟩;(focus (repeat (first | exact CvE.nil | apply CvE.cons (Cv.hit _) | apply CvE.cons (Cv.rfl _))));(focus ((repeat (first | apply CvO.blk _ (by repeat (first | exact CvL.nil | apply CvL.cons (Cv.hit _) | apply CvL.cons (Cv.rfl _))) | apply CvO.keep | exact CvO.rfl_ _ _ _)))))
  | ((with_reducible apply DW.frzO2 8 v2);(repeat (with_reducible first | refine OnA.here ?_ | refine OnA.next ?_));refine ⟨rfl,by decide,(by intro y hy;obtain ⟨x,_,rfl⟩:=List.mem_map.1 hy;rfl),?_,?_,?_⟩;(focus (repeat (first | exact CvE.nil | apply CvE.cons (Cv.hit _) | apply CvE.cons (Cv.rfl _))));(focus ((repeat (first | apply CvO.blk _ (by repeat (first | exact CvL.nil | apply CvL.cons (Cv.hit _) | apply CvL.cons (Cv.rfl _))) | apply CvO.keep | exact CvO.rfl_ _ _ _)))))
  | ((with_reducible apply DW.frzO2 8 v5);(repeat (with_reducible first | refine OnA.here ?_ | refine OnA.next ?_));refine ⟨rfl,by decide,(by intro y hy;obtain ⟨x,_,rfl⟩:=List.mem_map.1 hy;rfl),?_,?_,?_⟩;(focus (repeat (first | exact CvE.nil | apply CvE.cons (Cv.hit _) | apply CvE.cons (Cv.rfl _))));(focus ((repeat (first | apply CvO.blk _ (by repeat (first | exact CvL.nil | apply CvL.cons (Cv.hit _) | apply CvL.cons (Cv.rfl _))) | apply CvO.keep | exact CvO.rfl_ _ _ _)))))
  | refine g_ ?_
  | ((with_reducible refine And.intro ?_ ?_);(exact sv_pfenceN_dc))
  | (refine DW.cond (by rfl) ?_ ?_<;>(first | exact i0_ | (refine ic_ ?_;intro hb)))
  | ((with_reducible first | refine FVg_cases ?_ ?_ | refine FDg_cases ?_ ?_)<;>(intro hb;rw [hb];revert hb;(first | exact i0_ | (refine i_ ?_;intro hb))))
  | refine r_ ?_
  | refine d_ ?_
  | refine k_ ?_
  | ((refine dm_ ?_);(first | (refine v_ (ppair_dc _ _ _) ?_ (ha:=by exact sv_pfenceN_dc)) | (refine v_ (delN_dc _ _ _) ?_ (ha:=by exact sv_pfenceN_dc))))
  | refine vo_ ?_
  | ((first | (refine DOp.lista_ [43] rfl rfl ?_) | (refine DOp.makea_ [43] rfl rfl rfl rfl ?_))<;>(refine s_ ?_))
  | (refine p_ (copyN_dc _ _ _ _) ?_ (ha:=by exact sv_pfenceN_dc);rintro d H1 ⟨v1,v2,v4,rfl,rfl⟩<;>refine s_ ?_)
  | (refine q_ (ppair_dc _ _ _) ?_ (ha:=by exact sv_pfenceN_dc))
  | (refine p_ (bsf_dc _ _ _ _ _) ?_ (ha:=by exact sv_pfenceN_dc);rintro d H1 ⟨⟨hff,hpl,rfl⟩ | ⟨hff,rfl⟩,rfl⟩<;>refine s_ ?_)
  | (refine p_ (insf_dc _ _ _ _ _ _ _ _) ?_ (ha:=by exact sv_pfenceN_dc);rintro d H1 ⟨v5,rfl,rfl⟩<;>refine s_ ?_)
  | (refine q_ (delN_dc _ _ _) ?_ (ha:=by exact sv_pfenceN_dc))
  | refine o_ ?_
  | refine f_ ?_
  | refine vm_ ?_
  | ((fail_if_success (have zz:=b1));with_reducible intro b1)
  | ((fail_if_success (have zz:=b2));with_reducible intro b2)
  | with_reducible intro b)
 all_goals first
 | (have e:=fenceP_1 (e:=epoch) hff
    rw [e,hb];(refine ⟨_,_,?_,⟨.inr ⟨rfl,rfl⟩,rfl⟩,?_⟩;rotate_left;(exact sub_);refine le.agg ?_;(repeat (first | exact Les.nil | refine Les.cons le.rfl_ ?_ | refine Les.cons (le.gs rfl) ?_ | refine Les.cons (le.gs List.map_nil.symm) ?_ | refine Les.cons (le.agg ?_) ?_));done))
 | (have e:=fenceP_2 (e:=epoch) hff
    rw [e,hb];(refine ⟨_,_,?_,⟨.inr ⟨rfl,rfl⟩,rfl⟩,?_⟩;rotate_left;(exact sub_);refine le.agg ?_;(repeat (first | exact Les.nil | refine Les.cons le.rfl_ ?_ | refine Les.cons (le.gs rfl) ?_ | refine Les.cons (le.gs List.map_nil.symm) ?_ | refine Les.cons (le.agg ?_) ?_));done))
 | (rw [hb];(refine ⟨_,_,?_,⟨.inl ⟨rfl,rfl⟩,rfl⟩,?_⟩;rotate_left;(exact sub_);refine le.agg ?_;(repeat (first | exact Les.nil | refine Les.cons le.rfl_ ?_ | refine Les.cons (le.gs rfl) ?_ | refine Les.cons (le.gs List.map_nil.symm) ?_ | refine Les.cons (le.agg ?_) ?_));done))
 | (trace_state;fail)
end
end
end Go.Proofs.YtifdpbghkccaoaaGreatDoor
