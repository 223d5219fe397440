/- Routes come. -/
import Derived.Test.YtifdpbghkccaoaaGreatDoorRd5x
import Derived.Test.YtifdpbghkccaoaaGreatDoorRf3x
import Derived.KernelRfl
namespace Go.Proofs.YtifdpbghkccaoaaGreatDoor
open Go.RowKit
set_option linter.unusedSimpArgs false
set_option linter.unusedVariables false
set_option linter.unusedSectionVars false
set_option maxHeartbeats 4000000
set_option maxRecDepth 100000
section
attribute [local irreducible] DW SeqD DV DOp DC DVX
theorem withoutR_len (ro:List TRoute) (node epoch:Int) (f:Str):(withoutR ro node epoch f).length<=ro.length:=List.length_filter_le _ _
def nextDot (se:List TDot) (node epoch:Int):TDot:=⟨node,epoch,topM se node epoch+1⟩
theorem sv_routeadd_dc {p:Prop} (h:p:=by first | exact sv | (simp [encDot,encRoute,encFence,V.one];omega) | (simp [encRoute,encDot,encFence,V.one,List.length_take,List.length_drop]<;>omega) | (refine ⟨by omega,by omega,?_⟩;intro y hy;rcases List.mem_append.1 hy with hy | hy;(obtain ⟨x,_,rfl⟩:=List.mem_map.1 hy;rfl);(simp only [List.mem_singleton] at hy;subst hy;rfl)) | (refine ⟨by omega,by omega,?_⟩;intro y hy;obtain ⟨x,_,rfl⟩:=List.mem_map.1 hy;first | rfl | exact ⟨rfl,rfl⟩) | (refine ⟨?_,?_,?_,?_⟩<;>first | omega | (simp only [List.length_append,List.length_singleton];omega)) | fail):p:=h
section
attribute [local push_cast 2000] encDot
theorem routeadd_dc (se:List TDot) (fe:List TFence) (ro:List TRoute) (ce:List TCell) (node epoch:Int) (f:Str) (F:Own):((se.length<=1000000000/\fe.length<=1000000000/\ro.length<=1000000000/\ce.length<=1000000000)/\f.length<=1000000000 /\ -1000000000000<=topM se node epoch/\topM se node epoch<=1000000000000)->DC Tryz.prog 16 [.agg [.sl (se.map encDot), .sl (fe.map encFence), .sl (ro.map encRoute), .sl (ce.map encCell)], .int .i64 node, .int .i64 epoch, .str f] (([]:Own)++F) fun d G=>((filterB f=false\/pairB node epoch=false\/fencedL fe node epoch=true)/\d = .agg [.sl (se.map encDot), .sl (fe.map encFence), .sl (ro.map encRoute), .sl (ce.map encCell)]\/(filterB f=true/\pairB node epoch=true/\fencedL fe node epoch=false)/\d = .agg [.sl ((addM se (nextDot se node epoch)).map encDot), .sl (fe.map encFence), .sl ((insR (withoutR ro node epoch f) ⟨nextDot se node epoch,f⟩).map encRoute), .sl (ce.map encCell)])/\G=[]++F:=by
 intro hA
 obtain ⟨⟨hs,hf,hr,hc⟩,hl,h1,h2⟩:=hA
 refine DC.bodyS (n_:=53) (show Tryz.prog.funcs[16]? = some Tryz.f16 by kernel_rfl) rfl rfl (by rfl) ?_
 simp only [env0,List.cons_append,List.nil_append]
 have kw:=ksIs [0,1,2,3,4,8,9,10,26]
 have ow:=ownIs [4]
 have rw_:=rsIs [.cell 8 32]
 have hwl:=withoutR_len ro node epoch f
 repeat' (first
  | refine g_ ?_
  | ((with_reducible refine And.intro ?_ ?_);(exact sv_routeadd_dc))
  | (refine DW.cond (by rfl) ?_ ?_<;>(first | exact i0_ | (refine ic_ ?_;intro hb)))
  | ((with_reducible refine FVg_cases ?_ ?_)<;>(intro hb;rw [hb];revert hb;(first | exact i0_ | (refine i_ ?_;intro hb))))
  | refine r_ ?_
  | refine k_ ?_
  | ((first | refine q_ (rfilter_dc _ _) ?_ (ha:=by exact sv_routeadd_dc) | refine q_ (pair_dc _ _ _) ?_ (ha:=by exact sv_routeadd_dc) | refine q_ (rfenced9_dc _ _ _ _ _ _ _) ?_ (ha:=by exact sv_routeadd_dc) | refine q_ (deed_dc _ _ _ _ _ _ _) ?_ (ha:=by exact sv_routeadd_dc) | refine q_ (radd_dc _ _ _ _ _) ?_ (ha:=by exact sv_routeadd_dc) | refine q_ (without_dc _ _ _ _ _) ?_ (ha:=by exact sv_routeadd_dc) | refine q_ (insert_dc _ _ _ _ _ _) ?_ (ha:=by exact sv_routeadd_dc)))
  | refine o_ ?_
  | refine f_ ?_
  | with_reducible intro b)
 all_goals first
 | (refine ⟨_,_,le.rfl_,⟨.inl ⟨by first | (left;assumption) | (right;left;assumption) | (right;right;assumption),rfl⟩,rfl⟩,?_⟩;(exact sub_);done)
 | (refine ⟨_,_,le.rfl_,⟨.inr ⟨⟨by assumption,by assumption,by assumption⟩,rfl⟩,rfl⟩,?_⟩;(exact sub_);done)
end
end
end Go.Proofs.YtifdpbghkccaoaaGreatDoor
