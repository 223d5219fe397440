/- Routes come and go; what stays unfenced. -/
import Derived.Test.YtifdpbghkccaoaaGreatDoorRd2x
import Derived.KernelRfl
namespace Go.Proofs.YtifdpbghkccaoaaGreatDoor
open Go.RowKit
set_option linter.unusedSimpArgs false
set_option linter.unusedVariables false
set_option linter.unusedSectionVars false
set_option maxHeartbeats 4000000
set_option maxRecDepth 100000
section
attribute [local irreducible] DW SeqD DV DOp DC DVX
theorem route_eta (r:TRoute):(⟨⟨r.dot.node,r.dot.epoch,r.dot.n⟩,r.filter⟩:TRoute)=r:=rfl
theorem insR_at {ro:List TRoute} {r:TRoute} {k:Nat} (hp:placeR ro r=k):insR ro r=ro.take k++(r::ro.drop k):=by rw [insR,hp]
theorem sv_unfenced_dc {p:Prop} (h:p:=by first | exact sv | (simp [encDot,encRoute,encFence,V.one];omega) | (simp [encRoute,encDot,encFence,V.one,List.length_take,List.length_drop]<;>omega) | (refine ⟨by omega,by omega,?_⟩;intro y hy;rcases List.mem_append.1 hy with hy | hy;(obtain ⟨x,_,rfl⟩:=List.mem_map.1 hy;rfl);(simp only [List.mem_singleton] at hy;subst hy;rfl)) | (refine ⟨by omega,by omega,?_⟩;intro y hy;obtain ⟨x,_,rfl⟩:=List.mem_map.1 hy;first | rfl | exact ⟨rfl,rfl⟩) | (refine ⟨?_,?_,?_,?_⟩<;>first | omega | (simp only [List.length_append,List.length_singleton];omega)) | fail):p:=h
section
attribute [local push_cast 2000] encDot encRoute route_eta
theorem unfenced_dc (se:List TDot) (fe:List TFence) (ro:List TRoute) (ce:List TCell) (F:Own):(se.length<=1000000000/\fe.length<=1000000000/\ro.length<=1000000000/\ce.length<=1000000000)->DC Tryz.prog 113 [.agg [.sl (se.map encDot), .sl (fe.map encFence), .sl (ro.map encRoute), .sl (ce.map encCell)]] (([]:Own)++F) fun d G=>d = .agg [.sl (se.map encDot), .sl (fe.map encFence), .sl ((unfR fe ro).map encRoute), .sl (ce.map encCell)]/\G=[]++F:=by
 intro hA
 obtain ⟨hs,hf,hr,hc⟩:=hA
 refine DC.bodyS (n_:=37) (show Tryz.prog.funcs[113]? = some Tryz.f113 by kernel_rfl) rfl rfl (by rfl) ?_
 simp only [env0,List.cons_append,List.nil_append]
 have kw:=ksIs [0,1,2,3,4,5,10,25]
 have ow:=ownIs [1]
 have rw_:=rsIs [.cell 2 32]
 refine DW.tail0 4 ?_
 repeat' (first
  | (rename_i bb;((with_reducible refine DW.loopB 0 (X:=Nat×Value) (fun x=>x.1<=ro.length) (fun x=>[(1, .raw (.pointer (some ⟨bb,0,none⟩))),(2, .raw (.pointer (some ⟨b,0,none⟩))),(3, .gs x.2 (((ro.take x.1).filter fun r=>!fencedL fe r.dot.node r.dot.epoch).map encRoute)),(4, .int .i64 x.1)]) (fun x=>.tail 4 x.2 :: .blk bb [.sl (se.map encDot), .sl (fe.map encFence), .sl (ro.map encRoute), .sl (ce.map encCell)]::([]:Own)) (fun x=>ro.length - x.1) ((0, .slice none 0 0)) ?_ ?_ ?_);exact (Nat.zero_le _);(simp [Sub,get,keepL]<;>fail);(try simp only [List.cons_append,List.nil_append]);refine pl_ ?_;intro ⟨k,v⟩ hk;(try simp only [List.cons_append,List.nil_append]);have hlk:=filter_len (p:=fun r=>!fencedL fe r.dot.node r.dot.epoch) ro k;simp only at hk))
  | refine g_ ?_
  | ((with_reducible refine And.intro ?_ ?_);(exact sv_unfenced_dc))
  | (refine DW.cond (by rfl) ?_ ?_<;>(first | exact i0_ | (refine ic_ ?_;intro hb)))
  | ((with_reducible refine FVg_cases ?_ ?_)<;>(intro hb;rw [hb];revert hb;(first | exact i0_ | (refine i_ ?_;intro hb))))
  | refine r_ ?_
  | refine k_ ?_
  | (refine q_ (rfenced9_dc _ _ _ _ _ _ _) ?_ (ha:=by exact sv_unfenced_dc))
  | refine o_ ?_
  | refine f_ ?_
  | with_reducible intro b)
 all_goals first
 | (have hb2:fencedL fe (ro.getD k default).dot.node (ro.getD k default).dot.epoch=false:=by assumption
    have hy:=filter_yes (p:=fun r=>!fencedL fe r.dot.node r.dot.epoch) (l:=ro) (k:=k) (by omega) (by show (!fencedL fe (ro.getD k default).dot.node (ro.getD k default).dot.epoch)=true;rw [hb2];rfl)
    refine ⟨(k+1,b),?_,?_,?_,?_⟩;(((try simp only);omega));(((try simp only);omega));(simp [Sub,get,hy,encRoute]<;>(fail));(try dsimp only);(exact sub_);done)
 | (have hb2:fencedL fe (ro.getD k default).dot.node (ro.getD k default).dot.epoch=true:=by assumption
    have hy:=filter_no (p:=fun r=>!fencedL fe r.dot.node r.dot.epoch) (l:=ro) (k:=k) (by omega) (by show (!fencedL fe (ro.getD k default).dot.node (ro.getD k default).dot.epoch)=false;rw [hb2];rfl)
    refine ⟨(k+1,v),?_,?_,?_,?_⟩;(((try simp only);omega));(((try simp only);omega));(simp [Sub,get,hy,encRoute]<;>(fail));(try dsimp only);(exact sub_);done)
 | (have hkl:k=ro.length:=by omega
    subst hkl
    rw [List.take_length]
    refine ⟨_,_,?_,⟨rfl,rfl⟩,?_⟩;(exact le.agg (by repeat (first | exact Les.nil | refine Les.cons le.rfl_ ?_ | refine Les.cons (le.gs rfl) ?_ | refine Les.cons (le.gs List.map_nil.symm) ?_ | refine Les.cons (le.agg ?_) ?_)));(exact sub_);done)
end
theorem sv_without_dc {p:Prop} (h:p:=by first | exact sv | (simp [encDot,encRoute,encFence,V.one];omega) | (simp [encRoute,encDot,encFence,V.one,List.length_take,List.length_drop]<;>omega) | (refine ⟨by omega,by omega,?_⟩;intro y hy;rcases List.mem_append.1 hy with hy | hy;(obtain ⟨x,_,rfl⟩:=List.mem_map.1 hy;rfl);(simp only [List.mem_singleton] at hy;subst hy;rfl)) | (refine ⟨by omega,by omega,?_⟩;intro y hy;obtain ⟨x,_,rfl⟩:=List.mem_map.1 hy;first | rfl | exact ⟨rfl,rfl⟩) | (refine ⟨?_,?_,?_,?_⟩<;>first | omega | (simp only [List.length_append,List.length_singleton];omega)) | fail):p:=h
section
attribute [local push_cast 2000] encRoute route_eta
theorem without_dc (ro:List TRoute) (node epoch:Int) (f:Str) (F:Own):(ro.length<=1000000000)->DC Tryz.prog 52 [.sl (ro.map encRoute), .int .i64 node, .int .i64 epoch, .str f] (([]:Own)++F) fun d G=>d = .tup [.sl ((withoutR ro node epoch f).map encRoute), .bool (decide ((withoutR ro node epoch f).length<ro.length))]/\G=[]++F:=by
 intro hA
 have hr:=hA
 refine DC.bodyS (n_:=58) (show Tryz.prog.funcs[52]? = some Tryz.f52 by kernel_rfl) rfl rfl (by rfl) ?_
 simp only [env0,List.cons_append,List.nil_append]
 have kw:=ksIs [0,1,2,3,8,9,10,11,15,44]
 have ow:=ownIs []
 refine DW.tail0 4 ?_
 repeat' (first
  | ((with_reducible refine DW.loopB 0 (X:=Nat×Value) (fun x=>x.1<=ro.length) (fun x=>[(0, .sl (ro.map encRoute)),(1, .int .i64 node),(2, .int .i64 epoch),(3, .str f),(10, .gs x.2 (((ro.take x.1).filter fun r=>!ownB r node epoch f).map encRoute)),(11, .int .i64 x.1)]) (fun x=>.tail 4 x.2::([]:Own)) (fun x=>ro.length - x.1) ((0, .slice none 0 0)) ?_ ?_ ?_);exact (Nat.zero_le _);(simp [Sub,get,keepL]<;>fail);(try simp only [List.cons_append,List.nil_append]);refine pl_ ?_;intro ⟨k,v⟩ hk;(try simp only [List.cons_append,List.nil_append]);have hlk:=filter_len (p:=fun r=>!ownB r node epoch f) ro k;simp only at hk)
  | refine g_ ?_
  | ((with_reducible refine And.intro ?_ ?_);(exact sv_without_dc))
  | (refine DW.cond (by rfl) ?_ ?_<;>(first | exact i0_ | (refine ic_ ?_;intro hb)))
  | ((with_reducible refine FVg_cases ?_ ?_)<;>(intro hb;rw [hb];revert hb;(first | exact i0_ | (refine i_ ?_;intro hb))))
  | refine r_ ?_
  | refine k_ ?_
  | refine o_ ?_
  | refine f_ ?_
  | with_reducible intro b)
 all_goals first
 | (have ho:ownB (ro.getD k default) node epoch f=false:=by
     unfold ownB
     simp_all
    have hy:=filter_yes (p:=fun r=>!ownB r node epoch f) (l:=ro) (k:=k) (by omega) (by show (!ownB (ro.getD k default) node epoch f)=true;rw [ho];rfl)
    refine ⟨(k+1,b),?_,?_,?_,?_⟩;(((try simp only);omega));(((try simp only);omega));(simp [Sub,get,hy,encRoute]<;>(fail));(try dsimp only);(exact sub_);done)
 | (have ho:ownB (ro.getD k default) node epoch f=true:=by
     unfold ownB
     simp_all
    have hy:=filter_no (p:=fun r=>!ownB r node epoch f) (l:=ro) (k:=k) (by omega) (by show (!ownB (ro.getD k default) node epoch f)=false;rw [ho];rfl)
    refine ⟨(k+1,v),?_,?_,?_,?_⟩;(((try simp only);omega));(((try simp only);omega));(simp [Sub,get,hy,encRoute]<;>(fail));(try dsimp only);(exact sub_);done)
 | (have hkl:k=ro.length:=by omega
    subst hkl
    rw [List.take_length]
    refine ⟨_,_,le.tup (Les.cons (le.gs rfl) (Les.cons (le.of_eq ?_) Les.nil)),⟨rfl,rfl⟩,?_⟩;(simp [withoutR]);(exact sub_);done)
end
theorem sv_insert_dc {p:Prop} (h:p:=by first | exact sv | (simp [encDot,encRoute,encFence,V.one];omega) | (simp [encRoute,encDot,encFence,V.one,List.length_take,List.length_drop]<;>omega) | (refine ⟨by omega,by omega,?_⟩;intro y hy;rcases List.mem_append.1 hy with hy | hy;(obtain ⟨x,_,rfl⟩:=List.mem_map.1 hy;rfl);(simp only [List.mem_singleton] at hy;subst hy;rfl)) | (refine ⟨by omega,by omega,?_⟩;intro y hy;obtain ⟨x,_,rfl⟩:=List.mem_map.1 hy;first | rfl | exact ⟨rfl,rfl⟩) | (refine ⟨?_,?_,?_,?_⟩<;>first | omega | (simp only [List.length_append,List.length_singleton];omega)) | fail):p:=h
section
attribute [local push_cast 2000] encRoute route_eta takeM dropM List.length_take List.length_drop
theorem insert_dc (ro:List TRoute) (a1 a2 a3:Int) (f:Str) (F:Own):(ro.length<=1000000000)->DC Tryz.prog 53 [.sl (ro.map encRoute), .agg [.int .i64 a1, .int .i64 a2, .int .i64 a3, .str f]] (([]:Own)++F) fun d G=>d = .sl ((insR ro ⟨⟨a1,a2,a3⟩,f⟩).map encRoute)/\G=[]++F:=by
 intro hA
 have hr:=hA
 refine DC.bodyS (n_:=31) (show Tryz.prog.funcs[53]? = some Tryz.f53 by kernel_rfl) rfl rfl (by rfl) ?_
 simp only [env0,List.cons_append,List.nil_append]
 have kw:=ksIs [0,1,3,4,5,17]
 have ow:=ownIs []
 have dw2:=drIs 2 [] [8,9,10]
 have dw4:=drIs 4 [3,6,10] []
 repeat' (first
  | ((with_reducible refine DW.loopB 0 (X:=Nat) (fun x=>x<=ro.length/\∀ i,0<=i->i<x->(!rbefore (ro.getD i default) ⟨⟨a1,a2,a3⟩,f⟩)=false) (fun x=>[(0, .sl (ro.map encRoute)),(3, .sp [.int .i64 a1, .int .i64 a2, .int .i64 a3, .str f]),(5, .int .i64 x)]) (fun x=>([]:Own)) (fun x=>ro.length - x) (0) ?_ ?_ ?_);exact (⟨Nat.zero_le _,fun i _ h=>absurd h (Nat.not_lt_zero _)⟩);(simp [Sub,get,keepL]<;>fail);(try simp only [List.cons_append,List.nil_append]);refine pl_ ?_;intro k ⟨hk,ha⟩;(try simp only [List.cons_append,List.nil_append]))
  | refine g_ ?_
  | ((with_reducible refine And.intro ?_ ?_);(exact sv_insert_dc))
  | (refine DW.cond (by rfl) ?_ ?_<;>(first | exact i0_ | (refine ic_ ?_;intro hb)))
  | ((with_reducible first | refine FVg_cases ?_ ?_ | refine FDg_cases ?_ ?_)<;>(intro hb;rw [hb];revert hb;(first | exact i0_ | (refine i_ ?_;intro hb))))
  | refine r_ ?_
  | refine d_ ?_
  | refine k_ ?_
  | ((refine dm_ ?_);(first | (refine v_ (rbefore_dc _ _ _ _ _ _ _ _ _) ?_ (ha:=by exact sv_insert_dc))))
  | refine vo_ ?_
  | (refine q_ (rbefore_dc _ _ _ _ _ _ _ _ _) ?_ (ha:=by exact sv_insert_dc))
  | refine o_ ?_
  | refine f_ ?_
  | refine vm_ ?_
  | with_reducible intro b)
 all_goals first
 | (refine ⟨k+1,⟨by omega,fun i h1 h2=>?_⟩,by omega,by simp [Sub,get],?_⟩;(by_cases hik:i=k;(subst hik;rw [‹rbefore _ _=true›];rfl);exact ha i h1 (by omega));(exact sub_);done)
 | (rw [insR_at (placeR_at (by omega) ha (by assumption))];refine ⟨_,_,le.gs ?_,⟨rfl,rfl⟩,?_⟩;(simp [encRoute]);(exact sub_);done)
 | (have hkl:k=ro.length:=by omega
    subst hkl
    rw [insR_at (placeR_no (Nat.le_refl _) ha)];refine ⟨_,_,le.gs ?_,⟨rfl,rfl⟩,?_⟩;(simp [encRoute]);(exact sub_);done)
end
theorem deed_dc (se:List TDot) (fe:List TFence) (ro:List TRoute) (ce:List TCell) (node epoch:Int) (F:Own):(se.length<=1000000000 /\ -1000000000000<=topM se node epoch/\topM se node epoch<=1000000000000)->DC Tryz.prog 51 [.agg [.sl (se.map encDot), .sl (fe.map encFence), .sl (ro.map encRoute), .sl (ce.map encCell)], .int .i64 node, .int .i64 epoch] (([]:Own)++F) fun d G=>d = .agg [.int .i64 node, .int .i64 epoch, .int .i64 (topM se node epoch+1)]/\G=[]++F:=by
 intro hA
 obtain ⟨hs,h1,h2⟩:=hA
 refine DC.bodyS (n_:=16) (show Tryz.prog.funcs[51]? = some Tryz.f51 by kernel_rfl) rfl rfl (by rfl) ?_
 simp only [env0,List.cons_append,List.nil_append]
 have kw:=ksIs [0,1,2,3,6]
 have ow:=ownIs []
 have rw_:=rsIs [.cell 6 55]
 repeat' (first
  | refine g_ ?_
  | ((with_reducible refine And.intro ?_ ?_);(exact sv))
  | (refine DW.cond (by rfl) ?_ ?_<;>(first | exact i0_ | (refine ic_ ?_;intro hb)))
  | ((with_reducible refine FVg_cases ?_ ?_)<;>(intro hb;rw [hb];revert hb;(first | exact i0_ | (refine i_ ?_;intro hb))))
  | refine r_ ?_
  | refine k_ ?_
  | (refine q_ (rtop_dc _ _ _ _) ?_)
  | refine o_ ?_
  | refine f_ ?_
  | with_reducible intro b)
 (first | exact fin_ | refine finq_ ?_)
 all_goals rfl
end
end Go.Proofs.YtifdpbghkccaoaaGreatDoor
