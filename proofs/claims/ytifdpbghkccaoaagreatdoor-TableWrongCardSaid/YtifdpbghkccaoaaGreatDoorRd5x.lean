/- Fences come; routes go. -/
import Derived.Test.YtifdpbghkccaoaaGreatDoorRd4x
import Derived.KernelRfl
namespace Go.Proofs.YtifdpbghkccaoaaGreatDoor
open Go.RowKit
set_option linter.unusedSimpArgs false
set_option linter.unusedVariables false
set_option linter.unusedSectionVars false
set_option maxHeartbeats 4000000
set_option maxRecDepth 100000
section
attribute [local irreducible] DW SeqD DV DOp DC DVX
def stepFe (node epoch:Int) (acc:List TFence×Bool) (f:TFence):List TFence×Bool :=
 if f.node=node then (if acc.2=false/\node<=f.node then (acc.1++[⟨node,epoch⟩],true) else acc)
 else (if acc.2=false/\node<=f.node then (acc.1++[⟨node,epoch⟩]++[f],true) else (acc.1++[f],acc.2))
def fenceAcc (fe:List TFence) (node epoch:Int) (k:Nat):List TFence×Bool:=(fe.take k).foldl (stepFe node epoch) ([],false)
theorem fenceAcc_0 (fe:List TFence) (node epoch:Int):fenceAcc fe node epoch 0=([],false):=rfl
theorem fenceAcc_more {fe:List TFence} {node epoch:Int} {k:Nat} (h:k<fe.length):fenceAcc fe node epoch (k+1)=stepFe node epoch (fenceAcc fe node epoch k) (fe.getD k default):=foldl_more _ _ h
theorem stepFe_len (node epoch:Int) (a:List TFence×Bool) (f:TFence):(stepFe node epoch a f).1.length<=a.1.length+2:=by
 unfold stepFe;split<;>split<;>simp
theorem fenceAcc_len (fe:List TFence) (node epoch:Int) (k:Nat) (hk:k<=fe.length):(fenceAcc fe node epoch k).1.length<=2 * k:=by
 induction k with
 | zero=>simp [fenceAcc]
 | succ k ih=>rw [fenceAcc_more (by omega)];have:=stepFe_len node epoch (fenceAcc fe node epoch k) (fe.getD k default);have:=ih (by omega);omega
def fenceL (fe:List TFence) (node epoch:Int):List TFence:=if (fenceAcc fe node epoch fe.length).2=true then (fenceAcc fe node epoch fe.length).1 else (fenceAcc fe node epoch fe.length).1++[⟨node,epoch⟩]
theorem fence_snoc (l:List TFence) (a b:Int):List.map encFence l++[V.agg [.int .i64 a, .int .i64 b]]=List.map encFence (l++[⟨a,b⟩]):=by simp [encFence]
theorem stepFe_1 {node epoch:Int} {a:List TFence×Bool} {f:TFence} (h1:a.2=false) (h2:node<=f.node) (h3:¬ f.node=node):stepFe node epoch a f=(a.1++[⟨node,epoch⟩]++[f],true):=by rw [stepFe,if_neg h3,if_pos ⟨h1,h2⟩]
theorem stepFe_2 {node epoch:Int} {a:List TFence×Bool} {f:TFence} (h1:a.2=false) (h3:f.node=node):stepFe node epoch a f=(a.1++[⟨node,epoch⟩],true):=by rw [stepFe,if_pos h3,if_pos ⟨h1,by omega⟩]
theorem stepFe_3 {node epoch:Int} {a:List TFence×Bool} {f:TFence} (h1:a.2=true\/f.node<node) (h3:¬ f.node=node):stepFe node epoch a f=(a.1++[f],a.2):=by
 rw [stepFe,if_neg h3,if_neg]
 rintro ⟨x,y⟩
 rcases h1 with h | h
 · rw [h] at x;cases x
 · omega
theorem stepFe_4 {node epoch:Int} {a:List TFence×Bool} {f:TFence} (h1:a.2=true) (h3:f.node=node):stepFe node epoch a f=a:=by
 rw [stepFe,if_pos h3,if_neg]
 rintro ⟨x,y⟩
 rw [h1] at x;cases x
theorem fence_eta (f:TFence):(⟨f.node,f.epoch⟩:TFence)=f:=rfl
theorem sv_rfence_dc {p:Prop} (h:p:=by first | exact sv | (simp [encDot,encRoute,encFence,V.one];omega) | (simp [encRoute,encDot,encFence,V.one,List.length_take,List.length_drop]<;>omega) | (refine ⟨by omega,by omega,?_⟩;intro y hy;rcases List.mem_append.1 hy with hy | hy;(obtain ⟨x,_,rfl⟩:=List.mem_map.1 hy;rfl);(simp only [List.mem_singleton] at hy;subst hy;rfl)) | (refine ⟨by omega,by omega,?_⟩;intro y hy;obtain ⟨x,_,rfl⟩:=List.mem_map.1 hy;first | rfl | exact ⟨rfl,rfl⟩) | (refine ⟨?_,?_,?_,?_⟩<;>first | omega | (simp only [List.length_append,List.length_singleton];omega)) | fail):p:=h
section
attribute [local push_cast 2000] encFence fence_eta fence_snoc
theorem rfence_dc (se:List TDot) (fe:List TFence) (ro:List TRoute) (ce:List TCell) (node epoch:Int) (F:Own):((se.length<=1000000000/\fe.length<=1000000000/\ro.length<=1000000000/\ce.length<=1000000000)/\fe.length<=100000000)->DC Tryz.prog 67 [.agg [.sl (se.map encDot), .sl (fe.map encFence), .sl (ro.map encRoute), .sl (ce.map encCell)], .int .i64 node, .int .i64 epoch] (([]:Own)++F) fun d G=>((pairB node epoch=false\/fencedL fe node epoch=true)/\d = .agg [.sl (se.map encDot), .sl (fe.map encFence), .sl (ro.map encRoute), .sl (ce.map encCell)]\/(pairB node epoch=true/\fencedL fe node epoch=false)/\d = .agg [.sl (se.map encDot), .sl ((fenceL fe node epoch).map encFence), .sl ((unfR (fenceL fe node epoch) ro).map encRoute), .sl (ce.map encCell)])/\G=[]++F:=by
 intro hA
 obtain ⟨⟨hs,hf,hr,hc⟩,hf2⟩:=hA
 refine DC.bodyS (n_:=68) (show Tryz.prog.funcs[67]? = some Tryz.f67 by kernel_rfl) rfl rfl (by rfl) ?_
 simp only [env0,List.cons_append,List.nil_append]
 have kw:=ksIs [0,1,2,3,6,7,8,9,10,20,26,41,51,57]
 have ow:=ownIs [3]
 have rw_:=rsIs [.cell 6 32]
 refine DW.tail0 2 ?_
 repeat' (first
  | (rename_i bb hb1;((with_reducible refine DW.loopB 0 (X:=Nat×Value) (fun x=>x.1<=fe.length) (fun x=>[(1, .int .i64 node),(2, .int .i64 epoch),(3, .raw (.pointer (some ⟨bb,0,none⟩))),(6, .raw (.pointer (some ⟨b,0,none⟩))),(7, .gs x.2 ((fenceAcc fe node epoch x.1).1.map encFence)),(8, .bool (fenceAcc fe node epoch x.1).2),(9, .int .i64 x.1)]) (fun x=>.tail 2 x.2 :: .blk bb [.sl (se.map encDot), .sl (fe.map encFence), .sl (ro.map encRoute), .sl (ce.map encCell)]::([]:Own)) (fun x=>fe.length - x.1) ((0, .slice none 0 0)) ?_ ?_ ?_);exact (Nat.zero_le _);(simp [Sub,get,keepL,fenceAcc_0]<;>fail);(try simp only [List.cons_append,List.nil_append]);refine pl_ ?_;intro ⟨k,v⟩ hk;(try simp only [List.cons_append,List.nil_append]);have hlk:=fenceAcc_len fe node epoch k hk;simp only at hk))
  | refine g_ ?_
  | ((with_reducible refine And.intro ?_ ?_);(exact sv_rfence_dc))
  | (refine DW.cond (by rfl) ?_ ?_<;>(first | exact i0_ | (refine ic_ ?_;intro hb)))
  | ((with_reducible refine FVg_cases ?_ ?_)<;>(intro hb;rw [hb];revert hb;(first | exact i0_ | (refine i_ ?_;intro hb))))
  | refine r_ ?_
  | refine k_ ?_
  | ((first | refine q_ (pair_dc _ _ _) ?_ (ha:=by exact sv_rfence_dc) | refine q_ (rfenced9_dc _ _ _ _ _ _ _) ?_ (ha:=by exact sv_rfence_dc) | refine q_ (unfenced_dc _ _ _ _ _) ?_ (ha:=by exact sv_rfence_dc)))
  | refine o_ ?_
  | refine f_ ?_
  | with_reducible intro b)
 all_goals first
 | (refine ⟨_,_,le.rfl_,⟨.inl ⟨by first | (left;assumption) | (right;assumption),rfl⟩,rfl⟩,?_⟩;(exact sub_);done)
 | (have hd:(fenceAcc fe node epoch k).2=false:=by assumption
    have hs2:=(fenceAcc_more (node:=node) (epoch:=epoch) (show k<fe.length by omega)).trans (stepFe_1 hd (by omega) (by omega))
    refine ⟨(k+1,b),?_,?_,?_,?_⟩;(((try simp only);omega));(((try simp only);omega));(simp [Sub,get,hs2,encFence,hd]<;>(fail));(try dsimp only);(exact sub_);done)
 | (have hd:(fenceAcc fe node epoch k).2=false:=by assumption
    have hs2:=(fenceAcc_more (node:=node) (epoch:=epoch) (show k<fe.length by omega)).trans (stepFe_2 hd (by omega))
    refine ⟨(k+1,b),?_,?_,?_,?_⟩;(((try simp only);omega));(((try simp only);omega));(simp [Sub,get,hs2,encFence,hd]<;>(fail));(try dsimp only);(exact sub_);done)
 | (have hd:(fenceAcc fe node epoch k).2=false:=by assumption
    have hs2:=(fenceAcc_more (node:=node) (epoch:=epoch) (show k<fe.length by omega)).trans (stepFe_3 (.inr (by omega)) (by omega))
    refine ⟨(k+1,b),?_,?_,?_,?_⟩;(((try simp only);omega));(((try simp only);omega));(simp [Sub,get,hs2,encFence,hd]<;>(fail));(try dsimp only);(exact sub_);done)
 | (have hd:(fenceAcc fe node epoch k).2=true:=by assumption
    have hs2:=(fenceAcc_more (node:=node) (epoch:=epoch) (show k<fe.length by omega)).trans (stepFe_3 (.inl hd) (by omega))
    refine ⟨(k+1,b),?_,?_,?_,?_⟩;(((try simp only);omega));(((try simp only);omega));(simp [Sub,get,hs2,encFence,hd]<;>(fail));(try dsimp only);(exact sub_);done)
 | (have hd:(fenceAcc fe node epoch k).2=true:=by assumption
    have hs2:=(fenceAcc_more (node:=node) (epoch:=epoch) (show k<fe.length by omega)).trans (stepFe_4 hd (by omega))
    refine ⟨(k+1,v),?_,?_,?_,?_⟩;(((try simp only);omega));(((try simp only);omega));(simp [Sub,get,hs2,encFence,hd]<;>(fail));(try dsimp only);(exact sub_);done)
 | (have hkl:k=fe.length:=by omega
    subst hkl
    have e:fenceL fe node epoch=(fenceAcc fe node epoch fe.length).1:=by rw [fenceL,if_pos (by assumption)]
    rw [e];refine ⟨_,_,le.rfl_,⟨.inr ⟨⟨by assumption,by assumption⟩,rfl⟩,rfl⟩,?_⟩;(exact sub_);done)
 | (have hkl:k=fe.length:=by omega
    subst hkl
    have e:fenceL fe node epoch=(fenceAcc fe node epoch fe.length).1++[⟨node,epoch⟩]:=by rw [fenceL,if_neg (by simp_all)]
    rw [e];refine ⟨_,_,le.rfl_,⟨.inr ⟨⟨by assumption,by assumption⟩,rfl⟩,rfl⟩,?_⟩;(exact sub_);done)
end
theorem sv_rdrop_dc {p:Prop} (h:p:=by first | exact sv | (simp [encDot,encRoute,encFence,V.one];omega) | (simp [encRoute,encDot,encFence,V.one,List.length_take,List.length_drop]<;>omega) | (refine ⟨by omega,by omega,?_⟩;intro y hy;rcases List.mem_append.1 hy with hy | hy;(obtain ⟨x,_,rfl⟩:=List.mem_map.1 hy;rfl);(simp only [List.mem_singleton] at hy;subst hy;rfl)) | (refine ⟨by omega,by omega,?_⟩;intro y hy;obtain ⟨x,_,rfl⟩:=List.mem_map.1 hy;first | rfl | exact ⟨rfl,rfl⟩) | (refine ⟨?_,?_,?_,?_⟩<;>first | omega | (simp only [List.length_append,List.length_singleton];omega)) | fail):p:=h
section
attribute [local push_cast 2000] encDot
theorem rdrop_dc (se:List TDot) (fe:List TFence) (ro:List TRoute) (ce:List TCell) (node epoch:Int) (f:Str) (F:Own):((se.length<=1000000000/\fe.length<=1000000000/\ro.length<=1000000000/\ce.length<=1000000000) /\ -1000000000000<=topM se node epoch/\topM se node epoch<=1000000000000)->DC Tryz.prog 18 [.agg [.sl (se.map encDot), .sl (fe.map encFence), .sl (ro.map encRoute), .sl (ce.map encCell)], .int .i64 node, .int .i64 epoch, .str f] (([]:Own)++F) fun d G=>(ro.length<=(withoutR ro node epoch f).length/\d = .agg [.sl (se.map encDot), .sl (fe.map encFence), .sl (ro.map encRoute), .sl (ce.map encCell)]\/(withoutR ro node epoch f).length<ro.length/\d = .agg [.sl ((addM se ⟨node,epoch,topM se node epoch+1⟩).map encDot), .sl (fe.map encFence), .sl ((withoutR ro node epoch f).map encRoute), .sl (ce.map encCell)])/\G=[]++F:=by
 intro hA
 obtain ⟨⟨hs,hf,hr,hc⟩,h1,h2⟩:=hA
 refine DC.bodyS (n_:=34) (show Tryz.prog.funcs[18]? = some Tryz.f18 by kernel_rfl) rfl rfl (by rfl) ?_
 simp only [env0,List.cons_append,List.nil_append]
 have kw:=ksIs [0,1,2,3,4,8,9,10,21]
 have ow:=ownIs [4]
 have dw4:=drIs 4 [9,11] [1,2,5,6]
 have rw_:=rsIs [.cell 8 32]
 repeat' (first
  | refine g_ ?_
  | ((with_reducible refine And.intro ?_ ?_);(exact sv_rdrop_dc))
  | (refine DW.cond (by rfl) ?_ ?_<;>(first | exact i0_ | (refine ic_ ?_;intro hb)))
  | ((with_reducible first | refine FVg_cases ?_ ?_ | refine FDg_cases ?_ ?_)<;>(intro hb;rw [hb];revert hb;(first | exact i0_ | (refine i_ ?_;intro hb))))
  | refine r_ ?_
  | refine d_ ?_
  | refine k_ ?_
  | ((refine dm_ ?_);(first | ((first | refine v_ (without_dc _ _ _ _ _) ?_ (ha:=by exact sv_rdrop_dc) | refine v_ (deed_dc _ _ _ _ _ _ _) ?_ (ha:=by exact sv_rdrop_dc) | refine v_ (radd_dc _ _ _ _ _) ?_ (ha:=by exact sv_rdrop_dc)))))
  | refine vo_ ?_
  | ((first | refine q_ (without_dc _ _ _ _ _) ?_ (ha:=by exact sv_rdrop_dc) | refine q_ (deed_dc _ _ _ _ _ _ _) ?_ (ha:=by exact sv_rdrop_dc) | refine q_ (radd_dc _ _ _ _ _) ?_ (ha:=by exact sv_rdrop_dc)))
  | refine o_ ?_
  | refine f_ ?_
  | refine vm_ ?_
  | with_reducible intro b)
 all_goals first
 | (refine ⟨_,_,le.rfl_,⟨.inl ⟨by omega,rfl⟩,rfl⟩,?_⟩;(exact sub_);done)
 | (refine ⟨_,_,le.rfl_,⟨.inr ⟨by omega,rfl⟩,rfl⟩,?_⟩;(exact sub_);done)
end
end
end Go.Proofs.YtifdpbghkccaoaaGreatDoor
