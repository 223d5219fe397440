/- A table laid down. -/
import Derived.Test.YtbmbcjmgjdnlnaaGreatDoorFrx
import Derived.Test.YtbmbcjmgjdnlnaaGreatDoorSd3x
import Derived.KernelRfl
import Derived.Test.YtbmbcjmgjdnlnaaGreatDoorSox
import Derived.Lib.Overlaps
import Derived.Test.YtbmbcjmgjdnlnaaGreatDoorPt3x
namespace Go.Proofs.YtbmbcjmgjdnlnaaGreatDoor
open Go.RowKit
set_option linter.unusedSimpArgs false
set_option linter.unusedVariables false
set_option linter.unusedSectionVars false
set_option maxHeartbeats 4000000
set_option maxRecDepth 100000
section
attribute [local irreducible] DW SeqD DV DOp DC DVX
theorem row_le {α:Type} [Inhabited α] {f:α->Str} {n m:Nat} {l:List α} (h:∀ k,(f (l.getD k default)).length<=n) (hm:n * l.length<=m) (k:Nat):(flatBy f (l.take k)).length<=m:=by
 refine Nat.le_trans (flatBy_le (n:=n) fun x hx=>?_) (Nat.le_trans (Nat.mul_le_mul_left n (by rw [List.length_take];exact Nat.min_le_right _ _)) hm)
 obtain ⟨i,hi,rfl⟩:=List.getElem_of_mem (List.mem_of_mem_take hx)
 have:=h i
 rwa [List.getD_eq_getElem?_getD,List.getElem?_eq_getElem hi] at this
theorem Neat.rl {t:TTable} (h:Neat t) (k:Nat):(flatBy routeBy (t.routes.take k)).length<=10000000:=row_le (n:=2000) (fun k=>by rw [routeBy_len];have:=(h.r k).2;omega) (by have:=h.lr;omega) k
theorem gone_1:goneI true=1:=rfl
theorem gone_0:goneI false=0:=rfl
section
attribute [local push_cast 2000] encFence encRoute encCell bytes_are bytes_back
end
end
section
section
variable {P:Program} {o:Oper} {f:Operand->V} {H:Own} {K:V->Own->Prop}
inductive InA (sz:Nat) (u:Value):Own->Prop
 | here {cs:List V} {H:Own}:InA sz u (.arr sz u cs::H)
 | next {e:Ent} {H:Own} (h:InA sz u H):InA sz u (e::H)
inductive Two (sz:Nat) (v u:Value):Own->Prop
 | here {cs:List V} {H:Own} (h:InA sz u H):Two sz v u (.arr sz v cs::H)
 | there {cs:List V} {H:Own} (h:InA sz v H):Two sz v u (.arr sz u cs::H)
 | next {e:Ent} {H:Own} (h:Two sz v u H):Two sz v u (e::H)
theorem InA.mem {sz:Nat} {u:Value} {H:Own} (h:InA sz u H):∃ cs,Ent.arr sz u cs∈H:=by
 induction h with
 | here=>exact ⟨_,List.mem_cons_self ..⟩
 | next _ ih=>obtain ⟨cs,h⟩:=ih;exact ⟨cs,List.mem_cons_of_mem _ h⟩
theorem SeqD.opP {ops:Array Oper} {K:Env->Own->Prop} {e:Env} {o:Oper} {rest:List Oper} (hg:o.guard=none) (h:side P o (opd e)/\SeqD P ops K rest (putO e o.dst (val P o (opd e))) H):SeqD P ops K (o::rest) e H:=SeqD.op hg (SeqD.one h.1 h.2)
end
end
section
attribute [local irreducible] DW SeqD DV DOp DC DVX DVJ
section
attribute [local push_cast 2000] encDot
end
section
attribute [local push_cast 2000] encFence
end
section
attribute [local push_cast 2000] encRoute
end
section
attribute [local push_cast 2000] encCell
end
section
attribute [local push_cast 2000] u8
end
end
section
attribute [local irreducible] DW SeqD DV DOp DC DVX DVJ
section
end
end
section
section
variable {T:Type} {enc:T->V} {s:Nat}
end
attribute [local irreducible] DW SeqD DV DOp DC DVX DVJ
section
attribute [local push_cast 2000] encDot Nat.sub_zero List.length_take Nat.min_eq_left Nat.min_eq_right
end
section
attribute [local push_cast 2000] encFence Nat.sub_zero List.length_take Nat.min_eq_left Nat.min_eq_right
end
end
section
attribute [local irreducible] DW SeqD DV DOp DC DVX DVJ
section
attribute [local push_cast 2000] encDot dot_eta half_eq cells_dots cells_dot
end
section
attribute [local push_cast 2000] encDot dot_eta cells_dots cells_dot cells_setn
end
end
section
attribute [local irreducible] DW SeqD DV DOp DC DVX DVJ
end
section
theorem encRoute_eta (x:TRoute):(⟨⟨x.dot.node,x.dot.epoch,x.dot.n⟩,x.filter⟩:TRoute)=x:=rfl
theorem encFence_eta (x:TFence):(⟨x.node,x.epoch⟩:TFence)=x:=rfl
attribute [local irreducible] DW SeqD DV DOp DC DVX DVJ
section
attribute [local push_cast 2000] encRoute encRoute_eta
end
section
attribute [local push_cast 2000] encRoute encRoute_eta
end
section
attribute [local push_cast 2000] encFence encFence_eta
theorem idxf_dc (l:List TFence) (g:FuncId) (c1 c2:V) (p:TFence->Bool) (F:Own):((∀ (a b:Int) (F:Own),True->DC Tryz.prog g [.agg [.int .i64 a, .int .i64 b],c1,c2] (([]:Own)++F) fun d G=>d = .bool (p ⟨a,b⟩)/\G=[]++F)/\l.length<=1000000000)->DC Tryz.prog 207 [.sl (l.map encFence), .fn (.func g) [] [c1,c2]] (([]:Own)++F) fun d G=>((∀ q,q<l.length->p (l.getD q default)=false)/\d = .int .i64 (-1)\/∃ k:Nat,(k<l.length/\p (l.getD k default)=true/\∀ q,q<k->p (l.getD q default)=false)/\d = .int .i64 k)/\G=[]++F:=by
 intro hA
 obtain ⟨hcl,hl⟩:=hA
 refine DC.bodyS (n_:=19) (show Tryz.prog.funcs[207]? = some Tryz.f207 by kernel_rfl) rfl rfl (by rfl) ?_
 simp only [env0,List.cons_append,List.nil_append]
 have kw:=ksIs [0,1,4,5,7,8,9,16]
 have ow:=ownIs []
 repeat' (first
  | ((with_reducible refine DW.loopB 0 (X:=Nat) (fun x=>x<=l.length/\∀ q,q<x->p (l.getD q default)=false) (fun x=>[(0, .sl (l.map encFence)),(1, .fn (.func g) [] [c1,c2]),(7, .int .i64 l.length),(8, .int .i64 x)]) (fun x=>([]:Own)) (fun x=>l.length - x) (0) ?_ ?_ ?_);exact (⟨Nat.zero_le _,fun q h=>absurd h (Nat.not_lt_zero _)⟩);(simp [Sub,get,keepL]<;>fail);(try simp only [List.cons_append,List.nil_append]);refine pl_ ?_;intro k ⟨hk,ha⟩;(try simp only [List.cons_append,List.nil_append]))
  | refine g_ ?_
  | ((with_reducible refine And.intro ?_ ?_);(exact sv))
  | (refine DW.cond (by rfl) ?_ ?_<;>(first | exact i0_ | (refine ic_ ?_;intro hb)))
  | ((with_reducible refine FVg_cases ?_ ?_)<;>(intro hb;rw [hb];revert hb;(first | exact i0_ | (refine i_ ?_;intro hb))))
  | refine r_ ?_
  | refine k_ ?_
  | (refine q_ (hcl _ _ _) ?_)
  | refine o_ ?_
  | refine f_ ?_
  | with_reducible intro b)
 all_goals first
 | (refine ⟨_,_,le.rfl_,⟨.inr ⟨k,⟨by omega,hb,ha⟩,rfl⟩,rfl⟩,?_⟩;(exact sub_);done)
 | (refine ⟨k+1,⟨by omega,fun q hq=>?_⟩,by omega,by simp [Sub,get],?_⟩;(by_cases hqk:q=k;(subst hqk;exact hb);exact ha q (by omega));(exact sub_);done)
 | (refine ⟨_,_,le.rfl_,⟨.inl ⟨fun q hq=>ha q (by omega),rfl⟩,rfl⟩,?_⟩;(exact sub_);done)
end
end
section
theorem any_no {T:Type} [Inhabited T] {l:List T} {p:T->Bool} (h:∀ q,q<l.length->p (l.getD q default)=false):l.any p=false:=by
 rw [List.any_eq_false]
 intro x hx
 obtain ⟨q,hq,rfl⟩:=mem_getD hx
 rw [h q hq];simp
theorem any_yes {T:Type} [Inhabited T] {l:List T} {p:T->Bool} {k:Nat} (hk:k<l.length) (h:p (l.getD k default)=true):l.any p=true:=List.any_eq_true.2 ⟨_,getD_mem hk,h⟩
def cnt {T:Type} (p:T->Bool) (l:List T) (j:Nat):Nat:=((l.take j).filter (fun x=>!p x)).length
structure DI_ {T:Type} (p:T->Bool) (l:List T) (j:Nat) (m:List T):Prop where
 jle:j<=l.length
 len:m.length=l.length
 rest:m.drop j=l.drop j
 done_:m.take (cnt p l j)=(l.take j).filter (fun x=>!p x)
 lt:cnt p l j<j
section
variable {T:Type} [Inhabited T] {p:T->Bool} {l m:List T} {j k:Nat}
theorem take_next {l:List T} {j:Nat} (h:j<l.length):l.take (j+1)=l.take j++[l.getD j default]:=by
 rw [List.take_add_one,List.getD_eq_getElem?_getD,List.getElem?_eq_getElem h];rfl
theorem cnt_keep (h:j<l.length) (hp:p (l.getD j default)=false):cnt p l (j+1)=cnt p l j+1:=by
 unfold cnt;rw [take_next h,List.filter_append,List.length_append,List.filter_cons,hp];rfl
theorem cnt_drop (h:j<l.length) (hp:p (l.getD j default)=true):cnt p l (j+1)=cnt p l j:=by
 unfold cnt;rw [take_next h,List.filter_append,List.length_append,List.filter_cons,hp];rfl
theorem DI_.at_ (h:DI_ p l j m) (hj:j<l.length):m.getD j default=l.getD j default:=by
 have h1:=h.rest
 rw [List.drop_eq_getElem_cons (by rw [h.len];exact hj),List.drop_eq_getElem_cons hj] at h1
 injection h1 with h1 _
 rw [getD_get m j (by rw [h.len];exact hj),getD_get l j hj,h1]
theorem drop_more_ {l m:List T} {j:Nat} (h:m.drop j=l.drop j):m.drop (j+1)=l.drop (j+1):=by
 rw [<-List.drop_drop (i:=1) (j:=j) (l:=m),<-List.drop_drop (i:=1) (j:=j) (l:=l),h]
theorem DI_.drop (h:DI_ p l j m) (hj:j<l.length) (hp:p (m.getD j default)=true):DI_ p l (j+1) m:=by
 rw [h.at_ hj] at hp
 have e:=cnt_drop hj hp
 refine ⟨hj,h.len,drop_more_ h.rest,?_,by have:=h.lt;omega⟩
 rw [e,h.done_,take_next hj,List.filter_append,List.filter_cons,hp];simp
theorem DI_.keep (h:DI_ p l j m) (hj:j<l.length) (hp:p (m.getD j default)=false):DI_ p l (j+1) (m.set (cnt p l j) (m.getD j default)):=by
 have hat:=h.at_ hj
 rw [hat] at hp ⊢
 have e:=cnt_keep hj hp
 have hlt:=h.lt
 refine ⟨hj,by rw [List.length_set];exact h.len,?_,?_,by omega⟩
 · rw [List.drop_set_of_lt (by omega)];exact drop_more_ h.rest
 · rw [e,take_next (by rw [List.length_set,h.len];have:=h.jle;omega),List.take_set_of_le (Nat.le_refl _),h.done_,take_next hj,List.filter_append]
   congr 1
   rw [List.filter_cons,hp,List.getD_eq_getElem?_getD,List.getElem?_set_self (by rw [h.len];have:=h.jle;omega)]
   rfl
end
attribute [local irreducible] DW SeqD DV DOp DC DVX DVJ
section
attribute [local push_cast 2000] encRoute encRoute_eta Nat.sub_zero
end
end
section
def fencedP (node epoch:Int) (x:TFence):Bool:=x.node==node&&decide (epoch<=x.epoch)
theorem any_fenced (fe:List TFence) (node epoch:Int):fe.any (fencedP node epoch)=fencedL fe node epoch:=by
 rw [Bool.eq_iff_iff,fenced_iff,List.any_eq_true]
 simp only [fencedP,Bool.and_eq_true,beq_iff_eq,decide_eq_true_eq]
attribute [local irreducible] DW SeqD DV DOp DC DVX DVJ
theorem sv_contf_dc {p:Prop} (h:p:=by first | exact sv | exact ⟨hcl,hl⟩ | fail):p:=h
theorem contf_dc (l:List TFence) (g:FuncId) (c1 c2:V) (p:TFence->Bool) (F:Own):((∀ (a b:Int) (F:Own),True->DC Tryz.prog g [.agg [.int .i64 a, .int .i64 b],c1,c2] (([]:Own)++F) fun d G=>d = .bool (p ⟨a,b⟩)/\G=[]++F)/\l.length<=1000000000)->DC Tryz.prog 171 [.sl (l.map encFence), .fn (.func g) [] [c1,c2]] (([]:Own)++F) fun d G=>d = .bool (l.any p)/\G=[]++F:=by
 intro hA
 obtain ⟨hcl,hl⟩:=hA
 refine DC.bodyS (n_:=9) (show Tryz.prog.funcs[171]? = some Tryz.f171 by kernel_rfl) rfl rfl (by rfl) ?_
 simp only [env0,List.cons_append,List.nil_append]
 have kw:=ksIs [0,1,4]
 have ow:=ownIs []
 repeat' (first
  | refine g_ ?_
  | ((with_reducible refine And.intro ?_ ?_);(exact sv_contf_dc))
  | (refine DW.cond (by rfl) ?_ ?_<;>(first | exact i0_ | (refine ic_ ?_;intro hb)))
  | ((with_reducible refine FVg_cases ?_ ?_)<;>(intro hb;rw [hb];revert hb;(first | exact i0_ | (refine i_ ?_;intro hb))))
  | refine r_ ?_
  | refine k_ ?_
  | (refine p_ (idxf_dc _ _ _ _ _ _) ?_ (ha:=by exact sv_contf_dc);rintro d H1 ⟨⟨hnn,rfl⟩ | ⟨k,hk,rfl⟩,rfl⟩<;>refine s_ ?_)
  | refine o_ ?_
  | refine f_ ?_
  | with_reducible intro b)
 all_goals first
 | (have e:=any_no hnn
    rw [e];(first | exact fin_ | refine finq_ ?_);done)
 | (have e:=any_yes (p:=p) hk.1 hk.2.1
    refine ⟨_,_,?_,⟨rfl,rfl⟩,?_⟩;rotate_left;(exact sub_);(exact le.of_eq (by rw [e];simp));done)
theorem fcl_dc (node epoch a b:Int) (F:Own):(True)->DC Tryz.prog 172 [.agg [.int .i64 a, .int .i64 b], .sp [.int .i64 node], .sp [.int .i64 epoch]] (([]:Own)++F) fun d G=>d = .bool (fencedP node epoch ⟨a,b⟩)/\G=[]++F:=by
 intro hA
 refine DC.bodyS (n_:=15) (show Tryz.prog.funcs[172]? = some Tryz.f172 by kernel_rfl) rfl rfl (by rfl) ?_
 simp only [env0,List.cons_append,List.nil_append]
 have kw:=ksIs [0,1,2,3,4]
 have ow:=ownIs []
 repeat' (first
  | refine g_ ?_
  | ((with_reducible refine And.intro ?_ ?_);(exact sv))
  | (refine DW.cond (by rfl) ?_ ?_<;>(first | exact i0_ | (refine ic_ ?_;intro hb)))
  | ((with_reducible refine FVg_cases ?_ ?_)<;>(intro hb;rw [hb];revert hb;(first | exact i0_ | (refine i_ ?_;intro hb))))
  | refine r_ ?_
  | refine k_ ?_
  | refine o_ ?_
  | refine f_ ?_
  | with_reducible intro b)
 all_goals
  refine ⟨_,_,le.of_eq ?_,⟨rfl,rfl⟩,SubP.refl⟩
  unfold fencedP
  simp_all
theorem contF_dc (l:List TFence) (node epoch:Int) (F:Own):l.length<=1000000000->DC Tryz.prog 171 [.sl (l.map encFence), .fn (.func 172) [] [.sp [.int .i64 node], .sp [.int .i64 epoch]]] (([]:Own)++F) fun d G=>d = .bool (fencedL l node epoch)/\G=[]++F:=fun h=>by
 rw [<-any_fenced]
 exact contf_dc l 172 _ _ (fencedP node epoch) F ⟨fun a b F _=>fcl_dc node epoch a b F trivial,h⟩
theorem pfenced_dc (se:List TDot) (fe:List TFence) (ro:List TRoute) (ce:List TCell) (node epoch:Int) (F:Own):(fe.length<=1000000000)->DC Tryz.prog 103 [.agg [.sl (se.map encDot), .sl (fe.map encFence), .sl (ro.map encRoute), .sl (ce.map encCell)], .int .i64 node, .int .i64 epoch] (([]:Own)++F) fun d G=>d = .bool (fencedL fe node epoch)/\G=[]++F:=by
 intro hA
 have hf:=hA
 refine DC.bodyS (n_:=11) (show Tryz.prog.funcs[103]? = some Tryz.f103 by kernel_rfl) rfl rfl (by rfl) ?_
 simp only [env0,List.cons_append,List.nil_append]
 have kw:=ksIs [0,1,2,3,4,5,6]
 have ow:=ownIs []
 repeat' (first
  | refine g_ ?_
  | ((with_reducible refine And.intro ?_ ?_);(exact sv))
  | (refine DW.cond (by rfl) ?_ ?_<;>(first | exact i0_ | (refine ic_ ?_;intro hb)))
  | ((with_reducible refine FVg_cases ?_ ?_)<;>(intro hb;rw [hb];revert hb;(first | exact i0_ | (refine i_ ?_;intro hb))))
  | refine r_ ?_
  | refine k_ ?_
  | (refine q_ (contF_dc _ _ _ _) ?_)
  | refine o_ ?_
  | refine f_ ?_
  | with_reducible intro b)
 (first | exact fin_ | refine finq_ ?_)
 all_goals rfl
end
section
attribute [local irreducible] DW SeqD DV DOp DC DVX DVJ
section
attribute [local push_cast 2000] encFence encFence_eta half_eq
end
section
attribute [local push_cast 2000] encRoute encRoute_eta
end
section
attribute [local push_cast 2000] encRoute encRoute_eta Nat.sub_zero
end
end
end Go.Proofs.YtbmbcjmgjdnlnaaGreatDoor
