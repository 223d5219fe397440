/- A deed is put among those that were seen. -/
import Derived.Test.YtifdpbghkccaoaaGreatDoorPt6x
import Derived.KernelRfl
import Derived.Test.YtifdpbghkccaoaaGreatDoorDd2x
import Derived.Test.YtifdpbghkccaoaaGreatDoorEu
import Derived.Test.YtifdpbghkccaoaaGreatDoorSsx
import Derived.Test.YtifdpbghkccaoaaGreatDoorRa1x
import Derived.Test.YtifdpbghkccaoaaGreatDoorKbx
namespace Go.Proofs.YtifdpbghkccaoaaGreatDoor
open Go.RowKit
set_option linter.unusedSimpArgs false
set_option linter.unusedVariables false
set_option linter.unusedSectionVars false
set_option maxHeartbeats 4000000
set_option maxRecDepth 100000
section
def putP (l:List TDot) (x:TDot):List TDot:=if foundB l x=true then (if (l.getD (placeD l x) default).n<x.n then l.set (placeD l x) { l.getD (placeD l x) default with n:=x.n } else l) else l.take (placeD l x)++x::l.drop (placeD l x)
theorem put_add {l:List TDot} {x:TDot} (hr:rightB l=true) (h1:oneB x=true):putP l x=addM l x:=by
 have ht:=top_bs hr x.node x.epoch x.n
 obtain ⟨_,f2,f3,f4⟩:=firstK_le (fun i=>!ahead (l.getD i default) x) l.length 0
 obtain ⟨p,hp⟩:∃ p,p=placeD l x:=⟨_,rfl⟩
 have hp':firstK (fun i=>!ahead (l.getD i default) x) l.length 0=p:=hp.symm
 rw [hp'] at f2 f3 f4
 have hone:=one_iff.1 h1
 cases hf:foundB l x with
 | true =>
  have hlt:=found_lt hf
  have hz:livesI (l.getD p default) x=0:=by
   have:=hf;unfold foundB at this;rw [<-hp] at this;simp only [Bool.and_eq_true,beq_iff_eq] at this;exact this.2
  have hkey:=(lives_z _ _).1 hz
  rw [hf,if_pos rfl,<-hp] at ht
  rw [<-hp] at hlt
  rw [putP,if_pos hf,<-hp]
  split
  · rename_i hn
    have hh:hasB l x=false:=by
     cases hb:hasB l x with
     | false=>rfl
     | true=>rw [has_iff] at hb;omega
    rw [addM_put hr h1 hh,put_set hp.symm hlt (by rw [ahead_not];omega)]
  · rename_i hn
    rw [addM_old hr (.inr (by rw [has_iff];omega))]
 | false =>
  rw [hf,if_neg (by simp)] at ht
  have hh:hasB l x=false:=by
   cases hb:hasB l x with
   | false=>rfl
   | true=>rw [has_iff] at hb;omega
  rw [putP,if_neg (by rw [hf];simp),addM_put hr h1 hh,put_ins rfl]
  rw [<-hp]
  rcases Nat.lt_or_ge p l.length with hlt | hge
  · right
    have ha:ahead (l.getD p default) x=false:=by simpa using f4 (by omega)
    have hnz:¬ livesI (l.getD p default) x=0:=fun hz=>by
     have:foundB l x=true:=by unfold foundB;rw [<-hp,hz];simp [hlt]
     rw [hf] at this;cases this
    rw [lives_z] at hnz
    rw [ahead_not] at ha
    rw [ahead_iff];omega
  · exact .inl hge
theorem putP_1 {l:List TDot} {x:TDot} (hf:foundB l x=true) (hn:(l.getD (placeD l x) default).n<x.n):putP l x=l.set (placeD l x) { l.getD (placeD l x) default with n:=x.n }:=by rw [putP,if_pos hf,if_pos hn]
theorem putP_2 {l:List TDot} {x:TDot} (hf:foundB l x=true) (hn:x.n<=(l.getD (placeD l x) default).n):putP l x=l:=by rw [putP,if_pos hf,if_neg (by omega)]
theorem putP_3 {l:List TDot} {x:TDot} (hf:foundB l x=false):putP l x=l.take (placeD l x)++x::l.drop (placeD l x):=by rw [putP,if_neg (by rw [hf];simp)]
theorem placeD_le (l:List TDot) (x:TDot):placeD l x<=l.length:=by
 obtain ⟨h1,h2,h3,h4⟩:=firstK_le (fun i=>!ahead (l.getD i default) x) l.length 0
 show firstK (fun i=>!ahead (l.getD i default) x) l.length 0<=l.length
 omega
theorem cells_n {l:List TDot} {k:Nat} (h:k<l.length):(cells (l.map encDot)).getD (k * 3+2) V.any = .int .i64 (l.getD k default).n:=by
 rw [cells_at (sz:=3) _ k 2 (dot_n l) (by simpa using h) (by decide)]
 simp [List.getD_eq_getElem?_getD,h,encDot,V.cell]
attribute [local irreducible] DW SeqD DV DOp DC DVX DVJ
section
attribute [local push_cast 2000] encDot dot_eta half_eq cells_dots cells_dot
theorem bsda0_dc (l:List TDot) (v:Value) (n:Nat) (x1 x2 x3:Int) (F:Own):(n=l.length/\rightB l=true/\l.length<=1000000000)->DC Tryz.prog 116 [.ar v n, .agg [.int .i64 x1, .int .i64 x2, .int .i64 x3], .fn (.func 92) [] []] ([.arr 3 v (cells (l.map encDot))]++F) fun d G=>d = .tup [.int .i64 (placeD l ⟨x1,x2,x3⟩), .bool (foundB l ⟨x1,x2,x3⟩)]/\G=[.arr 3 v (cells (l.map encDot))]++F:=by
 intro hA
 obtain ⟨hn,hr,hl⟩:=hA
 refine DC.bodyS (n_:=49) (show Tryz.prog.funcs[116]? = some Tryz.f116 by kernel_rfl) rfl rfl (by rfl) ?_
 simp only [env0,List.cons_append,List.nil_append]
 have kw:=ksIs [0,1,2,4,6,7,8,9,10,11,17,31]
 have ow:=ownIs []
 have dw5:=drIs 5 [] [4,5,6]
 have dw8:=drIs 8 [] [9,10,11]
 subst hn
 repeat' (first
  | ((with_reducible refine DW.loopB 0 (X:=Nat×Nat) (fun x=>x.1<=x.2/\x.2<=l.length/\(x.1=0\/ahead (l.getD (x.1 - 1) default) ⟨x1,x2,x3⟩=true)/\(x.2=l.length\/ahead (l.getD x.2 default) ⟨x1,x2,x3⟩=false)) (fun x=>[(0, .ar v l.length),(2, .fn (.func 92) [] []),(4, .sp [.int .i64 x1, .int .i64 x2, .int .i64 x3]),(8, .int .i64 l.length),(9, .int .i64 x.1),(10, .int .i64 x.2)]) (fun x=>.arr 3 v (cells (l.map encDot))::([]:Own)) (fun x=>x.2 - x.1) ((0,l.length)) ?_ ?_ ?_);exact (⟨Nat.zero_le _,Nat.le_refl _, .inl rfl, .inl rfl⟩);(simp [Sub,get,keepL]<;>fail);(try simp only [List.cons_append,List.nil_append]);refine pl_ ?_;intro ⟨i,j⟩ ⟨hij,hj,h1,h2⟩;(try simp only [List.cons_append,List.nil_append]);simp only at hij hj h1 h2)
  | refine g_ ?_
  | ((with_reducible refine And.intro ?_ ?_);(exact sv))
  | (refine DW.cond (by rfl) ?_ ?_<;>(first | exact i0_ | (refine ic_ ?_;intro hb)))
  | ((with_reducible first | refine FVg_cases ?_ ?_ | refine FDg_cases ?_ ?_)<;>(intro hb;rw [hb];revert hb;(first | exact i0_ | (refine i_ ?_;intro hb))))
  | refine r_ ?_
  | refine d_ ?_
  | refine k_ ?_
  | ((refine dm_ ?_);(first | (refine v_ (lives_dc _ _ _ _ _ _ _) ?_)))
  | refine vo_ ?_
  | (refine q_ (lives_dc _ _ _ _ _ _ _) ?_)
  | refine o_ ?_
  | refine f_ ?_
  | refine vm_ ?_
  | with_reducible intro b)
 all_goals first
 | (refine ⟨((i+j) / 2+1,j),⟨by simp only;omega,by simp only;omega, .inr (by simpa using (lives_lt _ _).1 (by assumption)),h2⟩,by simp only;omega,by simp [Sub,get],?_⟩;(exact sub_);done)
 | (refine ⟨(i,(i+j) / 2),⟨by simp only;omega,by simp only;omega,h1, .inr ((lives_nlt _ _).1 (by assumption))⟩,by simp only;omega,by simp [Sub,get],?_⟩;(exact sub_);done)
 | (obtain rfl:j=i:=by omega
    have hp:=bsD (x:=⟨x1,x2,x3⟩) hr hj h1 h2
    have hf:foundB l ⟨x1,x2,x3⟩=(livesI (l.getD j default) ⟨x1,x2,x3⟩==0):=by rw [foundB,hp,decide_eq_true (by omega),Bool.true_and]
    rw [hp,hf];(first | exact fin_ | refine finq_ ?_);done)
 | (obtain rfl:j=i:=by omega
    have hp:=bsD (x:=⟨x1,x2,x3⟩) hr hj h1 h2
    have hf:foundB l ⟨x1,x2,x3⟩=false:=by rw [foundB,hp,decide_eq_false (by omega),Bool.false_and]
    rw [hp,hf];(first | exact fin_ | refine finq_ ?_);done)
end
theorem bsda_dc (l:List TDot) (v:Value) (n:Nat) (x1 x2 x3:Int) (F:Own):(n=l.length/\rightB l=true/\l.length<=1000000000)->DC Tryz.prog 116 [.ar v n, .agg [.int .i64 x1, .int .i64 x2, .int .i64 x3], .fn (.func 92) [] []] ([.arr 3 v (cells (l.map encDot))]++F) fun d G=>(foundB l ⟨x1,x2,x3⟩=true/\placeD l ⟨x1,x2,x3⟩<l.length/\d = .tup [.int .i64 (placeD l ⟨x1,x2,x3⟩), .bool true]\/foundB l ⟨x1,x2,x3⟩=false/\d = .tup [.int .i64 (placeD l ⟨x1,x2,x3⟩), .bool false])/\G=[.arr 3 v (cells (l.map encDot))]++F:=fun h =>
 (bsda0_dc l v n x1 x2 x3 F h).mono fun d G ⟨h1,h2⟩=>⟨by
   cases hf:foundB l ⟨x1,x2,x3⟩ with
   | true=>rw [hf] at h1;exact .inl ⟨rfl,found_lt hf,h1⟩
   | false=>rw [hf] at h1;exact .inr ⟨rfl,h1⟩,h2⟩
theorem sv_put_dc {p:Prop} (h:p:=by first | exact sv | exact ⟨rfl,placeD_le _ _,hl⟩ | fail):p:=h
section
attribute [local push_cast 2000] encDot dot_eta cells_dots cells_dot cells_setn cells_n
theorem put_dc (l:List TDot) (v:Value) (n:Nat) (x1 x2 x3:Int) (F:Own):(n=l.length/\rightB l=true/\l.length<=1000000000)->DC Tryz.prog 73 [.ar v n, .agg [.int .i64 x1, .int .i64 x2, .int .i64 x3]] ([.arr 3 v (cells (l.map encDot))]++F) fun d G=>∃ v2,d = .ar v2 (putP l ⟨x1,x2,x3⟩).length/\G = .arr 3 v2 (cells ((putP l ⟨x1,x2,x3⟩).map encDot))::F:=by
 intro hA
 obtain ⟨hn,hr,hl⟩:=hA
 refine DC.bodyS (n_:=37) (show Tryz.prog.funcs[73]? = some Tryz.f73 by kernel_rfl) rfl rfl (by rfl) ?_
 simp only [env0,List.cons_append,List.nil_append]
 have kw:=ksIs [0,1,3,4,5,6,13,21]
 have ow:=ownIs [19]
 have dw4:=drIs 4 [] [4,6]
 subst hn
 repeat' (first
  | refine g_ ?_
  | ((with_reducible refine And.intro ?_ ?_);(exact sv_put_dc))
  | (refine DW.cond (by rfl) ?_ ?_<;>(first | exact i0_ | (refine ic_ ?_;intro hb)))
  | ((with_reducible first | refine FVg_cases ?_ ?_ | refine FDg_cases ?_ ?_)<;>(intro hb;rw [hb];revert hb;(first | exact i0_ | (refine i_ ?_;intro hb))))
  | refine r_ ?_
  | refine d_ ?_
  | refine k_ ?_
  | refine vo_ ?_
  | ((first | (refine DOp.lista_ [19] rfl rfl ?_) | (refine DOp.makea_ [19] rfl rfl rfl rfl ?_))<;>(refine s_ ?_))
  | (refine p_ (bsda_dc _ _ _ _ _ _ _) ?_ (ha:=by exact sv_put_dc);rintro d H1 ⟨⟨hf,hpl,rfl⟩ | ⟨hf,rfl⟩,rfl⟩<;>refine s_ ?_)
  | (refine p_ (insd_dc _ _ _ _ _ _ _ _ _) ?_ (ha:=by exact sv_put_dc);rintro d H1 ⟨v2,rfl,rfl⟩<;>refine s_ ?_)
  | refine o_ ?_
  | refine f_ ?_
  | refine vm_ ?_
  | with_reducible intro b)
 all_goals first
 | (have e:putP l ⟨x1,x2,x3⟩=_:=putP_1 hf hb
    refine ⟨_,_,?_,⟨?_,rfl,rfl⟩,?_⟩;rotate_left 2;(rw [e]);(exact sub_);(rw [e]);(first | exact le.rfl_ | exact le.of_eq (congrArg (V.ar _) (by simp;try omega)));done)
 | (have e:putP l ⟨x1,x2,x3⟩=_:=putP_2 hf hb
    refine ⟨_,_,?_,⟨?_,rfl,rfl⟩,?_⟩;rotate_left 2;(rw [e]);(exact sub_);(rw [e]);(first | exact le.rfl_ | exact le.of_eq (congrArg (V.ar _) (by simp;try omega)));done)
 | (have e:putP l ⟨x1,x2,x3⟩=_:=putP_3 hf
    refine ⟨_,_,?_,⟨?_,rfl,rfl⟩,?_⟩;rotate_left 2;(rw [e]);(exact sub_);(rw [e]);(first | exact le.rfl_ | exact le.of_eq (congrArg (V.ar _) (by simp;try omega)));done)
end
end
section
theorem DW.frzO2 {P:Program} {n:Nat} {Q:Exit->Env->Own->Prop} {e e':Env} {H H':Own} (id:Nat) {ops:Array Oper} {d:Bool} (v:Value) {l:List V} (h:OnA H v fun sz cs C=>cs=cells l/\0<sz/\(∀ y∈l,y.n=sz)/\CvE v l e e'/\CvO v l (C (.tail sz v)) H'/\DW P n (.region id ops d) Q e' H'):DW P n (.region id ops d) Q e H:=by
 obtain ⟨sz,cs,L1,L2,h0,h1,h2,h3,h4,h5,h6⟩:=h
 exact DW.frzOR id v ⟨sz,cs,L1,L2,h0,h1,h2,h3,h4,H',h5,h6⟩
attribute [local irreducible] DW SeqD DV DOp DC DVX DVJ
end
section
theorem encRoute_eta (x:TRoute):(⟨⟨x.dot.node,x.dot.epoch,x.dot.n⟩,x.filter⟩:TRoute)=x:=rfl
theorem encFence_eta (x:TFence):(⟨x.node,x.epoch⟩:TFence)=x:=rfl
theorem part_at {T:Type} [Inhabited T] {enc:T->V} {s:Nat} (hs:∀ x,(enc x).cs.length=s):∀ (l:List T) (k:Nat),k<l.length->List.take s (List.drop (k * s) (cells (l.map enc)))=(enc (l.getD k default)).cs
 | [],k,h=>absurd h (Nat.not_lt_zero _)
 | x::l,0,_=>by rw [Nat.zero_mul,List.drop_zero,List.map_cons,cells_cons,<-hs x,List.take_left'];rfl;rfl
 | x::l,k+1,h=>by
  rw [List.map_cons,cells_cons,show (k+1) * s=(enc x).cs.length+k * s by rw [hs,Nat.succ_mul];omega,List.drop_append,List.drop_of_length_le (by omega),Nat.add_sub_cancel_left,List.nil_append,part_at hs l k (by simpa using h)]
  rfl
theorem cells_encFence {l:List TFence} {k:Nat} (h:k<l.length):List.take 2 (List.drop (k * 2) (cells (l.map encFence)))=[.int .i64 (l.getD k default).node, .int .i64 (l.getD k default).epoch]:=part_at (s:=2) (fun _=>rfl) l k h
attribute [local irreducible] DW SeqD DV DOp DC DVX DVJ
section
attribute [local push_cast 2000] encRoute encRoute_eta
end
section
attribute [local push_cast 2000] encRoute encRoute_eta
end
section
attribute [local push_cast 2000] encFence encFence_eta cells_encf cells_encFence
theorem idxf_dc (l:List TFence) (g:FuncId) (c1 c2:V) (p:TFence->Bool) (F:Own):((∀ (a b:Int) (F:Own),True->DC Tryz.prog g [.agg [.int .i64 a, .int .i64 b],c1,c2] (([]:Own)++F) fun d G=>d = .bool (p ⟨a,b⟩)/\G=[]++F)/\l.length<=1000000000)->DC Tryz.prog 126 [.sl (l.map encFence), .fn (.func g) [] [c1,c2]] (([]:Own)++F) fun d G=>((∀ q,q<l.length->p (l.getD q default)=false)/\d = .int .i64 (-1)\/∃ k:Nat,(k<l.length/\p (l.getD k default)=true/\∀ q,q<k->p (l.getD q default)=false)/\d = .int .i64 k)/\G=[]++F:=by
 intro hA
 obtain ⟨hcl,hl⟩:=hA
 refine DC.bodyS (n_:=19) (show Tryz.prog.funcs[126]? = some Tryz.f126 by kernel_rfl) rfl rfl (by rfl) ?_
 simp only [env0,List.cons_append,List.nil_append]
 have kw:=ksIs [0,1,4,5,7,8,9,16]
 have ow:=ownIs []
 repeat' (first
  | ((with_reducible refine DW.loopB 0 (X:=Nat) (fun x=>x<=l.length/\∀ q,q<x->p (l.getD q default)=false) (fun x=>[(0, .sl (l.map encFence)),(1, .fn (.func g) [] [c1,c2]),(7, .int .i64 l.length),(8, .int .i64 x)]) (fun x=>([]:Own)) (fun x=>l.length - x) (0) ?_ ?_ ?_);exact (⟨Nat.zero_le _,fun q h=>absurd h (Nat.not_lt_zero _)⟩);(simp [Sub,get,keepL]<;>fail);(try simp only [List.cons_append,List.nil_append]);refine pl_ ?_;intro k ⟨hk,ha⟩;(try simp only [List.cons_append,List.nil_append]))
  | refine g_ ?_
  | ((with_reducible refine And.intro ?_ ?_);(exact sv))
  | (refine DW.cond (by rfl) ?_ ?_<;>(first | exact i0_ | (refine ic_ ?_;intro hb)))
  | ((with_reducible refine FVg_cases ?_ ?_)<;>(intro hb;rw [hb];revert hb;(first | exact i0_ | (refine i_ ?_;intro hb))))
  | refine r_ ?_
  | refine k_ ?_
  | (refine q_ (hcl _ _ _) ?_)
  | refine o_ ?_
  | refine f_ ?_
  | with_reducible intro b)
 all_goals first
 | (refine ⟨_,_,le.rfl_,⟨.inr ⟨k,⟨by omega,hb,ha⟩,rfl⟩,rfl⟩,?_⟩;(exact sub_);done)
 | (refine ⟨k+1,⟨by omega,fun q hq=>?_⟩,by omega,by simp [Sub,get],?_⟩;(by_cases hqk:q=k;(subst hqk;exact hb);exact ha q (by omega));(exact sub_);done)
 | (refine ⟨_,_,le.rfl_,⟨.inl ⟨fun q hq=>ha q (by omega),rfl⟩,rfl⟩,?_⟩;(exact sub_);done)
end
end
section
theorem any_no {T:Type} [Inhabited T] {l:List T} {p:T->Bool} (h:∀ q,q<l.length->p (l.getD q default)=false):l.any p=false:=by
 rw [List.any_eq_false]
 intro x hx
 obtain ⟨q,hq,rfl⟩:=mem_getD hx
 rw [h q hq];simp
theorem any_yes {T:Type} [Inhabited T] {l:List T} {p:T->Bool} {k:Nat} (hk:k<l.length) (h:p (l.getD k default)=true):l.any p=true:=List.any_eq_true.2 ⟨_,getD_mem hk,h⟩
def cnt {T:Type} (p:T->Bool) (l:List T) (j:Nat):Nat:=((l.take j).filter (fun x=>!p x)).length
structure DI_ {T:Type} (p:T->Bool) (l:List T) (j:Nat) (m:List T):Prop where
 jle:j<=l.length
 len:m.length=l.length
 rest:m.drop j=l.drop j
 done_:m.take (cnt p l j)=(l.take j).filter (fun x=>!p x)
 lt:cnt p l j<j
section
variable {T:Type} [Inhabited T] {p:T->Bool} {l m:List T} {j k:Nat}
theorem take_next {l:List T} {j:Nat} (h:j<l.length):l.take (j+1)=l.take j++[l.getD j default]:=by
 rw [List.take_add_one,List.getD_eq_getElem?_getD,List.getElem?_eq_getElem h];rfl
theorem cnt_keep (h:j<l.length) (hp:p (l.getD j default)=false):cnt p l (j+1)=cnt p l j+1:=by
 unfold cnt;rw [take_next h,List.filter_append,List.length_append,List.filter_cons,hp];rfl
theorem cnt_drop (h:j<l.length) (hp:p (l.getD j default)=true):cnt p l (j+1)=cnt p l j:=by
 unfold cnt;rw [take_next h,List.filter_append,List.length_append,List.filter_cons,hp];rfl
theorem DI_.at_ (h:DI_ p l j m) (hj:j<l.length):m.getD j default=l.getD j default:=by
 have h1:=h.rest
 rw [List.drop_eq_getElem_cons (by rw [h.len];exact hj),List.drop_eq_getElem_cons hj] at h1
 injection h1 with h1 _
 rw [getD_get m j (by rw [h.len];exact hj),getD_get l j hj,h1]
theorem drop_more_ {l m:List T} {j:Nat} (h:m.drop j=l.drop j):m.drop (j+1)=l.drop (j+1):=by
 rw [<-List.drop_drop (i:=1) (j:=j) (l:=m),<-List.drop_drop (i:=1) (j:=j) (l:=l),h]
theorem DI_.drop (h:DI_ p l j m) (hj:j<l.length) (hp:p (m.getD j default)=true):DI_ p l (j+1) m:=by
 rw [h.at_ hj] at hp
 have e:=cnt_drop hj hp
 refine ⟨hj,h.len,drop_more_ h.rest,?_,by have:=h.lt;omega⟩
 rw [e,h.done_,take_next hj,List.filter_append,List.filter_cons,hp];simp
theorem DI_.keep (h:DI_ p l j m) (hj:j<l.length) (hp:p (m.getD j default)=false):DI_ p l (j+1) (m.set (cnt p l j) (m.getD j default)):=by
 have hat:=h.at_ hj
 rw [hat] at hp ⊢
 have e:=cnt_keep hj hp
 have hlt:=h.lt
 refine ⟨hj,by rw [List.length_set];exact h.len,?_,?_,by omega⟩
 · rw [List.drop_set_of_lt (by omega)];exact drop_more_ h.rest
 · rw [e,take_next (by rw [List.length_set,h.len];have:=h.jle;omega),List.take_set_of_le (Nat.le_refl _),h.done_,take_next hj,List.filter_append]
   congr 1
   rw [List.filter_cons,hp,List.getD_eq_getElem?_getD,List.getElem?_set_self (by rw [h.len];have:=h.jle;omega)]
   rfl
end
attribute [local irreducible] DW SeqD DV DOp DC DVX DVJ
section
attribute [local push_cast 2000] encRoute encRoute_eta Nat.sub_zero
end
end
section
def fencedP (node epoch:Int) (x:TFence):Bool:=x.node==node&&decide (epoch<=x.epoch)
theorem any_fenced (fe:List TFence) (node epoch:Int):fe.any (fencedP node epoch)=fencedL fe node epoch:=by
 rw [Bool.eq_iff_iff,fenced_iff,List.any_eq_true]
 simp only [fencedP,Bool.and_eq_true,beq_iff_eq,decide_eq_true_eq]
theorem DW.frzRO {P:Program} {n:Nat} {Q:Exit->Env->Own->Prop} {e e':Env} {H H':Own} {v:Value} {l:List V} (h:OnA H v fun sz cs C=>cs=cells l/\0<sz/\(∀ y∈l,y.n=sz)/\CvE v l e e'/\CvO v l (C (.tail sz v)) H'/\DW P n .ret Q e' H'):DW P n .ret Q e H:=by
 obtain ⟨sz,cs,L1,L2,h0,h1,h2,h3,h4,h5,h6⟩:=h
 exact DW.frzO v ⟨sz,cs,L1,L2,h0,h1,h2,h3,h4,H',h5,h6⟩
attribute [local irreducible] DW SeqD DV DOp DC DVX DVJ
theorem sv_contf_dc {p:Prop} (h:p:=by first | exact sv | exact ⟨hcl,hl⟩ | fail):p:=h
theorem contf_dc (l:List TFence) (g:FuncId) (c1 c2:V) (p:TFence->Bool) (F:Own):((∀ (a b:Int) (F:Own),True->DC Tryz.prog g [.agg [.int .i64 a, .int .i64 b],c1,c2] (([]:Own)++F) fun d G=>d = .bool (p ⟨a,b⟩)/\G=[]++F)/\l.length<=1000000000)->DC Tryz.prog 85 [.sl (l.map encFence), .fn (.func g) [] [c1,c2]] (([]:Own)++F) fun d G=>d = .bool (l.any p)/\G=[]++F:=by
 intro hA
 obtain ⟨hcl,hl⟩:=hA
 refine DC.bodyS (n_:=9) (show Tryz.prog.funcs[85]? = some Tryz.f85 by kernel_rfl) rfl rfl (by rfl) ?_
 simp only [env0,List.cons_append,List.nil_append]
 have kw:=ksIs [0,1,4]
 have ow:=ownIs []
 repeat' (first
  | refine g_ ?_
  | ((with_reducible refine And.intro ?_ ?_);(exact sv_contf_dc))
  | (refine DW.cond (by rfl) ?_ ?_<;>(first | exact i0_ | (refine ic_ ?_;intro hb)))
  | ((with_reducible refine FVg_cases ?_ ?_)<;>(intro hb;rw [hb];revert hb;(first | exact i0_ | (refine i_ ?_;intro hb))))
  | refine r_ ?_
  | refine k_ ?_
  | (refine p_ (idxf_dc _ _ _ _ _ _) ?_ (ha:=by exact sv_contf_dc);rintro d H1 ⟨⟨hnn,rfl⟩ | ⟨k,hk,rfl⟩,rfl⟩<;>refine s_ ?_)
  | refine o_ ?_
  | refine f_ ?_
  | with_reducible intro b)
 all_goals first
 | (have e:=any_no hnn
    rw [e];(first | exact fin_ | refine finq_ ?_);done)
 | (have e:=any_yes (p:=p) hk.1 hk.2.1
    refine ⟨_,_,?_,⟨rfl,rfl⟩,?_⟩;rotate_left;(exact sub_);(exact le.of_eq (by rw [e];simp));done)
theorem fcl_dc (node epoch a b:Int) (F:Own):(True)->DC Tryz.prog 86 [.agg [.int .i64 a, .int .i64 b], .sp [.int .i64 node], .sp [.int .i64 epoch]] (([]:Own)++F) fun d G=>d = .bool (fencedP node epoch ⟨a,b⟩)/\G=[]++F:=by
 intro hA
 refine DC.bodyS (n_:=15) (show Tryz.prog.funcs[86]? = some Tryz.f86 by kernel_rfl) rfl rfl (by rfl) ?_
 simp only [env0,List.cons_append,List.nil_append]
 have kw:=ksIs [0,1,2,3,4]
 have ow:=ownIs []
 repeat' (first
  | refine g_ ?_
  | ((with_reducible refine And.intro ?_ ?_);(exact sv))
  | (refine DW.cond (by rfl) ?_ ?_<;>(first | exact i0_ | (refine ic_ ?_;intro hb)))
  | ((with_reducible refine FVg_cases ?_ ?_)<;>(intro hb;rw [hb];revert hb;(first | exact i0_ | (refine i_ ?_;intro hb))))
  | refine r_ ?_
  | refine k_ ?_
  | refine o_ ?_
  | refine f_ ?_
  | with_reducible intro b)
 all_goals
  refine ⟨_,_,le.of_eq ?_,⟨rfl,rfl⟩,SubP.refl⟩
  unfold fencedP
  simp_all
theorem contF_dc (l:List TFence) (node epoch:Int) (F:Own):l.length<=1000000000->DC Tryz.prog 85 [.sl (l.map encFence), .fn (.func 86) [] [.sp [.int .i64 node], .sp [.int .i64 epoch]]] (([]:Own)++F) fun d G=>d = .bool (fencedL l node epoch)/\G=[]++F:=fun h=>by
 rw [<-any_fenced]
 exact contf_dc l 86 _ _ (fencedP node epoch) F ⟨fun a b F _=>fcl_dc node epoch a b F trivial,h⟩
theorem pfenced_dc (se:List TDot) (fe:List TFence) (ro:List TRoute) (ce:List TCell) (node epoch:Int) (F:Own):(fe.length<=1000000000)->DC Tryz.prog 32 [.agg [.sl (se.map encDot), .sl (fe.map encFence), .sl (ro.map encRoute), .sl (ce.map encCell)], .int .i64 node, .int .i64 epoch] (([]:Own)++F) fun d G=>d = .bool (fencedL fe node epoch)/\G=[]++F:=by
 intro hA
 have hf:=hA
 refine DC.bodyS (n_:=11) (show Tryz.prog.funcs[32]? = some Tryz.f32 by kernel_rfl) rfl rfl (by rfl) ?_
 simp only [env0,List.cons_append,List.nil_append]
 have kw:=ksIs [0,1,2,3,4,5,6]
 have ow:=ownIs []
 repeat' (first
  | refine g_ ?_
  | ((with_reducible refine And.intro ?_ ?_);(exact sv))
  | (refine DW.cond (by rfl) ?_ ?_<;>(first | exact i0_ | (refine ic_ ?_;intro hb)))
  | ((with_reducible refine FVg_cases ?_ ?_)<;>(intro hb;rw [hb];revert hb;(first | exact i0_ | (refine i_ ?_;intro hb))))
  | refine r_ ?_
  | refine k_ ?_
  | (refine q_ (contF_dc _ _ _ _) ?_)
  | refine o_ ?_
  | refine f_ ?_
  | with_reducible intro b)
 (first | exact fin_ | refine finq_ ?_)
 all_goals rfl
end
section
theorem deed_dflt:deedOk default:=⟨by decide,by decide,by decide,by decide⟩
theorem deed_at {l:List TDeed} (h:∀ d∈l,deedOk d) (k:Nat):deedOk (l.getD k default):=by
 by_cases hk:k<l.length
 · exact h _ (getD_mem hk)
 · rw [List.getD_eq_getElem?_getD,List.getElem?_eq_none (by omega)];exact deed_dflt
theorem filterM_len (k:Int):(filterM k).length<=1000000000:=by
 unfold filterM
 have key:∀ n,(filterL.getD n default).length<=1000000000:=by
  intro n
  by_cases h:n<filterL.length
  · have:=getD_mem h
    have key:∀ f∈filterL,f.length<=1000000000:=by decide
    exact key _ this
  · rw [List.getD_eq_getElem?_getD,List.getElem?_eq_none (by omega)];exact Nat.zero_le _
 exact key _
theorem topicM_len (k:Int):(topicM k).length<=1000000000:=by
 unfold topicM
 have key:∀ n,(topicL.getD n default).length<=1000000000:=by
  intro n
  by_cases h:n<topicL.length
  · have:=getD_mem h
    have key:∀ f∈topicL,f.length<=1000000000:=by decide
    exact key _ this
  · rw [List.getD_eq_getElem?_getD,List.getElem?_eq_none (by omega)];exact Nat.zero_le _
 exact key _
theorem Story.lite {i:Nat} {s:TSt} (h:Story i s) (hi:i<=20) {n:Int} (hn:0<=n/\n<3):Lite 3072 (s.ts.getD n.toNat default):=by
 obtain ⟨t1,t2,_⟩:=h.tab hn
 exact story_lite hi t1 t2
theorem Story.top {i:Nat} {s:TSt} (h:Story i s) (hi:i<=20) {n:Int} (hn:0<=n/\n<3) (m e:Int) : -1000000000000<=topM (s.ts.getD n.toNat default).seen m e/\topM (s.ts.getD n.toNat default).seen m e<=1000000000000:=by
 obtain ⟨t1,t2,_⟩:=h.tab hn
 have:=top_le t1.seen (fun d hd=>(t2.s d hd).2.2.2) m e
 exact ⟨by have:=this.1;show _<=topM (tabT s n).seen m e;omega,by have:=this.2;show topM (tabT s n).seen m e<=_;omega⟩
theorem Story.pAdd {i:Nat} {s:TSt} (h:Story i s) (hi:i<=20) {n:Int} (hn:0<=n/\n<3) (m e k:Int):Lite 1000000000 (s.ts.getD n.toNat default)/\(filterM k).length<=1000000000 /\ -1000000000000<=topM (s.ts.getD n.toNat default).seen m e/\topM (s.ts.getD n.toNat default).seen m e<=1000000000000 :=
 ⟨(h.lite hi hn).mono (by decide),filterM_len k,(h.top hi hn m e).1,(h.top hi hn m e).2⟩
theorem Story.pDrop {i:Nat} {s:TSt} (h:Story i s) (hi:i<=20) {n:Int} (hn:0<=n/\n<3) (m e:Int):Lite 1000000000 (s.ts.getD n.toNat default) /\ -1000000000000<=topM (s.ts.getD n.toNat default).seen m e/\topM (s.ts.getD n.toNat default).seen m e<=1000000000000 :=
 ⟨(h.lite hi hn).mono (by decide),(h.top hi hn m e).1,(h.top hi hn m e).2⟩
theorem Story.pPut {i:Nat} {s:TSt} (h:Story i s) (hi:i<=20) {n:Int} (hn:0<=n/\n<3) (m e k:Int) {x:Str} (hx:x.length<=30):Lite 1000000000 (s.ts.getD n.toNat default)/\((topicM k).length<=1000000000/\x.length<=1000000000) /\ -1000000000000<=topM (s.ts.getD n.toNat default).seen m e/\topM (s.ts.getD n.toNat default).seen m e<=1000000000000 :=
 ⟨(h.lite hi hn).mono (by decide),⟨topicM_len k,Nat.le_trans hx (by decide)⟩,(h.top hi hn m e).1,(h.top hi hn m e).2⟩
theorem Story.pFence {i:Nat} {s:TSt} (h:Story i s) (hi:i<=20) {n:Int} (hn:0<=n/\n<3):Lite 100000000 (s.ts.getD n.toNat default):=(h.lite hi hn).mono (by decide)
theorem Story.pMerge {i:Nat} {s:TSt} (h:Story i s) (hi:i<=20) {n m:Int} (hn:0<=n/\n<3) (hm:0<=m/\m<3):Lite 4000000 (s.ts.getD n.toNat default)/\Lite 4000000 (s.ts.getD m.toNat default):=⟨(h.lite hi hn).mono (by decide),(h.lite hi hm).mono (by decide)⟩
theorem add_fe (t:TTable) (n e:Int) (f:Str):(routeAddM t n e f).fences=t.fences:=by unfold routeAddM;split<;>rfl
theorem drop_fe (t:TTable) (n e:Int) (f:Str):(routeDropM t n e f).fences=t.fences:=by unfold routeDropM;split<;>rfl
theorem put_fe (t:TTable) (n e:Int) (s:TStamp) (m1 m2:Str) (m3:Int):(cellPutM t n e s m1 m2 m3).fences=t.fences:=by unfold cellPutM;split<;>rfl
theorem Story.f1 {i:Nat} {s:TSt} (h:Story i s) (hi:i<=20) {n:Int} (hn:0<=n/\n<3):(s.ts.getD n.toNat default).fences.length<=1000000000:=Nat.le_trans (h.lite hi hn).f (by decide)
theorem Story.f2 {i:Nat} {s:TSt} (h:Story i s) (hi:i<=20) {n:Int} (hn:0<=n/\n<3) (m e:Int) (f:Str):(routeAddM (s.ts.getD n.toNat default) m e f).fences.length<=1000000000:=by rw [add_fe];exact h.f1 hi hn
theorem Story.f3 {i:Nat} {s:TSt} (h:Story i s) (hi:i<=20) {n:Int} (hn:0<=n/\n<3) (m e:Int) (f:Str):(routeDropM (s.ts.getD n.toNat default) m e f).fences.length<=1000000000:=by rw [drop_fe];exact h.f1 hi hn
theorem Story.f4 {i:Nat} {s:TSt} (h:Story i s) (hi:i<=20) {n:Int} (hn:0<=n/\n<3) (m e:Int) (a:TStamp) (m1 m2:Str) (m3:Int):(cellPutM (s.ts.getD n.toNat default) m e a m1 m2 m3).fences.length<=1000000000:=by rw [put_fe];exact h.f1 hi hn
theorem Story.f5 {i:Nat} {s:TSt} (h:Story i s) (hi:i<=20) {n:Int} (hn:0<=n/\n<3) (m e:Int):(fenceM (s.ts.getD n.toNat default) m e).fences.length<=1000000000:=by
 have h1:=(fenceM_facts (s.ts.getD n.toNat default) m e).2.2.1
 have h2:=(h.lite hi hn).f
 omega
theorem Story.f6 {i:Nat} {s:TSt} (h:Story i s) (hi:i<=20) {n m:Int} (hn:0<=n/\n<3) (hm:0<=m/\m<3):(mergeM (s.ts.getD n.toNat default) (s.ts.getD m.toNat default)).fences.length<=1000000000 :=
 Nat.le_trans (merge_lite (h.lite hi hn) (h.lite hi hm)).f (by decide)
theorem step_of {s:TSt} {d:TDeed} {t:TTable} (h:actT s d (s.at_+d.k.tmod 3)=t):stepT s d=⟨s.ts.set (d.who.tmod 3).toNat t,if fencedL t.fences (d.who.tmod 3) (s.es.getD (d.who.tmod 3).toNat default)=true then s.es.set (d.who.tmod 3).toNat (s.es.getD (d.who.tmod 3).toNat default+1) else s.es,s.at_+d.k.tmod 3⟩:=by
 rw [stepT,h];rfl
theorem step_y {s:TSt} {d:TDeed} {t:TTable} (h:actT s d (s.at_+d.k.tmod 3)=t) (hf:fencedL t.fences (d.who.tmod 3) (s.es.getD (d.who.tmod 3).toNat default)=true):stepT s d=⟨s.ts.set (d.who.tmod 3).toNat t,s.es.set (d.who.tmod 3).toNat (s.es.getD (d.who.tmod 3).toNat default+1),s.at_+d.k.tmod 3⟩:=by
 rw [step_of h,if_pos hf]
theorem step_n {s:TSt} {d:TDeed} {t:TTable} (h:actT s d (s.at_+d.k.tmod 3)=t) (hf:fencedL t.fences (d.who.tmod 3) (s.es.getD (d.who.tmod 3).toNat default)=false):stepT s d=⟨s.ts.set (d.who.tmod 3).toNat t,s.es,s.at_+d.k.tmod 3⟩:=by
 rw [step_of h,if_neg (by rw [hf];simp)]
theorem act_1 {s:TSt} {d:TDeed} {a:Int} (h:d.what.tmod 8=0\/d.what.tmod 8=1):actT s d a=routeAddM (s.ts.getD (d.who.tmod 3).toNat default) (d.who.tmod 3) (s.es.getD (d.who.tmod 3).toNat default) (filterM d.k):=by rw [actT,if_pos h];rfl
theorem act_2 {s:TSt} {d:TDeed} {a:Int} (h:d.what.tmod 8=2):actT s d a=routeDropM (s.ts.getD (d.who.tmod 3).toNat default) (d.who.tmod 3) (s.es.getD (d.who.tmod 3).toNat default) (filterM d.k):=by rw [actT,if_neg (by omega),if_pos h];rfl
theorem act_3 {s:TSt} {d:TDeed} {a:Int} (h:d.what.tmod 8=3\/d.what.tmod 8=4):actT s d a=cellPutM (s.ts.getD (d.who.tmod 3).toNat default) (d.who.tmod 3) (s.es.getD (d.who.tmod 3).toNat default) ⟨a,d.k.tmod 2,d.who.tmod 3⟩ (topicM d.k) d.x (d.k.tmod 3):=by rw [actT,if_neg (by omega),if_neg (by omega),if_pos h];rfl
theorem act_5 {s:TSt} {d:TDeed} {a:Int} (h:d.what.tmod 8=5) (h4:d.k.tmod 4=0):actT s d a=fenceM (s.ts.getD (d.who.tmod 3).toNat default) ((d.k.tdiv 4).tmod 3) (s.es.getD ((d.k.tdiv 4).tmod 3).toNat default):=by rw [actT,if_neg (by omega),if_neg (by omega),if_neg (by omega),if_pos h,if_pos h4];rfl
theorem act_0 {s:TSt} {d:TDeed} {a:Int} (h:d.what.tmod 8=5) (h4:¬ d.k.tmod 4=0):actT s d a=s.ts.getD (d.who.tmod 3).toNat default:=by rw [actT,if_neg (by omega),if_neg (by omega),if_neg (by omega),if_pos h,if_neg h4];rfl
theorem act_6 {s:TSt} {d:TDeed} {a:Int} (h:5<d.what.tmod 8):actT s d a=mergeM (s.ts.getD (d.who.tmod 3).toNat default) (s.ts.getD (d.k.tmod 3).toNat default):=by rw [actT,if_neg (by omega),if_neg (by omega),if_neg (by omega),if_neg (by omega)];rfl
theorem set_same {α:Type} [Inhabited α] {l:List α} {k:Nat} (h:k<l.length):l.set k (l.getD k default)=l:=by
 rw [getD_get l k h,List.set_getElem_self]
theorem getD_set_same {α:Type} [Inhabited α] {l:List α} {k:Nat} {x:α} (h:k<l.length):(l.set k x).getD k default=x:=by
 rw [List.getD_eq_getElem?_getD,List.getElem?_set_self h];rfl
theorem cells_flt {α:Type} (f:α->V):∀ l:List α,cells (l.map f)=flt (fun a=>(f a).cs) l
 | []=>rfl
 | x::l=>by
  rw [List.map_cons,cells_cons,cells_flt f l];rfl
theorem cells_tlen (ts:List TTable):(cells (ts.map encTable)).length=ts.length * 4:=by rw [cells_len (sz:=4) _ (by intro y hy;obtain ⟨x,_,rfl⟩:=List.mem_map.1 hy;rfl),List.length_map]
theorem cells_tab {ts:List TTable} {k:Nat} (h:k<ts.length):List.take 4 (List.drop (k * 4) (cells (ts.map encTable)))=[.sl ((ts.getD k default).seen.map encDot), .sl ((ts.getD k default).fences.map encFence), .sl ((ts.getD k default).routes.map encRoute), .sl ((ts.getD k default).cells.map encCell)]:=by
 rw [cells_flt]
 exact flt_row (n:=4) (g:=fun a=>(encTable a).cs) (fun _=>rfl) ts k h
theorem cells_tset {ts:List TTable} {k:Nat} {x:TTable} (h:k<ts.length):layV (cells (ts.map encTable)) (k * 4) [.sl (x.seen.map encDot), .sl (x.fences.map encFence), .sl (x.routes.map encRoute), .sl (x.cells.map encCell)]=cells ((ts.set k x).map encTable):=by
 rw [cells_flt,cells_flt]
 exact flt_set (n:=4) (g:=fun a=>(encTable a).cs) (fun _=>rfl) ts k x h
theorem ints_at {es:List Int} {k:Nat} (h:k<es.length):(es.map encJ).getD k .any = .int .i64 (es.getD k default):=by
 rw [List.getD_eq_getElem?_getD,List.getElem?_map]
 simp [h,encJ]
theorem ints_drop {es:List Int} {k:Nat} (h:k<es.length):(List.drop k (es.map encJ)).getD 0 .any = .int .i64 (es.getD k default):=by
 rw [dropD,Nat.add_zero,ints_at h]
theorem ints_set:∀ {es:List Int} {k:Nat} {x:Int},k<es.length->layV (es.map encJ) k [.int .i64 x]=(es.set k x).map encJ
 | [],k,x,h=>absurd h (Nat.not_lt_zero _)
 | e::es,0,x,_=>rfl
 | e::es,k+1,x,h=>by
  rw [List.map_cons,lay_cons,ints_set (by simpa using h)];rfl
theorem ints_len (es:List Int):(es.map encJ).length=es.length:=List.length_map _
def tabG (s:TSt):List V:=cells (s.ts.map encTable)
def epsG (s:TSt):List V:=s.es.map encJ
theorem tabG_0:tabG startT=[.sl [], .sl [], .sl [], .sl [], .sl [], .sl [], .sl [], .sl [], .sl [], .sl [], .sl [], .sl []]:=rfl
theorem epsG_0:epsG startT=[.int .i64 1, .int .i64 1, .int .i64 1]:=rfl
end
section
theorem dot_ext {x y:TDot} (h:x.node=y.node/\x.epoch=y.epoch/\x.n=y.n):x=y:=by
 obtain ⟨a,b,c⟩:=x;obtain ⟨a',b',c'⟩:=y
 simp only at h;obtain ⟨rfl,rfl,rfl⟩:=h;rfl
theorem fence_ext {x y:TFence} (h:x.node=y.node/\x.epoch=y.epoch):x=y:=by
 obtain ⟨a,b⟩:=x;obtain ⟨a',b'⟩:=y
 simp only at h;obtain ⟨rfl,rfl⟩:=h;rfl
theorem route_ext {x y:TRoute} (h:x.dot.node=y.dot.node/\x.dot.epoch=y.dot.epoch/\x.dot.n=y.dot.n/\x.filter=y.filter):x=y:=by
 obtain ⟨⟨a,b,c⟩,d⟩:=x;obtain ⟨⟨a',b',c'⟩,d'⟩:=y
 simp only at h;obtain ⟨rfl,rfl,rfl,rfl⟩:=h;rfl
def eqK {α:Type} [Inhabited α] (l m:List α) (k:Nat):Prop:=∀ j,j<k->l.getD j default=m.getD j default
theorem eqK_0 {α:Type} [Inhabited α] (l m:List α):eqK l m 0:=fun j h=>absurd h (Nat.not_lt_zero _)
theorem eqK_s {α:Type} [Inhabited α] {l m:List α} {k:Nat} (h:eqK l m k) (e:l.getD k default=m.getD k default):eqK l m (k+1):=fun j hj=>by
 rcases Nat.lt_or_eq_of_le (Nat.le_of_lt_succ hj) with h1 | rfl
 · exact h j h1
 · exact e
theorem eqK_all {α:Type} [Inhabited α] {l m:List α} {k:Nat} (h:eqK l m k) (hk:l.length<=k) (hl:l.length=m.length):l=m:=by
 apply List.ext_getElem hl
 intro i h1 h2
 have:=h i (by omega)
 rwa [getD_get l i h1,getD_get m i h2] at this
def sameC (a b:TCell):Bool:=decide (a=b)
theorem sameC_t {a b:TCell} (h:sameC a b=true):a=b:=of_decide_eq_true h
theorem sameC_f {a b:TCell} (h:sameC a b=false):a≠b:=of_decide_eq_false h
attribute [local irreducible] DW SeqD DV DOp DC DVX DVJ
end
end Go.Proofs.YtifdpbghkccaoaaGreatDoor
