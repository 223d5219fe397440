/- What the program finds among dots. -/
import Derived.Test.YtifdpbghkccaoaaGreatDoorRa1x
import Derived.KernelRfl
namespace Go.Proofs.YtifdpbghkccaoaaGreatDoor
open Go.RowKit
set_option linter.unusedSimpArgs false
set_option linter.unusedVariables false
set_option linter.unusedSectionVars false
set_option maxHeartbeats 4000000
set_option maxRecDepth 100000
section
theorem lives_nlt (a b:TDot):(0<=livesI a b)↔ahead a b=false:=by
 rw [<-Bool.not_eq_true,<-lives_lt];omega
theorem dotOk_eq (l:List TDot) (k:Nat):dotOk l k=(oneB (l.getD k default)&&(decide (k=0)||ahead (l.getD (k - 1) default) (l.getD k default))):=rfl
theorem dotOk_no1 {l:List TDot} {k:Nat} (h:oneB (l.getD k default)=false):dotOk l k=false:=by rw [dotOk_eq,h];rfl
theorem dotOk_no2 {l:List TDot} {k:Nat} (hk:0<(k:Int)) (h:0<=livesI (l.getD ((k:Int) - 1).toNat default) (l.getD k default)):dotOk l k=false:=by
 rw [show ((k:Int) - 1).toNat=k - 1 by omega,lives_nlt] at h
 rw [dotOk_eq,h,show decide (k=0)=false by simp;omega];simp
theorem dotOk_yes0 {l:List TDot} {k:Nat} (h1:oneB (l.getD k default)=true) (hk:(k:Int)<=0):dotOk l k=true:=by rw [dotOk_eq,h1,show decide (k=0)=true by simp;omega];rfl
theorem dotOk_yes {l:List TDot} {k:Nat} (h1:oneB (l.getD k default)=true) (h:livesI (l.getD ((k:Int) - 1).toNat default) (l.getD k default)<0) (hk:0<(k:Int)):dotOk l k=true:=by
 rw [show ((k:Int) - 1).toNat=k - 1 by omega,lives_lt] at h
 rw [dotOk_eq,h1,h];simp
def foundB (l:List TDot) (x:TDot):Bool:=decide (placeD l x<l.length)&&(livesI (l.getD (placeD l x) default) x==0)
theorem bs_end {lt:Nat->Bool} {n i:Nat} (hm:∀ a b,a<=b->b<n->lt b=true->lt a=true) (hi:i<=n) (h1:i=0\/lt (i - 1)=true) (h2:i=n\/lt i=false):firstK (fun k=>!lt k) n 0=i:=by
 have hlow:∀ q,0<=q->q<i->(!lt q)=false:=fun q _ hq=>by
  rcases h1 with h1 | h1
  · omega
  · rw [hm q (i - 1) (by omega) (by omega) h1];rfl
 rcases Nat.lt_or_ge i n with h | h
 · rcases h2 with h2 | h2
   · omega
   · exact firstK_at _ n 0 i (Nat.zero_le _) (by omega) hlow (by rw [h2];rfl)
 · have:i=n:=by omega
   subst this
   have:=firstK_no (fun k=>!lt k) i 0 (fun q h3 h4=>hlow q h3 (by omega))
   omega
theorem ahead_mono {l:List TDot} (h:rightB l=true) (x:TDot):∀ a b,a<=b->b<l.length->ahead (l.getD b default) x=true->ahead (l.getD a default) x=true:=fun a b hab hb ha=>by
 rcases Nat.eq_or_lt_of_le hab with rfl | hlt
 · exact ha
 · exact ahead_trans _ _ _ (pw_at (right_iff.1 h).1 hlt hb) ha
theorem bsD {l:List TDot} (h:rightB l=true) {x:TDot} {i:Nat} (hi:i<=l.length) (h1:i=0\/ahead (l.getD (i - 1) default) x=true) (h2:i=l.length\/ahead (l.getD i default) x=false):placeD l x=i:=bs_end (ahead_mono h x) hi h1 h2
theorem half_eq {i j:Nat} (h:(i:Int)+(j:Int)<=4000000000):IntKind.i64.wrap (((i:Int)+(j:Int)).fdiv (2 ^ min 1 IntKind.u64.bits))=(((i+j) / 2:Nat):Int):=by
 have e:(2:Int) ^ min 1 IntKind.u64.bits=2:=by decide
 rw [e,Int.fdiv_eq_ediv_of_nonneg _ (by decide),wrap_i64]<;>omega
theorem top_bs {l:List TDot} (h:rightB l=true) (n e m:Int):topM l n e=if foundB l ⟨n,e,m⟩=true then (l.getD (placeD l ⟨n,e,m⟩) default).n else 0:=by
 obtain ⟨h1,h2,h3,h4⟩:=firstK_le (fun i=>!ahead (l.getD i default) ⟨n,e,m⟩) l.length 0
 obtain ⟨p,hp⟩:∃ p,p=placeD l ⟨n,e,m⟩:=⟨_,rfl⟩
 have hp':firstK (fun i=>!ahead (l.getD i default) ⟨n,e,m⟩) l.length 0=p:=hp.symm
 rw [hp'] at h1 h2 h3 h4
 unfold foundB
 rw [<-hp]
 split
 · rename_i hc
   simp only [Bool.and_eq_true,decide_eq_true_eq,beq_iff_eq] at hc
   have hz:=(lives_z _ _).1 hc.2
   have:=top_mem h (getD_mem hc.1)
   simp only at hz
   rw [<-hz.1,<-hz.2];exact this
 · rename_i hc
   refine top_none h fun d hd hk=>?_
   obtain ⟨q,hq,rfl⟩:=mem_getD hd
   have hqa:ahead (l.getD q default) ⟨n,e,m⟩=false:=by
    rw [ahead_not];simp only;omega
   have hpq:p<=q:=by
    rcases Nat.lt_or_ge q p with h5 | h5
    · have:=h3 q (Nat.zero_le _) h5
      rw [hqa] at this;cases this
    · exact h5
   have hpa:ahead (l.getD p default) ⟨n,e,m⟩=false:=by simpa using h4 (by omega)
   rcases Nat.eq_or_lt_of_le hpq with rfl | hlt
   · refine hc ?_
     simp only [Bool.and_eq_true,decide_eq_true_eq,beq_iff_eq]
     exact ⟨hq,(lives_z _ _).2 hk⟩
   · have h6:=ahead_iff.1 (pw_at (right_iff.1 h).1 hlt hq)
     rw [ahead_not] at hpa
     simp only at hpa
     omega
attribute [local irreducible] DW SeqD DV DOp DC DVX
section
attribute [local push_cast 2000] encDot dot_eta
theorem pright_dc (l:List TDot) (F:Own):(l.length<=1000000000)->DC Tryz.prog 41 [.sl (l.map encDot)] (([]:Own)++F) fun d G=>d = .bool (rightB l)/\G=[]++F:=by
 intro hA
 have hl:=hA
 refine DC.bodyS (n_:=30) (show Tryz.prog.funcs[41]? = some Tryz.f41 by kernel_rfl) rfl rfl (by rfl) ?_
 simp only [env0,List.cons_append,List.nil_append]
 have kw:=ksIs [0,2,3,4,5,6,7,8,28]
 have ow:=ownIs []
 have dw4:=drIs 4 [] [0,1,11,12,13]
 repeat' (first
  | ((with_reducible refine DW.loopB 0 (X:=Nat) (fun x=>x<=l.length/\allK (dotOk l) x=true) (fun x=>[(0, .sl (l.map encDot)),(5, .sl (l.map encDot)),(6, .int .i64 l.length),(7, .int .i64 x)]) (fun x=>([]:Own)) (fun x=>l.length - x) (0) ?_ ?_ ?_);exact (⟨Nat.zero_le _,rfl⟩);(simp [Sub,get,keepL]<;>fail);(try simp only [List.cons_append,List.nil_append]);refine pl_ ?_;intro k ⟨hk,ha⟩;(try simp only [List.cons_append,List.nil_append]))
  | refine g_ ?_
  | ((with_reducible refine And.intro ?_ ?_);(exact sv))
  | (refine DW.cond (by rfl) ?_ ?_<;>(first | exact i0_ | (refine ic_ ?_;intro hb)))
  | ((with_reducible first | refine FVg_cases ?_ ?_ | refine FDg_cases ?_ ?_)<;>(intro hb;rw [hb];revert hb;(first | exact i0_ | (refine i_ ?_;intro hb))))
  | refine r_ ?_
  | refine d_ ?_
  | refine k_ ?_
  | ((refine dm_ ?_);(first | ((first | refine v_ (may_dc _ _ _ _) ?_ | refine v_ (lives_dc _ _ _ _ _ _ _) ?_))))
  | refine vo_ ?_
  | ((first | refine q_ (may_dc _ _ _ _) ?_ | refine q_ (lives_dc _ _ _ _ _ _ _) ?_))
  | refine o_ ?_
  | refine f_ ?_
  | refine vm_ ?_
  | with_reducible intro b)
 all_goals first
 | (have hk0:k=l.length:=by omega
    subst hk0
    rw [show rightB l=true from ha];(first | exact fin_ | refine finq_ ?_);done)
 | (rw [show rightB l=false from allK_not (dotOk_no1 (by assumption)) (by omega)];(first | exact fin_ | refine finq_ ?_);done)
 | (rw [show rightB l=false from allK_not (dotOk_no2 (by assumption) (by assumption)) (by omega)];(first | exact fin_ | refine finq_ ?_);done)
 | (refine ⟨k+1,⟨by omega,allK_next ha (dotOk_yes (by assumption) (by assumption) (by assumption))⟩,by omega,by simp [Sub,get],?_⟩;(exact sub_);done)
 | (refine ⟨k+1,⟨by omega,allK_next ha (dotOk_yes0 (by assumption) (by assumption))⟩,by omega,by simp [Sub,get],?_⟩;(exact sub_);done)
end
section
attribute [local push_cast 2000] encDot dot_eta half_eq
theorem bsd_dc (l:List TDot) (x1 x2 x3:Int) (F:Own):(rightB l=true/\l.length<=1000000000)->DC Tryz.prog 116 [.sl (l.map encDot), .agg [.int .i64 x1, .int .i64 x2, .int .i64 x3], .fn (.func 92) [] []] (([]:Own)++F) fun d G=>d = .tup [.int .i64 (placeD l ⟨x1,x2,x3⟩), .bool (foundB l ⟨x1,x2,x3⟩)]/\G=[]++F:=by
 intro hA
 obtain ⟨hr,hl⟩:=hA
 refine DC.bodyS (n_:=49) (show Tryz.prog.funcs[116]? = some Tryz.f116 by kernel_rfl) rfl rfl (by rfl) ?_
 simp only [env0,List.cons_append,List.nil_append]
 have kw:=ksIs [0,1,2,4,6,7,8,9,10,11,17,31]
 have ow:=ownIs []
 have dw5:=drIs 5 [] [4,5,6]
 have dw8:=drIs 8 [] [9,10,11]
 repeat' (first
  | ((with_reducible refine DW.loopB 0 (X:=Nat×Nat) (fun x=>x.1<=x.2/\x.2<=l.length/\(x.1=0\/ahead (l.getD (x.1 - 1) default) ⟨x1,x2,x3⟩=true)/\(x.2=l.length\/ahead (l.getD x.2 default) ⟨x1,x2,x3⟩=false)) (fun x=>[(0, .sl (l.map encDot)),(2, .fn (.func 92) [] []),(4, .sp [.int .i64 x1, .int .i64 x2, .int .i64 x3]),(8, .int .i64 l.length),(9, .int .i64 x.1),(10, .int .i64 x.2)]) (fun x=>([]:Own)) (fun x=>x.2 - x.1) ((0,l.length)) ?_ ?_ ?_);exact (⟨Nat.zero_le _,Nat.le_refl _, .inl rfl, .inl rfl⟩);(simp [Sub,get,keepL]<;>fail);(try simp only [List.cons_append,List.nil_append]);refine pl_ ?_;intro ⟨i,j⟩ ⟨hij,hj,h1,h2⟩;(try simp only [List.cons_append,List.nil_append]);simp only at hij hj h1 h2)
  | refine g_ ?_
  | ((with_reducible refine And.intro ?_ ?_);(exact sv))
  | (refine DW.cond (by rfl) ?_ ?_<;>(first | exact i0_ | (refine ic_ ?_;intro hb)))
  | ((with_reducible first | refine FVg_cases ?_ ?_ | refine FDg_cases ?_ ?_)<;>(intro hb;rw [hb];revert hb;(first | exact i0_ | (refine i_ ?_;intro hb))))
  | refine r_ ?_
  | refine d_ ?_
  | refine k_ ?_
  | ((refine dm_ ?_);(first | (refine v_ (lives_dc _ _ _ _ _ _ _) ?_)))
  | refine vo_ ?_
  | (refine q_ (lives_dc _ _ _ _ _ _ _) ?_)
  | refine o_ ?_
  | refine f_ ?_
  | refine vm_ ?_
  | with_reducible intro b)
 all_goals first
 | (refine ⟨((i+j) / 2+1,j),⟨by simp only;omega,by simp only;omega, .inr (by simpa using (lives_lt _ _).1 (by assumption)),h2⟩,by simp only;omega,by simp [Sub,get],?_⟩;(exact sub_);done)
 | (refine ⟨(i,(i+j) / 2),⟨by simp only;omega,by simp only;omega,h1, .inr ((lives_nlt _ _).1 (by assumption))⟩,by simp only;omega,by simp [Sub,get],?_⟩;(exact sub_);done)
 | (obtain rfl:j=i:=by omega
    have hp:=bsD (x:=⟨x1,x2,x3⟩) hr hj h1 h2
    have hf:foundB l ⟨x1,x2,x3⟩=(livesI (l.getD j default) ⟨x1,x2,x3⟩==0):=by rw [foundB,hp,decide_eq_true (by omega),Bool.true_and]
    rw [hp,hf];(first | exact fin_ | refine finq_ ?_);done)
 | (obtain rfl:j=i:=by omega
    have hp:=bsD (x:=⟨x1,x2,x3⟩) hr hj h1 h2
    have hf:foundB l ⟨x1,x2,x3⟩=false:=by rw [foundB,hp,decide_eq_false (by omega),Bool.false_and]
    rw [hp,hf];(first | exact fin_ | refine finq_ ?_);done)
end
end
end Go.Proofs.YtifdpbghkccaoaaGreatDoor
