/- Routes are sorted. -/
import Derived.Test.YtifdpbghkccaoaaGreatDoorPt7x
import Derived.Test.YtifdpbghkccaoaaGreatDoorSsx
import Derived.Test.YtifdpbghkccaoaaGreatDoorDd1x
import Derived.KernelRfl
import Derived.Test.YtifdpbghkccaoaaGreatDoorPtdx
import Derived.Test.YtifdpbghkccaoaaGreatDoorDd2x
import Derived.Test.YtifdpbghkccaoaaGreatDoorEm
namespace Go.Proofs.YtifdpbghkccaoaaGreatDoor
open Go.RowKit
set_option linter.unusedSimpArgs false
set_option linter.unusedVariables false
set_option linter.unusedSectionVars false
set_option maxHeartbeats 4000000
set_option maxRecDepth 100000
section
theorem rbefore_total {a b:TRoute} (h:rbefore a b=false):rbefore b a=true\/a=b:=by
 cases h':rbefore b a with
 | true=>exact .inl rfl
 | false=>exact .inr (rbefore_tri h h')
end
section
attribute [local irreducible] DW SeqD DV DOp DC DVX
section
attribute [local push_cast 2000] u8
end
section
attribute [local push_cast 2000] u8
end
section
attribute [local push_cast 2000] u8
end
end
section
def joinL (a b:List TDot) (k:Nat):List TDot:=(b.take k).foldl addM a
theorem joinL_0 (a b:List TDot):joinL a b 0=a:=rfl
theorem joinL_s {a b:List TDot} {k:Nat} (h:k<b.length):joinL a b (k+1)=addM (joinL a b k) (b.getD k default):=foldl_more _ _ h
theorem joinL_right {a b:List TDot} (ha:rightB a=true):∀ k,rightB (joinL a b k)=true:=fun k=>by
 unfold joinL
 generalize b.take k=l
 induction l generalizing a with
 | nil=>exact ha
 | cons d l ih=>exact ih (add_right ha d)
theorem joinL_len {a b:List TDot}:∀ k,k<=b.length->(joinL a b k).length<=a.length+k
 | 0,_=>Nat.le_refl _
 | k+1,h=>by
  rw [joinL_s (by omega)]
  have:=addM_len (joinL a b k) (b.getD k default)
  have:=joinL_len (a:=a) (b:=b) k (by omega)
  omega
theorem joinL_end {a b:List TDot} (ha:rightB a=true) (hb:rightB b=true):joinL a b b.length=joinM a b:=by
 unfold joinM joinL;rw [if_pos ⟨ha,hb⟩,List.take_length]
theorem one_at {b:List TDot} (hb:rightB b=true) {k:Nat} (h:k<b.length):oneB (b.getD k default)=true:=(right_iff.1 hb).2 _ (getD_mem h)
theorem join_put {a b:List TDot} (ha:rightB a=true) (hb:rightB b=true) {k:Nat} (h:k<b.length):putP (joinL a b k) (b.getD k default)=joinL a b (k+1):=by
 rw [joinL_s h,put_add (joinL_right ha k) (one_at hb h)]
attribute [local irreducible] DW SeqD DV DOp DC DVX DVJ rightB putP joinL joinM
theorem sv_joinA_dc {p:Prop} (h:p:=by first | exact sv | exact ⟨rfl,joinL_right hra _,by omega⟩ | fail):p:=h
theorem s_joinA_dc {P Q:Prop} (q:Q) (h:Hid Q->P:=by (intro q;simp (maxSteps:=1000000) (disch:=omega) only [push_cast,↓reduceIte,reduceCtorEq,Nat.reduceAdd,Nat.reduceMul,Nat.reduceLT,Nat.reduceLeDiff,Nat.reduceEqDiff,Nat.reduceSub,Int.reduceToNat,Int.reduceLT,Int.reduceLE,Int.reduceAdd,Int.reduceSub,Int.reduceMul,Int.reduceNeg,Nat.reduceBEq,Int.reduceBEq,Int.reduceBNe,Nat.reduceBNe,Int.reduceEq,encDot,dot_eta,hra,hrb];exact q.1)):P:=h ⟨q⟩
section
attribute [local push_cast 2000] encDot dot_eta
theorem joinA_dc (p q:List TDot) (F:Own):(rightB p=true/\rightB q=true/\p.length<=100000000/\q.length<=100000000)->DC Tryz.prog 27 [.sl (p.map encDot), .sl (q.map encDot)] (([]:Own)++F) fun d G=>∃ v,d = .ar v (joinM p q).length/\G = .arr 3 v (cells ((joinM p q).map encDot))::F:=by
 intro hA
 obtain ⟨hra,hrb,hla,hlb⟩:=hA
 refine DC.bodyS (n_:=29) (show Tryz.prog.funcs[27]? = some Tryz.f27 by kernel_rfl) rfl rfl (by rfl) ?_
 simp only [env0,joinL_0,List.cons_append,List.nil_append]
 have kw:=ksIs [0,1,4,5,7,15,18,19,20,21]
 have ow:=ownIs []
 repeat' (first
  | ((with_reducible apply DW.frzB 7 7);(focus (exact rfl));(repeat (with_reducible first | refine Out.here ?_ | refine Out.next ?_));simp only [put_cons,put_nil,Nat.reduceEqDiff,↓reduceIte,if_true,if_false,reduceCtorEq])
  | ((with_reducible refine DW.loopB 0 (X:=Nat×Value) (fun x=>x.1<=q.length) (fun x=>[(5, .ar x.2 (joinL p q x.1).length),(18, .sl (q.map encDot)),(19, .int .i64 q.length),(20, .int .i64 x.1)]) (fun x=>[.arr 3 x.2 (cells ((joinL p q x.1).map encDot))]) (fun x=>q.length - x.1) ((0,v)) ?_ ?_ ?_);exact (Nat.zero_le _);(simp [Sub,get,keepL,joinL_0]<;>fail);(try simp only [joinL_0,List.cons_append,List.nil_append]);refine pl_ ?_;intro ⟨k,v⟩ hk;(try simp only [joinL_0,List.cons_append,List.nil_append]);(try simp only at hk);have hjl:=joinL_len (a:=p) (b:=q) k hk)
  | refine g_ ?_
  | ((with_reducible refine And.intro ?_ ?_);(exact sv_joinA_dc))
  | (refine DW.cond (by rfl) ?_ ?_<;>(first | exact i0_ | (intro hb;(try simp only [↓reduceCtorEq,not_true_eq_false,not_false_eq_true,hbs,Int.reduceBEq,Int.reduceBNe,Int.reduceEq] at hb);(try refine s_joinA_dc ?_))))
  | ((with_reducible refine FVg_cases ?_ ?_)<;>(intro hb;rw [hb];revert hb;(first | exact i0_ | (intro hb;(try simp only [↓reduceCtorEq,not_true_eq_false,not_false_eq_true,hbs,Int.reduceBEq,Int.reduceBNe,Int.reduceEq] at hb);(try refine s_joinA_dc ?_)))))
  | ((first | refine rn_ ?_ | refine kn_ ?_)<;>(refine s_joinA_dc ?_))
  | (refine q_ (pright_dc _ _) ?_ (ha:=by exact sv_joinA_dc) (hk:=fun q=>q.1);refine s_joinA_dc ?_)
  | (refine p_ (clod_dc _ _) ?_ (ha:=by exact sv_joinA_dc);rintro d H1 ⟨v,rfl,rfl⟩<;>refine s_joinA_dc ?_)
  | (refine p_ (put_dc _ _ _ _ _ _ _) ?_ (ha:=by exact sv_joinA_dc);rintro d H1 ⟨v2,rfl,rfl⟩<;>refine s_joinA_dc ?_)
  | ((refine on_ ?_);refine s_joinA_dc ?_)
  | refine f_ ?_
  | with_reducible intro b)
 all_goals first
 | ((have hkl:k=q.length:=by omega)
    subst hkl
    rw [joinL_end hra hrb]
    refine ⟨_,_,le.rfl_,⟨_,rfl,rfl⟩,?_⟩;(exact sub_);done)
 | ((have e:=join_put hra hrb (show k<q.length by omega))
    refine ⟨(k+1,v2),?_,?_,?_,?_⟩;((try simp only);omega);((try simp only);omega);((try dsimp only);rw [<-e];simp [Sub,get,dot_eta]);((try dsimp only);rw [<-e];(exact sub_));done)
 | (trace_state;fail)
end
theorem pjoin_dc (a b:List TDot) (F:Own):(rightB a=true/\rightB b=true/\a.length<=100000000/\b.length<=100000000)->DC Tryz.prog 27 [.sl (a.map encDot), .sl (b.map encDot)] (([]:Own)++F) fun d G=>d = .sl ((joinM a b).map encDot)/\G=[]++F:=fun h =>
 DC.le_ (fun v=>.gs v ((joinM a b).map encDot)) (fun v=>le.gs rfl) ((DC.frz (F:=F) (K:=fun _=>True) (D:=fun v=>.ar v (joinM a b).length) (D':=fun v=>.gs v ((joinM a b).map encDot)) (sz:=3) (l:=(joinM a b).map encDot) (L:=fun _=>F) (by decide) (fun y hy=>by obtain ⟨x,_,rfl⟩:=List.mem_map.1 hy;rfl) (fun v=>.hit _)
  ((joinA_dc a b F h).mono fun d G ⟨v,h1,h2⟩=>⟨v,h1,h2,trivial⟩)).mono fun d G ⟨v,h1,h2,_⟩=>⟨v,h1,h2⟩)
end
section
theorem rise_ext {α:Type} {R:α->α->Prop} (ir:∀ a,¬ R a a) (asy:∀ a b,R a b->¬ R b a):∀ {l m:List α},l.Pairwise R->m.Pairwise R->(∀ x,x∈l↔x∈m)->l=m
 | [],[],_,_,_=>rfl
 | [],y::m,_,_,h=>absurd ((h y).2 (List.mem_cons_self ..)) (by simp)
 | x::l,[],_,_,h=>absurd ((h x).1 (List.mem_cons_self ..)) (by simp)
 | x::l,y::m,hl,hm,h=>by
  rw [List.pairwise_cons] at hl hm
  have e:x=y:=by
   rcases List.mem_cons.1 ((h x).1 (List.mem_cons_self ..)) with e | hx
   · exact e
   · rcases List.mem_cons.1 ((h y).2 (List.mem_cons_self ..)) with e | hy
     · exact e.symm
     · exact absurd (hl.1 y hy) (asy _ _ (hm.1 x hx))
  subst e
  have ht:l=m:=rise_ext ir asy hl.2 hm.2 fun z=>⟨fun hz=>by
   rcases List.mem_cons.1 ((h z).1 (List.mem_cons_of_mem _ hz)) with rfl | hz'
   · exact absurd (hl.1 z hz) (ir z)
   · exact hz',fun hz=>by
   rcases List.mem_cons.1 ((h z).2 (List.mem_cons_of_mem _ hz)) with rfl | hz'
   · exact absurd (hm.1 z hz) (ir z)
   · exact hz'⟩
  rw [ht]
theorem pw_either {α:Type} {R:α->α->Prop} {l:List α} (h:l.Pairwise R) {x y:α} (hx:x∈l) (hy:y∈l):x=y\/R x y\/R y x:=by
 induction l with
 | nil=>cases hx
 | cons a l ih =>
  rw [List.pairwise_cons] at h
  rcases List.mem_cons.1 hx with ex | hx'
  · rcases List.mem_cons.1 hy with ey | hy'
    · exact .inl (ex.trans ey.symm)
    · exact .inr (.inl (ex▸h.1 y hy'))
  · rcases List.mem_cons.1 hy with ey | hy'
    · exact .inr (.inr (ey▸h.1 x hx'))
    · exact ih h.2 hx' hy'
theorem seen_sub {l m:List TDot} (hl:rightB l=true) (hm:rightB m=true) (h:∀ n e,topM l n e=topM m n e) {d:TDot} (hd:d∈l):d∈m:=by
 have h1:=top_mem hl hd
 have h2:=one_iff.1 ((right_iff.1 hl).2 d hd)
 have h3:=h d.node d.epoch
 rcases top_cases hm d.node d.epoch with ⟨x,hx,e1,e2,e3⟩ | ⟨_,e3⟩
 · have e4:x=d:=by
    obtain ⟨a,b,c⟩:=x;obtain ⟨a',b',c'⟩:=d
    simp only [TDot.mk.injEq] at *
    exact ⟨e1,e2,by omega⟩
   exact e4▸hx
 · omega
theorem seen_ext {l m:List TDot} (hl:rightB l=true) (hm:rightB m=true) (h:∀ n e,topM l n e=topM m n e):l=m :=
 rise_ext (R:=fun a b=>ahead a b=true) (fun a h=>by rw [ahead_iff] at h;omega) (fun a b h1 h2=>by rw [ahead_iff] at *;omega) (right_iff.1 hl).1 (right_iff.1 hm).1 fun d =>
  ⟨seen_sub hl hm h,seen_sub hm hl fun n e=>(h n e).symm⟩
theorem top_of_has {l m:List TDot} (hl:rightB l=true) (hm:rightB m=true) (h:∀ d,hasB l d=hasB m d) (n e:Int):topM l n e=topM m n e:=by
 have h1:=top_nonneg hl n e
 have h2:=top_nonneg hm n e
 have a:=h ⟨n,e,topM l n e⟩
 have b:=h ⟨n,e,topM m n e⟩
 rw [Bool.eq_iff_iff,has_iff,has_iff] at a b
 simp only at a b
 omega
theorem top_fold:∀ (L l:List TDot),rightB l=true->(∀ d∈L,oneB d=true)->rightB (L.foldl addM l)=true/\(∀ n e,topM l n e<=topM (L.foldl addM l) n e)/\(∀ d∈L,d.n<=topM (L.foldl addM l) d.node d.epoch) /\
  (∀ n e,topM (L.foldl addM l) n e=topM l n e\/∃ d∈L,d.node=n/\d.epoch=e/\topM (L.foldl addM l) n e=d.n)
 | [],l,h,_=>⟨h,fun _ _=>Int.le_refl _,(fun _ h=>nomatch h),fun _ _=>.inl rfl⟩
 | d::L,l,h,ho=>by
  have hd:=ho d (List.mem_cons_self ..)
  obtain ⟨i1,i2,i3,i4⟩:=top_fold L (addM l d) (add_right h d) fun x hx=>ho x (List.mem_cons_of_mem _ hx)
  rw [List.foldl_cons]
  refine ⟨i1,fun n e=>?_,fun x hx=>?_,fun n e=>?_⟩
  · have a:=i2 n e;have b:=add_top h d n e;split at b<;>omega
  · rcases List.mem_cons.1 hx with rfl | hx
    · have a:=i2 x.node x.epoch;have b:=add_top h x x.node x.epoch;rw [if_pos ⟨hd,rfl,rfl⟩] at b;omega
    · exact i3 x hx
  · have b:=add_top h d n e
    rcases i4 n e with h4 | ⟨x,hx,e1,e2,e3⟩
    · split at b
      · rename_i hc
        rcases Int.le_total (topM l n e) d.n with hh | hh
        · exact .inr ⟨d,List.mem_cons_self ..,hc.2.1.symm,hc.2.2.symm,by omega⟩
        · left;omega
      · left;omega
    · exact .inr ⟨x,List.mem_cons_of_mem _ hx,e1,e2,e3⟩
theorem join_right {a b:List TDot} (ha:rightB a=true) (hb:rightB b=true):rightB (joinM a b)=true/\∀ n e,topM (joinM a b) n e=max (topM a n e) (topM b n e):=by
 obtain ⟨j1,j2,j3,j4⟩:=top_fold b a ha (right_iff.1 hb).2
 have e:joinM a b=b.foldl addM a:=by unfold joinM;rw [if_pos ⟨ha,hb⟩]
 rw [e]
 refine ⟨j1,fun n e=>?_⟩
 have a0:=top_nonneg ha n e
 have q2:=j2 n e
 rcases top_cases hb n e with ⟨x,hx,e1,e2,e3⟩ | ⟨h0,e3⟩
 · have q3:=j3 x hx
   rw [e1,e2] at q3
   rcases j4 n e with q4 | ⟨y,hy,f1,f2,f3⟩
   · omega
   · have:=key_uniq (right_iff.1 hb) hx hy (e1.trans f1.symm) (e2.trans f2.symm)
     subst this;omega
 · rcases j4 n e with q4 | ⟨y,hy,f1,f2,f3⟩
   · omega
   · exact absurd ⟨f1,f2⟩ (h0 y hy)
theorem has_join {a b:List TDot} (ha:rightB a=true) (hb:rightB b=true) (d:TDot):hasB (joinM a b) d=(hasB a d||hasB b d):=by
 rw [Bool.eq_iff_iff,Bool.or_eq_true,has_iff,has_iff,has_iff,(join_right ha hb).2]
 omega
theorem has_down {s:List TDot} {d x:TDot} (h:hasB s d=true) (hn:x.node=d.node) (he:x.epoch=d.epoch) (h1:1<=x.n) (h2:x.n<=d.n):hasB s x=true:=by
 rw [has_iff] at *
 rw [hn,he];omega
theorem node_uniq {l:List TFence} (h:FR l) {a b:TFence} (ha:a∈l) (hb:b∈l) (e:a.node=b.node):a=b:=by
 rcases pw_either h.1 ha hb with h | h | h
 · exact h
 · omega
 · omega
theorem fence_sub {l m:List TFence} (hl:FR l) (h:∀ n e,fencedL l n e=fencedL m n e) {f:TFence} (hf:f∈l):f∈m:=by
 have h1:fencedL m f.node f.epoch=true:=by rw [<-h];exact fenced_iff.2 ⟨f,hf,rfl,Int.le_refl _⟩
 obtain ⟨g,hg,e1,e2⟩:=fenced_iff.1 h1
 have h2:fencedL l g.node g.epoch=true:=by rw [h];exact fenced_iff.2 ⟨g,hg,rfl,Int.le_refl _⟩
 obtain ⟨f',hf',e3,e4⟩:=fenced_iff.1 h2
 have e5:f'=f:=node_uniq hl hf' hf (e3.trans e1)
 subst e5
 have e6:g=f':=by
  obtain ⟨a,b⟩:=g;obtain ⟨a',b'⟩:=f'
  simp only [TFence.mk.injEq] at *
  omega
 exact e6▸hg
theorem fences_ext {l m:List TFence} (hl:FR l) (hm:FR m) (h:∀ n e,fencedL l n e=fencedL m n e):l=m :=
 rise_ext (R:=fun a b=>a.node<b.node) (fun a h=>by omega) (fun a b h1 h2=>by omega) hl.1 hm.1 fun f=>⟨fence_sub hl h,fence_sub hm fun n e=>(h n e).symm⟩
theorem fenced_cons (f:TFence) (l:List TFence) (m k:Int):fencedL (f::l) m k=((decide (m=f.node)&&decide (k<=f.epoch))||fencedL l m k):=by
 rw [Bool.eq_iff_iff,Bool.or_eq_true,fenced_iff,fenced_iff]
 simp only [Bool.and_eq_true,decide_eq_true_eq]
 constructor
 · rintro ⟨x,hx,h1,h2⟩
   rcases List.mem_cons.1 hx with rfl | hx
   · exact .inl ⟨h1.symm,h2⟩
   · exact .inr ⟨x,hx,h1,h2⟩
 · rintro (⟨h1,h2⟩ | ⟨x,hx,h1,h2⟩)
   · exact ⟨f,List.mem_cons_self ..,h1.symm,h2⟩
   · exact ⟨x,List.mem_cons_of_mem _ hx,h1,h2⟩
theorem fenced_nil (m k:Int):fencedL [] m k=false:=rfl
theorem fencedM_is {t:TTable} (h:FR t.fences) {n e:Int} (hp:pairB n e=true):FR (fenceM t n e).fences/\∀ m k,fencedL (fenceM t n e).fences m k=(fencedL t.fences m k||(decide (m=n)&&decide (k<=e))):=by
 by_cases hc:fencedL t.fences n e=false
 · have e0:(fenceM t n e).fences=fenceL t.fences n e:=by unfold fenceM;rw [if_pos ⟨hp,hc⟩]
   rw [e0]
   refine ⟨fence_right h hp,fun m k=>?_⟩
   rw [Bool.eq_iff_iff,fenced_fenceL h,Bool.or_eq_true]
   simp only [Bool.and_eq_true,decide_eq_true_eq]
   constructor
   · rintro (h1 | ⟨_,h2⟩)
     · exact .inr h1
     · exact .inl h2
   · rintro (h1 | h1)
     · by_cases hm:m=n
       · subst hm
         refine .inl ⟨rfl,?_⟩
         obtain ⟨f,hf,f1,f2⟩:=fenced_iff.1 h1
         rcases Int.lt_or_le f.epoch e with hlt | hle
         · omega
         · have:fencedL t.fences m e=true:=fenced_iff.2 ⟨f,hf,f1,hle⟩
           rw [hc] at this;cases this
       · exact .inr ⟨hm,h1⟩
     · exact .inl h1
 · have e0:(fenceM t n e).fences=t.fences:=by unfold fenceM;rw [if_neg (fun x=>hc x.2)]
   rw [e0]
   refine ⟨h,fun m k=>?_⟩
   have hc:fencedL t.fences n e=true:=by simpa using hc
   obtain ⟨f,hf,f1,f2⟩:=fenced_iff.1 hc
   rw [Bool.eq_iff_iff,Bool.or_eq_true]
   simp only [Bool.and_eq_true,decide_eq_true_eq]
   constructor
   · exact .inl
   · rintro (h1 | ⟨rfl,h2⟩)
     · exact h1
     · exact fenced_iff.2 ⟨f,hf,f1,by omega⟩
theorem mem_fenceM_r {t:TTable} {n e:Int} {r:TRoute} (hr:r∈t.routes) (h:fencedL (fenceM t n e).fences r.dot.node r.dot.epoch=false):r∈(fenceM t n e).routes:=by
 unfold fenceM at h ⊢
 split
 · rename_i hc
   rw [if_pos hc] at h
   exact mem_unfR.2 ⟨hr,h⟩
 · exact hr
theorem mergeFe_is:∀ (l:List TFence) (t:TTable),FR t.fences->(∀ f∈l,pairB f.node f.epoch=true)->FR (mergeFe t l).fences/\(∀ m k,fencedL (mergeFe t l).fences m k=(fencedL t.fences m k||fencedL l m k)) /\
  ∀ r∈t.routes,fencedL (mergeFe t l).fences r.dot.node r.dot.epoch=false->r∈(mergeFe t l).routes
 | [],t,h,_=>⟨h,fun m k=>by rw [fenced_nil,Bool.or_false];rfl,fun r hr _=>hr⟩
 | f::l,t,h,hp=>by
  obtain ⟨a1,a2⟩:=fencedM_is h (hp f (List.mem_cons_self ..))
  obtain ⟨i1,i2,i3⟩:=mergeFe_is l (fenceM t f.node f.epoch) a1 fun x hx=>hp x (List.mem_cons_of_mem _ hx)
  have e:mergeFe t (f::l)=mergeFe (fenceM t f.node f.epoch) l:=rfl
  rw [e]
  refine ⟨i1,fun m k=>?_,fun r hr hf=>?_⟩
  · rw [i2,a2,fenced_cons,Bool.or_assoc]
  · refine i3 r (mem_fenceM_r hr ?_) hf
    rw [i2,Bool.or_eq_false_iff] at hf
    exact hf.1
theorem less_iff {a b:TStamp}:lessM a b=true↔heldM a.l<heldM b.l\/heldM a.l=heldM b.l/\(heldM a.c<heldM b.c\/heldM a.c=heldM b.c/\a.node<b.node):=by
 unfold lessM
 split
 · simp only [decide_eq_true_eq];omega
 · split
   · simp only [decide_eq_true_eq];omega
   · simp only [decide_eq_true_eq];omega
theorem less_irr (a:TStamp):¬ lessM a a=true:=by rw [less_iff];omega
theorem less_asy {a b:TStamp} (h:lessM a b=true):¬ lessM b a=true:=by rw [less_iff] at *;omega
theorem less_nt {a c:TStamp} (h:lessM a c=true) (b:TStamp):lessM a b=true\/lessM b c=true:=by rw [less_iff] at *;rw [less_iff];omega
theorem before_nt {a c:TDot} (h:before a c=true) (b:TDot):before a b=true\/before b c=true:=by rw [before_iff] at *;rw [before_iff];omega
theorem before_asy {a b:TDot} (h:before a b=true):¬ before b a=true:=by rw [before_iff] at *;omega
theorem newer_iff {a b:TCell}:newerM a b=true↔lessM b.stamp a.stamp=true\/(¬ lessM a.stamp b.stamp=true/\before b.dot a.dot=true):=by
 unfold newerM newerDS
 simp
theorem newer_irr (a:TCell):newerM a a=false:=by
 rw [<-Bool.not_eq_true,newer_iff]
 rintro (h | ⟨_,h⟩)
 · exact less_irr _ h
 · rw [before_irrefl] at h;cases h
theorem newer_asy {a b:TCell} (h:newerM a b=true):newerM b a=false:=by
 rw [<-Bool.not_eq_true]
 rw [newer_iff] at *
 rintro (h' | ⟨h1,h'⟩)
 · rcases h with h | ⟨h2,h⟩
   · exact less_asy h h'
   · exact h2 h'
 · rcases h with h | ⟨h2,h⟩
   · exact h1 h
   · exact before_asy h h'
theorem newer_nt {a c:TCell} (h:newerM a c=true) (b:TCell):newerM a b=true\/newerM b c=true:=by
 rw [newer_iff] at *
 rw [newer_iff]
 by_cases h1:lessM b.stamp a.stamp=true
 · exact .inl (.inl h1)
 by_cases h2:lessM c.stamp b.stamp=true
 · exact .inr (.inl h2)
 rcases h with h | ⟨h3,h⟩
 · rcases less_nt h b.stamp with h' | h'
   · exact absurd h' h2
   · exact absurd h' h1
 · rcases before_nt h b.dot with h' | h'
   · refine .inr (.inr ⟨fun h4=>?_,h'⟩)
     rcases less_nt h4 a.stamp with h5 | h5
     · exact h1 h5
     · exact h3 h5
   · refine .inl (.inr ⟨fun h4=>?_,h'⟩)
     rcases less_nt h4 c.stamp with h5 | h5
     · exact h3 h5
     · exact h2 h5
theorem newer_tri {a b:TCell} (h1:newerM a b=false) (h2:newerM b a=false):a.dot=b.dot:=by
 rw [<-Bool.not_eq_true,newer_iff] at h1 h2
 have l1:¬ lessM b.stamp a.stamp=true:=fun h=>h1 (.inl h)
 have l2:¬ lessM a.stamp b.stamp=true:=fun h=>h2 (.inl h)
 refine before_tri ?_ ?_
 · rw [<-Bool.not_eq_true];exact fun h=>h2 (.inr ⟨l1,h⟩)
 · rw [<-Bool.not_eq_true];exact fun h=>h1 (.inr ⟨l2,h⟩)
theorem newest_of (P:TCell->Prop):∀ L:List TCell,(∃ c∈L,P c)->∃ c∈L,P c/\∀ x∈L,P x->newerM x c=false
 | [],⟨_,h,_⟩=>nomatch h
 | y::L,h=>by
  by_cases hL:∃ c∈L,P c
  · obtain ⟨c,hc,hp,hm⟩:=newest_of P L hL
    by_cases hy:P y/\newerM y c=true
    · refine ⟨y,List.mem_cons_self ..,hy.1,fun x hx hpx=>?_⟩
      rcases List.mem_cons.1 hx with rfl | hx
      · exact newer_irr _
      · rw [<-Bool.not_eq_true]
        intro h1
        rcases newer_nt h1 c with h2 | h2
        · rw [hm x hx hpx] at h2;cases h2
        · rw [newer_asy hy.2] at h2;cases h2
    · refine ⟨c,List.mem_cons_of_mem _ hc,hp,fun x hx hpx=>?_⟩
      rcases List.mem_cons.1 hx with rfl | hx
      · rw [<-Bool.not_eq_true];exact fun h=>hy ⟨hpx,h⟩
      · exact hm x hx hpx
  · obtain ⟨c,hc,hp⟩:=h
    rcases List.mem_cons.1 hc with rfl | hc
    · refine ⟨c,List.mem_cons_self ..,hp,fun x hx hpx=>?_⟩
      rcases List.mem_cons.1 hx with rfl | hx
      · exact newer_irr _
      · exact absurd ⟨x,hx,hpx⟩ hL
    · exact absurd ⟨c,hc,hp⟩ hL
inductive TAct where
 | add (f:Str)
 | drop (f:Str)
 | put (c:TCell)
structure TG where
 dot:TDot
 act:TAct
structure Hist (G:List TG):Prop where
 one:∀ g∈G,∀ h∈G,g.dot=h.dot->g=h
 ok:∀ g∈G,oneB g.dot=true
 add:∀ g∈G,∀ f,g.act = .add f->filterB f=true
 put:∀ g∈G,∀ c,g.act = .put c->c.dot=g.dot/\cellB c=true
def onG (g:TG) (r:TRoute):Prop:=g.dot.node=r.dot.node/\g.dot.epoch=r.dot.epoch/\(g.act = .add r.filter\/g.act = .drop r.filter)
def Live (G:List TG) (se:List TDot) (fe:List TFence) (r:TRoute):Prop :=
 (∃ g∈G,g.dot=r.dot/\g.act = .add r.filter)/\hasB se r.dot=true/\fencedL fe r.dot.node r.dot.epoch=false/\∀ g∈G,onG g r->r.dot.n<g.dot.n->hasB se g.dot=false
def Newest (G:List TG) (se:List TDot) (c:TCell):Prop :=
 (∃ g∈G,g.dot=c.dot/\g.act = .put c)/\hasB se c.dot=true/\∀ g∈G,∀ x,g.act = .put x->x.topic=c.topic->hasB se x.dot=true->newerM x c=false
structure Can (G:List TG) (t:TTable):Prop where
 tr:TR t
 known:∀ d,hasB t.seen d=true->∃ g∈G,g.dot=d
 ro:∀ r,r∈t.routes↔Live G t.seen t.fences r
 ce:∀ c,c∈t.cells↔Newest G t.seen c
theorem table_ext {a b:TTable} (h1:a.seen=b.seen) (h2:a.fences=b.fences) (h3:a.routes=b.routes) (h4:a.cells=b.cells):a=b:=by
 obtain ⟨_,_,_,_⟩:=a;obtain ⟨_,_,_,_⟩:=b
 simp_all
theorem rbefore_asy {a b:TRoute} (h:rbefore a b=true):¬ rbefore b a=true:=fun h'=>by
 have:=rbefore_trans _ _ _ h h';rw [rbefore_irrefl] at this;cases this
theorem routes_ext {l m:List TRoute} (hl:l.Pairwise fun a b=>rbefore a b=true) (hm:m.Pairwise fun a b=>rbefore a b=true) (h:∀ x,x∈l↔x∈m):l=m :=
 rise_ext (R:=fun a b=>rbefore a b=true) (fun a h=>by rw [rbefore_irrefl] at h;cases h) (fun a b h=>rbefore_asy h) hl hm h
theorem cells_ext {l m:List TCell} (hl:l.Pairwise fun a b=>Op.bytesLess a.topic b.topic=true) (hm:m.Pairwise fun a b=>Op.bytesLess a.topic b.topic=true) (h:∀ x,x∈l↔x∈m):l=m :=
 rise_ext (R:=fun a b=>Op.bytesLess a.topic b.topic=true) (fun a h=>by rw [bl_irrefl] at h;cases h) (fun a b h h'=>by rw [bl_asymm h] at h';cases h') hl hm h
theorem Can.uniq {G:List TG} {a b:TTable} (ha:Can G a) (hb:Can G b) (hs:∀ d,hasB a.seen d=hasB b.seen d) (hf:∀ n e,fencedL a.fences n e=fencedL b.fences n e):a=b:=by
 have e1:=seen_ext ha.tr.seen hb.tr.seen (top_of_has ha.tr.seen hb.tr.seen hs)
 have e2:=fences_ext ha.tr.fences hb.tr.fences hf
 refine table_ext e1 e2 (routes_ext ha.tr.rsort hb.tr.rsort fun r=>?_) (cells_ext ha.tr.csort hb.tr.csort fun c=>?_)
 · rw [ha.ro,hb.ro,e1,e2]
 · rw [ha.ce,hb.ce,e1]
section
variable {G:List TG}
theorem Hist.routes (hG:Hist G) {a b:TRoute} (ha:∃ g∈G,g.dot=a.dot/\g.act = .add a.filter) (hb:∃ g∈G,g.dot=b.dot/\g.act = .add b.filter) (h:a.dot=b.dot):a=b:=by
 obtain ⟨g,hg,g1,g2⟩:=ha
 obtain ⟨k,hk,k1,k2⟩:=hb
 have:=hG.one g hg k hk (by rw [g1,k1,h])
 subst this
 rw [g2] at k2
 obtain ⟨x,y⟩:=a;obtain ⟨x',y'⟩:=b
 simp only [TAct.add.injEq] at *
 subst h;subst k2;rfl
theorem Hist.cells (hG:Hist G) {a b:TCell} (ha:∃ g∈G,g.dot=a.dot/\g.act = .put a) (hb:∃ g∈G,g.dot=b.dot/\g.act = .put b) (h:a.dot=b.dot):a=b:=by
 obtain ⟨g,hg,g1,g2⟩:=ha
 obtain ⟨k,hk,k1,k2⟩:=hb
 have:=hG.one g hg k hk (by rw [g1,k1,h])
 subst this
 rw [g2] at k2
 exact TAct.put.inj k2
theorem Live.add_n (hG:Hist G) {se:List TDot} {fe:List TFence} {r:TRoute} (h:Live G se fe r):oneB r.dot=true/\filterB r.filter=true:=by
 obtain ⟨⟨g,hg,g1,g2⟩,_⟩:=h
 exact ⟨g1▸hG.ok g hg,hG.add g hg _ g2⟩
theorem Live.same (hG:Hist G) {se:List TDot} {fe fe':List TFence} {a b:TRoute} (ha:Live G se fe a) (hb:Live G se fe' b) (h:a.dot.node=b.dot.node/\a.dot.epoch=b.dot.epoch/\a.filter=b.filter):a=b:=by
 refine hG.routes ha.1 hb.1 ?_
 obtain ⟨⟨g,hg,g1,g2⟩,hs,_,hl⟩:=ha
 obtain ⟨⟨k,hk,k1,k2⟩,ks,_,kl⟩:=hb
 have q1:=hl k hk ⟨by rw [k1];exact h.1.symm,by rw [k1];exact h.2.1.symm, .inl (by rw [k2,h.2.2])⟩
 have q2:=kl g hg ⟨by rw [g1];exact h.1,by rw [g1];exact h.2.1, .inl (by rw [g2,h.2.2])⟩
 rw [k1] at q1
 rw [g1] at q2
 obtain ⟨⟨a1,a2,a3⟩,af⟩:=a;obtain ⟨⟨b1,b2,b3⟩,bf⟩:=b
 simp only [TDot.mk.injEq] at *
 refine ⟨h.1,h.2.1,?_⟩
 rcases Int.lt_trichotomy a3 b3 with hlt | he | hlt
 · rw [q1 hlt] at ks;cases ks
 · exact he
 · rw [q2 hlt] at hs;cases hs
theorem Newest.same (hG:Hist G) {se:List TDot} {a b:TCell} (ha:Newest G se a) (hb:Newest G se b) (h:a.topic=b.topic):a=b:=by
 refine hG.cells ha.1 hb.1 (newer_tri ?_ ?_)
 · obtain ⟨⟨g,hg,g1,g2⟩,hs,hl⟩:=ha
   exact hb.2.2 g hg a g2 h hs
 · obtain ⟨⟨g,hg,g1,g2⟩,hs,hl⟩:=hb
   exact ha.2.2 g hg b g2 h.symm hs
theorem tr_of (hG:Hist G) {t:TTable} (h1:rightB t.seen=true) (h2:FR t.fences) (h3:t.routes.Pairwise fun a b=>rbefore a b=true) (h4:t.cells.Pairwise fun a b=>Op.bytesLess a.topic b.topic=true)
  (h5:∀ r,r∈t.routes->Live G t.seen t.fences r) (h6:∀ c,c∈t.cells->Newest G t.seen c):TR t where
 seen:=h1
 fences:=h2
 rsort:=h3
 rok r hr:=⟨((h5 r hr).add_n hG).2,(h5 r hr).2.1,(h5 r hr).2.2.1⟩
 rone:=pw_mem h3 fun a ha b hb hab hl=>by
  have:=(h5 a ha).same hG (h5 b hb) hl
  subst this
  rw [rbefore_irrefl] at hab;cases hab
 csort:=h4
 cok c hc:=by
  obtain ⟨⟨g,hg,g1,g2⟩,hs,_⟩:=h6 c hc
  exact ⟨(hG.put g hg c g2).2,hs⟩
 fresh:=by
  unfold dotsOf
  rw [List.pairwise_append,List.pairwise_map,List.pairwise_map]
  refine ⟨pw_mem h3 fun a ha b hb hab he=>?_,pw_mem h4 fun a ha b hb hab he=>?_,fun x hx y hy he=>?_⟩
  · have:=hG.routes (h5 a ha).1 (h5 b hb).1 he
    subst this
    rw [rbefore_irrefl] at hab;cases hab
  · have:=hG.cells (h6 a ha).1 (h6 b hb).1 he
    subst this
    rw [bl_irrefl] at hab;cases hab
  · obtain ⟨r,hr,rfl⟩:=List.mem_map.1 hx
    obtain ⟨c,hc,rfl⟩:=List.mem_map.1 hy
    obtain ⟨g,hg,g1,g2⟩:=(h5 r hr).1
    obtain ⟨k,hk,k1,k2⟩:=(h6 c hc).1
    have:=hG.one g hg k hk (by rw [g1,k1,he])
    subst this
    rw [g2] at k2;cases k2
end
theorem keepR_fold (r:TRoute):∀ (l:List TRoute) (acc:Bool),l.Pairwise lineNe->(l.foldl (keepStep r) acc=true↔(∃ o∈l,ownB o r.dot.node r.dot.epoch r.filter=true/\o.dot.n<=r.dot.n)\/((∀ o∈l,ownB o r.dot.node r.dot.epoch r.filter=false)/\acc=true))
 | [],acc,_=>by simp
 | o::l,acc,h=>by
  rw [List.pairwise_cons] at h
  rw [List.foldl_cons]
  by_cases ho:ownB o r.dot.node r.dot.epoch r.filter=true
  · have hn:∀ x∈l,ownB x r.dot.node r.dot.epoch r.filter=false:=fun x hx=>by
     rw [<-Bool.not_eq_true]
     intro hx'
     rw [own_iff] at ho hx'
     exact h.1 x hx ⟨by rw [ho.1,hx'.1],by rw [ho.2.1,hx'.2.1],by rw [ho.2.2,hx'.2.2]⟩
    rw [keepStep_1 ho,keepR_fold r l _ h.2]
    constructor
    · rintro (⟨x,hx,h1,_⟩ | ⟨_,h2⟩)
      · rw [hn x hx] at h1;cases h1
      · exact .inl ⟨o,List.mem_cons_self ..,ho,by simpa using h2⟩
    · rintro (⟨x,hx,h1,h2⟩ | ⟨h1,_⟩)
      · rcases List.mem_cons.1 hx with rfl | hx
        · exact .inr ⟨hn,by simpa using h2⟩
        · rw [hn x hx] at h1;cases h1
      · rw [h1 o (List.mem_cons_self ..)] at ho;cases ho
  · have ho:ownB o r.dot.node r.dot.epoch r.filter=false:=by simpa using ho
    rw [keepStep_2 ho,keepR_fold r l _ h.2]
    constructor
    · rintro (⟨x,hx,h1⟩ | ⟨h1,h2⟩)
      · exact .inl ⟨x,List.mem_cons_of_mem _ hx,h1⟩
      · refine .inr ⟨fun x hx=>?_,h2⟩
        rcases List.mem_cons.1 hx with rfl | hx
        · exact ho
        · exact h1 x hx
    · rintro (⟨x,hx,h1,h2⟩ | ⟨h1,h2⟩)
      · rcases List.mem_cons.1 hx with rfl | hx
        · rw [ho] at h1;cases h1
        · exact .inl ⟨x,hx,h1,h2⟩
      · exact .inr ⟨fun x hx=>h1 x (List.mem_cons_of_mem _ hx),h2⟩
theorem keepR_iff {se:List TDot} {l:List TRoute} (h:l.Pairwise lineNe) {r:TRoute}:keepR se l r=true↔(∃ o∈l,ownB o r.dot.node r.dot.epoch r.filter=true/\o.dot.n<=r.dot.n)\/((∀ o∈l,ownB o r.dot.node r.dot.epoch r.filter=false)/\hasB se r.dot=false):=by
 unfold keepR
 rw [keepR_fold r l _ h,Bool.not_eq_true']
theorem keepC_fold (c:TCell):∀ (l:List TCell) (acc:Bool),l.Pairwise (fun a b=>Op.bytesLess a.topic b.topic=true)->(l.foldl (keepStepC c) acc=true↔(∃ o∈l,o.topic=c.topic/\newerM o c=false)\/((∀ o∈l,o.topic≠c.topic)/\acc=true))
 | [],acc,_=>by simp
 | o::l,acc,h=>by
  rw [List.pairwise_cons] at h
  rw [List.foldl_cons]
  by_cases ho:o.topic=c.topic
  · have hn:∀ x∈l,x.topic≠c.topic:=fun x hx hx'=>by
     have:=h.1 x hx
     rw [ho,hx',bl_irrefl] at this;cases this
    rw [keepStepC_1 ho,keepC_fold c l _ h.2]
    constructor
    · rintro (⟨x,hx,h1,_⟩ | ⟨_,h2⟩)
      · exact absurd h1 (hn x hx)
      · exact .inl ⟨o,List.mem_cons_self ..,ho,by simpa using h2⟩
    · rintro (⟨x,hx,h1,h2⟩ | ⟨h1,_⟩)
      · rcases List.mem_cons.1 hx with rfl | hx
        · exact .inr ⟨hn,by simpa using h2⟩
        · exact absurd h1 (hn x hx)
      · exact absurd ho (h1 o (List.mem_cons_self ..))
  · rw [keepStepC_2 ho,keepC_fold c l _ h.2]
    constructor
    · rintro (⟨x,hx,h1⟩ | ⟨h1,h2⟩)
      · exact .inl ⟨x,List.mem_cons_of_mem _ hx,h1⟩
      · refine .inr ⟨fun x hx=>?_,h2⟩
        rcases List.mem_cons.1 hx with rfl | hx
        · exact ho
        · exact h1 x hx
    · rintro (⟨x,hx,h1,h2⟩ | ⟨h1,h2⟩)
      · rcases List.mem_cons.1 hx with rfl | hx
        · exact absurd h1 ho
        · exact .inl ⟨x,hx,h1,h2⟩
      · exact .inr ⟨fun x hx=>h1 x (List.mem_cons_of_mem _ hx),h2⟩
theorem keepC_iff {se:List TDot} {l:List TCell} (h:l.Pairwise (fun a b=>Op.bytesLess a.topic b.topic=true)) {c:TCell}:keepC se l c=true↔(∃ o∈l,o.topic=c.topic/\newerM o c=false)\/((∀ o∈l,o.topic≠c.topic)/\hasB se c.dot=false):=by
 unfold keepC
 rw [keepC_fold c l _ h,Bool.not_eq_true']
structure Joined (a b t:TTable):Prop where
 seen:rightB t.seen=true
 has:∀ d,hasB t.seen d=(hasB a.seen d||hasB b.seen d)
 fences:FR t.fences
 fen:∀ n e,fencedL t.fences n e=(fencedL a.fences n e||fencedL b.fences n e)
 rsort:t.routes.Pairwise fun a b=>rbefore a b=true
 csort:t.cells.Pairwise fun a b=>Op.bytesLess a.topic b.topic=true
 ro:∀ r,r∈t.routes↔fencedL t.fences r.dot.node r.dot.epoch=false/\((r∈a.routes/\keepR b.seen b.routes r=true)\/(r∈b.routes/\keepR a.seen a.routes r=true))
 ce:∀ c,c∈t.cells↔(c∈a.cells/\keepC b.seen b.cells c=true)\/(c∈b.cells/\keepC a.seen a.cells c=true)
section
variable {G:List TG} {a b t:TTable}
theorem live_half (hG:Hist G) (ha:Can G a) (hb:Can G b) (hh:∀ d,hasB t.seen d=(hasB a.seen d||hasB b.seen d)) (hf:∀ n e,fencedL t.fences n e=(fencedL a.fences n e||fencedL b.fences n e)) {r:TRoute} (h:Live G t.seen t.fences r) (h1:hasB a.seen r.dot=true):r∈a.routes/\keepR b.seen b.routes r=true:=by
 obtain ⟨l1,l2,l3,l4⟩:=h
 rw [hf,Bool.or_eq_false_iff] at l3
 have hl:∀ g∈G,onG g r->r.dot.n<g.dot.n->hasB a.seen g.dot=false/\hasB b.seen g.dot=false:=fun g hg h1 h2=>by
  have:=l4 g hg h1 h2
  rwa [hh,Bool.or_eq_false_iff] at this
 refine ⟨(ha.ro r).2 ⟨l1,h1,l3.1,fun g hg h1 h2=>(hl g hg h1 h2).1⟩,(keepR_iff hb.tr.rone).2 ?_⟩
 by_cases ho:∃ o∈b.routes,ownB o r.dot.node r.dot.epoch r.filter=true
 · obtain ⟨o,ho,ho2⟩:=ho
   refine .inl ⟨o,ho,ho2,?_⟩
   obtain ⟨⟨g,hg,g1,g2⟩,o2,o3,o4⟩:=(hb.ro o).1 ho
   have ow:=own_iff.1 ho2
   rcases Int.lt_or_le r.dot.n o.dot.n with hlt | hle
   · have:=(hl g hg ⟨by rw [g1];exact ow.1,by rw [g1];exact ow.2.1, .inl (by rw [g2,ow.2.2])⟩ (by rw [g1];exact hlt)).2
     rw [g1,o2] at this;cases this
   · exact hle
 · have hn:∀ o∈b.routes,ownB o r.dot.node r.dot.epoch r.filter=false:=fun o ho'=>by
    rw [<-Bool.not_eq_true];exact fun h=>ho ⟨o,ho',h⟩
   refine .inr ⟨hn,?_⟩
   rw [<-Bool.not_eq_true]
   intro hbs
   have:=(hb.ro r).2 ⟨l1,hbs,l3.2,fun g hg h1 h2=>(hl g hg h1 h2).2⟩
   have q:=hn r this
   rw [<-Bool.not_eq_true,own_iff] at q
   exact q ⟨rfl,rfl,rfl⟩
theorem live_back (hG:Hist G) (ha:Can G a) (hb:Can G b) (hh:∀ d,hasB t.seen d=(hasB a.seen d||hasB b.seen d)) {r:TRoute} (h0:fencedL t.fences r.dot.node r.dot.epoch=false) (h1:r∈a.routes) (h2:keepR b.seen b.routes r=true):Live G t.seen t.fences r:=by
 obtain ⟨l1,l2,l3,l4⟩:=(ha.ro r).1 h1
 refine ⟨l1,by rw [hh,l2];rfl,h0,fun g hg g1 g2=>?_⟩
 rw [hh,Bool.or_eq_false_iff]
 refine ⟨l4 g hg g1 g2,?_⟩
 rw [<-Bool.not_eq_true]
 intro hbg
 have hone:=one_iff.1 (((ha.ro r).1 h1).add_n hG).1
 have hbr:hasB b.seen r.dot=true:=has_down hbg g1.1.symm g1.2.1.symm hone.2.2.2 (by omega)
 rcases (keepR_iff hb.tr.rone).1 h2 with ⟨o,ho,ho2,ho3⟩ | ⟨_,hn⟩
 · have ow:=own_iff.1 ho2
   obtain ⟨o1,o2,o3,o4⟩:=(hb.ro o).1 ho
   have:=o4 g hg ⟨g1.1.trans ow.1.symm,g1.2.1.trans ow.2.1.symm,by rw [ow.2.2];exact g1.2.2⟩ (by omega)
   rw [hbg] at this;cases this
 · rw [hbr] at hn;cases hn
theorem new_half (hG:Hist G) (ha:Can G a) (hb:Can G b) (hh:∀ d,hasB t.seen d=(hasB a.seen d||hasB b.seen d)) {c:TCell} (h:Newest G t.seen c) (h1:hasB a.seen c.dot=true):c∈a.cells/\keepC b.seen b.cells c=true:=by
 obtain ⟨l1,l2,l3⟩:=h
 have hl:∀ g∈G,∀ x,g.act = .put x->x.topic=c.topic->(hasB a.seen x.dot=true\/hasB b.seen x.dot=true)->newerM x c=false:=fun g hg x h1 h2 h3=>l3 g hg x h1 h2 (by rw [hh,Bool.or_eq_true];exact h3)
 refine ⟨(ha.ce c).2 ⟨l1,h1,fun g hg x h1 h2 h3=>hl g hg x h1 h2 (.inl h3)⟩,(keepC_iff hb.tr.csort).2 ?_⟩
 by_cases ho:∃ o∈b.cells,o.topic=c.topic
 · obtain ⟨o,ho,ho2⟩:=ho
   obtain ⟨⟨g,hg,g1,g2⟩,o2,o3⟩:=(hb.ce o).1 ho
   exact .inl ⟨o,ho,ho2,hl g hg o g2 ho2 (.inr o2)⟩
 · have hn:∀ o∈b.cells,o.topic≠c.topic:=fun o ho' h=>ho ⟨o,ho',h⟩
   refine .inr ⟨hn,?_⟩
   rw [<-Bool.not_eq_true]
   intro hbs
   exact hn c ((hb.ce c).2 ⟨l1,hbs,fun g hg x h1 h2 h3=>hl g hg x h1 h2 (.inr h3)⟩) rfl
theorem new_back (hG:Hist G) (ha:Can G a) (hb:Can G b) (hh:∀ d,hasB t.seen d=(hasB a.seen d||hasB b.seen d)) {c:TCell} (h1:c∈a.cells) (h2:keepC b.seen b.cells c=true):Newest G t.seen c:=by
 obtain ⟨l1,l2,l3⟩:=(ha.ce c).1 h1
 refine ⟨l1,by rw [hh,l2];rfl,fun g hg x g1 g2 g3=>?_⟩
 rw [hh,Bool.or_eq_true] at g3
 rcases g3 with g3 | g3
 · exact l3 g hg x g1 g2 g3
 · rw [<-Bool.not_eq_true]
   intro hx
   rcases (keepC_iff hb.tr.csort).1 h2 with ⟨o,ho,ho2,ho3⟩ | ⟨hn,_⟩
   · obtain ⟨o1,o2,o3⟩:=(hb.ce o).1 ho
     have q:=o3 g hg x g1 (g2.trans ho2.symm) g3
     rcases newer_nt hx o with h' | h'
     · rw [q] at h';cases h'
     · rw [ho3] at h';cases h'
   ·
     obtain ⟨y,hy,⟨y1,y2,y3⟩,ym⟩:=newest_of (fun y=>(∃ g∈G,g.dot=y.dot/\g.act = .put y)/\y.topic=c.topic/\hasB b.seen y.dot=true) (G.filterMap fun g=>match g.act with | .put y=>some y | _=>none)
      ⟨x,List.mem_filterMap.2 ⟨g,hg,by rw [g1]⟩,⟨g,hg,(hG.put g hg x g1).1.symm,g1⟩,g2,g3⟩
     refine hn y ((hb.ce y).2 ⟨y1,y3,fun k hk z z1 z2 z3=>?_⟩) y2
     exact ym z (List.mem_filterMap.2 ⟨k,hk,by rw [z1]⟩) ⟨⟨k,hk,(hG.put k hk z z1).1.symm,z1⟩,z2.trans y2,z3⟩
theorem Joined.can (hG:Hist G) (ha:Can G a) (hb:Can G b) (h:Joined a b t):Can G t:=by
 have hh':∀ d,hasB t.seen d=(hasB b.seen d||hasB a.seen d):=fun d=>by rw [h.has,Bool.or_comm]
 have hf':∀ n e,fencedL t.fences n e=(fencedL b.fences n e||fencedL a.fences n e):=fun n e=>by rw [h.fen,Bool.or_comm]
 have hro:∀ r,r∈t.routes↔Live G t.seen t.fences r:=fun r=>by
  rw [h.ro]
  constructor
  · rintro ⟨h0,⟨h1,h2⟩ | ⟨h1,h2⟩⟩
    · exact live_back hG ha hb h.has h0 h1 h2
    · exact live_back hG hb ha hh' h0 h1 h2
  · intro hl
    refine ⟨hl.2.2.1,?_⟩
    have:=hl.2.1
    rw [h.has,Bool.or_eq_true] at this
    rcases this with h1 | h1
    · exact .inl (live_half hG ha hb h.has h.fen hl h1)
    · exact .inr (live_half hG hb ha hh' hf' hl h1)
 have hce:∀ c,c∈t.cells↔Newest G t.seen c:=fun c=>by
  rw [h.ce]
  constructor
  · rintro (⟨h1,h2⟩ | ⟨h1,h2⟩)
    · exact new_back hG ha hb h.has h1 h2
    · exact new_back hG hb ha hh' h1 h2
  · intro hl
    have:=hl.2.1
    rw [h.has,Bool.or_eq_true] at this
    rcases this with h1 | h1
    · exact .inl (new_half hG ha hb h.has hl h1)
    · exact .inr (new_half hG hb ha hh' hl h1)
 refine ⟨tr_of hG h.seen h.fences h.rsort h.csort (fun r hr=>(hro r).1 hr) (fun c hc=>(hce c).1 hc),fun d hd=>?_,hro,hce⟩
 rw [h.has,Bool.or_eq_true] at hd
 rcases hd with hd | hd
 · exact ha.known d hd
 · exact hb.known d hd
end
theorem insR_sorted {ro:List TRoute} (h:ro.Pairwise fun a b=>rbefore a b=true) {r:TRoute} (hr:r ∉ ro):(insR ro r).Pairwise fun a b=>rbefore a b=true:=by
 refine (ins_pw (R:=rbefore) rbefore_trans h (fun x hx hb=>?_) (p:=placeR ro r) rfl).2.1
 cases hb':rbefore r x with
 | true=>rfl
 | false=>exact absurd (rbefore_tri hb hb'▸hx) hr
theorem without_lt {ro:List TRoute} {n e:Int} {f:Str}:(withoutR ro n e f).length<ro.length↔∃ o∈ro,ownB o n e f=true:=by
 unfold withoutR
 induction ro with
 | nil=>simp
 | cons o ro ih =>
  by_cases ho:ownB o n e f=true
  · rw [List.filter_cons_of_neg (by rw [ho];simp)]
    have:=List.length_filter_le (fun r=>!ownB r n e f) ro
    simp only [List.length_cons]
    exact ⟨fun _=>⟨o,List.mem_cons_self ..,ho⟩,fun _=>by omega⟩
  · have ho:ownB o n e f=false:=by simpa using ho
    rw [List.filter_cons_of_pos (by rw [ho];rfl)]
    simp only [List.length_cons]
    rw [show ∀ x y:Nat,x+1<y+1↔x<y from fun x y=>by omega,ih]
    constructor
    · rintro ⟨x,hx,h⟩;exact ⟨x,List.mem_cons_of_mem _ hx,h⟩
    · rintro ⟨x,hx,h⟩
      rcases List.mem_cons.1 hx with rfl | hx
      · rw [ho] at h;cases h
      · exact ⟨x,hx,h⟩
theorem own_self (r:TRoute):ownB r r.dot.node r.dot.epoch r.filter=true:=own_iff.2 ⟨rfl,rfl,rfl⟩
theorem mergeRo_is:∀ (l ro:List TRoute),(ro.Pairwise fun a b=>rbefore a b=true)->(∀ x∈l,∀ y∈ro++l,ownB y x.dot.node x.dot.epoch x.filter=true->y=x)->((mergeRo ro l).Pairwise fun a b=>rbefore a b=true)/\∀ x,x∈mergeRo ro l↔x∈ro\/x∈l
 | [],ro,h,_=>⟨h,fun x=>by simp [mergeRo]⟩
 | r::l,ro,h,hk=>by
  have e:mergeRo ro (r::l)=mergeRo (roStep ro r) l:=rfl
  rw [e]
  unfold roStep
  by_cases hc:(withoutR ro r.dot.node r.dot.epoch r.filter).length<ro.length
  · rw [if_pos hc]
    obtain ⟨o,ho,ho2⟩:=without_lt.1 hc
    have e1:=hk r (List.mem_cons_self ..) o (List.mem_append_left _ ho) ho2
    subst e1
    obtain ⟨i1,i2⟩:=mergeRo_is l ro h fun x hx y hy=>hk x (List.mem_cons_of_mem _ hx) y (by
     rcases List.mem_append.1 hy with hy | hy
     · exact List.mem_append_left _ hy
     · exact List.mem_append_right _ (List.mem_cons_of_mem _ hy))
    refine ⟨i1,fun x=>?_⟩
    rw [i2,List.mem_cons]
    constructor
    · rintro (h | h)
      · exact .inl h
      · exact .inr (.inr h)
    · rintro (h | rfl | h)
      · exact .inl h
      · exact .inl ho
      · exact .inr h
  · rw [if_neg hc]
    have hr:r ∉ ro:=fun hr=>hc (without_lt.2 ⟨r,hr,own_self r⟩)
    obtain ⟨i1,i2⟩:=mergeRo_is l (insR ro r) (insR_sorted h hr) fun x hx y hy=>hk x (List.mem_cons_of_mem _ hx) y (by
     rcases List.mem_append.1 hy with hy | hy
     · rcases mem_insR.1 hy with rfl | hy
       · exact List.mem_append_right _ (List.mem_cons_self ..)
       · exact List.mem_append_left _ hy
     · exact List.mem_append_right _ (List.mem_cons_of_mem _ hy))
    refine ⟨i1,fun x=>?_⟩
    rw [i2,mem_insR,List.mem_cons]
    constructor
    · rintro ((h | h) | h)
      · exact .inr (.inl h)
      · exact .inl h
      · exact .inr (.inr h)
    · rintro (h | h | h)
      · exact .inl (.inr h)
      · exact .inl (.inl h)
      · exact .inr h
theorem cellIn_fresh {ce:List TCell} (hs:ce.Pairwise (fun a b=>Op.bytesLess a.topic b.topic=true)) {c:TCell} (hc:∀ x∈ce,x.topic≠c.topic):(cellInM ce c).Pairwise (fun a b=>Op.bytesLess a.topic b.topic=true)/\∀ x,x∈cellInM ce c↔x=c\/x∈ce:=by
 have hno:¬ (placeC ce c.topic<ce.length/\(ce.getD (placeC ce c.topic) default).topic=c.topic):=fun h=>hc _ (getD_mem h.1) h.2
 have e:cellInM ce c=ce.take (placeC ce c.topic)++c::ce.drop (placeC ce c.topic):=by rw [cellInM,if_neg hno]
 have hi:=ins_pw (R:=fun a b:TCell=>Op.bytesLess a.topic b.topic) (fun a b c=>bl_trans _ _ _) hs (d:=c) (fun x hx hb=>by
  cases hb':Op.bytesLess c.topic x.topic with
  | true=>rfl
  | false=>exact absurd (bl_tri _ _ hb hb') (hc x hx)) (p:=placeC ce c.topic) rfl
 refine ⟨by rw [e];exact hi.2.1,fun x=>?_⟩
 rw [e,(ins_perm ce _ c).mem_iff,List.mem_cons]
theorem mergeCe_is:∀ (l ce:List TCell),(ce.Pairwise fun a b=>Op.bytesLess a.topic b.topic=true)->(∀ x∈l,∀ y∈ce++l,y.topic=x.topic->y=x)->((mergeCe ce l).Pairwise fun a b=>Op.bytesLess a.topic b.topic=true)/\∀ x,x∈mergeCe ce l↔x∈ce\/x∈l
 | [],ce,h,_=>⟨h,fun x=>by simp [mergeCe]⟩
 | r::l,ce,h,hk=>by
  have e:mergeCe ce (r::l)=mergeCe (ceStep ce r) l:=rfl
  rw [e]
  unfold ceStep
  by_cases hc:(ce.any fun o=>o.topic==r.topic)=true
  · rw [if_pos hc]
    obtain ⟨o,ho,ho2⟩:=List.any_eq_true.1 hc
    have e1:=hk r (List.mem_cons_self ..) o (List.mem_append_left _ ho) (by simpa using ho2)
    subst e1
    obtain ⟨i1,i2⟩:=mergeCe_is l ce h fun x hx y hy=>hk x (List.mem_cons_of_mem _ hx) y (by
     rcases List.mem_append.1 hy with hy | hy
     · exact List.mem_append_left _ hy
     · exact List.mem_append_right _ (List.mem_cons_of_mem _ hy))
    refine ⟨i1,fun x=>?_⟩
    rw [i2,List.mem_cons]
    constructor
    · rintro (h | h)
      · exact .inl h
      · exact .inr (.inr h)
    · rintro (h | rfl | h)
      · exact .inl h
      · exact .inl ho
      · exact .inr h
  · rw [if_neg hc]
    have hr:∀ x∈ce,x.topic≠r.topic:=fun x hx he=>hc (List.any_eq_true.2 ⟨x,hx,by simpa using he⟩)
    obtain ⟨f1,f2⟩:=cellIn_fresh h hr
    obtain ⟨i1,i2⟩:=mergeCe_is l (cellInM ce r) f1 fun x hx y hy=>hk x (List.mem_cons_of_mem _ hx) y (by
     rcases List.mem_append.1 hy with hy | hy
     · rcases (f2 y).1 hy with rfl | hy
       · exact List.mem_append_right _ (List.mem_cons_self ..)
       · exact List.mem_append_left _ hy
     · exact List.mem_append_right _ (List.mem_cons_of_mem _ hy))
    refine ⟨i1,fun x=>?_⟩
    rw [i2,f2,List.mem_cons]
    constructor
    · rintro ((h | h) | h)
      · exact .inr (.inl h)
      · exact .inl h
      · exact .inr (.inr h)
    · rintro (h | h | h)
      · exact .inl (.inr h)
      · exact .inl (.inl h)
      · exact .inr h
theorem lines_one {l:List TRoute} (h:l.Pairwise lineNe) {x y:TRoute} (hx:x∈l) (hy:y∈l) (ho:ownB y x.dot.node x.dot.epoch x.filter=true):y=x:=by
 have o:=own_iff.1 ho
 rcases pw_either h hx hy with h | h | h
 · exact h.symm
 · exact absurd ⟨o.1.symm,o.2.1.symm,o.2.2.symm⟩ h
 · exact absurd o h
theorem topics_one {l:List TCell} (h:l.Pairwise fun a b=>Op.bytesLess a.topic b.topic=true) {x y:TCell} (hx:x∈l) (hy:y∈l) (ho:y.topic=x.topic):y=x:=by
 rcases pw_either h hx hy with h | h | h
 · exact h.symm
 · rw [ho,bl_irrefl] at h;cases h
 · rw [ho,bl_irrefl] at h;cases h
theorem mem_stays {ro1 ro2:List TRoute} {se:List TDot} {x:TRoute}:x∈staysM ro1 se ro2↔x∈ro1/\keepR se ro2 x=true:=by unfold staysM;rw [List.mem_filter]
theorem mem_keeps {ce1 ce2:List TCell} {se:List TDot} {x:TCell}:x∈keepsM ce1 se ce2↔x∈ce1/\keepC se ce2 x=true:=by unfold keepsM;rw [List.mem_filter]
theorem stays_one {a b:TTable} (ha:TR a) (hb:TR b) {x y:TRoute} (hx:x∈staysM b.routes a.seen a.routes) (hy:y∈staysM a.routes b.seen b.routes) (ho:ownB y x.dot.node x.dot.epoch x.filter=true):y=x:=by
 rw [mem_stays] at hx hy
 have o:=own_iff.1 ho
 have ho':ownB x y.dot.node y.dot.epoch y.filter=true:=own_iff.2 ⟨o.1.symm,o.2.1.symm,o.2.2.symm⟩
 have h1:y.dot.n<=x.dot.n:=by
  rcases (keepR_iff ha.rone).1 hx.2 with ⟨z,hz,hz2,hz3⟩ | ⟨hn,_⟩
  · have oz:=own_iff.1 hz2
    have:z=y:=lines_one ha.rone hy.1 hz (own_iff.2 ⟨oz.1.trans o.1.symm,oz.2.1.trans o.2.1.symm,oz.2.2.trans o.2.2.symm⟩)
    rw [<-this];exact hz3
  · rw [hn y hy.1] at ho;cases ho
 have h2:x.dot.n<=y.dot.n:=by
  rcases (keepR_iff hb.rone).1 hy.2 with ⟨z,hz,hz2,hz3⟩ | ⟨hn,_⟩
  · have oz:=own_iff.1 hz2
    have:z=x:=lines_one hb.rone hx.1 hz (own_iff.2 ⟨oz.1.trans o.1,oz.2.1.trans o.2.1,oz.2.2.trans o.2.2⟩)
    rw [<-this];exact hz3
  · rw [hn x hx.1] at ho';cases ho'
 obtain ⟨⟨x1,x2,x3⟩,xf⟩:=x;obtain ⟨⟨y1,y2,y3⟩,yf⟩:=y
 simp only [TRoute.mk.injEq,TDot.mk.injEq] at *
 exact ⟨⟨o.1,o.2.1,by omega⟩,o.2.2⟩
section
variable {G:List TG} {a b:TTable}
theorem keeps_one (hG:Hist G) (ha:Can G a) (hb:Can G b) {x y:TCell} (hx:x∈keepsM b.cells a.seen a.cells) (hy:y∈keepsM a.cells b.seen b.cells) (ho:y.topic=x.topic):y=x:=by
 rw [mem_keeps] at hx hy
 refine hG.cells ((ha.ce y).1 hy.1).1 ((hb.ce x).1 hx.1).1 (newer_tri ?_ ?_)
 · rcases (keepC_iff ha.tr.csort).1 hx.2 with ⟨z,hz,hz2,hz3⟩ | ⟨hn,_⟩
   · have:z=y:=topics_one ha.tr.csort hy.1 hz (hz2.trans ho.symm)
     rw [<-this];exact hz3
   · exact absurd ho (hn y hy.1)
 · rcases (keepC_iff hb.tr.csort).1 hy.2 with ⟨z,hz,hz2,hz3⟩ | ⟨hn,_⟩
   · have:z=x:=topics_one hb.tr.csort hx.1 hz (hz2.trans ho)
     rw [<-this];exact hz3
   · exact absurd ho.symm (hn x hx.1)
theorem merge2_joined (hG:Hist G) (ha:Can G a) (hb:Can G b):Joined a b (merge2 a b):=by
 obtain ⟨f1,f2,_,f4⟩:=mergeFe_facts b.fences (merge0 a b)
 obtain ⟨m1,m2,m3⟩:=mergeFe_is b.fences (merge0 a b) ha.tr.fences hb.tr.fences.2
 obtain ⟨r1,r2⟩:=mergeRo_is (staysM b.routes a.seen a.routes) (staysM a.routes b.seen b.routes) (ha.tr.rsort.sublist List.filter_sublist) fun x hx y hy ho=>by
  rcases List.mem_append.1 hy with hy | hy
  · exact stays_one ha.tr hb.tr hx hy ho
  · exact lines_one hb.tr.rone (mem_stays.1 hx).1 (mem_stays.1 hy).1 ho
 obtain ⟨c1,c2⟩:=mergeCe_is (keepsM b.cells a.seen a.cells) (keepsM a.cells b.seen b.cells) (ha.tr.csort.sublist List.filter_sublist) fun x hx y hy ho=>by
  rcases List.mem_append.1 hy with hy | hy
  · exact keeps_one hG ha hb hx hy ho
  · exact topics_one hb.tr.csort (mem_keeps.1 hx).1 (mem_keeps.1 hy).1 ho
 have es:(merge2 a b).seen=joinM a.seen b.seen:=f1
 have ec:(merge2 a b).cells=mergeCe (keepsM a.cells b.seen b.cells) (keepsM b.cells a.seen a.cells):=f2
 refine ⟨by rw [es];exact (join_right ha.tr.seen hb.tr.seen).1,fun d=>by rw [es];exact has_join ha.tr.seen hb.tr.seen d,m1,m2,?_,by rw [ec];exact c1,fun r=>?_,fun c=>?_⟩
 · exact (List.Pairwise.sublist f4 r1).sublist List.filter_sublist
 · show r∈unfR _ _↔_
   rw [mem_unfR]
   constructor
   · rintro ⟨h1,h2⟩
     refine ⟨h2,?_⟩
     have:=(r2 r).1 (f4.subset h1)
     rw [mem_stays,mem_stays] at this
     exact this
   · rintro ⟨h1,h2⟩
     refine ⟨m3 r ((r2 r).2 (by rw [mem_stays,mem_stays];exact h2)) h1,h1⟩
 · rw [ec,c2,mem_keeps,mem_keeps]
theorem mergeM_is (hG:Hist G) (ha:Can G a) (hb:Can G b):mergeM a b=merge2 a b/\Joined a b (mergeM a b)/\Can G (mergeM a b):=by
 have hj:=merge2_joined hG ha hb
 have hc:=hj.can hG ha hb
 have e:mergeM a b=merge2 a b:=by unfold mergeM;rw [if_pos (tr_iff.2 ha.tr),if_pos (tr_iff.2 hb.tr),if_pos (tr_iff.2 hc.tr)]
 rw [e]
 exact ⟨rfl,hj,hc⟩
end
end
section
attribute [local irreducible] DW SeqD DV DOp DC DVX
theorem byteOf_map (p:List UInt8):(List.map u8 p).map byteOf=p:=bytes_back p
theorem isU8_map (p:List UInt8):(List.map u8 p).all isU8=true:=bytes_are p
section
attribute [local push_cast 2000] byteOf_map isU8_map
theorem eqb_dc (a b:List UInt8) (F:Own):(True)->DC Tryz.prog 90 [.sl (a.map u8), .sl (b.map u8)] (([]:Own)++F) fun d G=>d = .bool (a==b)/\G=[]++F:=by
 intro hA
 refine DC.bodyS (n_:=10) (show Tryz.prog.funcs[90]? = some Tryz.f90 by kernel_rfl) rfl rfl (by rfl) ?_
 simp only [env0,List.cons_append,List.nil_append]
 have kw:=ksIs [0,1,4]
 have ow:=ownIs []
 repeat' (first
  | refine g_ ?_
  | ((with_reducible refine And.intro ?_ ?_);(exact sv))
  | (refine DW.cond (by rfl) ?_ ?_<;>(first | exact i0_ | (refine ic_ ?_;intro hb)))
  | ((with_reducible refine FVg_cases ?_ ?_)<;>(intro hb;rw [hb];revert hb;(first | exact i0_ | (refine i_ ?_;intro hb))))
  | refine r_ ?_
  | refine k_ ?_
  | refine o_ ?_
  | refine f_ ?_
  | with_reducible intro b)
 (first | exact fin_ | refine finq_ ?_)
 all_goals rfl
end
section
attribute [local push_cast 2000] u8
end
end
section
section
variable {P:Program} {ops:List Oper} {mv mk:List Nat} {val:Nat->Oper->(Operand->V)->V} {side:Nat->Oper->(Operand->V)->Prop} {K:(Nat->V)->Own->Prop} {n:Nat} {Rk:Nat->V->Own->Prop}
def RVM (P:Program) (ops:List Oper) (mv mk:List Nat) (Rk:Nat->V->Own->Prop) (val:Nat->Oper->(Operand->V)->V) (side:Nat->Oper->(Operand->V)->Prop) (K:(Nat->V)->Own->Prop) (L:Nat->Bool) (md:Nat->Own):List Nat->(Nat->V)->Own->Prop
 | [],F,H=>K F H
 | k::s,F,H =>
  if L k=true then RVM P ops mv mk Rk val side K L md s F (md k++H)
  else match ops[k]? with
   | none=>False
   | some o=>match gst ops o F with
    | some true =>
     if mv.contains k=true then ∀ X:Own,DOp P o (opdF F) (H++X) fun d H'=>∃ H1:Own,H'.Perm (H1++X)/\RVM P ops mv mk Rk val side K L md s (putF F o.dst d) H1
     else if mk.contains k=true then side k o (opdF F)/\∀ d N,Rk k d N->RVM P ops mv mk Rk val side K L md s (putF F o.dst d) (N++H)
     else side k o (opdF F)/\RVM P ops mv mk Rk val side K L md s (putF F o.dst (val k o (opdF F))) H
    | some false=>RVM P ops mv mk Rk val side K L md s (putF F o.dst (.tup [])) H
    | none=>False
theorem RVM.congrL {L L':Nat->Bool} {md md':Nat->Own}:∀ (s:List Nat) (F:Nat->V) (H:Own),(∀ j,j∈s->L j=L' j/\md j=md' j)->RVM P ops mv mk Rk val side K L md s F H->RVM P ops mv mk Rk val side K L' md' s F H
 | [],_,_,_,h=>h
 | k::s,F,H,he,h=>by
  have ih:=fun F H=>RVM.congrL s F H fun j hj=>he j (List.mem_cons_of_mem _ hj)
  unfold RVM at h ⊢
  obtain ⟨e1,e2⟩:=he k List.mem_cons_self
  rw [<-e1,<-e2]
  split
  · rename_i hl;rw [if_pos hl] at h;exact ih _ _ h
  · rename_i hl
    rw [if_neg hl] at h
    cases ho:ops[k]? with
    | none=>rw [ho] at h;exact h
    | some o =>
     rw [ho] at h
     simp only at h ⊢
     cases hg:gst ops o F with
     | none=>rw [hg] at h;exact h.elim
     | some b =>
      rw [hg] at h
      cases b with
      | false=>exact ih _ _ h
      | true =>
       simp only at h ⊢
       split
       · rename_i hm;rw [if_pos hm] at h;exact fun X=>(h X).mono fun d H' ⟨H1,hp,h⟩=>⟨H1,hp,ih _ _ h⟩
       · rename_i hm
         rw [if_neg hm] at h
         split
         · rename_i hk;rw [if_pos hk] at h;exact ⟨h.1,fun d N hR=>ih _ _ (h.2 d N hR)⟩
         · rename_i hk;rw [if_neg hk] at h;exact ⟨h.1,ih _ _ h.2⟩
theorem perm_mid (A B C D:Own):(A++B++C++D).Perm (B++(A++C)++D):=by
 rw [<-List.append_assoc B]
 exact (List.perm_append_comm.append_right _).append_right _
theorem perm_back (A B C:Own):(A++B++C).Perm (B++(A++C)):=by
 rw [List.append_assoc]
 exact List.perm_append_comm_assoc _ _ _
variable (hval:∀ k o f f',(∀ x,x∈o.op.operands->f x=f' x)->val k o f=val k o f'/\(side k o f->side k o f'))
include hval
theorem RVM.pull {L:Nat->Bool} {md:Nat->Own} {j:Nat} {oj:Oper} (hoj:ops[j]? = some oj) (hj:L j=false) (hmd:md j=[]) :
  ∀ (s1 s2:List Nat) (F:Nat->V) (H:Own) (d:V),(∀ i oi,i∈s1->ops[i]? = some oi->L i=false->Free ops oi oj)->j ∉ s1->j ∉ s2 ->
   (gst ops oj F=some false->d = .tup [])->(gst ops oj F=some true->mv.contains j=false/\mk.contains j=false/\d=val j oj (opdF F)) ->
   RVM P ops mv mk Rk val side K L md (s1++j::s2) F H->RVM P ops mv mk Rk val side K (fun i=>L i||i==j) md (s1++j::s2) (putF F oj.dst d) H
 | [],s2,F,H,d,_,_,hj2,hd0,hd1,h=>by
  simp only [List.nil_append] at h ⊢
  unfold RVM at h ⊢
  rw [if_pos (by simp),hmd,List.nil_append]
  rw [if_neg (by simp [hj]),hoj] at h
  simp only at h
  have hc:∀ {F H},RVM P ops mv mk Rk val side K L md s2 F H->RVM P ops mv mk Rk val side K (fun i=>L i||i==j) md s2 F H:=fun {F H} h =>
   RVM.congrL s2 _ _ (fun i hi=>⟨by have:i≠j:=fun e=>hj2 (e▸hi);simp [this],rfl⟩) h
  cases hg:gst ops oj F with
  | none=>rw [hg] at h;exact h.elim
  | some b =>
   rw [hg] at h
   cases b with
   | false=>rw [hd0 hg];exact hc h
   | true =>
    obtain ⟨hm,hk,hd⟩:=hd1 hg
    simp only [hm,hk,Bool.false_eq_true,if_false] at h
    rw [hd]
    exact hc h.2
 | k::s1,s2,F,H,d,hun,hj1,hj2,hd0,hd1,h=>by
  simp only [List.cons_append] at h ⊢
  have hkj:k≠j:=fun e=>hj1 (e▸List.mem_cons_self)
  have hneq:(k==j)=false:=by simpa using hkj
  have hun':∀ i oi,i∈s1->ops[i]? = some oi->L i=false->Free ops oi oj:=fun i oi hi=>hun i oi (List.mem_cons_of_mem _ hi)
  have hj1':j ∉ s1:=fun hi=>hj1 (List.mem_cons_of_mem _ hi)
  unfold RVM at h ⊢
  simp only [hneq,Bool.or_false]
  by_cases hlk:L k=true
  · rw [if_pos hlk] at h ⊢
    exact RVM.pull hoj hj hmd s1 s2 F _ d hun' hj1' hj2 hd0 hd1 h
  · rw [if_neg hlk] at h ⊢
    cases ho:ops[k]? with
    | none=>rw [ho] at h;exact h
    | some o =>
     rw [ho] at h
     simp only at h ⊢
     have fr:=hun k o List.mem_cons_self ho (by simpa using hlk)
     rw [fr.gst2]
     have ih:=fun F' H' (e1:gst ops oj F'=gst ops oj F) (e2:val j oj (opdF F')=val j oj (opdF F))=>RVM.pull hoj hj hmd s1 s2 F' H' d hun' hj1' hj2 (fun h=>hd0 (e1▸h)) (fun h=>by rw [e2];exact hd1 (e1▸h))
     cases hg:gst ops o F with
     | none=>rw [hg] at h;exact h.elim
     | some b =>
      rw [hg] at h
      cases b with
      | false =>
       simp only at h ⊢
       rw [<-fr.put]
       exact ih _ _ (fr.gst1 _ _) (fr.val1 hval _ _ _) h
      | true =>
       simp only at h ⊢
       split
       · rename_i hm
         rw [if_pos hm] at h
         refine fun X=>((h X).congr fun x hx=>(fr.ops2 F d x hx).symm).mono fun d' H' ⟨H1,hp,h⟩=>⟨H1,hp,?_⟩
         rw [<-fr.put]
         exact ih _ _ (fr.gst1 _ _) (fr.val1 hval _ _ _) h
       · rename_i hm
         rw [if_neg hm] at h
         split
         · rename_i hk
           rw [if_pos hk] at h
           refine ⟨fr.side2 hval _ _ _ h.1,fun d' N hR=>?_⟩
           rw [<-fr.put]
           exact ih _ _ (fr.gst1 _ _) (fr.val1 hval _ _ _) (h.2 d' N hR)
         · rename_i hk
           rw [if_neg hk] at h
           refine ⟨fr.side2 hval _ _ _ h.1,?_⟩
           rw [fr.val2 hval k,<-fr.put]
           exact ih _ _ (fr.gst1 _ _) (fr.val1 hval _ _ _) h.2
theorem RVM.pullK {L:Nat->Bool} {md:Nat->Own} {j:Nat} {oj:Oper} (hoj:ops[j]? = some oj) (hj:L j=false) (hm:mv.contains j=false) (hk:mk.contains j=true) {d:V} {N:Own} (hR:Rk j d N) :
  ∀ (s1 s2:List Nat) (F:Nat->V) (H:Own),(∀ i oi,i∈s1->ops[i]? = some oi->L i=false->Free ops oi oj)->j ∉ s1->j ∉ s2->gst ops oj F=some true ->
   RVM P ops mv mk Rk val side K L md (s1++j::s2) F H->RVM P ops mv mk Rk val side K (fun i=>L i||i==j) (fun i=>if i=j then N else md i) (s1++j::s2) (putF F oj.dst d) H
 | [],s2,F,H,_,_,hj2,hgj,h=>by
  simp only [List.nil_append] at h ⊢
  unfold RVM at h ⊢
  rw [if_pos (by simp)]
  rw [if_neg (by simp [hj]),hoj] at h
  simp only [hgj,hm,hk,Bool.false_eq_true,if_false,if_true] at h ⊢
  exact RVM.congrL s2 _ _ (fun i hi=>by have:i≠j:=fun e=>hj2 (e▸hi);simp [this]) (h.2 d N hR)
 | k::s1,s2,F,H,hun,hj1,hj2,hgj,h=>by
  simp only [List.cons_append] at h ⊢
  have hkj:k≠j:=fun e=>hj1 (e▸List.mem_cons_self)
  have hneq:(k==j)=false:=by simpa using hkj
  have hun':∀ i oi,i∈s1->ops[i]? = some oi->L i=false->Free ops oi oj:=fun i oi hi=>hun i oi (List.mem_cons_of_mem _ hi)
  have hj1':j ∉ s1:=fun hi=>hj1 (List.mem_cons_of_mem _ hi)
  unfold RVM at h ⊢
  simp only [hneq,Bool.or_false,if_neg hkj]
  by_cases hlk:L k=true
  · rw [if_pos hlk] at h ⊢
    exact RVM.pullK hoj hj hm hk hR s1 s2 F _ hun' hj1' hj2 hgj h
  · rw [if_neg hlk] at h ⊢
    cases ho:ops[k]? with
    | none=>rw [ho] at h;exact h
    | some o =>
     rw [ho] at h
     simp only at h ⊢
     have fr:=hun k o List.mem_cons_self ho (by simpa using hlk)
     rw [fr.gst2]
     have ih:=fun F' H' (e1:gst ops oj F'=gst ops oj F)=>RVM.pullK (md:=md) hoj hj hm hk hR s1 s2 F' H' hun' hj1' hj2 (e1▸hgj)
     cases hg:gst ops o F with
     | none=>rw [hg] at h;exact h.elim
     | some b =>
      rw [hg] at h
      cases b with
      | false =>
       simp only at h ⊢
       rw [<-fr.put]
       exact ih _ _ (fr.gst1 _ _) h
      | true =>
       simp only at h ⊢
       split
       · rename_i hm
         rw [if_pos hm] at h
         refine fun X=>((h X).congr fun x hx=>(fr.ops2 F d x hx).symm).mono fun d' H' ⟨H1,hp,h⟩=>⟨H1,hp,?_⟩
         rw [<-fr.put]
         exact ih _ _ (fr.gst1 _ _) h
       · rename_i hm
         rw [if_neg hm] at h
         split
         · rename_i hk
           rw [if_pos hk] at h
           refine ⟨fr.side2 hval _ _ _ h.1,fun d' N' hR'=>?_⟩
           rw [<-fr.put]
           exact ih _ _ (fr.gst1 _ _) (h.2 d' N' hR')
         · rename_i hk
           rw [if_neg hk] at h
           refine ⟨fr.side2 hval _ _ _ h.1,?_⟩
           rw [fr.val2 hval k,<-fr.put]
           exact ih _ _ (fr.gst1 _ _) h.2
omit hval in
theorem exr_perm {s:List Nat} (md:Nat->Own):∀ H:Own,(s.foldl (fun H k=>md k++H) H).Perm (s.flatMap md++H):=by
 induction s with
 | nil=>intro H;exact List.Perm.refl _
 | cons k s ih =>
  intro H
  rw [List.foldl_cons,List.flatMap_cons]
  refine (ih _).trans ?_
  rw [<-List.append_assoc]
  exact (List.perm_append_comm).append_right _
theorem RVM.pullM {L:Nat->Bool} {md:Nat->Own} {j:Nat} {oj:Oper} (hoj:ops[j]? = some oj) (hj:L j=false) (hm:mv.contains j=true) (hmu:∀ i,L i=false->md i=[]) :
  ∀ (s1 s2:List Nat) (F:Nat->V) (H:Own),(∀ i oi,i∈s1->ops[i]? = some oi->L i=false->Free ops oi oj/\mv.contains i=false/\mk.contains i=false)->j ∉ s1->j ∉ s2->(∀ i,i∈s1->i ∉ s2)->gst ops oj F=some true ->
   RVM P ops mv mk Rk val side K L md (s1++j::s2) F H->∀ X:Own,DOp P oj (opdF F) (s1.flatMap md++H++X) fun d H'=>∃ H1:Own,H'.Perm (H1++X)/\RVM P ops mv mk Rk val side K (fun i=>L i||i==j) (fun i=>if (s1++[j]).contains i=true then [] else md i) (s1++j::s2) (putF F oj.dst d) H1:=by
 have key:∀ (Z s1 s2:List Nat) (F:Nat->V) (H:Own),(∀ i,i∈s1->i∈Z)->(∀ i,i∈s2->i ∉ Z)->(∀ i oi,i∈s1->ops[i]? = some oi->L i=false->Free ops oi oj/\mv.contains i=false/\mk.contains i=false)->j ∉ s1->j ∉ s2->gst ops oj F=some true ->
   RVM P ops mv mk Rk val side K L md (s1++j::s2) F H->∀ X:Own,DOp P oj (opdF F) (s1.foldl (fun H k=>md k++H) H++X) fun d H'=>∃ H1:Own,H'.Perm (H1++X)/\RVM P ops mv mk Rk val side K (fun i=>L i||i==j) (fun i=>if (Z++[j]).contains i=true then [] else md i) (s1++j::s2) (putF F oj.dst d) H1:=by
  intro Z s1
  induction s1 with
  | nil =>
   intro s2 F H _ hz _ _ hj2 hgj h X
   simp only [List.nil_append,List.foldl_nil] at h ⊢
   unfold RVM at h
   rw [if_neg (by simp [hj]),hoj] at h
   simp only [hgj,hm,if_true] at h
   refine (h X).mono fun d H' ⟨H1,hp,h⟩=>⟨H1,hp,?_⟩
   unfold RVM
   rw [if_pos (by simp),if_pos (by simp),List.nil_append]
   refine RVM.congrL s2 _ _ (fun i hi=>?_) h
   have h1:i≠j:=fun e=>hj2 (e▸hi)
   have h2:=hz i hi
   simp [h1,h2]
  | cons k s1 ih =>
   intro s2 F H hin hz hun hj1 hj2 hgj h X
   simp only [List.cons_append,List.foldl_cons] at h ⊢
   have hkj:k≠j:=fun e=>hj1 (e▸List.mem_cons_self)
   have hneq:(k==j)=false:=by simpa using hkj
   have hun':∀ i oi,i∈s1->ops[i]? = some oi->L i=false->Free ops oi oj/\mv.contains i=false/\mk.contains i=false:=fun i oi hi=>hun i oi (List.mem_cons_of_mem _ hi)
   have hj1':j ∉ s1:=fun hi=>hj1 (List.mem_cons_of_mem _ hi)
   have hin':∀ i,i∈s1->i∈Z:=fun i hi=>hin i (List.mem_cons_of_mem _ hi)
   have hkz:((Z++[j]).contains k)=true:=by simp [hin k List.mem_cons_self]
   unfold RVM at h
   by_cases hlk:L k=true
   · rw [if_pos hlk] at h
     refine (ih s2 F _ hin' hz hun' hj1' hj2 hgj h X).mono fun d H' ⟨H1,hp,h⟩=>⟨H1,hp,?_⟩
     unfold RVM
     rw [if_pos (by simp [hlk]),if_pos hkz,List.nil_append]
     exact h
   · rw [if_neg hlk] at h
     have hmk0:=hmu k (by simpa using hlk)
     rw [hmk0,List.nil_append]
     cases ho:ops[k]? with
     | none=>rw [ho] at h;exact h.elim
     | some o =>
      rw [ho] at h
      simp only at h
      obtain ⟨fr,hmv,hmk⟩:=hun k o List.mem_cons_self ho (by simpa using hlk)
      have low:∀ {d d' H1},gst ops o F=some false->RVM P ops mv mk Rk val side K (fun i=>L i||i==j) (fun i=>if (Z++[j]).contains i=true then [] else md i) (s1++j::s2) (putF (putF F o.dst d') oj.dst d) H1->d' = .tup []->RVM P ops mv mk Rk val side K (fun i=>L i||i==j) (fun i=>if (Z++[j]).contains i=true then [] else md i) (k::(s1++j::s2)) (putF F oj.dst d) H1:=fun {d d' H1} hg h e=>by
       subst e
       unfold RVM
       rw [if_neg (by simp [hlk,hneq]),ho]
       simp only
       rw [fr.gst2,hg]
       simp only
       rw [<-fr.put]
       exact h
      cases hg:gst ops o F with
      | none=>rw [hg] at h;exact h.elim
      | some b =>
       rw [hg] at h
       cases b with
       | false =>
        simp only at h
        exact ((ih s2 _ H hin' hz hun' hj1' hj2 (by rw [fr.gst1];exact hgj) h X).congr fun x hx=>fr.ops1 F _ x hx).mono fun d H' ⟨H1,hp,h⟩=>⟨H1,hp,low hg h rfl⟩
       | true =>
        simp only [hmv,hmk,Bool.false_eq_true,if_false] at h
        refine ((ih s2 _ H hin' hz hun' hj1' hj2 (by rw [fr.gst1];exact hgj) h.2 X).congr fun x hx=>fr.ops1 F _ x hx).mono fun d H' ⟨H1,hp,h'⟩=>⟨H1,hp,?_⟩
        unfold RVM
        rw [if_neg (by simp [hlk,hneq]),ho]
        simp only
        rw [fr.gst2,hg]
        simp only [hmv,hmk,Bool.false_eq_true,if_false]
        refine ⟨fr.side2 hval _ _ _ h.1,?_⟩
        rw [fr.val2 hval k,<-fr.put]
        exact h'
 intro s1 s2 F H hun hj1 hj2 hd hgj h X
 exact DOp.perm ((exr_perm md H).symm.append_right X) (key s1 s1 s2 F H (fun _ h=>h) (fun i hi h=>hd i h hi) hun hj1 hj2 hgj h X)
variable (hfl:∀ k o,ops[k]? = some o->mv.contains k=false->∀ f H,side k o f->DOp P o f H fun d H'=>if mk.contains k=true then ∃ N,Rk k d N/\H'=N++H else d=val k o f/\H'=H) (hdst:dstB n ops=true)
include hfl hdst
theorem RVM.known {L:Nat->Bool} {md:Nat->Own} {j:Nat} {oj:Oper} (hoj:ops[j]? = some oj) (hj:L j=false) (hmu:∀ i,L i=false->md i=[]) :
  ∀ (s1 s2:List Nat) (F:Nat->V) (H X:Own) (a:Act) (w:World),(∀ i oi,i∈s1->ops[i]? = some oi->L i=false->Free ops oi oj) ->
   Sim w (s1.flatMap md++H++X)->RF n w (s1.flatMap md++H++X) a.tmps F->RVM P ops mv mk Rk val side K L md (s1++j::s2) F H->(∃ b,gst ops oj F=some b)/\(gst ops oj F=some true->mv.contains j=false->side j oj (opdF F))
 | [],s2,F,H,X,a,w,_,hs,hr,h=>by
  simp only [List.nil_append] at h
  unfold RVM at h
  rw [if_neg (by simp [hj]),hoj] at h
  simp only at h
  cases hg:gst ops oj F with
  | none=>rw [hg] at h;exact h.elim
  | some b =>
   rw [hg] at h
   refine ⟨⟨b,rfl⟩,fun hb hm=>?_⟩
   injection hb with hb
   subst hb
   simp only [hm,Bool.false_eq_true,if_false] at h
   split at h
   · exact h.1
   · exact h.1
 | k::s1,s2,F,H,X,a,w,hun,hs,hr,h=>by
  simp only [List.cons_append,List.flatMap_cons] at h hs hr
  have hun':∀ i oi,i∈s1->ops[i]? = some oi->L i=false->Free ops oi oj:=fun i oi hi=>hun i oi (List.mem_cons_of_mem _ hi)
  unfold RVM at h
  by_cases hlk:L k=true
  · rw [if_pos hlk] at h
    have hp:(md k++s1.flatMap md++H++X).Perm (s1.flatMap md++(md k++H)++X):=perm_mid _ _ _ _
    exact RVM.known hoj hj hmu s1 s2 F _ X a w hun' (hs.perm hp) (hr.perm hp) h
  · rw [if_neg hlk] at h
    rw [hmu k (by simpa using hlk),List.nil_append] at hs hr
    cases ho:ops[k]? with
    | none=>rw [ho] at h;exact h.elim
    | some o =>
     rw [ho] at h
     simp only at h
     have hdo:o.dst.all (· < n)=true:=by
      have:=List.all_eq_true.1 hdst o (List.mem_of_getElem? ho)
      simpa using this
     have fr:=hun k o List.mem_cons_self ho (by simpa using hlk)
     have back:∀ d,((∃ b,gst ops oj (putF F o.dst d)=some b)/\(gst ops oj (putF F o.dst d)=some true->mv.contains j=false->side j oj (opdF (putF F o.dst d)))) ->
       (∃ b,gst ops oj F=some b)/\(gst ops oj F=some true->mv.contains j=false->side j oj (opdF F)):=fun d ⟨x,y⟩=>by
      rw [fr.gst1] at x y
      exact ⟨x,fun h1 h2=>fr.side1 hval _ _ _ (y h1 h2)⟩
     cases hg:gst ops o F with
     | none=>rw [hg] at h;exact h.elim
     | some b =>
      rw [hg] at h
      cases b with
      | false=>exact back _ (RVM.known hoj hj hmu s1 s2 _ H X (a.put o.dst undef) w hun' hs (hr.put hdo (R.skipped _ _)) h)
      | true =>
       simp only at h
       split at h
       · rename_i hm
         have hp:(s1.flatMap md++H++X).Perm (H++(s1.flatMap md++X)):=perm_back _ _ _
         refine wp_some (P:=P) (o:=o) (a:=a) (w:=w) (h (s1.flatMap md++X) a w _ _ (hs.perm hp) (fun x _=>(hr.perm hp).opd x) fun v w' d H' s x r ⟨H1,hp',k'⟩=>?_)
         have hp2:H'.Perm (s1.flatMap md++H1++X):=hp'.trans (perm_back _ _ _).symm
         exact back _ (RVM.known hoj hj hmu s1 s2 _ H1 X _ w' hun' (s.perm hp2) (((((hr.perm hp).ext x).put hdo r)).perm hp2) k')
       · rename_i hm
         split at h
         · rename_i hk
           refine wp_some (P:=P) (o:=o) (a:=a) (w:=w) (hfl k o ho (by simpa using hm) _ (s1.flatMap md++H++X) h.1 a w _ _ hs (fun x _=>hr.opd x) fun v w' d H' s x r hd=>?_)
           simp only [hk,if_true] at hd
           obtain ⟨N,hR,hH⟩:=hd
           subst hH
           have hp:(N++(s1.flatMap md++H++X)).Perm (s1.flatMap md++(N++H)++X):=by
            rw [<-List.append_assoc,<-List.append_assoc]
            exact perm_mid _ _ _ _
           exact back _ (RVM.known hoj hj hmu s1 s2 _ _ X _ w' hun' (s.perm hp) (((hr.ext x).put hdo r).perm hp) (h.2 d N hR))
         · rename_i hk
           refine wp_some (P:=P) (o:=o) (a:=a) (w:=w) (hfl k o ho (by simpa using hm) _ (s1.flatMap md++H++X) h.1 a w _ _ hs (fun x _=>hr.opd x) fun v w' d H' s x r hd=>?_)
           simp only [hk,Bool.false_eq_true,if_false] at hd
           obtain ⟨hd,hH⟩:=hd
           subst hd
           subst hH
           exact back _ (RVM.known hoj hj hmu s1 s2 _ H X _ w' hun' s ((hr.ext x).put hdo r) h.2)
omit hval hfl hdst in
theorem RVM.done {L:Nat->Bool} {md:Nat->Own}:∀ (s:List Nat) (F:Nat->V) (H:Own),(∀ j,j∈s->L j=true)->RVM P ops mv mk Rk val side K L md s F H->K F (s.foldl (fun H k=>md k++H) H)
 | [],_,_,_,h=>h
 | k::s,F,H,hL,h=>by
  unfold RVM at h
  rw [if_pos (hL k List.mem_cons_self)] at h
  exact RVM.done s F _ (fun j hj=>hL j (List.mem_cons_of_mem _ hj)) h
structure OrdOk (ops:List Oper) (s mv mk:List Nat):Prop where
 nodup:s.Nodup
 all:∀ k,k<ops.length->k∈s
 lt:∀ k,k∈s->k<ops.length
 up:∀ s1 k s2 o,s=s1++k::s2->ops[k]? = some o->∀ e∈o.after,Region.binds .any e=true->e.on∈s1
 pair:∀ s1 j s2 i a b,s=s1++j::s2->i∈s1->ops[i]? = some a->ops[j]? = some b->After ops.toArray j i\/(clash ops a b=false/\¬ (mv.contains j=true/\(mv.contains i=true\/mk.contains i=true)))
variable {s:List Nat} (hok:OrdOk ops s mv mk)
include hok
theorem RVM.all {Q:Exit->Act->World->Prop} {w0:World} {G0:Own} {D:List Deferred} (hQ:∀ a' w' F' H',a'.defers=D->Sim w' H'->RF n w' H' a'.tmps F'->Ext w0 G0 w' H'->K F' H'->Q .normal a' w') :
  ∀ (c:Nat) (listed:Array Bool) (md:Nat->Own) (F:Nat->V) (H:Own) (a:Act) (w:World),listed.toList.count false=c->HeadInv .any ops.toArray ops.length listed->(∀ i,listed.getD i false=false->md i=[])->RVM P ops mv mk Rk val side K (fun k=>listed.getD k false) md s F H ->
   Sim w (s.flatMap md++H)->RF n w (s.flatMap md++H) a.tmps F->Ext w0 G0 w (s.flatMap md++H)->a.defers=D->wpAny P .any ops.toArray Q c listed a w:=by
 have cl:∀ {listed:Array Bool} {i:Nat},listed.getD i true=false->(listed.setIfInBounds i true).toList.count false+1=listed.toList.count false:=fun {listed i} h=>by
  have hlt:i<listed.size:=by
   rcases Nat.lt_or_ge i listed.size with h' | h'
   · exact h'
   · simp [Array.getElem?_eq_none h'] at h
  have h0:listed.toList[i]'(by simpa using hlt)=false:=by simpa [hlt] using h
  have hpos:0<listed.toList.count false:=List.count_pos_iff.2 (h0▸List.getElem_mem _)
  have hc:=List.count_set (a:=true) (b:=false) (l:=listed.toList) (i:=i) (by simpa using hlt)
  rw [h0] at hc
  rw [Array.toList_setIfInBounds,hc]
  simp only [BEq.rfl,if_true,show ((true==false)=true)=False by simp,if_false,Nat.add_zero]
  omega
 have ca:∀ {listed:Array Bool},HeadInv .any ops.toArray ops.length listed->∀ (f i j:Nat),listed.getD i false=true->AfterN ops.toArray f i j->listed.getD j false=true:=fun {listed} inv f=>by
  induction f with
  | zero =>
   intro i j hi h
   obtain ⟨oj,hoj,e,he,hb,hon⟩:=Region.waitsFor_spec h
   have:=inv.closed i oj hoj hi e he hb
   rwa [hon] at this
  | succ f ih =>
   intro i j hi ⟨m,h1,h2⟩
   obtain ⟨oj,hoj,e,he,hb,hon⟩:=Region.waitsFor_spec h1
   have:=inv.closed i oj hoj hi e he hb
   exact ih m j (hon▸this) h2
 have ra:∀ {listed:Array Bool},HeadInv .any ops.toArray ops.length listed->∀ {i j:Nat},i∈Region.ready .any ops.toArray listed->After ops.toArray i j->listed.getD j false=true:=fun {listed} inv {i j} hi ⟨f,hf⟩=>by
  have one:∀ j,Region.waitsFor .any ops.toArray i j=true->listed.getD j false=true:=fun j h=>by
   obtain ⟨_,oi,hoi,hall⟩:=mem_ready.1 hi
   obtain ⟨oj,hoj,e,he,hb,hon⟩:=Region.waitsFor_spec h
   have:oj=oi:=Option.some.inj (hoj.symm.trans hoi)
   subst this
   have:=hall e he hb
   rwa [hon] at this
  cases f with
  | zero=>exact one j hf
  | succ f =>
   obtain ⟨m,h1,h2⟩:=hf
   exact ca inv f m j (one m h1) h2
 intro c
 induction c with
 | zero =>
  intro listed md F H a w hc inv hmu h hs hr hx hD
  have hall:∀ j,listed.getD j true=true:=fun j=>by
   cases hj:listed.getD j true with
   | true=>rfl
   | false=>have:=cl hj;omega
  refine ⟨?_,?_⟩
  · cases hrd:Region.ready .any ops.toArray listed with
    | nil=>rfl
    | cons i l =>
     have:i∈Region.ready .any ops.toArray listed:=by rw [hrd];exact List.mem_cons_self
     have:=(mem_ready.1 this).1
     rw [hall] at this
     cases this
  · have hp:=exr_perm (s:=s) md H
    refine hQ a w F _ hD (hs.perm hp.symm) (hr.perm hp.symm) (hx.trans (Ext.perm hp.symm)) (RVM.done s F H (fun j hj=>?_) h)
    have h1:=hall j
    have h2:j<listed.size:=by rw [inv.size];simpa using hok.lt j hj
    simp [h2] at h1 ⊢
    exact h1
 | succ c ih =>
  intro listed md F H a w hc inv hmu h hs hr hx hD
  have hsz:listed.size=ops.length:=by simpa using inv.size
  refine ⟨fun h0=>?_,fun i hi'=>?_⟩
  · exfalso
    have hex:∀ s1 s2,s=s1++s2->(∀ j,j∈s1->listed.getD j false=true)->(∀ j,j∈s2->listed.getD j false=true)\/∃ t1 k t2,s=t1++k::t2/\listed.getD k false=false/\∀ j,j∈t1->listed.getD j false=true:=by
     intro s1 s2
     induction s2 generalizing s1 with
     | nil=>intro _ _;exact .inl (by simp)
     | cons k s2 ih =>
      intro he hl
      cases hk:listed.getD k false with
      | false=>exact .inr ⟨s1,k,s2,he,hk,hl⟩
      | true =>
       rcases ih (s1++[k]) (by simp [he]) (fun j hj=>by
        rcases List.mem_append.1 hj with h | h
        · exact hl j h
        · rw [List.mem_singleton.1 h];exact hk) with h | h
       · exact .inl fun j hj=>by
          rcases List.mem_cons.1 hj with rfl | h'
          · exact hk
          · exact h j h'
       · exact .inr h
    rcases hex [] s rfl (by simp) with hall | ⟨t1,k,t2,he,hkf,hlow⟩
    · have:listed.toList.count false=0:=List.count_eq_zero.2 fun hm=>by
       obtain ⟨j,hj,e⟩:=List.getElem_of_mem hm
       have hj':j<listed.size:=by simpa using hj
       have:=hall j (hok.all j (by omega))
       simp [hj'] at this
       simp at e
       rw [this] at e
       cases e
      omega
    · have hko:k<ops.length:=hok.lt k (by rw [he];simp)
      have hkl:k<listed.size:=by omega
      have:k∈Region.ready .any ops.toArray listed:=mem_ready.2 ⟨getD_in hkl hkf,ops[k],by simp [hko],fun e hee hb=>hlow _ (hok.up t1 k t2 _ he (by simp [hko]) e hee hb)⟩
      rw [h0] at this
      cases this
  · obtain ⟨hun,oi,hoi,_⟩:=mem_ready.1 hi'
    have hoi':ops[i]? = some oi:=by simpa using hoi
    have hilt:i<ops.length:=(List.getElem?_eq_some_iff.1 hoi').1
    have hlf:listed.getD i false=false:=getD_both hun
    have inv':=inv.set hi' (by simpa using hilt)
    have hc':(listed.setIfInBounds i true).toList.count false=c:=by have:=cl hun;omega
    obtain ⟨s1,s2,hse⟩:=List.append_of_mem (hok.all i hilt)
    have hnd:=hok.nodup
    rw [hse,List.nodup_append] at hnd
    obtain ⟨hn1,hn2,hn3⟩:=hnd
    have hi1:i ∉ s1:=fun hi=>hn3 i hi i List.mem_cons_self rfl
    have hi2:i ∉ s2:=(List.nodup_cons.1 hn2).1
    have h12:∀ k,k∈s1->k ∉ s2:=fun k h1 h2=>hn3 k h1 k (List.mem_cons_of_mem _ h2) rfl
    have hpair:∀ k ok,k∈s1->ops[k]? = some ok->listed.getD k false=false->Free ops ok oi/\¬ (mv.contains i=true/\(mv.contains k=true\/mk.contains k=true)):=fun k ok hk hok' hkf=>by
     rcases hok.pair s1 i s2 k ok oi hse hk hok' hoi' with h' | ⟨h1,h2⟩
     · rw [ra inv hi' h'] at hkf;cases hkf
     · exact ⟨free_of h1,h2⟩
    have hLe:∀ j,j≠i->(listed.setIfInBounds i true).getD j false=listed.getD j false:=fun j hji=>getD_set_ne false (Ne.symm hji)
    have hLi:(listed.setIfInBounds i true).getD i false=true:=by
     have:i<listed.size:=by omega
     simp [this]
    have hLc:∀ {md F H},RVM P ops mv mk Rk val side K (fun k=>listed.getD k false||k==i) md s F H->RVM P ops mv mk Rk val side K (fun k=>(listed.setIfInBounds i true).getD k false) md s F H:=fun {md F H} h =>
     RVM.congrL s F H (fun j _=>⟨by
      by_cases hji:j=i
      · subst hji;rw [hLi];simp
      · have:(j==i)=false:=by simpa using hji
        rw [this,Bool.or_false,hLe j hji],rfl⟩) h
    have hdi:oi.dst.all (· < n)=true:=by
     have:=List.all_eq_true.1 hdst oi (List.mem_of_getElem? hoi')
     simpa using this
    have hpe:(s.flatMap md++H).Perm (s1.flatMap md++H++s2.flatMap md):=by
     rw [hse,List.flatMap_append,List.flatMap_cons,hmu i hlf,List.nil_append,List.append_assoc,List.append_assoc]
     exact List.Perm.append_left _ List.perm_append_comm
    obtain ⟨⟨b,hb⟩,hside⟩:=RVM.known hval hfl hdst (L:=fun k=>listed.getD k false) hoi' hlf hmu s1 s2 F H (s2.flatMap md) a w (fun k ok h1 h2 h3=>(hpair k ok h1 h2 h3).1) (hs.perm hpe) (hr.perm hpe) (by rw [<-hse];exact h)
    have hw:=gst_wanted hr hb
    have hmu':∀ k,(listed.setIfInBounds i true).getD k false=false->md k=[]:=fun k hk=>by
     by_cases hki:k=i
     · subst hki;rw [hLi] at hk;cases hk
     · rw [hLe k hki] at hk;exact hmu k hk
    unfold wpOp
    rw [hoi]
    simp only [hw]
    cases b with
    | false =>
     simp only [Bool.false_eq_true,if_false]
     refine ih _ md (putF F oi.dst (.tup [])) H _ w hc' inv' hmu' (hLc ?_) hs (hr.put hdi (R.skipped _ _)) hx (by rw [<-hD];cases oi.dst<;>rfl)
     rw [hse]
     exact RVM.pull hval (L:=fun k=>listed.getD k false) hoi' hlf (hmu i hlf) s1 s2 F H _ (fun k ok h1 h2 h3=>(hpair k ok h1 h2 h3).1) hi1 hi2 (fun _=>rfl) (fun h'=>by rw [hb] at h';cases h') (by rw [<-hse];exact h)
    | true =>
     simp only [if_true]
     refine .inl ?_
     cases hm:mv.contains i with
     | true =>
      refine RVM.pullM hval (mk:=mk) (Rk:=Rk) (K:=K) (L:=fun k=>listed.getD k false) hoi' hlf hm hmu s1 s2 F H (fun k ok h1 h2 h3=>?_) hi1 hi2 h12 hb (by rw [<-hse];exact h) (s2.flatMap md) a w _ _ (hs.perm hpe) (fun x _=>(hr.perm hpe).opd x) fun v w' d H' s' x r ⟨H1,hp,k'⟩=>?_
      · obtain ⟨g1,g2⟩:=hpair k ok h1 h2 h3
        refine ⟨g1,?_,?_⟩
        · cases hmk:mv.contains k with
          | true=>exact absurd ⟨hm, .inl hmk⟩ g2
          | false=>rfl
        · cases hmk:mk.contains k with
          | true=>exact absurd ⟨hm, .inr hmk⟩ g2
          | false=>rfl
      · have hz:(s.flatMap fun k=>if (s1++[i]).contains k=true then [] else md k)=s2.flatMap md:=by
         rw [hse,List.flatMap_append,List.flatMap_cons]
         have e1:(s1.flatMap fun k=>if (s1++[i]).contains k=true then ([]:Own) else md k)=[]:=by
          rw [List.flatMap_eq_nil_iff];intro k hk;rw [if_pos (by simp [hk])]
         have e2:∀ t:List Nat,(∀ k,k∈t->k∈s2)->(t.flatMap fun k=>if (s1++[i]).contains k=true then ([]:Own) else md k)=t.flatMap md:=by
          intro t
          induction t with
          | nil=>intro _;rfl
          | cons k t ih =>
           intro ht
           have hk2:=ht k List.mem_cons_self
           rw [List.flatMap_cons,List.flatMap_cons,ih fun q hq=>ht q (List.mem_cons_of_mem _ hq),if_neg]
           intro hc
           rcases List.mem_append.1 (by simpa using hc:k∈s1++[i]) with h1 | h1
           · exact h12 k h1 hk2
           · exact hi2 (List.mem_singleton.1 h1▸hk2)
         rw [e1,e2 s2 fun _ h=>h,if_pos (by simp),List.nil_append,List.nil_append]
        have hp2:H'.Perm ((s.flatMap fun k=>if (s1++[i]).contains k=true then [] else md k)++H1):=by rw [hz];exact hp.trans List.perm_append_comm
        exact ih _ (fun k=>if (s1++[i]).contains k=true then [] else md k) _ H1 _ w' hc' inv' (fun k hk=>by
         split
         · rfl
         · exact hmu' k hk) (hLc (by rw [hse];exact k')) (s'.perm hp2) ((((hr.perm hpe).ext x).put hdi r).perm hp2) ((hx.trans (Ext.perm hpe)).trans (x.trans (Ext.perm hp2))) (by rw [<-hD];cases oi.dst<;>rfl)
     | false =>
      refine hfl i oi hoi' hm _ _ (hside hb hm) a w _ _ hs (fun x _=>hr.opd x) fun v w' d H' s' x r hd=>?_
      cases hk:mk.contains i with
      | true =>
       simp only [hk,if_true] at hd
       obtain ⟨N,hR,hH⟩:=hd
       subst hH
       have hz:((s.flatMap fun k=>if k=i then N else md k)).Perm (N++s.flatMap md):=by
        rw [hse,List.flatMap_append,List.flatMap_cons,List.flatMap_append,List.flatMap_cons,hmu i hlf,if_pos rfl,List.nil_append]
        have e2:∀ t:List Nat,i ∉ t->(t.flatMap fun k=>if k=i then N else md k)=t.flatMap md:=by
         intro t
         induction t with
         | nil=>intro _;rfl
         | cons k t ih =>
          intro ht
          rw [List.flatMap_cons,List.flatMap_cons,ih fun h=>ht (List.mem_cons_of_mem _ h),if_neg (fun e:k=i=>ht (e▸List.mem_cons_self))]
        rw [e2 s1 hi1,e2 s2 hi2]
        exact List.perm_append_comm_assoc _ _ _
       have hp2:(N++(s.flatMap md++H)).Perm ((s.flatMap fun k=>if k=i then N else md k)++H):=by
        rw [<-List.append_assoc]
        exact hz.symm.append_right _
       refine ih _ (fun k=>if k=i then N else md k) _ H _ w' hc' inv' (fun k hk'=>?_) (hLc ?_) (s'.perm hp2) (((hr.ext x).put hdi r).perm hp2) ((hx.trans x).trans (Ext.perm hp2)) (by rw [<-hD];cases oi.dst<;>rfl)
       · by_cases hki:k=i
         · subst hki;rw [hLi] at hk';cases hk'
         · rw [if_neg hki];exact hmu' k hk'
       · rw [hse]
         exact RVM.pullK hval (L:=fun k=>listed.getD k false) hoi' hlf hm hk hR s1 s2 F H (fun k ok h1 h2 h3=>(hpair k ok h1 h2 h3).1) hi1 hi2 hb (by rw [<-hse];exact h)
      | false =>
       simp only [hk,Bool.false_eq_true,if_false] at hd
       obtain ⟨hd,hH⟩:=hd
       subst hd
       subst hH
       refine ih _ md _ H _ w' hc' inv' hmu' (hLc ?_) s' ((hr.ext x).put hdi r) (hx.trans x) (by rw [<-hD];cases oi.dst<;>rfl)
       rw [hse]
       exact RVM.pull hval (L:=fun k=>listed.getD k false) hoi' hlf (hmu i hlf) s1 s2 F H _ (fun k ok h1 h2 h3=>(hpair k ok h1 h2 h3).1) hi1 hi2 (fun h'=>by rw [hb] at h';cases h') (fun _=>⟨hm,hk,rfl⟩) (by rw [<-hse];exact h)
end
def ordB (ops:List Oper) (s mv mk:List Nat):Bool :=
 let ms:=masks ops
 decide s.Nodup&&(List.range ops.length).all (fun k=>s.contains k) &&
 (s.zipIdx.all fun (j,p)=>match ops[j]? with
   | none=>false
   | some b=>(b.after.all fun e=>!Region.binds .any e||(s.take p).contains e.on)&&((s.take p).all fun i=>match ops[i]? with
    | none=>false
    | some a=>(ms.getD j 0).testBit i||(!clash ops a b && !(mv.contains j&&(mv.contains i||mk.contains i)))))
theorem ordOk_of {ops:List Oper} {s mv mk:List Nat} (h:ordB ops s mv mk=true):OrdOk ops s mv mk:=by
 simp only [ordB,Bool.and_eq_true,decide_eq_true_eq] at h
 obtain ⟨⟨h1,h2⟩,h3⟩:=h
 have hall:∀ k,k<ops.length->k∈s:=fun k hk=>by
  have:=List.all_eq_true.1 h2 k (List.mem_range.2 hk)
  simpa using this
 have hat:∀ s1 j s2,s=s1++j::s2->∃ b,ops[j]? = some b/\(b.after.all fun e=>!Region.binds .any e||s1.contains e.on)=true/\∀ i,i∈s1->(∃ a,ops[i]? = some a/\((masks ops).getD j 0).testBit i=true)\/(∃ a,ops[i]? = some a/\clash ops a b=false/\(mv.contains j&&(mv.contains i||mk.contains i))=false):=fun s1 j s2 he=>by
  have hm:(j,s1.length)∈s.zipIdx:=by
   rw [List.mem_iff_getElem?]
   refine ⟨s1.length,?_⟩
   rw [he];simp
  have:=List.all_eq_true.1 h3 _ hm
  have ht:s.take s1.length=s1:=by rw [he];simp
  simp only [ht] at this
  cases hb:ops[j]? with
  | none=>rw [hb] at this;cases this
  | some b =>
   rw [hb] at this
   simp only [Bool.and_eq_true] at this
   refine ⟨b,rfl,this.1,fun i hi=>?_⟩
   have:=List.all_eq_true.1 this.2 i hi
   cases ha:ops[i]? with
   | none=>rw [ha] at this;cases this
   | some a =>
    rw [ha] at this
    simp only [Bool.or_eq_true,Bool.and_eq_true,Bool.not_eq_true'] at this
    rcases this with h | h
    · exact .inl ⟨a,rfl,h⟩
    · exact .inr ⟨a,rfl,h⟩
 refine ⟨h1,hall,fun k hk=>?_,fun s1 k s2 o he ho e hee hb=>?_,fun s1 j s2 i a b he hi ha hb=>?_⟩
 · obtain ⟨s1,s2,he⟩:=List.append_of_mem hk
   obtain ⟨b,hb,_⟩:=hat s1 k s2 he
   exact (List.getElem?_eq_some_iff.1 hb).1
 · obtain ⟨b,hb',h4,_⟩:=hat s1 k s2 he
   have:b=o:=Option.some.inj (hb'.symm.trans ho)
   subst this
   simp only [Array.all_eq_true_iff_forall_mem,Bool.or_eq_true,Bool.not_eq_true'] at h4
   have:=(h4 e hee).resolve_left (by simp [hb])
   simpa using this
 · obtain ⟨b',hb',_,h4⟩:=hat s1 j s2 he
   have:b'=b:=Option.some.inj (hb'.symm.trans hb)
   subst this
   rcases h4 i hi with ⟨a',ha',h5⟩ | ⟨a',ha',h5,h6⟩
   · exact .inl (after_of_masks h5)
   · have:a'=a:=Option.some.inj (ha'.symm.trans ha)
     subst this
     refine .inr ⟨h5,fun ⟨x,y⟩=>?_⟩
     rw [x,Bool.true_and,Bool.or_eq_false_iff] at h6
     rcases y with y | y
     · rw [y] at h6;cases h6.1
     · rw [y] at h6;cases h6.2
def mkR (T:List (Nat×(V->Own->Prop))) (k:Nat) (d:V) (N:Own):Prop:=match T.lookup k with
 | some r=>r d N
 | none=>False
def mkS (P:Program) (mk:List Nat) (T:List (Nat×(V->Own->Prop))) (k:Nat) (o:Oper) (f:Operand->V):Prop:=if mk.contains k=true then ∀ H:Own,DOp P o f H fun d H'=>∃ N,mkR T k d N/\H'=N++H else side P o f
def varR (P:Program) (t:TypeId) (d:V) (N:Own):Prop:=∃ b,d = .raw (.pointer (some ⟨b,0,none⟩))/\N=[.blk b (ty P t).zero]
section
variable {P:Program} {n:Nat} {Q:Exit->Env->Own->Prop} {e:Env} {H:Own}
def DVMb (P:Program) (mv mk:List Nat) (T:List (Nat×(V->Own->Prop))) (k:Nat) (o:Oper) (e:Env) (H:Own) (A:Env->Own->Prop):Prop :=
 if mv.contains k=true then ∀ X:Own,DOp P o (opd e) (H++X) fun d H'=>PXK H' X fun H1=>A (putO e o.dst d) H1
 else if mk.contains k=true then (∀ H:Own,DOp P o (opd e) H fun d H'=>∃ N,mkR T k d N/\H'=N++H)/\∀ d N,mkR T k d N->A (putO e o.dst d) (N++H)
 else side P o (opd e)/\A (putO e o.dst (val P o (opd e))) H
def DVM (P:Program) (mv mk:List Nat) (T:List (Nat×(V->Own->Prop))) (l:List Oper) (K:Env->Own->Prop):List Nat->Env->Own->Prop
 | [],e,H=>K e H
 | k::s,e,H=>match l[k]? with
  | none=>False
  | some o=>match o.guard with
   | none=>DVMb P mv mk T k o e H (DVM P mv mk T l K s)
   | some (j,true)=>gd (gval l.toArray e j) (DVMb P mv mk T k o e H (DVM P mv mk T l K s)) (DVM P mv mk T l K s (putO e o.dst (.tup [])) H)
   | some (j,false)=>gf (gval l.toArray e j) (DVM P mv mk T l K s (putO e o.dst (.tup [])) H) (DVMb P mv mk T k o e H (DVM P mv mk T l K s))
@[congr] theorem DVM_congr (P:Program) (mv mk:List Nat) (T:List (Nat×(V->Own->Prop))) (l:List Oper) (K:Env->Own->Prop) (s:List Nat) {e e':Env} {H H':Own} (h:e=e') (hH:H=H'):DVM P mv mk T l K s e H=DVM P mv mk T l K s e' H':=by rw [h,hH]
@[congr] theorem DVMb_congr (P:Program) (mv mk:List Nat) (T:List (Nat×(V->Own->Prop))) (k:Nat) (o:Oper) (A:Env->Own->Prop) {e e':Env} {H H':Own} (h:e=e') (hH:H=H'):DVMb P mv mk T k o e H A=DVMb P mv mk T k o e' H' A:=by rw [h,hH]
theorem DVM.cases {mv mk:List Nat} {T:List (Nat×(V->Own->Prop))} {l:List Oper} {K:Env->Own->Prop} {k:Nat} {s:List Nat} (h:DVM P mv mk T l K (k::s) e H) :
  ∃ o,l[k]? = some o/\((gst l o (get e)=some true/\DVMb P mv mk T k o e H (DVM P mv mk T l K s))\/(gst l o (get e)=some false/\DVM P mv mk T l K s (putO e o.dst (.tup [])) H)):=by
 unfold DVM at h
 cases ho:l[k]? with
 | none=>rw [ho] at h;exact h.elim
 | some o =>
  rw [ho] at h
  simp only at h
  refine ⟨o,rfl,?_⟩
  cases hg:o.guard with
  | none=>rw [hg] at h;exact .inl ⟨by unfold gst;rw [hg],h⟩
  | some jw =>
   obtain ⟨j,want⟩:=jw
   rw [hg] at h
   cases want with
   | true =>
    simp only at h
    cases hb:gval l.toArray e j with
    | bool b =>
     rw [gst_gval hg hb]
     rw [hb] at h
     cases b with
     | true=>rw [gd_true] at h;exact .inl ⟨rfl,h⟩
     | false=>rw [gd_false] at h;exact .inr ⟨rfl,h⟩
    | tup ds=>rw [gst_tup hg hb];rw [hb,gd_tup] at h;exact .inr ⟨rfl,h⟩
    | _=>rw [hb] at h;exact h.elim
   | false =>
    simp only at h
    cases hb:gval l.toArray e j with
    | bool b =>
     rw [gst_gval hg hb]
     rw [hb] at h
     cases b with
     | true=>rw [gf_true] at h;exact .inr ⟨rfl,h⟩
     | false=>rw [gf_false] at h;exact .inl ⟨rfl,h⟩
    | tup ds=>rw [gst_tup hg hb];rw [hb,gf_tup] at h;exact .inr ⟨rfl,h⟩
    | _=>rw [hb] at h;exact h.elim
theorem DVM.rvm {mv mk:List Nat} {T:List (Nat×(V->Own->Prop))} {l:List Oper} {K:Env->Own->Prop}:∀ (s:List Nat) (e:Env) (H:Own),DVM P mv mk T l K s e H ->
  RVM P l mv mk (mkR T) (fun _ o f=>val P o f) (mkS P mk T) (KF K) (fun _=>false) (fun _=>[]) s (get e) H
 | [],e,H,h=>⟨e,rfl,h⟩
 | k::s,e,H,h=>by
  obtain ⟨o,ho,h⟩:=h.cases
  unfold RVM
  rw [if_neg (by simp),ho]
  simp only
  rcases h with ⟨hg,h⟩ | ⟨hg,h⟩
  · rw [hg]
    simp only
    rw [opdF_get]
    unfold DVMb at h
    split
    · rename_i hm
      rw [if_pos hm] at h
      refine fun X=>(h X).mono fun d H' ⟨H1,hp,h⟩=>⟨H1,hp,?_⟩
      rw [<-get_putO]
      exact DVM.rvm s _ _ h
    · rename_i hm
      rw [if_neg hm] at h
      split
      · rename_i hk
        rw [if_pos hk] at h
        refine ⟨by unfold mkS;rw [if_pos hk];exact h.1,fun d N hR=>?_⟩
        rw [<-get_putO]
        exact DVM.rvm s _ _ (h.2 d N hR)
      · rename_i hk
        rw [if_neg hk] at h
        refine ⟨by unfold mkS;rw [if_neg hk];exact h.1,?_⟩
        rw [<-get_putO]
        exact DVM.rvm s _ _ h.2
  · rw [hg]
    simp only
    rw [<-get_putO]
    exact DVM.rvm s _ _ h
theorem DW.drawM (ks mv mk:List Nat) (T:List (Nat×(V->Own->Prop))) (s:List Nat) {id:Nat} {l:List Oper} (hm:P.follows .mixedOrders=true) (hd:dstB n l=true) (hB:ordB l s mv mk=true) (h:DVM P mv mk T l (Q .normal) s (keepL ks e) H):DW P n (.region id l.toArray true) Q e H:=by
 refine DW.weak _ H (get_keepL ks e) (List.Sublist.refl _) ?_
 intro a w hs hr
 refine wp_region_any hm ?_
 have hok:=ordOk_of hB
 have hrv:=DVM.rvm s _ H h
 have hdr:=hs.drew
 have hinv:HeadInv .any l.toArray l.length (Array.replicate l.toArray.size false):=⟨by simp,fun j oj _ hl=>(by rw [getD_replicate_false] at hl;cases hl),fun t _ ht=>getD_in (by simpa using ht) (getD_replicate_false _ _)⟩
 have hz:s.flatMap (fun _=>([]:Own))=[]:=by rw [List.flatMap_eq_nil_iff];intro _ _;rfl
 refine RVM.all (n:=n) (mv:=mv) (mk:=mk) (Rk:=mkR T) (K:=KF (Q .normal)) (val:=fun _ o f=>val P o f) (side:=mkS P mk T) (fun k o f f' hf=>?_) (fun k o ho hk f H' hs=>?_) hd hok (Q:=_) (w0:=w) (G0:=H) (D:=a.defers)
  (fun a' w' F' H' hd' s r x ⟨e',he,hq⟩=>⟨hd',e',H',s,⟨r.size,fun t=>by rw [he];exact r.slot t⟩,x,hq⟩)
  l.toArray.size (Array.replicate l.toArray.size false) (fun _=>[]) (get (keepL ks e)) H a w.drew (by simp) hinv (fun _ _=>rfl) ?_ (by rw [hz];exact hdr.1) (by rw [hz];exact ⟨hr.size,fun t=>hdr.2.rel (hr.slot t)⟩) (by rw [hz];exact hdr.2) rfl
 · refine ⟨(val_congr o f f' hf).1,fun h=>?_⟩
   unfold mkS at h ⊢
   split
   · rename_i hk;rw [if_pos hk] at h;exact fun H=>(h H).congr hf
   · rename_i hk;rw [if_neg hk] at h;exact (val_congr o f f' hf).2 h
 · unfold mkS at hs
   split at hs
   · rename_i hk
     exact (hs H').mono fun d H1 h=>by rw [if_pos hk];exact h
   · rename_i hk
     exact (val_sound hs).mono fun d H1 h=>by rw [if_neg hk];exact h
 · exact RVM.congrL (L:=fun _=>false) s _ _ (fun j _=>⟨(getD_replicate_false _ _).symm,rfl⟩) hrv
theorem DVM.nil {mv mk:List Nat} {T:List (Nat×(V->Own->Prop))} {l:List Oper} {K:Env->Own->Prop} (h:K e H):DVM P mv mk T l K [] e H:=h
section
variable {mv mk:List Nat} {T:List (Nat×(V->Own->Prop))} {l:List Oper} {K:Env->Own->Prop} {k:Nat} {s:List Nat} {o:Oper}
theorem DVM.go (ho:l[k]? = some o) (hg:o.guard=none) (h:DVMb P mv mk T k o e H (DVM P mv mk T l K s)):DVM P mv mk T l K (k::s) e H:=by unfold DVM;rw [ho];simp only;rw [hg];exact h
theorem DVM.f_ (ho:l[k]? = some o) (hg:o.guard=none) (hm:mv.contains k=false) (hk:mk.contains k=false) (h:side P o (opd e)/\DVM P mv mk T l K s (putO e o.dst (val P o (opd e))) H):DVM P mv mk T l K (k::s) e H :=
 DVM.go ho hg (by unfold DVMb;rw [if_neg (by rw [hm];exact Bool.false_ne_true),if_neg (by rw [hk];exact Bool.false_ne_true)];exact h)
theorem DVM.mv_ (ho:l[k]? = some o) (hg:o.guard=none) (hm:mv.contains k=true) (h:∀ X:Own,DOp P o (opd e) (H++X) fun d H'=>PXK H' X fun H1=>DVM P mv mk T l K s (putO e o.dst d) H1):DVM P mv mk T l K (k::s) e H :=
 DVM.go ho hg (by unfold DVMb;rw [if_pos hm];exact h)
theorem DVM.var_ {t:TypeId} (ho:l[k]? = some o) (hg:o.guard=none) (hm:mv.contains k=false) (hk:mk.contains k=true) (hop:o.op = .alloc t) (hT:T.lookup k=some (varR P t)) (h:((ty P t).zero≠[]/\(ty P t).kind≠0/\(ty P t).kind≠11)/\∀ b,DVM P mv mk T l K s (putO e o.dst (.raw (.pointer (some ⟨b,0,none⟩)))) (.blk b (ty P t).zero::H)):DVM P mv mk T l K (k::s) e H:=by
 refine DVM.go ho hg ?_
 unfold DVMb
 rw [if_neg (by rw [hm];exact Bool.false_ne_true),if_pos hk]
 refine ⟨fun H=>DOp.alloc_ hop ⟨h.1.1,h.1.2.1,h.1.2.2,fun b=>⟨[.blk b (ty P t).zero],?_,rfl⟩⟩,fun d N hR=>?_⟩
 · unfold mkR;rw [hT];exact ⟨b,rfl,rfl⟩
 · unfold mkR at hR;rw [hT] at hR
   obtain ⟨b,rfl,rfl⟩:=hR
   exact h.2 b
end
end
end
end Go.Proofs.YtifdpbghkccaoaaGreatDoor
