/- Tables that are right, as facts of lists; whatever comes to a right table leaves a right one. No statement of the program. -/
import Derived.Test.YtifdpbghkccaoaaGreatDoorRe1x
import Derived.Test.YtifdpbghkccaoaaGreatDoorRd9x
import Derived.KernelRfl
namespace Go.Proofs.YtifdpbghkccaoaaGreatDoor
open Go.RowKit
set_option linter.unusedSimpArgs false
set_option linter.unusedVariables false
set_option linter.unusedSectionVars false
section
section
variable {α:Type} [Inhabited α]
theorem getD_get (l:List α) (k:Nat) (h:k<l.length):l.getD k default=l[k]:=by simp [List.getD_eq_getElem?_getD,h]
theorem getD_mem {l:List α} {k:Nat} (h:k<l.length):l.getD k default∈l:=by rw [getD_get l k h];exact List.getElem_mem h
theorem mem_getD {l:List α} {x:α} (h:x∈l):∃ k,k<l.length/\l.getD k default=x:=by
 obtain ⟨k,hk,e⟩:=List.getElem_of_mem h
 exact ⟨k,hk,by rw [getD_get l k hk];exact e⟩
theorem pw_of_adj {R:α->α->Prop} (tr:∀ a b c,R a b->R b c->R a c) (l:List α) (h:∀ k,k<l.length->k=0\/R (l.getD (k - 1) default) (l.getD k default)):l.Pairwise R:=by
 rw [List.pairwise_iff_getElem]
 intro i j hi hj hij
 have key:∀ n,i+1+n<l.length->R (l.getD i default) (l.getD (i+1+n) default):=by
  intro n
  induction n with
  | zero =>
   intro hn
   rcases h (i+1) hn with h' | h'
   · omega
   · exact h'
  | succ n ih =>
   intro hn
   rcases h (i+1+(n+1)) hn with h' | h'
   · omega
   · exact tr _ _ _ (ih (by omega)) h'
 have:=key (j - i - 1) (by omega)
 rw [show i+1+(j - i - 1)=j by omega,getD_get l i hi,getD_get l j hj] at this
 exact this
theorem adj_of_pw {R:α->α->Prop} {l:List α} (h:l.Pairwise R) (k:Nat) (hk:k<l.length):k=0\/R (l.getD (k - 1) default) (l.getD k default):=by
 rcases Nat.eq_zero_or_pos k with h0 | h0
 · exact .inl h0
 · right
   rw [getD_get l k hk,getD_get l (k - 1) (by omega)]
   exact List.pairwise_iff_getElem.1 h (k - 1) k (by omega) hk (by omega)
theorem pw_at {R:α->α->Prop} {l:List α} (h:l.Pairwise R) {i j:Nat} (hij:i<j) (hj:j<l.length):R (l.getD i default) (l.getD j default):=by
 rw [getD_get l j hj,getD_get l i (by omega)]
 exact List.pairwise_iff_getElem.1 h i j (by omega) hj hij
theorem pw_of {R:α->α->Prop} {l:List α} (h:∀ i j,i<j->j<l.length->R (l.getD i default) (l.getD j default)):l.Pairwise R:=by
 rw [List.pairwise_iff_getElem]
 intro i j hi hj hij
 have:=h i j hij hj
 rwa [getD_get l i hi,getD_get l j hj] at this
theorem pw_ins {R:α->α->Prop} {a b:List α} {d:α} (h:(a++b).Pairwise R) (ha:∀ x∈a,R x d) (hb:∀ x∈b,R d x):(a++d::b).Pairwise R:=by
 rw [List.pairwise_append] at h ⊢
 refine ⟨h.1,List.pairwise_cons.2 ⟨hb,h.2.1⟩,fun x hx y hy=>?_⟩
 rcases List.mem_cons.1 hy with rfl | hy
 · exact ha x hx
 · exact h.2.2 x hx y hy
theorem mem_take_iff {l:List α} {k:Nat} {x:α} (hk:k<=l.length):x∈l.take k↔∃ i,i<k/\l.getD i default=x:=by
 constructor
 · intro h
   obtain ⟨i,hi,e⟩:=List.getElem_of_mem h
   have hi':i<k:=by rw [List.length_take] at hi;omega
   exact ⟨i,hi',by rw [getD_get l i (by omega)];simpa using e⟩
 · rintro ⟨i,hi,rfl⟩
   rw [getD_get l i (by omega)]
   exact List.mem_take_iff_getElem.2 ⟨i,by omega,rfl⟩
theorem mem_drop_iff {l:List α} {k:Nat} {x:α}:x∈l.drop k↔∃ i,k<=i/\i<l.length/\l.getD i default=x:=by
 constructor
 · intro h
   obtain ⟨i,hi,e⟩:=List.getElem_of_mem h
   rw [List.length_drop] at hi
   exact ⟨k+i,by omega,by omega,by rw [getD_get l (k+i) (by omega)];simpa using e⟩
 · rintro ⟨i,h1,hi,rfl⟩
   rw [getD_get l i hi]
   exact List.mem_drop_iff_getElem.2 ⟨i - k,by omega,by congr 1;omega⟩
end
theorem bl_irrefl:∀ x:Str,Op.bytesLess x x=false
 | []=>rfl
 | a::x=>by simp [Op.bytesLess,bl_irrefl x]
theorem bl_trans:∀ x y z:Str,Op.bytesLess x y=true->Op.bytesLess y z=true->Op.bytesLess x z=true
 | _,_,[],_,h=>by cases ‹List UInt8› <;> simp [Op.bytesLess] at h
 | _,[],_::_,h,_=>by cases ‹List UInt8› <;> simp [Op.bytesLess] at h
 | [],_::_,_::_,_,_=>rfl
 | a::x,b::y,c::z,h1,h2=>by
  simp only [Op.bytesLess,Bool.or_eq_true,decide_eq_true_eq,Bool.and_eq_true,beq_iff_eq] at *
  rcases h1 with h1 | ⟨rfl,h1⟩
  · rcases h2 with h2 | ⟨rfl,h2⟩
    · exact .inl (UInt8.lt_trans h1 h2)
    · exact .inl h1
  · rcases h2 with h2 | ⟨rfl,h2⟩
    · exact .inl h2
    · exact .inr ⟨rfl,bl_trans x y z h1 h2⟩
theorem bl_tri:∀ x y:Str,Op.bytesLess x y=false->Op.bytesLess y x=false->x=y
 | [],[],_,_=>rfl
 | [],_::_,h,_=>by simp [Op.bytesLess] at h
 | _::_,[],_,h=>by simp [Op.bytesLess] at h
 | a::x,b::y,h1,h2=>by
  simp only [Op.bytesLess,Bool.or_eq_false_iff,decide_eq_false_iff_not,Bool.and_eq_false_iff,beq_eq_false_iff_ne] at *
  have hab:a=b:=by
   have h1:=h1.1;have h2:=h2.1
   rw [UInt8.not_lt] at h1 h2
   exact UInt8.le_antisymm h2 h1
  subst hab
  rw [bl_tri x y (h1.2.resolve_left (fun h=>h rfl)) (h2.2.resolve_left (fun h=>h rfl))]
theorem bl_asymm {x y:Str} (h:Op.bytesLess x y=true):Op.bytesLess y x=false:=by
 cases h':Op.bytesLess y x with
 | false=>rfl
 | true=>have:=bl_trans x y x h h';rw [bl_irrefl] at this;cases this
theorem ahead_iff {a b:TDot}:ahead a b=true↔a.node<b.node\/a.node=b.node/\a.epoch<b.epoch:=by simp [ahead]
theorem ahead_not {a b:TDot}:ahead a b=false↔¬ (a.node<b.node\/a.node=b.node/\a.epoch<b.epoch):=by rw [<-ahead_iff];simp
theorem ahead_trans (a b c:TDot) (h1:ahead a b=true) (h2:ahead b c=true):ahead a c=true:=by rw [ahead_iff] at *;omega
def DR (l:List TDot):Prop:=l.Pairwise (fun a b=>ahead a b=true)/\∀ d∈l,oneB d=true
theorem right_iff {l:List TDot}:rightB l=true↔DR l:=by
 unfold rightB DR
 rw [allK_iff]
 constructor
 · intro h
   refine ⟨pw_of_adj ahead_trans l fun k hk=>?_,fun d hd=>?_⟩
   · have:=h k hk
     simp only [dotOk,Bool.and_eq_true,Bool.or_eq_true,decide_eq_true_eq] at this
     exact this.2
   · obtain ⟨k,hk,rfl⟩:=mem_getD hd
     have:=h k hk
     simp only [dotOk,oneB,Bool.and_eq_true] at this ⊢
     exact this.1
 · intro h k hk
   have h1:=adj_of_pw h.1 k hk
   have h2:=h.2 _ (getD_mem hk)
   simp only [dotOk,oneB,Bool.and_eq_true,Bool.or_eq_true,decide_eq_true_eq] at h2 ⊢
   exact ⟨h2,h1⟩
theorem top_cases {l:List TDot} (h:rightB l=true) (n e:Int):(∃ d∈l,d.node=n/\d.epoch=e/\topM l n e=d.n)\/((∀ d∈l,¬ (d.node=n/\d.epoch=e))/\topM l n e=0):=by
 obtain ⟨h1,h2,h3,h4⟩:=firstK_le (isAt l n e) l.length 0
 by_cases hk:firstK (isAt l n e) l.length 0<l.length
 · left
   have ha:=h4 (by omega)
   simp only [isAt,Bool.and_eq_true,beq_iff_eq] at ha
   exact ⟨_,getD_mem hk,ha.1,ha.2,by rw [topM,if_pos ⟨h,hk⟩]⟩
 · right
   refine ⟨fun d hd hde=>?_,by rw [topM,if_neg (fun x=>hk x.2)]⟩
   obtain ⟨k,hkl,rfl⟩:=mem_getD hd
   have:=h3 k (Nat.zero_le _) (by omega)
   rw [isAt,hde.1,hde.2] at this
   simp at this
theorem key_uniq {l:List TDot} (h:DR l) {a b:TDot} (ha:a∈l) (hb:b∈l) (hn:a.node=b.node) (he:a.epoch=b.epoch):a=b:=by
 obtain ⟨i,hi,rfl⟩:=mem_getD ha
 obtain ⟨j,hj,rfl⟩:=mem_getD hb
 rcases Nat.lt_trichotomy i j with hij | rfl | hij
 · have:=ahead_iff.1 (pw_at h.1 hij hj);omega
 · rfl
 · have:=ahead_iff.1 (pw_at h.1 hij hi);omega
theorem top_mem {l:List TDot} (h:rightB l=true) {d:TDot} (hd:d∈l):topM l d.node d.epoch=d.n:=by
 rcases top_cases h d.node d.epoch with ⟨x,hx,h1,h2,h3⟩ | ⟨h1,_⟩
 · rw [h3,key_uniq (right_iff.1 h) hx hd h1 h2]
 · exact absurd ⟨rfl,rfl⟩ (h1 d hd)
theorem top_none {l:List TDot} (h:rightB l=true) {n e:Int} (hn:∀ d∈l,¬ (d.node=n/\d.epoch=e)):topM l n e=0:=by
 rcases top_cases h n e with ⟨x,hx,h1,h2,_⟩ | ⟨_,h2⟩
 · exact absurd ⟨h1,h2⟩ (hn x hx)
 · exact h2
theorem one_iff {d:TDot}:oneB d=true↔0<=d.node/\d.node<16/\1<=d.epoch/\1<=d.n:=by simp [oneB,pairB,and_assoc]
theorem top_nonneg {l:List TDot} (h:rightB l=true) (n e:Int):0<=topM l n e:=by
 rcases top_cases h n e with ⟨x,hx,_,_,h3⟩ | ⟨_,h2⟩
 · have:=one_iff.1 ((right_iff.1 h).2 x hx);omega
 · omega
theorem splitAt_ {α:Type} [Inhabited α] (l:List α) {p:Nat} (h:p<l.length):l=l.take p++l.getD p default::l.drop (p+1):=by rw [<-drop_more l p h,List.take_append_drop]
theorem skip_sub {α:Type} [Inhabited α] (l:List α) (p:Nat):(l.take p++l.drop (p+1)).Sublist l:=by
 rcases Nat.lt_or_ge p l.length with h | h
 · conv=>rhs;rw [splitAt_ l h]
   exact List.Sublist.append (List.Sublist.refl _) (List.sublist_cons_self _ _)
 · rw [List.drop_of_length_le (by omega),List.append_nil];exact List.take_sublist _ _
theorem put_facts {l:List TDot} (h:DR l) {d:TDot} (hd:oneB d=true):DR (putD l d)/\∀ x,x∈putD l d↔x=d\/(x∈l/\¬ (x.node=d.node/\x.epoch=d.epoch)):=by
 obtain ⟨h1,h2,h3,h4⟩:=firstK_le (fun i=>!ahead (l.getD i default) d) l.length 0
 obtain ⟨p,hp⟩:∃ p,p=placeD l d:=⟨_,rfl⟩
 have hp':firstK (fun i=>!ahead (l.getD i default) d) l.length 0=p:=hp.symm
 rw [hp'] at h1 h2 h3 h4
 have hpl:p<=l.length:=by omega
 have bef:∀ x∈l.take p,ahead x d=true:=by
  intro x hx
  obtain ⟨i,hi,rfl⟩:=(mem_take_iff hpl).1 hx
  simpa using h3 i (Nat.zero_le _) hi
 have hat:p<l.length->ahead (l.getD p default) d=false:=fun hlt=>by simpa using h4 (by omega)
 have fin:∀ q,p<=q->(∀ x∈l.drop q,ahead d x=true)->(∀ j,p<=j->j<q->j<l.length->(l.getD j default).node=d.node/\(l.getD j default).epoch=d.epoch)->(l.take p++l.drop q).Pairwise (fun a b=>ahead a b=true)->(∀ x,x∈l.take p++l.drop q->x∈l) ->
   DR (l.take p++d::l.drop q)/\∀ x,x∈l.take p++d::l.drop q↔x=d\/(x∈l/\¬ (x.node=d.node/\x.epoch=d.epoch)):=by
  intro q hq aft mid pw sub
  refine ⟨⟨pw_ins pw bef aft,fun x hx=>?_⟩,fun x=>⟨fun hx=>?_,fun hx=>?_⟩⟩
  · rcases List.mem_append.1 hx with hx | hx
    · exact h.2 _ (sub x (List.mem_append_left _ hx))
    · rcases List.mem_cons.1 hx with rfl | hx
      · exact hd
      · exact h.2 _ (sub x (List.mem_append_right _ hx))
  · rcases List.mem_append.1 hx with hx | hx
    · have:=ahead_iff.1 (bef x hx)
      exact .inr ⟨sub x (List.mem_append_left _ hx),by omega⟩
    · rcases List.mem_cons.1 hx with rfl | hx
      · exact .inl rfl
      · have:=ahead_iff.1 (aft x hx)
        exact .inr ⟨sub x (List.mem_append_right _ hx),by omega⟩
  · rcases hx with rfl | ⟨hx,hk⟩
    · simp
    · obtain ⟨j,hj,rfl⟩:=mem_getD hx
      rcases Nat.lt_or_ge j p with hjp | hjp
      · exact List.mem_append_left _ ((mem_take_iff hpl).2 ⟨j,hjp,rfl⟩)
      · rcases Nat.lt_or_ge j q with hjq | hjq
        · exact absurd (mid j hjp hjq hj) hk
        · exact List.mem_append_right _ (List.mem_cons_of_mem _ (mem_drop_iff.2 ⟨j,hjq,hj,rfl⟩))
 by_cases hc:p<l.length/\ahead d (l.getD p default)=false
 · have h5:=ahead_not.1 (hat hc.1)
   have h6:=ahead_not.1 hc.2
   have e:putD l d=l.take p++d::l.drop (p+1):=by
    rw [putD,<-hp,if_pos hc,List.set_eq_take_append_cons_drop,if_pos hc.1]
    have:({ l.getD p default with n:=d.n }:TDot)=d:=by
     cases d;simp only [TDot.mk.injEq] at *;refine ⟨?_,?_,trivial⟩<;>omega
    rw [this]
   rw [e]
   refine fin (p+1) (by omega) (fun x hx=>?_) (fun j h1 h2 _=>?_) (h.1.sublist (skip_sub l p)) (fun x hx=>(skip_sub l p).subset hx)
   · obtain ⟨j,hj1,hj2,rfl⟩:=mem_drop_iff.1 hx
     have:=ahead_iff.1 (pw_at h.1 (show p<j by omega) hj2)
     rw [ahead_iff];omega
   · obtain rfl:j=p:=by omega
     omega
 · have e:putD l d=l.take p++d::l.drop p:=by rw [putD,<-hp,if_neg hc]
   rw [e]
   refine fin p (Nat.le_refl _) (fun x hx=>?_) (fun j h1 h2 _=>by omega) (by rw [List.take_append_drop];exact h.1) (fun x hx=>by rwa [List.take_append_drop] at hx)
   obtain ⟨j,hj1,hj2,rfl⟩:=mem_drop_iff.1 hx
   have ha:ahead d (l.getD p default)=true:=by
    cases hb:ahead d (l.getD p default) with
    | true=>rfl
    | false=>exact absurd ⟨by omega,hb⟩ hc
   rcases Nat.eq_or_lt_of_le hj1 with rfl | hlt
   · exact ha
   · exact ahead_trans _ _ _ ha (pw_at h.1 hlt hj2)
theorem add_right {l:List TDot} (h:rightB l=true) (d:TDot):rightB (addM l d)=true:=by
 rw [addM,if_pos h]
 split
 · rename_i hc;exact right_iff.2 (put_facts (right_iff.1 h) hc.1).1
 · exact h
theorem add_top {l:List TDot} (h:rightB l=true) (d:TDot) (n e:Int):topM (addM l d) n e=if oneB d=true/\n=d.node/\e=d.epoch then max (topM l n e) d.n else topM l n e:=by
 rw [addM,if_pos h]
 by_cases hd:oneB d=true
 · by_cases hh:hasB l d=true
   · rw [if_neg (by rw [hh];simp)]
     simp only [hasB,Bool.and_eq_true,decide_eq_true_eq] at hh
     split
     · rename_i hc;obtain ⟨_,rfl,rfl⟩:=hc;omega
     · rfl
   · rw [if_pos ⟨hd,by simpa using hh⟩]
     obtain ⟨p1,p2⟩:=put_facts (right_iff.1 h) hd
     have hr:=right_iff.2 p1
     have h1:=one_iff.1 hd
     have hlt:topM l d.node d.epoch<d.n:=by
      simp only [hasB,Bool.and_eq_true,decide_eq_true_eq,not_and] at hh
      have:=hh h1.2.2.2;omega
     split
     · rename_i hc;obtain ⟨_,rfl,rfl⟩:=hc
       rw [top_mem hr ((p2 d).2 (.inl rfl))];omega
     · rename_i hc
       have hne:¬ (n=d.node/\e=d.epoch):=fun x=>hc ⟨hd,x⟩
       rcases top_cases h n e with ⟨x,hx,rfl,rfl,h3⟩ | ⟨h3,h4⟩
       · rw [h3,top_mem hr ((p2 x).2 (.inr ⟨hx,hne⟩))]
       · rw [h4,top_none hr]
         intro x hx hk
         rcases (p2 x).1 hx with rfl | ⟨hx,_⟩
         · exact hne ⟨hk.1.symm,hk.2.symm⟩
         · exact h3 x hx hk
 · rw [if_neg (fun x=>hd x.1),if_neg (fun x=>hd x.1)]
theorem has_iff {l:List TDot} {d:TDot}:hasB l d=true↔1<=d.n/\d.n<=topM l d.node d.epoch:=by simp [hasB]
theorem has_add {l:List TDot} (h:rightB l=true) (d:TDot) {x:TDot} (hx:hasB l x=true):hasB (addM l d) x=true:=by
 rw [has_iff] at *
 rw [add_top h]
 split<;>omega
theorem has_self {l:List TDot} (h:rightB l=true) {d:TDot} (hd:oneB d=true):hasB (addM l d) d=true:=by
 rw [has_iff,add_top h,if_pos ⟨hd,rfl,rfl⟩]
 have:=one_iff.1 hd;omega
theorem ins_pw {α:Type} [Inhabited α] {R:α->α->Bool} (tr:∀ a b c,R a b=true->R b c=true->R a c=true) {l:List α} (h:l.Pairwise (fun a b=>R a b=true)) {d:α} (hd:∀ x∈l,R x d=false->R d x=true) {p:Nat} (hp:p=firstK (fun i=>!R (l.getD i default) d) l.length 0) :
  p<=l.length/\(l.take p++d::l.drop p).Pairwise (fun a b=>R a b=true)/\(∀ i,i<p->R (l.getD i default) d=true)/\(p<l.length->R (l.getD p default) d=false):=by
 obtain ⟨h1,h2,h3,h4⟩:=firstK_le (fun i=>!R (l.getD i default) d) l.length 0
 rw [<-hp] at h1 h2 h3 h4
 have hpl:p<=l.length:=by omega
 have bef:∀ i,i<p->R (l.getD i default) d=true:=fun i hi=>by simpa using h3 i (Nat.zero_le _) hi
 have hat:p<l.length->R (l.getD p default) d=false:=fun hlt=>by simpa using h4 (by omega)
 refine ⟨hpl,pw_ins (by rw [List.take_append_drop];exact h) (fun x hx=>?_) (fun x hx=>?_),bef,hat⟩
 · obtain ⟨i,hi,rfl⟩:=(mem_take_iff hpl).1 hx;exact bef i hi
 · obtain ⟨j,hj1,hj2,rfl⟩:=mem_drop_iff.1 hx
   have ha:=hd _ (getD_mem (show p<l.length by omega)) (hat (by omega))
   rcases Nat.eq_or_lt_of_le hj1 with rfl | hlt
   · exact ha
   · exact tr _ _ _ ha (pw_at h hlt hj2)
theorem before_iff {a b:TDot}:before a b=true↔a.node<b.node\/a.node=b.node/\(a.epoch<b.epoch\/a.epoch=b.epoch/\a.n<b.n):=by
 unfold before
 split
 · simp only [decide_eq_true_eq];omega
 · split
   · simp only [decide_eq_true_eq];omega
   · simp only [decide_eq_true_eq];omega
theorem before_not {a b:TDot}:before a b=false↔¬ (a.node<b.node\/a.node=b.node/\(a.epoch<b.epoch\/a.epoch=b.epoch/\a.n<b.n)):=by rw [<-before_iff];simp
theorem before_trans {a b c:TDot} (h1:before a b=true) (h2:before b c=true):before a c=true:=by rw [before_iff] at *;omega
theorem before_tri {a b:TDot} (h1:before a b=false) (h2:before b a=false):a=b:=by
 rw [before_not] at *
 cases a;cases b;simp only [TDot.mk.injEq] at *;omega
theorem before_irrefl (a:TDot):before a a=false:=by rw [before_not];omega
theorem rbefore_iff {a b:TRoute}:rbefore a b=true↔Op.bytesLess a.filter b.filter=true\/a.filter=b.filter/\before a.dot b.dot=true:=by
 unfold rbefore
 by_cases h:a.filter=b.filter
 · rw [if_neg (by simp [h]),h,bl_irrefl];simp
 · rw [if_pos (by simpa using h)];simp [h]
theorem rbefore_trans (a b c:TRoute) (h1:rbefore a b=true) (h2:rbefore b c=true):rbefore a c=true:=by
 rw [rbefore_iff] at *
 rcases h1 with h1 | ⟨e1,h1⟩<;>rcases h2 with h2 | ⟨e2,h2⟩
 · exact .inl (bl_trans _ _ _ h1 h2)
 · rw [<-e2];exact .inl h1
 · rw [e1];exact .inl h2
 · exact .inr ⟨e1.trans e2,before_trans h1 h2⟩
theorem rbefore_tri {a b:TRoute} (h1:rbefore a b=false) (h2:rbefore b a=false):a=b:=by
 have n1:¬ rbefore a b=true:=by rw [h1];simp
 have n2:¬ rbefore b a=true:=by rw [h2];simp
 rw [rbefore_iff] at n1 n2
 have e:a.filter=b.filter:=bl_tri _ _ (by simpa using fun x=>n1 (.inl x)) (by simpa using fun x=>n2 (.inl x))
 have f:a.dot=b.dot:=before_tri (by simpa using fun x=>n1 (.inr ⟨e,x⟩)) (by simpa using fun x=>n2 (.inr ⟨e.symm,x⟩))
 cases a;cases b;simp_all
theorem rbefore_irrefl (a:TRoute):rbefore a a=false:=by
 have:¬ rbefore a a=true:=by rw [rbefore_iff,bl_irrefl,before_irrefl];simp
 simpa using this
theorem own_iff {r:TRoute} {n e:Int} {f:Str}:ownB r n e f=true↔r.dot.node=n/\r.dot.epoch=e/\r.filter=f:=by simp [ownB,and_assoc]
theorem fenced_iff {fe:List TFence} {n e:Int}:fencedL fe n e=true↔∃ f∈fe,f.node=n/\e<=f.epoch:=by
 unfold fencedL anyK
 rw [List.any_eq_true]
 constructor
 · rintro ⟨k,hk,h⟩
   have hk:=List.mem_range.1 hk
   simp only [fencedAt,Bool.and_eq_true,beq_iff_eq,decide_eq_true_eq] at h
   exact ⟨_,getD_mem hk,h⟩
 · rintro ⟨f,hf,h⟩
   obtain ⟨k,hk,rfl⟩:=mem_getD hf
   exact ⟨k,List.mem_range.2 hk,by rw [fencedAt,h.1,decide_eq_true h.2];simp⟩
def FR (l:List TFence):Prop:=l.Pairwise (fun a b=>a.node<b.node)/\∀ f∈l,pairB f.node f.epoch=true
theorem fences_iff {l:List TFence}:fencesB l=true↔FR l:=by
 unfold fencesB FR
 rw [allK_iff]
 constructor
 · intro h
   refine ⟨pw_of_adj (R:=fun (a b:TFence)=>a.node<b.node) (fun a b c h1 h2=>Int.lt_trans h1 h2) l fun k hk=>?_,fun d hd=>?_⟩
   · have:=h k hk
     simp only [fenceOk,Bool.and_eq_true,Bool.or_eq_true,decide_eq_true_eq] at this
     exact this.2
   · obtain ⟨k,hk,rfl⟩:=mem_getD hd
     have:=h k hk
     simp only [fenceOk,Bool.and_eq_true] at this
     exact this.1
 · intro h k hk
   have h1:=adj_of_pw h.1 k hk
   have h2:=h.2 _ (getD_mem hk)
   simp only [fenceOk,Bool.and_eq_true,Bool.or_eq_true,decide_eq_true_eq]
   exact ⟨h2,h1⟩
def cellB (c:TCell):Bool:=nameB c.topic&&stampedM c.stamp&&decide (0<=c.qos)&&decide (c.qos<=2)&&(c.gone==((c.payload.length:Int)==0))&&(!c.gone||decide (c.qos=0))
def lineNe (a b:TRoute):Prop:=¬ (a.dot.node=b.dot.node/\a.dot.epoch=b.dot.epoch/\a.filter=b.filter)
structure TR (t:TTable):Prop where
 seen:rightB t.seen=true
 fences:FR t.fences
 rsort:t.routes.Pairwise (fun a b=>rbefore a b=true)
 rok:∀ r∈t.routes,filterB r.filter=true/\hasB t.seen r.dot=true/\fencedL t.fences r.dot.node r.dot.epoch=false
 rone:t.routes.Pairwise lineNe
 csort:t.cells.Pairwise (fun a b=>Op.bytesLess a.topic b.topic=true)
 cok:∀ c∈t.cells,cellB c=true/\hasB t.seen c.dot=true
 fresh:(dotsOf t.routes t.cells).Pairwise (fun a b=>a≠b)
def tabB (t:TTable):Bool:=tableB t.seen t.fences t.routes t.cells
theorem routes_iff {se:List TDot} {fe:List TFence} {ro:List TRoute}:allK (routeOk se fe ro) ro.length=true↔ro.Pairwise (fun a b=>rbefore a b=true)/\(∀ r∈ro,filterB r.filter=true/\hasB se r.dot=true/\fencedL fe r.dot.node r.dot.epoch=false)/\ro.Pairwise lineNe:=by
 rw [allK_iff]
 constructor
 · intro h
   refine ⟨pw_of_adj rbefore_trans ro fun k hk=>?_,fun r hr=>?_,pw_of fun i j hij hj=>?_⟩
   · have:=h k hk
     simp only [routeOk,Bool.and_eq_true,Bool.or_eq_true,decide_eq_true_eq] at this
     exact this.1.1.1.1
   · obtain ⟨k,hk,rfl⟩:=mem_getD hr
     have:=h k hk
     simp only [routeOk,Bool.and_eq_true,Bool.or_eq_true,decide_eq_true_eq,Bool.not_eq_true'] at this
     exact ⟨this.1.1.1.2,this.1.1.2,this.1.2⟩
   · have:=h j hj
     simp only [routeOk,Bool.and_eq_true,Bool.or_eq_true,decide_eq_true_eq,Bool.not_eq_true'] at this
     have h5:=this.2
     intro hl
     have:anyK (sameAt ro j) j=true:=anyK_at (k:=i) (by rw [sameAt,own_iff];exact hl) hij
     rw [h5] at this;cases this
 · rintro ⟨h1,h2,h3⟩ k hk
   obtain ⟨g1,g2,g3⟩:=h2 _ (getD_mem hk)
   have h5:anyK (sameAt ro k) k=false:=by
    cases hb:anyK (sameAt ro k) k with
    | false=>rfl
    | true =>
     obtain ⟨i,hi,hs⟩:=List.any_eq_true.1 hb
     have:=pw_at h3 (List.mem_range.1 hi) hk
     rw [sameAt,own_iff] at hs
     exact absurd hs this
   exact routeOk_yes (adj_of_pw h1 k hk) g1 g2 g3 h5
theorem cells_iff {se:List TDot} {ce:List TCell}:allK (cellOk se ce) ce.length=true↔ce.Pairwise (fun a b=>Op.bytesLess a.topic b.topic=true)/\(∀ c∈ce,cellB c=true/\hasB se c.dot=true):=by
 rw [allK_iff]
 constructor
 · intro h
   refine ⟨pw_of_adj (R:=fun (a b:TCell)=>Op.bytesLess a.topic b.topic=true) (fun a b c=>bl_trans _ _ _) ce fun k hk=>?_,fun r hr=>?_⟩
   · have:=h k hk
     simp only [cellOk,Bool.and_eq_true,Bool.or_eq_true,decide_eq_true_eq] at this
     exact this.1.1.1.1.1.1.1
   · obtain ⟨k,hk,rfl⟩:=mem_getD hr
     have:=h k hk
     simp only [cellOk,Bool.and_eq_true] at this
     simp only [cellB,Bool.and_eq_true]
     obtain ⟨⟨⟨⟨⟨⟨⟨_,a2⟩,a3⟩,a4⟩,a5⟩,a6⟩,a7⟩,a8⟩:=this
     exact ⟨⟨⟨⟨⟨⟨a2,a4⟩,a5⟩,a6⟩,a7⟩,a8⟩,a3⟩
 · rintro ⟨h1,h2⟩ k hk
   obtain ⟨g1,g2⟩:=h2 _ (getD_mem hk)
   have h3:=adj_of_pw h1 k hk
   simp only [cellOk,cellB,Bool.and_eq_true,Bool.or_eq_true (decide _),decide_eq_true_eq (p:=k=0)] at g1 ⊢
   obtain ⟨⟨⟨⟨⟨a2,a4⟩,a5⟩,a6⟩,a7⟩,a8⟩:=g1
   exact ⟨⟨⟨⟨⟨⟨⟨by simpa using h3,a2⟩,g2⟩,a4⟩,a5⟩,a6⟩,a7⟩,a8⟩
theorem fresh_iff {L:List TDot}:allK (dotFresh L) L.length=true↔L.Pairwise (fun a b=>a≠b):=by
 rw [allK_iff]
 have ds:∀ k j,dotSame L k j=true↔L.getD k default=L.getD j default:=by
  intro k j
  unfold dotSame
  cases L.getD k default;cases L.getD j default
  simp [and_assoc]
 constructor
 · intro h
   refine pw_of fun i j hij hj he=>?_
   have:=h j hj
   rw [dotFresh,anyK_at (k:=i) ((ds j i).2 he.symm) hij] at this
   cases this
 · intro h k hk
   unfold dotFresh
   cases hb:anyK (dotSame L k) k with
   | false=>rfl
   | true =>
    obtain ⟨i,hi,hs⟩:=List.any_eq_true.1 hb
    exact absurd ((ds k i).1 hs).symm (pw_at h (List.mem_range.1 hi) hk)
theorem tr_iff {t:TTable}:tabB t=true↔TR t:=by
 unfold tabB tableB
 simp only [Bool.and_eq_true]
 rw [fences_iff,routes_iff,cells_iff,fresh_iff]
 constructor
 · rintro ⟨⟨⟨⟨h1,h2⟩,h3,h4,h5⟩,h6,h7⟩,h8⟩
   exact ⟨h1,h2,h3,h4,h5,h6,h7,h8⟩
 · rintro ⟨h1,h2,h3,h4,h5,h6,h7,h8⟩
   exact ⟨⟨⟨⟨h1,h2⟩,h3,h4,h5⟩,h6,h7⟩,h8⟩
theorem tr_empty:TR ⟨[],[],[],[]⟩:=tr_iff.1 rfl
end
section
set_option maxHeartbeats 4000000
set_option maxRecDepth 100000
def cmpI (a b:Int):Int:=if a<b then -1 else if b<a then 1 else 0
def cmpS (a b:Str):Int:=if Op.bytesLess a b=true then -1 else if Op.bytesLess b a=true then 1 else 0
def orI (a b:Int):Int:=if a=0 then b else a
def livesI (a b:TDot):Int:=orI (cmpI a.node b.node) (cmpI a.epoch b.epoch)
def orderI (a b:TRoute):Int:=if cmpS a.filter b.filter≠0 then cmpS a.filter b.filter else if before a.dot b.dot=true then -1 else if before b.dot a.dot=true then 1 else 0
theorem lives_lt (a b:TDot):(livesI a b<0)↔ahead a b=true:=by
 simp only [livesI,orI,cmpI,ahead,Bool.or_eq_true,Bool.and_eq_true,decide_eq_true_eq,beq_iff_eq]
 repeat' split
 all_goals omega
theorem lives_z (a b:TDot):livesI a b=0↔a.node=b.node/\a.epoch=b.epoch:=by
 simp only [livesI,orI,cmpI]
 repeat' split
 all_goals omega
theorem before_lt (a b:TDot):(orI (livesI a b) (cmpI a.n b.n)<0)↔before a b=true:=by
 simp only [livesI,orI,cmpI,before]
 repeat' split
 all_goals (try simp only [decide_eq_true_eq])
 all_goals (try simp_all)
 all_goals (try omega)
theorem gtr_eq (a b:Str):(!(Op.bytesLess a b) && !(a==b))=Op.bytesLess b a:=by
 cases h1:Op.bytesLess a b with
 | true=>simp [bl_asymm h1]
 | false =>
  cases h2:Op.bytesLess b a with
  | true =>
   have:a≠b:=fun e=>by rw [e,bl_irrefl] at h2;cases h2
   simp [this]
  | false=>simp [bl_tri a b h1 h2]
theorem orderI_lt (a b:TRoute):(orderI a b<0)↔rbefore a b=true:=by
 rw [rbefore_iff]
 unfold orderI cmpS
 by_cases h1:Op.bytesLess a.filter b.filter=true
 · simp [h1]
 · by_cases h2:Op.bytesLess b.filter a.filter=true
   · have:a.filter≠b.filter:=fun e=>by rw [e,bl_irrefl] at h2;cases h2
     simp [h1,h2,this]
   · have e:a.filter=b.filter:=bl_tri _ _ (by simpa using h1) (by simpa using h2)
     by_cases h3:before a.dot b.dot=true
     · simp [h1,h2,e,h3,bl_irrefl]
     · by_cases h4:before b.dot a.dot=true
       · simp [h1,h2,e,h3,h4,bl_irrefl]
       · simp [h1,h2,e,h3,h4,bl_irrefl]
attribute [local irreducible] DW SeqD DV DOp DC DVX
theorem nani_dc (a:Int) (F:Own):(True)->DC Tryz.prog 122 [.int .i64 a] (([]:Own)++F) fun d G=>d = .bool false/\G=[]++F:=by
 intro hA
 refine DC.bodyS (n_:=6) (show Tryz.prog.funcs[122]? = some Tryz.f122 by kernel_rfl) rfl rfl (by rfl) ?_
 simp only [env0,List.cons_append,List.nil_append]
 have kw:=ksIs [0,2]
 have ow:=ownIs []
 repeat' (first
  | refine g_ ?_
  | ((with_reducible refine And.intro ?_ ?_);(exact sv))
  | (refine DW.cond (by rfl) ?_ ?_<;>(first | exact i0_ | (refine ic_ ?_;intro hb)))
  | ((with_reducible refine FVg_cases ?_ ?_)<;>(intro hb;rw [hb];revert hb;(first | exact i0_ | (refine i_ ?_;intro hb))))
  | refine r_ ?_
  | refine k_ ?_
  | refine o_ ?_
  | refine f_ ?_
  | with_reducible intro b)
 all_goals
  refine ⟨_,_,le.of_eq ?_,⟨rfl,rfl⟩,SubP.refl⟩
  first | rfl | simp
theorem nans_dc (a:Str) (F:Own):(True)->DC Tryz.prog 121 [.str a] (([]:Own)++F) fun d G=>d = .bool false/\G=[]++F:=by
 intro hA
 refine DC.bodyS (n_:=6) (show Tryz.prog.funcs[121]? = some Tryz.f121 by kernel_rfl) rfl rfl (by rfl) ?_
 simp only [env0,List.cons_append,List.nil_append]
 have kw:=ksIs [0,2]
 have ow:=ownIs []
 repeat' (first
  | refine g_ ?_
  | ((with_reducible refine And.intro ?_ ?_);(exact sv))
  | (refine DW.cond (by rfl) ?_ ?_<;>(first | exact i0_ | (refine ic_ ?_;intro hb)))
  | ((with_reducible refine FVg_cases ?_ ?_)<;>(intro hb;rw [hb];revert hb;(first | exact i0_ | (refine i_ ?_;intro hb))))
  | refine r_ ?_
  | refine k_ ?_
  | refine o_ ?_
  | refine f_ ?_
  | with_reducible intro b)
 all_goals
  refine ⟨_,_,le.of_eq ?_,⟨rfl,rfl⟩,SubP.refl⟩
  first | rfl | simp
theorem cmpi_dc (a b:Int) (F:Own):(True)->DC Tryz.prog 81 [.int .i64 a, .int .i64 b] (([]:Own)++F) fun d G=>d = .int .i64 (cmpI a b)/\G=[]++F:=by
 intro hA
 refine DC.bodyS (n_:=20) (show Tryz.prog.funcs[81]? = some Tryz.f81 by kernel_rfl) rfl rfl (by rfl) ?_
 simp only [env0,List.cons_append,List.nil_append]
 have kw:=ksIs [0,1,4,5,6,11,12,13,16,19]
 have ow:=ownIs []
 repeat' (first
  | refine g_ ?_
  | ((with_reducible refine And.intro ?_ ?_);(exact sv))
  | (refine DW.cond (by rfl) ?_ ?_<;>(first | exact i0_ | (refine ic_ ?_;intro hb)))
  | ((with_reducible refine FVg_cases ?_ ?_)<;>(intro hb;rw [hb];revert hb;(first | exact i0_ | (refine i_ ?_;intro hb))))
  | refine r_ ?_
  | refine k_ ?_
  | (refine q_ (nani_dc _ _) ?_)
  | refine o_ ?_
  | refine f_ ?_
  | with_reducible intro b)
 all_goals
  refine ⟨_,_,le.of_eq ?_,⟨rfl,rfl⟩,SubP.refl⟩
  unfold cmpI
  first | (simp_all;done) | (simp_all<;>omega) | (repeat' split)<;>first | rfl | omega
section
attribute [local push_cast 2000] gtr_eq
theorem cmps_dc (a b:Str) (F:Own):(True)->DC Tryz.prog 77 [.str a, .str b] (([]:Own)++F) fun d G=>d = .int .i64 (cmpS a b)/\G=[]++F:=by
 intro hA
 refine DC.bodyS (n_:=20) (show Tryz.prog.funcs[77]? = some Tryz.f77 by kernel_rfl) rfl rfl (by rfl) ?_
 simp only [env0,List.cons_append,List.nil_append]
 have kw:=ksIs [0,1,4,5,6,11,12,13,16,19]
 have ow:=ownIs []
 repeat' (first
  | refine g_ ?_
  | ((with_reducible refine And.intro ?_ ?_);(exact sv))
  | (refine DW.cond (by rfl) ?_ ?_<;>(first | exact i0_ | (refine ic_ ?_;intro hb)))
  | ((with_reducible refine FVg_cases ?_ ?_)<;>(intro hb;rw [hb];revert hb;(first | exact i0_ | (refine i_ ?_;intro hb))))
  | refine r_ ?_
  | refine k_ ?_
  | (refine q_ (nans_dc _ _) ?_)
  | refine o_ ?_
  | refine f_ ?_
  | with_reducible intro b)
 all_goals
  refine ⟨_,_,le.of_eq ?_,⟨rfl,rfl⟩,SubP.refl⟩
  unfold cmpS
  first | (simp_all;done) | (simp_all<;>omega)
end
theorem or2_dc (a b:Int) (F:Own):(True)->DC Tryz.prog 137 [.sl [.int .i64 a, .int .i64 b]] (([]:Own)++F) fun d G=>d = .int .i64 (orI a b)/\G=[]++F:=by
 intro hA
 refine DC.bodyS (n_:=18) (show Tryz.prog.funcs[137]? = some Tryz.f137 by kernel_rfl) rfl rfl (by rfl) ?_
 simp only [env0,List.cons_append,List.nil_append]
 have kw:=ksIs [0,2,3,5,6,7,8,9,14]
 have ow:=ownIs []
 repeat' (first
  | ((with_reducible refine DW.loopB 0 (X:=Nat) (fun x=>x<=2/\(1<=x->a=0)/\(2<=x->b=0)) (fun x=>[(3, .int .i64 0),(6, .sl [.int .i64 a, .int .i64 b]),(7, .int .i64 2),(8, .int .i64 x)]) (fun x=>([]:Own)) (fun x=>2 - x) (0) ?_ ?_ ?_);exact (⟨by omega,by omega,by omega⟩);(simp [Sub,get,keepL]<;>fail);(try simp only [List.cons_append,List.nil_append]);refine pl_ ?_;intro k ⟨hk,ha,hb0⟩;(try simp only [List.cons_append,List.nil_append]);rcases (show k=0\/k=1\/k=2 by omega) with rfl | rfl | rfl)
  | refine g_ ?_
  | ((with_reducible refine And.intro ?_ ?_);(exact sv))
  | (refine DW.cond (by rfl) ?_ ?_<;>(first | exact i0_ | (refine ic_ ?_;intro hb)))
  | ((with_reducible refine FVg_cases ?_ ?_)<;>(intro hb;rw [hb];revert hb;(first | exact i0_ | (refine i_ ?_;intro hb))))
  | refine r_ ?_
  | refine k_ ?_
  | refine o_ ?_
  | refine f_ ?_
  | with_reducible intro b)
 all_goals first
 | (refine ⟨1,?_,?_,?_,?_⟩;(((try simp only);omega));(((try simp only);omega));(simp [Sub,get]<;>(fail));(try dsimp only);(exact sub_))
 | (refine ⟨2,?_,?_,?_,?_⟩;(((try simp only);omega));(((try simp only);omega));(simp [Sub,get]<;>(fail));(try dsimp only);(exact sub_))
 | ((first | exact fin_ | refine finq_ ?_);unfold orI;simp_all;done)
theorem lives_dc (a1 a2 a3 b1 b2 b3:Int) (F:Own):(True)->DC Tryz.prog 92 [.agg [.int .i64 a1, .int .i64 a2, .int .i64 a3], .agg [.int .i64 b1, .int .i64 b2, .int .i64 b3]] (([]:Own)++F) fun d G=>d = .int .i64 (livesI ⟨a1,a2,a3⟩ ⟨b1,b2,b3⟩)/\G=[]++F:=by
 intro hA
 refine DC.bodyS (n_:=17) (show Tryz.prog.funcs[92]? = some Tryz.f92 by kernel_rfl) rfl rfl (by rfl) ?_
 simp only [env0,List.cons_append,List.nil_append]
 have kw:=ksIs [0,1,2,3,4]
 have ow:=ownIs []
 have dw1:=drIs 1 [] [1,3,4,6,8,9,11]
 repeat' (first
  | refine g_ ?_
  | ((with_reducible refine And.intro ?_ ?_);(exact sv))
  | (refine DW.cond (by rfl) ?_ ?_<;>(first | exact i0_ | (refine ic_ ?_;intro hb)))
  | ((with_reducible first | refine FVg_cases ?_ ?_ | refine FDg_cases ?_ ?_)<;>(intro hb;rw [hb];revert hb;(first | exact i0_ | (refine i_ ?_;intro hb))))
  | refine r_ ?_
  | refine d_ ?_
  | refine k_ ?_
  | ((refine dm_ ?_);(first | (refine v_ (cmpi_dc _ _ _) ?_) | (refine v_ (or2_dc _ _ _) ?_)))
  | refine vo_ ?_
  | (refine q_ (cmpi_dc _ _ _) ?_)
  | (refine q_ (or2_dc _ _ _) ?_)
  | refine o_ ?_
  | refine f_ ?_
  | refine vm_ ?_
  | with_reducible intro b)
 all_goals
  refine ⟨_,_,le.of_eq ?_,⟨rfl,rfl⟩,SubP.refl⟩
  rfl
theorem may_dc (a1 a2 a3:Int) (F:Own):(True)->DC Tryz.prog 91 [.agg [.int .i64 a1, .int .i64 a2, .int .i64 a3]] (([]:Own)++F) fun d G=>d = .bool (oneB ⟨a1,a2,a3⟩)/\G=[]++F:=by
 intro hA
 refine DC.bodyS (n_:=21) (show Tryz.prog.funcs[91]? = some Tryz.f91 by kernel_rfl) rfl rfl (by rfl) ?_
 simp only [env0,List.cons_append,List.nil_append]
 have kw:=ksIs [0,1,2]
 have ow:=ownIs []
 repeat' (first
  | refine g_ ?_
  | ((with_reducible refine And.intro ?_ ?_);(exact sv))
  | (refine DW.cond (by rfl) ?_ ?_<;>(first | exact i0_ | (refine ic_ ?_;intro hb)))
  | ((with_reducible refine FVg_cases ?_ ?_)<;>(intro hb;rw [hb];revert hb;(first | exact i0_ | (refine i_ ?_;intro hb))))
  | refine r_ ?_
  | refine k_ ?_
  | refine o_ ?_
  | refine f_ ?_
  | with_reducible intro b)
 all_goals
  refine ⟨_,_,le.of_eq ?_,⟨rfl,rfl⟩,SubP.refl⟩
  unfold oneB pairB
  simp_all<;>omega
end
end Go.Proofs.YtifdpbghkccaoaaGreatDoor
