/- The trie's branches: as they lie, what they hold; as parts of what is owned. No statement of the program. -/
import Derived.Test.YtgekknefphagbaaGreatDoorMgx
import Derived.Test.YtgekknefphagbaaGreatDoorPv3x
import Derived.Sort.Walk0
namespace Go.Proofs.YtgekknefphagbaaGreatDoor
open Go.RowKit
set_option linter.unusedSimpArgs false
set_option linter.unusedVariables false
set_option linter.unusedSectionVars false
set_option maxRecDepth 100000
section
structure Nd where
 b:Nat
 nm:Nat
 km:Nat
 next:List (Str×Nat)
 keys:List (Str×Int)
 deriving Inhabited
def fnd:List Nd->Nat->Option Nd
 | [],_=>none
 | x::h,b=>if x.b=b then some x else fnd h b
def kid (h:List Nd) (b:Nat) (l:Str):Option Nat:=(fnd h b).bind fun x=>lookA l x.next
def fol (h:List Nd):Nat->List Str->Option Nat
 | b,[]=>some b
 | b,l::p=>(kid h b l).bind fun c=>fol h c p
theorem fol_cons (h:List Nd) (b:Nat) (l:Str) (p:List Str):fol h b (l::p)=(kid h b l).bind fun c=>fol h c p:=rfl
theorem fnd_cons (x:Nd) (h:List Nd) (b:Nat):fnd (x::h) b=if x.b=b then some x else fnd h b:=rfl
theorem fol_app {h:List Nd}:∀ (p q:List Str) (b:Nat),fol h b (p++q)=(fol h b p).bind fun c=>fol h c q
 | [],q,b=>rfl
 | l::p,q,b=>by
  rw [List.cons_append,fol_cons,fol_cons]
  cases kid h b l with
  | none=>rfl
  | some c=>exact fol_app p q c
theorem fol_snoc {h:List Nd} (p:List Str) (l:Str) (b:Nat):fol h b (p++[l])=(fol h b p).bind fun c=>kid h c l:=by
 rw [fol_app]
 cases fol h b p with
 | none=>rfl
 | some c=>show fol h c [l]=kid h c l;unfold fol;cases kid h c l<;>rfl
theorem fnd_some {b:Nat} {x:Nd}:∀ {h:List Nd},fnd h b=some x->x∈h/\x.b=b
 | [],e=>by cases e
 | y::h,e=>by
  unfold fnd at e
  split at e
  · rename_i hb;injection e with e;subst e;exact ⟨List.mem_cons_self,hb⟩
  · have:=fnd_some e;exact ⟨List.mem_cons_of_mem _ this.1,this.2⟩
theorem fnd_none {b:Nat}:∀ {h:List Nd},fnd h b=none↔∀ x∈h,x.b≠b
 | []=>⟨fun _ _ h=>(nomatch h),fun _=>rfl⟩
 | y::h=>by
  unfold fnd
  split
  · rename_i hb;exact ⟨(fun e=>nomatch e),fun e=>absurd hb (e y List.mem_cons_self)⟩
  · rename_i hb
    rw [fnd_none]
    exact ⟨fun e x hx=>by
     rcases List.mem_cons.1 hx with rfl | hx
     · exact hb
     · exact e x hx,fun e x hx=>e x (List.mem_cons_of_mem _ hx)⟩
def setN:List Nd->Nd->List Nd
 | [],_=>[]
 | y::h,x=>if y.b=x.b then x::h else y::setN h x
theorem setN_bs (x:Nd):∀ h:List Nd,(setN h x).map (·.b)=h.map (·.b)
 | []=>rfl
 | y::h=>by
  unfold setN
  split
  · rename_i e;rw [List.map_cons,List.map_cons,e]
  · rw [List.map_cons,List.map_cons,setN_bs x h]
theorem fnd_setN {x y:Nd} {c:Nat}:∀ {h:List Nd},fnd h x.b=some y->fnd (setN h x) c=if c=x.b then some x else fnd h c
 | [],e=>by cases e
 | z::h,e=>by
  rw [fnd_cons] at e
  unfold setN
  by_cases hz:z.b=x.b
  · rw [if_pos hz,fnd_cons,fnd_cons]
    by_cases hc:c=x.b
    · rw [if_pos hc.symm,if_pos hc]
    · rw [if_neg (Ne.symm hc),if_neg hc,if_neg (fun e=>hc (e.symm.trans hz))]
  · rw [if_neg hz] at e ⊢
    rw [fnd_cons,fnd_cons,fnd_setN e]
    by_cases hc:z.b=c
    · rw [if_pos hc,if_neg (fun e2=>hz (hc.trans e2)),if_pos hc]
    · rw [if_neg hc,if_neg hc]
theorem setN_split {x y:Nd}:∀ {h:List Nd},fnd h x.b=some y->∃ h1 h2,h=h1++y::h2/\∀ z:Nd,z.b=x.b->setN h z=h1++z::h2
 | [],e=>by cases e
 | w::h,e=>by
  rw [fnd_cons] at e
  by_cases hw:w.b=x.b
  · rw [if_pos hw] at e;injection e with e;subst e
    exact ⟨[],h,rfl,fun z hz=>by unfold setN;rw [if_pos (hw.trans hz.symm)];rfl⟩
  · rw [if_neg hw] at e
    obtain ⟨h1,h2,e1,e2⟩:=setN_split e
    exact ⟨w::h1,h2,by rw [e1];rfl,fun z hz=>by unfold setN;rw [if_neg (fun e=>hw (e.trans hz)),e2 z hz];rfl⟩
structure Tri (h:List Nd) (r:Nat) (m:List Str->Str->Option Int):Prop where
 nd:(h.map (·.b)).Nodup
 root:(fnd h r).isSome
 cl:∀ b l c,kid h b l=some c->(fnd h c).isSome
 inj:∀ p q c,fol h r p=some c->fol h r q=some c->p=q
 nn:∀ b x,fnd h b=some x->(x.next.map (·.1)).Nodup/\(x.keys.map (·.1)).Nodup
 has:∀ p c x,fol h r p=some c->fnd h c=some x->∀ k,lookA k x.keys=m p k
 all:∀ p k,fol h r p=none->m p k=none
 dep:∀ p c,fol h r p=some c->p.length<=65536
section
variable {h:List Nd} {r:Nat} {m:List Str->Str->Option Int}
theorem Tri.at (t:Tri h r m) {p:List Str}:∀ {c:Nat},fol h r p=some c->∃ x,fnd h c=some x:=by
 have key:∀ (p:List Str) (b c:Nat),(fnd h b).isSome->fol h b p=some c->(fnd h c).isSome:=by
  intro p
  induction p with
  | nil=>intro b c hb e;injection e with e;subst e;exact hb
  | cons l p ih =>
   intro b c hb e
   unfold fol at e
   cases hk:kid h b l with
   | none=>rw [hk] at e;cases e
   | some d=>rw [hk] at e;exact ih d c (t.cl b l d hk) e
 intro c e
 exact Option.isSome_iff_exists.1 (key p r c t.root e)
theorem kid_set {h:List Nd} {c:Nat} {l:Str} {x y:Nd} (hy:fnd h x.b=some y):kid (setN h x) c l=if c=x.b then lookA l x.next else kid h c l:=by
 unfold kid
 rw [fnd_setN hy]
 split<;>rfl
theorem Tri.keys (t:Tri h r m) {p:List Str} {c:Nat} {x:Nd} (hp:fol h r p=some c) (hx:fnd h c=some x) {ks:List (Str×Int)} (hn:(ks.map (·.1)).Nodup) :
  Tri (setN h { x with keys:=ks }) r (fun q k=>if q=p then lookA k ks else m q k)/\∀ q,fol (setN h { x with keys:=ks }) r q=fol h r q:=by
 obtain ⟨_,hxb⟩:=fnd_some hx
 have ek:∀ b l,kid (setN h { x with keys:=ks }) b l=kid h b l:=fun b l=>by
  rw [kid_set (x:={ x with keys:=ks }) (hxb.symm▸hx)]
  split
  · rename_i e;rw [e];unfold kid;rw [show fnd h x.b=some x from hxb.symm▸hx];rfl
  · rfl
 have ef:∀ p b,fol (setN h { x with keys:=ks }) b p=fol h b p:=fun p=>by
  induction p with
  | nil=>exact fun b=>rfl
  | cons l p ih=>intro b;unfold fol;rw [ek];congr 1;funext c;exact ih c
 have en:∀ b,fnd (setN h { x with keys:=ks }) b=if b=c then some { x with keys:=ks } else fnd h b:=fun b=>by
  rw [fnd_setN (x:={ x with keys:=ks }) (hxb.symm▸hx:fnd h x.b=some x)];show (if b=x.b then _ else _)=_;rw [hxb]
 refine ⟨⟨by rw [setN_bs];exact t.nd,?_,fun b l d hk=>?_,fun p q d h1 h2=>t.inj p q d (by rw [<-ef];exact h1) (by rw [<-ef];exact h2),fun b y hy=>?_,fun q d y hq hy k=>?_,fun q k hq=>?_,fun q d hq=>t.dep q d (by rw [<-ef];exact hq)⟩,fun q=>ef q r⟩
 · rw [en];split
   · rfl
   · exact t.root
 · rw [en];split
   · rfl
   · exact t.cl b l d (by rw [<-ek];exact hk)
 · rw [en] at hy
   split at hy
   · injection hy with hy;subst hy;exact ⟨(t.nn c x hx).1,hn⟩
   · exact t.nn b y hy
 · rw [ef] at hq
   rw [en] at hy
   split at hy
   · rename_i e;subst e;injection hy with hy;subst hy
     rw [if_pos (t.inj _ _ _ hq hp)]
   · rename_i e
     rw [if_neg (fun e2=>e (by rw [e2,hp] at hq;injection hq with hq;exact hq.symm))]
     exact t.has q d y hq hy k
 · rw [ef] at hq
   show (if q=p then _ else _)=_
   rw [if_neg (fun e=>by rw [e,hp] at hq;cases hq)]
   exact t.all q k hq
theorem Tri.sprout (t:Tri h r m) {p:List Str} {c:Nat} {x y:Nd} {l:Str} (hp:fol h r p=some c) (hx:fnd h c=some x) (hl:lookA l x.next=none) (hy:fnd h y.b=none) (hy1:y.next=[]) (hy2:y.keys=[]) (hd:p.length<65536) :
  Tri (y::setN h { x with next:=updA l y.b x.next }) r m/\∀ q,fol (y::setN h { x with next:=updA l y.b x.next }) r q=if q=p++[l] then some y.b else fol h r q:=by
 obtain ⟨_,hxb⟩:=fnd_some hx
 have hyc:y.b≠c:=fun e=>by rw [e,hx] at hy;cases hy
 generalize hx':({ x with next:=updA l y.b x.next }:Nd)=x'
 have hxb':x'.b=c:=by rw [<-hx'];exact hxb
 have en:∀ b,fnd (y::setN h x') b=if b=y.b then some y else if b=c then some x' else fnd h b:=fun b=>by
  rw [fnd_cons]
  by_cases e:b=y.b
  · rw [if_pos e.symm,if_pos e]
  · rw [if_neg (Ne.symm e),if_neg e,fnd_setN (hxb'.symm▸hx:fnd h x'.b=some x),hxb']
 have ek:∀ b l',kid (y::setN h x') b l'=if b=y.b then none else if b=c then (if l'=l then some y.b else kid h b l') else kid h b l':=fun b l'=>by
  have e1:kid (y::setN h x') b l'=(fnd (y::setN h x') b).bind fun z=>lookA l' z.next:=rfl
  rw [e1,en]
  by_cases e:b=y.b
  · rw [if_pos e,if_pos e];show lookA l' y.next=none;rw [hy1];rfl
  · rw [if_neg e,if_neg e]
    by_cases e2:b=c
    · rw [if_pos e2,if_pos e2]
      show lookA l' x'.next=_
      rw [<-hx']
      show lookA l' (updA l y.b x.next)=_
      rw [lookA_upd]
      subst e2
      split
      · rfl
      · unfold kid;rw [hx];rfl
    · rw [if_neg e2,if_neg e2];rfl
 have ekc:kid h c l=none:=by unfold kid;rw [hx];exact hl
 have key:∀ q:List Str,fol (y::setN h x') r q.reverse=if q.reverse=p++[l] then some y.b else fol h r q.reverse:=by
  intro q
  induction q with
  | nil=>rw [if_neg (by simp)];rfl
  | cons l' q ih =>
   rw [List.reverse_cons]
   generalize q.reverse=q at ih ⊢
   rw [fol_snoc,fol_snoc,ih]
   by_cases e:q=p++[l]
   · rw [if_pos e,if_neg (by rw [e];intro h;have:=congrArg List.length h;simp at this)]
     show kid _ y.b l'=_
     rw [ek,if_pos rfl,e,fol_snoc,hp]
     show none=(kid h c l).bind _
     rw [ekc];rfl
   · rw [if_neg e]
     cases hq:fol h r q with
     | none =>
      rw [if_neg]
      · rfl
      · intro e2
        obtain ⟨e3,_⟩:=List.append_inj' e2 rfl
        rw [e3,hp] at hq;cases hq
     | some b =>
      show kid _ b l'=if _ then _ else kid h b l'
      obtain ⟨z,hz⟩:=t.at hq
      rw [ek,if_neg (fun e=>by rw [e,hy] at hz;cases hz)]
      by_cases e2:b=c
      · rw [if_pos e2]
        subst e2
        have:=t.inj _ _ _ hq hp
        subst this
        by_cases e3:l'=l
        · rw [if_pos e3,if_pos (by rw [e3])]
        · rw [if_neg e3,if_neg]
          intro e4
          have:=List.append_cancel_left e4
          injection this with h1 _
          exact e3 h1
      · rw [if_neg e2,if_neg]
        intro e3
        obtain ⟨e4,_⟩:=List.append_inj' e3 rfl
        rw [e4,hp] at hq
        injection hq with hq
        exact e2 hq.symm
 have ef:∀ q,fol (y::setN h x') r q=if q=p++[l] then some y.b else fol h r q:=fun q=>by have:=key q.reverse;rwa [List.reverse_reverse] at this
 have hnp:fol h r (p++[l])=none:=by rw [fol_snoc,hp];exact ekc
 refine ⟨⟨?_,?_,fun b l' d hk=>?_,fun q q' d h1 h2=>?_,fun b z hz=>?_,fun q d z hq hz k=>?_,fun q k hq=>?_,fun q d hq=>?_⟩,ef⟩
 · rw [List.map_cons,List.nodup_cons]
   rw [setN_bs]
   refine ⟨fun hm=>?_,t.nd⟩
   obtain ⟨z,hz,e⟩:=List.mem_map.1 hm
   exact fnd_none.1 hy z hz e
 · rw [en];split
   · rfl
   · split
     · rfl
     · exact t.root
 · rw [ek] at hk
   rw [en]
   split at hk
   · cases hk
   · split at hk
     · split at hk
       · injection hk with hk;rw [if_pos hk.symm];rfl
       · split
         · rfl
         · split
           · rfl
           · exact t.cl _ _ _ hk
     · split
       · rfl
       · split
         · rfl
         · exact t.cl _ _ _ hk
 · rw [ef] at h1 h2
   have hd:∀ q:List Str,fol h r q=some y.b->False:=fun q hq=>by obtain ⟨z,hz⟩:=t.at hq;rw [hy] at hz;cases hz
   split at h1
   · rename_i e
     injection h1 with h1;subst h1
     split at h2
     · rename_i e2;rw [e,e2]
     · exact (hd _ h2).elim
   · split at h2
     · injection h2 with h2;subst h2;exact (hd _ h1).elim
     · exact t.inj _ _ _ h1 h2
 · rw [en] at hz
   split at hz
   · injection hz with hz;subst hz;rw [hy1,hy2];exact ⟨List.nodup_nil,List.nodup_nil⟩
   · split at hz
     · injection hz with hz;subst hz
       rw [<-hx']
       exact ⟨updA_nodup (t.nn c x hx).1,(t.nn c x hx).2⟩
     · exact t.nn _ _ hz
 · rw [ef] at hq
   rw [en] at hz
   split at hq
   · rename_i e
     injection hq with hq;subst hq
     rw [if_pos rfl] at hz
     injection hz with hz;subst hz
     rw [hy2,e]
     exact (t.all _ k hnp).symm
   · obtain ⟨z',hz'⟩:=t.at hq
     rw [if_neg (fun e=>by rw [e,hy] at hz';cases hz')] at hz
     split at hz
     · rename_i e;subst e
       injection hz with hz;subst hz
       rw [<-hx']
       exact t.has _ _ _ hq hx k
     · exact t.has _ _ _ hq hz k
 · rw [ef] at hq
   split at hq
   · cases hq
   · exact t.all _ k hq
 · rw [ef] at hq
   split at hq
   · rename_i e;rw [e];simp;omega
   · exact t.dep _ _ hq
theorem Tri.prune (t:Tri h r m) {p:List Str} {c d:Nat} {x y:Nd} {l:Str} (hp:fol h r p=some c) (hx:fnd h c=some x) (hl:lookA l x.next=some d) (hy:fnd h d=some y) (hy1:y.next=[]) (hy2:y.keys=[]) :
  Tri (setN h { x with next:=dropA l x.next }) r m/\∀ q,¬ (p++[l]) <+: q->fol (setN h { x with next:=dropA l x.next }) r q=fol h r q:=by
 obtain ⟨_,hxb⟩:=fnd_some hx
 have hnx:=(t.nn c x hx).1
 generalize hx':({ x with next:=dropA l x.next }:Nd)=x'
 have hxb':x'.b=c:=by rw [<-hx'];exact hxb
 have en:∀ b,fnd (setN h x') b=if b=c then some x' else fnd h b:=fun b=>by rw [fnd_setN (hxb'.symm▸hx:fnd h x'.b=some x),hxb']
 have ek:∀ b l',kid (setN h x') b l'=if b=c/\l'=l then none else kid h b l':=fun b l'=>by
  rw [kid_set (hxb'.symm▸hx:fnd h x'.b=some x),hxb']
  by_cases e2:b=c
  · rw [if_pos e2,<-hx']
    show lookA l' (dropA l x.next)=_
    rw [lookA_drop hnx]
    subst e2
    by_cases e3:l'=l
    · rw [if_pos e3,if_pos ⟨rfl,e3⟩]
    · rw [if_neg e3,if_neg (fun e=>e3 e.2)];unfold kid;rw [hx];rfl
  · rw [if_neg e2,if_neg (fun e=>e2 e.1)]
 have ekc:kid h c l=some d:=by unfold kid;rw [hx];exact hl
 have hpl:fol h r (p++[l])=some d:=by rw [fol_snoc,hp];exact ekc
 have key:∀ q:List Str,fol (setN h x') r q.reverse=if (p++[l]) <+: q.reverse then none else fol h r q.reverse:=by
  intro q
  induction q with
  | nil=>rw [if_neg (by simp)];rfl
  | cons l' q ih =>
   rw [List.reverse_cons]
   generalize q.reverse=q at ih ⊢
   rw [fol_snoc,fol_snoc,ih]
   by_cases e:(p++[l]) <+: q
   · rw [if_pos e,if_pos (e.trans (List.prefix_append ..))];rfl
   · rw [if_neg e]
     cases hq:fol h r q with
     | none=>show none=if _ then none else none;split<;>rfl
     | some b =>
      show kid _ b l'=if _ then _ else kid h b l'
      rw [ek]
      by_cases e2:b=c/\l'=l
      · obtain ⟨e2,e3⟩:=e2
        subst e2;subst e3
        have:=t.inj _ _ _ hq hp
        subst this
        rw [if_pos ⟨rfl,rfl⟩,if_pos (List.prefix_refl _)]
      · rw [if_neg e2,if_neg]
        intro e3
        rcases List.prefix_concat_iff.1 e3 with e3 | e3
        · obtain ⟨e4,e5⟩:=List.append_inj' e3 rfl
          injection e5 with e5 _
          rw [<-e4,hp] at hq
          injection hq with hq
          exact e2 ⟨hq.symm,e5.symm⟩
        · exact e e3
 have ef:∀ q,fol (setN h x') r q=if (p++[l]) <+: q then none else fol h r q:=fun q=>by have:=key q.reverse;rwa [List.reverse_reverse] at this
 have efs:∀ q e,fol (setN h x') r q=some e->fol h r q=some e:=fun q e he=>by
  rw [ef] at he
  split at he
  · cases he
  · exact he
 refine ⟨⟨by rw [setN_bs];exact t.nd,?_,fun b l' e hk=>?_,fun q q' e h1 h2=>t.inj _ _ _ (efs _ _ h1) (efs _ _ h2),fun b z hz=>?_,fun q e z hq hz k=>?_,fun q k hq=>?_,fun q e hq=>t.dep _ _ (efs _ _ hq)⟩,fun q hq=>by rw [ef,if_neg hq]⟩
 · rw [en];split
   · rfl
   · exact t.root
 · rw [ek] at hk
   split at hk
   · cases hk
   · rw [en];split
     · rfl
     · exact t.cl _ _ _ hk
 · rw [en] at hz
   split at hz
   · injection hz with hz;subst hz
     rw [<-hx']
     exact ⟨dropA_nodup hnx,(t.nn c x hx).2⟩
   · exact t.nn _ _ hz
 · have hq':=efs _ _ hq
   rw [en] at hz
   split at hz
   · rename_i e2;subst e2
     injection hz with hz;subst hz
     rw [<-hx']
     exact t.has _ _ _ hq' hx k
   · exact t.has _ _ _ hq' hz k
 · rw [ef] at hq
   split at hq
   · rename_i e
     obtain ⟨s,rfl⟩:=e
     cases s with
     | nil =>
      rw [List.append_nil,<-t.has _ _ _ hpl hy k,hy2];rfl
     | cons l' s =>
      refine t.all _ k ?_
      rw [fol_app,hpl]
      show fol h d (l'::s)=none
      have:kid h d l'=none:=by unfold kid;rw [hy];show lookA l' y.next=none;rw [hy1];rfl
      unfold fol;rw [this];rfl
   · exact t.all _ k hq
end
theorem tri_new (b nm km:Nat):Tri [⟨b,nm,km,[],[]⟩] b fun _ _=>none:=by
 have hk:∀ c l,kid [⟨b,nm,km,[],[]⟩] c l=none:=fun c l=>by
  unfold kid fnd
  split<;>rfl
 have hf:∀ p c,fol [⟨b,nm,km,[],[]⟩] b p=some c->p=[]:=fun p c e=>by
  cases p with
  | nil=>rfl
  | cons l p=>unfold fol at e;rw [hk] at e;cases e
 have hn:∀ c x,fnd [⟨b,nm,km,[],[]⟩] c=some x->x=⟨b,nm,km,[],[]⟩:=fun c x e=>by
  have:=(fnd_some e).1
  simpa using this
 refine ⟨by simp,?_,fun c l d e=>?_,fun p q c h1 h2=>?_,fun c x e=>?_,fun p c x _ e k=>?_,fun _ _ _=>rfl,fun p c e=>?_⟩
 · unfold fnd;rw [if_pos rfl];rfl
 · rw [hk] at e;cases e
 · rw [hf _ _ h1,hf _ _ h2]
 · rw [hn _ _ e];exact ⟨List.nodup_nil,List.nodup_nil⟩
 · rw [hn _ _ e];rfl
 · rw [hf _ _ e];exact Nat.zero_le _
def mx:Option Int->Option Int->Option Int
 | none,b=>b
 | some a,none=>some a
 | some a,some b=>some (if a<b then b else a)
theorem mx_none (a:Option Int):mx a none=a:=by cases a<;>rfl
theorem none_mx (a:Option Int):mx none a=a:=rfl
theorem mx_assoc (a b c:Option Int):mx (mx a b) c=mx a (mx b c):=by
 cases a<;>cases b<;>cases c<;>simp only [mx,Option.some.injEq]
 repeat' split
 all_goals first | rfl | omega
def vis:Bool->List Str->List (List Str)
 | wild,[]=>(if wild=true then [[[35]]] else [])++[[]]
 | wild,x::t=>(if wild=true then [[35]]::(vis true t).map ([43] :: ·) else [])++(vis true t).map (x :: ·)
def foldG {α:Type} (g:α->Option Int) (S:List α) (a:Option Int):Option Int:=S.foldl (fun a s=>mx a (g s)) a
section
variable {α:Type} {g:α->Option Int}
theorem foldG_app (S T:List α) (a:Option Int):foldG g (S++T) a=foldG g T (foldG g S a):=List.foldl_append ..
theorem foldG_cons (s:α) (S:List α) (a:Option Int):foldG g (s::S) a=foldG g S (mx a (g s)):=rfl
theorem foldG_a:∀ (S:List α) (a:Option Int),foldG g S a=mx a (foldG g S none)
 | [],a=>(mx_none a).symm
 | s::S,a=>by rw [foldG_cons,foldG_cons,foldG_a S (mx a (g s)),foldG_a S (mx none (g s)),mx_assoc];rfl
theorem foldG_isSome:∀ (S:List α) (a:Option Int),a.isSome=true->(foldG g S a).isSome=true
 | [],_,h=>h
 | s::S,a,h=>by
  rw [foldG_cons]
  refine foldG_isSome S _ ?_
  cases a with
  | none=>cases h
  | some a=>cases g s<;>rfl
theorem foldG_empty {S:List α} (h:foldG g S none=none):∀ s∈S,g s=none:=by
 intro s hs
 cases hg:g s with
 | none=>rfl
 | some b =>
  obtain ⟨S1,S2,rfl⟩:=List.append_of_mem hs
  rw [foldG_app,foldG_cons,hg] at h
  have:=foldG_isSome (g:=g) S2 (mx (foldG g S1 none) (some b)) (by cases foldG g S1 none<;>rfl)
  rw [h] at this;cases this
theorem foldG_some:∀ (S:List α) (q:Int),foldG g S none=some q↔(∃ s∈S,g s=some q)/\∀ s∈S,∀ q',g s=some q'->q'<=q
 | [],q=>⟨(fun h=>nomatch h),fun h=>by obtain ⟨⟨_,h,_⟩,_⟩:=h;cases h⟩
 | s::S,q=>by
  have ih:=foldG_some S
  rw [foldG_cons,none_mx,foldG_a]
  cases h1:g s with
  | none =>
   rw [none_mx,ih]
   constructor
   · rintro ⟨⟨t,ht,ht2⟩,h3⟩
     refine ⟨⟨t,List.mem_cons_of_mem _ ht,ht2⟩,fun u hu q' hq=>?_⟩
     rcases List.mem_cons.1 hu with rfl | hu
     · rw [h1] at hq;cases hq
     · exact h3 u hu q' hq
   · rintro ⟨⟨t,ht,ht2⟩,h3⟩
     refine ⟨?_,fun u hu q' hq=>h3 u (List.mem_cons_of_mem _ hu) q' hq⟩
     rcases List.mem_cons.1 ht with rfl | ht
     · rw [h1] at ht2;cases ht2
     · exact ⟨t,ht,ht2⟩
  | some a =>
   cases h2:foldG g S none with
   | none =>
    have hn:=foldG_empty h2
    show some a=some q↔_
    constructor
    · intro e;injection e with e;subst e
      refine ⟨⟨s,List.mem_cons_self,h1⟩,fun u hu q' hq=>?_⟩
      rcases List.mem_cons.1 hu with rfl | hu
      · rw [h1] at hq;injection hq with hq;omega
      · rw [hn u hu] at hq;cases hq
    · rintro ⟨⟨t,ht,ht2⟩,h3⟩
      rcases List.mem_cons.1 ht with rfl | ht
      · rw [h1] at ht2;exact ht2
      · rw [hn t ht] at ht2;cases ht2
   | some b =>
    have h3:=(ih b).1 h2
    show some (if a<b then b else a)=some q↔_
    constructor
    · intro e
      injection e with e
      refine ⟨?_,fun u hu q' hq=>?_⟩
      · split at e
        · subst e
          obtain ⟨t,ht,ht2⟩:=h3.1
          exact ⟨t,List.mem_cons_of_mem _ ht,ht2⟩
        · subst e;exact ⟨s,List.mem_cons_self,h1⟩
      · rcases List.mem_cons.1 hu with rfl | hu
        · rw [h1] at hq;injection hq with hq;split at e<;>omega
        · have:=h3.2 u hu q' hq;split at e<;>omega
    · rintro ⟨⟨t,ht,ht2⟩,h4⟩
      have h5:=h4 s List.mem_cons_self a h1
      obtain ⟨u,hu,hu2⟩:=h3.1
      have h6:=h4 u (List.mem_cons_of_mem _ hu) b hu2
      congr 1
      rcases List.mem_cons.1 ht with rfl | ht
      · rw [h1] at ht2;injection ht2 with ht2;split<;>omega
      · have:=h3.2 t ht q ht2;split<;>omega
end
def foldM (m:List Str->Str->Option Int) (p:List Str) (S:List (List Str)) (k:Str) (a:Option Int):Option Int:=foldG (fun s=>m (p++s) k) S a
def endS:List Str->Prop
 | []=>True
 | [_]=>True
 | x::y::a=>x≠[35]/\endS (y::a)
theorem endS_tail {x:Str} {a:List Str} (h:endS (x::a)):endS a:=by
 cases a with
 | nil=>trivial
 | cons y a=>exact h.2
theorem vis_goes:∀ (a b:List Str),endS a->(∀ y∈b,y≠[35]/\y≠[43])->(a∈vis true b↔goesM a b=true)
 | [],[],_,_=>by simp [vis,goesM]
 | [],y::b,_,_=>by simp [vis,goesM]
 | x::a,[],ha,_=>by
  simp only [vis,if_true,goesM,List.cons_append,List.nil_append,List.mem_cons,List.not_mem_nil,or_false,Bool.or_false,beq_iff_eq]
  constructor
  · rintro (h | h)
    · injection h
    · cases h
  · intro h
    subst h
    cases a with
    | nil=>exact .inl rfl
    | cons y a=>exact absurd rfl ha.1
 | x::a,y::b,ha,hb=>by
  have ih:=vis_goes a b (endS_tail ha) fun z hz=>hb z (List.mem_cons_of_mem _ hz)
  have hy:=hb y List.mem_cons_self
  simp only [vis,if_true,goesM,List.cons_append,List.mem_cons,List.mem_append,List.mem_map,Bool.or_eq_true,Bool.and_eq_true,beq_iff_eq]
  constructor
  · rintro (h | ⟨t,ht,h⟩ | ⟨t,ht,h⟩)
    · injection h with h1 h2;exact .inl h1
    · injection h with h1 h2;subst h1;subst h2;exact .inr ⟨.inl rfl,ih.1 ht⟩
    · injection h with h1 h2;subst h1;subst h2;exact .inr ⟨.inr rfl,ih.1 ht⟩
  · rintro (h | ⟨h | h,h2⟩)
    · subst h
      cases a with
      | nil=>exact .inl rfl
      | cons z a=>exact absurd rfl ha.1
    · subst h;exact .inr (.inl ⟨a,ih.2 h2,rfl⟩)
    · subst h;exact .inr (.inr ⟨a,ih.2 h2,rfl⟩)
theorem vis_goes0 (a:List Str) (y:Str) (b:List Str) (ha:endS a) (hb:∀ z∈y::b,z≠[35]/\z≠[43]):a∈vis false (y::b)↔(goesM a (y::b)=true/\a.getD 0 []≠[43]/\a.getD 0 []≠[35]):=by
 have hy:=hb y List.mem_cons_self
 cases a with
 | nil=>simp [vis,goesM]
 | cons x a =>
  have ih:=vis_goes a b (endS_tail ha) fun z hz=>hb z (List.mem_cons_of_mem _ hz)
  simp only [vis,Bool.false_eq_true,if_false,List.nil_append,List.mem_map,goesM,Bool.or_eq_true,Bool.and_eq_true,beq_iff_eq,List.getD_cons_zero]
  constructor
  · rintro ⟨t,ht,h⟩
    injection h with h1 h2;subst h1;subst h2
    exact ⟨.inr ⟨.inr rfl,ih.1 ht⟩,hy.2,hy.1⟩
  · rintro ⟨h | ⟨h | h,h2⟩,h3,h4⟩
    · exact absurd h h4
    · exact absurd h h3
    · subst h;exact ⟨a,ih.2 h2,rfl⟩
def joinS (p:List Str):Str:=[47].intercalate p
theorem joinS_one (x:Str):joinS [x]=x:=by simp [joinS,List.intercalate,List.intersperse]
theorem joinS_two (x y:Str) (p:List Str):joinS (x::y::p)=x++47::joinS (y::p):=by simp [joinS,List.intercalate,List.intersperse]
theorem spl_step (c:UInt8) (l:Str):spl (c::l)=if c=47 then []::spl l else (c::(spl l).headD [])::(spl l).tail:=rfl
theorem spl_ne (l:Str):spl l≠[]:=by
 cases l with
 | nil=>simp [spl]
 | cons c l=>unfold spl;split<;>simp
theorem joinS_spl:∀ l:Str,joinS (spl l)=l
 | []=>joinS_one []
 | c::l=>by
  have ih:=joinS_spl l
  unfold spl
  cases hs:spl l with
  | nil=>exact absurd hs (spl_ne l)
  | cons x p =>
   rw [hs] at ih
   split
   · rename_i hc
     rw [joinS_two,ih,hc];rfl
   · simp only [List.headD_cons,List.tail_cons]
     cases p with
     | nil=>rw [joinS_one] at ih ⊢;rw [ih]
     | cons y p=>rw [joinS_two] at ih ⊢;rw [List.cons_append,ih]
abbrev TL:=List ((Str×Str)×Int)
def mOf (L:TL) (p:List Str) (k:Str):Option Int:=if spl (joinS p)=p then lookA (joinS p,k) L else none
theorem mOf_at (L:TL) (f k:Str):mOf L (spl f) k=lookA (f,k) L:=by unfold mOf;rw [joinS_spl,if_pos rfl]
theorem mOf_nil:mOf []=fun _ _=>none:=by funext p k;unfold mOf;split<;>rfl
theorem dropA_none {α β:Type} [DecidableEq α] {k:α}:∀ {l:List (α×β)},lookA k l=none->dropA k l=l
 | [],_=>rfl
 | x::l,h=>by
  unfold lookA at h
  unfold dropA
  by_cases e:k=x.1
  · rw [if_pos e] at h;cases h
  · rw [if_neg e] at h ⊢;rw [dropA_none h]
theorem dropA_len {α β:Type} [DecidableEq α] {k:α} {v:β}:∀ {l:List (α×β)},lookA k l=some v->(dropA k l).length+1=l.length
 | [],h=>by cases h
 | x::l,h=>by
  unfold lookA at h
  unfold dropA
  by_cases e:k=x.1
  · rw [if_pos e];rfl
  · rw [if_neg e] at h ⊢;have:=dropA_len h;simp only [List.length_cons];omega
abbrev upS (l:List Str):Prop:=l.Pairwise (· < ·)
theorem lt_or {a b:Str} (h:¬ a<b):b<a\/a=b:=by
 rcases List.le_iff_lt_or_eq.1 (List.not_lt.1 h) with h | h
 · exact .inl h
 · exact .inr h.symm
def intoS (l:List Str) (s:Str):List Str:=(l.takeWhile fun x=>decide (x<s))++match l.dropWhile fun x=>decide (x<s) with
 | []=>[s]
 | y::r=>if y=s then y::r else s::y::r
theorem into_mem {l:List Str} {s x:Str}:x∈intoS l s↔x∈l\/x=s:=by
 unfold intoS
 have e:x∈l↔x∈l.takeWhile (fun x=>decide (x<s))\/x∈l.dropWhile (fun x=>decide (x<s)):=by
  rw [<-List.mem_append,List.takeWhile_append_dropWhile]
 rw [List.mem_append,e]
 generalize l.takeWhile _=a
 generalize l.dropWhile _=b
 cases b with
 | nil=>simp
 | cons y r =>
  simp only
  split
  · rename_i h;subst h
    simp only [List.mem_cons]
    constructor
    · exact fun h=>.inl h
    · rintro (h | h)
      · exact h
      · exact .inr (.inl h)
  · simp only [List.mem_cons]
    constructor
    · rintro (h | h | h | h)
      · exact .inl (.inl h)
      · exact .inr h
      · exact .inl (.inr (.inl h))
      · exact .inl (.inr (.inr h))
    · rintro ((h | h | h) | h)
      · exact .inl h
      · exact .inr (.inr (.inl h))
      · exact .inr (.inr (.inr h))
      · exact .inr (.inl h)
theorem into_up {l:List Str} {s:Str} (h:upS l):upS (intoS l s):=by
 have e:=List.takeWhile_append_dropWhile (p:=fun x=>decide (x<s)) (l:=l)
 have ha:∀ x∈l.takeWhile (fun x=>decide (x<s)),x<s:=fun x hx=>by
  have:=List.all_takeWhile (p:=fun x=>decide (x<s)) (l:=l)
  exact of_decide_eq_true (List.all_eq_true.1 this x hx)
 have hb:∀ y r,l.dropWhile (fun x=>decide (x<s))=y::r->¬ y<s:=fun y r hy=>by
  have:=List.head?_dropWhile_not (fun x=>decide (x<s)) l
  rw [hy] at this
  simpa using this
 unfold intoS
 rw [<-e] at h
 generalize l.takeWhile (fun x=>decide (x<s))=a at *
 generalize l.dropWhile (fun x=>decide (x<s))=b at *
 unfold upS at h ⊢
 rw [List.pairwise_append] at h ⊢
 obtain ⟨h1,h2,h3⟩:=h
 cases b with
 | nil=>exact ⟨h1,List.pairwise_singleton _ _,fun x hx y hy=>by rw [List.mem_singleton.1 hy];exact ha x hx⟩
 | cons y r =>
  simp only
  split
  · exact ⟨h1,h2,h3⟩
  · rename_i hne
    have hsy:s<y:=by
     rcases lt_or (hb y r rfl) with h | h
     · exact h
     · exact absurd h hne
    refine ⟨h1,List.pairwise_cons.2 ⟨fun z hz=>?_,h2⟩,fun x hx z hz=>?_⟩
    · rcases List.mem_cons.1 hz with rfl | hz
      · exact hsy
      · exact List.lt_trans hsy ((List.pairwise_cons.1 h2).1 z hz)
    · rcases List.mem_cons.1 hz with rfl | hz
      · exact ha x hx
      · exact h3 x hx z hz
theorem up_uniq {l l':List Str} (h:upS l) (h':upS l') (hm:∀ x,x∈l↔x∈l'):l=l':=by
 have n1:l.Nodup:=h.imp fun hlt e=>absurd (e▸hlt) (List.lt_irrefl _)
 have n2:l'.Nodup:=h'.imp fun hlt e=>absurd (e▸hlt) (List.lt_irrefl _)
 exact List.Perm.eq_of_pairwise (le:=(· < ·)) (fun a b _ _ h1 h2=>absurd (List.lt_trans h1 h2) (List.lt_irrefl _)) h h' ((List.perm_ext_iff_of_nodup n1 n2).2 hm)
def keysL (L:TL) (f:Str):List Str:=L.foldl (fun a e=>if e.1.1=f then intoS a e.1.2 else a) []
theorem fold_into {g:(Str×Str)×Int->Option Str}:∀ (L:TL) (a:List Str),upS a->upS (L.foldl (fun a e=>match g e with | some s=>intoS a s | none=>a) a)/\∀ x,x∈L.foldl (fun a e=>match g e with | some s=>intoS a s | none=>a) a↔x∈a\/∃ e∈L,g e=some x
 | [],a,h=>⟨h,fun x=>by simp⟩
 | e::L,a,h=>by
  rw [List.foldl_cons]
  cases hg:g e with
  | none =>
   obtain ⟨h1,h2⟩:=fold_into (g:=g) L a h
   refine ⟨h1,fun x=>?_⟩
   rw [h2]
   simp only [List.mem_cons,exists_eq_or_imp,hg]
   simp
  | some s =>
   obtain ⟨h1,h2⟩:=fold_into (g:=g) L (intoS a s) (into_up h)
   refine ⟨h1,fun x=>?_⟩
   rw [h2,into_mem]
   simp only [List.mem_cons,exists_eq_or_imp,hg,Option.some.injEq]
   constructor
   · rintro ((h | h) | h)
     · exact .inl h
     · exact .inr (.inl h.symm)
     · exact .inr (.inr h)
   · rintro (h | h | h)
     · exact .inl (.inl h)
     · exact .inl (.inr h.symm)
     · exact .inr h
theorem keys_is (L:TL) (f:Str):upS (keysL L f)/\∀ x,x∈keysL L f↔∃ e∈L,e.1.1=f/\e.1.2=x:=by
 have:=fold_into (g:=fun e=>if e.1.1=f then some e.1.2 else none) L [] List.Pairwise.nil
 have e:keysL L f=L.foldl (fun a e=>match (if e.1.1=f then some e.1.2 else none) with | some s=>intoS a s | none=>a) []:=by
  unfold keysL
  congr 1
  funext a e
  split<;>rfl
 rw [e]
 refine ⟨this.1,fun x=>?_⟩
 rw [this.2]
 simp only [List.not_mem_nil,false_or]
 constructor
 · rintro ⟨e,he,h⟩
   split at h
   · rename_i hf;injection h with h;exact ⟨e,he,hf,h⟩
   · cases h
 · rintro ⟨e,he,hf,h⟩
   exact ⟨e,he,by rw [if_pos hf,h]⟩
def intoH (l:List (Str×Int)) (k:Str) (q:Int):List (Str×Int):=(l.takeWhile fun x=>decide (x.1<k))++match l.dropWhile fun x=>decide (x.1<k) with
 | []=>[(k,q)]
 | y::r=>if y.1=k then (y.1,max y.2 q)::r else (k,q)::y::r
theorem intoH_keys {l:List (Str×Int)} {k:Str} {q:Int}:(intoH l k q).map (·.1)=intoS (l.map (·.1)) k:=by
 unfold intoH intoS
 rw [List.takeWhile_map,List.dropWhile_map,List.map_append]
 congr 1
 show _=match List.map (·.1) (l.dropWhile fun x=>decide (x.1<k)) with | []=>_ | y::r=>_
 cases l.dropWhile (fun x=>decide (x.1<k)) with
 | nil=>rfl
 | cons y r =>
  simp only [List.map_cons]
  split<;>simp
theorem lookA_cons {α β:Type} [DecidableEq α] (k:α) (x:α×β) (l:List (α×β)):lookA k (x::l)=if k=x.1 then some x.2 else lookA k l:=rfl
theorem lookA_app {α β:Type} [DecidableEq α] {k:α}:∀ (l r:List (α×β)),lookA k (l++r)=(lookA k l).or (lookA k r)
 | [],r=>rfl
 | x::l,r=>by
  rw [List.cons_append,lookA_cons,lookA_cons]
  split
  · rfl
  · exact lookA_app l r
theorem intoH_look {l:List (Str×Int)} {k j:Str} {q:Int} (h:upS (l.map (·.1))):lookA j (intoH l k q)=if j=k then mx (lookA j l) (some q) else lookA j l:=by
 have e:=List.takeWhile_append_dropWhile (p:=fun x:Str×Int=>decide (x.1<k)) (l:=l)
 have ha:∀ x∈l.takeWhile (fun x=>decide (x.1<k)),x.1<k:=fun x hx=>by
  have:=List.all_takeWhile (p:=fun x:Str×Int=>decide (x.1<k)) (l:=l)
  exact of_decide_eq_true (List.all_eq_true.1 this x hx)
 have hb:∀ y r,l.dropWhile (fun x=>decide (x.1<k))=y::r->¬ y.1<k:=fun y r hy=>by
  have:=List.head?_dropWhile_not (fun x:Str×Int=>decide (x.1<k)) l
  rw [hy] at this
  simpa using this
 unfold intoH
 conv=>rhs;rw [<-e]
 rw [<-e] at h
 generalize l.takeWhile (fun x=>decide (x.1<k))=a at *
 generalize l.dropWhile (fun x=>decide (x.1<k))=b at *
 have han:lookA k a=none:=lookA_none.2 fun x hx hk=>absurd (hk▸ha x hx) (List.lt_irrefl _)
 rw [lookA_app,lookA_app]
 cases b with
 | nil =>
  simp only
  by_cases hj:j=k
  · subst hj;rw [if_pos rfl,han];simp [lookA,mx]
  · rw [if_neg hj];simp [lookA,hj]
 | cons y r =>
  simp only
  by_cases hy:y.1=k
  · rw [if_pos hy]
    by_cases hj:j=k
    · subst hj
      rw [if_pos rfl,han]
      simp only [lookA,hy,if_true,Option.none_or,mx,Option.some.injEq]
      split<;>omega
    · rw [if_neg hj]
      have:¬ j=y.1:=fun e=>hj (e.trans hy)
      simp only [lookA,if_neg this]
  · rw [if_neg hy]
    have hky:k<y.1:=by
     rcases lt_or (hb y r rfl) with h | h
     · exact h
     · exact absurd h hy
    by_cases hj:j=k
    · subst hj
      rw [if_pos rfl,han]
      have hn:lookA j (y::r)=none:=lookA_none.2 fun x hx hk=>by
       unfold upS at h
       rw [List.map_append,List.map_cons,List.pairwise_append,List.pairwise_cons] at h
       rcases List.mem_cons.1 hx with rfl | hx
       · exact absurd (hk▸hky) (List.lt_irrefl _)
       · have:=List.lt_trans hky (h.2.1.1 x.1 (List.mem_map.2 ⟨x,hx,rfl⟩))
         exact absurd (hk▸this) (List.lt_irrefl _)
      rw [hn]
      simp [lookA,mx]
    · rw [if_neg hj]
      have e1:lookA j ((k,q)::y::r)=lookA j (y::r):=by
       conv=>lhs;unfold lookA
       rw [if_neg hj]
      rw [e1]
def matchL (L:TL) (n:Str):List (Str×Int):=L.foldl (fun a e=>if matchB e.1.1 n=true then intoH a e.1.2 e.2 else a) []
theorem match_is (n:Str):∀ (L:TL) (a:List (Str×Int)),upS (a.map (·.1))->upS ((L.foldl (fun a e=>if matchB e.1.1 n=true then intoH a e.1.2 e.2 else a) a).map (·.1)) /\
  ∀ j,lookA j (L.foldl (fun a e=>if matchB e.1.1 n=true then intoH a e.1.2 e.2 else a) a)=foldG (fun e=>if matchB e.1.1 n=true/\e.1.2=j then some e.2 else none) L (lookA j a)
 | [],a,h=>⟨h,fun _=>rfl⟩
 | e::L,a,h=>by
  rw [List.foldl_cons]
  by_cases hm:matchB e.1.1 n=true
  · rw [if_pos hm]
    obtain ⟨h1,h2⟩:=match_is n L (intoH a e.1.2 e.2) (by rw [intoH_keys];exact into_up h)
    refine ⟨h1,fun j=>?_⟩
    rw [h2,foldG_cons,intoH_look h]
    by_cases hj:j=e.1.2
    · rw [if_pos hj,if_pos ⟨hm,hj.symm⟩]
    · rw [if_neg hj,if_neg (fun h=>hj h.2.symm),mx_none]
  · rw [if_neg hm]
    obtain ⟨h1,h2⟩:=match_is n L a h
    refine ⟨h1,fun j=>?_⟩
    rw [h2,foldG_cons,if_neg (fun h=>hm h.1),mx_none]
theorem matchL_up (L:TL) (n:Str):upS ((matchL L n).map (·.1)):=(match_is n L [] List.Pairwise.nil).1
theorem matchL_look (L:TL) (n j:Str):lookA j (matchL L n)=foldG (fun e=>if matchB e.1.1 n=true/\e.1.2=j then some e.2 else none) L none:=(match_is n L [] List.Pairwise.nil).2 j
theorem lookA_isSome {α β:Type} [DecidableEq α] {k:α} {l:List (α×β)}:(lookA k l).isSome=true↔k∈l.map (·.1):=by
 cases h:lookA k l with
 | none =>
  rw [lookA_none] at h
  simp only [Option.isSome_none,Bool.false_eq_true,false_iff]
  intro hm
  obtain ⟨x,hx,e⟩:=List.mem_map.1 hm
  exact h x hx e.symm
 | some v =>
  simp only [Option.isSome_some,true_iff]
  exact List.mem_map.2 ⟨_,lookA_some h,rfl⟩
theorem match_fold {L:TL} (hn:(L.map (·.1)).Nodup) (hf:∀ e∈L,filterB e.1.1=true) {n:Str} {S:List (List Str)} (hS:∀ f,filterB f=true->(spl f∈S↔matchB f n=true)) (j:Str):foldM (mOf L) [] S j none=lookA j (matchL L n):=by
 rw [matchL_look]
 have key:∀ q,foldM (mOf L) [] S j none=some q↔foldG (fun e:(Str×Str)×Int=>if matchB e.1.1 n=true/\e.1.2=j then some e.2 else none) L none=some q:=by
  intro q
  unfold foldM
  rw [foldG_some,foldG_some]
  have e1:∀ q',(∃ s∈S,mOf L ([]++s) j=some q')↔∃ e∈L,(if matchB e.1.1 n=true/\e.1.2=j then some e.2 else none)=some q':=by
   intro q'
   constructor
   · rintro ⟨s,hs,h⟩
     rw [List.nil_append] at h
     unfold mOf at h
     split at h
     · rename_i hsp
       have hm:=lookA_some h
       have hb:=(hS _ (hf _ hm)).1 (by rw [hsp];exact hs)
       exact ⟨_,hm,by rw [if_pos ⟨hb,rfl⟩]⟩
     · cases h
   · rintro ⟨e,he,h⟩
     split at h
     · rename_i hc
       injection h with h
       refine ⟨spl e.1.1,(hS _ (hf _ he)).2 hc.1,?_⟩
       rw [List.nil_append,mOf_at,<-hc.2,<-h]
       exact lookA_mem hn he
     · cases h
  constructor
  · rintro ⟨h1,h2⟩
    refine ⟨(e1 q).1 h1,fun e he q' hq=>?_⟩
    obtain ⟨s,hs,h⟩:=(e1 q').2 ⟨e,he,hq⟩
    exact h2 s hs q' h
  · rintro ⟨h1,h2⟩
    refine ⟨(e1 q).2 h1,fun s hs q' hq=>?_⟩
    obtain ⟨e,he,h⟩:=(e1 q').1 ⟨s,hs,hq⟩
    exact h2 e he q' h
 cases h1:foldM (mOf L) [] S j none with
 | some q=>exact ((key q).1 h1).symm
 | none =>
  cases h2:foldG (fun e:(Str×Str)×Int=>if matchB e.1.1 n=true/\e.1.2=j then some e.2 else none) L none with
  | none=>rfl
  | some q=>rw [(key q).2 h2] at h1;cases h1
theorem hits_eq:∀ {l:List (Str×Int)},(l.map (·.1)).Nodup->l=(l.map (·.1)).map fun k=>(k,(lookA k l).getD 0)
 | [],_=>rfl
 | x::l,h=>by
  rw [List.map_cons,List.nodup_cons] at h
  rw [List.map_cons,List.map_cons]
  congr 1
  · unfold lookA;rw [if_pos rfl];rfl
  · conv=>lhs;rw [hits_eq h.2]
    refine List.map_congr_left fun k hk=>?_
    have:lookA k (x::l)=lookA k l:=by
     rw [lookA_cons,if_neg (fun e=>h.1 (by rw [<-e];exact hk))]
    rw [this]
theorem up_nodup {l:List Str} (h:upS l):l.Nodup:=h.imp fun hlt e=>absurd (e▸hlt) (List.lt_irrefl _)
def sortS (l:List Str):List Str:=l.mergeSort fun x y=>decide (x<=y)
theorem sortS_mem {l:List Str} {x:Str}:x∈sortS l↔x∈l:=(List.mergeSort_perm l _).mem_iff
theorem sortS_len (l:List Str):(sortS l).length=l.length:=List.length_mergeSort l
theorem sortS_up {l:List Str} (h:l.Nodup):upS (sortS l):=by
 have htr:∀ a b c:Str,decide (a<=b)=true->decide (b<=c)=true->decide (a<=c)=true:=fun a b c h1 h2=>by simp only [decide_eq_true_eq] at *;exact List.le_trans h1 h2
 have hto:∀ a b:Str,(decide (a<=b)||decide (b<=a))=true:=fun a b=>by simp only [Bool.or_eq_true,decide_eq_true_eq];exact List.le_total a b
 have hs:=List.pairwise_mergeSort htr hto l
 have hn:(sortS l).Nodup:=(List.mergeSort_perm l _).nodup_iff.2 h
 refine (List.Pairwise.and hs hn).imp fun {a b} hab=>?_
 have h1:=of_decide_eq_true hab.1
 rcases List.le_iff_lt_or_eq.1 h1 with h | h
 · exact h
 · exact absurd h hab.2
theorem sort_is {l r:List Str} (hn:l.Nodup) (hr:upS r) (hm:∀ x,x∈l↔x∈r):sortS l=r:=up_uniq (sortS_up hn) hr fun x=>by rw [sortS_mem,hm]
theorem match_same {L:TL} {n:Str} {o:List (Str×Int)} (ho:(o.map (·.1)).Nodup) (h:∀ j,lookA j o=lookA j (matchL L n)) {ss:List Str} (hs:ss.Perm (o.map (·.1))):(sortS ss).map (fun k=>(k,(lookA k o).getD 0))=matchL L n:=by
 have e:sortS ss=(matchL L n).map (·.1):=sort_is (hs.nodup_iff.2 ho) (matchL_up L n) fun x=>by rw [hs.mem_iff,<-lookA_isSome,<-lookA_isSome,h]
 rw [e]
 conv=>rhs;rw [hits_eq (up_nodup (matchL_up L n))]
 refine List.map_congr_left fun k _=>?_
 rw [h]
theorem levs_is (l:Str):levs l=spl l:=levs_spl l.length l (Nat.le_refl _)
theorem ends_of:∀ {ls:List Str},(∀ i,i+1<ls.length->ls.getD i default≠[35])->endS ls
 | [],_=>trivial
 | [_],_=>trivial
 | x::y::a,h=>⟨h 0 (by simp),ends_of fun i hi=>by have:=h (i+1) (by simpa using hi);simpa using this⟩
theorem ends_filter {f:Str} (h:filterB f=true):endS (spl f):=by
 rw [filter_eq,levs_is,Bool.and_eq_true] at h
 refine ends_of fun i hi e=>?_
 have h0:=List.all_eq_true.1 (show (List.range (spl f).length).all (okAt (spl f))=true from h.2) i (List.mem_range.2 (by omega))
 unfold okAt at h0
 rw [e] at h0
 simp only [Bool.or_eq_true,Bool.and_eq_true,beq_iff_eq,decide_eq_true_eq,Bool.not_eq_true'] at h0
 rcases h0 with (h0 | ⟨_,h0⟩) | h0
 · cases h0
 · omega
 · exact absurd h0 (by decide)
theorem spl_mem {c:UInt8}:∀ {l x:Str},x∈spl l->c∈x->c∈l
 | [],x,h,hc=>by simp [spl] at h;rw [h] at hc;cases hc
 | d::l,x,h,hc=>by
  rw [spl_step] at h
  have ih:=@spl_mem c l
  split at h
  · rcases List.mem_cons.1 h with rfl | h
    · cases hc
    · exact List.mem_cons_of_mem _ (ih h hc)
  · cases hs:spl l with
    | nil=>exact absurd hs (spl_ne l)
    | cons y p =>
     rw [hs] at h ih
     simp only [List.headD_cons,List.tail_cons] at h
     rcases List.mem_cons.1 h with rfl | h
     · rcases List.mem_cons.1 hc with rfl | hc
       · exact List.mem_cons_self
       · exact List.mem_cons_of_mem _ (ih List.mem_cons_self hc)
     · exact List.mem_cons_of_mem _ (ih (List.mem_cons_of_mem _ h) hc)
theorem name_lev {n:Str} (h:nameB n=true):∀ y∈spl n,y≠[35]/\y≠[43]:=by
 rw [name_eq,Bool.and_eq_true,Bool.not_eq_true'] at h
 have hw:=h.2
 unfold wildT at hw
 rw [List.any_eq_false] at hw
 refine fun y hy=>⟨fun e=>?_,fun e=>?_⟩
 · have:=hw 35 (spl_mem hy (by rw [e];exact List.mem_cons_self));simp at this
 · have:=hw 43 (spl_mem hy (by rw [e];exact List.mem_cons_self));simp at this
theorem hid_is (n:Str):hidT ((spl n).getD 0 default)=hidT n:=by
 cases n with
 | nil=>rfl
 | cons c l =>
  rw [spl_step]
  split
  · rename_i h;subst h;rfl
  · rfl
theorem vis_match {f n:Str} (hf:filterB f=true) (hn:nameB n=true):spl f∈vis (!hidT n) (spl n)↔matchB f n=true:=by
 rw [<-match_eq,hf,hn,levs_is,levs_is]
 simp only [Bool.true_and]
 unfold matchM
 rw [hid_is]
 have he:=ends_filter hf
 have hl:=name_lev hn
 cases hh:hidT n with
 | false =>
  rw [Bool.not_false,vis_goes _ _ he hl];simp
 | true =>
  rw [Bool.not_true]
  cases hs:spl n with
  | nil=>exact absurd hs (spl_ne n)
  | cons y b =>
   rw [hs] at hl
   rw [vis_goes0 _ y b he hl]
   have ed:(default:Str)=[]:=rfl
   rw [ed]
   simp only [Bool.true_and,Bool.and_eq_true,Bool.not_eq_true',Bool.or_eq_false_iff,beq_eq_false_iff_ne,ne_eq]
   exact ⟨fun h=>⟨⟨h.2.1,h.2.2⟩,h.1⟩,fun h=>⟨h.2,h.1.1,h.1.2⟩⟩
abbrev pv (c:Nat):V:=.raw (.pointer (some ⟨c,0,none⟩))
def Nd.own (x:Nd):Own:=[.blk x.b [.raw (.map (some x.nm)), .raw (.map (some x.km))], .map x.nm (entM V.str pv x.next), .map x.km (entM V.str (V.int .i64) x.keys)]
def ownH:List Nd->Own
 | []=>[]
 | x::h=>x.own++ownH h
theorem ownH_cons (x:Nd) (h:List Nd) (F:Own):ownH (x::h)++F=x.own++(ownH h++F):=List.append_assoc ..
theorem ownH_split (h1 h2:List Nd) (x:Nd):ownH (h1++x::h2)=ownH h1++(x.own++ownH h2):=by
 induction h1 with
 | nil=>rfl
 | cons y h1 ih=>show y.own++ownH (h1++x::h2)=y.own++ownH h1++_;rw [ih,List.append_assoc]
theorem ownH_app (h1 h2:List Nd):ownH (h1++h2)=ownH h1++ownH h2:=by
 induction h1 with
 | nil=>rfl
 | cons y h1 ih=>show y.own++ownH (h1++h2)=y.own++ownH h1++_;rw [ih,List.append_assoc]
theorem OnB.inH {h:List Nd} {H:Own} {b:Nat} {x:Nd} {G:List V->(Ent->Own)->Prop} (hx:fnd h b=some x) (k:∀ C,G [.raw (.map (some x.nm)), .raw (.map (some x.km))] C):OnB (ownH h++H) b G:=by
 obtain ⟨_,rfl⟩:=fnd_some hx
 obtain ⟨h1,h2,e,_⟩:=setN_split hx
 refine ⟨_,ownH h1, .map x.nm (entM V.str pv x.next) :: .map x.km (entM V.str (V.int .i64) x.keys)::(ownH h2++H),?_,k _⟩
 rw [e,ownH_split];simp [Nd.own]
theorem OnM.inN {h:List Nd} {H:Own} {b:Nat} {x:Nd} {G:List (V×V)->(Ent->Own)->Prop} (hx:fnd h b=some x) (k:∀ C:Ent->Own,(∀ nx,C (.map x.nm (entM V.str pv nx))=ownH (setN h { x with next:=nx })++H)->G (entM V.str pv x.next) C):OnM (ownH h++H) x.nm G:=by
 obtain ⟨_,rfl⟩:=fnd_some hx
 obtain ⟨h1,h2,e,es⟩:=setN_split hx
 refine ⟨_,ownH h1++[.blk x.b [.raw (.map (some x.nm)), .raw (.map (some x.km))]], .map x.km (entM V.str (V.int .i64) x.keys)::(ownH h2++H),?_,k _ fun nx=>?_⟩
 · rw [e,ownH_split];simp [Nd.own]
 · rw [es { x with next:=nx } rfl,ownH_split];simp [Nd.own]
theorem OnM.inK {h:List Nd} {H:Own} {b:Nat} {x:Nd} {G:List (V×V)->(Ent->Own)->Prop} (hx:fnd h b=some x) (k:∀ C:Ent->Own,(∀ ks,C (.map x.km (entM V.str (V.int .i64) ks))=ownH (setN h { x with keys:=ks })++H)->G (entM V.str (V.int .i64) x.keys) C):OnM (ownH h++H) x.km G:=by
 obtain ⟨_,rfl⟩:=fnd_some hx
 obtain ⟨h1,h2,e,es⟩:=setN_split hx
 refine ⟨_,ownH h1++[.blk x.b [.raw (.map (some x.nm)), .raw (.map (some x.km))], .map x.nm (entM V.str pv x.next)],ownH h2++H,?_,k _ fun ks=>?_⟩
 · rw [e,ownH_split];simp [Nd.own]
 · rw [es { x with keys:=ks } rfl,ownH_split];simp [Nd.own]
section
variable {P:Program} {n:Nat} {Q:Exit->Env->Own->Prop} {e:Env} {H:Own} {cc:Code}
theorem touch_blk {h:List Nd} {x:Nd} (hx:x∈h):Ent.blk x.b [.raw (.map (some x.nm)), .raw (.map (some x.km))]∈ownH h:=by
 obtain ⟨h1,h2,rfl⟩:=List.append_of_mem hx
 rw [ownH_split];simp [Nd.own]
theorem fresh_of {y:Nd} {h:List Nd} {F:Own} (ha:(y.own++(ownH h++F)).Pairwise (fun e f=>∀ b,e.touches b->¬ f.touches b)):fnd h y.b=none:=by
 rw [fnd_none]
 intro x hx e
 rw [List.pairwise_append] at ha
 exact ha.2.2 (.blk y.b [.raw (.map (some y.nm)), .raw (.map (some y.km))]) (by simp [Nd.own]) _ (List.mem_append_left _ (touch_blk hx)) y.b rfl e.symm
theorem DW.grow {x y:Nd} {h:List Nd} {r c:Nat} {m:List Str->Str->Option Int} {p:List Str} {l:Str} (t:Tri h r m) (hp:fol h r p=some c) (hx:fnd h c=some x) (hl:lookA l x.next=none) (hy:y.next=[]/\y.keys=[]) (hd:p.length<65536)
  (ho:OutL H y.own fun F1=>OutL F1 (ownH (setN h { x with next:=updA l y.b x.next })) fun F2=>(∀ h' x',Tri h' r m->fol h' r (p++[l])=some y.b->fnd h' c=some x'->lookA l x'.next=some y.b->DW P n cc Q e (ownH h'++F2))):DW P n cc Q e H:=by
 obtain ⟨F1,h1,F2,h2,h3⟩:=ho
 have hpm:=h1.trans (h2.append_left y.own)
 refine DW.perm hpm (DW.apart fun ha=>?_)
 have hxb:=(fnd_some hx).2
 have hf0:=fresh_of ha
 have hsx:fnd h ({ x with next:=updA l y.b x.next }:Nd).b=some x:=by show fnd h x.b=some x;rw [hxb];exact hx
 have hyc:y.b≠x.b:=fun e=>by
  rw [fnd_setN hsx,if_pos e] at hf0;cases hf0
 have hf:fnd h y.b=none:=by
  rw [fnd_setN hsx,if_neg hyc] at hf0;exact hf0
 obtain ⟨t1,t2⟩:=t.sprout hp hx hl hf hy.1 hy.2 hd
 have:=h3 _ { x with next:=updA l y.b x.next } t1 (by rw [t2,if_pos rfl]) (by rw [fnd_cons,if_neg (fun e=>hyc (e.trans hxb.symm)),fnd_setN hsx];show (if c=x.b then _ else _)=_;rw [if_pos hxb.symm]) (by show lookA l (updA l y.b x.next)=_;rw [lookA_upd,if_pos rfl])
 rw [ownH_cons] at this
 exact this
theorem DW.unitE {id r mr:Nat} {m left cur:List (V×V)} (ho:Out H (.miter r mr m left cur) fun F=>DW P n (.exit id) Q e (.map mr m::F)):DW P n (.exit id) Q e H:=by
 obtain ⟨F,hp,h⟩:=ho
 refine DW.perm hp fun a w hs hr=>?_
 obtain ⟨g1,g2⟩:=Sim.unit (L1:=[]) (L2:=F) hs
 exact wp_mono (h a w g1 (hr.ext g2)) fun x a1 w1 ⟨hd,e1,H1,s,r,x1,q⟩=>⟨hd,e1,H1,s,r,g2.trans x1,q⟩
theorem DW.openR (id:Nat) {ops:Array Oper} {d:Bool} {h:List Nd} {b:Nat} {x:Nd} (hx:fnd h b=some x) (ho:OutL H (ownH h) fun F=>∀ h1 h2,h=h1++x::h2->DW P n (.region id ops d) Q e (x.own++(ownH (h1++h2)++F))):DW P n (.region id ops d) Q e H:=by
 obtain ⟨F,hp,h0⟩:=ho
 obtain ⟨_,rfl⟩:=fnd_some hx
 obtain ⟨h1,h2,e1,_⟩:=setN_split hx
 have:=h0 h1 h2 e1
 refine DW.perm (hp.trans ?_) this
 rw [e1,ownH_split,ownH_app,List.append_assoc,List.append_assoc,List.append_assoc]
 exact app_swapL _ _ _
theorem SubP.closeR {h1 h2:List Nd} {x:Nd} {G:Own} (h:SubP (x.own++(ownH (h1++h2)++G)) H):SubP (ownH (h1++x::h2)++G) H:=by
 obtain ⟨L,l1,l2⟩:=h
 refine ⟨L,l1.trans ?_,l2⟩
 rw [ownH_split,ownH_app,List.append_assoc,List.append_assoc,List.append_assoc]
 exact app_swapL _ _ _
theorem DW_id (h:DW P n cc Q e H):DW P n cc Q e H:=h
end
theorem both_ent {α β:Type} {ek:α->V} {ev:β->V} {L:List (α×β)} {P:List (V×V)->V×V->List (V×V)->Prop} {Q:Prop} (h1:∀ A x C,L=A++x::C->P (entM ek ev A) (ek x.1,ev x.2) (entM ek ev C)) (h2:L=[]->Q):Both (∀ l1 y l2,entM ek ev L=l1++y::l2->P l1 y l2) (entM ek ev L=[]->Q):=⟨fun l1 y l2 e=>by
 unfold entM at e
 obtain ⟨A,B,rfl,e1,e2⟩:=List.map_eq_append_iff.1 e
 obtain ⟨x,C,rfl,e3,e4⟩:=List.map_eq_cons_iff.1 e2
 subst e1;subst e3;subst e4
 exact h1 A x C rfl,fun e=>h2 (by unfold entM at e;exact List.map_eq_nil_iff.1 e)⟩
theorem entM_app {α β:Type} (ek:α->V) (ev:β->V) (a b:List (α×β)):entM ek ev a++entM ek ev b=entM ek ev (a++b):=(List.map_append).symm
structure TS where
 r:Nat
 h:List Nd
 L:TL
def ownT (t:Nat) (s:TS):Own:=.blk t [.raw (.pointer (some ⟨s.r,0,none⟩)), .int .i64 s.L.length]::ownH s.h
structure TOK (s:TS):Prop where
 tri:Tri s.h s.r (mOf s.L)
 nd:(s.L.map (·.1)).Nodup
 fl:∀ e∈s.L,filterB e.1.1=true
 kl:∀ e∈s.L,e.1.2.length<=1000000000
end
end Go.Proofs.YtgekknefphagbaaGreatDoor
