/- Maps that are owned: looked up, written, deleted from. No statement of the program. -/
import Derived.Test.YtgekknefphagbaaGreatDoorEm
import Derived.Test.YtgekknefphagbaaGreatDoorEu
import Derived.Sort.Grow
import Derived.Deep.Draws
namespace Go.Proofs.YtgekknefphagbaaGreatDoor
open Go.RowKit
set_option linter.unusedSimpArgs false
set_option linter.unusedVariables false
set_option linter.unusedSectionVars false
section
def keyT (P:Program) (t:TypeId):Option (List Nat):=leaf P 6 t
def zg5:List Nat->List V->Prop
 | [],[]=>True
 | k::ks,a::l=>(match a with
  | .int _ _=>k=2
  | .str _=>k=3
  | .bool _=>k=1
  | _=>False)/\zg5 ks l
 | _,_=>False
theorem zij:∀ {ks:List Nat} {l:List V},zg5 ks l->l.length=ks.length
 | [],[],_=>rfl
 | _::ks,_::l,h=>by simp [zij h.2]
 | [],_::_,h=>h.elim
 | _::_,[],h=>h.elim
theorem zic:∀ {ks:List Nat} {l m:List V},eqLS ks l m->zg5 ks l
 | [],[],[],_=>trivial
 | k::ks,a::l,b::m,h=>by
  refine ⟨?_,zic h.2⟩
  have h:=h.1
  cases a<;>cases b<;>first | exact h.elim | exact h.1 | exact h
 | [],_::_,_,h=>h.elim
 | [],[],_::_,h=>h.elim
 | _::_,[],_,h=>h.elim
 | _::_,_::_,[],h=>h.elim
theorem zid:∀ {ks ks':List Nat} {l:List V},zg5 (ks++ks') l->zg5 ks (l.take ks.length)/\zg5 ks' (l.drop ks.length)
 | [],ks',l,h=>⟨by simp [zg5],by simpa using h⟩
 | k::ks,ks',[],h=>h.elim
 | k::ks,ks',a::l,h=>by
  obtain ⟨h1,h2⟩:=zid (ks:=ks) (l:=l) h.2
  exact ⟨⟨h.1,h1⟩,h2⟩
section
variable {P:Program}
def CkOk (P:Program) (D:Nat) (t:TypeId) (ks:List Nat):Prop :=
 ∀ (em:Bool) (S:Addr->Prop) (w:World) (x:Value) (a:V),R S w x a->((ty P t).agg=true->a = .agg a.cs)->((ty P t).agg=false->a.cs=[a])->zg5 ks a.cs->(Instr.checkKey em D t x).run P w = .ok () w
theorem zf8 {em:Bool} {D d:Nat} (ih:∀ t ks,leaf P d t=some ks->CkOk P D t ks) {S:Addr->Prop} {w:World} {xs:Array Value} {cs:List V} (hx:xs.size=cs.length) (hxr:∀ k,k<cs.length->R S w (xs.getD k undef) (cs.getD k .any)) :
  ∀ (fs:List Field) (off:Nat) (ks:List Nat),off<=cs.length->zi7 P (leaf P d) fs off=some ks->zg5 ks (cs.drop off) ->
   (forIn fs PUnit.unit (fun (f:Field) (_:PUnit)=>(do
     if f.name ≠ "_" then Instr.checkKey em D f.type (<-part f.type xs f.offset)
     pure (ForInStep.yield PUnit.unit):Sem (ForInStep PUnit))):Sem PUnit).run P w = .ok PUnit.unit w
 | [],off,ks,_,_,_=>by simp
 | f::fs,off,ks,hoc,h,he=>by
  unfold zi7 at h
  split at h
  · rename_i hn
    obtain ⟨hn,ho⟩:=hn
    split at h
    · rename_i k1 hk1
      cases h2:zi7 P (leaf P d) fs (off+k1.length) with
      | none=>rw [h2] at h;cases h
      | some k2 =>
       rw [h2] at h
       have hk:k1++k2=ks:=by simpa using h
       subst hk
       have l1:=zij he
       simp only [List.length_drop,List.length_append] at l1
       obtain ⟨e1,e2⟩:=zid he
       obtain ⟨t0,t1,t2,t3⟩:=zjo hk1
       have s1:zdO (ty P f.type) cs f.offset:=by
        refine ⟨t0,t1,?_⟩
        rw [ho]
        split
        · rename_i ha;have:=t2 ha
          rcases Nat.eq_zero_or_pos k1.length with h0 | h0<;>rcases Nat.eq_zero_or_pos k2.length with h1 | h1<;>omega
        · rename_i ha;have:=t3 (by simpa using ha);omega
       obtain ⟨u,u1,u2⟩:=ze7 (P:=P) hx hxr s1
       have hpart:((ty P f.type).agg=true->(zcw (ty P f.type) cs f.offset) = .agg (zcw (ty P f.type) cs f.offset).cs)/\((ty P f.type).agg=false->(zcw (ty P f.type) cs f.offset).cs=[zcw (ty P f.type) cs f.offset])/\(zcw (ty P f.type) cs f.offset).cs=(cs.drop off).take k1.length:=by
        unfold zcw
        rw [ho]
        cases ha:(ty P f.type).agg with
        | true=>simp [V.cs,t2 ha]
        | false =>
         have q1:=t3 ha
         have q2:off<cs.length:=by omega
         simp only [Bool.false_eq_true,if_false,false_implies,true_and,forall_const]
         have g1:cs.drop off=cs.getD off .any::cs.drop (off+1):=by rw [List.drop_eq_getElem_cons q2];simp [List.getD_eq_getElem?_getD,q2]
         obtain ⟨kk,hkk⟩:∃ kk,k1=[kk]:=List.length_eq_one_iff.1 q1
         subst hkk
         rw [g1] at e1 ⊢
         simp only [List.length_singleton,List.take_succ_cons,List.take_zero] at e1 ⊢
         have e1:=e1.1
         generalize cs.getD off .any=p at e1 ⊢
         cases p<;>first | exact e1.elim | exact ⟨rfl,rfl⟩
       have hq:=ih f.type k1 hk1 em S w u _ u2 hpart.1 hpart.2.1 (by rw [hpart.2.2];exact e1)
       have hr:=zf8 (em:=em) ih hx hxr fs (off+k1.length) k2 (by omega) h2 (by simpa [List.drop_drop] using e2)
       simp only [List.forIn_cons,Sem.run_bind,hn,ne_eq,not_false_eq_true,if_true,Result.andThen_ok,u1,hq,Sem.run_pure]
       exact hr
    · cases h
  · cases h
theorem zqN:∀ (d:Nat) (t:TypeId) (ks:List Nat),leaf P d t=some ks->∀ D,d<=D->CkOk P D t ks
 | 0,_,_,h,_,_=>by cases h
 | d+1,t,ks,h,0,hD=>by omega
 | d+1,t,ks,h,D+1,hD=>by
  intro em S w x a hx hagg hflat he
  unfold leaf at h
  unfold Instr.checkKey
  split at h
  · rename_i hu;simp [run_underlying hu]
  · rename_i k' hu;simp [run_underlying hu]
  · rename_i hu;simp [run_underlying hu]
  · rename_i fs hu
    split at h
    · cases h
    · rename_i hn
      have hk:(ty P t).kind=6:=Decidable.byContradiction fun hk=>hn (.inr hk)
      have ha:=(zhq (P:=P) (t:=t) (by omega)).1 hk
      have e1:=hagg ha
      generalize a.cs=cs at *
      subst e1
      split at h
      · rename_i ks' hl
        split at h
        · injection h with h
          subst h
          cases hx with
          | agg xs _ hxn hxr =>
           simp only [Sem.run_bind,run_underlying hu,Result.andThen_ok]
           rw [<-Array.forIn_toList]
           have:=zf8 (em:=em) (D:=D) (fun t ks h=>zqN d t ks h D (by omega)) hxn hxr fs.toList 0 _ (Nat.zero_le _) hl (by simpa using he)
           simp only [Sem.run_bind,this,Result.andThen_ok,Sem.run_pure] at this ⊢
        · cases h
      · cases h
  · cases h
end
def RM (S:Addr->Prop) (w:World):List MapEntry->List (V×V)->Prop
 | [],[]=>True
 | e::es,x::m=>(R S w e.key x.1/\R S w e.val x.2)/\RM S w es m
 | _,_=>False
theorem RM.of {S:Addr->Prop} {w:World}:∀ {es:List MapEntry} {m:List (V×V)},es.length=m.length->(∀ k,k<m.length->R S w (es.getD k default).key (m.getD k (.any, .any)).1/\R S w (es.getD k default).val (m.getD k (.any, .any)).2)->RM S w es m
 | [],[],_,_=>trivial
 | e::es,x::m,hn,h=>⟨h 0 (by simp),RM.of (by simpa using hn) fun k hk=>by simpa using h (k+1) (by simpa using hk)⟩
 | [],_::_,hn,_=>by simp at hn
 | _::_,[],hn,_=>by simp at hn
theorem RM.back {S:Addr->Prop} {w:World}:∀ {es:List MapEntry} {m:List (V×V)},RM S w es m->es.length=m.length/\∀ k,k<m.length->R S w (es.getD k default).key (m.getD k (.any, .any)).1/\R S w (es.getD k default).val (m.getD k (.any, .any)).2
 | [],[],_=>⟨rfl,fun k hk=>absurd hk (Nat.not_lt_zero _)⟩
 | e::es,x::m,⟨h1,h3⟩=>by
  obtain ⟨g1,g2⟩:=RM.back h3
  refine ⟨by simp [g1],fun k hk=>?_⟩
  cases k with
  | zero=>exact h1
  | succ k=>simpa using g2 k (by simpa using hk)
 | [],_::_,h=>h.elim
 | _::_,[],h=>h.elim
theorem RM.mono {S S':Addr->Prop} {w w':World} (hs:∀ a,S a->S' a/\w'.cell? a=w.cell? a):∀ {es:List MapEntry} {m:List (V×V)},RM S w es m->RM S' w' es m
 | [],[],_=>trivial
 | e::es,x::m,⟨h1,h3⟩=>⟨⟨h1.1.mono hs,h1.2.mono hs⟩,RM.mono hs h3⟩
 | [],_::_,h=>h.elim
 | _::_,[],h=>h.elim
def zec (kd:V):List (V×V)->Option V
 | x::m=>if eqL kd.cs x.1.cs=true then some x.2 else zec kd m
 | []=>none
def updV (kd vd:V):List (V×V)->List (V×V)
 | x::m=>if eqL kd.cs x.1.cs=true then (x.1,vd)::m else x::updV kd vd m
 | []=>[(kd,vd)]
def zgP (kd:V):List (V×V)->List (V×V)
 | x::m=>if eqL kd.cs x.1.cs=true then m else x::zgP kd m
 | []=>[]
def keysS (ks:List Nat) (kd:V) (m:List (V×V)):Prop:=eqLS ks kd.cs kd.cs/\∀ x∈m,eqLS ks kd.cs x.1.cs
def zqU (P:Program) (t:TypeId) (m:List (V×V)) (kd:V):Prop:=((ty P t).agg=true->kd = .agg kd.cs/\∀ x∈m,x.1 = .agg x.1.cs)/\((ty P t).agg=false->kd.cs=[kd]/\∀ x∈m,x.1.cs=[x.1])
def KeyS (P:Program) (t:TypeId) (kd:V) (m:List (V×V)):Prop:=(ty P t).kind=8/\(match keyT P (ty P t).key with
 | some ks=>keysS ks kd m
 | none=>False)/\zqU P (ty P t).key m kd
def zbU (kd:V):List (V×V)->Nat->Option Nat
 | x::m,i=>if eqL kd.cs x.1.cs=true then some i else zbU kd m (i+1)
 | [],_=>none
section
variable {P:Program}
theorem zku {kt:TypeId} {ks:List Nat} (ht:keyT P kt=some ks) {S:Addr->Prop} {w:World} {k:Value} {kd:V} (hk:R S w k kd):∀ (es:List MapEntry) (m:List (V×V)),RM S w es m->(∀ x∈m,eqLS ks kd.cs x.1.cs)->((ty P kt).agg=true->kd = .agg kd.cs/\∀ x∈m,x.1 = .agg x.1.cs)->((ty P kt).agg=false->kd.cs=[kd]/\∀ x∈m,x.1.cs=[x.1])->∀ i,
  (Instr.findAsking kt k es i).run P w = .ok ((zbU kd m i).map fun j=>(j,(es.getD (j - i) default).val)) w/\(∀ j,zbU kd m i=some j->i<=j)
 | [],[],_,_,_,_,i=>by simp [Instr.findAsking,zbU]
 | e::es,x::m,h,he,ha,hf,i=>by
  have hq:=zkd (P:=P) 6 kt ks ht 9999 (by decide) S w k e.key kd x.1 hk h.1.1 (fun h'=>⟨(ha h').1,(ha h').2 x (by simp)⟩) (fun h'=>⟨(hf h').1,(hf h').2 x (by simp)⟩) (he x (by simp))
  have hq':(Op.equal kt k e.key).run P w = .ok (eqL kd.cs x.1.cs) w:=zkd (P:=P) 6 kt ks ht 10000 (by decide) S w k e.key kd x.1 hk h.1.1 (fun h'=>⟨(ha h').1,(ha h').2 x (by simp)⟩) (fun h'=>⟨(hf h').1,(hf h').2 x (by simp)⟩) (he x (by simp))
  unfold Instr.findAsking zbU
  cases hb:eqL kd.cs x.1.cs with
  | true =>
   rw [hb] at hq'
   refine ⟨by simp [hq'],fun j hj=>?_⟩
   simp at hj;omega
  | false =>
   rw [hb] at hq'
   obtain ⟨r1,r2⟩:=zku ht hk es m h.2 (fun y hy=>he y (by simp [hy])) (fun h'=>⟨(ha h').1,fun y hy=>(ha h').2 y (by simp [hy])⟩) (fun h'=>⟨(hf h').1,fun y hy=>(hf h').2 y (by simp [hy])⟩) (i+1)
   have r2':=r2
   refine ⟨?_,fun j hj=>?_⟩
   · simp only [Sem.run_bind,hq',Result.andThen_ok,Bool.false_eq_true,if_false,r1]
     congr 1
     cases hp:zbU kd m (i+1) with
     | none=>rfl
     | some j =>
      have:=r2 j hp
      simp only [Option.map_some]
      rw [show j - i=(j - (i+1))+1 by omega]
      simp
   · have:=r2 j (by simpa using hj);omega
 | [],_::_,h,_,_,_,_=>h.elim
 | _::_,[],h,_,_,_,_=>h.elim
theorem zjz {a b:ByteArray} (h:a.toList=b.toList):a=b:=by
 have e:∀ c:ByteArray,c.toList=c.data.toList:=fun c=>by
  have:=zgp c.data.toList
  rwa [show bs c.data.toList=c by cases c;simp [bs]] at this
 rw [e,e] at h
 cases a;cases b
 simp only at h
 congr 1
 exact Array.toList_inj.1 h
theorem zjK (a:ByteArray):(a==a)=true:=by cases a;exact beq_self_eq_true (α:=Array UInt8) _
theorem ba_not {a b:ByteArray} (h:¬ a=b):(a==b)=false:=by
 cases a with | mk x=>cases b with | mk y =>
  show (x==y)=false
  exact beq_eq_false_iff_ne.2 fun e=>h (by rw [e])
theorem zgT {kt:TypeId} {kind:TypeDesc} {k:Value} {w:World} (hu:P.underlying kt=some kind):∀ (es:List MapEntry) (i:Nat) (r:Option (Nat×Value)),Instr.findNow kind k es i=some r->(Instr.findAsking kt k es i).run P w = .ok r w
 | [],i,r,h=>by
  injection h with h
  subst h
  simp [Instr.findAsking]
 | e::es,i,r,h=>by
  have hs:∀ b,Instr.sameNow kind k e.key=some b->(Op.equal kt k e.key).run P w = .ok b w:=by
   intro b hb
   have deep:∀ {r:Bool} {x y:Value},(∀ d,(Op.equalIn (d+1) kt x y).run P w = .ok r w)->(Op.equal kt x y).run P w = .ok r w:=fun h=>h 9999
   refine deep fun d=>?_
   unfold Instr.sameNow at hb
   split at hb
   · rename_i he
     split at hb
     · rename_i hab
       subst hab
       injection hb with hb
       subst hb
       rw [he]
       exact run_equalIn_int w d kt _ _ _ _ hu
     · cases hb
   · rename_i a' b' he
     injection hb with hb;subst hb
     rw [he,run_equalIn_string w d kt _ _ hu]
     congr 1
     by_cases hab:a'=b'
     · subst hab;rw [zjK];simp
     · have:¬ a'.toList=b'.toList:=fun h=>hab (zjz h)
       rw [ba_not hab];simp [this]
   · rename_i he;injection hb with hb;subst hb;rw [he];exact run_equalIn_bool' w d kt _ _ hu
   · cases hb
  unfold Instr.findNow at h
  unfold Instr.findAsking
  split at h
  · rename_i hq
    injection h with h
    subst h
    simp [hs true hq]
  · rename_i hq
    simp [hs false hq,zgT hu es (i+1) r h]
  · cases h
theorem zju {kt:TypeId} {ks:List Nat} (ht:keyT P kt=some ks) {S:Addr->Prop} {w:World} {k:Value} {kd:V} (hk:R S w k kd) {es:List MapEntry} {m:List (V×V)} (hm:RM S w es m) (he:∀ x∈m,eqLS ks kd.cs x.1.cs) (ha:(ty P kt).agg=true->kd = .agg kd.cs/\∀ x∈m,x.1 = .agg x.1.cs) (hf:(ty P kt).agg=false->kd.cs=[kd]/\∀ x∈m,x.1.cs=[x.1]) :
  (Instr.findKey kt k es).run P w = .ok ((zbU kd m 0).map fun j=>(j,(es.getD j default).val)) w:=by
 have h1:=(zku ht hk es m hm he ha hf 0).1
 simp only [Nat.sub_zero] at h1
 obtain ⟨d,hd⟩:∃ d,P.underlying kt=some d:=by
  have:(ty P kt).kind≠0:=(zjo ht).1
  cases hu:P.underlying kt with
  | some d=>exact ⟨d,rfl⟩
  | none=>exfalso;apply this;unfold ty;rw [hu];cases P.info? kt<;>rfl
 unfold Instr.findKey
 rw [Sem.run_bind,run_underlying hd]
 simp only [Result.andThen_ok]
 cases hn:Instr.findNow d k es 0 with
 | none=>exact h1
 | some r =>
  have:=zgT (P:=P) (w:=w) hd es 0 r hn
  rw [h1] at this
  simp only [Sem.run_pure]
  exact this.symm
theorem zd6 {kd:V}:∀ (m:List (V×V)) (i j:Nat),zbU kd m i=some j->i<=j/\j<i+m.length/\eqL kd.cs (m.getD (j - i) (.any, .any)).1.cs=true
 | [],i,j,h=>by cases h
 | x::m,i,j,h=>by
  unfold zbU at h
  split at h
  · rename_i hb;injection h with h;subst h
    exact ⟨Nat.le_refl _,by simp,by simpa using hb⟩
  · obtain ⟨h1,h2,h3⟩:=zd6 m (i+1) j h
    refine ⟨by omega,by simp;omega,?_⟩
    rw [show j - i=(j - (i+1))+1 by omega]
    simpa using h3
theorem zhc {kd:V}:∀ (m:List (V×V)) (i:Nat),zec kd m=(zbU kd m i).map fun j=>(m.getD (j - i) (.any, .any)).2
 | [],i=>rfl
 | x::m,i=>by
  unfold zec zbU
  split
  · simp
  · rw [zhc m (i+1)]
    cases hp:zbU kd m (i+1) with
    | none=>rfl
    | some j =>
     have:=zd6 m (i+1) j hp
     simp only [Option.map_some]
     rw [show j - i=(j - (i+1))+1 by omega]
     simp
theorem zi6 {kd vd:V}:∀ (m:List (V×V)) (i:Nat),updV kd vd m=match zbU kd m i with
  | some j=>m.set (j - i) ((m.getD (j - i) (.any, .any)).1,vd)
  | none=>m++[(kd,vd)]
 | [],i=>rfl
 | x::m,i=>by
  unfold updV zbU
  split
  · simp
  · rw [zi6 m (i+1)]
    cases hp:zbU kd m (i+1) with
    | none=>rfl
    | some j =>
     have:=zd6 m (i+1) j hp
     simp only
     rw [show j - i=(j - (i+1))+1 by omega]
     simp
theorem zhf {kd:V}:∀ (m:List (V×V)) (i:Nat),zgP kd m=match zbU kd m i with
  | some j=>m.eraseIdx (j - i)
  | none=>m
 | [],i=>rfl
 | x::m,i=>by
  unfold zgP zbU
  split
  · simp
  · rw [zhf m (i+1)]
    cases hp:zbU kd m (i+1) with
    | none=>rfl
    | some j =>
     have:=zd6 m (i+1) j hp
     simp only
     rw [show j - i=(j - (i+1))+1 by omega]
     simp
theorem zms {S:Addr->Prop} {w:World}:∀ {ks:List Nat} {l m:List V},eqLS ks l m->eqL l m=true->l=m
 | [],[],[],_,_=>rfl
 | k::ks,a::l,b::m,h,e=>by
  unfold eqL at e
  rw [Bool.and_eq_true] at e
  rw [zms (S:=S) (w:=w) h.2 e.2]
  have h:=h.1
  have e:=e.1
  cases a<;>cases b<;>first | exact h.elim | simp_all
 | [],_::_,_,h,_=>h.elim
 | [],[],_::_,h,_=>h.elim
 | _::_,[],_,h,_=>h.elim
 | _::_,_::_,[],h,_=>h.elim
theorem ziB {S:Addr->Prop} {w:World} {u v:Value} {k:Nat} {d:V} (hd:match d with
  | .int _ _=>k=2
  | .str _=>k=3
  | .bool _=>k=1
  | _=>False) (hu:R S w u d) (hv:R S w v d):u=v/\∀ n,Instr.sameBits n u u=true:=by
 cases d<;>first | exact hd.elim | (cases hu;cases hv;refine ⟨rfl,fun n=>?_⟩;cases n<;>first | (simp [Instr.sameBits];done) | (simp only [Instr.sameBits,zjK];done) | exact zjK _)
theorem zhe {S:Addr->Prop} {w:World}:∀ {ks:List Nat} {cs:List V} {xs ys:List Value},zg5 ks cs->xs.length=cs.length->ys.length=cs.length->(∀ k,k<cs.length->R S w (xs.getD k undef) (cs.getD k .any))->(∀ k,k<cs.length->R S w (ys.getD k undef) (cs.getD k .any))->xs=ys/\∀ x∈xs,∀ n,Instr.sameBits n x x=true
 | [],[],[],[],_,_,_,_,_=>⟨rfl,fun _ h=>nomatch h⟩
 | k::ks,c::cs,x::xs,y::ys,hk,h1,h2,hx,hy=>by
  obtain ⟨g1,g2⟩:=zhe (xs:=xs) (ys:=ys) hk.2 (by simpa using h1) (by simpa using h2) (fun k hk=>by simpa using hx (k+1) (by simpa using hk)) (fun k hk=>by simpa using hy (k+1) (by simpa using hk))
  obtain ⟨e1,e2⟩:=ziB hk.1 (by simpa using hx 0 (by simp)) (by simpa using hy 0 (by simp))
  refine ⟨by rw [e1,g1],fun z hz=>?_⟩
  rcases List.mem_cons.1 hz with rfl | hz
  · exact e2
  · exact g2 z hz
 | [],_::_,_,_,h,_,_,_,_=>h.elim
 | _::_,[],_,_,h,_,_,_,_=>h.elim
 | _,_::_,[],_,_,h,_,_,_=>by simp at h
 | _,[],_::_,_,_,h,_,_,_=>by simp at h
 | _,_::_,_,[],_,_,h,_,_=>by simp at h
 | _,[],_,_::_,_,_,h,_,_=>by simp at h
theorem zmP {S:Addr->Prop} {w:World} {ks:List Nat} {d:V} {u v:Value} (hk:zg5 ks d.cs) (hs:d = .agg d.cs\/d.cs=[d]) (hu:R S w u d) (hv:R S w v d):u=v/\Instr.sameBits 10000 u u=true:=by
 rcases hs with hs | hs
 · generalize d.cs=cs at *
   subst hs
   cases hu with
   | agg xs _ hn hr =>
    cases hv with
    | agg ys _ hn' hr' =>
     obtain ⟨g1,g2⟩:=zhe (xs:=xs.toList) (ys:=ys.toList) hk (by simpa using hn) (by simpa using hn') (fun k hk=>by simpa [Array.getD_eq_getD_getElem?,List.getD_eq_getElem?_getD] using hr k hk) (fun k hk=>by simpa [Array.getD_eq_getD_getElem?,List.getD_eq_getElem?_getD] using hr' k hk)
     have e:xs=ys:=by cases xs;cases ys;simpa using g1
     subst e
     refine ⟨rfl,?_⟩
     unfold Instr.sameBits
     simp only [beq_self_eq_true,Bool.true_and,List.all_eq_true]
     intro p hp
     have:p.1=p.2/\p.1∈xs.toList:=by
      have:=List.of_mem_zip hp
      obtain ⟨i,hi,rfl⟩:=List.getElem_of_mem hp
      simp
     rw [<-this.1]
     exact g2 _ this.2 _
 · rw [hs] at hk
   cases ks with
   | nil=>exact hk.elim
   | cons k ks =>
    obtain ⟨g1,g2⟩:=ziB hk.1 hu hv
    exact ⟨g1,g2 _⟩
def zfB (P:Program) (t:TypeId):V:=match (P.info? t).bind (·.zero) with
 | some v=>zdo v
 | none=>.any
def OnM (H:Own) (r:Nat) (G:List (V×V)->(Ent->Own)->Prop):Prop:=∃ m,On H (.map r m) (G m)
theorem OnM.here {H:Own} {r:Nat} {m:List (V×V)} {G:List (V×V)->(Ent->Own)->Prop} (h:G m fun x=>x::H):OnM (.map r m::H) r G:=⟨m,On.here h⟩
theorem OnM.next {H:Own} {r:Nat} {y:Ent} {G:List (V×V)->(Ent->Own)->Prop} (h:OnM H r fun m C=>G m fun x=>y::C x):OnM (y::H) r G:=by
 obtain ⟨m,h⟩:=h
 exact ⟨m,On.next h⟩
section
variable {o:Oper} {f:Operand->V} {H:Own} {K:V->Own->Prop}
theorem KeyS.parts {t:TypeId} {kd:V} {m:List (V×V)} (h:KeyS P t kd m):∃ ks,P.underlying t=some (.map (ty P t).key (ty P t).elem)/\keyT P (ty P t).key=some ks/\keysS ks kd m/\zqU P (ty P t).key m kd:=by
 obtain ⟨h1,h2,h3⟩:=h
 cases hk:keyT P (ty P t).key with
 | none=>rw [hk] at h2;exact h2.elim
 | some ks=>rw [hk] at h2;exact ⟨ks,zhv h1,rfl,h2,h3⟩
theorem KeyS.check {t:TypeId} {kd:V} {m:List (V×V)} (h:KeyS P t kd m) {S:Addr->Prop} {w:World} {k:Value} (hk:R S w k kd) (em:Bool):(Instr.checkKey em 10000 (ty P t).key k).run P w = .ok () w:=by
 obtain ⟨ks,_,h2,h3,h4⟩:=h.parts
 exact zqN (P:=P) 6 _ ks h2 10000 (by decide) em S w k kd hk (fun ha=>(h4.1 ha).1) (fun ha=>(h4.2 ha).1) (zic h3.1)
theorem KeyS.find {t:TypeId} {kd:V} {m:List (V×V)} (h:KeyS P t kd m) {S:Addr->Prop} {w:World} {k:Value} (hk:R S w k kd) {es:List MapEntry} (hm:RM S w es m):(Instr.findKey (ty P t).key k es).run P w = .ok ((zbU kd m 0).map fun j=>(j,(es.getD j default).val)) w:=by
 obtain ⟨ks,_,h2,h3,h4⟩:=h.parts
 exact zju h2 hk hm h3.2 h4.1 h4.2
theorem ziD {w:World} {L1 L2:Own} {r:Nat} {m:List (V×V)} (hs:Sim w (L1 ++ .map r m::L2)):∃ es clock,w.heap[r]? = some (.map es clock)/\RM (stable w (L1 ++ .map r m::L2)) w es.toList m/\es.size=m.length /\
  (∀ i j,i<j->j<es.size->(es.getD i default).born<(es.getD j default).born)/\∀ i,i<es.size->(es.getD i default).born<clock:=by
 obtain ⟨es,clock,h1,h2,h3,h4,h5⟩:=hs.holds (.map r m) (by simp)
 exact ⟨es,clock,h1,RM.of (by simpa using h2) (fun k hk=>by simpa [Array.getD_eq_getD_getElem?,List.getD_eq_getElem?_getD] using h3 k hk),h2,h4,h5⟩
theorem DOp.look_ {t:TypeId} {x ix:Operand} {ok:Bool} {r:Nat} (hop:o.op = .lookup t x ix ok) (hx:f x = .raw (.map (some r)))
  (h:OnM H r fun m _=>(KeyS P t (f ix) m/\(ty P (ty P t).elem).kind≠0/\(ty P (ty P t).elem).kind≠11/\(ty P (ty P t).elem).zero≠[])/\K (if ok=true then .tup [(zec (f ix) m).getD (zfB P (ty P t).elem), .bool (zec (f ix) m).isSome] else (zec (f ix) m).getD (zfB P (ty P t).elem)) H):DOp P o f H K:=by
 obtain ⟨m,L1,L2,rfl,⟨hK,z0,z1,z2⟩,hk⟩:=h
 refine DOp.step fun a w hs hr=>?_
 have hv:=hr x kxcl
 rw [hx] at hv
 have hv:a.eval x = .map (some r):=by generalize a.eval x=v at hv;cases hv;rfl
 have hi:=hr ix kxcl
 obtain ⟨es,clock,g1,g2,g3,_,_⟩:=ziD hs
 obtain ⟨ks,hu,_,_,_⟩:=hK.parts
 have hck:=hK.check hi es.isEmpty
 have hfi:=hK.find hi g2
 have hget:(getObj r).run P w = .ok (.map es clock) w:=by simp [getObj,Sem.run,g1]
 obtain ⟨i,d,i1,_,_,_,_,i2⟩:=zcF (P:=P) (t:=(ty P t).elem) rfl z0 z1
 cases hzz:i.zero with
 | none=>rw [hzz] at i2;exact absurd i2 z2
 | some z =>
  have hzd:zfB P (ty P t).elem=zdo z:=by simp [zfB,i1,hzz]
  have hzr:(zeroValue (ty P t).elem).run P w = .ok z w:=by simp [zeroValue,typeInfo,program,Sem.run,i1,hzz]
  obtain ⟨b1,b2⟩:=g2.back
  have hres:∃ v,(R (stable w (L1 ++ .map r m::L2)) w v ((zec (f ix) m).getD (zfB P (ty P t).elem)))/\(Instr.lookup t (a.eval x) (a.eval ix) ok).run P w = .ok (if ok then .tuple #[v, .bool (zec (f ix) m).isSome] else v) w:=by
   unfold Instr.lookup
   rw [hv]
   simp only [Sem.run_bind,run_underlying hu,Result.andThen_ok,hget,Sem.run_pure,hck,hfi]
   rw [zhc m 0]
   cases hp:zbU (f ix) m 0 with
   | none =>
    refine ⟨z,by rw [hzd];exact R.const _ _ _,?_⟩
    simp [hzr]
   | some j =>
    obtain ⟨_,j2,_⟩:=zd6 m 0 j hp
    refine ⟨(es.toList.getD j default).val,by simpa using (b2 j (by omega)).2,?_⟩
    simp
  obtain ⟨v,v1,v2⟩:=hres
  refine ⟨(if ok then .tuple #[v, .bool (zec (f ix) m).isSome] else v),w,_,_,?_,⟨hs, .refl _ _⟩,?_,hk⟩
  · unfold execOp
    rw [hop]
    simp [v2]
  · cases ok with
    | true=>exact .tup _ _ rfl (fun k hk=>match k,hk with
     | 0,_=>v1
     | 1,_=>.bool _)
    | false=>exact v1
theorem RM.set {S:Addr->Prop} {w:World} {e:MapEntry} {x:V×V} (h:R S w e.key x.1/\R S w e.val x.2):∀ {es:List MapEntry} {m:List (V×V)} (j:Nat),RM S w es m->RM S w (es.set j e) (m.set j x)
 | [],[],_,_=>trivial
 | _::es,_::m,0,⟨_,h2⟩=>⟨h,h2⟩
 | _::es,_::m,j+1,⟨h1,h2⟩=>⟨h1,RM.set h j h2⟩
 | [],_::_,_,h=>h.elim
 | _::_,[],_,h=>h.elim
theorem RM.push {S:Addr->Prop} {w:World} {e:MapEntry} {x:V×V} (h:R S w e.key x.1/\R S w e.val x.2):∀ {es:List MapEntry} {m:List (V×V)},RM S w es m->RM S w (es++[e]) (m++[x])
 | [],[],_=>⟨h,trivial⟩
 | _::es,_::m,⟨h1,h2⟩=>⟨h1,RM.push h h2⟩
 | [],_::_,h=>h.elim
 | _::_,[],h=>h.elim
theorem RM.erase {S:Addr->Prop} {w:World}:∀ {es:List MapEntry} {m:List (V×V)} (j:Nat),RM S w es m->RM S w (es.eraseIdx j) (m.eraseIdx j)
 | [],[],_,_=>trivial
 | _::es,_::m,0,⟨_,h2⟩=>h2
 | _::es,_::m,j+1,⟨h1,h2⟩=>⟨h1,RM.erase j h2⟩
 | [],_::_,_,h=>h.elim
 | _::_,[],_,h=>h.elim
theorem Sim.turn {w:World} {L1 L2:Own} {r:Nat} {m m':List (V×V)} {es es':Array MapEntry} {clock clock':Nat} (hs:Sim w (L1 ++ .map r m::L2)) (h1:w.heap[r]? = some (.map es clock))
  (hm:RM (stable w (L1 ++ .map r m::L2)) w es'.toList m') (hb:∀ i j,i<j->j<es'.size->(es'.getD i default).born<(es'.getD j default).born) (hc:∀ i,i<es'.size->(es'.getD i default).born<clock') :
  Sim { w with heap:=w.heap.setIfInBounds r (.map es' clock') } (L1 ++ .map r m'::L2)/\Ext w (L1 ++ .map r m::L2) { w with heap:=w.heap.setIfInBounds r (.map es' clock') } (L1 ++ .map r m'::L2):=by
 have hlt:r<w.heap.size:=(Array.getElem?_eq_some_iff.1 h1).1
 refine Sim.swap (e0:=.map r m) (e1:=.map r m') hs rfl rfl rfl (by simp) (fun b _ hb=>by simp only [Array.getElem?_setIfInBounds];rw [if_neg (fun e=>hb e.symm)]) (fun q _ hq=>by
  simp only [World.cell?,Array.getElem?_setIfInBounds];rw [if_neg (fun e=>hq e.symm)]) (fun b hb=>.inl hb) (fun q hq=>.inl hq) (fun hst=>?_)
 obtain ⟨b1,b2⟩:=(hm.mono hst).back
 refine ⟨es',clock',?_,by simpa using b1,fun k hk=>?_,hb,hc⟩
 · show (w.heap.setIfInBounds r _)[r]? = _
   simp [Array.getElem?_setIfInBounds,hlt]
 · simpa [Array.getD_eq_getD_getElem?,List.getD_eq_getElem?_getD] using b2 k hk
theorem DOp.upd_ {t:TypeId} {x ix v:Operand} {r:Nat} (hop:o.op = .mapUpdate t x ix v) (hx:f x = .raw (.map (some r)))
  (h:OnM H r fun m C=>KeyS P t (f ix) m/\K .any (C (.map r (updV (f ix) (f v) m)))):DOp P o f H K:=by
 obtain ⟨m,L1,L2,rfl,hK,hk⟩:=h
 refine DOp.skip_ fun a w hs hr=>?_
 have hv:=hr x kxcl
 rw [hx] at hv
 have hv:a.eval x = .map (some r):=by generalize a.eval x=v at hv;cases hv;rfl
 have hi:=hr ix kxcl
 have hval:=hr v kxcl
 obtain ⟨es,clock,g1,g2,g3,g4,g5⟩:=ziD hs
 obtain ⟨ks,hu,_,k1,k2⟩:=hK.parts
 have hck:=hK.check hi false
 have hfi:=hK.find hi g2
 have hget:(getObj r).run P w = .ok (.map es clock) w:=by simp [getObj,Sem.run,g1]
 have hset:∀ o':Obj,(setObj r o').run P w = .ok () { w with heap:=w.heap.setIfInBounds r o' }:=fun o'=>by simp [setObj,Sem.run,g1]
 obtain ⟨b1,b2⟩:=g2.back
 have hup:=zi6 (kd:=f ix) (vd:=f v) m 0
 cases hp:zbU (f ix) m 0 with
 | none =>
  rw [hp] at hfi hup
  simp only at hup
  refine ⟨_,_,?_,Sim.turn (m':=updV (f ix) (f v) m) (es':=es.push { key:=a.eval ix,val:=a.eval v,born:=clock }) (clock':=clock+1) hs g1 ?_ ?_ ?_,hk⟩
  · unfold execOp
    rw [hop]
    simp [Instr.mapUpdate,hv,run_underlying hu,hget,hck,hfi,hset]
  · rw [hup,Array.toList_push]
    exact RM.push ⟨hi,hval⟩ g2
  · intro i j hij hj
    simp only [Array.size_push] at hj
    rcases Nat.lt_or_ge j es.size with hj' | hj'
    · have:=g4 i j hij hj'
      simpa [Array.getD_eq_getD_getElem?,Array.getElem?_push,show i≠es.size by omega,show j≠es.size by omega] using this
    · obtain rfl:j=es.size:=by omega
      have:=g5 i hij
      simpa [Array.getD_eq_getD_getElem?,Array.getElem?_push,show i≠es.size by omega] using this
  · intro i hi'
    simp only [Array.size_push] at hi'
    rcases Nat.lt_or_ge i es.size with hj' | hj'
    · have:=g5 i hj'
      have e:(es.push { key:=a.eval ix,val:=a.eval v,born:=clock }).getD i default=es.getD i default:=by simp [Array.getD_eq_getD_getElem?,Array.getElem?_push,show i≠es.size by omega]
      rw [e];omega
    · obtain rfl:i=es.size:=by omega
      simp [Array.getD_eq_getD_getElem?,Array.getElem?_push]
 | some j =>
  rw [hp] at hfi hup
  simp only [Nat.sub_zero] at hup
  obtain ⟨_,j2,j3⟩:=zd6 m 0 j hp
  simp only [Nat.sub_zero,Nat.zero_add] at j2 j3
  have hj:j<es.size:=by omega
  have hold:=b2 j j2
  have hmem:m.getD j (.any, .any)∈m:=by rw [List.getD_eq_getElem?_getD,List.getElem?_eq_getElem j2];exact List.getElem_mem j2
  have hcs:=zms (S:=stable w (L1 ++ .map r m::L2)) (w:=w) (k1.2 _ hmem) j3
  have hsame:(m.getD j (.any, .any)).1=f ix:=by
   cases ha:(ty P (ty P t).key).agg with
   | true=>rw [(k2.1 ha).2 _ hmem,(k2.1 ha).1,hcs]
   | false =>
    have e1:=(k2.2 ha).2 _ hmem
    have e2:=(k2.2 ha).1
    rw [e1,e2] at hcs
    simpa using hcs.symm
  have hkey:=hold.1
  rw [hsame] at hkey
  have hshape:f ix = .agg (f ix).cs\/(f ix).cs=[f ix]:=by
   cases ha:(ty P (ty P t).key).agg with
   | true=>exact .inl (k2.1 ha).1
   | false=>exact .inr (k2.2 ha).1
  obtain ⟨u1,u2⟩:=zmP (zic k1.1) hshape hkey hi
  have hes:(es.toList.getD j default).key=(es[j]?.map (·.key)).getD (a.eval ix):=by
   simp [List.getD_eq_getElem?_getD,hj]
  have hstay:(Instr.keyThatStays ((es[j]?.map (·.key)).getD (a.eval ix)) (a.eval ix)).run P w = .ok (a.eval ix) w:=by
   rw [<-hes,u1]
   rw [u1] at u2
   unfold Instr.keyThatStays
   rw [if_pos u2]
   rfl
  refine ⟨_,_,?_,Sim.turn (m':=updV (f ix) (f v) m) (es':=es.modify j fun e=>{ e with key:=a.eval ix,val:=a.eval v }) (clock':=clock) hs g1 ?_ ?_ ?_,hk⟩
  · unfold execOp
    rw [hop]
    simp [Instr.mapUpdate,hv,run_underlying hu,hget,hck,hfi,hset,hstay]
  · rw [hup,hsame]
    have e:(es.modify j fun e=>{ e with key:=a.eval ix,val:=a.eval v }).toList=es.toList.set j { (es.toList.getD j default) with key:=a.eval ix,val:=a.eval v }:=by
     rw [Array.toList_modify]
     refine List.ext_getElem? fun i=>?_
     rw [List.getElem?_modify,List.getElem?_set]
     by_cases hij:j=i
     · subst hij;simp [hj,List.getD_eq_getElem?_getD]
     · simp [hij]
    rw [e]
    exact RM.set ⟨hi,hval⟩ j g2
  · intro i k hij hk'
    simp only [Array.size_modify] at hk'
    have hb:∀ i,i<es.size->((es.modify j fun e=>{ e with key:=a.eval ix,val:=a.eval v }).getD i default).born=(es.getD i default).born:=by
     intro i hi'
     simp only [Array.getD_eq_getD_getElem?,Array.getElem?_modify]
     by_cases hij:j=i
     · subst hij;simp [hj]
     · simp [hij]
    rw [hb i (by omega),hb k hk']
    exact g4 i k hij hk'
  · intro i hi'
    simp only [Array.size_modify] at hi'
    have hb:((es.modify j fun e=>{ e with key:=a.eval ix,val:=a.eval v }).getD i default).born=(es.getD i default).born:=by
     simp only [Array.getD_eq_getD_getElem?,Array.getElem?_modify]
     by_cases hij:j=i
     · subst hij;simp [hj]
     · simp [hij]
    rw [hb];exact g5 i hi'
end
end
end
section
structure Elm (S:Addr->Prop) (w:World) (k:Nat) {T:Type} (encV:T->V) (ok:T->Prop) where
 t:T
 vs:List Value
 len:vs.length=k
 one:∀ v∈vs,v.oneCell'=true
 rel:∀ j,j<k->R S w (vs.getD j undef) ((encV t).cell j)
 good:ok t
theorem zqJ {xs:Array Value} (h:xs.size=2):∃ a b,xs = #[a,b]:=by
 obtain ⟨l⟩:=xs
 match l,h with
 | [a,b],_=>exact ⟨a,b,rfl⟩
theorem znc {xs:Array Value} (h:xs.size=0):xs = #[]:=by
 obtain ⟨l⟩:=xs
 match l,h with
 | [],_=>rfl
theorem sim_nil (w:World):Sim w []:=⟨(fun _ h=>nomatch h),List.Pairwise.nil,List.Pairwise.nil⟩
theorem zqf {w w':World} {H':Own} (h:Ext w [] w' H'):∃ q os',w'=Go.Sort.grow (w.drewN q) os':=by
 refine ⟨w'.drawn - w.drawn,w'.heap.extract w.heap.size w'.heap.size,?_⟩
 have hz:=h.size
 have hd:=(h.drawn (by simp)).2
 have hh:w'.heap=w.heap++w'.heap.extract w.heap.size w'.heap.size:=by
  apply Array.ext_getElem?
  intro i
  by_cases hi:i<w.heap.size
  · rw [Array.getElem?_append_left hi]
    exact (h.full i hi (by simp)).1
  · rw [Array.getElem?_append_right (by omega),Array.getElem?_extract]
    by_cases hi2:i<w'.heap.size
    · rw [if_pos (by omega)]
      congr 1;omega
    · rw [if_neg (by omega)]
      exact Array.getElem?_eq_none (by omega)
 obtain ⟨hp,tp,dr,o,ou⟩:=w'
 obtain ⟨hp0,tp0,dr0,o0,ou0⟩:=w
 have e1:=h.os;have e2:=h.tape;have e3:=h.output
 simp only at e1 e2 e3 hh hd
 subst e1 e2 e3
 unfold Go.Sort.grow World.drewN
 simp only [World.mk.injEq,true_and,and_true]
 exact ⟨hh,by omega⟩
end
end Go.Proofs.YtgekknefphagbaaGreatDoor
