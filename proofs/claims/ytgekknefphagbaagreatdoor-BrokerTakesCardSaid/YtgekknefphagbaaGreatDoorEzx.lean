/- Regions that draw their order: loads at any time among operations that keep a block as it is. No statement of the program. -/
import Derived.Test.YtgekknefphagbaaGreatDoorEu
namespace Go.Proofs.YtgekknefphagbaaGreatDoor
open Go.RowKit
set_option linter.unusedSimpArgs false
set_option linter.unusedVariables false
set_option linter.unusedSectionVars false
section
theorem zqs {ops:List Oper} (hup:∀ k o,ops[k]? = some o->∀ e∈o.after,Region.binds .any e=true->e.on<k):∀ {i j:Nat},After ops.toArray i j->j<i:=by
 have one:∀ i j,Region.waitsFor .any ops.toArray i j=true->j<i:=fun i j h=>by
  obtain ⟨oj,hoj,e,he,hb,hon⟩:=Region.waitsFor_spec h
  have:=hup i oj (by simpa using hoj) e he hb
  omega
 have key:∀ f i j,zjg ops.toArray f i j->j<i:=by
  intro f
  induction f with
  | zero=>exact fun i j h=>one i j h
  | succ f ih =>
   rintro i j ⟨m,h1,h2⟩
   have:=one i m h1
   have:=ih m j h2
   omega
 rintro i j ⟨f,h⟩
 exact key f i j h
section
variable {P:Program} {ops:List Oper} {mv:List Nat} {T J:Nat->Own->Prop} {val:Nat->Oper->(Operand->V)->V} {side:Nat->Oper->(Operand->V)->Prop} {K:(Nat->V)->Own->Prop} {n:Nat}
def RVJ (P:Program) (ops:List Oper) (mv:List Nat) (J:Nat->Own->Prop) (val:Nat->Oper->(Operand->V)->V) (side:Nat->Oper->(Operand->V)->Prop) (K:(Nat->V)->Own->Prop) (L:Nat->Bool):Nat->List Oper->(Nat->V)->Own->Prop
 | _,[],F,H=>K F H
 | k,o::rest,F,H =>
  if L k=true then RVJ P ops mv J val side K L (k+1) rest F H
  else match gst ops o F with
   | some true =>
    if mv.contains k=true then DOp P o (opdF F) H fun d H'=>J k H'/\RVJ P ops mv J val side K L (k+1) rest (putF F o.dst d) H'
    else side k o (opdF F)/\RVJ P ops mv J val side K L (k+1) rest (putF F o.dst (val k o (opdF F))) H
   | some false=>RVJ P ops mv J val side K L (k+1) rest (putF F o.dst (.tup [])) H
   | none=>False
theorem RVJ.congrL {L L':Nat->Bool}:∀ (l:List Oper) (k:Nat) (F:Nat->V) (H:Own),(∀ j,k<=j->L j=L' j)->RVJ P ops mv J val side K L k l F H->RVJ P ops mv J val side K L' k l F H
 | [],_,_,_,_,h=>h
 | o::rest,k,F,H,he,h=>by
  have ih:=fun F H=>RVJ.congrL rest (k+1) F H fun j hj=>he j (by omega)
  unfold RVJ at h ⊢
  rw [<-he k (Nat.le_refl _)]
  split
  · rename_i hl;rw [if_pos hl] at h;exact ih _ _ h
  · rename_i hl
    rw [if_neg hl] at h
    cases hg:gst ops o F with
    | none=>rw [hg] at h;exact h.elim
    | some b =>
     rw [hg] at h
     cases b with
     | false=>exact ih _ _ h
     | true =>
      simp only at h ⊢
      split
      · rename_i hm;rw [if_pos hm] at h;exact h.mono fun d H' h=>⟨h.1,ih _ _ h.2⟩
      · rename_i hm;rw [if_neg hm] at h;exact ⟨h.1,ih _ _ h.2⟩
variable (hval:∀ k o f f',(∀ x,x∈o.op.operands->f x=f' x)->val k o f=val k o f'/\(side k o f->side k o f'))
include hval
theorem RVJ.pull {L:Nat->Bool} {j:Nat} {oj:Oper} (hj:L j=false) (hun:∀ i oi,i<j->ops[i]? = some oi->L i=false->Free ops oi oj) :
  ∀ (l:List Oper) (k:Nat) (F:Nat->V) (H:Own) (d:V),(∀ i,i<l.length->l[i]? = ops[k+i]?)->k<=j->j<k+l.length->l[j - k]? = some oj ->
   (gst ops oj F=some false->d = .tup [])->(gst ops oj F=some true->mv.contains j=false/\d=val j oj (opdF F)) ->
   RVJ P ops mv J val side K L k l F H->RVJ P ops mv J val side K (fun i=>L i||i==j) k l (putF F oj.dst d) H
 | [],k,F,H,d,_,h1,h2,_,_,_,_=>by simp at h2;omega
 | o::rest,k,F,H,d,hl,hkj,hjk,hoj,hd0,hd1,h=>by
  have h0:ops[k]? = some o:=by simpa using (hl 0 (by simp)).symm
  have hl':∀ i,i<rest.length->rest[i]? = ops[k+1+i]?:=fun i hi=>by have:=hl (i+1) (by simp;omega);simpa [Nat.add_assoc,Nat.add_comm 1 i] using this
  unfold RVJ at h ⊢
  by_cases hk:k=j
  · subst hk
    have ho:o=oj:=by simpa using hoj
    subst ho
    rw [if_pos (by simp)]
    rw [if_neg (by simp [hj])] at h
    have hc:∀ {F H},RVJ P ops mv J val side K L (k+1) rest F H->RVJ P ops mv J val side K (fun i=>L i||i==k) (k+1) rest F H:=fun {F H} h =>
     RVJ.congrL rest _ _ _ (fun i hi=>by simp;omega) h
    cases hg:gst ops o F with
    | none=>rw [hg] at h;exact h.elim
    | some b =>
     rw [hg] at h
     cases b with
     | false=>rw [hd0 hg];exact hc h
     | true =>
      obtain ⟨hm,hd⟩:=hd1 hg
      simp only [hm,Bool.false_eq_true,if_false] at h
      rw [hd]
      exact hc h.2
  · have hlt:k<j:=by omega
    have hjk':j<k+1+rest.length:=by simp at hjk;omega
    have hoj':rest[j - (k+1)]? = some oj:=by
     have:j - k=(j - (k+1))+1:=by omega
     rw [this] at hoj
     simpa using hoj
    have hneq:(k==j)=false:=by simp;omega
    simp only [hneq,Bool.or_false]
    by_cases hlk:L k=true
    · rw [if_pos hlk] at h ⊢
      exact RVJ.pull hj hun rest (k+1) F H d hl' (by omega) hjk' hoj' hd0 hd1 h
    · rw [if_neg hlk] at h ⊢
      have fr:=hun k o hlt h0 (by simpa using hlk)
      rw [fr.gst2]
      have ih:=fun F' H' (e1:gst ops oj F'=gst ops oj F) (e2:val j oj (opdF F')=val j oj (opdF F))=>RVJ.pull hj hun rest (k+1) F' H' d hl' (by omega) hjk' hoj' (fun h=>hd0 (e1▸h)) (fun h=>by rw [e2];exact hd1 (e1▸h))
      cases hg:gst ops o F with
      | none=>rw [hg] at h;exact h.elim
      | some b =>
       rw [hg] at h
       cases b with
       | false =>
        simp only at h ⊢
        rw [<-fr.put]
        exact ih _ _ (fr.gst1 _ _) (fr.val1 hval _ _ _) h
       | true =>
        simp only at h ⊢
        split
        · rename_i hm
          rw [if_pos hm] at h
          refine (h.congr fun x hx=>(fr.ops2 F d x hx).symm).mono fun d' H' h=>⟨h.1,?_⟩
          rw [<-fr.put]
          exact ih _ _ (fr.gst1 _ _) (fr.val1 hval _ _ _) h.2
        · rename_i hm
          rw [if_neg hm] at h
          refine ⟨fr.side2 hval _ _ _ h.1,?_⟩
          rw [fr.val2 hval k,<-fr.put]
          exact ih _ _ (fr.gst1 _ _) (fr.val1 hval _ _ _) h.2
theorem RVJ.pullM {L:Nat->Bool} {j:Nat} {oj:Oper} (hj:L j=false) (hm:mv.contains j=true) (hun:∀ i oi,i<j->ops[i]? = some oi->L i=false->Free ops oi oj/\mv.contains i=false) :
  ∀ (l:List Oper) (k:Nat) (F:Nat->V) (H:Own),(∀ i,i<l.length->l[i]? = ops[k+i]?)->k<=j->j<k+l.length->l[j - k]? = some oj->gst ops oj F=some true ->
   RVJ P ops mv J val side K L k l F H->DOp P oj (opdF F) H fun d H'=>J j H'/\RVJ P ops mv J val side K (fun i=>L i||i==j) k l (putF F oj.dst d) H'
 | [],k,F,H,_,h1,h2,_,_,_=>by simp at h2;omega
 | o::rest,k,F,H,hl,hkj,hjk,hoj,hgj,h=>by
  have h0:ops[k]? = some o:=by simpa using (hl 0 (by simp)).symm
  have hl':∀ i,i<rest.length->rest[i]? = ops[k+1+i]?:=fun i hi=>by have:=hl (i+1) (by simp;omega);simpa [Nat.add_assoc,Nat.add_comm 1 i] using this
  by_cases hk:k=j
  · subst hk
    have ho:o=oj:=by simpa using hoj
    subst ho
    unfold RVJ at h
    rw [if_neg (by simp [hj]),hgj] at h
    simp only [hm,if_true] at h
    refine h.mono fun d H' h=>⟨h.1,?_⟩
    unfold RVJ
    rw [if_pos (by simp)]
    exact RVJ.congrL rest _ _ _ (fun i hi=>by simp;omega) h.2
  · have hlt:k<j:=by omega
    have hjk':j<k+1+rest.length:=by simp at hjk;omega
    have hoj':rest[j - (k+1)]? = some oj:=by
     have:j - k=(j - (k+1))+1:=by omega
     rw [this] at hoj
     simpa using hoj
    have hneq:(k==j)=false:=by simp;omega
    unfold RVJ at h
    by_cases hlk:L k=true
    · rw [if_pos hlk] at h
      refine (RVJ.pullM hj hm hun rest (k+1) F H hl' (by omega) hjk' hoj' hgj h).mono fun d H' h=>⟨h.1,?_⟩
      unfold RVJ
      rw [if_pos (by simp [hlk])]
      exact h.2
    · rw [if_neg hlk] at h
      obtain ⟨fr,hmk⟩:=hun k o hlt h0 (by simpa using hlk)
      cases hg:gst ops o F with
      | none=>rw [hg] at h;exact h.elim
      | some b =>
       rw [hg] at h
       cases b with
       | false =>
        simp only at h
        refine ((RVJ.pullM hj hm hun rest (k+1) _ H hl' (by omega) hjk' hoj' kxck h).congr fun x hx=>fr.ops1 F _ x hx).mono fun d H' h=>⟨h.1,?_⟩
        unfold RVJ
        rw [if_neg (by simp [hlk];omega),fr.gst2,hg]
        simp only
        rw [<-fr.put]
        exact h.2
       | true =>
        simp only [hmk,Bool.false_eq_true,if_false] at h
        refine ((RVJ.pullM hj hm hun rest (k+1) _ H hl' (by omega) hjk' hoj' kxck h.2).congr fun x hx=>fr.ops1 F _ x hx).mono fun d H' h'=>⟨h'.1,?_⟩
        unfold RVJ
        rw [if_neg (by simp [hlk];omega),fr.gst2,hg]
        simp only [hmk,Bool.false_eq_true,if_false]
        refine ⟨fr.side2 hval _ _ _ h.1,?_⟩
        rw [fr.val2 hval k,<-fr.put]
        exact h'.2
variable (hok:DrawOk ops mv []) (hfl:∀ k o,ops[k]? = some o->mv.contains k=false->∀ f H,T k H->side k o f->DOp P o f H fun d H'=>d=val k o f/\H'=H) (hJ:∀ i H,mv.contains i=true->J i H->∀ k,k<ops.length->k≠i->¬ After ops.toArray i k->T k H) (hdst:dstB n ops=true)
include hok hfl hJ hdst
theorem zmY (k:Nat) (o:Oper) (h:ops[k]? = some o):o.dst.all (· < n)=true:=by
 have:=List.all_eq_true.1 hdst o (List.mem_of_getElem? h)
 simpa using this
theorem RVJ.known {L:Nat->Bool} {j:Nat} {oj:Oper} (hj:L j=false) (hun:∀ i oi,i<j->ops[i]? = some oi->L i=false->Free ops oi oj) :
  ∀ (l:List Oper) (k:Nat) (F:Nat->V) (H:Own) (a:Act) (w:World),(∀ i,i<l.length->l[i]? = ops[k+i]?)->k<=j->j<k+l.length->l[j - k]? = some oj ->
   Sim w H->(∀ i,k<=i->i<ops.length->L i=false->T i H)->RF n w H a.tmps F->RVJ P ops mv J val side K L k l F H->(∃ b,gst ops oj F=some b)/\(gst ops oj F=some true->mv.contains j=false->side j oj (opdF F))
 | [],k,F,H,a,w,_,h1,h2,_,_,_,_,_=>by simp at h2;omega
 | o::rest,k,F,H,a,w,hl,hkj,hjk,hoj,hs,hi,hr,h=>by
  have h0:ops[k]? = some o:=by simpa using (hl 0 (by simp)).symm
  have hl':∀ i,i<rest.length->rest[i]? = ops[k+1+i]?:=fun i hi=>by have:=hl (i+1) (by simp;omega);simpa [Nat.add_assoc,Nat.add_comm 1 i] using this
  have hdo:=zmY hval hok hfl hJ hdst k o h0
  have hko:k<ops.length:=(List.getElem?_eq_some_iff.1 h0).1
  have hnx:∀ i,k+1<=i->i<ops.length->L i=false->T i H:=fun i h=>hi i (by omega)
  unfold RVJ at h
  by_cases hk:k=j
  · subst hk
    have ho:o=oj:=by simpa using hoj
    subst ho
    rw [if_neg (by simp [hj])] at h
    cases hg:gst ops o F with
    | none=>rw [hg] at h;exact h.elim
    | some b =>
     rw [hg] at h
     refine ⟨⟨b,rfl⟩,fun hb hm=>?_⟩
     injection hb with hb
     subst hb
     simp only [hm,Bool.false_eq_true,if_false] at h
     exact h.1
  · have hlt:k<j:=by omega
    have hjk':j<k+1+rest.length:=by simp at hjk;omega
    have hoj':rest[j - (k+1)]? = some oj:=by
     have:j - k=(j - (k+1))+1:=by omega
     rw [this] at hoj
     simpa using hoj
    by_cases hlk:L k=true
    · rw [if_pos hlk] at h
      exact RVJ.known hj hun rest (k+1) F H a w hl' (by omega) hjk' hoj' hs hnx hr h
    · rw [if_neg hlk] at h
      have fr:=hun k o hlt h0 (by simpa using hlk)
      have back:∀ d,((∃ b,gst ops oj (putF F o.dst d)=some b)/\(gst ops oj (putF F o.dst d)=some true->mv.contains j=false->side j oj (opdF (putF F o.dst d)))) ->
        (∃ b,gst ops oj F=some b)/\(gst ops oj F=some true->mv.contains j=false->side j oj (opdF F)):=fun d ⟨x,y⟩=>by
       rw [fr.gst1] at x y
       exact ⟨x,fun h1 h2=>fr.side1 hval _ _ _ (y h1 h2)⟩
      cases hg:gst ops o F with
      | none=>rw [hg] at h;exact h.elim
      | some b =>
       rw [hg] at h
       cases b with
       | false=>exact back _ (RVJ.known hj hun rest (k+1) _ H (a.put o.dst undef) w hl' (by omega) hjk' hoj' hs hnx (hr.put hdo (R.skipped _ _)) h)
       | true =>
        simp only at h
        split at h
        · rename_i hm
          refine zfp (P:=P) (o:=o) (a:=a) (w:=w) (h a w _ _ hs (fun x _=>hr.opd x) fun v w' d H' s x r k'=>?_)
          exact back _ (RVJ.known hj hun rest (k+1) _ H' _ w' hl' (by omega) hjk' hoj' s (fun i h1 h2 _=>hJ k H' hm k'.1 i h2 (by omega) fun ha=>by
           have:=zqs hok.up ha
           omega) ((hr.ext x).put hdo r) k'.2)
        · rename_i hm
          refine zfp (P:=P) (o:=o) (a:=a) (w:=w) (hfl k o h0 (by simpa using hm) _ H (hi k (Nat.le_refl _) hko (by simpa using hlk)) h.1 a w _ _ hs (fun x _=>hr.opd x) fun v w' d H' s x r ⟨hd,hH⟩=>?_)
          subst hd
          subst hH
          exact back _ (RVJ.known hj hun rest (k+1) _ H' _ w' hl' (by omega) hjk' hoj' s hnx ((hr.ext x).put hdo r) h.2)
theorem ze2 {listed:Array Bool} (inv:HeadInv .any ops.toArray ops.length listed):∀ (f i j:Nat),listed.getD i false=true->zjg ops.toArray f i j->listed.getD j false=true
 | 0,i,j,hi,h=>by
  obtain ⟨oj,hoj,e,he,hb,hon⟩:=Region.waitsFor_spec h
  have:=inv.closed i oj hoj hi e he hb
  rwa [hon] at this
 | f+1,i,j,hi,⟨m,h1,h2⟩=>by
  obtain ⟨oj,hoj,e,he,hb,hon⟩:=Region.waitsFor_spec h1
  have:=inv.closed i oj hoj hi e he hb
  exact ze2 inv f m j (hon▸this) h2
theorem zf1 {listed:Array Bool} (inv:HeadInv .any ops.toArray ops.length listed) {i j:Nat} (hi:i∈Region.ready .any ops.toArray listed) (h:After ops.toArray i j):listed.getD j false=true:=by
 obtain ⟨f,hf⟩:=h
 have one:∀ j,Region.waitsFor .any ops.toArray i j=true->listed.getD j false=true:=fun j h=>by
  obtain ⟨_,oi,hoi,hall⟩:=mem_ready.1 hi
  obtain ⟨oj,hoj,e,he,hb,hon⟩:=Region.waitsFor_spec h
  have:oj=oi:=Option.some.inj (hoj.symm.trans hoi)
  subst this
  have:=hall e he hb
  rwa [hon] at this
 cases f with
 | zero=>exact one j hf
 | succ f =>
  obtain ⟨m,h1,h2⟩:=hf
  exact ze2 hval hok hfl hJ hdst inv f m j (one m h1) h2
theorem RVJ.done {L:Nat->Bool}:∀ (l:List Oper) (k:Nat) (F:Nat->V) (H:Own),(∀ j,k<=j->j<k+l.length->L j=true)->RVJ P ops mv J val side K L k l F H->K F H
 | [],_,_,_,_,h=>h
 | o::rest,k,F,H,hL,h=>by
  unfold RVJ at h
  rw [if_pos (hL k (Nat.le_refl _) (by simp))] at h
  exact RVJ.done rest (k+1) F H (fun j h1 h2=>hL j (by omega) (by simp;omega)) h
theorem zgH {listed:Array Bool} {i:Nat} (h:listed.getD i true=false):(listed.setIfInBounds i true).toList.count false+1=listed.toList.count false:=by
 have hlt:i<listed.size:=by
  rcases Nat.lt_or_ge i listed.size with h' | h'
  · exact h'
  · simp [Array.getElem?_eq_none h'] at h
 have h0:listed.toList[i]'(by simpa using hlt)=false:=by simpa [hlt] using h
 have hpos:0<listed.toList.count false:=List.count_pos_iff.2 (h0▸List.getElem_mem _)
 have hc:=List.count_set (a:=true) (b:=false) (l:=listed.toList) (i:=i) (by simpa using hlt)
 rw [h0] at hc
 rw [Array.toList_setIfInBounds,hc]
 simp only [BEq.rfl,if_true,show ((true==false)=true)=False by simp,if_false,Nat.add_zero]
 omega
theorem ziY {listed:Array Bool} (hs:listed.size=ops.length):∀ m,(∀ j,j<m->listed.getD j false=true)\/∃ k,k<m/\listed.getD k false=false/\∀ j,j<k->listed.getD j false=true
 | 0=>.inl fun j hj=>by omega
 | m+1=>by
  rcases ziY hs m with h | ⟨k,h1,h2,h3⟩
  · cases hm:listed.getD m false with
    | true =>
     refine .inl fun j hj=>?_
     rcases Nat.lt_or_ge j m with h' | h'
     · exact h j h'
     · rw [show j=m by omega];exact hm
    | false=>exact .inr ⟨m,by omega,hm,h⟩
  · exact .inr ⟨k,by omega,h2,h3⟩
theorem RVJ.all {Q:Exit->Act->World->Prop} {w0:World} {G0:Own} {D:List Deferred} (hQ:∀ a' w' F' H',a'.defers=D->Sim w' H'->RF n w' H' a'.tmps F'->Ext w0 G0 w' H'->K F' H'->Q .normal a' w') :
  ∀ (c:Nat) (listed:Array Bool) (F:Nat->V) (H:Own) (a:Act) (w:World),listed.toList.count false=c->HeadInv .any ops.toArray ops.length listed->RVJ P ops mv J val side K (fun k=>listed.getD k false) 0 ops F H ->
   Sim w H->(∀ i,i<ops.length->listed.getD i false=false->T i H)->RF n w H a.tmps F->Ext w0 G0 w H->a.defers=D->wpAny P .any ops.toArray Q c listed a w:=by
 intro c
 induction c with
 | zero =>
  intro listed F H a w hc inv h hs hi hr hx hD
  have hall:∀ j,listed.getD j true=true:=fun j=>by
   cases hj:listed.getD j true with
   | true=>rfl
   | false=>have:=zgH hval hok hfl hJ hdst hj;omega
  refine ⟨?_,?_⟩
  · cases hrd:Region.ready .any ops.toArray listed with
    | nil=>rfl
    | cons i l =>
     have:i∈Region.ready .any ops.toArray listed:=by rw [hrd];exact List.mem_cons_self
     have:=(mem_ready.1 this).1
     rw [hall] at this
     cases this
  · refine hQ a w F H hD hs hr hx (RVJ.done hval hok hfl hJ hdst ops 0 F H (fun j _ hj=>?_) h)
    have h1:=hall j
    have h2:j<listed.size:=by rw [inv.size];simpa using hj
    simp [h2] at h1 ⊢
    exact h1
 | succ c ih =>
  intro listed F H a w hc inv h hs hi hr hx hD
  have hsz:listed.size=ops.length:=by simpa using inv.size
  refine ⟨fun h0=>?_,fun i hi'=>?_⟩
  · rcases ziY hval hok hfl hJ hdst hsz ops.length with hall | ⟨k,hk,hkf,hlow⟩
    · exfalso
      have:listed.toList.count false=0:=List.count_eq_zero.2 fun hm=>by
       obtain ⟨j,hj,e⟩:=List.getElem_of_mem hm
       have hj':j<listed.size:=by simpa using hj
       have:=hall j (by omega)
       simp [hj'] at this
       simp at e
       rw [this] at e
       cases e
      omega
    · exfalso
      have hkl:k<listed.size:=by omega
      have:k∈Region.ready .any ops.toArray listed:=mem_ready.2 ⟨getD_in hkl hkf,ops[k],by simp [hk],fun e he hb=>hlow _ (hok.up k _ (by simp [hk]) e he hb)⟩
      rw [h0] at this
      cases this
  · obtain ⟨hun,oi,hoi,_⟩:=mem_ready.1 hi'
    have hoi':ops[i]? = some oi:=by simpa using hoi
    have hilt:i<ops.length:=(List.getElem?_eq_some_iff.1 hoi').1
    have hlf:listed.getD i false=false:=getD_both hun
    have inv':=inv.set hi' (by simpa using hilt)
    have hc':(listed.setIfInBounds i true).toList.count false=c:=by have:=zgH hval hok hfl hJ hdst hun;omega
    have hpair:∀ k ok,k<i->ops[k]? = some ok->listed.getD k false=false->Free ops ok oi/\¬ (mv.contains k=true/\mv.contains i=true):=fun k ok hk hok' hkf=>by
     rcases hok.pair k i ok oi hk hok' hoi' with h' | ⟨h1,h2⟩
     · rw [zf1 hval hok hfl hJ hdst inv hi' h'] at hkf;cases hkf
     · exact ⟨zjJ h1,h2⟩
    have hLc:∀ {F H},RVJ P ops mv J val side K (fun k=>listed.getD k false||k==i) 0 ops F H->RVJ P ops mv J val side K (fun k=>(listed.setIfInBounds i true).getD k false) 0 ops F H:=fun {F H} h =>
     RVJ.congrL ops 0 F H (fun j _=>by
      by_cases hji:j=i
      · subst hji
        have:j<listed.size:=by omega
        simp [this]
      · have:(j==i)=false:=by simpa using hji
        rw [this,Bool.or_false,getD_set_ne false (Ne.symm hji)]) h
    have hback:∀ m,(listed.setIfInBounds i true).getD m false=false->listed.getD m false=false/\m≠i:=fun m h=>by
     by_cases hmi:m=i
     · subst hmi
       have:m<listed.size:=by omega
       simp [this] at h
     · rw [getD_set_ne false (Ne.symm hmi)] at h
       exact ⟨h,hmi⟩
    obtain ⟨⟨b,hb⟩,hside⟩:=RVJ.known hval hok hfl hJ hdst (L:=fun k=>listed.getD k false) hlf (fun k ok h1 h2 h3=>(hpair k ok h1 h2 h3).1) ops 0 F H a w (fun k _=>by simp) (Nat.zero_le _) (by simpa using hilt) (by simpa using hoi') hs (fun k _ hk hkf=>hi k hk hkf) hr h
    have hw:=zed hr hb
    have hdi:=zmY hval hok hfl hJ hdst i oi hoi'
    unfold wpOp
    rw [hoi]
    simp only [hw]
    cases b with
    | false =>
     simp only [Bool.false_eq_true,if_false]
     refine ih _ (putF F oi.dst (.tup [])) H _ w hc' inv' (hLc ?_) hs (fun k hk hkf=>hi k hk (hback k hkf).1) (hr.put hdi (R.skipped _ _)) hx kxcb
     exact RVJ.pull hval hlf (fun k ok h1 h2 h3=>(hpair k ok h1 h2 h3).1) ops 0 F H _ (fun k _=>by simp) (Nat.zero_le _) (by simpa using hilt) (by simpa using hoi') (fun _=>rfl) (fun h'=>by rw [hb] at h';cases h') h
    | true =>
     simp only [if_true]
     refine .inl ?_
     cases hm:mv.contains i with
     | true =>
      refine RVJ.pullM hval hlf hm (fun k ok h1 h2 h3=>?_) ops 0 F H (fun k _=>by simp) (Nat.zero_le _) (by simpa using hilt) (by simpa using hoi') hb h a w _ _ hs (fun x _=>hr.opd x) fun v w' d H' s x r k'=>?_
      · obtain ⟨g1,g2⟩:=hpair k ok h1 h2 h3
        refine ⟨g1,?_⟩
        cases hmk:mv.contains k with
        | true=>exact absurd ⟨hmk,hm⟩ g2
        | false=>rfl
      · exact ih _ _ H' _ w' hc' inv' (hLc k'.2) s (fun k hk hkf=>hJ i H' hm k'.1 k hk (hback k hkf).2 fun ha=>by
         have:=zf1 hval hok hfl hJ hdst inv hi' ha
         rw [(hback k hkf).1] at this;cases this) ((hr.ext x).put hdi r) (hx.trans x) kxcb
     | false =>
      refine hfl i oi hoi' hm _ H (hi i hilt hlf) (hside hb hm) a w _ _ hs (fun x _=>hr.opd x) fun v w' d H' s x r ⟨hd,hH⟩=>?_
      subst hd
      subst hH
      refine ih _ _ H' _ w' hc' inv' (hLc ?_) s (fun k hk hkf=>hi k hk (hback k hkf).1) ((hr.ext x).put hdi r) (hx.trans x) kxcb
      exact RVJ.pull hval hlf (fun k ok h1 h2 h3=>(hpair k ok h1 h2 h3).1) ops 0 F H' _ (fun k _=>by simp) (Nat.zero_le _) (by simpa using hilt) (by simpa using hoi') (fun h'=>by rw [hb] at h';cases h') (fun _=>⟨hm,rfl⟩) h
end
def klV (P:Program) (cs0:List V) (o:Oper) (f:Operand->V):V :=
 match o.op with
 | .load t x=>match f x with
  | .raw (.pointer (some p))=>zcw (ty P t) (cs0.drop p.off) 0
  | _=>.any
 | _=>.any
def klS (P:Program) (B:Nat) (cs0:List V) (o:Oper) (f:Operand->V):Prop :=
 match o.op with
 | .load t x=>match f x with
  | .raw (.pointer (some p))=>p.block=B/\p.spot=none/\zdO (ty P t) (cs0.drop p.off) 0
  | _=>False
 | _=>False
theorem zqy {P:Program} {B:Nat} {cs0:List V} {o:Oper} {f:Operand->V} {H:Own} (h:klS P B cs0 o f) (hm:Ent.blk B cs0∈H):DOp P o f H fun d H'=>d=klV P cs0 o f/\H'=H:=by
 unfold klS at h
 split at h
 · rename_i t x hop
   split at h
   · rename_i p hx
     obtain ⟨h1,h2,h3⟩:=h
     obtain ⟨b,off,sp⟩:=p
     simp only at h1 h2 h3
     subst h1 h2
     obtain ⟨L1,L2,rfl⟩:=List.append_of_mem hm
     refine DOp.load_ hop hx ⟨cs0,L1,L2,rfl,h3,?_,rfl⟩
     unfold klV;rw [hop];simp only;rw [hx]
   · exact h.elim
 · exact h.elim
theorem zoz {P:Program} {B:Nat} {cs0:List V} (o:Oper) (f f':Operand->V) (h:∀ x,x∈o.op.operands->f x=f' x):klV P cs0 o f=klV P cs0 o f'/\(klS P B cs0 o f->klS P B cs0 o f'):=by
 unfold klV klS
 split
 · rename_i t x hop
   rw [h x kxcl]
   exact ⟨rfl,fun h=>h⟩
 · exact ⟨rfl,fun h=>h⟩
def DVJ (P:Program) (mv kl nb:List Nat) (B:Nat) (cs0:List V) (K:Env->Own->Prop):Nat->List Oper->Env->Own->Prop
 | _,[],e,H=>K e H
 | i,o::rest,e,H=>o.guard=none /\
  if mv.contains i=true then DOp P o (opd e) H fun d H'=>(nb.contains i=true->Ent.blk B cs0∈H')/\DVJ P mv kl nb B cs0 K (i+1) rest (putO e o.dst d) H'
  else if kl.contains i=true then klS P B cs0 o (opd e)/\DVJ P mv kl nb B cs0 K (i+1) rest (putO e o.dst (klV P cs0 o (opd e))) H
  else side P o (opd e)/\DVJ P mv kl nb B cs0 K (i+1) rest (putO e o.dst (val P o (opd e))) H
@[congr] theorem DVJ_congr (P:Program) (mv kl nb:List Nat) (B:Nat) (cs0:List V) (K:Env->Own->Prop) (i:Nat) (l:List Oper) {e e':Env} {H H':Own} (h:e=e') (hH:H=H'):DVJ P mv kl nb B cs0 K i l e H=DVJ P mv kl nb B cs0 K i l e' H':=by rw [h,hH]
def nbOk (ops:List Oper) (mv kl nb:List Nat):Bool:=mv.all fun i=>nb.contains i||(List.range ops.length).all fun k=>!kl.contains k||k==i||((masks ops).getD i 0).testBit k
def valJ (P:Program) (kl:List Nat) (cs0:List V) (k:Nat) (o:Oper) (f:Operand->V):V:=if kl.contains k=true then klV P cs0 o f else val P o f
def znk (P:Program) (kl:List Nat) (B:Nat) (cs0:List V) (k:Nat) (o:Oper) (f:Operand->V):Prop:=if kl.contains k=true then klS P B cs0 o f else side P o f
theorem DVJ.rv {P:Program} {mv kl nb:List Nat} {B:Nat} {cs0:List V} {K:Env->Own->Prop} {ops:List Oper}:∀ (l:List Oper) (i:Nat) (e:Env) (H:Own),DVJ P mv kl nb B cs0 K i l e H ->
  RVJ P ops mv (fun i H'=>nb.contains i=true->Ent.blk B cs0∈H') (valJ P kl cs0) (znk P kl B cs0) (KF K) (fun _=>false) i l (get e) H
 | [],i,e,H,h=>⟨e,rfl,h⟩
 | o::rest,i,e,H,h=>by
  unfold DVJ at h
  obtain ⟨hg,h⟩:=h
  unfold RVJ
  rw [if_neg (by simp),show gst ops o (get e)=some true by unfold gst;rw [hg]]
  simp only
  rw [zeV]
  split at h
  · rename_i hm
    rw [if_pos hm]
    exact h.mono fun d H' h=>⟨h.1,by rw [<-zcz];exact DVJ.rv rest (i+1) _ _ h.2⟩
  · rename_i hm
    rw [if_neg hm]
    unfold valJ znk
    split at h
    · rename_i hk
      rw [if_pos hk,if_pos hk,<-zcz]
      exact ⟨h.1,DVJ.rv rest (i+1) _ _ h.2⟩
    · rename_i hk
      rw [if_neg hk,if_neg hk,<-zcz]
      exact ⟨h.1,DVJ.rv rest (i+1) _ _ h.2⟩
section
variable {P:Program} {n:Nat} {Q:Exit->Env->Own->Prop} {e:Env} {H:Own}
theorem DVJ.nil_ {mv kl nb:List Nat} {B:Nat} {cs0:List V} {K:Env->Own->Prop} {i:Nat} (h:K e H):DVJ P mv kl nb B cs0 K i [] e H:=h
theorem DVJ.ma_ {mv kl nb:List Nat} {B:Nat} {cs0:List V} {K:Env->Own->Prop} {i:Nat} {o:Oper} {rest:List Oper} (hg:o.guard=none) (hm:mv.contains i=true) (hn:nb.contains i=true)
  (h:DOp P o (opd e) H fun d H'=>Ent.blk B cs0∈H'/\DVJ P mv kl nb B cs0 K (i+1) rest (putO e o.dst d) H'):DVJ P mv kl nb B cs0 K i (o::rest) e H:=by
 unfold DVJ;rw [if_pos hm];exact ⟨hg,h.mono fun d H' h=>⟨fun _=>h.1,h.2⟩⟩
theorem DVJ.mb_ {mv kl nb:List Nat} {B:Nat} {cs0:List V} {K:Env->Own->Prop} {i:Nat} {o:Oper} {rest:List Oper} (hg:o.guard=none) (hm:mv.contains i=true) (hn:nb.contains i=false)
  (h:DOp P o (opd e) H fun d H'=>DVJ P mv kl nb B cs0 K (i+1) rest (putO e o.dst d) H'):DVJ P mv kl nb B cs0 K i (o::rest) e H:=by
 unfold DVJ;rw [if_pos hm];exact ⟨hg,h.mono fun d H' h=>⟨(fun hh=>by rw [hn] at hh;cases hh),h⟩⟩
theorem DVJ.k_ {mv kl nb:List Nat} {B:Nat} {cs0:List V} {K:Env->Own->Prop} {i:Nat} {o:Oper} {rest:List Oper} (hg:o.guard=none) (hm:mv.contains i=false) (hk:kl.contains i=true)
  (h:klS P B cs0 o (opd e)/\DVJ P mv kl nb B cs0 K (i+1) rest (putO e o.dst (klV P cs0 o (opd e))) H):DVJ P mv kl nb B cs0 K i (o::rest) e H:=by
 unfold DVJ;rw [if_neg kxca,if_pos hk];exact ⟨hg,h⟩
theorem DVJ.f_ {mv kl nb:List Nat} {B:Nat} {cs0:List V} {K:Env->Own->Prop} {i:Nat} {o:Oper} {rest:List Oper} (hg:o.guard=none) (hm:mv.contains i=false) (hk:kl.contains i=false)
  (h:side P o (opd e)/\DVJ P mv kl nb B cs0 K (i+1) rest (putO e o.dst (val P o (opd e))) H):DVJ P mv kl nb B cs0 K i (o::rest) e H:=by
 unfold DVJ;rw [if_neg kxca,if_neg (by rw [hk];exact Bool.false_ne_true)];exact ⟨hg,h⟩
theorem DW.drawJ (t:Nat) (ks mv kl nb:List Nat) {B:Nat} {id:Nat} {l:List Oper} (ht:get e t = .raw (.pointer (some ⟨B,0,none⟩))) (hm:P.follows .mixedOrders=true) (hd:dstB n l=true) (hB:zlq l mv []=true) (hN:nbOk l mv kl nb=true)
  (h:OnB H B fun cs0 _=>DVJ P mv kl nb B cs0 (Q .normal) 0 l (zaP ks e) H):DW P n (.region id l.toArray true) Q e H:=by
 obtain ⟨cs0,L1,L2,hH,h⟩:=h
 refine DW.weak _ H (zgg ks e) (List.Sublist.refl _) fun a w hs hr=>?_
 have hmem:Ent.blk B cs0∈H:=by rw [hH];simp
 refine wp_region_any hm ?_
 have hok:=ziW hB
 have hrv:=DVJ.rv (ops:=l) l 0 _ _ h
 have hdr:=hs.drew
 have hinv:HeadInv .any l.toArray l.length (Array.replicate l.toArray.size false):=⟨by simp,fun j oj _ hl=>(by rw [getD_replicate_false] at hl;cases hl),fun t _ ht=>getD_in (by simpa using ht) (getD_replicate_false _ _)⟩
 refine RVJ.all (n:=n) (mv:=mv) (T:=fun k H'=>kl.contains k=true->Ent.blk B cs0∈H') (J:=fun i H'=>nb.contains i=true->Ent.blk B cs0∈H') (K:=KF (Q .normal)) (val:=valJ P kl cs0) (side:=znk P kl B cs0) (fun k o f f' hf=>?_) hok (fun k o ho hk f H' hh hs=>?_) (fun i H' hi hJ k hk hki hna hkl=>?_) hd (Q:=_) (w0:=w) (G0:=H) (D:=a.defers) (fun a' w' F' H' hd' s r x ⟨e',he,hq⟩=>⟨hd',e',H',s,⟨r.size,fun t=>by rw [he];exact r.slot t⟩,x,hq⟩)
  l.toArray.size (Array.replicate l.toArray.size false) (get (zaP ks e)) H a w.drew (by simp) hinv ?_ hdr.1 (fun _ _ _ _=>hmem) ⟨hr.size,fun t=>hdr.2.rel (hr.slot t)⟩ hdr.2 rfl
 · unfold valJ znk
   split
   · exact zoz o f f' hf
   · exact ziN o f f' hf
 · unfold znk at hs
   unfold valJ
   split at hs
   · rename_i ht
     rw [if_pos ht]
     exact zqy hs (hh ht)
   · rename_i ht
     rw [if_neg ht]
     exact zeH hs
 · refine hJ ?_
   have h1:=List.all_eq_true.1 hN i (by simpa using hi)
   rw [Bool.or_eq_true] at h1
   rcases h1 with h1 | h1
   · exact h1
   · have h2:=List.all_eq_true.1 h1 k (List.mem_range.2 hk)
     simp only [hkl,Bool.not_true,Bool.false_or,Bool.or_eq_true,beq_iff_eq] at h2
     rcases h2 with h2 | h2
     · exact absurd h2 hki
     · exact absurd (zdm h2) hna
 · exact RVJ.congrL (L:=fun _=>false) l 0 _ _ (fun j _=>(getD_replicate_false _ _).symm) hrv
end
end
section
inductive CvO (v:Value) (l:List V):Own->Own->Prop
 | nil:CvO v l [] []
 | keep (e:Ent) {H H':Own} (h:CvO v l H H'):CvO v l (e::H) (e::H')
 | blk (b:Nat) {cs ds:List V} (hc:CvL v l cs ds) {H H':Own} (h:CvO v l H H'):CvO v l (.blk b cs::H) (.blk b ds::H')
theorem CvO.mem {v:Value} {l:List V} {H H':Own} (h:CvO v l H H'):(∀ e'∈H',∃ e∈H,(∀ a,e'.owns a↔e.owns a)/\(∀ b,e'.touches b↔e.touches b))/\(∀ e∈H,∃ e'∈H',(∀ a,e'.owns a↔e.owns a)/\(∀ b,e'.touches b↔e.touches b)):=by
 induction h with
 | nil=>exact ⟨(fun _ h=>nomatch h),(fun _ h=>nomatch h)⟩
 | keep e _ ih =>
  refine ⟨fun x hx=>?_,fun x hx=>?_⟩
  · rcases List.mem_cons.1 hx with rfl | hx
    · exact ⟨_,List.mem_cons_self ..,fun _=>Iff.rfl,fun _=>Iff.rfl⟩
    · obtain ⟨y,hy,h⟩:=ih.1 x hx;exact ⟨y,List.mem_cons_of_mem _ hy,h⟩
  · rcases List.mem_cons.1 hx with rfl | hx
    · exact ⟨_,List.mem_cons_self ..,fun _=>Iff.rfl,fun _=>Iff.rfl⟩
    · obtain ⟨y,hy,h⟩:=ih.2 x hx;exact ⟨y,List.mem_cons_of_mem _ hy,h⟩
 | blk b hc _ ih =>
  refine ⟨fun x hx=>?_,fun x hx=>?_⟩
  · rcases List.mem_cons.1 hx with rfl | hx
    · exact ⟨_,List.mem_cons_self ..,fun _=>Iff.rfl,fun _=>Iff.rfl⟩
    · obtain ⟨y,hy,h⟩:=ih.1 x hx;exact ⟨y,List.mem_cons_of_mem _ hy,h⟩
  · rcases List.mem_cons.1 hx with rfl | hx
    · exact ⟨_,List.mem_cons_self ..,fun _=>Iff.rfl,fun _=>Iff.rfl⟩
    · obtain ⟨y,hy,h⟩:=ih.2 x hx;exact ⟨y,List.mem_cons_of_mem _ hy,h⟩
theorem CvO.holds {v:Value} {l:List V} {w:World} {S S':Addr->Prop} (hv:R S' w v (.gs v l)) (hS:∀ a,S a->S' a) {H H':Own} (h:CvO v l H H') (hh:∀ e∈H,e.holds S w):∀ e∈H',e.holds S' w:=by
 induction h with
 | nil=>exact fun _ h=>nomatch h
 | keep e _ ih =>
  intro x hx
  rcases List.mem_cons.1 hx with rfl | hx
  · exact Ent.holds_mono (hh _ (List.mem_cons_self ..)) (fun a ha=>⟨hS a ha,rfl⟩) (fun _ _=>rfl)
  · exact ih (fun e he=>hh e (List.mem_cons_of_mem _ he)) x hx
 | blk b hc _ ih =>
  intro x hx
  rcases List.mem_cons.1 hx with rfl | hx
  · obtain ⟨xs,T,fr,h1,h2,h3,h4⟩:=hh _ (List.mem_cons_self ..)
    exact ⟨xs,T,fr,h1,h2,h3.trans hc.len,fun k hk=>R.cv hv (hc.at k) ((h4 k (by rw [hc.len];exact hk)).mono fun a ha=>⟨hS a ha,rfl⟩)⟩
  · exact ih (fun e he=>hh e (List.mem_cons_of_mem _ he)) x hx
theorem CvO.stable {v:Value} {l:List V} {w:World} {H H':Own} (h:CvO v l H H') {a:Addr} (hs:stable w H a):stable w H' a:=⟨hs.1,fun e he ho=>by
 obtain ⟨y,hy,h1,_⟩:=h.mem.1 e he
 exact hs.2 y hy ((h1 a).1 ho)⟩
theorem CvO.loose {v:Value} {l:List V} {H H':Own} (h:CvO v l H H') (hl:Go.Proofs.YtgekknefphagbaaGreatDoor.loose∈H'):Go.Proofs.YtgekknefphagbaaGreatDoor.loose∈H:=by
 induction h with
 | nil=>exact hl
 | keep e _ ih =>
  rcases List.mem_cons.1 hl with hl | hl
  · exact hl▸List.mem_cons_self ..
  · exact List.mem_cons_of_mem _ (ih hl)
 | blk b hc _ ih =>
  rcases List.mem_cons.1 hl with hl | hl
  · cases hl
  · exact List.mem_cons_of_mem _ (ih hl)
section
variable {P:Program} {n:Nat} {Q:Exit->Env->Own->Prop} {e e':Env} {H:Own}
end
theorem DC.someV {P:Program} {f:FuncId} {l:List V} {rest:List V} {H:Own} {K:V->Own->Prop} (he:zdL P f=true)
  (h:∀ (a:Option Addr) (cap:Nat),(a=none->l=[])->DC P f (.gs (.slice a l.length cap) l::rest) H K):DC P f (.sl l::rest) H K:=by
 refine ⟨he,fun xs w hs hn hr=>?_⟩
 have h0:=hr 0 (by simp)
 change R _ w (xs.getD 0 undef) (.sl l) at h0
 generalize hx:xs.getD 0 undef=u at h0
 have h0':=h0
 cases h0 with
 | sl a n cap _ sz hl hc ha h1 h2 h3 h4 =>
 subst hl
 refine (h a cap ha).2 xs w hs hn fun k hk=>?_
 cases k with
 | zero=>show R _ w (xs.getD 0 undef) (.gs (.slice a l.length cap) l);rw [hx];exact .gs _ _ h0'
 | succ k=>exact hr (k+1) (by simpa using hk)
theorem DC.own0 {P:Program} {f:FuncId} {args:List V} {H F:Own} (sz:Nat) (h:DC P f args H fun d G=>d = .gs (.slice none 0 0) []/\G=F):DC P f args H fun d G=>d = .ar (.slice none 0 0) 0/\G = .arr sz (.slice none 0 0) []::F :=
 ⟨h.1,fun xs w hs hn hr=>(h.2 xs w hs hn hr).mono fun x w' ⟨v,d,H',he,s,ex,r,hd,hG⟩=>by
   subst hd hG
   obtain ⟨g1,g2⟩:=s.arr0 sz
   cases r
   exact ⟨_,_,_,he,g1,ex.trans g2, .ar _ _ _ (Nat.le_refl _) (fun _=>rfl),rfl,rfl⟩⟩
theorem DC.frz {P:Program} {f:FuncId} {args:List V} {H F:Own} {K:Value->Prop} {D D':Value->V} {sz:Nat} {l:List V} {L:Value->Own} (hz:0<sz) (hl:∀ y∈l,y.n=sz) (hc:∀ v,Cv v l (D v) (D' v))
  (h:DC P f args H fun d G=>∃ v,d=D v/\G = .arr sz v (cells l)::L v/\K v):DC P f args H fun d G=>∃ v,d=D' v/\G=L v/\K v :=
 ⟨h.1,fun xs w hs hn hr=>(h.2 xs w hs hn hr).mono fun x w' ⟨u,d,H',he,s,ex,r,v,hd,hG,hk⟩=>by
   subst hd hG
   obtain ⟨⟨g1,g2⟩,g3⟩:=Sim.frz (L1:=[]) s hz hl
   have k1:Ext w' (.tail sz v::L v) w' (L v):=Ext.drop fun x hx=>List.mem_cons_of_mem _ hx
   exact ⟨u,D' v,L v,he,g1.drop (List.sublist_cons_self _ _),(ex.trans g2).trans k1,(R.cv g3 (hc v) (g2.rel r)).mono k1.cells,v,rfl,rfl,hk⟩⟩
theorem DC.le_ {P:Program} {f:FuncId} {args:List V} {H G0:Own} {d':V} (D:Value->V) (hd:∀ v,le (D v) d') (h:DC P f args H fun d G=>∃ v,d=D v/\G=G0):DC P f args H fun d G=>d=d'/\G=G0 :=
 ⟨h.1,fun xs w hs hn hr=>(h.2 xs w hs hn hr).mono fun x w' ⟨u,d,H',he,s,ex,r,v,hv,hG⟩=>by
   subst hv
   exact ⟨u,d',H',he,s,ex,hd v _ _ _ r,rfl,hG⟩⟩
end
end Go.Proofs.YtgekknefphagbaaGreatDoor
