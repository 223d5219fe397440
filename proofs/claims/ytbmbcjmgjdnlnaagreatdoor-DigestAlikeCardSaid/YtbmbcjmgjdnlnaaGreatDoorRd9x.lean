/- Cells come. -/
import Derived.Test.YtbmbcjmgjdnlnaaGreatDoorRd7x
import Derived.Test.YtbmbcjmgjdnlnaaGreatDoorRd5x
import Derived.KernelRfl
import Derived.Test.YtbmbcjmgjdnlnaaGreatDoorEm
namespace Go.Proofs.YtbmbcjmgjdnlnaaGreatDoor
open Go.RowKit
set_option linter.unusedSimpArgs false
set_option linter.unusedVariables false
set_option linter.unusedSectionVars false
set_option maxHeartbeats 4000000
set_option maxRecDepth 100000
section
attribute [local irreducible] DW SeqD DV DOp DC DVX
def putC (dd:TDot) (s1 s2 s3:Int) (m1 m2:Str) (m3:Int):TCell:=⟨dd,⟨s1,s2,s3⟩,m1,m2,if ((m2.length:Int)==0)=true then 0 else m3,((m2.length:Int)==0)⟩
theorem putC_1 (dd:TDot) (s1 s2 s3:Int) (m1 m2:Str) (m3:Int) (h:((m2.length:Int)==0)=true):putC dd s1 s2 s3 m1 m2 m3=⟨dd,⟨s1,s2,s3⟩,m1,m2,0,((m2.length:Int)==0)⟩:=by rw [putC,if_pos h]
theorem putC_2 (dd:TDot) (s1 s2 s3:Int) (m1 m2:Str) (m3:Int) (h:¬ ((m2.length:Int)==0)=true):putC dd s1 s2 s3 m1 m2 m3=⟨dd,⟨s1,s2,s3⟩,m1,m2,m3,((m2.length:Int)==0)⟩:=by rw [putC,if_neg h]
def putOk (node epoch s1 s2 s3:Int) (m1:Str) (m3:Int):Bool:=nameB m1&&decide (0<=m3)&&decide (m3<=2)&&pairB node epoch&&stampedM ⟨s1,s2,s3⟩
theorem putOk_no {node epoch s1 s2 s3:Int} {m1:Str} {m3:Int} (h:nameB m1=false\/m3<0\/2<m3\/pairB node epoch=false\/stampedM ⟨s1,s2,s3⟩=false):putOk node epoch s1 s2 s3 m1 m3=false:=by
 unfold putOk
 rcases h with h | h | h | h | h
 · rw [h];rfl
 · rw [decide_eq_false (show ¬ 0<=m3 by omega)];simp
 · rw [decide_eq_false (show ¬ m3<=2 by omega)];simp
 · rw [h];simp
 · rw [h];simp
theorem putOk_yes {node epoch s1 s2 s3:Int} {m1:Str} {m3:Int} (h1:nameB m1=true) (h2:0<=m3) (h3:m3<=2) (h4:pairB node epoch=true) (h5:stampedM ⟨s1,s2,s3⟩=true):putOk node epoch s1 s2 s3 m1 m3=true:=by
 rw [putOk,h1,decide_eq_true h2,decide_eq_true h3,h4,h5];rfl
attribute [local irreducible] nameB stampedM pairB
theorem sv_cellput_dc {p:Prop} (h:p:=by first | exact sv | (simp [encDot,encRoute,encFence,V.one];omega) | (simp [encRoute,encDot,encFence,V.one,List.length_take,List.length_drop]<;>omega) | (refine ⟨by omega,by omega,?_⟩;intro y hy;rcases List.mem_append.1 hy with hy | hy;(obtain ⟨x,_,rfl⟩:=List.mem_map.1 hy;rfl);(simp only [List.mem_singleton] at hy;subst hy;rfl)) | (refine ⟨by omega,by omega,?_⟩;intro y hy;obtain ⟨x,_,rfl⟩:=List.mem_map.1 hy;first | rfl | exact ⟨rfl,rfl⟩) | (refine ⟨?_,?_,?_,?_⟩<;>first | omega | (simp only [List.length_append,List.length_singleton];omega)) | fail):p:=h
section
attribute [local push_cast 2000] encDot
theorem cellput_dc (se:List TDot) (fe:List TFence) (ro:List TRoute) (ce:List TCell) (node epoch s1 s2 s3:Int) (m1 m2:Str) (m3:Int) (m4:Bool) (F:Own):((se.length<=1000000000/\fe.length<=1000000000/\ro.length<=1000000000/\ce.length<=1000000000)/\(m1.length<=1000000000/\m2.length<=1000000000) /\ -1000000000000<=topM se node epoch/\topM se node epoch<=1000000000000)->DC Tryz.prog 29 [.agg [.sl (se.map encDot), .sl (fe.map encFence), .sl (ro.map encRoute), .sl (ce.map encCell)], .int .i64 node, .int .i64 epoch, .agg [.int .i64 s1, .int .i64 s2, .int .i64 s3], .agg [.str m1, .sl (m2.map u8), .int .i64 m3, .bool m4]] (([]:Own)++F) fun d G=>(putOk node epoch s1 s2 s3 m1 m3=false/\d = .agg [.sl (se.map encDot), .sl (fe.map encFence), .sl (ro.map encRoute), .sl (ce.map encCell)]\/putOk node epoch s1 s2 s3 m1 m3=true/\d = .agg [.sl ((addM se (nextDot se node epoch)).map encDot), .sl (fe.map encFence), .sl (ro.map encRoute), .sl ((cellInM ce (putC (nextDot se node epoch) s1 s2 s3 m1 m2 m3)).map encCell)])/\G=[]++F:=by
 intro hA
 obtain ⟨⟨hs,hf,hr,hc⟩,⟨hl,hl2⟩,h1,h2⟩:=hA
 refine DC.bodyS (n_:=69) (show Tryz.prog.funcs[29]? = some Tryz.f29 by kernel_rfl) rfl rfl (by rfl) ?_
 simp only [env0,List.cons_append,List.nil_append]
 have kw:=ksIs [0,1,2,3,4,5,8,9,10,11,36,55]
 have ow:=ownIs [5]
 have dw6:=drIs 6 [10,12] [1,3,4,6,7,8]
 have rw_:=rsIs [.cell 10 28]
 repeat' (first
  | refine g_ ?_
  | ((with_reducible refine And.intro ?_ ?_);(exact sv_cellput_dc))
  | (refine DW.cond (by rfl) ?_ ?_<;>(first | exact i0_ | (refine ic_ ?_;intro hb)))
  | ((with_reducible first | refine FVg_cases ?_ ?_ | refine FDg_cases ?_ ?_)<;>(intro hb;rw [hb];revert hb;(first | exact i0_ | (refine i_ ?_;intro hb))))
  | refine r_ ?_
  | refine d_ ?_
  | refine k_ ?_
  | ((refine dm_ ?_);(first | ((first | refine v_ (rname_dc _ _) ?_ (ha:=by exact sv_cellput_dc) | refine v_ (pair_dc _ _ _) ?_ (ha:=by exact sv_cellput_dc) | refine v_ (stamped_dc _ _ _ _) ?_ (ha:=by exact sv_cellput_dc) | refine v_ (deed_dc _ _ _ _ _ _ _) ?_ (ha:=by exact sv_cellput_dc) | refine v_ (radd_dc _ _ _ _ _) ?_ (ha:=by exact sv_cellput_dc) | refine v_ (cellinto_dc _ _ _ _ _ _ _ _ _ _ _ _) ?_ (ha:=by exact sv_cellput_dc)))))
  | refine vo_ ?_
  | ((first | ((with_reducible refine DW.drawX (id:=3) [0,1,2,3,4,5,8,9,10,11,36,55] [0,3,17] 16 124 (some 11) (by kernel_rfl) (by kernel_rfl) (by kernel_rfl) (by kernel_rfl) rfl (by kernel_rfl) ?_ ?_)) | (refine DVX.fl_ rfl rfl rfl ?_) | (refine DVX.f_ rfl rfl (by decide) ?_) | ((refine DVX.mv_ rfl rfl (by decide) ?_);intro X;(try simp only [List.cons_append,List.nil_append]);(first | (refine qq_ (rname_dc _ _) ?_ (ha:=by exact sv_cellput_dc);rintro d rfl) | (refine qq_ (pair_dc _ _ _) ?_ (ha:=by exact sv_cellput_dc);rintro d rfl) | (refine qq_ (stamped_dc _ _ _ _) ?_ (ha:=by exact sv_cellput_dc);rintro d rfl) | (refine qq_ (deed_dc _ _ _ _ _ _ _) ?_ (ha:=by exact sv_cellput_dc);rintro d rfl) | (refine qq_ (radd_dc _ _ _ _ _) ?_ (ha:=by exact sv_cellput_dc);rintro d rfl) | (refine qq_ (cellinto_dc _ _ _ _ _ _ _ _ _ _ _ _) ?_ (ha:=by exact sv_cellput_dc);rintro d rfl) | ((refine DOp.load_ rfl rfl ?_);(repeat (with_reducible first | refine OnB.here ?_ | refine OnB.mid ?_ | refine OnB.next ?_));(refine And.intro (by simp (maxSteps:=1000000) (disch:=omega) only [push_cast,↓reduceIte,reduceCtorEq,Nat.reduceAdd,Nat.reduceMul,Nat.reduceLT,Nat.reduceLeDiff,Nat.reduceEqDiff,Nat.reduceSub,Int.reduceToNat,Int.reduceLT,Int.reduceLE,Int.reduceAdd,Int.reduceSub,Int.reduceMul,Int.reduceNeg,Nat.reduceBEq,Int.reduceBEq,Int.reduceBNe,Nat.reduceBNe,Int.reduceEq,encDot]) ?_)));(try simp only [List.cons_append,List.nil_append]);(repeat (with_reducible first | refine PXK.base ?_ | refine PXK.none ?_ | refine PXK.cons ?_))))<;>(simp (maxSteps:=1000000) (disch:=omega) only [push_cast,↓reduceIte,reduceCtorEq,Nat.reduceAdd,Nat.reduceMul,Nat.reduceLT,Nat.reduceLeDiff,Nat.reduceEqDiff,Nat.reduceSub,Int.reduceToNat,Int.reduceLT,Int.reduceLE,Int.reduceAdd,Int.reduceSub,Int.reduceMul,Int.reduceNeg,Nat.reduceBEq,Int.reduceBEq,Int.reduceBNe,Nat.reduceBNe,Int.reduceEq,encDot]))
  | ((first | refine q_ (rname_dc _ _) ?_ (ha:=by exact sv_cellput_dc) | refine q_ (pair_dc _ _ _) ?_ (ha:=by exact sv_cellput_dc) | refine q_ (stamped_dc _ _ _ _) ?_ (ha:=by exact sv_cellput_dc) | refine q_ (deed_dc _ _ _ _ _ _ _) ?_ (ha:=by exact sv_cellput_dc) | refine q_ (radd_dc _ _ _ _ _) ?_ (ha:=by exact sv_cellput_dc) | refine q_ (cellinto_dc _ _ _ _ _ _ _ _ _ _ _ _) ?_ (ha:=by exact sv_cellput_dc)))
  | refine o_ ?_
  | refine f_ ?_
  | refine vm_ ?_
  | with_reducible intro b)
 all_goals first
 | (refine ⟨_,_,le.rfl_,⟨.inl ⟨putOk_no (by first | (left;assumption) | (right;left;omega) | (right;right;left;omega) | (right;right;right;left;assumption) | (right;right;right;right;assumption)),rfl⟩,rfl⟩,?_⟩;(exact sub_);done)
 | (refine ⟨_,_,?_,⟨.inr ⟨putOk_yes (by assumption) (by omega) (by omega) (by assumption) (by assumption),rfl⟩,rfl⟩,?_⟩;(rw [putC_1 (nextDot se node epoch) s1 s2 s3 m1 m2 m3 (by first | assumption | (simp;done) | (simp;omega) | (simp_all;done) | (simp_all;omega))];exact le.rfl_);(exact sub_);done)
 | (refine ⟨_,_,?_,⟨.inr ⟨putOk_yes (by assumption) (by omega) (by omega) (by assumption) (by assumption),rfl⟩,rfl⟩,?_⟩;(rw [putC_2 (nextDot se node epoch) s1 s2 s3 m1 m2 m3 (by first | assumption | (simp;done) | (simp;omega) | (simp_all;done) | (simp_all;omega))];exact le.rfl_);(exact sub_);done)
end
end
section
section
variable {P:Program} {ops:List Oper} {mv mk:List Nat} {val:Nat->Oper->(Operand->V)->V} {side:Nat->Oper->(Operand->V)->Prop} {K:(Nat->V)->Own->Prop} {n:Nat} {Rk:Nat->V->Own->Prop}
def RVM (P:Program) (ops:List Oper) (mv mk:List Nat) (Rk:Nat->V->Own->Prop) (val:Nat->Oper->(Operand->V)->V) (side:Nat->Oper->(Operand->V)->Prop) (K:(Nat->V)->Own->Prop) (L:Nat->Bool) (md:Nat->Own):List Nat->(Nat->V)->Own->Prop
 | [],F,H=>K F H
 | k::s,F,H =>
  if L k=true then RVM P ops mv mk Rk val side K L md s F (md k++H)
  else match ops[k]? with
   | none=>False
   | some o=>match gst ops o F with
    | some true =>
     if mv.contains k=true then ∀ X:Own,DOp P o (opdF F) (H++X) fun d H'=>∃ H1:Own,H'.Perm (H1++X)/\RVM P ops mv mk Rk val side K L md s (putF F o.dst d) H1
     else if mk.contains k=true then side k o (opdF F)/\∀ d N,Rk k d N->RVM P ops mv mk Rk val side K L md s (putF F o.dst d) (N++H)
     else side k o (opdF F)/\RVM P ops mv mk Rk val side K L md s (putF F o.dst (val k o (opdF F))) H
    | some false=>RVM P ops mv mk Rk val side K L md s (putF F o.dst (.tup [])) H
    | none=>False
theorem RVM.congrL {L L':Nat->Bool} {md md':Nat->Own}:∀ (s:List Nat) (F:Nat->V) (H:Own),(∀ j,j∈s->L j=L' j/\md j=md' j)->RVM P ops mv mk Rk val side K L md s F H->RVM P ops mv mk Rk val side K L' md' s F H
 | [],_,_,_,h=>h
 | k::s,F,H,he,h=>by
  have ih:=fun F H=>RVM.congrL s F H fun j hj=>he j (List.mem_cons_of_mem _ hj)
  unfold RVM at h ⊢
  obtain ⟨e1,e2⟩:=he k List.mem_cons_self
  rw [<-e1,<-e2]
  split
  · rename_i hl;rw [if_pos hl] at h;exact ih _ _ h
  · rename_i hl
    rw [if_neg hl] at h
    cases ho:ops[k]? with
    | none=>rw [ho] at h;exact h
    | some o =>
     rw [ho] at h
     simp only at h ⊢
     cases hg:gst ops o F with
     | none=>rw [hg] at h;exact h.elim
     | some b =>
      rw [hg] at h
      cases b with
      | false=>exact ih _ _ h
      | true =>
       simp only at h ⊢
       split
       · rename_i hm;rw [if_pos hm] at h;exact fun X=>(h X).mono fun d H' ⟨H1,hp,h⟩=>⟨H1,hp,ih _ _ h⟩
       · rename_i hm
         rw [if_neg hm] at h
         split
         · rename_i hk;rw [if_pos hk] at h;exact ⟨h.1,fun d N hR=>ih _ _ (h.2 d N hR)⟩
         · rename_i hk;rw [if_neg hk] at h;exact ⟨h.1,ih _ _ h.2⟩
theorem perm_mid (A B C D:Own):(A++B++C++D).Perm (B++(A++C)++D):=by
 rw [<-List.append_assoc B]
 exact (List.perm_append_comm.append_right _).append_right _
theorem perm_back (A B C:Own):(A++B++C).Perm (B++(A++C)):=by
 rw [List.append_assoc]
 exact List.perm_append_comm_assoc _ _ _
variable (hval:∀ k o f f',(∀ x,x∈o.op.operands->f x=f' x)->val k o f=val k o f'/\(side k o f->side k o f'))
include hval
theorem RVM.pull {L:Nat->Bool} {md:Nat->Own} {j:Nat} {oj:Oper} (hoj:ops[j]? = some oj) (hj:L j=false) (hmd:md j=[]) :
  ∀ (s1 s2:List Nat) (F:Nat->V) (H:Own) (d:V),(∀ i oi,i∈s1->ops[i]? = some oi->L i=false->Free ops oi oj)->j ∉ s1->j ∉ s2 ->
   (gst ops oj F=some false->d = .tup [])->(gst ops oj F=some true->mv.contains j=false/\mk.contains j=false/\d=val j oj (opdF F)) ->
   RVM P ops mv mk Rk val side K L md (s1++j::s2) F H->RVM P ops mv mk Rk val side K (fun i=>L i||i==j) md (s1++j::s2) (putF F oj.dst d) H
 | [],s2,F,H,d,_,_,hj2,hd0,hd1,h=>by
  simp only [List.nil_append] at h ⊢
  unfold RVM at h ⊢
  rw [if_pos (by simp),hmd,List.nil_append]
  rw [if_neg (by simp [hj]),hoj] at h
  simp only at h
  have hc:∀ {F H},RVM P ops mv mk Rk val side K L md s2 F H->RVM P ops mv mk Rk val side K (fun i=>L i||i==j) md s2 F H:=fun {F H} h =>
   RVM.congrL s2 _ _ (fun i hi=>⟨by have:i≠j:=fun e=>hj2 (e▸hi);simp [this],rfl⟩) h
  cases hg:gst ops oj F with
  | none=>rw [hg] at h;exact h.elim
  | some b =>
   rw [hg] at h
   cases b with
   | false=>rw [hd0 hg];exact hc h
   | true =>
    obtain ⟨hm,hk,hd⟩:=hd1 hg
    simp only [hm,hk,Bool.false_eq_true,if_false] at h
    rw [hd]
    exact hc h.2
 | k::s1,s2,F,H,d,hun,hj1,hj2,hd0,hd1,h=>by
  simp only [List.cons_append] at h ⊢
  have hkj:k≠j:=fun e=>hj1 (e▸List.mem_cons_self)
  have hneq:(k==j)=false:=by simpa using hkj
  have hun':∀ i oi,i∈s1->ops[i]? = some oi->L i=false->Free ops oi oj:=fun i oi hi=>hun i oi (List.mem_cons_of_mem _ hi)
  have hj1':j ∉ s1:=fun hi=>hj1 (List.mem_cons_of_mem _ hi)
  unfold RVM at h ⊢
  simp only [hneq,Bool.or_false]
  by_cases hlk:L k=true
  · rw [if_pos hlk] at h ⊢
    exact RVM.pull hoj hj hmd s1 s2 F _ d hun' hj1' hj2 hd0 hd1 h
  · rw [if_neg hlk] at h ⊢
    cases ho:ops[k]? with
    | none=>rw [ho] at h;exact h
    | some o =>
     rw [ho] at h
     simp only at h ⊢
     have fr:=hun k o List.mem_cons_self ho (by simpa using hlk)
     rw [fr.gst2]
     have ih:=fun F' H' (e1:gst ops oj F'=gst ops oj F) (e2:val j oj (opdF F')=val j oj (opdF F))=>RVM.pull hoj hj hmd s1 s2 F' H' d hun' hj1' hj2 (fun h=>hd0 (e1▸h)) (fun h=>by rw [e2];exact hd1 (e1▸h))
     cases hg:gst ops o F with
     | none=>rw [hg] at h;exact h.elim
     | some b =>
      rw [hg] at h
      cases b with
      | false =>
       simp only at h ⊢
       rw [<-fr.put]
       exact ih _ _ (fr.gst1 _ _) (fr.val1 hval _ _ _) h
      | true =>
       simp only at h ⊢
       split
       · rename_i hm
         rw [if_pos hm] at h
         refine fun X=>((h X).congr fun x hx=>(fr.ops2 F d x hx).symm).mono fun d' H' ⟨H1,hp,h⟩=>⟨H1,hp,?_⟩
         rw [<-fr.put]
         exact ih _ _ (fr.gst1 _ _) (fr.val1 hval _ _ _) h
       · rename_i hm
         rw [if_neg hm] at h
         split
         · rename_i hk
           rw [if_pos hk] at h
           refine ⟨fr.side2 hval _ _ _ h.1,fun d' N hR=>?_⟩
           rw [<-fr.put]
           exact ih _ _ (fr.gst1 _ _) (fr.val1 hval _ _ _) (h.2 d' N hR)
         · rename_i hk
           rw [if_neg hk] at h
           refine ⟨fr.side2 hval _ _ _ h.1,?_⟩
           rw [fr.val2 hval k,<-fr.put]
           exact ih _ _ (fr.gst1 _ _) (fr.val1 hval _ _ _) h.2
theorem RVM.pullK {L:Nat->Bool} {md:Nat->Own} {j:Nat} {oj:Oper} (hoj:ops[j]? = some oj) (hj:L j=false) (hm:mv.contains j=false) (hk:mk.contains j=true) {d:V} {N:Own} (hR:Rk j d N) :
  ∀ (s1 s2:List Nat) (F:Nat->V) (H:Own),(∀ i oi,i∈s1->ops[i]? = some oi->L i=false->Free ops oi oj)->j ∉ s1->j ∉ s2->gst ops oj F=some true ->
   RVM P ops mv mk Rk val side K L md (s1++j::s2) F H->RVM P ops mv mk Rk val side K (fun i=>L i||i==j) (fun i=>if i=j then N else md i) (s1++j::s2) (putF F oj.dst d) H
 | [],s2,F,H,_,_,hj2,hgj,h=>by
  simp only [List.nil_append] at h ⊢
  unfold RVM at h ⊢
  rw [if_pos (by simp)]
  rw [if_neg (by simp [hj]),hoj] at h
  simp only [hgj,hm,hk,Bool.false_eq_true,if_false,if_true] at h ⊢
  exact RVM.congrL s2 _ _ (fun i hi=>by have:i≠j:=fun e=>hj2 (e▸hi);simp [this]) (h.2 d N hR)
 | k::s1,s2,F,H,hun,hj1,hj2,hgj,h=>by
  simp only [List.cons_append] at h ⊢
  have hkj:k≠j:=fun e=>hj1 (e▸List.mem_cons_self)
  have hneq:(k==j)=false:=by simpa using hkj
  have hun':∀ i oi,i∈s1->ops[i]? = some oi->L i=false->Free ops oi oj:=fun i oi hi=>hun i oi (List.mem_cons_of_mem _ hi)
  have hj1':j ∉ s1:=fun hi=>hj1 (List.mem_cons_of_mem _ hi)
  unfold RVM at h ⊢
  simp only [hneq,Bool.or_false,if_neg hkj]
  by_cases hlk:L k=true
  · rw [if_pos hlk] at h ⊢
    exact RVM.pullK hoj hj hm hk hR s1 s2 F _ hun' hj1' hj2 hgj h
  · rw [if_neg hlk] at h ⊢
    cases ho:ops[k]? with
    | none=>rw [ho] at h;exact h
    | some o =>
     rw [ho] at h
     simp only at h ⊢
     have fr:=hun k o List.mem_cons_self ho (by simpa using hlk)
     rw [fr.gst2]
     have ih:=fun F' H' (e1:gst ops oj F'=gst ops oj F)=>RVM.pullK (md:=md) hoj hj hm hk hR s1 s2 F' H' hun' hj1' hj2 (e1▸hgj)
     cases hg:gst ops o F with
     | none=>rw [hg] at h;exact h.elim
     | some b =>
      rw [hg] at h
      cases b with
      | false =>
       simp only at h ⊢
       rw [<-fr.put]
       exact ih _ _ (fr.gst1 _ _) h
      | true =>
       simp only at h ⊢
       split
       · rename_i hm
         rw [if_pos hm] at h
         refine fun X=>((h X).congr fun x hx=>(fr.ops2 F d x hx).symm).mono fun d' H' ⟨H1,hp,h⟩=>⟨H1,hp,?_⟩
         rw [<-fr.put]
         exact ih _ _ (fr.gst1 _ _) h
       · rename_i hm
         rw [if_neg hm] at h
         split
         · rename_i hk
           rw [if_pos hk] at h
           refine ⟨fr.side2 hval _ _ _ h.1,fun d' N' hR'=>?_⟩
           rw [<-fr.put]
           exact ih _ _ (fr.gst1 _ _) (h.2 d' N' hR')
         · rename_i hk
           rw [if_neg hk] at h
           refine ⟨fr.side2 hval _ _ _ h.1,?_⟩
           rw [fr.val2 hval k,<-fr.put]
           exact ih _ _ (fr.gst1 _ _) h.2
omit hval in
theorem exr_perm {s:List Nat} (md:Nat->Own):∀ H:Own,(s.foldl (fun H k=>md k++H) H).Perm (s.flatMap md++H):=by
 induction s with
 | nil=>intro H;exact List.Perm.refl _
 | cons k s ih =>
  intro H
  rw [List.foldl_cons,List.flatMap_cons]
  refine (ih _).trans ?_
  rw [<-List.append_assoc]
  exact (List.perm_append_comm).append_right _
theorem RVM.pullM {L:Nat->Bool} {md:Nat->Own} {j:Nat} {oj:Oper} (hoj:ops[j]? = some oj) (hj:L j=false) (hm:mv.contains j=true) (hmu:∀ i,L i=false->md i=[]) :
  ∀ (s1 s2:List Nat) (F:Nat->V) (H:Own),(∀ i oi,i∈s1->ops[i]? = some oi->L i=false->Free ops oi oj/\mv.contains i=false/\mk.contains i=false)->j ∉ s1->j ∉ s2->(∀ i,i∈s1->i ∉ s2)->gst ops oj F=some true ->
   RVM P ops mv mk Rk val side K L md (s1++j::s2) F H->∀ X:Own,DOp P oj (opdF F) (s1.flatMap md++H++X) fun d H'=>∃ H1:Own,H'.Perm (H1++X)/\RVM P ops mv mk Rk val side K (fun i=>L i||i==j) (fun i=>if (s1++[j]).contains i=true then [] else md i) (s1++j::s2) (putF F oj.dst d) H1:=by
 have key:∀ (Z s1 s2:List Nat) (F:Nat->V) (H:Own),(∀ i,i∈s1->i∈Z)->(∀ i,i∈s2->i ∉ Z)->(∀ i oi,i∈s1->ops[i]? = some oi->L i=false->Free ops oi oj/\mv.contains i=false/\mk.contains i=false)->j ∉ s1->j ∉ s2->gst ops oj F=some true ->
   RVM P ops mv mk Rk val side K L md (s1++j::s2) F H->∀ X:Own,DOp P oj (opdF F) (s1.foldl (fun H k=>md k++H) H++X) fun d H'=>∃ H1:Own,H'.Perm (H1++X)/\RVM P ops mv mk Rk val side K (fun i=>L i||i==j) (fun i=>if (Z++[j]).contains i=true then [] else md i) (s1++j::s2) (putF F oj.dst d) H1:=by
  intro Z s1
  induction s1 with
  | nil =>
   intro s2 F H _ hz _ _ hj2 hgj h X
   simp only [List.nil_append,List.foldl_nil] at h ⊢
   unfold RVM at h
   rw [if_neg (by simp [hj]),hoj] at h
   simp only [hgj,hm,if_true] at h
   refine (h X).mono fun d H' ⟨H1,hp,h⟩=>⟨H1,hp,?_⟩
   unfold RVM
   rw [if_pos (by simp),if_pos (by simp),List.nil_append]
   refine RVM.congrL s2 _ _ (fun i hi=>?_) h
   have h1:i≠j:=fun e=>hj2 (e▸hi)
   have h2:=hz i hi
   simp [h1,h2]
  | cons k s1 ih =>
   intro s2 F H hin hz hun hj1 hj2 hgj h X
   simp only [List.cons_append,List.foldl_cons] at h ⊢
   have hkj:k≠j:=fun e=>hj1 (e▸List.mem_cons_self)
   have hneq:(k==j)=false:=by simpa using hkj
   have hun':∀ i oi,i∈s1->ops[i]? = some oi->L i=false->Free ops oi oj/\mv.contains i=false/\mk.contains i=false:=fun i oi hi=>hun i oi (List.mem_cons_of_mem _ hi)
   have hj1':j ∉ s1:=fun hi=>hj1 (List.mem_cons_of_mem _ hi)
   have hin':∀ i,i∈s1->i∈Z:=fun i hi=>hin i (List.mem_cons_of_mem _ hi)
   have hkz:((Z++[j]).contains k)=true:=by simp [hin k List.mem_cons_self]
   unfold RVM at h
   by_cases hlk:L k=true
   · rw [if_pos hlk] at h
     refine (ih s2 F _ hin' hz hun' hj1' hj2 hgj h X).mono fun d H' ⟨H1,hp,h⟩=>⟨H1,hp,?_⟩
     unfold RVM
     rw [if_pos (by simp [hlk]),if_pos hkz,List.nil_append]
     exact h
   · rw [if_neg hlk] at h
     have hmk0:=hmu k (by simpa using hlk)
     rw [hmk0,List.nil_append]
     cases ho:ops[k]? with
     | none=>rw [ho] at h;exact h.elim
     | some o =>
      rw [ho] at h
      simp only at h
      obtain ⟨fr,hmv,hmk⟩:=hun k o List.mem_cons_self ho (by simpa using hlk)
      have low:∀ {d d' H1},gst ops o F=some false->RVM P ops mv mk Rk val side K (fun i=>L i||i==j) (fun i=>if (Z++[j]).contains i=true then [] else md i) (s1++j::s2) (putF (putF F o.dst d') oj.dst d) H1->d' = .tup []->RVM P ops mv mk Rk val side K (fun i=>L i||i==j) (fun i=>if (Z++[j]).contains i=true then [] else md i) (k::(s1++j::s2)) (putF F oj.dst d) H1:=fun {d d' H1} hg h e=>by
       subst e
       unfold RVM
       rw [if_neg (by simp [hlk,hneq]),ho]
       simp only
       rw [fr.gst2,hg]
       simp only
       rw [<-fr.put]
       exact h
      cases hg:gst ops o F with
      | none=>rw [hg] at h;exact h.elim
      | some b =>
       rw [hg] at h
       cases b with
       | false =>
        simp only at h
        exact ((ih s2 _ H hin' hz hun' hj1' hj2 (by rw [fr.gst1];exact hgj) h X).congr fun x hx=>fr.ops1 F _ x hx).mono fun d H' ⟨H1,hp,h⟩=>⟨H1,hp,low hg h rfl⟩
       | true =>
        simp only [hmv,hmk,Bool.false_eq_true,if_false] at h
        refine ((ih s2 _ H hin' hz hun' hj1' hj2 (by rw [fr.gst1];exact hgj) h.2 X).congr fun x hx=>fr.ops1 F _ x hx).mono fun d H' ⟨H1,hp,h'⟩=>⟨H1,hp,?_⟩
        unfold RVM
        rw [if_neg (by simp [hlk,hneq]),ho]
        simp only
        rw [fr.gst2,hg]
        simp only [hmv,hmk,Bool.false_eq_true,if_false]
        refine ⟨fr.side2 hval _ _ _ h.1,?_⟩
        rw [fr.val2 hval k,<-fr.put]
        exact h'
 intro s1 s2 F H hun hj1 hj2 hd hgj h X
 exact DOp.perm ((exr_perm md H).symm.append_right X) (key s1 s1 s2 F H (fun _ h=>h) (fun i hi h=>hd i h hi) hun hj1 hj2 hgj h X)
variable (hfl:∀ k o,ops[k]? = some o->mv.contains k=false->∀ f H,side k o f->DOp P o f H fun d H'=>if mk.contains k=true then ∃ N,Rk k d N/\H'=N++H else d=val k o f/\H'=H) (hdst:dstB n ops=true)
include hfl hdst
theorem RVM.known {L:Nat->Bool} {md:Nat->Own} {j:Nat} {oj:Oper} (hoj:ops[j]? = some oj) (hj:L j=false) (hmu:∀ i,L i=false->md i=[]) :
  ∀ (s1 s2:List Nat) (F:Nat->V) (H X:Own) (a:Act) (w:World),(∀ i oi,i∈s1->ops[i]? = some oi->L i=false->Free ops oi oj) ->
   Sim w (s1.flatMap md++H++X)->RF n w (s1.flatMap md++H++X) a.tmps F->RVM P ops mv mk Rk val side K L md (s1++j::s2) F H->(∃ b,gst ops oj F=some b)/\(gst ops oj F=some true->mv.contains j=false->side j oj (opdF F))
 | [],s2,F,H,X,a,w,_,hs,hr,h=>by
  simp only [List.nil_append] at h
  unfold RVM at h
  rw [if_neg (by simp [hj]),hoj] at h
  simp only at h
  cases hg:gst ops oj F with
  | none=>rw [hg] at h;exact h.elim
  | some b =>
   rw [hg] at h
   refine ⟨⟨b,rfl⟩,fun hb hm=>?_⟩
   injection hb with hb
   subst hb
   simp only [hm,Bool.false_eq_true,if_false] at h
   split at h
   · exact h.1
   · exact h.1
 | k::s1,s2,F,H,X,a,w,hun,hs,hr,h=>by
  simp only [List.cons_append,List.flatMap_cons] at h hs hr
  have hun':∀ i oi,i∈s1->ops[i]? = some oi->L i=false->Free ops oi oj:=fun i oi hi=>hun i oi (List.mem_cons_of_mem _ hi)
  unfold RVM at h
  by_cases hlk:L k=true
  · rw [if_pos hlk] at h
    have hp:(md k++s1.flatMap md++H++X).Perm (s1.flatMap md++(md k++H)++X):=perm_mid _ _ _ _
    exact RVM.known hoj hj hmu s1 s2 F _ X a w hun' (hs.perm hp) (hr.perm hp) h
  · rw [if_neg hlk] at h
    rw [hmu k (by simpa using hlk),List.nil_append] at hs hr
    cases ho:ops[k]? with
    | none=>rw [ho] at h;exact h.elim
    | some o =>
     rw [ho] at h
     simp only at h
     have hdo:o.dst.all (· < n)=true:=by
      have:=List.all_eq_true.1 hdst o (List.mem_of_getElem? ho)
      simpa using this
     have fr:=hun k o List.mem_cons_self ho (by simpa using hlk)
     have back:∀ d,((∃ b,gst ops oj (putF F o.dst d)=some b)/\(gst ops oj (putF F o.dst d)=some true->mv.contains j=false->side j oj (opdF (putF F o.dst d)))) ->
       (∃ b,gst ops oj F=some b)/\(gst ops oj F=some true->mv.contains j=false->side j oj (opdF F)):=fun d ⟨x,y⟩=>by
      rw [fr.gst1] at x y
      exact ⟨x,fun h1 h2=>fr.side1 hval _ _ _ (y h1 h2)⟩
     cases hg:gst ops o F with
     | none=>rw [hg] at h;exact h.elim
     | some b =>
      rw [hg] at h
      cases b with
      | false=>exact back _ (RVM.known hoj hj hmu s1 s2 _ H X (a.put o.dst undef) w hun' hs (hr.put hdo (R.skipped _ _)) h)
      | true =>
       simp only at h
       split at h
       · rename_i hm
         have hp:(s1.flatMap md++H++X).Perm (H++(s1.flatMap md++X)):=perm_back _ _ _
         refine wp_some (P:=P) (o:=o) (a:=a) (w:=w) (h (s1.flatMap md++X) a w _ _ (hs.perm hp) (fun x _=>(hr.perm hp).opd x) fun v w' d H' s x r ⟨H1,hp',k'⟩=>?_)
         have hp2:H'.Perm (s1.flatMap md++H1++X):=hp'.trans (perm_back _ _ _).symm
         exact back _ (RVM.known hoj hj hmu s1 s2 _ H1 X _ w' hun' (s.perm hp2) (((((hr.perm hp).ext x).put hdo r)).perm hp2) k')
       · rename_i hm
         split at h
         · rename_i hk
           refine wp_some (P:=P) (o:=o) (a:=a) (w:=w) (hfl k o ho (by simpa using hm) _ (s1.flatMap md++H++X) h.1 a w _ _ hs (fun x _=>hr.opd x) fun v w' d H' s x r hd=>?_)
           simp only [hk,if_true] at hd
           obtain ⟨N,hR,hH⟩:=hd
           subst hH
           have hp:(N++(s1.flatMap md++H++X)).Perm (s1.flatMap md++(N++H)++X):=by
            rw [<-List.append_assoc,<-List.append_assoc]
            exact perm_mid _ _ _ _
           exact back _ (RVM.known hoj hj hmu s1 s2 _ _ X _ w' hun' (s.perm hp) (((hr.ext x).put hdo r).perm hp) (h.2 d N hR))
         · rename_i hk
           refine wp_some (P:=P) (o:=o) (a:=a) (w:=w) (hfl k o ho (by simpa using hm) _ (s1.flatMap md++H++X) h.1 a w _ _ hs (fun x _=>hr.opd x) fun v w' d H' s x r hd=>?_)
           simp only [hk,Bool.false_eq_true,if_false] at hd
           obtain ⟨hd,hH⟩:=hd
           subst hd
           subst hH
           exact back _ (RVM.known hoj hj hmu s1 s2 _ H X _ w' hun' s ((hr.ext x).put hdo r) h.2)
omit hval hfl hdst in
theorem RVM.done {L:Nat->Bool} {md:Nat->Own}:∀ (s:List Nat) (F:Nat->V) (H:Own),(∀ j,j∈s->L j=true)->RVM P ops mv mk Rk val side K L md s F H->K F (s.foldl (fun H k=>md k++H) H)
 | [],_,_,_,h=>h
 | k::s,F,H,hL,h=>by
  unfold RVM at h
  rw [if_pos (hL k List.mem_cons_self)] at h
  exact RVM.done s F _ (fun j hj=>hL j (List.mem_cons_of_mem _ hj)) h
structure OrdOk (ops:List Oper) (s mv mk:List Nat):Prop where
 nodup:s.Nodup
 all:∀ k,k<ops.length->k∈s
 lt:∀ k,k∈s->k<ops.length
 up:∀ s1 k s2 o,s=s1++k::s2->ops[k]? = some o->∀ e∈o.after,Region.binds .any e=true->e.on∈s1
 pair:∀ s1 j s2 i a b,s=s1++j::s2->i∈s1->ops[i]? = some a->ops[j]? = some b->After ops.toArray j i\/(clash ops a b=false/\¬ (mv.contains j=true/\(mv.contains i=true\/mk.contains i=true)))
variable {s:List Nat} (hok:OrdOk ops s mv mk)
include hok
theorem RVM.all {Q:Exit->Act->World->Prop} {w0:World} {G0:Own} {D:List Deferred} (hQ:∀ a' w' F' H',a'.defers=D->Sim w' H'->RF n w' H' a'.tmps F'->Ext w0 G0 w' H'->K F' H'->Q .normal a' w') :
  ∀ (c:Nat) (listed:Array Bool) (md:Nat->Own) (F:Nat->V) (H:Own) (a:Act) (w:World),listed.toList.count false=c->HeadInv .any ops.toArray ops.length listed->(∀ i,listed.getD i false=false->md i=[])->RVM P ops mv mk Rk val side K (fun k=>listed.getD k false) md s F H ->
   Sim w (s.flatMap md++H)->RF n w (s.flatMap md++H) a.tmps F->Ext w0 G0 w (s.flatMap md++H)->a.defers=D->wpAny P .any ops.toArray Q c listed a w:=by
 have cl:∀ {listed:Array Bool} {i:Nat},listed.getD i true=false->(listed.setIfInBounds i true).toList.count false+1=listed.toList.count false:=fun {listed i} h=>by
  have hlt:i<listed.size:=by
   rcases Nat.lt_or_ge i listed.size with h' | h'
   · exact h'
   · simp [Array.getElem?_eq_none h'] at h
  have h0:listed.toList[i]'(by simpa using hlt)=false:=by simpa [hlt] using h
  have hpos:0<listed.toList.count false:=List.count_pos_iff.2 (h0▸List.getElem_mem _)
  have hc:=List.count_set (a:=true) (b:=false) (l:=listed.toList) (i:=i) (by simpa using hlt)
  rw [h0] at hc
  rw [Array.toList_setIfInBounds,hc]
  simp only [BEq.rfl,if_true,show ((true==false)=true)=False by simp,if_false,Nat.add_zero]
  omega
 have ca:∀ {listed:Array Bool},HeadInv .any ops.toArray ops.length listed->∀ (f i j:Nat),listed.getD i false=true->AfterN ops.toArray f i j->listed.getD j false=true:=fun {listed} inv f=>by
  induction f with
  | zero =>
   intro i j hi h
   obtain ⟨oj,hoj,e,he,hb,hon⟩:=Region.waitsFor_spec h
   have:=inv.closed i oj hoj hi e he hb
   rwa [hon] at this
  | succ f ih =>
   intro i j hi ⟨m,h1,h2⟩
   obtain ⟨oj,hoj,e,he,hb,hon⟩:=Region.waitsFor_spec h1
   have:=inv.closed i oj hoj hi e he hb
   exact ih m j (hon▸this) h2
 have ra:∀ {listed:Array Bool},HeadInv .any ops.toArray ops.length listed->∀ {i j:Nat},i∈Region.ready .any ops.toArray listed->After ops.toArray i j->listed.getD j false=true:=fun {listed} inv {i j} hi ⟨f,hf⟩=>by
  have one:∀ j,Region.waitsFor .any ops.toArray i j=true->listed.getD j false=true:=fun j h=>by
   obtain ⟨_,oi,hoi,hall⟩:=mem_ready.1 hi
   obtain ⟨oj,hoj,e,he,hb,hon⟩:=Region.waitsFor_spec h
   have:oj=oi:=Option.some.inj (hoj.symm.trans hoi)
   subst this
   have:=hall e he hb
   rwa [hon] at this
  cases f with
  | zero=>exact one j hf
  | succ f =>
   obtain ⟨m,h1,h2⟩:=hf
   exact ca inv f m j (one m h1) h2
 intro c
 induction c with
 | zero =>
  intro listed md F H a w hc inv hmu h hs hr hx hD
  have hall:∀ j,listed.getD j true=true:=fun j=>by
   cases hj:listed.getD j true with
   | true=>rfl
   | false=>have:=cl hj;omega
  refine ⟨?_,?_⟩
  · cases hrd:Region.ready .any ops.toArray listed with
    | nil=>rfl
    | cons i l =>
     have:i∈Region.ready .any ops.toArray listed:=by rw [hrd];exact List.mem_cons_self
     have:=(mem_ready.1 this).1
     rw [hall] at this
     cases this
  · have hp:=exr_perm (s:=s) md H
    refine hQ a w F _ hD (hs.perm hp.symm) (hr.perm hp.symm) (hx.trans (Ext.perm hp.symm)) (RVM.done s F H (fun j hj=>?_) h)
    have h1:=hall j
    have h2:j<listed.size:=by rw [inv.size];simpa using hok.lt j hj
    simp [h2] at h1 ⊢
    exact h1
 | succ c ih =>
  intro listed md F H a w hc inv hmu h hs hr hx hD
  have hsz:listed.size=ops.length:=by simpa using inv.size
  refine ⟨fun h0=>?_,fun i hi'=>?_⟩
  · exfalso
    have hex:∀ s1 s2,s=s1++s2->(∀ j,j∈s1->listed.getD j false=true)->(∀ j,j∈s2->listed.getD j false=true)\/∃ t1 k t2,s=t1++k::t2/\listed.getD k false=false/\∀ j,j∈t1->listed.getD j false=true:=by
     intro s1 s2
     induction s2 generalizing s1 with
     | nil=>intro _ _;exact .inl (by simp)
     | cons k s2 ih =>
      intro he hl
      cases hk:listed.getD k false with
      | false=>exact .inr ⟨s1,k,s2,he,hk,hl⟩
      | true =>
       rcases ih (s1++[k]) (by simp [he]) (fun j hj=>by
        rcases List.mem_append.1 hj with h | h
        · exact hl j h
        · rw [List.mem_singleton.1 h];exact hk) with h | h
       · exact .inl fun j hj=>by
          rcases List.mem_cons.1 hj with rfl | h'
          · exact hk
          · exact h j h'
       · exact .inr h
    rcases hex [] s rfl (by simp) with hall | ⟨t1,k,t2,he,hkf,hlow⟩
    · have:listed.toList.count false=0:=List.count_eq_zero.2 fun hm=>by
       obtain ⟨j,hj,e⟩:=List.getElem_of_mem hm
       have hj':j<listed.size:=by simpa using hj
       have:=hall j (hok.all j (by omega))
       simp [hj'] at this
       simp at e
       rw [this] at e
       cases e
      omega
    · have hko:k<ops.length:=hok.lt k (by rw [he];simp)
      have hkl:k<listed.size:=by omega
      have:k∈Region.ready .any ops.toArray listed:=mem_ready.2 ⟨getD_in hkl hkf,ops[k],by simp [hko],fun e hee hb=>hlow _ (hok.up t1 k t2 _ he (by simp [hko]) e hee hb)⟩
      rw [h0] at this
      cases this
  · obtain ⟨hun,oi,hoi,_⟩:=mem_ready.1 hi'
    have hoi':ops[i]? = some oi:=by simpa using hoi
    have hilt:i<ops.length:=(List.getElem?_eq_some_iff.1 hoi').1
    have hlf:listed.getD i false=false:=getD_both hun
    have inv':=inv.set hi' (by simpa using hilt)
    have hc':(listed.setIfInBounds i true).toList.count false=c:=by have:=cl hun;omega
    obtain ⟨s1,s2,hse⟩:=List.append_of_mem (hok.all i hilt)
    have hnd:=hok.nodup
    rw [hse,List.nodup_append] at hnd
    obtain ⟨hn1,hn2,hn3⟩:=hnd
    have hi1:i ∉ s1:=fun hi=>hn3 i hi i List.mem_cons_self rfl
    have hi2:i ∉ s2:=(List.nodup_cons.1 hn2).1
    have h12:∀ k,k∈s1->k ∉ s2:=fun k h1 h2=>hn3 k h1 k (List.mem_cons_of_mem _ h2) rfl
    have hpair:∀ k ok,k∈s1->ops[k]? = some ok->listed.getD k false=false->Free ops ok oi/\¬ (mv.contains i=true/\(mv.contains k=true\/mk.contains k=true)):=fun k ok hk hok' hkf=>by
     rcases hok.pair s1 i s2 k ok oi hse hk hok' hoi' with h' | ⟨h1,h2⟩
     · rw [ra inv hi' h'] at hkf;cases hkf
     · exact ⟨free_of h1,h2⟩
    have hLe:∀ j,j≠i->(listed.setIfInBounds i true).getD j false=listed.getD j false:=fun j hji=>getD_set_ne false (Ne.symm hji)
    have hLi:(listed.setIfInBounds i true).getD i false=true:=by
     have:i<listed.size:=by omega
     simp [this]
    have hLc:∀ {md F H},RVM P ops mv mk Rk val side K (fun k=>listed.getD k false||k==i) md s F H->RVM P ops mv mk Rk val side K (fun k=>(listed.setIfInBounds i true).getD k false) md s F H:=fun {md F H} h =>
     RVM.congrL s F H (fun j _=>⟨by
      by_cases hji:j=i
      · subst hji;rw [hLi];simp
      · have:(j==i)=false:=by simpa using hji
        rw [this,Bool.or_false,hLe j hji],rfl⟩) h
    have hdi:oi.dst.all (· < n)=true:=by
     have:=List.all_eq_true.1 hdst oi (List.mem_of_getElem? hoi')
     simpa using this
    have hpe:(s.flatMap md++H).Perm (s1.flatMap md++H++s2.flatMap md):=by
     rw [hse,List.flatMap_append,List.flatMap_cons,hmu i hlf,List.nil_append,List.append_assoc,List.append_assoc]
     exact List.Perm.append_left _ List.perm_append_comm
    obtain ⟨⟨b,hb⟩,hside⟩:=RVM.known hval hfl hdst (L:=fun k=>listed.getD k false) hoi' hlf hmu s1 s2 F H (s2.flatMap md) a w (fun k ok h1 h2 h3=>(hpair k ok h1 h2 h3).1) (hs.perm hpe) (hr.perm hpe) (by rw [<-hse];exact h)
    have hw:=gst_wanted hr hb
    have hmu':∀ k,(listed.setIfInBounds i true).getD k false=false->md k=[]:=fun k hk=>by
     by_cases hki:k=i
     · subst hki;rw [hLi] at hk;cases hk
     · rw [hLe k hki] at hk;exact hmu k hk
    unfold wpOp
    rw [hoi]
    simp only [hw]
    cases b with
    | false =>
     simp only [Bool.false_eq_true,if_false]
     refine ih _ md (putF F oi.dst (.tup [])) H _ w hc' inv' hmu' (hLc ?_) hs (hr.put hdi (R.skipped _ _)) hx (by rw [<-hD];cases oi.dst<;>rfl)
     rw [hse]
     exact RVM.pull hval (L:=fun k=>listed.getD k false) hoi' hlf (hmu i hlf) s1 s2 F H _ (fun k ok h1 h2 h3=>(hpair k ok h1 h2 h3).1) hi1 hi2 (fun _=>rfl) (fun h'=>by rw [hb] at h';cases h') (by rw [<-hse];exact h)
    | true =>
     simp only [if_true]
     refine .inl ?_
     cases hm:mv.contains i with
     | true =>
      refine RVM.pullM hval (mk:=mk) (Rk:=Rk) (K:=K) (L:=fun k=>listed.getD k false) hoi' hlf hm hmu s1 s2 F H (fun k ok h1 h2 h3=>?_) hi1 hi2 h12 hb (by rw [<-hse];exact h) (s2.flatMap md) a w _ _ (hs.perm hpe) (fun x _=>(hr.perm hpe).opd x) fun v w' d H' s' x r ⟨H1,hp,k'⟩=>?_
      · obtain ⟨g1,g2⟩:=hpair k ok h1 h2 h3
        refine ⟨g1,?_,?_⟩
        · cases hmk:mv.contains k with
          | true=>exact absurd ⟨hm, .inl hmk⟩ g2
          | false=>rfl
        · cases hmk:mk.contains k with
          | true=>exact absurd ⟨hm, .inr hmk⟩ g2
          | false=>rfl
      · have hz:(s.flatMap fun k=>if (s1++[i]).contains k=true then [] else md k)=s2.flatMap md:=by
         rw [hse,List.flatMap_append,List.flatMap_cons]
         have e1:(s1.flatMap fun k=>if (s1++[i]).contains k=true then ([]:Own) else md k)=[]:=by
          rw [List.flatMap_eq_nil_iff];intro k hk;rw [if_pos (by simp [hk])]
         have e2:∀ t:List Nat,(∀ k,k∈t->k∈s2)->(t.flatMap fun k=>if (s1++[i]).contains k=true then ([]:Own) else md k)=t.flatMap md:=by
          intro t
          induction t with
          | nil=>intro _;rfl
          | cons k t ih =>
           intro ht
           have hk2:=ht k List.mem_cons_self
           rw [List.flatMap_cons,List.flatMap_cons,ih fun q hq=>ht q (List.mem_cons_of_mem _ hq),if_neg]
           intro hc
           rcases List.mem_append.1 (by simpa using hc:k∈s1++[i]) with h1 | h1
           · exact h12 k h1 hk2
           · exact hi2 (List.mem_singleton.1 h1▸hk2)
         rw [e1,e2 s2 fun _ h=>h,if_pos (by simp),List.nil_append,List.nil_append]
        have hp2:H'.Perm ((s.flatMap fun k=>if (s1++[i]).contains k=true then [] else md k)++H1):=by rw [hz];exact hp.trans List.perm_append_comm
        exact ih _ (fun k=>if (s1++[i]).contains k=true then [] else md k) _ H1 _ w' hc' inv' (fun k hk=>by
         split
         · rfl
         · exact hmu' k hk) (hLc (by rw [hse];exact k')) (s'.perm hp2) ((((hr.perm hpe).ext x).put hdi r).perm hp2) ((hx.trans (Ext.perm hpe)).trans (x.trans (Ext.perm hp2))) (by rw [<-hD];cases oi.dst<;>rfl)
     | false =>
      refine hfl i oi hoi' hm _ _ (hside hb hm) a w _ _ hs (fun x _=>hr.opd x) fun v w' d H' s' x r hd=>?_
      cases hk:mk.contains i with
      | true =>
       simp only [hk,if_true] at hd
       obtain ⟨N,hR,hH⟩:=hd
       subst hH
       have hz:((s.flatMap fun k=>if k=i then N else md k)).Perm (N++s.flatMap md):=by
        rw [hse,List.flatMap_append,List.flatMap_cons,List.flatMap_append,List.flatMap_cons,hmu i hlf,if_pos rfl,List.nil_append]
        have e2:∀ t:List Nat,i ∉ t->(t.flatMap fun k=>if k=i then N else md k)=t.flatMap md:=by
         intro t
         induction t with
         | nil=>intro _;rfl
         | cons k t ih =>
          intro ht
          rw [List.flatMap_cons,List.flatMap_cons,ih fun h=>ht (List.mem_cons_of_mem _ h),if_neg (fun e:k=i=>ht (e▸List.mem_cons_self))]
        rw [e2 s1 hi1,e2 s2 hi2]
        exact List.perm_append_comm_assoc _ _ _
       have hp2:(N++(s.flatMap md++H)).Perm ((s.flatMap fun k=>if k=i then N else md k)++H):=by
        rw [<-List.append_assoc]
        exact hz.symm.append_right _
       refine ih _ (fun k=>if k=i then N else md k) _ H _ w' hc' inv' (fun k hk'=>?_) (hLc ?_) (s'.perm hp2) (((hr.ext x).put hdi r).perm hp2) ((hx.trans x).trans (Ext.perm hp2)) (by rw [<-hD];cases oi.dst<;>rfl)
       · by_cases hki:k=i
         · subst hki;rw [hLi] at hk';cases hk'
         · rw [if_neg hki];exact hmu' k hk'
       · rw [hse]
         exact RVM.pullK hval (L:=fun k=>listed.getD k false) hoi' hlf hm hk hR s1 s2 F H (fun k ok h1 h2 h3=>(hpair k ok h1 h2 h3).1) hi1 hi2 hb (by rw [<-hse];exact h)
      | false =>
       simp only [hk,Bool.false_eq_true,if_false] at hd
       obtain ⟨hd,hH⟩:=hd
       subst hd
       subst hH
       refine ih _ md _ H _ w' hc' inv' hmu' (hLc ?_) s' ((hr.ext x).put hdi r) (hx.trans x) (by rw [<-hD];cases oi.dst<;>rfl)
       rw [hse]
       exact RVM.pull hval (L:=fun k=>listed.getD k false) hoi' hlf (hmu i hlf) s1 s2 F H _ (fun k ok h1 h2 h3=>(hpair k ok h1 h2 h3).1) hi1 hi2 (fun h'=>by rw [hb] at h';cases h') (fun _=>⟨hm,hk,rfl⟩) (by rw [<-hse];exact h)
end
def ordB (ops:List Oper) (s mv mk:List Nat):Bool :=
 let ms:=masks ops
 decide s.Nodup&&(List.range ops.length).all (fun k=>s.contains k) &&
 (s.zipIdx.all fun (j,p)=>match ops[j]? with
   | none=>false
   | some b=>(b.after.all fun e=>!Region.binds .any e||(s.take p).contains e.on)&&((s.take p).all fun i=>match ops[i]? with
    | none=>false
    | some a=>(ms.getD j 0).testBit i||(!clash ops a b && !(mv.contains j&&(mv.contains i||mk.contains i)))))
theorem ordOk_of {ops:List Oper} {s mv mk:List Nat} (h:ordB ops s mv mk=true):OrdOk ops s mv mk:=by
 simp only [ordB,Bool.and_eq_true,decide_eq_true_eq] at h
 obtain ⟨⟨h1,h2⟩,h3⟩:=h
 have hall:∀ k,k<ops.length->k∈s:=fun k hk=>by
  have:=List.all_eq_true.1 h2 k (List.mem_range.2 hk)
  simpa using this
 have hat:∀ s1 j s2,s=s1++j::s2->∃ b,ops[j]? = some b/\(b.after.all fun e=>!Region.binds .any e||s1.contains e.on)=true/\∀ i,i∈s1->(∃ a,ops[i]? = some a/\((masks ops).getD j 0).testBit i=true)\/(∃ a,ops[i]? = some a/\clash ops a b=false/\(mv.contains j&&(mv.contains i||mk.contains i))=false):=fun s1 j s2 he=>by
  have hm:(j,s1.length)∈s.zipIdx:=by
   rw [List.mem_iff_getElem?]
   refine ⟨s1.length,?_⟩
   rw [he];simp
  have:=List.all_eq_true.1 h3 _ hm
  have ht:s.take s1.length=s1:=by rw [he];simp
  simp only [ht] at this
  cases hb:ops[j]? with
  | none=>rw [hb] at this;cases this
  | some b =>
   rw [hb] at this
   simp only [Bool.and_eq_true] at this
   refine ⟨b,rfl,this.1,fun i hi=>?_⟩
   have:=List.all_eq_true.1 this.2 i hi
   cases ha:ops[i]? with
   | none=>rw [ha] at this;cases this
   | some a =>
    rw [ha] at this
    simp only [Bool.or_eq_true,Bool.and_eq_true,Bool.not_eq_true'] at this
    rcases this with h | h
    · exact .inl ⟨a,rfl,h⟩
    · exact .inr ⟨a,rfl,h⟩
 refine ⟨h1,hall,fun k hk=>?_,fun s1 k s2 o he ho e hee hb=>?_,fun s1 j s2 i a b he hi ha hb=>?_⟩
 · obtain ⟨s1,s2,he⟩:=List.append_of_mem hk
   obtain ⟨b,hb,_⟩:=hat s1 k s2 he
   exact (List.getElem?_eq_some_iff.1 hb).1
 · obtain ⟨b,hb',h4,_⟩:=hat s1 k s2 he
   have:b=o:=Option.some.inj (hb'.symm.trans ho)
   subst this
   simp only [Array.all_eq_true_iff_forall_mem,Bool.or_eq_true,Bool.not_eq_true'] at h4
   have:=(h4 e hee).resolve_left (by simp [hb])
   simpa using this
 · obtain ⟨b',hb',_,h4⟩:=hat s1 j s2 he
   have:b'=b:=Option.some.inj (hb'.symm.trans hb)
   subst this
   rcases h4 i hi with ⟨a',ha',h5⟩ | ⟨a',ha',h5,h6⟩
   · exact .inl (after_of_masks h5)
   · have:a'=a:=Option.some.inj (ha'.symm.trans ha)
     subst this
     refine .inr ⟨h5,fun ⟨x,y⟩=>?_⟩
     rw [x,Bool.true_and,Bool.or_eq_false_iff] at h6
     rcases y with y | y
     · rw [y] at h6;cases h6.1
     · rw [y] at h6;cases h6.2
def mkR (T:List (Nat×(V->Own->Prop))) (k:Nat) (d:V) (N:Own):Prop:=match T.lookup k with
 | some r=>r d N
 | none=>False
def mkS (P:Program) (mk:List Nat) (T:List (Nat×(V->Own->Prop))) (k:Nat) (o:Oper) (f:Operand->V):Prop:=if mk.contains k=true then ∀ H:Own,DOp P o f H fun d H'=>∃ N,mkR T k d N/\H'=N++H else side P o f
def varR (P:Program) (t:TypeId) (d:V) (N:Own):Prop:=∃ b,d = .raw (.pointer (some ⟨b,0,none⟩))/\N=[.blk b (ty P t).zero]
def isR (x d:V) (N:Own):Prop:=d=x/\N=[]
section
variable {P:Program} {n:Nat} {Q:Exit->Env->Own->Prop} {e:Env} {H:Own}
def DVMb (P:Program) (mv mk:List Nat) (T:List (Nat×(V->Own->Prop))) (k:Nat) (o:Oper) (e:Env) (H:Own) (A:Env->Own->Prop):Prop :=
 if mv.contains k=true then ∀ X:Own,DOp P o (opd e) (H++X) fun d H'=>PXK H' X fun H1=>A (putO e o.dst d) H1
 else if mk.contains k=true then (∀ H:Own,DOp P o (opd e) H fun d H'=>∃ N,mkR T k d N/\H'=N++H)/\∀ d N,mkR T k d N->A (putO e o.dst d) (N++H)
 else side P o (opd e)/\A (putO e o.dst (val P o (opd e))) H
def DVM (P:Program) (mv mk:List Nat) (T:List (Nat×(V->Own->Prop))) (l:List Oper) (K:Env->Own->Prop):List Nat->Env->Own->Prop
 | [],e,H=>K e H
 | k::s,e,H=>match l[k]? with
  | none=>False
  | some o=>match o.guard with
   | none=>DVMb P mv mk T k o e H (DVM P mv mk T l K s)
   | some (j,true)=>gd (gval l.toArray e j) (DVMb P mv mk T k o e H (DVM P mv mk T l K s)) (DVM P mv mk T l K s (putO e o.dst (.tup [])) H)
   | some (j,false)=>gf (gval l.toArray e j) (DVM P mv mk T l K s (putO e o.dst (.tup [])) H) (DVMb P mv mk T k o e H (DVM P mv mk T l K s))
@[congr] theorem DVM_congr (P:Program) (mv mk:List Nat) (T:List (Nat×(V->Own->Prop))) (l:List Oper) (K:Env->Own->Prop) (s:List Nat) {e e':Env} {H H':Own} (h:e=e') (hH:H=H'):DVM P mv mk T l K s e H=DVM P mv mk T l K s e' H':=by rw [h,hH]
@[congr] theorem DVMb_congr (P:Program) (mv mk:List Nat) (T:List (Nat×(V->Own->Prop))) (k:Nat) (o:Oper) (A:Env->Own->Prop) {e e':Env} {H H':Own} (h:e=e') (hH:H=H'):DVMb P mv mk T k o e H A=DVMb P mv mk T k o e' H' A:=by rw [h,hH]
theorem DVM.cases {mv mk:List Nat} {T:List (Nat×(V->Own->Prop))} {l:List Oper} {K:Env->Own->Prop} {k:Nat} {s:List Nat} (h:DVM P mv mk T l K (k::s) e H) :
  ∃ o,l[k]? = some o/\((gst l o (get e)=some true/\DVMb P mv mk T k o e H (DVM P mv mk T l K s))\/(gst l o (get e)=some false/\DVM P mv mk T l K s (putO e o.dst (.tup [])) H)):=by
 unfold DVM at h
 cases ho:l[k]? with
 | none=>rw [ho] at h;exact h.elim
 | some o =>
  rw [ho] at h
  simp only at h
  refine ⟨o,rfl,?_⟩
  cases hg:o.guard with
  | none=>rw [hg] at h;exact .inl ⟨by unfold gst;rw [hg],h⟩
  | some jw =>
   obtain ⟨j,want⟩:=jw
   rw [hg] at h
   cases want with
   | true =>
    simp only at h
    cases hb:gval l.toArray e j with
    | bool b =>
     rw [gst_gval hg hb]
     rw [hb] at h
     cases b with
     | true=>rw [gd_true] at h;exact .inl ⟨rfl,h⟩
     | false=>rw [gd_false] at h;exact .inr ⟨rfl,h⟩
    | tup ds=>rw [gst_tup hg hb];rw [hb,gd_tup] at h;exact .inr ⟨rfl,h⟩
    | _=>rw [hb] at h;exact h.elim
   | false =>
    simp only at h
    cases hb:gval l.toArray e j with
    | bool b =>
     rw [gst_gval hg hb]
     rw [hb] at h
     cases b with
     | true=>rw [gf_true] at h;exact .inr ⟨rfl,h⟩
     | false=>rw [gf_false] at h;exact .inl ⟨rfl,h⟩
    | tup ds=>rw [gst_tup hg hb];rw [hb,gf_tup] at h;exact .inr ⟨rfl,h⟩
    | _=>rw [hb] at h;exact h.elim
theorem DVM.rvm {mv mk:List Nat} {T:List (Nat×(V->Own->Prop))} {l:List Oper} {K:Env->Own->Prop}:∀ (s:List Nat) (e:Env) (H:Own),DVM P mv mk T l K s e H ->
  RVM P l mv mk (mkR T) (fun _ o f=>val P o f) (mkS P mk T) (KF K) (fun _=>false) (fun _=>[]) s (get e) H
 | [],e,H,h=>⟨e,rfl,h⟩
 | k::s,e,H,h=>by
  obtain ⟨o,ho,h⟩:=h.cases
  unfold RVM
  rw [if_neg (by simp),ho]
  simp only
  rcases h with ⟨hg,h⟩ | ⟨hg,h⟩
  · rw [hg]
    simp only
    rw [opdF_get]
    unfold DVMb at h
    split
    · rename_i hm
      rw [if_pos hm] at h
      refine fun X=>(h X).mono fun d H' ⟨H1,hp,h⟩=>⟨H1,hp,?_⟩
      rw [<-get_putO]
      exact DVM.rvm s _ _ h
    · rename_i hm
      rw [if_neg hm] at h
      split
      · rename_i hk
        rw [if_pos hk] at h
        refine ⟨by unfold mkS;rw [if_pos hk];exact h.1,fun d N hR=>?_⟩
        rw [<-get_putO]
        exact DVM.rvm s _ _ (h.2 d N hR)
      · rename_i hk
        rw [if_neg hk] at h
        refine ⟨by unfold mkS;rw [if_neg hk];exact h.1,?_⟩
        rw [<-get_putO]
        exact DVM.rvm s _ _ h.2
  · rw [hg]
    simp only
    rw [<-get_putO]
    exact DVM.rvm s _ _ h
theorem DW.drawM (ks mv mk:List Nat) (T:List (Nat×(V->Own->Prop))) (s:List Nat) {id:Nat} {l:List Oper} (hm:P.follows .mixedOrders=true) (hd:dstB n l=true) (hB:ordB l s mv mk=true) (h:DVM P mv mk T l (Q .normal) s (keepL ks e) H):DW P n (.region id l.toArray true) Q e H:=by
 refine DW.weak _ H (get_keepL ks e) (List.Sublist.refl _) ?_
 intro a w hs hr
 refine wp_region_any hm ?_
 have hok:=ordOk_of hB
 have hrv:=DVM.rvm s _ H h
 have hdr:=hs.drew
 have hinv:HeadInv .any l.toArray l.length (Array.replicate l.toArray.size false):=⟨by simp,fun j oj _ hl=>(by rw [getD_replicate_false] at hl;cases hl),fun t _ ht=>getD_in (by simpa using ht) (getD_replicate_false _ _)⟩
 have hz:s.flatMap (fun _=>([]:Own))=[]:=by rw [List.flatMap_eq_nil_iff];intro _ _;rfl
 refine RVM.all (n:=n) (mv:=mv) (mk:=mk) (Rk:=mkR T) (K:=KF (Q .normal)) (val:=fun _ o f=>val P o f) (side:=mkS P mk T) (fun k o f f' hf=>?_) (fun k o ho hk f H' hs=>?_) hd hok (Q:=_) (w0:=w) (G0:=H) (D:=a.defers)
  (fun a' w' F' H' hd' s r x ⟨e',he,hq⟩=>⟨hd',e',H',s,⟨r.size,fun t=>by rw [he];exact r.slot t⟩,x,hq⟩)
  l.toArray.size (Array.replicate l.toArray.size false) (fun _=>[]) (get (keepL ks e)) H a w.drew (by simp) hinv (fun _ _=>rfl) ?_ (by rw [hz];exact hdr.1) (by rw [hz];exact ⟨hr.size,fun t=>hdr.2.rel (hr.slot t)⟩) (by rw [hz];exact hdr.2) rfl
 · refine ⟨(val_congr o f f' hf).1,fun h=>?_⟩
   unfold mkS at h ⊢
   split
   · rename_i hk;rw [if_pos hk] at h;exact fun H=>(h H).congr hf
   · rename_i hk;rw [if_neg hk] at h;exact (val_congr o f f' hf).2 h
 · unfold mkS at hs
   split at hs
   · rename_i hk
     exact (hs H').mono fun d H1 h=>by rw [if_pos hk];exact h
   · rename_i hk
     exact (val_sound hs).mono fun d H1 h=>by rw [if_neg hk];exact h
 · exact RVM.congrL (L:=fun _=>false) s _ _ (fun j _=>⟨(getD_replicate_false _ _).symm,rfl⟩) hrv
theorem DVM.nil {mv mk:List Nat} {T:List (Nat×(V->Own->Prop))} {l:List Oper} {K:Env->Own->Prop} (h:K e H):DVM P mv mk T l K [] e H:=h
section
variable {mv mk:List Nat} {T:List (Nat×(V->Own->Prop))} {l:List Oper} {K:Env->Own->Prop} {k:Nat} {s:List Nat} {o:Oper}
theorem DVM.go (ho:l[k]? = some o) (hg:o.guard=none) (h:DVMb P mv mk T k o e H (DVM P mv mk T l K s)):DVM P mv mk T l K (k::s) e H:=by unfold DVM;rw [ho];simp only;rw [hg];exact h
theorem DVM.f_ (ho:l[k]? = some o) (hg:o.guard=none) (hm:mv.contains k=false) (hk:mk.contains k=false) (h:side P o (opd e)/\DVM P mv mk T l K s (putO e o.dst (val P o (opd e))) H):DVM P mv mk T l K (k::s) e H :=
 DVM.go ho hg (by unfold DVMb;rw [if_neg (by rw [hm];exact Bool.false_ne_true),if_neg (by rw [hk];exact Bool.false_ne_true)];exact h)
theorem DVM.mv_ (ho:l[k]? = some o) (hg:o.guard=none) (hm:mv.contains k=true) (h:∀ X:Own,DOp P o (opd e) (H++X) fun d H'=>PXK H' X fun H1=>DVM P mv mk T l K s (putO e o.dst d) H1):DVM P mv mk T l K (k::s) e H :=
 DVM.go ho hg (by unfold DVMb;rw [if_pos hm];exact h)
theorem DVM.var_ {t:TypeId} (ho:l[k]? = some o) (hg:o.guard=none) (hm:mv.contains k=false) (hk:mk.contains k=true) (hop:o.op = .alloc t) (hT:T.lookup k=some (varR P t)) (h:((ty P t).zero≠[]/\(ty P t).kind≠0/\(ty P t).kind≠11)/\∀ b,DVM P mv mk T l K s (putO e o.dst (.raw (.pointer (some ⟨b,0,none⟩)))) (.blk b (ty P t).zero::H)):DVM P mv mk T l K (k::s) e H:=by
 refine DVM.go ho hg ?_
 unfold DVMb
 rw [if_neg (by rw [hm];exact Bool.false_ne_true),if_pos hk]
 refine ⟨fun H=>DOp.alloc_ hop ⟨h.1.1,h.1.2.1,h.1.2.2,fun b=>⟨[.blk b (ty P t).zero],?_,rfl⟩⟩,fun d N hR=>?_⟩
 · unfold mkR;rw [hT];exact ⟨b,rfl,rfl⟩
 · unfold mkR at hR;rw [hT] at hR
   obtain ⟨b,rfl,rfl⟩:=hR
   exact h.2 b
theorem DVM.call_ {x:V} {c:Operand} {args:Array Operand} {ts:Array TypeId} {g:FuncId} {first caps args':List V} {A:Prop} (ho:l[k]? = some o) (hg:o.guard=none) (hm:mv.contains k=false) (hk:mk.contains k=true) (hT:T.lookup k=some (isR x)) (hop:o.op = .call { callee:=.value c,args,argTypes:=ts }) (hc:opd e c = .fn (.func g) first caps) (hl:Les (first++args.toList.map (opd e)++caps) args')
  (h1:∀ F:Own,A->DC P g args' (([]:Own)++F) fun d' G=>d'=x/\G=([]:Own)++F) (h:A/\DVM P mv mk T l K s (putO e o.dst x) H):DVM P mv mk T l K (k::s) e H:=by
 refine DVM.go ho hg ?_
 unfold DVMb
 rw [if_neg (by rw [hm];exact Bool.false_ne_true),if_pos hk]
 refine ⟨fun H=>DOp.callq_ (K':=fun d=>d=x) hop hc hl (es:=[]) (F:=H) Pulled.nil (h1 H) ⟨h.1,fun d e=>⟨[],?_,rfl⟩⟩,fun d N hR=>?_⟩
 · unfold mkR;rw [hT];exact ⟨e,rfl⟩
 · unfold mkR at hR;rw [hT] at hR
   obtain ⟨rfl,rfl⟩:=hR
   exact h.2
end
end
end
end Go.Proofs.YtbmbcjmgjdnlnaaGreatDoor
