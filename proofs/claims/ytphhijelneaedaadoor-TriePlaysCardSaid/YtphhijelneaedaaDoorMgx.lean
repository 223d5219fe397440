/- Maps that are owned are gone through. No statement of the program. -/
import Derived.Test.YtphhijelneaedaaDoorMpx
import Derived.Maps.RangeRun
import Derived.Test.YtphhijelneaedaaDoorEf
import Derived.Test.YtphhijelneaedaaDoorLib
namespace Go.Proofs.YtphhijelneaedaaDoor
open Go.RowKit
set_option linter.unusedSimpArgs false
set_option linter.unusedVariables false
set_option linter.unusedSectionVars false
section
section
variable {P:Program} {o:Oper} {f:Operand->V} {H:Own} {K:V->Own->Prop}
theorem DOp.rangem_ {t:TypeId} {x:Operand} {mr:Nat} (hop:o.op = .range t x) (hx:f x = .raw (.map (some mr)))
  (h:OnM H mr fun m C=>(ty P t).kind=8/\∀ r,K (.raw (.pointer (some ⟨r,0,none⟩))) (C (.miter r mr m m []))):DOp P o f H K:=by
 obtain ⟨m,L1,L2,rfl,h8,hk⟩:=h
 refine DOp.step fun a w hs hr=>?_
 have hv:=hr x (by simp [hop,Op.operands])
 rw [hx] at hv
 have hv:a.eval x = .map (some mr):=by generalize a.eval x=v at hv;cases hv;rfl
 obtain ⟨es,clock,g1,g2,g3,g4,g5⟩:=map_of hs
 have hlt:mr<w.heap.size:=(Array.getElem?_eq_some_iff.1 g1).1
 have hget:(getObj mr).run P w = .ok (.map es clock) w:=by simp [getObj,Sem.run,g1]
 have hsw:=Sim.swap (w':=w.alloc (.mapIter (some mr) clock #[] clock)) (e0:=.map mr m) (e1:=.miter w.heap.size mr m m []) hs rfl rfl rfl (by simp) (fun b hb _=>Below.heap_alloc w _ b hb) (fun q hq _=>by
  obtain ⟨v,hv⟩:=Option.isSome_iff_exists.1 hq
  exact World.cell?_of_block (w:=w) (Below.heap_alloc w _ q.block (World.block_lt_of_cell? w q hv))) (fun b hb=>by
  rcases hb with rfl | rfl
  · exact .inr (Nat.le_refl _)
  · exact .inl rfl) (fun q hq=>by
  rcases hq with hq | hq
  · exact .inr (by rw [hq];exact Nat.le_refl _)
  · exact .inl hq) (fun hst=>by
  obtain ⟨b1,b2⟩:=(g2.mono hst).back
  have hf:(es.toList.filter fun e=>!(#[]:Array Nat).contains e.born)=es.toList:=List.filter_eq_self.2 fun e _=>by simp
  refine ⟨es,clock,?_,by simpa using b1,fun k hk=>?_,g4,g5,#[],heap_alloc_new w _,by rw [hf];simpa using b1,fun k hk=>by rw [hf];exact b2 k hk,fun x hx=>(nomatch hx)⟩
  · rw [Below.heap_alloc w _ mr hlt];exact g1
  · simpa [Array.getD_eq_getD_getElem?,List.getD_eq_getElem?_getD] using b2 k hk)
 refine ⟨.pointer (some ⟨w.heap.size,0,none⟩),_,_,_,?_,hsw, .raw _,hk _⟩
 unfold execOp
 rw [hop]
 simp [Instr.range,hv,run_underlying (und_map h8),hget]
def OnG (H:Own) (r:Nat) (G:Nat->List (V×V)->List (V×V)->List (V×V)->(Ent->Own)->Prop):Prop:=∃ mr m left cur,On H (.miter r mr m left cur) (G mr m left cur)
theorem OnG.here {H:Own} {r mr:Nat} {m left cur:List (V×V)} {G:Nat->List (V×V)->List (V×V)->List (V×V)->(Ent->Own)->Prop} (h:G mr m left cur fun x=>x::H):OnG (.miter r mr m left cur::H) r G:=⟨mr,m,left,cur,On.here h⟩
theorem OnG.next {H:Own} {r:Nat} {y:Ent} {G:Nat->List (V×V)->List (V×V)->List (V×V)->(Ent->Own)->Prop} (h:OnG H r fun mr m left cur C=>G mr m left cur fun x=>y::C x):OnG (y::H) r G:=by
 obtain ⟨mr,m,left,cur,h⟩:=h
 exact ⟨mr,m,left,cur,On.next h⟩
theorem OnM.skip {M H:Own} {r:Nat} {G:List (V×V)->(Ent->Own)->Prop} (h:OnM H r fun m C=>G m fun x=>M++C x):OnM (M++H) r G:=by
 obtain ⟨m,h⟩:=h
 exact ⟨m,On.skip h⟩
theorem miter_of {w:World} {L1 L2:Own} {r mr:Nat} {m left cur:List (V×V)} (hs:Sim w (L1 ++ .miter r mr m left cur::L2)):(Ent.miter r mr m left cur).holds (stable w (L1 ++ .miter r mr m left cur::L2)) w:=hs.holds _ (by simp)
theorem born_nodup {es:Array MapEntry} (h:∀ i j,i<j->j<es.size->(es.getD i default).born<(es.getD j default).born):es.toList.Pairwise fun a b=>a.born<b.born:=by
 rw [List.pairwise_iff_getElem]
 intro i j hi hj hij
 have:=h i j hij (by simpa using hj)
 have hi':i<es.size:=by simpa using hi
 have hj':j<es.size:=by simpa using hj
 simpa [Array.getD_eq_getD_getElem?,hi',hj'] using this
theorem filter_born:∀ {L:List MapEntry} (_:L.Pairwise fun a b=>a.born<b.born) {j:Nat} (hj:j<L.length),L.filter (fun x=>!(x.born==(L[j]'hj).born))=L.eraseIdx j
 | [],_,_,hj=>absurd hj (Nat.not_lt_zero _)
 | a::L,h,0,_=>by
  rw [List.pairwise_cons] at h
  rw [List.filter_cons]
  simp only [List.getElem_cons_zero,beq_self_eq_true,Bool.not_true,Bool.false_eq_true,if_false,List.eraseIdx_cons_zero]
  exact List.filter_eq_self.2 fun x hx=>by
   have:=h.1 x hx
   have:¬ x.born=a.born:=by omega
   simpa using this
 | a::L,h,j+1,hj=>by
  rw [List.pairwise_cons] at h
  have hj':j<L.length:=by simpa using hj
  have:=h.1 (L[j]) (List.getElem_mem hj')
  rw [List.filter_cons]
  simp only [List.getElem_cons_succ,List.eraseIdx_cons_succ]
  rw [if_pos (by have:¬ a.born=L[j].born:=by omega
                 simpa using this),filter_born h.2 hj']
theorem filter_born' {L:List MapEntry} (h:L.Pairwise fun a b=>a.born<b.born) {j:Nat} {e:MapEntry} (he:L[j]? = some e):L.filter (fun x=>!(x.born==e.born))=L.eraseIdx j:=by
 obtain ⟨hj,rfl⟩:=List.getElem?_eq_some_iff.1 he
 exact filter_born h hj
theorem DOp.nextm_ {x:Operand} {t:TypeId} {r:Nat} (hop:o.op = .next x false) (hx:f x = .raw (.pointer (some ⟨r,0,none⟩)))
  (h:OnG H r fun mr m left cur C=>Both (∀ l1 y l2,left=l1++y::l2->K (.tup [.bool true,y.1,y.2]) (C (.miter r mr m (l1++l2) [y]))) (left=[]->K (.tup [.bool false]) (C (.miter r mr m left cur)))):DOp P o f H K:=by
 obtain ⟨mr,m,left,cur,L1,L2,rfl,k1,k2⟩:=h
 refine DOp.step fun a w hs hr=>?_
 have hv:=hr x (by simp [hop,Op.operands])
 rw [hx] at hv
 have hv:a.eval x = .pointer (some ⟨r,0,none⟩):=by generalize a.eval x=v at hv;cases hv;rfl
 obtain ⟨es,clock,g1,g2,g3,g4,g5,seen,g6,g7,g8,g9⟩:=miter_of hs
 have hne:r≠mr:=fun e=>by rw [e] at g6;rw [g6] at g1;cases g1
 have hlt:r<w.heap.size:=(Array.getElem?_eq_some_iff.1 g6).1
 have hold:∀ x∈es.toList,x.born<clock:=fun x hx=>by
  obtain ⟨i,hi,rfl⟩:=List.getElem_of_mem hx
  have hi':i<es.size:=by simpa using hi
  have:=g5 i hi'
  simpa [Array.getD_eq_getD_getElem?,hi'] using this
 have hlf:(leftOf es seen).toList=es.toList.filter fun e=>!seen.contains e.born:=by unfold leftOf;simp
 rcases run_next_at (P:=P) w o.type r mr clock clock seen es clock g6 g1 hold (Nat.le_refl _) with ⟨h0,hrun⟩ | ⟨e,he,w1,hw1,hrun⟩
 · have hl0:left=[]:=by
    rw [<-List.length_eq_zero_iff,<-g7,<-hlf];simpa using h0
   refine ⟨.tuple #[.bool false],w,_,_,?_,⟨hs, .refl _ _⟩, .tup _ _ rfl (fun k hk=>?_),k2 hl0⟩
   · unfold execOp
     rw [hop]
     simp [hv,hrun]
   · match k,hk with
     | 0,_=>exact .bool _
 · obtain ⟨j,hj,hej⟩:=List.getElem_of_mem he
   have hgo:∀ (w2:World),w2.os=w.os->w2.tape=w.tape->w2.output=w.output->w2.heap=w.heap->w.drawn<=w2.drawn->(Instr.next (.pointer (some ⟨r,0,none⟩)) false o.type).run P w = .ok (.tuple #[.bool true,e.key,e.val]) (Go.ChangeMaps.setBlock w2 r (.mapIter (some mr) clock (seen.push e.born) clock)) ->
     ∃ v w' d H',(execOp a.eval o).run P w = .ok (.value v) w'/\(Sim w' H'/\Ext w (L1 ++ .miter r mr m left cur::L2) w' H')/\R (stable w' H') w' v d/\K d H':=fun w2 e1 e2 e3 e4 e5 hrun=>by
    generalize hlg:(es.toList.filter fun e=>!seen.contains e.born)=lf at *
    have hj':j<lf.length:=by rw [<-hlf];exact hj
    have hej':lf[j]=e:=by rw [<-hej];simp only [hlf]
    have hjl:j<left.length:=by omega
    have hpw:lf.Pairwise fun a b=>a.born<b.born:=by rw [<-hlg];exact (born_nodup g4).filter _
    have hnf:(es.toList.filter fun x=>!(seen.push e.born).contains x.born)=lf.eraseIdx j:=by
     rw [<-filter_born' hpw (List.getElem?_eq_some_iff.2 ⟨hj',hej'⟩),<-hlg,List.filter_filter]
     congr 1
     funext x
     rw [Bool.eq_iff_iff]
     simp only [Bool.not_eq_true',Bool.and_eq_true,Array.contains_push,Bool.or_eq_false_iff]
     constructor
     · rintro ⟨p,q⟩;exact ⟨by simpa [BEq.comm] using q,p⟩
     · rintro ⟨p,q⟩;exact ⟨q,by simpa [BEq.comm] using p⟩
    have hy:=g8 j hjl
    have hye:lf.getD j default=e:=by simp [List.getD_eq_getElem?_getD,hj',hej']
    rw [hye] at hy
    have hsplit:left=left.take j++left.getD j (.any, .any)::left.drop (j+1):=by
     have h1:left.getD j (.any, .any)=left[j]:=by simp [List.getD_eq_getElem?_getD,hjl]
     rw [h1,<-List.drop_eq_getElem_cons hjl,List.take_append_drop]
    have hers:left.take j++left.drop (j+1)=left.eraseIdx j:=(List.eraseIdx_eq_take_drop_succ ..).symm
    have hk:=k1 _ _ _ hsplit
    rw [hers] at hk
    have hsw:=Sim.swap (w':=Go.ChangeMaps.setBlock w2 r (.mapIter (some mr) clock (seen.push e.born) clock)) (e0:=.miter r mr m left cur) (e1:=.miter r mr m (left.eraseIdx j) [left.getD j (.any, .any)]) hs e1 e2 e3 (by simp [Go.ChangeMaps.setBlock,e4])
     (fun b _ hb=>by
       simp only [Go.ChangeMaps.setBlock,Array.getElem?_setIfInBounds,e4]
       rw [if_neg (fun e=>hb (.inl e.symm))])
     (fun q _ hq=>by
       simp only [Go.ChangeMaps.setBlock,World.cell?,Array.getElem?_setIfInBounds,e4]
       rw [if_neg (fun e=>hq (.inl e.symm))])
     (fun b hb=>.inl hb) (fun q hq=>.inl hq) (fun hst=>by
       refine ⟨es,clock,?_,g2,fun k hk=>⟨((g3 k hk).1).mono hst,((g3 k hk).2).mono hst⟩,g4,g5,seen.push e.born,?_,?_,fun k hk=>?_,fun x hx=>?_⟩
       · simp only [Go.ChangeMaps.setBlock,Array.getElem?_setIfInBounds,e4]
         rw [if_neg hne];exact g1
       · simp [Go.ChangeMaps.setBlock,Array.getElem?_setIfInBounds,e4,hlt]
       · rw [hnf,List.length_eraseIdx,List.length_eraseIdx,g7]
       · rw [hnf,getD_erase,getD_erase]
         rw [List.length_eraseIdx,if_pos hjl] at hk
         have:=g8 (if k<j then k else k+1) (by split<;>omega)
         exact ⟨this.1.mono hst,this.2.mono hst⟩
       · rw [List.mem_singleton.1 hx]
         refine ⟨e,?_,by simp,hy.1.mono hst,hy.2.mono hst⟩
         have:e∈lf:=hej'▸List.getElem_mem hj'
         rw [<-hlg] at this
         exact (List.mem_filter.1 this).1) (by simpa [Go.ChangeMaps.setBlock] using e5)
    refine ⟨.tuple #[.bool true,e.key,e.val],_,_,_,?_,hsw, .tup _ _ rfl (fun k hk=>?_),hk⟩
    · unfold execOp
      rw [hop]
      simp [hv,hrun]
    · match k,hk with
      | 0,_=>exact .bool _
      | 1,_=>exact hsw.2.rel hy.1
      | 2,_=>exact hsw.2.rel hy.2
   rcases hw1 with hw1 | hw1
   · rw [hw1] at hrun;exact hgo w rfl rfl rfl rfl (Nat.le_refl _) hrun
   · rw [hw1] at hrun;exact hgo w.drew rfl rfl rfl rfl (Nat.le_succ _) hrun
theorem DOp.entrym_ {x:Operand} {r:Nat} (hop:o.op = .entry x) (hx:f x = .raw (.pointer (some ⟨r,0,none⟩)))
  (h:OnG H r fun mr m left cur C=>∃ y,cur=[y]/\K (.tup [y.1,y.2]) H):DOp P o f H K:=by
 obtain ⟨mr,m,left,cur,L1,L2,rfl,y,rfl,hk⟩:=h
 refine DOp.step fun a w hs hr=>?_
 have hv:=hr x (by simp [hop,Op.operands])
 rw [hx] at hv
 have hv:a.eval x = .pointer (some ⟨r,0,none⟩):=by generalize a.eval x=v at hv;cases hv;rfl
 obtain ⟨es,clock,g1,g2,g3,g4,g5,seen,g6,g7,g8,g9⟩:=miter_of hs
 obtain ⟨e,e1,e2,e3,e4⟩:=g9 y (List.mem_singleton.2 rfl)
 have hn:(es.toList.map (·.born)).Nodup:=by
  rw [List.Nodup,List.pairwise_map]
  exact (born_nodup g4).imp fun h=>by omega
 have hf:es.find? (·.born==e.born)=some e:=by rw [<-Array.find?_toList];exact find_born e es.toList hn e1
 refine ⟨.tuple #[e.key,e.val],w,_,_,?_,⟨hs, .refl _ _⟩, .tup _ _ rfl (fun k hk=>?_),hk⟩
 · unfold execOp
   rw [hop]
   have hg1:(getObj r).run P w = .ok (.mapIter (some mr) clock seen clock) w:=by simp [getObj,Sem.run,g6]
   have hg2:(getObj mr).run P w = .ok (.map es clock) w:=by simp [getObj,Sem.run,g1]
   simp [Instr.entry,hv,hg1,hg2,e2,hf]
 · match k,hk with
   | 0,_=>exact e3
   | 1,_=>exact e4
end
theorem Sim.unit {w:World} {L1 L2:Own} {r mr:Nat} {m left cur:List (V×V)} (hs:Sim w (L1 ++ .miter r mr m left cur::L2)):Sim w (L1 ++ .map mr m::L2)/\Ext w (L1 ++ .miter r mr m left cur::L2) w (L1 ++ .map mr m::L2):=by
 obtain ⟨es,clock,g1,g2,g3,g4,g5,_⟩:=miter_of hs
 exact Sim.swap (w':=w) (e0:=.miter r mr m left cur) (e1:=.map mr m) hs rfl rfl rfl (Nat.le_refl _) (fun _ _ _=>rfl) (fun _ _ _=>rfl) (fun b hb=>.inl (.inr hb)) (fun q hq=>.inl (.inr hq)) (fun hst=>⟨es,clock,g1,g2,fun k hk=>⟨((g3 k hk).1).mono hst,((g3 k hk).2).mono hst⟩,g4,g5⟩)
end
section
open Go.RowKit Go.ChangeShapes Go.WideShapes Go.Deep
theorem Sim.none (w:World):Sim w []:=⟨(fun _ h=>nomatch h),List.Pairwise.nil,List.Pairwise.nil⟩
theorem stable_none {w:World} {a:Addr} (h:(w.cell? a).isSome=true):stable w [] a:=⟨h,(fun _ h=>nomatch h)⟩
section
variable {H:Type} {enc:TypeId×Value->H} {P:Program} {w:World}
def Opens (P:Program) (enc:TypeId×Value->H) (w:World) (e:TypeId) (C:Nat) {α:Type} (ea:α->V) (Q:α->Prop):Prop :=
 ∀ (cs:List Value) (n:Nat) (y:DataW H×List MemPlace),cs.length=C->DataW.trod enc P w 0 (fun _=>true) true n e cs=some y ->
  ∃ a,Q a/\∀ o,o<C->R (stable w []) w (cs.getD o undef) ((ea a).cs.getD o .any)
theorem open_elems {e:TypeId} {C:Nat} {α:Type} {ea:α->V} {Q:α->Prop} (hC:0<C) (hn:∀ a,(ea a).cs.length=C) (ho:Opens P enc w e C ea Q) {A:Option Addr} {len cap:Nat} (hE:Elems enc P w e C A len cap) :
  ∃ l:List α,l.length=len/\(∀ a∈l,Q a)/\R (stable w []) w (.slice A len cap) (.sl (l.map ea)):=by
 have one:∀ i,i<len->∃ a,Q a/\∃ b off,A=some ⟨b,off,none⟩/\∀ o,o<C->∃ v,w.cell? ⟨b,off+i * C+o,none⟩=some v/\R (stable w []) w v ((ea a).cs.getD o .any):=fun i hi=>by
  obtain ⟨b,off,cs,n,y,hA,hb,hl,hc,ht⟩:=hE.at_ i hi
  obtain ⟨a,hq,hr⟩:=ho cs n y hl ht
  refine ⟨a,hq,b,off,hA,fun o hlt=>?_⟩
  have hlt':o<cs.length:=by omega
  refine ⟨cs[o],hc o _ (List.getElem?_eq_getElem hlt'),?_⟩
  have:=hr o hlt
  simpa [List.getD_eq_getElem?_getD,hlt'] using this
 have all:∀ m,m<=len->∃ l:List α,l.length=m/\(∀ a∈l,Q a)/\∀ i (hi:i<l.length),∃ b off,A=some ⟨b,off,none⟩/\∀ o,o<C->∃ v,w.cell? ⟨b,off+i * C+o,none⟩=some v/\R (stable w []) w v ((ea l[i]).cs.getD o .any):=fun m=>by
  induction m with
  | zero=>exact fun _=>⟨[],rfl,(fun _ h=>nomatch h),fun i hi=>absurd hi (Nat.not_lt_zero _)⟩
  | succ m ih =>
   intro hm
   obtain ⟨l,h1,h2,h3⟩:=ih (by omega)
   obtain ⟨a,hq,hx⟩:=one m (by omega)
   refine ⟨l++[a],by simp [h1],fun z hz=>?_,fun i hi=>?_⟩
   · rcases List.mem_append.1 hz with hz | hz
     · exact h2 z hz
     · simp at hz;subst hz;exact hq
   · by_cases hil:i<l.length
     · simpa [List.getElem_append_left,hil] using h3 i hil
     · have:i=l.length:=by simp at hi;omega
       subst this
       simp only [List.getElem_concat_length]
       rw [h1];exact hx
 obtain ⟨l,h1,h2,h3⟩:=all len (Nat.le_refl _)
 refine ⟨l,h1,h2,?_⟩
 have hel:∀ i,i<l.length->∃ hi:i<l.length,(l.map ea).getD i .any=ea l[i]:=fun i hi=>⟨hi,by simp [List.getD_eq_getElem?_getD,hi]⟩
 refine .sl A len cap _ C (by simp [h1]) hE.le (fun h=>?_) (fun b hb hne=>?_) (fun i hi=>?_) (fun b i k hb hi hk=>?_) (fun b i k hb hi hk=>?_)
 · have:=hE.nil h
   have:l=[]:=List.eq_nil_of_length_eq_zero (by omega)
   subst this;rfl
 · have hl:0<l.length:=List.length_pos_iff.2 fun h=>hne (by rw [h];rfl)
   obtain ⟨b',off,hA,_⟩:=h3 0 hl
   rw [hA] at hb
   injection hb with hb
   rw [<-hb]
 · simp only [List.length_map] at hi
   obtain ⟨_,e⟩:=hel i hi
   rw [e,<-cs_n];exact hn _
 · simp only [List.length_map] at hi
   obtain ⟨b',off,hA,hx⟩:=h3 i hi
   rw [hA] at hb
   injection hb with hb
   subst hb
   obtain ⟨v,hv,_⟩:=hx k hk
   exact stable_none (by simp only;rw [hv];rfl)
 · simp only [List.length_map] at hi
   obtain ⟨b',off,hA,hx⟩:=h3 i hi
   rw [hA] at hb
   injection hb with hb
   subst hb
   obtain ⟨v,hv,hr⟩:=hx k hk
   obtain ⟨_,e⟩:=hel i hi
   simp only
   rw [cellAt,hv,e,cs_cell _ _ (by rw [hn];exact hk)]
   exact hr
end
end
end Go.Proofs.YtphhijelneaedaaDoor
