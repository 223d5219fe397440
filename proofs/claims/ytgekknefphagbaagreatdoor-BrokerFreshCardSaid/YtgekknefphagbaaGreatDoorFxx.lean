/- Rows that come back are held fast; fields that hold nothing yet are to be owned. No statement of the program. -/
import Derived.Test.YtgekknefphagbaaGreatDoorEzx
import Derived.Test.YtgekknefphagbaaGreatDoorEqx
import Derived.Maps.RangeRun
namespace Go.Proofs.YtgekknefphagbaaGreatDoor
open Go.RowKit
set_option linter.unusedSimpArgs false
set_option linter.unusedVariables false
set_option linter.unusedSectionVars false
section
theorem DC.frzX {P:Program} {f:FuncId} {args:List V} {H F:Own} {X:Type} {Q:X->Prop} {sz:Nat} {l:X->List V} (hz:0<sz) (hl:∀ x,∀ y∈l x,y.n=sz)
  (h:DC P f args H fun d G=>∃ v x,d = .ar v (l x).length/\Q x/\G = .arr sz v (cells (l x))::F):DC P f args H fun d G=>∃ x,Q x/\d = .sl (l x)/\G=F :=
 ⟨h.1,fun xs w hs hn hr=>(h.2 xs w hs hn hr).mono fun e w' ⟨u,d,H',he,s,ex,r,v,x,hd,hq,hG⟩=>by
   subst hd hG
   obtain ⟨⟨g1,g2⟩,g3⟩:=Sim.frz (L1:=[]) s hz (hl x)
   have k1:Ext w' (.tail sz v::F) w' F:=Ext.drop fun x hx=>List.mem_cons_of_mem _ hx
   have r1:R (stable w' F) w' u (.gs v (l x)):=(R.cv g3 (Cv.hit _) (g2.rel r)).mono k1.cells
   exact ⟨u, .sl (l x),F,he,g1.drop (List.sublist_cons_self _ _),(ex.trans g2).trans k1,le.gs rfl _ _ _ r1,x,hq,rfl,rfl⟩⟩
theorem DW.own0B (sz b i:Nat) {P:Program} {n:Nat} {Q:Exit->Env->Own->Prop} {e:Env} {H:Own} {c:Code} {cs:List V} (ht:cs.getD i .any = .gs (.slice none 0 0) [])
  (h:DW P n c Q e (.arr sz (.slice none 0 0) [] :: .blk b (cs.set i (.ar (.slice none 0 0) 0))::H)):DW P n c Q e (.blk b cs::H):=fun a w hs hr=>by
 obtain ⟨k1,k2⟩:=Sim.swap (L1:=[]) (w':=w) (e0:=.blk b cs) (e1:=.blk b (cs.set i (.ar (.slice none 0 0) 0))) hs rfl rfl rfl (Nat.le_refl _) (fun _ _ _=>rfl) (fun _ _ _=>rfl) (fun b hb=>.inl hb) (fun q hq=>.inl hq) (fun hst=>by
  obtain ⟨xs,T,fr,h1,h2,h3,h4⟩:=hs.holds (.blk b cs) (by simp)
  refine ⟨xs,T,fr,h1,h2,by rw [List.length_set];exact h3,fun k hk=>?_⟩
  rw [List.length_set] at hk
  have h5:=(h4 k hk).mono hst
  by_cases hki:i=k
  · subst hki
    rw [ht] at h5
    have e1:(cs.set i (V.ar (.slice none 0 0) 0)).getD i .any = .ar (.slice none 0 0) 0:=by rw [List.getD_eq_getElem?_getD,List.getElem?_set_self hk];rfl
    rw [e1]
    generalize xs.getD i undef=y at h5 ⊢
    cases h5
    exact .ar _ _ _ (Nat.le_refl _) (fun _=>rfl)
  · have e1:(cs.set i (V.ar (.slice none 0 0) 0)).getD k .any=cs.getD k .any:=by rw [List.getD_eq_getElem?_getD,List.getElem?_set_ne hki,<-List.getD_eq_getElem?_getD]
    rw [e1];exact h5)
 obtain ⟨g1,g2⟩:=k1.arr0 sz
 have x2:=k2.trans g2
 exact wp_mono (h a w g1 ⟨hr.size,fun u=>x2.rel (hr.slot u)⟩) fun x a1 w1 ⟨hd,e1,H1,s,r,x1,q⟩=>⟨hd,e1,H1,s,r,x2.trans x1,q⟩
theorem DW.own0P (sz b i:Nat) {P:Program} {n:Nat} {Q:Exit->Env->Own->Prop} {e:Env} {H F:Own} {c:Code} {cs:List V} (hq:Pulled H [.blk b cs] F) (ht:cs.getD i .any = .gs (.slice none 0 0) [])
  (h:DW P n c Q e (.arr sz (.slice none 0 0) [] :: .blk b (cs.set i (.ar (.slice none 0 0) 0))::F)):DW P n c Q e H:=fun a w hs hr=>by
 have hp:H.Perm (.blk b cs::F):=hq
 have x2:=Ext.perm (w:=w) hp
 exact wp_mono (DW.own0B sz b i ht h a w (hs.perm hp) ⟨hr.size,fun u=>x2.rel (hr.slot u)⟩) fun x a1 w1 ⟨hd,e1,H1,s,r,x1,q⟩=>⟨hd,e1,H1,s,r,x2.trans x1,q⟩
end
section
section
variable {P:Program} {o:Oper} {f:Operand->V} {H:Own} {K:V->Own->Prop}
theorem DOp.rangem_ {t:TypeId} {x:Operand} {mr:Nat} (hop:o.op = .range t x) (hx:f x = .raw (.map (some mr)))
  (h:OnM H mr fun m C=>(ty P t).kind=8/\∀ r,K (.raw (.pointer (some ⟨r,0,none⟩))) (C (.miter r mr m m []))):DOp P o f H K:=by
 obtain ⟨m,L1,L2,rfl,h8,hk⟩:=h
 refine DOp.step fun a w hs hr=>?_
 have hv:=hr x (by simp [hop,Op.operands])
 rw [hx] at hv
 have hv:a.eval x = .map (some mr):=by generalize a.eval x=v at hv;cases hv;rfl
 obtain ⟨es,clock,g1,g2,g3,g4,g5⟩:=ziY hs
 have hlt:mr<w.heap.size:=(Array.getElem?_eq_some_iff.1 g1).1
 have hget:(getObj mr).run P w = .ok (.map es clock) w:=by simp [getObj,Sem.run,g1]
 have hsw:=Sim.swap (w':=w.alloc (.mapIter (some mr) clock #[] clock)) (e0:=.map mr m) (e1:=.miter w.heap.size mr m m []) hs rfl rfl rfl (by simp) (fun b hb _=>Below.heap_alloc w _ b hb) (fun q hq _=>by
  obtain ⟨v,hv⟩:=Option.isSome_iff_exists.1 hq
  exact World.cell?_of_block (w:=w) (Below.heap_alloc w _ q.block (World.block_lt_of_cell? w q hv))) (fun b hb=>by
  rcases hb with rfl | rfl
  · exact .inr (Nat.le_refl _)
  · exact .inl rfl) (fun q hq=>by
  rcases hq with hq | hq
  · exact .inr (by rw [hq];exact Nat.le_refl _)
  · exact .inl hq) (fun hst=>by
  obtain ⟨b1,b2⟩:=(g2.mono hst).back
  have hf:(es.toList.filter fun e=>!(#[]:Array Nat).contains e.born)=es.toList:=List.filter_eq_self.2 fun e _=>by simp
  refine ⟨es,clock,?_,by simpa using b1,fun k hk=>?_,g4,g5,#[],heap_alloc_new w _,by rw [hf];simpa using b1,fun k hk=>by rw [hf];exact b2 k hk,fun x hx=>(nomatch hx)⟩
  · rw [Below.heap_alloc w _ mr hlt];exact g1
  · simpa [Array.getD_eq_getD_getElem?,List.getD_eq_getElem?_getD] using b2 k hk)
 refine ⟨.pointer (some ⟨w.heap.size,0,none⟩),_,_,_,?_,hsw, .raw _,hk _⟩
 unfold execOp
 rw [hop]
 simp [Instr.range,hv,run_underlying (zhN h8),hget]
def OnG (H:Own) (r:Nat) (G:Nat->List (V×V)->List (V×V)->List (V×V)->(Ent->Own)->Prop):Prop:=∃ mr m left cur,On H (.miter r mr m left cur) (G mr m left cur)
theorem OnG.here {H:Own} {r mr:Nat} {m left cur:List (V×V)} {G:Nat->List (V×V)->List (V×V)->List (V×V)->(Ent->Own)->Prop} (h:G mr m left cur fun x=>x::H):OnG (.miter r mr m left cur::H) r G:=⟨mr,m,left,cur,On.here h⟩
theorem OnG.next {H:Own} {r:Nat} {y:Ent} {G:Nat->List (V×V)->List (V×V)->List (V×V)->(Ent->Own)->Prop} (h:OnG H r fun mr m left cur C=>G mr m left cur fun x=>y::C x):OnG (y::H) r G:=by
 obtain ⟨mr,m,left,cur,h⟩:=h
 exact ⟨mr,m,left,cur,On.next h⟩
theorem OnM.skip {M H:Own} {r:Nat} {G:List (V×V)->(Ent->Own)->Prop} (h:OnM H r fun m C=>G m fun x=>M++C x):OnM (M++H) r G:=by
 obtain ⟨m,h⟩:=h
 exact ⟨m,On.skip h⟩
theorem zii {w:World} {L1 L2:Own} {r mr:Nat} {m left cur:List (V×V)} (hs:Sim w (L1 ++ .miter r mr m left cur::L2)):(Ent.miter r mr m left cur).holds (stable w (L1 ++ .miter r mr m left cur::L2)) w:=hs.holds _ (by simp)
theorem zdW {es:Array MapEntry} (h:∀ i j,i<j->j<es.size->(es.getD i default).born<(es.getD j default).born):es.toList.Pairwise fun a b=>a.born<b.born:=by
 rw [List.pairwise_iff_getElem]
 intro i j hi hj hij
 have:=h i j hij (by simpa using hj)
 have hi':i<es.size:=by simpa using hi
 have hj':j<es.size:=by simpa using hj
 simpa [Array.getD_eq_getD_getElem?,hi',hj'] using this
theorem zgv:∀ {L:List MapEntry} (_:L.Pairwise fun a b=>a.born<b.born) {j:Nat} (hj:j<L.length),L.filter (fun x=>!(x.born==(L[j]'hj).born))=L.eraseIdx j
 | [],_,_,hj=>absurd hj (Nat.not_lt_zero _)
 | a::L,h,0,_=>by
  rw [List.pairwise_cons] at h
  rw [List.filter_cons]
  simp only [List.getElem_cons_zero,beq_self_eq_true,Bool.not_true,Bool.false_eq_true,if_false,List.eraseIdx_cons_zero]
  exact List.filter_eq_self.2 fun x hx=>by
   have:=h.1 x hx
   have:¬ x.born=a.born:=by omega
   simpa using this
 | a::L,h,j+1,hj=>by
  rw [List.pairwise_cons] at h
  have hj':j<L.length:=by simpa using hj
  have:=h.1 (L[j]) (List.getElem_mem hj')
  rw [List.filter_cons]
  simp only [List.getElem_cons_succ,List.eraseIdx_cons_succ]
  rw [if_pos (by have:¬ a.born=L[j].born:=by omega
                 simpa using this),zgv h.2 hj']
theorem ziT {L:List MapEntry} (h:L.Pairwise fun a b=>a.born<b.born) {j:Nat} {e:MapEntry} (he:L[j]? = some e):L.filter (fun x=>!(x.born==e.born))=L.eraseIdx j:=by
 obtain ⟨hj,rfl⟩:=List.getElem?_eq_some_iff.1 he
 exact zgv h hj
theorem DOp.nextm_ {x:Operand} {t:TypeId} {r:Nat} (hop:o.op = .next x false) (hx:f x = .raw (.pointer (some ⟨r,0,none⟩)))
  (h:OnG H r fun mr m left cur C=>Both (∀ l1 y l2,left=l1++y::l2->K (.tup [.bool true,y.1,y.2]) (C (.miter r mr m (l1++l2) [y]))) (left=[]->K (.tup [.bool false]) (C (.miter r mr m left cur)))):DOp P o f H K:=by
 obtain ⟨mr,m,left,cur,L1,L2,rfl,k1,k2⟩:=h
 refine DOp.step fun a w hs hr=>?_
 have hv:=hr x (by simp [hop,Op.operands])
 rw [hx] at hv
 have hv:a.eval x = .pointer (some ⟨r,0,none⟩):=by generalize a.eval x=v at hv;cases hv;rfl
 obtain ⟨es,clock,g1,g2,g3,g4,g5,seen,g6,g7,g8,g9⟩:=zii hs
 have hne:r≠mr:=fun e=>by rw [e] at g6;rw [g6] at g1;cases g1
 have hlt:r<w.heap.size:=(Array.getElem?_eq_some_iff.1 g6).1
 have hold:∀ x∈es.toList,x.born<clock:=fun x hx=>by
  obtain ⟨i,hi,rfl⟩:=List.getElem_of_mem hx
  have hi':i<es.size:=by simpa using hi
  have:=g5 i hi'
  simpa [Array.getD_eq_getD_getElem?,hi'] using this
 have hlf:(leftOf es seen).toList=es.toList.filter fun e=>!seen.contains e.born:=by unfold leftOf;simp
 rcases run_next_at (P:=P) w o.type r mr clock clock seen es clock g6 g1 hold (Nat.le_refl _) with ⟨h0,hrun⟩ | ⟨e,he,w1,hw1,hrun⟩
 · have hl0:left=[]:=by
    rw [<-List.length_eq_zero_iff,<-g7,<-hlf];simpa using h0
   refine ⟨.tuple #[.bool false],w,_,_,?_,⟨hs, .refl _ _⟩, .tup _ _ rfl (fun k hk=>?_),k2 hl0⟩
   · unfold execOp
     rw [hop]
     simp [hv,hrun]
   · match k,hk with
     | 0,_=>exact .bool _
 · obtain ⟨j,hj,hej⟩:=List.getElem_of_mem he
   have hgo:∀ (w2:World),w2.os=w.os->w2.tape=w.tape->w2.output=w.output->w2.heap=w.heap->w.drawn<=w2.drawn->(Instr.next (.pointer (some ⟨r,0,none⟩)) false o.type).run P w = .ok (.tuple #[.bool true,e.key,e.val]) (Go.ChangeMaps.setBlock w2 r (.mapIter (some mr) clock (seen.push e.born) clock)) ->
     ∃ v w' d H',(execOp a.eval o).run P w = .ok (.value v) w'/\(Sim w' H'/\Ext w (L1 ++ .miter r mr m left cur::L2) w' H')/\R (stable w' H') w' v d/\K d H':=fun w2 e1 e2 e3 e4 e5 hrun=>by
    generalize hlg:(es.toList.filter fun e=>!seen.contains e.born)=lf at *
    have hj':j<lf.length:=by rw [<-hlf];exact hj
    have hej':lf[j]=e:=by rw [<-hej];simp only [hlf]
    have hjl:j<left.length:=by omega
    have hpw:lf.Pairwise fun a b=>a.born<b.born:=by rw [<-hlg];exact (zdW g4).filter _
    have hnf:(es.toList.filter fun x=>!(seen.push e.born).contains x.born)=lf.eraseIdx j:=by
     rw [<-ziT hpw (List.getElem?_eq_some_iff.2 ⟨hj',hej'⟩),<-hlg,List.filter_filter]
     congr 1
     funext x
     rw [Bool.eq_iff_iff]
     simp only [Bool.not_eq_true',Bool.and_eq_true,Array.contains_push,Bool.or_eq_false_iff]
     constructor
     · rintro ⟨p,q⟩;exact ⟨by simpa [BEq.comm] using q,p⟩
     · rintro ⟨p,q⟩;exact ⟨q,by simpa [BEq.comm] using p⟩
    have hy:=g8 j hjl
    have hye:lf.getD j default=e:=by simp [List.getD_eq_getElem?_getD,hj',hej']
    rw [hye] at hy
    have hsplit:left=left.take j++left.getD j (.any, .any)::left.drop (j+1):=by
     have h1:left.getD j (.any, .any)=left[j]:=by simp [List.getD_eq_getElem?_getD,hjl]
     rw [h1,<-List.drop_eq_getElem_cons hjl,List.take_append_drop]
    have hers:left.take j++left.drop (j+1)=left.eraseIdx j:=(List.eraseIdx_eq_take_drop_succ ..).symm
    have hk:=k1 _ _ _ hsplit
    rw [hers] at hk
    have hsw:=Sim.swap (w':=Go.ChangeMaps.setBlock w2 r (.mapIter (some mr) clock (seen.push e.born) clock)) (e0:=.miter r mr m left cur) (e1:=.miter r mr m (left.eraseIdx j) [left.getD j (.any, .any)]) hs e1 e2 e3 (by simp [Go.ChangeMaps.setBlock,e4])
     (fun b _ hb=>by
       simp only [Go.ChangeMaps.setBlock,Array.getElem?_setIfInBounds,e4]
       rw [if_neg (fun e=>hb (.inl e.symm))])
     (fun q _ hq=>by
       simp only [Go.ChangeMaps.setBlock,World.cell?,Array.getElem?_setIfInBounds,e4]
       rw [if_neg (fun e=>hq (.inl e.symm))])
     (fun b hb=>.inl hb) (fun q hq=>.inl hq) (fun hst=>by
       refine ⟨es,clock,?_,g2,fun k hk=>⟨((g3 k hk).1).mono hst,((g3 k hk).2).mono hst⟩,g4,g5,seen.push e.born,?_,?_,fun k hk=>?_,fun x hx=>?_⟩
       · simp only [Go.ChangeMaps.setBlock,Array.getElem?_setIfInBounds,e4]
         rw [if_neg hne];exact g1
       · simp [Go.ChangeMaps.setBlock,Array.getElem?_setIfInBounds,e4,hlt]
       · rw [hnf,List.length_eraseIdx,List.length_eraseIdx,g7]
       · rw [hnf,zff,zff]
         rw [List.length_eraseIdx,if_pos hjl] at hk
         have:=g8 (if k<j then k else k+1) (by split<;>omega)
         exact ⟨this.1.mono hst,this.2.mono hst⟩
       · rw [List.mem_singleton.1 hx]
         refine ⟨e,?_,by simp,hy.1.mono hst,hy.2.mono hst⟩
         have:e∈lf:=hej'▸List.getElem_mem hj'
         rw [<-hlg] at this
         exact (List.mem_filter.1 this).1) (by simpa [Go.ChangeMaps.setBlock] using e5)
    refine ⟨.tuple #[.bool true,e.key,e.val],_,_,_,?_,hsw, .tup _ _ rfl (fun k hk=>?_),hk⟩
    · unfold execOp
      rw [hop]
      simp [hv,hrun]
    · match k,hk with
      | 0,_=>exact .bool _
      | 1,_=>exact hsw.2.rel hy.1
      | 2,_=>exact hsw.2.rel hy.2
   rcases hw1 with hw1 | hw1
   · rw [hw1] at hrun;exact hgo w rfl rfl rfl rfl (Nat.le_refl _) hrun
   · rw [hw1] at hrun;exact hgo w.drew rfl rfl rfl rfl (Nat.le_succ _) hrun
theorem DOp.entrym_ {x:Operand} {r:Nat} (hop:o.op = .entry x) (hx:f x = .raw (.pointer (some ⟨r,0,none⟩)))
  (h:OnG H r fun mr m left cur C=>∃ y,cur=[y]/\K (.tup [y.1,y.2]) H):DOp P o f H K:=by
 obtain ⟨mr,m,left,cur,L1,L2,rfl,y,rfl,hk⟩:=h
 refine DOp.step fun a w hs hr=>?_
 have hv:=hr x (by simp [hop,Op.operands])
 rw [hx] at hv
 have hv:a.eval x = .pointer (some ⟨r,0,none⟩):=by generalize a.eval x=v at hv;cases hv;rfl
 obtain ⟨es,clock,g1,g2,g3,g4,g5,seen,g6,g7,g8,g9⟩:=zii hs
 obtain ⟨e,e1,e2,e3,e4⟩:=g9 y (List.mem_singleton.2 rfl)
 have hn:(es.toList.map (·.born)).Nodup:=by
  rw [List.Nodup,List.pairwise_map]
  exact (zdW g4).imp fun h=>by omega
 have hf:es.find? (·.born==e.born)=some e:=by rw [<-Array.find?_toList];exact find_born e es.toList hn e1
 refine ⟨.tuple #[e.key,e.val],w,_,_,?_,⟨hs, .refl _ _⟩, .tup _ _ rfl (fun k hk=>?_),hk⟩
 · unfold execOp
   rw [hop]
   have hg1:(getObj r).run P w = .ok (.mapIter (some mr) clock seen clock) w:=by simp [getObj,Sem.run,g6]
   have hg2:(getObj mr).run P w = .ok (.map es clock) w:=by simp [getObj,Sem.run,g1]
   simp [Instr.entry,hv,hg1,hg2,e2,hf]
 · match k,hk with
   | 0,_=>exact e3
   | 1,_=>exact e4
end
theorem Sim.unit {w:World} {L1 L2:Own} {r mr:Nat} {m left cur:List (V×V)} (hs:Sim w (L1 ++ .miter r mr m left cur::L2)):Sim w (L1 ++ .map mr m::L2)/\Ext w (L1 ++ .miter r mr m left cur::L2) w (L1 ++ .map mr m::L2):=by
 obtain ⟨es,clock,g1,g2,g3,g4,g5,_⟩:=zii hs
 exact Sim.swap (w':=w) (e0:=.miter r mr m left cur) (e1:=.map mr m) hs rfl rfl rfl (Nat.le_refl _) (fun _ _ _=>rfl) (fun _ _ _=>rfl) (fun b hb=>.inl (.inr hb)) (fun q hq=>.inl (.inr hq)) (fun hst=>⟨es,clock,g1,g2,fun k hk=>⟨((g3 k hk).1).mono hst,((g3 k hk).2).mono hst⟩,g4,g5⟩)
end
end Go.Proofs.YtgekknefphagbaaGreatDoor
