/- Rows that come back are held fast; fields that hold nothing yet are to be owned. No statement of the program. -/
import Derived.Test.YtgekknefphagbaaGreatDoorEzx
import Derived.Test.YtgekknefphagbaaGreatDoorMpx
import Derived.Maps.RangeRun
import Derived.Test.YtgekknefphagbaaGreatDoorRf3x
import Derived.Test.YtgekknefphagbaaGreatDoorSo
import Derived.Shelf.Sort.Plain
import Derived.Shelf.Slices.In.SortNone
import Derived.Shelf.Slices.CompactI
import Derived.Lib.RowBridge
import Derived.Test.YtgekknefphagbaaGreatDoorProg
namespace Go.Proofs.YtgekknefphagbaaGreatDoor
open Go.RowKit
set_option linter.unusedSimpArgs false
set_option linter.unusedVariables false
set_option linter.unusedSectionVars false
section
theorem DC.frzX {P:Program} {f:FuncId} {args:List V} {H F:Own} {X:Type} {Q:X->Prop} {sz:Nat} {l:X->List V} (hz:0<sz) (hl:∀ x,∀ y∈l x,y.n=sz)
  (h:DC P f args H fun d G=>∃ v x,d = .ar v (l x).length/\Q x/\G = .arr sz v (cells (l x))::F):DC P f args H fun d G=>∃ x,Q x/\d = .sl (l x)/\G=F :=
 ⟨h.1,fun xs w hs hn hr=>(h.2 xs w hs hn hr).mono fun e w' ⟨u,d,H',he,s,ex,r,v,x,hd,hq,hG⟩=>by
   subst hd hG
   obtain ⟨⟨g1,g2⟩,g3⟩:=Sim.frz (L1:=[]) s hz (hl x)
   have k1:Ext w' (.tail sz v::F) w' F:=Ext.drop fun x hx=>List.mem_cons_of_mem _ hx
   have r1:R (stable w' F) w' u (.gs v (l x)):=(R.cv g3 (Cv.hit _) (g2.rel r)).mono k1.cells
   exact ⟨u, .sl (l x),F,he,g1.drop (List.sublist_cons_self _ _),(ex.trans g2).trans k1,le.gs rfl _ _ _ r1,x,hq,rfl,rfl⟩⟩
theorem DW.own0B (sz b i:Nat) {P:Program} {n:Nat} {Q:Exit->Env->Own->Prop} {e:Env} {H:Own} {c:Code} {cs:List V} (ht:cs.getD i .any = .gs (.slice none 0 0) [])
  (h:DW P n c Q e (.arr sz (.slice none 0 0) [] :: .blk b (cs.set i (.ar (.slice none 0 0) 0))::H)):DW P n c Q e (.blk b cs::H):=fun a w hs hr=>by
 obtain ⟨k1,k2⟩:=Sim.swap (L1:=[]) (w':=w) (e0:=.blk b cs) (e1:=.blk b (cs.set i (.ar (.slice none 0 0) 0))) hs rfl rfl rfl (Nat.le_refl _) (fun _ _ _=>rfl) (fun _ _ _=>rfl) (fun b hb=>.inl hb) (fun q hq=>.inl hq) (fun hst=>by
  obtain ⟨xs,T,fr,h1,h2,h3,h4⟩:=hs.holds (.blk b cs) (by simp)
  refine ⟨xs,T,fr,h1,h2,by rw [List.length_set];exact h3,fun k hk=>?_⟩
  rw [List.length_set] at hk
  have h5:=(h4 k hk).mono hst
  by_cases hki:i=k
  · subst hki
    rw [ht] at h5
    have e1:(cs.set i (V.ar (.slice none 0 0) 0)).getD i .any = .ar (.slice none 0 0) 0:=by rw [List.getD_eq_getElem?_getD,List.getElem?_set_self hk];rfl
    rw [e1]
    generalize xs.getD i undef=y at h5 ⊢
    cases h5
    exact .ar _ _ _ (Nat.le_refl _) (fun _=>rfl)
  · have e1:(cs.set i (V.ar (.slice none 0 0) 0)).getD k .any=cs.getD k .any:=by rw [List.getD_eq_getElem?_getD,List.getElem?_set_ne hki,<-List.getD_eq_getElem?_getD]
    rw [e1];exact h5)
 obtain ⟨g1,g2⟩:=k1.arr0 sz
 have x2:=k2.trans g2
 exact wp_mono (h a w g1 ⟨hr.size,fun u=>x2.rel (hr.slot u)⟩) fun x a1 w1 ⟨hd,e1,H1,s,r,x1,q⟩=>⟨hd,e1,H1,s,r,x2.trans x1,q⟩
theorem DW.own0P (sz b i:Nat) {P:Program} {n:Nat} {Q:Exit->Env->Own->Prop} {e:Env} {H F:Own} {c:Code} {cs:List V} (hq:Pulled H [.blk b cs] F) (ht:cs.getD i .any = .gs (.slice none 0 0) [])
  (h:DW P n c Q e (.arr sz (.slice none 0 0) [] :: .blk b (cs.set i (.ar (.slice none 0 0) 0))::F)):DW P n c Q e H:=fun a w hs hr=>by
 have hp:H.Perm (.blk b cs::F):=hq
 have x2:=Ext.perm (w:=w) hp
 exact wp_mono (DW.own0B sz b i ht h a w (hs.perm hp) ⟨hr.size,fun u=>x2.rel (hr.slot u)⟩) fun x a1 w1 ⟨hd,e1,H1,s,r,x1,q⟩=>⟨hd,e1,H1,s,r,x2.trans x1,q⟩
end
section
section
variable {P:Program} {o:Oper} {f:Operand->V} {H:Own} {K:V->Own->Prop}
theorem DOp.rangem_ {t:TypeId} {x:Operand} {mr:Nat} (hop:o.op = .range t x) (hx:f x = .raw (.map (some mr)))
  (h:OnM H mr fun m C=>(ty P t).kind=8/\∀ r,K (.raw (.pointer (some ⟨r,0,none⟩))) (C (.miter r mr m m []))):DOp P o f H K:=by
 obtain ⟨m,L1,L2,rfl,h8,hk⟩:=h
 refine DOp.step fun a w hs hr=>?_
 have hv:=hr x (by simp [hop,Op.operands])
 rw [hx] at hv
 have hv:a.eval x = .map (some mr):=by generalize a.eval x=v at hv;cases hv;rfl
 obtain ⟨es,clock,g1,g2,g3,g4,g5⟩:=ziJ hs
 have hlt:mr<w.heap.size:=(Array.getElem?_eq_some_iff.1 g1).1
 have hget:(getObj mr).run P w = .ok (.map es clock) w:=by simp [getObj,Sem.run,g1]
 have hsw:=Sim.swap (w':=w.alloc (.mapIter (some mr) clock #[] clock)) (e0:=.map mr m) (e1:=.miter w.heap.size mr m m []) hs rfl rfl rfl (by simp) (fun b hb _=>Below.heap_alloc w _ b hb) (fun q hq _=>by
  obtain ⟨v,hv⟩:=Option.isSome_iff_exists.1 hq
  exact World.cell?_of_block (w:=w) (Below.heap_alloc w _ q.block (World.block_lt_of_cell? w q hv))) (fun b hb=>by
  rcases hb with rfl | rfl
  · exact .inr (Nat.le_refl _)
  · exact .inl rfl) (fun q hq=>by
  rcases hq with hq | hq
  · exact .inr (by rw [hq];exact Nat.le_refl _)
  · exact .inl hq) (fun hst=>by
  obtain ⟨b1,b2⟩:=(g2.mono hst).back
  have hf:(es.toList.filter fun e=>!(#[]:Array Nat).contains e.born)=es.toList:=List.filter_eq_self.2 fun e _=>by simp
  refine ⟨es,clock,?_,by simpa using b1,fun k hk=>?_,g4,g5,#[],heap_alloc_new w _,by rw [hf];simpa using b1,fun k hk=>by rw [hf];exact b2 k hk,fun x hx=>(nomatch hx)⟩
  · rw [Below.heap_alloc w _ mr hlt];exact g1
  · simpa [Array.getD_eq_getD_getElem?,List.getD_eq_getElem?_getD] using b2 k hk)
 refine ⟨.pointer (some ⟨w.heap.size,0,none⟩),_,_,_,?_,hsw, .raw _,hk _⟩
 unfold execOp
 rw [hop]
 simp [Instr.range,hv,run_underlying (zhL h8),hget]
def OnG (H:Own) (r:Nat) (G:Nat->List (V×V)->List (V×V)->List (V×V)->(Ent->Own)->Prop):Prop:=∃ mr m left cur,On H (.miter r mr m left cur) (G mr m left cur)
theorem OnG.here {H:Own} {r mr:Nat} {m left cur:List (V×V)} {G:Nat->List (V×V)->List (V×V)->List (V×V)->(Ent->Own)->Prop} (h:G mr m left cur fun x=>x::H):OnG (.miter r mr m left cur::H) r G:=⟨mr,m,left,cur,On.here h⟩
theorem OnG.next {H:Own} {r:Nat} {y:Ent} {G:Nat->List (V×V)->List (V×V)->List (V×V)->(Ent->Own)->Prop} (h:OnG H r fun mr m left cur C=>G mr m left cur fun x=>y::C x):OnG (y::H) r G:=by
 obtain ⟨mr,m,left,cur,h⟩:=h
 exact ⟨mr,m,left,cur,On.next h⟩
theorem OnM.skip {M H:Own} {r:Nat} {G:List (V×V)->(Ent->Own)->Prop} (h:OnM H r fun m C=>G m fun x=>M++C x):OnM (M++H) r G:=by
 obtain ⟨m,h⟩:=h
 exact ⟨m,On.skip h⟩
theorem zhF {w:World} {L1 L2:Own} {r mr:Nat} {m left cur:List (V×V)} (hs:Sim w (L1 ++ .miter r mr m left cur::L2)):(Ent.miter r mr m left cur).holds (stable w (L1 ++ .miter r mr m left cur::L2)) w:=hs.holds _ (by simp)
theorem zee {es:Array MapEntry} (h:∀ i j,i<j->j<es.size->(es.getD i default).born<(es.getD j default).born):es.toList.Pairwise fun a b=>a.born<b.born:=by
 rw [List.pairwise_iff_getElem]
 intro i j hi hj hij
 have:=h i j hij (by simpa using hj)
 have hi':i<es.size:=by simpa using hi
 have hj':j<es.size:=by simpa using hj
 simpa [Array.getD_eq_getD_getElem?,hi',hj'] using this
theorem zg8:∀ {L:List MapEntry} (_:L.Pairwise fun a b=>a.born<b.born) {j:Nat} (hj:j<L.length),L.filter (fun x=>!(x.born==(L[j]'hj).born))=L.eraseIdx j
 | [],_,_,hj=>absurd hj (Nat.not_lt_zero _)
 | a::L,h,0,_=>by
  rw [List.pairwise_cons] at h
  rw [List.filter_cons]
  simp only [List.getElem_cons_zero,beq_self_eq_true,Bool.not_true,Bool.false_eq_true,if_false,List.eraseIdx_cons_zero]
  exact List.filter_eq_self.2 fun x hx=>by
   have:=h.1 x hx
   have:¬ x.born=a.born:=by omega
   simpa using this
 | a::L,h,j+1,hj=>by
  rw [List.pairwise_cons] at h
  have hj':j<L.length:=by simpa using hj
  have:=h.1 (L[j]) (List.getElem_mem hj')
  rw [List.filter_cons]
  simp only [List.getElem_cons_succ,List.eraseIdx_cons_succ]
  rw [if_pos (by have:¬ a.born=L[j].born:=by omega
                 simpa using this),zg8 h.2 hj']
theorem zi3 {L:List MapEntry} (h:L.Pairwise fun a b=>a.born<b.born) {j:Nat} {e:MapEntry} (he:L[j]? = some e):L.filter (fun x=>!(x.born==e.born))=L.eraseIdx j:=by
 obtain ⟨hj,rfl⟩:=List.getElem?_eq_some_iff.1 he
 exact zg8 h hj
theorem DOp.nextm_ {x:Operand} {t:TypeId} {r:Nat} (hop:o.op = .next x false) (hx:f x = .raw (.pointer (some ⟨r,0,none⟩)))
  (h:OnG H r fun mr m left cur C=>Both (∀ l1 y l2,left=l1++y::l2->K (.tup [.bool true,y.1,y.2]) (C (.miter r mr m (l1++l2) [y]))) (left=[]->K (.tup [.bool false]) (C (.miter r mr m left cur)))):DOp P o f H K:=by
 obtain ⟨mr,m,left,cur,L1,L2,rfl,k1,k2⟩:=h
 refine DOp.step fun a w hs hr=>?_
 have hv:=hr x (by simp [hop,Op.operands])
 rw [hx] at hv
 have hv:a.eval x = .pointer (some ⟨r,0,none⟩):=by generalize a.eval x=v at hv;cases hv;rfl
 obtain ⟨es,clock,g1,g2,g3,g4,g5,seen,g6,g7,g8,g9⟩:=zhF hs
 have hne:r≠mr:=fun e=>by rw [e] at g6;rw [g6] at g1;cases g1
 have hlt:r<w.heap.size:=(Array.getElem?_eq_some_iff.1 g6).1
 have hold:∀ x∈es.toList,x.born<clock:=fun x hx=>by
  obtain ⟨i,hi,rfl⟩:=List.getElem_of_mem hx
  have hi':i<es.size:=by simpa using hi
  have:=g5 i hi'
  simpa [Array.getD_eq_getD_getElem?,hi'] using this
 have hlf:(leftOf es seen).toList=es.toList.filter fun e=>!seen.contains e.born:=by unfold leftOf;simp
 rcases run_next_at (P:=P) w o.type r mr clock clock seen es clock g6 g1 hold (Nat.le_refl _) with ⟨h0,hrun⟩ | ⟨e,he,w1,hw1,hrun⟩
 · have hl0:left=[]:=by
    rw [<-List.length_eq_zero_iff,<-g7,<-hlf];simpa using h0
   refine ⟨.tuple #[.bool false],w,_,_,?_,⟨hs, .refl _ _⟩, .tup _ _ rfl (fun k hk=>?_),k2 hl0⟩
   · unfold execOp
     rw [hop]
     simp [hv,hrun]
   · match k,hk with
     | 0,_=>exact .bool _
 · obtain ⟨j,hj,hej⟩:=List.getElem_of_mem he
   have hgo:∀ (w2:World),w2.os=w.os->w2.tape=w.tape->w2.output=w.output->w2.heap=w.heap->w.drawn<=w2.drawn->(Instr.next (.pointer (some ⟨r,0,none⟩)) false o.type).run P w = .ok (.tuple #[.bool true,e.key,e.val]) (Go.ChangeMaps.setBlock w2 r (.mapIter (some mr) clock (seen.push e.born) clock)) ->
     ∃ v w' d H',(execOp a.eval o).run P w = .ok (.value v) w'/\(Sim w' H'/\Ext w (L1 ++ .miter r mr m left cur::L2) w' H')/\R (stable w' H') w' v d/\K d H':=fun w2 e1 e2 e3 e4 e5 hrun=>by
    generalize hlg:(es.toList.filter fun e=>!seen.contains e.born)=lf at *
    have hj':j<lf.length:=by rw [<-hlf];exact hj
    have hej':lf[j]=e:=by rw [<-hej];simp only [hlf]
    have hjl:j<left.length:=by omega
    have hpw:lf.Pairwise fun a b=>a.born<b.born:=by rw [<-hlg];exact (zee g4).filter _
    have hnf:(es.toList.filter fun x=>!(seen.push e.born).contains x.born)=lf.eraseIdx j:=by
     rw [<-zi3 hpw (List.getElem?_eq_some_iff.2 ⟨hj',hej'⟩),<-hlg,List.filter_filter]
     congr 1
     funext x
     rw [Bool.eq_iff_iff]
     simp only [Bool.not_eq_true',Bool.and_eq_true,Array.contains_push,Bool.or_eq_false_iff]
     constructor
     · rintro ⟨p,q⟩;exact ⟨by simpa [BEq.comm] using q,p⟩
     · rintro ⟨p,q⟩;exact ⟨q,by simpa [BEq.comm] using p⟩
    have hy:=g8 j hjl
    have hye:lf.getD j default=e:=by simp [List.getD_eq_getElem?_getD,hj',hej']
    rw [hye] at hy
    have hsplit:left=left.take j++left.getD j (.any, .any)::left.drop (j+1):=by
     have h1:left.getD j (.any, .any)=left[j]:=by simp [List.getD_eq_getElem?_getD,hjl]
     rw [h1,<-List.drop_eq_getElem_cons hjl,List.take_append_drop]
    have hers:left.take j++left.drop (j+1)=left.eraseIdx j:=(List.eraseIdx_eq_take_drop_succ ..).symm
    have hk:=k1 _ _ _ hsplit
    rw [hers] at hk
    have hsw:=Sim.swap (w':=Go.ChangeMaps.setBlock w2 r (.mapIter (some mr) clock (seen.push e.born) clock)) (e0:=.miter r mr m left cur) (e1:=.miter r mr m (left.eraseIdx j) [left.getD j (.any, .any)]) hs e1 e2 e3 (by simp [Go.ChangeMaps.setBlock,e4])
     (fun b _ hb=>by
       simp only [Go.ChangeMaps.setBlock,Array.getElem?_setIfInBounds,e4]
       rw [if_neg (fun e=>hb (.inl e.symm))])
     (fun q _ hq=>by
       simp only [Go.ChangeMaps.setBlock,World.cell?,Array.getElem?_setIfInBounds,e4]
       rw [if_neg (fun e=>hq (.inl e.symm))])
     (fun b hb=>.inl hb) (fun q hq=>.inl hq) (fun hst=>by
       refine ⟨es,clock,?_,g2,fun k hk=>⟨((g3 k hk).1).mono hst,((g3 k hk).2).mono hst⟩,g4,g5,seen.push e.born,?_,?_,fun k hk=>?_,fun x hx=>?_⟩
       · simp only [Go.ChangeMaps.setBlock,Array.getElem?_setIfInBounds,e4]
         rw [if_neg hne];exact g1
       · simp [Go.ChangeMaps.setBlock,Array.getElem?_setIfInBounds,e4,hlt]
       · rw [hnf,List.length_eraseIdx,List.length_eraseIdx,g7]
       · rw [hnf,zfd,zfd]
         rw [List.length_eraseIdx,if_pos hjl] at hk
         have:=g8 (if k<j then k else k+1) (by split<;>omega)
         exact ⟨this.1.mono hst,this.2.mono hst⟩
       · rw [List.mem_singleton.1 hx]
         refine ⟨e,?_,by simp,hy.1.mono hst,hy.2.mono hst⟩
         have:e∈lf:=hej'▸List.getElem_mem hj'
         rw [<-hlg] at this
         exact (List.mem_filter.1 this).1) (by simpa [Go.ChangeMaps.setBlock] using e5)
    refine ⟨.tuple #[.bool true,e.key,e.val],_,_,_,?_,hsw, .tup _ _ rfl (fun k hk=>?_),hk⟩
    · unfold execOp
      rw [hop]
      simp [hv,hrun]
    · match k,hk with
      | 0,_=>exact .bool _
      | 1,_=>exact hsw.2.rel hy.1
      | 2,_=>exact hsw.2.rel hy.2
   rcases hw1 with hw1 | hw1
   · rw [hw1] at hrun;exact hgo w rfl rfl rfl rfl (Nat.le_refl _) hrun
   · rw [hw1] at hrun;exact hgo w.drew rfl rfl rfl rfl (Nat.le_succ _) hrun
theorem DOp.entrym_ {x:Operand} {r:Nat} (hop:o.op = .entry x) (hx:f x = .raw (.pointer (some ⟨r,0,none⟩)))
  (h:OnG H r fun mr m left cur C=>∃ y,cur=[y]/\K (.tup [y.1,y.2]) H):DOp P o f H K:=by
 obtain ⟨mr,m,left,cur,L1,L2,rfl,y,rfl,hk⟩:=h
 refine DOp.step fun a w hs hr=>?_
 have hv:=hr x (by simp [hop,Op.operands])
 rw [hx] at hv
 have hv:a.eval x = .pointer (some ⟨r,0,none⟩):=by generalize a.eval x=v at hv;cases hv;rfl
 obtain ⟨es,clock,g1,g2,g3,g4,g5,seen,g6,g7,g8,g9⟩:=zhF hs
 obtain ⟨e,e1,e2,e3,e4⟩:=g9 y (List.mem_singleton.2 rfl)
 have hn:(es.toList.map (·.born)).Nodup:=by
  rw [List.Nodup,List.pairwise_map]
  exact (zee g4).imp fun h=>by omega
 have hf:es.find? (·.born==e.born)=some e:=by rw [<-Array.find?_toList];exact find_born e es.toList hn e1
 refine ⟨.tuple #[e.key,e.val],w,_,_,?_,⟨hs, .refl _ _⟩, .tup _ _ rfl (fun k hk=>?_),hk⟩
 · unfold execOp
   rw [hop]
   have hg1:(getObj r).run P w = .ok (.mapIter (some mr) clock seen clock) w:=by simp [getObj,Sem.run,g6]
   have hg2:(getObj mr).run P w = .ok (.map es clock) w:=by simp [getObj,Sem.run,g1]
   simp [Instr.entry,hv,hg1,hg2,e2,hf]
 · match k,hk with
   | 0,_=>exact e3
   | 1,_=>exact e4
end
theorem Sim.unit {w:World} {L1 L2:Own} {r mr:Nat} {m left cur:List (V×V)} (hs:Sim w (L1 ++ .miter r mr m left cur::L2)):Sim w (L1 ++ .map mr m::L2)/\Ext w (L1 ++ .miter r mr m left cur::L2) w (L1 ++ .map mr m::L2):=by
 obtain ⟨es,clock,g1,g2,g3,g4,g5,_⟩:=zhF hs
 exact Sim.swap (w':=w) (e0:=.miter r mr m left cur) (e1:=.map mr m) hs rfl rfl rfl (Nat.le_refl _) (fun _ _ _=>rfl) (fun _ _ _=>rfl) (fun b hb=>.inl (.inr hb)) (fun q hq=>.inl (.inr hq)) (fun hst=>⟨es,clock,g1,g2,fun k hk=>⟨((g3 k hk).1).mono hst,((g3 k hk).2).mono hst⟩,g4,g5⟩)
end
section
section
variable {P:Program} {o:Oper} {f:Operand->V} {H:Own} {K:V->Own->Prop}
theorem DVop.lenm_ {e:Env} {mv tm:List Nat} {ops:Array Oper} {K':Env->Own->Prop} {i:Nat} {rest:List Oper} {x:Operand} {T:TypeId} {r:Nat} (hm:mv.contains i=false) (ht:tm.contains i=true) (hop:o.op = .call { callee:=.builtin .len,args:=#[x],argTypes:=#[T] }) (hx:opd e x = .raw (.map (some r)))
  (h:OnM H r fun m _=>(ty P T).kind=8/\FD P (mv++tm) ops (fun i' l' e'=>DV P mv tm ops K' i' l' e' H) (i+1) rest (putO e o.dst (.int .i64 m.length))):DVop P mv tm ops K' i o rest e H:=by
 obtain ⟨m,L1,L2,hH,h1,h2⟩:=h
 exact DVop.tm_ hm ht (DOp.lenm_ hop hx ⟨m,L1,L2,hH,h1,rfl,rfl⟩) h2
theorem DOp.slicet_ {t:TypeId} {x y:Operand} {v:Value} {l:List V} {k:IntKind} {m:Int} (hop:o.op = .slice t x (some y) none none) (hx:f x = .gs v l) (hy:f y = .int k m)
  (h:OnT H v fun sz C=>((ty P t).kind=4/\(ty P (ty P t).elem).kind≠0/\(ty P (ty P t).elem).kind≠11/\(ty P (ty P t).elem).size=sz/\0<=m/\m<=l.length/\∀ z∈l,z.n=sz)/\∀ v',K (.gs v' (l.drop m.toNat)) (C (.tail sz v'))):DOp P o f H K:=by
 obtain ⟨sz,L1,L2,rfl,⟨h1,h2,h3,h4,h5,h6,h7⟩,hk⟩:=h
 obtain ⟨mm,rfl⟩:∃ mm:Nat,m=mm:=⟨m.toNat,by omega⟩
 simp only [Int.toNat_natCast] at hk
 refine DOp.step fun a w hs hr=>?_
 have hv:=hr x (by simp [hop,Op.operands])
 have hyv:=hr y (by simp [hop,Op.operands])
 rw [hx] at hv
 rw [hy] at hyv
 have hey:a.eval y = .int k mm:=by generalize a.eval y=u at hyv;cases hyv;rfl
 clear hyv
 generalize hva:a.eval x=u at hv
 cases hv with
 | gs _ _ hsl =>
 cases hsl with
 | sl A n cap _ sz' hn hc ha r1 r2 r3 r4 =>
 have hmn:mm<=n:=by omega
 have hu:=zaQ h1
 have hrun:(Instr.sliceAt t (a.eval x) ((some y).map a.eval) ((none:Option Operand).map a.eval) none).run P w = .ok (.slice (if cap=mm then A else A.map (·.add (mm * sz))) (n - mm) (cap - mm)) w:=by
  rw [hva]
  simp [Instr.sliceAt,Instr.slice,Sem.run_bind,run_underlying hu,Result.andThen,Instr.sliceBounds,hey,Instr.sliceBound,asIntOf,hmn,za5 h2 h3,h4]
 have hsz:∀ i,i<l.length->(l.getD i .any).n=sz:=fun i hi=>h7 _ (by rw [List.getD_eq_getElem?_getD,List.getElem?_eq_getElem hi];exact List.getElem_mem hi)
 have hh:=hs.holds (.tail sz (.slice A n cap)) (by simp)
 have hsw:=Sim.swap (w':=w) (e1:=.tail sz (.slice (if cap=mm then A else A.map (·.add (mm * sz))) (n - mm) (cap - mm))) hs rfl rfl rfl (Nat.le_refl _) (fun _ _ _=>rfl) (fun _ _ _=>rfl) (fun b h=>by
  cases A with
  | none=>split at h<;>exact h.elim
  | some p =>
   by_cases hcm:cap=mm
   · rw [if_pos hcm] at h;exact absurd h.2 (by omega)
   · rw [if_neg hcm] at h
     refine .inl ⟨?_,by omega⟩
     rw [h.1]
     show (Addr.add p (mm * sz)).block=_
     unfold Addr.add;split<;>rfl) (fun q h=>by
  cases A with
  | none=>split at h<;>exact h.elim
  | some p =>
   by_cases hcm:cap=mm
   · rw [if_pos hcm] at h
     obtain ⟨_,g1,g2⟩:=h
     have e1:(n - mm) * sz=0:=by rw [show n - mm=0 by omega,Nat.zero_mul]
     have e2:(cap - mm) * sz=0:=by rw [show cap - mm=0 by omega,Nat.zero_mul]
     omega
   · rw [if_neg hcm] at h
     obtain ⟨g0,g1,g2⟩:=h
     obtain ⟨s1,s2⟩:=hh
     obtain ⟨s0,_⟩:=s2 (by omega)
     dsimp only [Option.map] at g0 g1 g2
     rw [zbh p _ s0] at g0 g1 g2
     dsimp only at g0 g1 g2
     have e1:mm * sz+(n - mm) * sz=n * sz:=by rw [<-Nat.add_mul];congr 1;omega
     have e2:mm * sz+(cap - mm) * sz=cap * sz:=by rw [<-Nat.add_mul];congr 1;omega
     exact .inl ⟨g0,by omega,by omega⟩) (fun hst=>by
  cases A with
  | none =>
   obtain ⟨q1,q2⟩:=hh
   have e:(if cap=mm then (none:Option Addr) else (none:Option Addr).map (·.add (mm * sz)))=none:=by split<;>rfl
   rw [e]
   exact ⟨by omega,by omega⟩
  | some p =>
   obtain ⟨s1,s2⟩:=hh
   by_cases hcm:cap=mm
   · rw [if_pos hcm];exact ⟨by omega,fun h=>absurd h (by omega)⟩
   · rw [if_neg hcm]
     obtain ⟨s0,xs,T,fr,g1,g2,g3⟩:=s2 (by omega)
     show (_<=_)/\_
     simp only [zbh p _ s0]
     have e1:mm * sz+(n - mm) * sz=n * sz:=by rw [<-Nat.add_mul];congr 1;omega
     have e2:mm * sz+(cap - mm) * sz=cap * sz:=by rw [<-Nat.add_mul];congr 1;omega
     refine ⟨by omega,fun _=>⟨trivial,xs,T,fr,g1,?_,by omega⟩⟩
     rw [Nat.add_assoc,Nat.add_assoc,e1,e2];exact g2)
 refine ⟨.slice (if cap=mm then A else A.map (·.add (mm * sz))) (n - mm) (cap - mm),w, .gs (.slice (if cap=mm then A else A.map (·.add (mm * sz))) (n - mm) (cap - mm)) (l.drop mm),_,?_,hsw,?_,hk _⟩
 · unfold execOp
   rw [hop]
   simp only [Option.map_none,Option.map_some] at hrun ⊢
   rw [Sem.run_bind,hrun]
   rfl
 · refine .gs _ _ (R.mono (.sl _ _ _ (l.drop mm) sz (by rw [List.length_drop];omega) (by omega) (fun h=>?_) (fun b h hne=>?_) (fun i hi=>?_) (fun b i q hb hi hq=>?_) (fun b i q hb hi hq=>?_)) hsw.2.cells)
   · cases A with
     | none=>rw [ha rfl];simp
     | some p=>split at h<;>cases h
   · have hl:l≠[]:=fun e=>hne (by rw [e];simp)
     have hlt:mm<l.length:=by
      rcases Nat.lt_or_ge mm l.length with h8 | h8
      · exact h8
      · exact absurd (List.drop_eq_nil_of_le h8) hne
     cases A with
     | none=>exact absurd (ha rfl) hl
     | some p =>
      rw [if_neg (by omega)] at h
      injection h with h;subst h
      dsimp only
      rw [zbh p _ (r1 p rfl hl)]
   · rw [List.length_drop] at hi
     rw [show (l.drop mm).getD i V.any=l.getD (mm+i) .any by rw [List.getD_eq_getElem?_getD,List.getElem?_drop,<-List.getD_eq_getElem?_getD]]
     exact hsz _ (by omega)
   · rw [List.length_drop] at hi
     have hl:l≠[]:=fun e=>by rw [e] at hi;simp at hi
     cases A with
     | none=>exact absurd (ha rfl) hl
     | some p =>
      rw [if_neg (by omega)] at hb
      injection hb with hb;subst hb
      dsimp only
      rw [zbh p _ (r1 p rfl hl)]
      have hsz':sz'=sz:=by rw [<-r2 0 (List.length_pos_iff.2 hl)];exact hsz 0 (List.length_pos_iff.2 hl)
      have:=r3 p (mm+i) q rfl (by omega) (by omega)
      rw [hsz',Nat.add_mul,<-Nat.add_assoc] at this
      exact this
   · rw [List.length_drop] at hi
     have hl:l≠[]:=fun e=>by rw [e] at hi;simp at hi
     cases A with
     | none=>exact absurd (ha rfl) hl
     | some p =>
      rw [if_neg (by omega)] at hb
      injection hb with hb;subst hb
      dsimp only
      rw [zbh p _ (r1 p rfl hl)]
      have hsz':sz'=sz:=by rw [<-r2 0 (List.length_pos_iff.2 hl)];exact hsz 0 (List.length_pos_iff.2 hl)
      have:=r4 p (mm+i) q rfl (by omega) (by omega)
      rw [hsz',Nat.add_mul,<-Nat.add_assoc] at this
      rw [show (l.drop mm).getD i V.any=l.getD (mm+i) .any by rw [List.getD_eq_getElem?_getD,List.getElem?_drop,<-List.getD_eq_getElem?_getD]]
      exact this
end
end
section
section
variable {P:Program} {o:Oper} {f:Operand->V} {H:Own} {K:V->Own->Prop}
end
end
section
theorem zfw {xs:Array Value} (h:xs.size=1):∃ a,xs = #[a]:=by
 obtain ⟨l⟩:=xs
 match l,h with
 | [a],_=>exact ⟨a,rfl⟩
section
variable {P:Program} {ρ : Go.Shelf.Ren}
def sortedI (l:List Int):List Int:=l.mergeSort fun x y=>decide (x<=y)
end
end
section
open Go.Shelf Go.RowKit
def zm0:Go.Shelf.Ren:=⟨fun | 189=>103 | 125=>163 | 257=>162 | 128=>219 | 129=>220 | 294=>210 | 295=>211 | 296=>212 | 297=>213 | 298=>214 | 299=>215 | 216=>216 | 300=>217 | 301=>218 | 328=>254 | 329=>255 | 330=>256 | 331=>257 | 332=>258 | 215=>259 | 343=>282 | n=>n,fun | 28=>27 | 3=>3 | 46=>221 | 0=>0 | 51=>281 | 53=>283 | 4=>4 | 183=>274 | 182=>273 | 131=>148 | 5=>5 | 9=>9 | 218=>315 | 222=>319 | 228=>334 | 229=>335 | n=>n,fun | n=>n⟩
theorem laySi:Go.Proofs.Lays.n189 Tryz.prog zm0:={
 mixed:=by kernel_rfl
 f125:=Tryz.func163.trans (congrArg some (by kernel_rfl))
 f128:=Tryz.func219.trans (congrArg some (by kernel_rfl))
 f129:=Tryz.func220.trans (congrArg some (by kernel_rfl))
 f189:=Tryz.func103.trans (congrArg some (by kernel_rfl))
 f215:=Tryz.func259.trans (congrArg some (by kernel_rfl))
 f216:=Tryz.func216.trans (congrArg some (by kernel_rfl))
 f257:=Tryz.func162.trans (congrArg some (by kernel_rfl))
 f294:=Tryz.func210.trans (congrArg some (by kernel_rfl))
 f295:=Tryz.func211.trans (congrArg some (by kernel_rfl))
 f296:=Tryz.func212.trans (congrArg some (by kernel_rfl))
 f297:=Tryz.func213.trans (congrArg some (by kernel_rfl))
 f298:=Tryz.func214.trans (congrArg some (by kernel_rfl))
 f299:=Tryz.func215.trans (congrArg some (by kernel_rfl))
 f300:=Tryz.func217.trans (congrArg some (by kernel_rfl))
 f301:=Tryz.func218.trans (congrArg some (by kernel_rfl))
 f328:=Tryz.func254.trans (congrArg some (by kernel_rfl))
 f329:=Tryz.func255.trans (congrArg some (by kernel_rfl))
 f330:=Tryz.func256.trans (congrArg some (by kernel_rfl))
 f331:=Tryz.func257.trans (congrArg some (by kernel_rfl))
 f332:=Tryz.func258.trans (congrArg some (by kernel_rfl))
 f343:=Tryz.func282.trans (congrArg some (by kernel_rfl))
 t0:=Tryz.underlying0
 a0:=Tryz.isAgg0
 z0:=Tryz.sizeOf0
 v0:=Tryz.zeroValue0
 t3:=Tryz.underlying3
 a3:=Tryz.isAgg3
 z3:=Tryz.sizeOf3
 v3:=Tryz.zeroValue3
 t4:=Tryz.underlying4
 a4:=Tryz.isAgg4
 z4:=Tryz.sizeOf4
 v4:=Tryz.zeroValue4
 t5:=Tryz.underlying5
 a5:=Tryz.isAgg5
 z5:=Tryz.sizeOf5
 v5:=Tryz.zeroValue5
 t9:=Tryz.underlying9
 a9:=Tryz.isAgg9
 z9:=Tryz.sizeOf9
 v9:=Tryz.zeroValue9
 t28:=Tryz.underlying27
 a28:=Tryz.isAgg27
 z28:=Tryz.sizeOf27
 v28:=Tryz.zeroValue27
 t46:=Tryz.underlying221
 a46:=Tryz.isAgg221
 z46:=Tryz.sizeOf221
 v46:=Tryz.zeroValue221
 t51:=Tryz.underlying281
 a51:=Tryz.isAgg281
 z51:=Tryz.sizeOf281
 v51:=Tryz.zeroValue281
 t53:=Tryz.underlying283
 a53:=Tryz.isAgg283
 z53:=Tryz.sizeOf283
 v53:=Tryz.zeroValue283
 t131:=Tryz.underlying148
 a131:=Tryz.isAgg148
 z131:=Tryz.sizeOf148
 v131:=Tryz.zeroValue148
 t182:=Tryz.underlying273
 a182:=Tryz.isAgg273
 z182:=Tryz.sizeOf273
 v182:=Tryz.zeroValue273
 t183:=Tryz.underlying274
 a183:=Tryz.isAgg274
 z183:=Tryz.sizeOf274
 v183:=Tryz.zeroValue274
 t218:=Tryz.underlying315
 a218:=Tryz.isAgg315
 z218:=Tryz.sizeOf315
 v218:=Tryz.zeroValue315
 t222:=Tryz.underlying319
 a222:=Tryz.isAgg319
 z222:=Tryz.sizeOf319
 v222:=Tryz.zeroValue319
 t228:=Tryz.underlying334
 a228:=Tryz.isAgg334
 z228:=Tryz.sizeOf334
 v228:=Tryz.zeroValue334
 t229:=Tryz.underlying335
 a229:=Tryz.isAgg335
 z229:=Tryz.sizeOf335
 v229:=Tryz.zeroValue335 }
end
end Go.Proofs.YtgekknefphagbaaGreatDoor
