/- Maps that are owned, as lists of pairs: looked up, written, deleted from, counted, gone through. No statement of the program. -/
import Derived.Test.YtgekknefphagbaaGreatDoorEqx
import Derived.Maps.RangeRun
import Derived.Test.YtgekknefphagbaaGreatDoorGzx
import Derived.Shelf.SlSortCmp.WholeK
import Derived.Test.YtgekknefphagbaaGreatDoorProg
namespace Go.Proofs.YtgekknefphagbaaGreatDoor
open Go.RowKit
set_option linter.unusedSimpArgs false
set_option linter.unusedVariables false
set_option linter.unusedSectionVars false
section
section
variable {α β:Type} [DecidableEq α]
def lookA (k:α):List (α×β)->Option β
 | x::m=>if k=x.1 then some x.2 else lookA k m
 | []=>none
def updA (k:α) (v:β):List (α×β)->List (α×β)
 | x::m=>if k=x.1 then (x.1,v)::m else x::updA k v m
 | []=>[(k,v)]
def za0 (k:α):List (α×β)->List (α×β)
 | x::m=>if k=x.1 then m else x::za0 k m
 | []=>[]
def entM (ek:α->V) (ev:β->V) (l:List (α×β)):List (V×V):=l.map fun x=>(ek x.1,ev x.2)
theorem zax (ek:α->V) (ev:β->V):entM ek ev []=[]:=rfl
theorem za2 (ek:α->V) (ev:β->V) (l:List (α×β)):(entM ek ev l).length=l.length:=List.length_map ..
structure KeyE (ks:List Nat) (g:Bool) (ek:α->V):Prop where
 eq:∀ a b,eqLS ks (ek a).cs (ek b).cs
 dec:∀ a b,eqL (ek a).cs (ek b).cs=decide (a=b)
 shape:∀ a,(g=true->ek a = .agg (ek a).cs)/\(g=false->(ek a).cs=[ek a])
variable {ks:List Nat} {g:Bool} {ek:α->V} {ev:β->V}
theorem zhY (h:KeyE ks g ek) (a:α):∀ l:List (α×β),zec (ek a) (entM ek ev l)=(lookA a l).map ev
 | []=>rfl
 | x::l=>by
  have ih:=zhY h a l
  unfold entM at ih ⊢
  rw [List.map_cons]
  unfold zec lookA
  rw [h.dec]
  by_cases e:a=x.1
  · rw [if_pos (decide_eq_true e),if_pos e];rfl
  · rw [if_neg (by simp [e]),if_neg e];exact ih
theorem zjO (h:KeyE ks g ek) (a:α) (v:β):∀ l:List (α×β),updV (ek a) (ev v) (entM ek ev l)=entM ek ev (updA a v l)
 | []=>rfl
 | x::l=>by
  have ih:=zjO h a v l
  unfold entM at ih ⊢
  rw [List.map_cons]
  unfold updV updA
  rw [h.dec]
  by_cases e:a=x.1
  · rw [if_pos (decide_eq_true e),if_pos e];rfl
  · rw [if_neg (by simp [e]),if_neg e,List.map_cons,ih]
theorem zhF (h:KeyE ks g ek) (a:α):∀ l:List (α×β),zgP (ek a) (entM ek ev l)=entM ek ev (za0 a l)
 | []=>rfl
 | x::l=>by
  have ih:=zhF h a l
  unfold entM at ih ⊢
  rw [List.map_cons]
  unfold zgP za0
  rw [h.dec]
  by_cases e:a=x.1
  · rw [if_pos (decide_eq_true e),if_pos e]
  · rw [if_neg (by simp [e]),if_neg e,List.map_cons,ih]
def mapT (P:Program) (t:TypeId):Option (List Nat×Bool):=if (ty P t).kind=8 then (keyT P (ty P t).key).map fun ks=>(ks,(ty P (ty P t).key).agg) else none
theorem zel {P:Program} {t:TypeId} (h:KeyE ks g ek) (a:α) (l:List (α×β)) (ht:mapT P t=some (ks,g)):KeyS P t (ek a) (entM ek ev l):=by
 unfold mapT at ht
 split at ht
 · rename_i h8
   cases hk:keyT P (ty P t).key with
   | none=>rw [hk] at ht;cases ht
   | some ks' =>
    rw [hk] at ht
    simp only [Option.map_some,Option.some.injEq,Prod.mk.injEq] at ht
    obtain ⟨rfl,rfl⟩:=ht
    refine ⟨h8,?_,?_⟩
    · rw [hk]
      refine ⟨h.eq a a,fun x hx=>?_⟩
      obtain ⟨y,_,rfl⟩:=List.mem_map.1 hx
      exact h.eq a y.1
    · refine ⟨fun hg=>⟨(h.shape a).1 hg,fun x hx=>?_⟩,fun hg=>⟨(h.shape a).2 hg,fun x hx=>?_⟩⟩
      · obtain ⟨y,_,rfl⟩:=List.mem_map.1 hx;exact (h.shape y.1).1 hg
      · obtain ⟨y,_,rfl⟩:=List.mem_map.1 hx;exact (h.shape y.1).2 hg
 · cases ht
theorem ze9 {P:Program} {t:TypeId} (h:KeyE ks g ek) (a:α) (ht:mapT P t=some (ks,g)):KeyS P t (ek a) []:=zel (β:=α) (ev:=ek) h a [] ht
end
theorem strE:KeyE [3] false V.str:=⟨fun a b=>⟨rfl,trivial⟩,fun a b=>by rw [Bool.eq_iff_iff];simp [V.cs,eqL],fun a=>⟨(fun h=>nomatch h),fun _=>rfl⟩⟩
theorem intE (k:IntKind):KeyE [2] false (V.int k):=⟨fun a b=>⟨⟨rfl,rfl⟩,trivial⟩,fun a b=>by rw [Bool.eq_iff_iff];simp [V.cs,eqL],fun a=>⟨(fun h=>nomatch h),fun _=>rfl⟩⟩
section
variable {α β:Type} [DecidableEq α]
theorem zbF {k:α}:∀ {l:List (α×β)},lookA k l=none↔∀ x∈l,k≠x.1
 | []=>⟨fun _ _ h=>(nomatch h),fun _=>rfl⟩
 | x::l=>by
  unfold lookA
  by_cases e:k=x.1
  · rw [if_pos e];exact ⟨(fun h=>nomatch h),fun h=>absurd e (h x List.mem_cons_self)⟩
  · rw [if_neg e,zbF]
    exact ⟨fun h y hy=>by
     rcases List.mem_cons.1 hy with rfl | hy
     · exact e
     · exact h y hy,fun h y hy=>h y (List.mem_cons_of_mem _ hy)⟩
theorem zcP {k:α} {v:β}:∀ {l:List (α×β)},lookA k l=some v->(k,v)∈l
 | [],h=>by cases h
 | x::l,h=>by
  unfold lookA at h
  by_cases e:k=x.1
  · rw [if_pos e] at h;injection h with h;subst h;subst e;exact List.mem_cons_self
  · rw [if_neg e] at h;exact List.mem_cons_of_mem _ (zcP h)
theorem zdQ {k:α} {v:β}:∀ {l:List (α×β)},(l.map (·.1)).Nodup->(k,v)∈l->lookA k l=some v
 | [],_,h=>(nomatch h)
 | x::l,hn,h=>by
  unfold lookA
  rw [List.map_cons,List.nodup_cons] at hn
  rcases List.mem_cons.1 h with rfl | h
  · rw [if_pos rfl]
  · rw [if_neg,zdQ hn.2 h]
    rintro rfl
    exact hn.1 (List.mem_map.2 ⟨_,h,rfl⟩)
theorem zc2 {k:α} {v:β}:∀ {l:List (α×β)},lookA k l=none->updA k v l=l++[(k,v)]
 | [],_=>rfl
 | x::l,h=>by
  unfold lookA at h
  unfold updA
  by_cases e:k=x.1
  · rw [if_pos e] at h;cases h
  · rw [if_neg e] at h ⊢
    rw [zc2 h];rfl
theorem zdp {k j:α} {v:β}:∀ {l:List (α×β)},lookA j (updA k v l)=if j=k then some v else lookA j l
 | []=>by
  unfold updA lookA lookA
  rfl
 | x::l=>by
  unfold updA
  by_cases e:k=x.1
  · rw [if_pos e]
    unfold lookA
    by_cases hj:j=x.1
    · rw [if_pos hj,if_pos (hj.trans e.symm)]
    · rw [if_neg hj,if_neg (fun h=>hj (h.trans e)),if_neg hj]
  · rw [if_neg e]
    unfold lookA
    by_cases hj:j=x.1
    · rw [if_pos hj,if_neg (fun h=>e (h.symm.trans hj)),if_pos hj]
    · rw [if_neg hj,zdp,if_neg hj]
theorem ziP {k:α} {v:β}:∀ {l:List (α×β)} {j:α},j∈(updA k v l).map (·.1)↔j=k\/j∈l.map (·.1)
 | [],j=>by simp [updA]
 | x::l,j=>by
  unfold updA
  by_cases e:k=x.1
  · rw [if_pos e]
    simp only [List.map_cons,List.mem_cons]
    rw [e]
    exact ⟨fun h=>.inr h,fun h=>h.elim (fun h=>.inl h) id⟩
  · rw [if_neg e,List.map_cons,List.map_cons,List.mem_cons,List.mem_cons,ziP]
    exact ⟨fun h=>by rcases h with h | h | h<;>simp [h],fun h=>by rcases h with h | h | h<;>simp [h]⟩
theorem zdt {k:α} {v:β}:∀ {l:List (α×β)},(l.map (·.1)).Nodup->((updA k v l).map (·.1)).Nodup
 | [],_=>by simp [updA]
 | x::l,h=>by
  unfold updA
  by_cases e:k=x.1
  · rw [if_pos e];exact h
  · rw [if_neg e,List.map_cons,List.nodup_cons,ziP]
    rw [List.map_cons,List.nodup_cons] at h
    exact ⟨fun hm=>by
     rcases hm with hm | hm
     · exact e hm.symm
     · exact h.1 hm,zdt h.2⟩
theorem dropA_sub {k:α}:∀ {l:List (α×β)},(za0 k l).Sublist l
 | []=>List.Sublist.refl _
 | x::l=>by
  unfold za0
  split
  · exact List.sublist_cons_self _ _
  · exact (dropA_sub (l:=l)).cons_cons _
theorem zdx {k:α} {l:List (α×β)} (h:(l.map (·.1)).Nodup):((za0 k l).map (·.1)).Nodup:=h.sublist (dropA_sub.map _)
theorem zgj {k:α}:∀ {l:List (α×β)},(l.map (·.1)).Nodup->∀ x,x∈za0 k l↔x∈l/\x.1≠k
 | [],_,x=>by simp [za0]
 | y::l,h,x=>by
  rw [List.map_cons,List.nodup_cons] at h
  unfold za0
  by_cases e:k=y.1
  · rw [if_pos e,List.mem_cons]
    constructor
    · intro hx
      refine ⟨.inr hx,fun hk=>h.1 ?_⟩
      rw [<-e,<-hk];exact List.mem_map.2 ⟨x,hx,rfl⟩
    · rintro ⟨rfl | hx,hk⟩
      · exact absurd e.symm hk
      · exact hx
  · rw [if_neg e,List.mem_cons,List.mem_cons,zgj h.2]
    constructor
    · rintro (rfl | ⟨hx,hk⟩)
      · exact ⟨.inl rfl,fun hk=>e hk.symm⟩
      · exact ⟨.inr hx,hk⟩
    · rintro ⟨rfl | hx,hk⟩
      · exact .inl rfl
      · exact .inr ⟨hx,hk⟩
theorem zeh {k j:α} {l:List (α×β)} (h:(l.map (·.1)).Nodup):lookA j (za0 k l)=if j=k then none else lookA j l:=by
 by_cases e:j=k
 · subst e
   rw [if_pos rfl,zbF]
   exact fun x hx hk=>((zgj h x).1 hx).2 hk.symm
 · rw [if_neg e]
   cases hl:lookA j l with
   | none =>
    rw [zbF] at hl ⊢
    exact fun x hx=>hl x (dropA_sub.subset hx)
   | some v=>exact zdQ (zdx h) ((zgj h _).2 ⟨zcP hl,e⟩)
end
theorem zkH (a:Array MapEntry) (i:Nat):a.getD i default=a.toList.getD i default:=by simp [Array.getD_eq_getD_getElem?,List.getD_eq_getElem?_getD]
theorem zfm {α:Type} (d:α) (l:List α) (j k:Nat):(l.eraseIdx j).getD k d=l.getD (if k<j then k else k+1) d:=by
 rw [List.getD_eq_getElem?_getD,List.getElem?_eraseIdx]
 split<;>simp [List.getD_eq_getElem?_getD]
section
variable {P:Program} {o:Oper} {f:Operand->V} {H:Own} {K:V->Own->Prop}
theorem DVop.look_ {e:Env} {mv tm:List Nat} {ops:Array Oper} {K:Env->Own->Prop} {i:Nat} {rest:List Oper} {t:TypeId} {x ix:Operand} {ok:Bool} {r:Nat} (hm:mv.contains i=false) (ht:tm.contains i=true) (hop:o.op = .lookup t x ix ok) (hx:opd e x = .raw (.map (some r)))
  (h:OnM H r fun m _=>(KeyS P t (opd e ix) m/\(ty P (ty P t).elem).kind≠0/\(ty P (ty P t).elem).kind≠11/\(ty P (ty P t).elem).zero≠[]) /\
    FD P (mv++tm) ops (fun i' l' e'=>DV P mv tm ops K i' l' e' H) (i+1) rest (putO e o.dst (if ok=true then .tup [(zec (opd e ix) m).getD (zfB P (ty P t).elem), .bool (zec (opd e ix) m).isSome] else (zec (opd e ix) m).getD (zfB P (ty P t).elem)))):DVop P mv tm ops K i o rest e H:=by
 obtain ⟨m,L1,L2,hH,h1,h2⟩:=h
 exact DVop.tm_ hm ht (DOp.look_ hop hx ⟨m,L1,L2,hH,h1,rfl,rfl⟩) h2
theorem DOp.lenm_ {x:Operand} {T:TypeId} {r:Nat} (hop:o.op = .call { callee:=.builtin .len,args:=#[x],argTypes:=#[T] }) (hx:f x = .raw (.map (some r)))
  (h:OnM H r fun m _=>(ty P T).kind=8/\K (.int .i64 m.length) H):DOp P o f H K:=by
 obtain ⟨m,L1,L2,rfl,h8,hk⟩:=h
 refine DOp.step fun a w hs hr=>?_
 have hv:=hr x kxb6
 rw [hx] at hv
 have hv:a.eval x = .map (some r):=by generalize a.eval x=v at hv;cases hv;rfl
 obtain ⟨es,clock,g1,g2,g3,_,_⟩:=ziD hs
 refine ⟨goInt es.size,w,_,_,?_,⟨hs, .refl _ _⟩,?_,hk⟩
 · unfold execOp
   rw [hop]
   have hget:(getObj r).run P w = .ok (.map es clock) w:=by simp [getObj,Sem.run,g1]
   simp [resolve,invoke,Go.builtin,Builtin.len_,hv,run_underlying (zhv h8),hget]
 · rw [g3];exact .int _ _
theorem DOp.delm_ {x ix:Operand} {t T:TypeId} {r:Nat} (hop:o.op = .call { callee:=.builtin .delete,args:=#[x,ix],argTypes:=#[t,T] }) (hx:f x = .raw (.map (some r)))
  (h:OnM H r fun m C=>KeyS P t (f ix) m/\K (.tup []) (C (.map r (zgP (f ix) m)))):DOp P o f H K:=by
 obtain ⟨m,L1,L2,rfl,hK,hk⟩:=h
 refine DOp.step fun a w hs hr=>?_
 have hv:=hr x kxb6
 rw [hx] at hv
 have hv:a.eval x = .map (some r):=by generalize a.eval x=v at hv;cases hv;rfl
 have hi:=hr ix kxb6
 obtain ⟨es,clock,g1,g2,g3,g4,g5⟩:=ziD hs
 obtain ⟨ks,hu,_,k1,k2⟩:=hK.parts
 have hck:=hK.check hi es.isEmpty
 have hfi:=hK.find hi g2
 have hget:(getObj r).run P w = .ok (.map es clock) w:=by simp [getObj,Sem.run,g1]
 have hset:∀ o':Obj,(setObj r o').run P w = .ok () { w with heap:=w.heap.setIfInBounds r o' }:=fun o'=>by simp [setObj,Sem.run,g1]
 have hdr:=zhf (kd:=f ix) m 0
 cases hp:zbU (f ix) m 0 with
 | none =>
  rw [hp] at hfi hdr
  simp only at hdr
  refine ⟨.tuple #[],_,_,_,?_,Sim.turn (m':=zgP (f ix) m) (es':=es) (clock':=clock) hs g1 (by rw [hdr];exact g2) g4 g5, .tup _ _ rfl (fun _ h=>absurd h (Nat.not_lt_zero _)),hk⟩
  unfold execOp
  rw [hop]
  simp [resolve,invoke,Go.builtin,Builtin.delete_,hv,run_underlying hu,hget,hck,hfi,hset]
 | some j =>
  rw [hp] at hfi hdr
  simp only [Nat.sub_zero] at hdr
  obtain ⟨_,j2,_⟩:=zd6 m 0 j hp
  have hj:j<es.size:=by omega
  have hgd:∀ i,i<es.size - 1->((es.eraseIdxIfInBounds j).getD i default)=es.getD (if i<j then i else i+1) default:=fun i hi=>by
   have e:(es.eraseIdxIfInBounds j).toList=es.toList.eraseIdx j:=by rw [Array.eraseIdxIfInBounds,dif_pos hj];simp
   rw [zkH,zkH,e,zfm]
  have hsz:(es.eraseIdxIfInBounds j).size=es.size - 1:=by rw [Array.eraseIdxIfInBounds,dif_pos hj];simp
  refine ⟨.tuple #[],_,_,_,?_,Sim.turn (m':=zgP (f ix) m) (es':=es.eraseIdxIfInBounds j) (clock':=clock) hs g1 ?_ ?_ ?_, .tup _ _ rfl (fun _ h=>absurd h (Nat.not_lt_zero _)),hk⟩
  · unfold execOp
    rw [hop]
    simp [resolve,invoke,Go.builtin,Builtin.delete_,hv,run_underlying hu,hget,hck,hfi,hset]
  · rw [hdr]
    have e:(es.eraseIdxIfInBounds j).toList=es.toList.eraseIdx j:=by rw [Array.eraseIdxIfInBounds,dif_pos hj];simp
    rw [e]
    exact RM.erase j g2
  · intro i k hik hk'
    rw [hsz] at hk'
    rw [hgd i (by omega),hgd k hk']
    refine g4 _ _ ?_ ?_
    · split<;>split<;>omega
    · split<;>omega
  · intro i hi'
    rw [hsz] at hi'
    rw [hgd i hi']
    refine g5 _ ?_
    split<;>omega
end
theorem zaG (o:Option Bool):(o.map V.bool).getD (.bool false) = .bool (o.getD false):=by cases o<;>rfl
theorem zaV (k:IntKind) (o:Option Int):(o.map (V.int k)).getD (.int k 0) = .int k (o.getD 0):=by cases o<;>rfl
theorem za7 {α:Type} (f:α->V) (o:Option α):(o.map f).isSome=o.isSome:=by cases o<;>rfl
theorem za9 (kd:V):zec kd []=none:=rfl
theorem zaW (kd vd:V):updV kd vd []=[(kd,vd)]:=rfl
section
variable {β:Type} {ev:β->V} {P:Program} {t:TypeId}
theorem za8 (s:List UInt8) (l:List (List UInt8×β)):zec (.str s) (entM V.str ev l)=(lookA s l).map ev:=zhY strE s l
theorem zaL (s:List UInt8) (v:β) (l:List (List UInt8×β)):updV (.str s) (ev v) (entM V.str ev l)=entM V.str ev (updA s v l):=zjO strE s v l
theorem za3 (s:List UInt8) (l:List (List UInt8×β)):zgP (.str s) (entM V.str ev l)=entM V.str ev (za0 s l):=zhF strE s l
end
end
section
section
variable {P:Program} {o:Oper} {f:Operand->V} {H:Own} {K:V->Own->Prop}
theorem DOp.rangem_ {t:TypeId} {x:Operand} {mr:Nat} (hop:o.op = .range t x) (hx:f x = .raw (.map (some mr)))
  (h:OnM H mr fun m C=>(ty P t).kind=8/\∀ r,K (.raw (.pointer (some ⟨r,0,none⟩))) (C (.miter r mr m m []))):DOp P o f H K:=by
 obtain ⟨m,L1,L2,rfl,h8,hk⟩:=h
 refine DOp.step fun a w hs hr=>?_
 have hv:=hr x kxcl
 rw [hx] at hv
 have hv:a.eval x = .map (some mr):=by generalize a.eval x=v at hv;cases hv;rfl
 obtain ⟨es,clock,g1,g2,g3,g4,g5⟩:=ziD hs
 have hlt:mr<w.heap.size:=(Array.getElem?_eq_some_iff.1 g1).1
 have hget:(getObj mr).run P w = .ok (.map es clock) w:=by simp [getObj,Sem.run,g1]
 have hsw:=Sim.swap (w':=w.alloc (.mapIter (some mr) clock #[] clock)) (e0:=.map mr m) (e1:=.miter w.heap.size mr m m []) hs rfl rfl rfl (by simp) (fun b hb _=>Below.heap_alloc w _ b hb) (fun q hq _=>by
  obtain ⟨v,hv⟩:=Option.isSome_iff_exists.1 hq
  exact World.cell?_of_block (w:=w) (Below.heap_alloc w _ q.block (World.block_lt_of_cell? w q hv))) (fun b hb=>by
  rcases hb with rfl | rfl
  · exact .inr (Nat.le_refl _)
  · exact .inl rfl) (fun q hq=>by
  rcases hq with hq | hq
  · exact .inr (by rw [hq];exact Nat.le_refl _)
  · exact .inl hq) (fun hst=>by
  obtain ⟨b1,b2⟩:=(g2.mono hst).back
  have hf:(es.toList.filter fun e=>!(#[]:Array Nat).contains e.born)=es.toList:=List.filter_eq_self.2 fun e _=>by simp
  refine ⟨es,clock,?_,by simpa using b1,fun k hk=>?_,g4,g5,#[],heap_alloc_new w _,by rw [hf];simpa using b1,fun k hk=>by rw [hf];exact b2 k hk,fun x hx=>(nomatch hx)⟩
  · rw [Below.heap_alloc w _ mr hlt];exact g1
  · simpa [Array.getD_eq_getD_getElem?,List.getD_eq_getElem?_getD] using b2 k hk)
 refine ⟨.pointer (some ⟨w.heap.size,0,none⟩),_,_,_,?_,hsw, .raw _,hk _⟩
 unfold execOp
 rw [hop]
 simp [Instr.range,hv,run_underlying (zhv h8),hget]
def OnG (H:Own) (r:Nat) (G:Nat->List (V×V)->List (V×V)->List (V×V)->(Ent->Own)->Prop):Prop:=∃ mr m left cur,On H (.miter r mr m left cur) (G mr m left cur)
theorem OnG.here {H:Own} {r mr:Nat} {m left cur:List (V×V)} {G:Nat->List (V×V)->List (V×V)->List (V×V)->(Ent->Own)->Prop} (h:G mr m left cur fun x=>x::H):OnG (.miter r mr m left cur::H) r G:=⟨mr,m,left,cur,On.here h⟩
theorem OnG.next {H:Own} {r:Nat} {y:Ent} {G:Nat->List (V×V)->List (V×V)->List (V×V)->(Ent->Own)->Prop} (h:OnG H r fun mr m left cur C=>G mr m left cur fun x=>y::C x):OnG (y::H) r G:=by
 obtain ⟨mr,m,left,cur,h⟩:=h
 exact ⟨mr,m,left,cur,On.next h⟩
theorem OnM.skip {M H:Own} {r:Nat} {G:List (V×V)->(Ent->Own)->Prop} (h:OnM H r fun m C=>G m fun x=>M++C x):OnM (M++H) r G:=by
 obtain ⟨m,h⟩:=h
 exact ⟨m,On.skip h⟩
theorem zhC {w:World} {L1 L2:Own} {r mr:Nat} {m left cur:List (V×V)} (hs:Sim w (L1 ++ .miter r mr m left cur::L2)):(Ent.miter r mr m left cur).holds (stable w (L1 ++ .miter r mr m left cur::L2)) w:=hs.holds _ (by simp)
theorem zfn {es:Array MapEntry} (h:∀ i j,i<j->j<es.size->(es.getD i default).born<(es.getD j default).born):es.toList.Pairwise fun a b=>a.born<b.born:=by
 rw [List.pairwise_iff_getElem]
 intro i j hi hj hij
 have:=h i j hij (by simpa using hj)
 have hi':i<es.size:=by simpa using hi
 have hj':j<es.size:=by simpa using hj
 simpa [Array.getD_eq_getD_getElem?,hi',hj'] using this
theorem zgr:∀ {L:List MapEntry} (_:L.Pairwise fun a b=>a.born<b.born) {j:Nat} (hj:j<L.length),L.filter (fun x=>!(x.born==(L[j]'hj).born))=L.eraseIdx j
 | [],_,_,hj=>absurd hj (Nat.not_lt_zero _)
 | a::L,h,0,_=>by
  rw [List.pairwise_cons] at h
  rw [List.filter_cons]
  simp only [List.getElem_cons_zero,beq_self_eq_true,Bool.not_true,Bool.false_eq_true,if_false,List.eraseIdx_cons_zero]
  exact List.filter_eq_self.2 fun x hx=>by
   have:=h.1 x hx
   have:¬ x.born=a.born:=by omega
   simpa using this
 | a::L,h,j+1,hj=>by
  rw [List.pairwise_cons] at h
  have hj':j<L.length:=by simpa using hj
  have:=h.1 (L[j]) (List.getElem_mem hj')
  rw [List.filter_cons]
  simp only [List.getElem_cons_succ,List.eraseIdx_cons_succ]
  rw [if_pos (by have:¬ a.born=L[j].born:=by omega
                 simpa using this),zgr h.2 hj']
theorem ziX {L:List MapEntry} (h:L.Pairwise fun a b=>a.born<b.born) {j:Nat} {e:MapEntry} (he:L[j]? = some e):L.filter (fun x=>!(x.born==e.born))=L.eraseIdx j:=by
 obtain ⟨hj,rfl⟩:=List.getElem?_eq_some_iff.1 he
 exact zgr h hj
theorem DOp.nextm_ {x:Operand} {t:TypeId} {r:Nat} (hop:o.op = .next x false) (hx:f x = .raw (.pointer (some ⟨r,0,none⟩)))
  (h:OnG H r fun mr m left cur C=>Both (∀ l1 y l2,left=l1++y::l2->K (.tup [.bool true,y.1,y.2]) (C (.miter r mr m (l1++l2) [y]))) (left=[]->K (.tup [.bool false]) (C (.miter r mr m left cur)))):DOp P o f H K:=by
 obtain ⟨mr,m,left,cur,L1,L2,rfl,k1,k2⟩:=h
 refine DOp.step fun a w hs hr=>?_
 have hv:=hr x kxcl
 rw [hx] at hv
 have hv:a.eval x = .pointer (some ⟨r,0,none⟩):=by generalize a.eval x=v at hv;cases hv;rfl
 obtain ⟨es,clock,g1,g2,g3,g4,g5,seen,g6,g7,g8,g9⟩:=zhC hs
 have hne:r≠mr:=fun e=>by rw [e] at g6;rw [g6] at g1;cases g1
 have hlt:r<w.heap.size:=(Array.getElem?_eq_some_iff.1 g6).1
 have hold:∀ x∈es.toList,x.born<clock:=fun x hx=>by
  obtain ⟨i,hi,rfl⟩:=List.getElem_of_mem hx
  have hi':i<es.size:=by simpa using hi
  have:=g5 i hi'
  simpa [Array.getD_eq_getD_getElem?,hi'] using this
 have hlf:(leftOf es seen).toList=es.toList.filter fun e=>!seen.contains e.born:=by unfold leftOf;simp
 rcases run_next_at (P:=P) w o.type r mr clock clock seen es clock g6 g1 hold (Nat.le_refl _) with ⟨h0,hrun⟩ | ⟨e,he,w1,hw1,hrun⟩
 · have hl0:left=[]:=by
    rw [<-List.length_eq_zero_iff,<-g7,<-hlf];simpa using h0
   refine ⟨.tuple #[.bool false],w,_,_,?_,⟨hs, .refl _ _⟩, .tup _ _ rfl (fun k hk=>?_),k2 hl0⟩
   · unfold execOp
     rw [hop]
     simp [hv,hrun]
   · match k,hk with
     | 0,_=>exact .bool _
 · obtain ⟨j,hj,hej⟩:=List.getElem_of_mem he
   have hgo:∀ (w2:World),w2.os=w.os->w2.tape=w.tape->w2.output=w.output->w2.heap=w.heap->w.drawn<=w2.drawn->(Instr.next (.pointer (some ⟨r,0,none⟩)) false o.type).run P w = .ok (.tuple #[.bool true,e.key,e.val]) (Go.ChangeMaps.setBlock w2 r (.mapIter (some mr) clock (seen.push e.born) clock)) ->
     ∃ v w' d H',(execOp a.eval o).run P w = .ok (.value v) w'/\(Sim w' H'/\Ext w (L1 ++ .miter r mr m left cur::L2) w' H')/\R (stable w' H') w' v d/\K d H':=fun w2 e1 e2 e3 e4 e5 hrun=>by
    generalize hlg:(es.toList.filter fun e=>!seen.contains e.born)=lf at *
    have hj':j<lf.length:=by rw [<-hlf];exact hj
    have hej':lf[j]=e:=by rw [<-hej];simp only [hlf]
    have hjl:j<left.length:=by omega
    have hpw:lf.Pairwise fun a b=>a.born<b.born:=by rw [<-hlg];exact (zfn g4).filter _
    have hnf:(es.toList.filter fun x=>!(seen.push e.born).contains x.born)=lf.eraseIdx j:=by
     rw [<-ziX hpw (List.getElem?_eq_some_iff.2 ⟨hj',hej'⟩),<-hlg,List.filter_filter]
     congr 1
     funext x
     rw [Bool.eq_iff_iff]
     simp only [Bool.not_eq_true',Bool.and_eq_true,Array.contains_push,Bool.or_eq_false_iff]
     constructor
     · rintro ⟨p,q⟩;exact ⟨by simpa [BEq.comm] using q,p⟩
     · rintro ⟨p,q⟩;exact ⟨q,by simpa [BEq.comm] using p⟩
    have hy:=g8 j hjl
    have hye:lf.getD j default=e:=by simp [List.getD_eq_getElem?_getD,hj',hej']
    rw [hye] at hy
    have hsplit:left=left.take j++left.getD j (.any, .any)::left.drop (j+1):=by
     have h1:left.getD j (.any, .any)=left[j]:=by simp [List.getD_eq_getElem?_getD,hjl]
     rw [h1,<-List.drop_eq_getElem_cons hjl,List.take_append_drop]
    have hers:left.take j++left.drop (j+1)=left.eraseIdx j:=(List.eraseIdx_eq_take_drop_succ ..).symm
    have hk:=k1 _ _ _ hsplit
    rw [hers] at hk
    have hsw:=Sim.swap (w':=Go.ChangeMaps.setBlock w2 r (.mapIter (some mr) clock (seen.push e.born) clock)) (e0:=.miter r mr m left cur) (e1:=.miter r mr m (left.eraseIdx j) [left.getD j (.any, .any)]) hs e1 e2 e3 (by simp [Go.ChangeMaps.setBlock,e4])
     (fun b _ hb=>by
       simp only [Go.ChangeMaps.setBlock,Array.getElem?_setIfInBounds,e4]
       rw [if_neg (fun e=>hb (.inl e.symm))])
     (fun q _ hq=>by
       simp only [Go.ChangeMaps.setBlock,World.cell?,Array.getElem?_setIfInBounds,e4]
       rw [if_neg (fun e=>hq (.inl e.symm))])
     (fun b hb=>.inl hb) (fun q hq=>.inl hq) (fun hst=>by
       refine ⟨es,clock,?_,g2,fun k hk=>⟨((g3 k hk).1).mono hst,((g3 k hk).2).mono hst⟩,g4,g5,seen.push e.born,?_,?_,fun k hk=>?_,fun x hx=>?_⟩
       · simp only [Go.ChangeMaps.setBlock,Array.getElem?_setIfInBounds,e4]
         rw [if_neg hne];exact g1
       · simp [Go.ChangeMaps.setBlock,Array.getElem?_setIfInBounds,e4,hlt]
       · rw [hnf,List.length_eraseIdx,List.length_eraseIdx,g7]
       · rw [hnf,zfm,zfm]
         rw [List.length_eraseIdx,if_pos hjl] at hk
         have:=g8 (if k<j then k else k+1) (by split<;>omega)
         exact ⟨this.1.mono hst,this.2.mono hst⟩
       · rw [List.mem_singleton.1 hx]
         refine ⟨e,?_,by simp,hy.1.mono hst,hy.2.mono hst⟩
         have:e∈lf:=hej'▸List.getElem_mem hj'
         rw [<-hlg] at this
         exact (List.mem_filter.1 this).1) (by simpa [Go.ChangeMaps.setBlock] using e5)
    refine ⟨.tuple #[.bool true,e.key,e.val],_,_,_,?_,hsw, .tup _ _ rfl (fun k hk=>?_),hk⟩
    · unfold execOp
      rw [hop]
      simp [hv,hrun]
    · match k,hk with
      | 0,_=>exact .bool _
      | 1,_=>exact hsw.2.rel hy.1
      | 2,_=>exact hsw.2.rel hy.2
   rcases hw1 with hw1 | hw1
   · rw [hw1] at hrun;exact hgo w rfl rfl rfl rfl (Nat.le_refl _) hrun
   · rw [hw1] at hrun;exact hgo w.drew rfl rfl rfl rfl (Nat.le_succ _) hrun
theorem DOp.entrym_ {x:Operand} {r:Nat} (hop:o.op = .entry x) (hx:f x = .raw (.pointer (some ⟨r,0,none⟩)))
  (h:OnG H r fun mr m left cur C=>∃ y,cur=[y]/\K (.tup [y.1,y.2]) H):DOp P o f H K:=by
 obtain ⟨mr,m,left,cur,L1,L2,rfl,y,rfl,hk⟩:=h
 refine DOp.step fun a w hs hr=>?_
 have hv:=hr x kxcl
 rw [hx] at hv
 have hv:a.eval x = .pointer (some ⟨r,0,none⟩):=by generalize a.eval x=v at hv;cases hv;rfl
 obtain ⟨es,clock,g1,g2,g3,g4,g5,seen,g6,g7,g8,g9⟩:=zhC hs
 obtain ⟨e,e1,e2,e3,e4⟩:=g9 y (List.mem_singleton.2 rfl)
 have hn:(es.toList.map (·.born)).Nodup:=by
  rw [List.Nodup,List.pairwise_map]
  exact (zfn g4).imp fun h=>by omega
 have hf:es.find? (·.born==e.born)=some e:=by rw [<-Array.find?_toList];exact find_born e es.toList hn e1
 refine ⟨.tuple #[e.key,e.val],w,_,_,?_,⟨hs, .refl _ _⟩, .tup _ _ rfl (fun k hk=>?_),hk⟩
 · unfold execOp
   rw [hop]
   have hg1:(getObj r).run P w = .ok (.mapIter (some mr) clock seen clock) w:=by simp [getObj,Sem.run,g6]
   have hg2:(getObj mr).run P w = .ok (.map es clock) w:=by simp [getObj,Sem.run,g1]
   simp [Instr.entry,hv,hg1,hg2,e2,hf]
 · match k,hk with
   | 0,_=>exact e3
   | 1,_=>exact e4
end
theorem Sim.unit {w:World} {L1 L2:Own} {r mr:Nat} {m left cur:List (V×V)} (hs:Sim w (L1 ++ .miter r mr m left cur::L2)):Sim w (L1 ++ .map mr m::L2)/\Ext w (L1 ++ .miter r mr m left cur::L2) w (L1 ++ .map mr m::L2):=by
 obtain ⟨es,clock,g1,g2,g3,g4,g5,_⟩:=zhC hs
 exact Sim.swap (w':=w) (e0:=.miter r mr m left cur) (e1:=.map mr m) hs rfl rfl rfl (Nat.le_refl _) (fun _ _ _=>rfl) (fun _ _ _=>rfl) (fun b hb=>.inl (.inr hb)) (fun q hq=>.inl (.inr hq)) (fun hst=>⟨es,clock,g1,g2,fun k hk=>⟨((g3 k hk).1).mono hst,((g3 k hk).2).mono hst⟩,g4,g5⟩)
end
section
section
variable {P:Program} {o:Oper} {f:Operand->V} {H:Own} {K:V->Own->Prop}
theorem DVop.lenm_ {e:Env} {mv tm:List Nat} {ops:Array Oper} {K':Env->Own->Prop} {i:Nat} {rest:List Oper} {x:Operand} {T:TypeId} {r:Nat} (hm:mv.contains i=false) (ht:tm.contains i=true) (hop:o.op = .call { callee:=.builtin .len,args:=#[x],argTypes:=#[T] }) (hx:opd e x = .raw (.map (some r)))
  (h:OnM H r fun m _=>(ty P T).kind=8/\FD P (mv++tm) ops (fun i' l' e'=>DV P mv tm ops K' i' l' e' H) (i+1) rest (putO e o.dst (.int .i64 m.length))):DVop P mv tm ops K' i o rest e H:=by
 obtain ⟨m,L1,L2,hH,h1,h2⟩:=h
 exact DVop.tm_ hm ht (DOp.lenm_ hop hx ⟨m,L1,L2,hH,h1,rfl,rfl⟩) h2
theorem DOp.slicet_ {t:TypeId} {x y:Operand} {v:Value} {l:List V} {k:IntKind} {m:Int} (hop:o.op = .slice t x (some y) none none) (hx:f x = .gs v l) (hy:f y = .int k m)
  (h:OnT H v fun sz C=>((ty P t).kind=4/\(ty P (ty P t).elem).kind≠0/\(ty P (ty P t).elem).kind≠11/\(ty P (ty P t).elem).size=sz/\0<=m/\m<=l.length/\∀ z∈l,z.n=sz)/\∀ v',K (.gs v' (l.drop m.toNat)) (C (.tail sz v'))):DOp P o f H K:=by
 obtain ⟨sz,L1,L2,rfl,⟨h1,h2,h3,h4,h5,h6,h7⟩,hk⟩:=h
 obtain ⟨mm,rfl⟩:∃ mm:Nat,m=mm:=⟨m.toNat,by omega⟩
 simp only [Int.toNat_natCast] at hk
 refine DOp.step fun a w hs hr=>?_
 have hv:=hr x kxcl
 have hyv:=hr y kxcl
 rw [hx] at hv
 rw [hy] at hyv
 have hey:a.eval y = .int k mm:=by generalize a.eval y=u at hyv;cases hyv;rfl
 clear hyv
 generalize hva:a.eval x=u at hv
 cases hv with
 | gs _ _ hsl =>
 cases hsl with
 | sl A n cap _ sz' hn hc ha r1 r2 r3 r4 =>
 have hmn:mm<=n:=by omega
 have hu:=zaT h1
 have hrun:(Instr.sliceAt t (a.eval x) ((some y).map a.eval) ((none:Option Operand).map a.eval) none).run P w = .ok (.slice (if cap=mm then A else A.map (·.add (mm * sz))) (n - mm) (cap - mm)) w:=by
  rw [hva]
  simp [Instr.sliceAt,Instr.slice,Sem.run_bind,run_underlying hu,Result.andThen,Instr.sliceBounds,hey,Instr.sliceBound,asIntOf,hmn,za4 h2 h3,h4]
 have hsz:∀ i,i<l.length->(l.getD i .any).n=sz:=fun i hi=>h7 _ (by rw [List.getD_eq_getElem?_getD,List.getElem?_eq_getElem hi];exact List.getElem_mem hi)
 have hh:=hs.holds (.tail sz (.slice A n cap)) (by simp)
 have hsw:=Sim.swap (w':=w) (e1:=.tail sz (.slice (if cap=mm then A else A.map (·.add (mm * sz))) (n - mm) (cap - mm))) hs rfl rfl rfl (Nat.le_refl _) (fun _ _ _=>rfl) (fun _ _ _=>rfl) (fun b h=>by
  cases A with
  | none=>split at h<;>exact h.elim
  | some p =>
   by_cases hcm:cap=mm
   · rw [if_pos hcm] at h;exact absurd h.2 (by omega)
   · rw [if_neg hcm] at h
     refine .inl ⟨?_,by omega⟩
     rw [h.1]
     show (Addr.add p (mm * sz)).block=_
     unfold Addr.add;split<;>rfl) (fun q h=>by
  cases A with
  | none=>split at h<;>exact h.elim
  | some p =>
   by_cases hcm:cap=mm
   · rw [if_pos hcm] at h
     obtain ⟨_,g1,g2⟩:=h
     have e1:(n - mm) * sz=0:=by rw [show n - mm=0 by omega,Nat.zero_mul]
     have e2:(cap - mm) * sz=0:=by rw [show cap - mm=0 by omega,Nat.zero_mul]
     omega
   · rw [if_neg hcm] at h
     obtain ⟨g0,g1,g2⟩:=h
     obtain ⟨s1,s2⟩:=hh
     obtain ⟨s0,_⟩:=s2 (by omega)
     dsimp only [Option.map] at g0 g1 g2
     rw [zbn p _ s0] at g0 g1 g2
     dsimp only at g0 g1 g2
     have e1:mm * sz+(n - mm) * sz=n * sz:=by rw [<-Nat.add_mul];congr 1;omega
     have e2:mm * sz+(cap - mm) * sz=cap * sz:=by rw [<-Nat.add_mul];congr 1;omega
     exact .inl ⟨g0,by omega,by omega⟩) (fun hst=>by
  cases A with
  | none =>
   obtain ⟨q1,q2⟩:=hh
   have e:(if cap=mm then (none:Option Addr) else (none:Option Addr).map (·.add (mm * sz)))=none:=by split<;>rfl
   rw [e]
   exact ⟨by omega,by omega⟩
  | some p =>
   obtain ⟨s1,s2⟩:=hh
   by_cases hcm:cap=mm
   · rw [if_pos hcm];exact ⟨by omega,fun h=>absurd h (by omega)⟩
   · rw [if_neg hcm]
     obtain ⟨s0,xs,T,fr,g1,g2,g3⟩:=s2 (by omega)
     show (_<=_)/\_
     simp only [zbn p _ s0]
     have e1:mm * sz+(n - mm) * sz=n * sz:=by rw [<-Nat.add_mul];congr 1;omega
     have e2:mm * sz+(cap - mm) * sz=cap * sz:=by rw [<-Nat.add_mul];congr 1;omega
     refine ⟨by omega,fun _=>⟨trivial,xs,T,fr,g1,?_,by omega⟩⟩
     rw [Nat.add_assoc,Nat.add_assoc,e1,e2];exact g2)
 refine ⟨.slice (if cap=mm then A else A.map (·.add (mm * sz))) (n - mm) (cap - mm),w, .gs (.slice (if cap=mm then A else A.map (·.add (mm * sz))) (n - mm) (cap - mm)) (l.drop mm),_,?_,hsw,?_,hk _⟩
 · unfold execOp
   rw [hop]
   simp only [Option.map_none,Option.map_some] at hrun ⊢
   rw [Sem.run_bind,hrun]
   rfl
 · refine .gs _ _ (R.mono (.sl _ _ _ (l.drop mm) sz kxcd (by omega) (fun h=>?_) (fun b h hne=>?_) (fun i hi=>?_) (fun b i q hb hi hq=>?_) (fun b i q hb hi hq=>?_)) hsw.2.cells)
   · cases A with
     | none=>rw [ha rfl];simp
     | some p=>split at h<;>cases h
   · have hl:l≠[]:=fun e=>hne (by rw [e];simp)
     have hlt:mm<l.length:=by
      rcases Nat.lt_or_ge mm l.length with h8 | h8
      · exact h8
      · exact absurd (List.drop_eq_nil_of_le h8) hne
     cases A with
     | none=>exact absurd (ha rfl) hl
     | some p =>
      rw [if_neg (by omega)] at h
      injection h with h;subst h
      dsimp only
      rw [zbn p _ (r1 p rfl hl)]
   · rw [List.length_drop] at hi
     rw [show (l.drop mm).getD i V.any=l.getD (mm+i) .any by rw [List.getD_eq_getElem?_getD,List.getElem?_drop,<-List.getD_eq_getElem?_getD]]
     exact hsz _ (by omega)
   · rw [List.length_drop] at hi
     have hl:l≠[]:=fun e=>by rw [e] at hi;simp at hi
     cases A with
     | none=>exact absurd (ha rfl) hl
     | some p =>
      rw [if_neg (by omega)] at hb
      injection hb with hb;subst hb
      dsimp only
      rw [zbn p _ (r1 p rfl hl)]
      have hsz':sz'=sz:=by rw [<-r2 0 (List.length_pos_iff.2 hl)];exact hsz 0 (List.length_pos_iff.2 hl)
      have:=r3 p (mm+i) q rfl (by omega) (by omega)
      rw [hsz',Nat.add_mul,<-Nat.add_assoc] at this
      exact this
   · rw [List.length_drop] at hi
     have hl:l≠[]:=fun e=>by rw [e] at hi;simp at hi
     cases A with
     | none=>exact absurd (ha rfl) hl
     | some p =>
      rw [if_neg (by omega)] at hb
      injection hb with hb;subst hb
      dsimp only
      rw [zbn p _ (r1 p rfl hl)]
      have hsz':sz'=sz:=by rw [<-r2 0 (List.length_pos_iff.2 hl)];exact hsz 0 (List.length_pos_iff.2 hl)
      have:=r4 p (mm+i) q rfl (by omega) (by omega)
      rw [hsz',Nat.add_mul,<-Nat.add_assoc] at this
      rw [show (l.drop mm).getD i V.any=l.getD (mm+i) .any by rw [List.getD_eq_getElem?_getD,List.getElem?_drop,<-List.getD_eq_getElem?_getD]]
      exact this
end
end
section
open Go.Shelf Go.RowKit
def zji:Go.Shelf.Ren:=⟨fun | 6=>192 | 15=>163 | 14=>242 | 28=>219 | 29=>220 | 20=>273 | 21=>274 | 22=>275 | 23=>276 | 24=>277 | 25=>278 | 26=>279 | 27=>280 | 46=>292 | 47=>255 | 48=>256 | 49=>293 | 50=>294 | 57=>300 | n=>n,fun | 22=>26 | 24=>77 | 25=>265 | 3=>3 | 39=>221 | 0=>0 | 53=>281 | 55=>283 | 4=>4 | 46=>274 | 45=>273 | 50=>148 | 5=>5 | 9=>9 | 66=>315 | 70=>319 | 76=>334 | 77=>335 | n=>n,fun | n=>n⟩
theorem zpU:Go.Proofs.SlLaysF0.n6 Tryz.prog zji:={
 mixed:=by kernel_rfl
 f6:=⟨Tryz.f192.name,by decide,Tryz.func192.trans (congrArg some (by kernel_rfl))⟩
 f14:=⟨Tryz.f242.name,by decide,Tryz.func242.trans (congrArg some (by kernel_rfl))⟩
 f15:=Tryz.func163.trans (congrArg some (by kernel_rfl))
 f20:=⟨Tryz.f273.name,by decide,Tryz.func273.trans (congrArg some (by kernel_rfl))⟩
 f21:=⟨Tryz.f274.name,by decide,Tryz.func274.trans (congrArg some (by kernel_rfl))⟩
 f22:=⟨Tryz.f275.name,by decide,Tryz.func275.trans (congrArg some (by kernel_rfl))⟩
 f23:=⟨Tryz.f276.name,by decide,Tryz.func276.trans (congrArg some (by kernel_rfl))⟩
 f24:=⟨Tryz.f277.name,by decide,Tryz.func277.trans (congrArg some (by kernel_rfl))⟩
 f25:=⟨Tryz.f278.name,by decide,Tryz.func278.trans (congrArg some (by kernel_rfl))⟩
 f26:=⟨Tryz.f279.name,by decide,Tryz.func279.trans (congrArg some (by kernel_rfl))⟩
 f27:=⟨Tryz.f280.name,by decide,Tryz.func280.trans (congrArg some (by kernel_rfl))⟩
 f28:=Tryz.func219.trans (congrArg some (by kernel_rfl))
 f29:=Tryz.func220.trans (congrArg some (by kernel_rfl))
 f46:=⟨Tryz.f292.name,by decide,Tryz.func292.trans (congrArg some (by kernel_rfl))⟩
 f47:=Tryz.func255.trans (congrArg some (by kernel_rfl))
 f48:=Tryz.func256.trans (congrArg some (by kernel_rfl))
 f49:=⟨Tryz.f293.name,by decide,Tryz.func293.trans (congrArg some (by kernel_rfl))⟩
 f50:=⟨Tryz.f294.name,by decide,Tryz.func294.trans (congrArg some (by kernel_rfl))⟩
 f57:=⟨Tryz.f300.name,by decide,Tryz.func300.trans (congrArg some (by kernel_rfl))⟩
 t0:=Tryz.underlying0
 a0:=Tryz.isAgg0
 z0:=Tryz.sizeOf0
 v0:=Tryz.zeroValue0
 t3:=Tryz.underlying3
 a3:=Tryz.isAgg3
 z3:=Tryz.sizeOf3
 v3:=Tryz.zeroValue3
 t4:=Tryz.underlying4
 a4:=Tryz.isAgg4
 z4:=Tryz.sizeOf4
 v4:=Tryz.zeroValue4
 t5:=Tryz.underlying5
 a5:=Tryz.isAgg5
 z5:=Tryz.sizeOf5
 v5:=Tryz.zeroValue5
 t9:=Tryz.underlying9
 a9:=Tryz.isAgg9
 z9:=Tryz.sizeOf9
 v9:=Tryz.zeroValue9
 t22:=Tryz.underlying26
 a22:=Tryz.isAgg26
 z22:=Tryz.sizeOf26
 v22:=Tryz.zeroValue26
 t25:=Tryz.underlying265
 a25:=Tryz.isAgg265
 z25:=Tryz.sizeOf265
 v25:=Tryz.zeroValue265
 t39:=Tryz.underlying221
 a39:=Tryz.isAgg221
 z39:=Tryz.sizeOf221
 v39:=Tryz.zeroValue221
 t45:=Tryz.underlying273
 a45:=Tryz.isAgg273
 z45:=Tryz.sizeOf273
 v45:=Tryz.zeroValue273
 t46:=Tryz.underlying274
 a46:=Tryz.isAgg274
 z46:=Tryz.sizeOf274
 v46:=Tryz.zeroValue274
 t50:=Tryz.underlying148
 a50:=Tryz.isAgg148
 z50:=Tryz.sizeOf148
 v50:=Tryz.zeroValue148
 t53:=Tryz.underlying281
 a53:=Tryz.isAgg281
 z53:=Tryz.sizeOf281
 v53:=Tryz.zeroValue281
 t55:=Tryz.underlying283
 a55:=Tryz.isAgg283
 z55:=Tryz.sizeOf283
 v55:=Tryz.zeroValue283
 t66:=Tryz.underlying315
 a66:=Tryz.isAgg315
 z66:=Tryz.sizeOf315
 v66:=Tryz.zeroValue315
 t70:=Tryz.underlying319
 a70:=Tryz.isAgg319
 z70:=Tryz.sizeOf319
 v70:=Tryz.zeroValue319
 t76:=Tryz.underlying334
 a76:=Tryz.isAgg334
 z76:=Tryz.sizeOf334
 v76:=Tryz.zeroValue334
 t77:=Tryz.underlying335
 a77:=Tryz.isAgg335
 z77:=Tryz.sizeOf335
 v77:=Tryz.zeroValue335 }
end
end Go.Proofs.YtgekknefphagbaaGreatDoor
