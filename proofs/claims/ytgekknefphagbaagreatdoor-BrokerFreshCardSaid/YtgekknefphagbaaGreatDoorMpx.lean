/- Maps that are owned, as lists of pairs: looked up, written, deleted from, counted, gone through. No statement of the program. -/
import Derived.Test.YtgekknefphagbaaGreatDoorEqx
import Derived.Shelf.Strings.BuilderK
import Derived.Shelf.Strings.OnBuilder
import Derived.Shelf.Strconv.Itoa4
import Derived.Test.YtgekknefphagbaaGreatDoorProg
namespace Go.Proofs.YtgekknefphagbaaGreatDoor
open Go.RowKit
set_option linter.unusedSimpArgs false
set_option linter.unusedVariables false
set_option linter.unusedSectionVars false
section
section
variable {α β:Type} [DecidableEq α]
def lookA (k:α):List (α×β)->Option β
 | x::m=>if k=x.1 then some x.2 else lookA k m
 | []=>none
def updA (k:α) (v:β):List (α×β)->List (α×β)
 | x::m=>if k=x.1 then (x.1,v)::m else x::updA k v m
 | []=>[(k,v)]
def za4 (k:α):List (α×β)->List (α×β)
 | x::m=>if k=x.1 then m else x::za4 k m
 | []=>[]
def entM (ek:α->V) (ev:β->V) (l:List (α×β)):List (V×V):=l.map fun x=>(ek x.1,ev x.2)
theorem za6 (ek:α->V) (ev:β->V):entM ek ev []=[]:=rfl
theorem za7 (ek:α->V) (ev:β->V) (l:List (α×β)):(entM ek ev l).length=l.length:=List.length_map ..
structure KeyE (ks:List Nat) (g:Bool) (ek:α->V):Prop where
 eq:∀ a b,eqLS ks (ek a).cs (ek b).cs
 dec:∀ a b,eqL (ek a).cs (ek b).cs=decide (a=b)
 shape:∀ a,(g=true->ek a = .agg (ek a).cs)/\(g=false->(ek a).cs=[ek a])
variable {ks:List Nat} {g:Bool} {ek:α->V} {ev:β->V}
theorem zhO (h:KeyE ks g ek) (a:α):∀ l:List (α×β),zdT (ek a) (entM ek ev l)=(lookA a l).map ev
 | []=>rfl
 | x::l=>by
  have ih:=zhO h a l
  unfold entM at ih ⊢
  rw [List.map_cons]
  unfold zdT lookA
  rw [h.dec]
  by_cases e:a=x.1
  · rw [if_pos (decide_eq_true e),if_pos e];rfl
  · rw [if_neg (by simp [e]),if_neg e];exact ih
theorem zjv (h:KeyE ks g ek) (a:α) (v:β):∀ l:List (α×β),updV (ek a) (ev v) (entM ek ev l)=entM ek ev (updA a v l)
 | []=>rfl
 | x::l=>by
  have ih:=zjv h a v l
  unfold entM at ih ⊢
  rw [List.map_cons]
  unfold updV updA
  rw [h.dec]
  by_cases e:a=x.1
  · rw [if_pos (decide_eq_true e),if_pos e];rfl
  · rw [if_neg (by simp [e]),if_neg e,List.map_cons,ih]
theorem zh3 (h:KeyE ks g ek) (a:α):∀ l:List (α×β),zgN (ek a) (entM ek ev l)=entM ek ev (za4 a l)
 | []=>rfl
 | x::l=>by
  have ih:=zh3 h a l
  unfold entM at ih ⊢
  rw [List.map_cons]
  unfold zgN za4
  rw [h.dec]
  by_cases e:a=x.1
  · rw [if_pos (decide_eq_true e),if_pos e]
  · rw [if_neg (by simp [e]),if_neg e,List.map_cons,ih]
def mapT (P:Program) (t:TypeId):Option (List Nat×Bool):=if (ty P t).kind=8 then (keyT P (ty P t).key).map fun ks=>(ks,(ty P (ty P t).key).agg) else none
theorem zei {P:Program} {t:TypeId} (h:KeyE ks g ek) (a:α) (l:List (α×β)) (ht:mapT P t=some (ks,g)):KeyS P t (ek a) (entM ek ev l):=by
 unfold mapT at ht
 split at ht
 · rename_i h8
   cases hk:keyT P (ty P t).key with
   | none=>rw [hk] at ht;cases ht
   | some ks' =>
    rw [hk] at ht
    simp only [Option.map_some,Option.some.injEq,Prod.mk.injEq] at ht
    obtain ⟨rfl,rfl⟩:=ht
    refine ⟨h8,?_,?_⟩
    · rw [hk]
      refine ⟨h.eq a a,fun x hx=>?_⟩
      obtain ⟨y,_,rfl⟩:=List.mem_map.1 hx
      exact h.eq a y.1
    · refine ⟨fun hg=>⟨(h.shape a).1 hg,fun x hx=>?_⟩,fun hg=>⟨(h.shape a).2 hg,fun x hx=>?_⟩⟩
      · obtain ⟨y,_,rfl⟩:=List.mem_map.1 hx;exact (h.shape y.1).1 hg
      · obtain ⟨y,_,rfl⟩:=List.mem_map.1 hx;exact (h.shape y.1).2 hg
 · cases ht
theorem zeG {P:Program} {t:TypeId} (h:KeyE ks g ek) (a:α) (ht:mapT P t=some (ks,g)):KeyS P t (ek a) []:=zei (β:=α) (ev:=ek) h a [] ht
end
theorem strE:KeyE [3] false V.str:=⟨fun a b=>⟨rfl,trivial⟩,fun a b=>by rw [Bool.eq_iff_iff];simp [V.cs,eqL],fun a=>⟨(fun h=>nomatch h),fun _=>rfl⟩⟩
theorem intE (k:IntKind):KeyE [2] false (V.int k):=⟨fun a b=>⟨⟨rfl,rfl⟩,trivial⟩,fun a b=>by rw [Bool.eq_iff_iff];simp [V.cs,eqL],fun a=>⟨(fun h=>nomatch h),fun _=>rfl⟩⟩
section
variable {α β:Type} [DecidableEq α]
theorem zbH {k:α}:∀ {l:List (α×β)},lookA k l=none↔∀ x∈l,k≠x.1
 | []=>⟨fun _ _ h=>(nomatch h),fun _=>rfl⟩
 | x::l=>by
  unfold lookA
  by_cases e:k=x.1
  · rw [if_pos e];exact ⟨(fun h=>nomatch h),fun h=>absurd e (h x List.mem_cons_self)⟩
  · rw [if_neg e,zbH]
    exact ⟨fun h y hy=>by
     rcases List.mem_cons.1 hy with rfl | hy
     · exact e
     · exact h y hy,fun h y hy=>h y (List.mem_cons_of_mem _ hy)⟩
theorem zdq {k:α} {v:β}:∀ {l:List (α×β)},lookA k l=some v->(k,v)∈l
 | [],h=>by cases h
 | x::l,h=>by
  unfold lookA at h
  by_cases e:k=x.1
  · rw [if_pos e] at h;injection h with h;subst h;subst e;exact List.mem_cons_self
  · rw [if_neg e] at h;exact List.mem_cons_of_mem _ (zdq h)
theorem zeL {k:α} {v:β}:∀ {l:List (α×β)},(l.map (·.1)).Nodup->(k,v)∈l->lookA k l=some v
 | [],_,h=>(nomatch h)
 | x::l,hn,h=>by
  unfold lookA
  rw [List.map_cons,List.nodup_cons] at hn
  rcases List.mem_cons.1 h with rfl | h
  · rw [if_pos rfl]
  · rw [if_neg,zeL hn.2 h]
    rintro rfl
    exact hn.1 (List.mem_map.2 ⟨_,h,rfl⟩)
theorem zct {k:α} {v:β}:∀ {l:List (α×β)},lookA k l=none->updA k v l=l++[(k,v)]
 | [],_=>rfl
 | x::l,h=>by
  unfold lookA at h
  unfold updA
  by_cases e:k=x.1
  · rw [if_pos e] at h;cases h
  · rw [if_neg e] at h ⊢
    rw [zct h];rfl
theorem zg1 {k j:α} {v:β}:∀ {l:List (α×β)},lookA j (updA k v l)=if j=k then some v else lookA j l
 | []=>by
  unfold updA lookA lookA
  rfl
 | x::l=>by
  unfold updA
  by_cases e:k=x.1
  · rw [if_pos e]
    unfold lookA
    by_cases hj:j=x.1
    · rw [if_pos hj,if_pos (hj.trans e.symm)]
    · rw [if_neg hj,if_neg (fun h=>hj (h.trans e)),if_neg hj]
  · rw [if_neg e]
    unfold lookA
    by_cases hj:j=x.1
    · rw [if_pos hj,if_neg (fun h=>e (h.symm.trans hj)),if_pos hj]
    · rw [if_neg hj,zg1,if_neg hj]
theorem zi0 {k:α} {v:β}:∀ {l:List (α×β)} {j:α},j∈(updA k v l).map (·.1)↔j=k\/j∈l.map (·.1)
 | [],j=>by simp [updA]
 | x::l,j=>by
  unfold updA
  by_cases e:k=x.1
  · rw [if_pos e]
    simp only [List.map_cons,List.mem_cons]
    rw [e]
    exact ⟨fun h=>.inr h,fun h=>h.elim (fun h=>.inl h) id⟩
  · rw [if_neg e,List.map_cons,List.map_cons,List.mem_cons,List.mem_cons,zi0]
    exact ⟨fun h=>by rcases h with h | h | h<;>simp [h],fun h=>by rcases h with h | h | h<;>simp [h]⟩
theorem zeY {k:α} {v:β}:∀ {l:List (α×β)},(l.map (·.1)).Nodup->((updA k v l).map (·.1)).Nodup
 | [],_=>by simp [updA]
 | x::l,h=>by
  unfold updA
  by_cases e:k=x.1
  · rw [if_pos e];exact h
  · rw [if_neg e,List.map_cons,List.nodup_cons,zi0]
    rw [List.map_cons,List.nodup_cons] at h
    exact ⟨fun hm=>by
     rcases hm with hm | hm
     · exact e hm.symm
     · exact h.1 hm,zeY h.2⟩
theorem dropA_sub {k:α}:∀ {l:List (α×β)},(za4 k l).Sublist l
 | []=>List.Sublist.refl _
 | x::l=>by
  unfold za4
  split
  · exact List.sublist_cons_self _ _
  · exact (dropA_sub (l:=l)).cons_cons _
theorem zd4 {k:α} {l:List (α×β)} (h:(l.map (·.1)).Nodup):((za4 k l).map (·.1)).Nodup:=h.sublist (dropA_sub.map _)
theorem zgj {k:α}:∀ {l:List (α×β)},(l.map (·.1)).Nodup->∀ x,x∈za4 k l↔x∈l/\x.1≠k
 | [],_,x=>by simp [za4]
 | y::l,h,x=>by
  rw [List.map_cons,List.nodup_cons] at h
  unfold za4
  by_cases e:k=y.1
  · rw [if_pos e,List.mem_cons]
    constructor
    · intro hx
      refine ⟨.inr hx,fun hk=>h.1 ?_⟩
      rw [<-e,<-hk];exact List.mem_map.2 ⟨x,hx,rfl⟩
    · rintro ⟨rfl | hx,hk⟩
      · exact absurd e.symm hk
      · exact hx
  · rw [if_neg e,List.mem_cons,List.mem_cons,zgj h.2]
    constructor
    · rintro (rfl | ⟨hx,hk⟩)
      · exact ⟨.inl rfl,fun hk=>e hk.symm⟩
      · exact ⟨.inr hx,hk⟩
    · rintro ⟨rfl | hx,hk⟩
      · exact .inl rfl
      · exact .inr ⟨hx,hk⟩
theorem zed {k j:α} {l:List (α×β)} (h:(l.map (·.1)).Nodup):lookA j (za4 k l)=if j=k then none else lookA j l:=by
 by_cases e:j=k
 · subst e
   rw [if_pos rfl,zbH]
   exact fun x hx hk=>((zgj h x).1 hx).2 hk.symm
 · rw [if_neg e]
   cases hl:lookA j l with
   | none =>
    rw [zbH] at hl ⊢
    exact fun x hx=>hl x (dropA_sub.subset hx)
   | some v=>exact zeL (zd4 h) ((zgj h _).2 ⟨zdq hl,e⟩)
end
theorem zkA (a:Array MapEntry) (i:Nat):a.getD i default=a.toList.getD i default:=by simp [Array.getD_eq_getD_getElem?,List.getD_eq_getElem?_getD]
theorem zfd {α:Type} (d:α) (l:List α) (j k:Nat):(l.eraseIdx j).getD k d=l.getD (if k<j then k else k+1) d:=by
 rw [List.getD_eq_getElem?_getD,List.getElem?_eraseIdx]
 split<;>simp [List.getD_eq_getElem?_getD]
section
variable {P:Program} {o:Oper} {f:Operand->V} {H:Own} {K:V->Own->Prop}
theorem DVop.look_ {e:Env} {mv tm:List Nat} {ops:Array Oper} {K:Env->Own->Prop} {i:Nat} {rest:List Oper} {t:TypeId} {x ix:Operand} {ok:Bool} {r:Nat} (hm:mv.contains i=false) (ht:tm.contains i=true) (hop:o.op = .lookup t x ix ok) (hx:opd e x = .raw (.map (some r)))
  (h:OnM H r fun m _=>(KeyS P t (opd e ix) m/\(ty P (ty P t).elem).kind≠0/\(ty P (ty P t).elem).kind≠11/\(ty P (ty P t).elem).zero≠[]) /\
    FD P (mv++tm) ops (fun i' l' e'=>DV P mv tm ops K i' l' e' H) (i+1) rest (putO e o.dst (if ok=true then .tup [(zdT (opd e ix) m).getD (zfC P (ty P t).elem), .bool (zdT (opd e ix) m).isSome] else (zdT (opd e ix) m).getD (zfC P (ty P t).elem)))):DVop P mv tm ops K i o rest e H:=by
 obtain ⟨m,L1,L2,hH,h1,h2⟩:=h
 exact DVop.tm_ hm ht (DOp.look_ hop hx ⟨m,L1,L2,hH,h1,rfl,rfl⟩) h2
theorem DOp.lenm_ {x:Operand} {T:TypeId} {r:Nat} (hop:o.op = .call { callee:=.builtin .len,args:=#[x],argTypes:=#[T] }) (hx:f x = .raw (.map (some r)))
  (h:OnM H r fun m _=>(ty P T).kind=8/\K (.int .i64 m.length) H):DOp P o f H K:=by
 obtain ⟨m,L1,L2,rfl,h8,hk⟩:=h
 refine DOp.step fun a w hs hr=>?_
 have hv:=hr x (by simp [hop,Op.operands,Call.operands])
 rw [hx] at hv
 have hv:a.eval x = .map (some r):=by generalize a.eval x=v at hv;cases hv;rfl
 obtain ⟨es,clock,g1,g2,g3,_,_⟩:=ziJ hs
 refine ⟨goInt es.size,w,_,_,?_,⟨hs, .refl _ _⟩,?_,hk⟩
 · unfold execOp
   rw [hop]
   have hget:(getObj r).run P w = .ok (.map es clock) w:=by simp [getObj,Sem.run,g1]
   simp [resolve,invoke,Go.builtin,Builtin.len_,hv,run_underlying (zhL h8),hget]
 · rw [g3];exact .int _ _
theorem DOp.delm_ {x ix:Operand} {t T:TypeId} {r:Nat} (hop:o.op = .call { callee:=.builtin .delete,args:=#[x,ix],argTypes:=#[t,T] }) (hx:f x = .raw (.map (some r)))
  (h:OnM H r fun m C=>KeyS P t (f ix) m/\K (.tup []) (C (.map r (zgN (f ix) m)))):DOp P o f H K:=by
 obtain ⟨m,L1,L2,rfl,hK,hk⟩:=h
 refine DOp.step fun a w hs hr=>?_
 have hv:=hr x (by simp [hop,Op.operands,Call.operands])
 rw [hx] at hv
 have hv:a.eval x = .map (some r):=by generalize a.eval x=v at hv;cases hv;rfl
 have hi:=hr ix (by simp [hop,Op.operands,Call.operands])
 obtain ⟨es,clock,g1,g2,g3,g4,g5⟩:=ziJ hs
 obtain ⟨ks,hu,_,k1,k2⟩:=hK.parts
 have hck:=hK.check hi es.isEmpty
 have hfi:=hK.find hi g2
 have hget:(getObj r).run P w = .ok (.map es clock) w:=by simp [getObj,Sem.run,g1]
 have hset:∀ o':Obj,(setObj r o').run P w = .ok () { w with heap:=w.heap.setIfInBounds r o' }:=fun o'=>by simp [setObj,Sem.run,g1]
 have hdr:=zhd (kd:=f ix) m 0
 cases hp:zbV (f ix) m 0 with
 | none =>
  rw [hp] at hfi hdr
  simp only at hdr
  refine ⟨.tuple #[],_,_,_,?_,Sim.turn (m':=zgN (f ix) m) (es':=es) (clock':=clock) hs g1 (by rw [hdr];exact g2) g4 g5, .tup _ _ rfl (fun _ h=>absurd h (Nat.not_lt_zero _)),hk⟩
  unfold execOp
  rw [hop]
  simp [resolve,invoke,Go.builtin,Builtin.delete_,hv,run_underlying hu,hget,hck,hfi,hset]
 | some j =>
  rw [hp] at hfi hdr
  simp only [Nat.sub_zero] at hdr
  obtain ⟨_,j2,_⟩:=zd7 m 0 j hp
  have hj:j<es.size:=by omega
  have hgd:∀ i,i<es.size - 1->((es.eraseIdxIfInBounds j).getD i default)=es.getD (if i<j then i else i+1) default:=fun i hi=>by
   have e:(es.eraseIdxIfInBounds j).toList=es.toList.eraseIdx j:=by rw [Array.eraseIdxIfInBounds,dif_pos hj];simp
   rw [zkA,zkA,e,zfd]
  have hsz:(es.eraseIdxIfInBounds j).size=es.size - 1:=by rw [Array.eraseIdxIfInBounds,dif_pos hj];simp
  refine ⟨.tuple #[],_,_,_,?_,Sim.turn (m':=zgN (f ix) m) (es':=es.eraseIdxIfInBounds j) (clock':=clock) hs g1 ?_ ?_ ?_, .tup _ _ rfl (fun _ h=>absurd h (Nat.not_lt_zero _)),hk⟩
  · unfold execOp
    rw [hop]
    simp [resolve,invoke,Go.builtin,Builtin.delete_,hv,run_underlying hu,hget,hck,hfi,hset]
  · rw [hdr]
    have e:(es.eraseIdxIfInBounds j).toList=es.toList.eraseIdx j:=by rw [Array.eraseIdxIfInBounds,dif_pos hj];simp
    rw [e]
    exact RM.erase j g2
  · intro i k hik hk'
    rw [hsz] at hk'
    rw [hgd i (by omega),hgd k hk']
    refine g4 _ _ ?_ ?_
    · split<;>split<;>omega
    · split<;>omega
  · intro i hi'
    rw [hsz] at hi'
    rw [hgd i hi']
    refine g5 _ ?_
    split<;>omega
end
theorem zaD (o:Option Bool):(o.map V.bool).getD (.bool false) = .bool (o.getD false):=by cases o<;>rfl
theorem zbe (k:IntKind) (o:Option Int):(o.map (V.int k)).getD (.int k 0) = .int k (o.getD 0):=by cases o<;>rfl
theorem zaF {α:Type} (f:α->V) (o:Option α):(o.map f).isSome=o.isSome:=by cases o<;>rfl
theorem zaK (kd:V):zdT kd []=none:=rfl
theorem zbd (kd vd:V):updV kd vd []=[(kd,vd)]:=rfl
section
variable {β:Type} {ev:β->V} {P:Program} {t:TypeId}
theorem zaI (s:List UInt8) (l:List (List UInt8×β)):zdT (.str s) (entM V.str ev l)=(lookA s l).map ev:=zhO strE s l
theorem zaV (s:List UInt8) (v:β) (l:List (List UInt8×β)):updV (.str s) (ev v) (entM V.str ev l)=entM V.str ev (updA s v l):=zjv strE s v l
theorem zaA (s:List UInt8) (l:List (List UInt8×β)):zgN (.str s) (entM V.str ev l)=entM V.str ev (za4 s l):=zh3 strE s l
end
end
section
open Go.Shelf Go.RowKit
def znO:Go.Shelf.Ren:=⟨fun | 171=>83 | 243=>145 | 246=>191 | 283=>238 | 284=>239 | 285=>240 | 286=>241 | 129=>220 | 317=>269 | 318=>270 | 319=>271 | 320=>272 | 337=>290 | 338=>291 | n=>n,fun | 3=>3 | 9=>9 | 2=>2 | 4=>4 | 171=>304 | 0=>0 | 53=>283 | 37=>23 | 5=>5 | 173=>306 | 212=>326 | 51=>281 | 20=>20 | 213=>327 | 46=>221 | 232=>348 | 233=>349 | n=>n,fun | 17=>0 | 18=>4 | 19=>5 | n=>n⟩
theorem layIt:Go.Proofs.LaysM.n171 Tryz.prog znO:={
 mixed:=by kernel_rfl
 f129:=Tryz.func220.trans (congrArg some (by kernel_rfl))
 f171:=Tryz.func83.trans (congrArg some (by kernel_rfl))
 f243:=Tryz.func145.trans (congrArg some (by kernel_rfl))
 f246:=Tryz.func191.trans (congrArg some (by kernel_rfl))
 f283:=Tryz.func238.trans (congrArg some (by kernel_rfl))
 f284:=Tryz.func239.trans (congrArg some (by kernel_rfl))
 f285:=Tryz.func240.trans (congrArg some (by kernel_rfl))
 f286:=Tryz.func241.trans (congrArg some (by kernel_rfl))
 f317:=Tryz.func269.trans (congrArg some (by kernel_rfl))
 f318:=Tryz.func270.trans (congrArg some (by kernel_rfl))
 f319:=Tryz.func271.trans (congrArg some (by kernel_rfl))
 f320:=Tryz.func272.trans (congrArg some (by kernel_rfl))
 f337:=Tryz.func290.trans (congrArg some (by kernel_rfl))
 f338:=Tryz.func291.trans (congrArg some (by kernel_rfl))
 t0:=Tryz.underlying0
 a0:=Tryz.isAgg0
 z0:=Tryz.sizeOf0
 v0:=Tryz.zeroValue0
 t2:=Tryz.underlying2
 a2:=Tryz.isAgg2
 z2:=Tryz.sizeOf2
 v2:=Tryz.zeroValue2
 t3:=Tryz.underlying3
 a3:=Tryz.isAgg3
 z3:=Tryz.sizeOf3
 v3:=Tryz.zeroValue3
 t4:=Tryz.underlying4
 a4:=Tryz.isAgg4
 z4:=Tryz.sizeOf4
 v4:=Tryz.zeroValue4
 t5:=Tryz.underlying5
 a5:=Tryz.isAgg5
 z5:=Tryz.sizeOf5
 v5:=Tryz.zeroValue5
 t9:=Tryz.underlying9
 a9:=Tryz.isAgg9
 z9:=Tryz.sizeOf9
 v9:=Tryz.zeroValue9
 t20:=Tryz.underlying20
 a20:=Tryz.isAgg20
 z20:=Tryz.sizeOf20
 v20:=Tryz.zeroValue20
 t37:=Tryz.underlying23
 a37:=Tryz.isAgg23
 z37:=Tryz.sizeOf23
 v37:=Tryz.zeroValue23
 t46:=Tryz.underlying221
 a46:=Tryz.isAgg221
 z46:=Tryz.sizeOf221
 v46:=Tryz.zeroValue221
 t51:=Tryz.underlying281
 a51:=Tryz.isAgg281
 z51:=Tryz.sizeOf281
 v51:=Tryz.zeroValue281
 t53:=Tryz.underlying283
 a53:=Tryz.isAgg283
 z53:=Tryz.sizeOf283
 v53:=Tryz.zeroValue283
 t171:=Tryz.underlying304
 a171:=Tryz.isAgg304
 z171:=Tryz.sizeOf304
 v171:=Tryz.zeroValue304
 t173:=Tryz.underlying306
 a173:=Tryz.isAgg306
 z173:=Tryz.sizeOf306
 v173:=Tryz.zeroValue306
 t212:=Tryz.underlying326
 a212:=Tryz.isAgg326
 z212:=Tryz.sizeOf326
 v212:=Tryz.zeroValue326
 t213:=Tryz.underlying327
 a213:=Tryz.isAgg327
 z213:=Tryz.sizeOf327
 t232:=Tryz.underlying348
 a232:=Tryz.isAgg348
 z232:=Tryz.sizeOf348
 v232:=Tryz.zeroValue348
 t233:=Tryz.underlying349
 a233:=Tryz.isAgg349
 z233:=Tryz.sizeOf349
 v233:=Tryz.zeroValue349
 g17:=by kernel_rfl
 g18:=by kernel_rfl
 g19:=by kernel_rfl
 i0:=by kernel_rfl
 i2:=by kernel_rfl
 i3:=by kernel_rfl
 i4:=by kernel_rfl
 i5:=by kernel_rfl
 i9:=by kernel_rfl
 i20:=by kernel_rfl
 i37:=by kernel_rfl
 i46:=by kernel_rfl
 i51:=by kernel_rfl
 i53:=by kernel_rfl
 i171:=by kernel_rfl
 i173:=by kernel_rfl
 i212:=by kernel_rfl
 i232:=by kernel_rfl
 i233:=by kernel_rfl
 m17:=by kernel_rfl
 m18:=by kernel_rfl
 m19:=by kernel_rfl }
end
end Go.Proofs.YtgekknefphagbaaGreatDoor
