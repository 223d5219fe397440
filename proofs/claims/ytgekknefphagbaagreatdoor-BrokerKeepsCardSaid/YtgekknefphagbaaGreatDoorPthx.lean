/- Texts of bytes: what the packets' texts ask (in a seat without scripts). No statement of the program. -/
import Derived.Test.YtgekknefphagbaaGreatDoorEn
import Derived.Test.YtgekknefphagbaaGreatDoorSox
import Derived.Test.YtgekknefphagbaaGreatDoorGzx
import Derived.Test.YtgekknefphagbaaGreatDoorFxx
import Derived.KernelRfl
import Derived.Test.YtgekknefphagbaaGreatDoorEf
import Derived.Test.YtgekknefphagbaaGreatDoorLib
namespace Go.Proofs.YtgekknefphagbaaGreatDoor
open Go.RowKit
section
abbrev YS:=List UInt8
theorem Les.at_ {cs ds:List V} (h:Les cs ds):cs.length=ds.length/\∀ k,k<ds.length->le (cs.getD k .any) (ds.getD k .any):=by
 induction h with
 | nil=>exact ⟨rfl,fun k hk=>absurd hk (Nat.not_lt_zero _)⟩
 | cons h1 h2 ih =>
  refine ⟨by simp [ih.1],fun k hk=>?_⟩
  cases k with
  | zero=>simpa using h1
  | succ k=>simpa using ih.2 k (by simpa using hk)
theorem le.tup {cs ds:List V} (h:Les cs ds):le (.tup cs) (.tup ds):=by
 have key:=h.at_
 intro S w u r
 cases r with
 | tup xs cs' hn hc=>exact .tup xs ds (hn.trans key.1) fun k hk=>key.2 k hk S w _ (hc k (by rw [key.1];exact hk))
end
section
set_option linter.unusedSimpArgs false
set_option linter.unusedVariables false
set_option linter.unusedSectionVars false
section
variable {α β:Type} [DecidableEq α]
def lookA (k:α):List (α×β)->Option β
 | x::m=>if k=x.1 then some x.2 else lookA k m
 | []=>none
def updA (k:α) (v:β):List (α×β)->List (α×β)
 | x::m=>if k=x.1 then (x.1,v)::m else x::updA k v m
 | []=>[(k,v)]
def dropA (k:α):List (α×β)->List (α×β)
 | x::m=>if k=x.1 then m else x::dropA k m
 | []=>[]
def entM (ek:α->V) (ev:β->V) (l:List (α×β)):List (V×V):=l.map fun x=>(ek x.1,ev x.2)
theorem entM_nil (ek:α->V) (ev:β->V):entM ek ev []=[]:=rfl
theorem entM_len (ek:α->V) (ev:β->V) (l:List (α×β)):(entM ek ev l).length=l.length:=List.length_map ..
structure KeyE (ks:List Nat) (g:Bool) (ek:α->V):Prop where
 eq:∀ a b,eqLS ks (ek a).cs (ek b).cs
 dec:∀ a b,eqL (ek a).cs (ek b).cs=decide (a=b)
 shape:∀ a,(g=true->ek a = .agg (ek a).cs)/\(g=false->(ek a).cs=[ek a])
variable {ks:List Nat} {g:Bool} {ek:α->V} {ev:β->V}
theorem look_ent (h:KeyE ks g ek) (a:α):∀ l:List (α×β),lookV (ek a) (entM ek ev l)=(lookA a l).map ev
 | []=>rfl
 | x::l=>by
  have ih:=look_ent h a l
  unfold entM at ih ⊢
  rw [List.map_cons]
  unfold lookV lookA
  rw [h.dec]
  by_cases e:a=x.1
  · rw [if_pos (decide_eq_true e),if_pos e];rfl
  · rw [if_neg (by simp [e]),if_neg e];exact ih
theorem upd_ent (h:KeyE ks g ek) (a:α) (v:β):∀ l:List (α×β),updV (ek a) (ev v) (entM ek ev l)=entM ek ev (updA a v l)
 | []=>rfl
 | x::l=>by
  have ih:=upd_ent h a v l
  unfold entM at ih ⊢
  rw [List.map_cons]
  unfold updV updA
  rw [h.dec]
  by_cases e:a=x.1
  · rw [if_pos (decide_eq_true e),if_pos e];rfl
  · rw [if_neg (by simp [e]),if_neg e,List.map_cons,ih]
theorem drop_ent (h:KeyE ks g ek) (a:α):∀ l:List (α×β),dropV (ek a) (entM ek ev l)=entM ek ev (dropA a l)
 | []=>rfl
 | x::l=>by
  have ih:=drop_ent h a l
  unfold entM at ih ⊢
  rw [List.map_cons]
  unfold dropV dropA
  rw [h.dec]
  by_cases e:a=x.1
  · rw [if_pos (decide_eq_true e),if_pos e]
  · rw [if_neg (by simp [e]),if_neg e,List.map_cons,ih]
def mapT (P:Program) (t:TypeId):Option (List Nat×Bool):=if (ty P t).kind=8 then (keyT P (ty P t).key).map fun ks=>(ks,(ty P (ty P t).key).agg) else none
theorem keyS_ent {P:Program} {t:TypeId} (h:KeyE ks g ek) (a:α) (l:List (α×β)) (ht:mapT P t=some (ks,g)):KeyS P t (ek a) (entM ek ev l):=by
 unfold mapT at ht
 split at ht
 · rename_i h8
   cases hk:keyT P (ty P t).key with
   | none=>rw [hk] at ht;cases ht
   | some ks' =>
    rw [hk] at ht
    simp only [Option.map_some,Option.some.injEq,Prod.mk.injEq] at ht
    obtain ⟨rfl,rfl⟩:=ht
    refine ⟨h8,?_,?_⟩
    · rw [hk]
      refine ⟨h.eq a a,fun x hx=>?_⟩
      obtain ⟨y,_,rfl⟩:=List.mem_map.1 hx
      exact h.eq a y.1
    · refine ⟨fun hg=>⟨(h.shape a).1 hg,fun x hx=>?_⟩,fun hg=>⟨(h.shape a).2 hg,fun x hx=>?_⟩⟩
      · obtain ⟨y,_,rfl⟩:=List.mem_map.1 hx;exact (h.shape y.1).1 hg
      · obtain ⟨y,_,rfl⟩:=List.mem_map.1 hx;exact (h.shape y.1).2 hg
 · cases ht
theorem keyS_nil {P:Program} {t:TypeId} (h:KeyE ks g ek) (a:α) (ht:mapT P t=some (ks,g)):KeyS P t (ek a) []:=keyS_ent (β:=α) (ev:=ek) h a [] ht
end
theorem strE:KeyE [3] false V.str:=⟨fun a b=>⟨rfl,trivial⟩,fun a b=>by rw [Bool.eq_iff_iff];simp [V.cs,eqL],fun a=>⟨(fun h=>nomatch h),fun _=>rfl⟩⟩
theorem intE (k:IntKind):KeyE [2] false (V.int k):=⟨fun a b=>⟨⟨rfl,rfl⟩,trivial⟩,fun a b=>by rw [Bool.eq_iff_iff];simp [V.cs,eqL],fun a=>⟨(fun h=>nomatch h),fun _=>rfl⟩⟩
section
variable {α β:Type} [DecidableEq α]
theorem lookA_none {k:α}:∀ {l:List (α×β)},lookA k l=none↔∀ x∈l,k≠x.1
 | []=>⟨fun _ _ h=>(nomatch h),fun _=>rfl⟩
 | x::l=>by
  unfold lookA
  by_cases e:k=x.1
  · rw [if_pos e];exact ⟨(fun h=>nomatch h),fun h=>absurd e (h x List.mem_cons_self)⟩
  · rw [if_neg e,lookA_none]
    exact ⟨fun h y hy=>by
     rcases List.mem_cons.1 hy with rfl | hy
     · exact e
     · exact h y hy,fun h y hy=>h y (List.mem_cons_of_mem _ hy)⟩
theorem lookA_some {k:α} {v:β}:∀ {l:List (α×β)},lookA k l=some v->(k,v)∈l
 | [],h=>by cases h
 | x::l,h=>by
  unfold lookA at h
  by_cases e:k=x.1
  · rw [if_pos e] at h;injection h with h;subst h;subst e;exact List.mem_cons_self
  · rw [if_neg e] at h;exact List.mem_cons_of_mem _ (lookA_some h)
theorem lookA_mem {k:α} {v:β}:∀ {l:List (α×β)},(l.map (·.1)).Nodup->(k,v)∈l->lookA k l=some v
 | [],_,h=>(nomatch h)
 | x::l,hn,h=>by
  unfold lookA
  rw [List.map_cons,List.nodup_cons] at hn
  rcases List.mem_cons.1 h with rfl | h
  · rw [if_pos rfl]
  · rw [if_neg,lookA_mem hn.2 h]
    rintro rfl
    exact hn.1 (List.mem_map.2 ⟨_,h,rfl⟩)
theorem updA_new {k:α} {v:β}:∀ {l:List (α×β)},lookA k l=none->updA k v l=l++[(k,v)]
 | [],_=>rfl
 | x::l,h=>by
  unfold lookA at h
  unfold updA
  by_cases e:k=x.1
  · rw [if_pos e] at h;cases h
  · rw [if_neg e] at h ⊢
    rw [updA_new h];rfl
theorem lookA_upd {k j:α} {v:β}:∀ {l:List (α×β)},lookA j (updA k v l)=if j=k then some v else lookA j l
 | []=>by
  unfold updA lookA lookA
  rfl
 | x::l=>by
  unfold updA
  by_cases e:k=x.1
  · rw [if_pos e]
    unfold lookA
    by_cases hj:j=x.1
    · rw [if_pos hj,if_pos (hj.trans e.symm)]
    · rw [if_neg hj,if_neg (fun h=>hj (h.trans e)),if_neg hj]
  · rw [if_neg e]
    unfold lookA
    by_cases hj:j=x.1
    · rw [if_pos hj,if_neg (fun h=>e (h.symm.trans hj)),if_pos hj]
    · rw [if_neg hj,lookA_upd,if_neg hj]
theorem updA_keys {k:α} {v:β}:∀ {l:List (α×β)} {j:α},j∈(updA k v l).map (·.1)↔j=k\/j∈l.map (·.1)
 | [],j=>by simp [updA]
 | x::l,j=>by
  unfold updA
  by_cases e:k=x.1
  · rw [if_pos e]
    simp only [List.map_cons,List.mem_cons]
    rw [e]
    exact ⟨fun h=>.inr h,fun h=>h.elim (fun h=>.inl h) id⟩
  · rw [if_neg e,List.map_cons,List.map_cons,List.mem_cons,List.mem_cons,updA_keys]
    exact ⟨fun h=>by rcases h with h | h | h<;>simp [h],fun h=>by rcases h with h | h | h<;>simp [h]⟩
theorem updA_nodup {k:α} {v:β}:∀ {l:List (α×β)},(l.map (·.1)).Nodup->((updA k v l).map (·.1)).Nodup
 | [],_=>by simp [updA]
 | x::l,h=>by
  unfold updA
  by_cases e:k=x.1
  · rw [if_pos e];exact h
  · rw [if_neg e,List.map_cons,List.nodup_cons,updA_keys]
    rw [List.map_cons,List.nodup_cons] at h
    exact ⟨fun hm=>by
     rcases hm with hm | hm
     · exact e hm.symm
     · exact h.1 hm,updA_nodup h.2⟩
theorem dropA_sub {k:α}:∀ {l:List (α×β)},(dropA k l).Sublist l
 | []=>List.Sublist.refl _
 | x::l=>by
  unfold dropA
  split
  · exact List.sublist_cons_self _ _
  · exact (dropA_sub (l:=l)).cons_cons _
theorem dropA_nodup {k:α} {l:List (α×β)} (h:(l.map (·.1)).Nodup):((dropA k l).map (·.1)).Nodup:=h.sublist (dropA_sub.map _)
theorem mem_dropA {k:α}:∀ {l:List (α×β)},(l.map (·.1)).Nodup->∀ x,x∈dropA k l↔x∈l/\x.1≠k
 | [],_,x=>by simp [dropA]
 | y::l,h,x=>by
  rw [List.map_cons,List.nodup_cons] at h
  unfold dropA
  by_cases e:k=y.1
  · rw [if_pos e,List.mem_cons]
    constructor
    · intro hx
      refine ⟨.inr hx,fun hk=>h.1 ?_⟩
      rw [<-e,<-hk];exact List.mem_map.2 ⟨x,hx,rfl⟩
    · rintro ⟨rfl | hx,hk⟩
      · exact absurd e.symm hk
      · exact hx
  · rw [if_neg e,List.mem_cons,List.mem_cons,mem_dropA h.2]
    constructor
    · rintro (rfl | ⟨hx,hk⟩)
      · exact ⟨.inl rfl,fun hk=>e hk.symm⟩
      · exact ⟨.inr hx,hk⟩
    · rintro ⟨rfl | hx,hk⟩
      · exact .inl rfl
      · exact .inr ⟨hx,hk⟩
theorem lookA_drop {k j:α} {l:List (α×β)} (h:(l.map (·.1)).Nodup):lookA j (dropA k l)=if j=k then none else lookA j l:=by
 by_cases e:j=k
 · subst e
   rw [if_pos rfl,lookA_none]
   exact fun x hx hk=>((mem_dropA h x).1 hx).2 hk.symm
 · rw [if_neg e]
   cases hl:lookA j l with
   | none =>
    rw [lookA_none] at hl ⊢
    exact fun x hx=>hl x (dropA_sub.subset hx)
   | some v=>exact lookA_mem (dropA_nodup h) ((mem_dropA h _).2 ⟨lookA_some hl,e⟩)
end
theorem arr_getD (a:Array MapEntry) (i:Nat):a.getD i default=a.toList.getD i default:=by simp [Array.getD_eq_getD_getElem?,List.getD_eq_getElem?_getD]
theorem getD_erase {α:Type} (d:α) (l:List α) (j k:Nat):(l.eraseIdx j).getD k d=l.getD (if k<j then k else k+1) d:=by
 rw [List.getD_eq_getElem?_getD,List.getElem?_eraseIdx]
 split<;>simp [List.getD_eq_getElem?_getD]
section
variable {P:Program} {o:Oper} {f:Operand->V} {H:Own} {K:V->Own->Prop}
theorem DVop.look_ {e:Env} {mv tm:List Nat} {ops:Array Oper} {K:Env->Own->Prop} {i:Nat} {rest:List Oper} {t:TypeId} {x ix:Operand} {ok:Bool} {r:Nat} (hm:mv.contains i=false) (ht:tm.contains i=true) (hop:o.op = .lookup t x ix ok) (hx:opd e x = .raw (.map (some r)))
  (h:OnM H r fun m _=>(KeyS P t (opd e ix) m/\(ty P (ty P t).elem).kind≠0/\(ty P (ty P t).elem).kind≠11/\(ty P (ty P t).elem).zero≠[]) /\
    FD P (mv++tm) ops (fun i' l' e'=>DV P mv tm ops K i' l' e' H) (i+1) rest (putO e o.dst (if ok=true then .tup [(lookV (opd e ix) m).getD (zeroD P (ty P t).elem), .bool (lookV (opd e ix) m).isSome] else (lookV (opd e ix) m).getD (zeroD P (ty P t).elem)))):DVop P mv tm ops K i o rest e H:=by
 obtain ⟨m,L1,L2,hH,h1,h2⟩:=h
 exact DVop.tm_ hm ht (DOp.look_ hop hx ⟨m,L1,L2,hH,h1,rfl,rfl⟩) h2
theorem DOp.lenm_ {x:Operand} {T:TypeId} {r:Nat} (hop:o.op = .call { callee:=.builtin .len,args:=#[x],argTypes:=#[T] }) (hx:f x = .raw (.map (some r)))
  (h:OnM H r fun m _=>(ty P T).kind=8/\K (.int .i64 m.length) H):DOp P o f H K:=by
 obtain ⟨m,L1,L2,rfl,h8,hk⟩:=h
 refine DOp.step fun a w hs hr=>?_
 have hv:=hr x (by simp [hop,Op.operands,Call.operands])
 rw [hx] at hv
 have hv:a.eval x = .map (some r):=by generalize a.eval x=v at hv;cases hv;rfl
 obtain ⟨es,clock,g1,g2,g3,_,_⟩:=map_of hs
 refine ⟨goInt es.size,w,_,_,?_,⟨hs, .refl _ _⟩,?_,hk⟩
 · unfold execOp
   rw [hop]
   have hget:(getObj r).run P w = .ok (.map es clock) w:=by simp [getObj,Sem.run,g1]
   simp [resolve,invoke,Go.builtin,Builtin.len_,hv,run_underlying (und_map h8),hget]
 · rw [g3];exact .int _ _
theorem DOp.delm_ {x ix:Operand} {t T:TypeId} {r:Nat} (hop:o.op = .call { callee:=.builtin .delete,args:=#[x,ix],argTypes:=#[t,T] }) (hx:f x = .raw (.map (some r)))
  (h:OnM H r fun m C=>KeyS P t (f ix) m/\K (.tup []) (C (.map r (dropV (f ix) m)))):DOp P o f H K:=by
 obtain ⟨m,L1,L2,rfl,hK,hk⟩:=h
 refine DOp.step fun a w hs hr=>?_
 have hv:=hr x (by simp [hop,Op.operands,Call.operands])
 rw [hx] at hv
 have hv:a.eval x = .map (some r):=by generalize a.eval x=v at hv;cases hv;rfl
 have hi:=hr ix (by simp [hop,Op.operands,Call.operands])
 obtain ⟨es,clock,g1,g2,g3,g4,g5⟩:=map_of hs
 obtain ⟨ks,hu,_,k1,k2⟩:=hK.parts
 have hck:=hK.check hi es.isEmpty
 have hfi:=hK.find hi g2
 have hget:(getObj r).run P w = .ok (.map es clock) w:=by simp [getObj,Sem.run,g1]
 have hset:∀ o':Obj,(setObj r o').run P w = .ok () { w with heap:=w.heap.setIfInBounds r o' }:=fun o'=>by simp [setObj,Sem.run,g1]
 have hdr:=drop_place (kd:=f ix) m 0
 cases hp:placeE (f ix) m 0 with
 | none =>
  rw [hp] at hfi hdr
  simp only at hdr
  refine ⟨.tuple #[],_,_,_,?_,Sim.turn (m':=dropV (f ix) m) (es':=es) (clock':=clock) hs g1 (by rw [hdr];exact g2) g4 g5, .tup _ _ rfl (fun _ h=>absurd h (Nat.not_lt_zero _)),hk⟩
  unfold execOp
  rw [hop]
  simp [resolve,invoke,Go.builtin,Builtin.delete_,hv,run_underlying hu,hget,hck,hfi,hset]
 | some j =>
  rw [hp] at hfi hdr
  simp only [Nat.sub_zero] at hdr
  obtain ⟨_,j2,_⟩:=place_lt m 0 j hp
  have hj:j<es.size:=by omega
  have hgd:∀ i,i<es.size - 1->((es.eraseIdxIfInBounds j).getD i default)=es.getD (if i<j then i else i+1) default:=fun i hi=>by
   have e:(es.eraseIdxIfInBounds j).toList=es.toList.eraseIdx j:=by rw [Array.eraseIdxIfInBounds,dif_pos hj];simp
   rw [arr_getD,arr_getD,e,getD_erase]
  have hsz:(es.eraseIdxIfInBounds j).size=es.size - 1:=by rw [Array.eraseIdxIfInBounds,dif_pos hj];simp
  refine ⟨.tuple #[],_,_,_,?_,Sim.turn (m':=dropV (f ix) m) (es':=es.eraseIdxIfInBounds j) (clock':=clock) hs g1 ?_ ?_ ?_, .tup _ _ rfl (fun _ h=>absurd h (Nat.not_lt_zero _)),hk⟩
  · unfold execOp
    rw [hop]
    simp [resolve,invoke,Go.builtin,Builtin.delete_,hv,run_underlying hu,hget,hck,hfi,hset]
  · rw [hdr]
    have e:(es.eraseIdxIfInBounds j).toList=es.toList.eraseIdx j:=by rw [Array.eraseIdxIfInBounds,dif_pos hj];simp
    rw [e]
    exact RM.erase j g2
  · intro i k hik hk'
    rw [hsz] at hk'
    rw [hgd i (by omega),hgd k hk']
    refine g4 _ _ ?_ ?_
    · split<;>split<;>omega
    · split<;>omega
  · intro i hi'
    rw [hsz] at hi'
    rw [hgd i hi']
    refine g5 _ ?_
    split<;>omega
end
theorem opt_bool (o:Option Bool):(o.map V.bool).getD (.bool false) = .bool (o.getD false):=by cases o<;>rfl
theorem opt_int (k:IntKind) (o:Option Int):(o.map (V.int k)).getD (.int k 0) = .int k (o.getD 0):=by cases o<;>rfl
theorem opt_some {α:Type} (f:α->V) (o:Option α):(o.map f).isSome=o.isSome:=by cases o<;>rfl
theorem look_nil (kd:V):lookV kd []=none:=rfl
theorem upd_nil (kd vd:V):updV kd vd []=[(kd,vd)]:=rfl
section
variable {β:Type} {ev:β->V} {P:Program} {t:TypeId}
theorem look_str (s:List UInt8) (l:List (List UInt8×β)):lookV (.str s) (entM V.str ev l)=(lookA s l).map ev:=look_ent strE s l
theorem upd_str (s:List UInt8) (v:β) (l:List (List UInt8×β)):updV (.str s) (ev v) (entM V.str ev l)=entM V.str ev (updA s v l):=upd_ent strE s v l
theorem drop_str (s:List UInt8) (l:List (List UInt8×β)):dropV (.str s) (entM V.str ev l)=entM V.str ev (dropA s l):=drop_ent strE s l
end
end
section
set_option linter.unusedSimpArgs false
set_option linter.unusedVariables false
set_option linter.unusedSectionVars false
set_option maxHeartbeats 4000000
set_option maxRecDepth 100000
abbrev knM (m:Int):Ent:=.know 3 [.int .i64 m]
def levs (l:List UInt8):List (List UInt8):=(Lib.splitB (bs [47]) 0 (Lib.countB (bs l) (bs [47])) (bs l)).map (·.data.toList)
theorem bs_back (b:ByteArray):bs b.data.toList=b:=by cases b;simp [bs]
theorem split_one:∀ (n:Nat) (cs:List V),n=cs.length->splitV 1 false n cs=cs
 | 0,[],_=>rfl
 | n+1,c::cs,h=>by
  simp only [splitV,Bool.false_eq_true,if_false,List.getD_cons_zero,List.drop_succ_cons,List.drop_zero,split_one n cs (by simpa using h)]
theorem levs_len (l:List UInt8):(levs l).length=Lib.countB (bs l) (bs [47])+1:=by
 unfold levs
 rw [List.length_map,Lib.splitB_all (bs [47]) (by decide) 0 _ (bs l) rfl]
theorem split_dc (m:Int) (l:List UInt8) (F:Own):l.length<=1000000000->DC Tryz.prog 173 [.str l, .str [47]] ([knM m]++F) fun d G=>d = .sl ((levs l).map V.str)/\G=[knM m]++F:=fun hl=>by
 refine ⟨by kernel_rfl,fun xs w hs hsz hr=>?_⟩
 have h0:=hr 0 (by simp)
 have h1:=hr 1 (by simp)
 obtain ⟨x0,x1,rfl⟩:=two_of hsz
 have e0:x0 = .string (bs l):=by
  have h0:R (stable w ([knM m]++F)) w x0 (.str l):=h0
  cases h0;rfl
 have e1:x1 = .string (bs [47]):=by
  have h1:R (stable w ([knM m]++F)) w x1 (.str [47]):=h1
  cases h1;rfl
 subst e0;subst e1
 have hh:=hs.holds (knM m) (List.mem_cons_self ..)
 obtain ⟨k1,k2⟩:=hh 0 (by simp)
 have k2:R (stable w ([knM m]++F)) w (cellAt w ⟨3,0,none⟩) (.int .i64 m):=k2
 have hm:w.cell? ⟨3,0,none⟩=some (.int .i64 m):=by
  have k3:=k1.1
  unfold cellAt at k2
  cases hc:w.cell? ⟨3,0,none⟩ with
  | none=>rw [hc] at k3;cases k3
  | some v=>rw [hc] at k2;cases k2;rfl
 have c:=Any.strings_Split laySplit (by kernel_rfl) (bs l) (bs [47]) m w (by rw [bs_size];omega) hm (by decide)
 refine c.mono ?_
 rintro e w' ⟨rfl,rfl⟩
 have hz:((levs l).map V.str).length=(Lib.countB (bs l) (bs [47])+1) * 1:=by rw [List.length_map,levs_len,Nat.mul_one]
 have rr:=row_rel (w:=w) hs ((Lib.splitB (bs [47]) 0 (Lib.countB (bs l) (bs [47])) (bs l)).map Value.string).toArray (laySplit_ren.t 9) ((levs l).map V.str) (Lib.countB (bs l) (bs [47])+1) 1 false (by decide) (fun _=>⟨rfl,by simp [V.flat]⟩) (by simp [levs]) hz (fun k hk=>by
  have hk':k<(Lib.splitB (bs [47]) 0 (Lib.countB (bs l) (bs [47])) (bs l)).length:=by simpa [levs] using hk
  have e1:(((Lib.splitB (bs [47]) 0 (Lib.countB (bs l) (bs [47])) (bs l)).map Value.string).toArray).getD k undef=Value.string (bs ((Lib.splitB (bs [47]) 0 (Lib.countB (bs l) (bs [47])) (bs l))[k]).data.toList):=by
   rw [bs_back];simp [Array.getD_eq_getD_getElem?,hk']
  have e2:((levs l).map V.str).getD k .any = .str ((Lib.splitB (bs [47]) 0 (Lib.countB (bs l) (bs [47])) (bs l))[k]).data.toList:=by
   simp [levs,List.getD_eq_getElem?_getD,hk']
  rw [e1,e2];exact .str _)
 rw [split_one _ _ (by rw [hz,Nat.mul_one])] at rr
 exact ⟨_,_,_,rfl,(Sim.new hs _).1,(Sim.new hs _).2,rr,rfl,rfl⟩
attribute [local irreducible] DW SeqD DV DOp DC DVX
theorem levelsg_dc (m:Int) (l:List UInt8) (F:Own):(l.length<=1000000000)->DC Tryz.prog 120 [.str l] ([knM m]++F) fun d G=>d = .sl ((levs l).map V.str)/\G=[knM m]++F:=by
 intro hA
 have hl:=hA
 refine DC.bodyS (n_:=5) (show Tryz.prog.funcs[120]? = some Tryz.f120 by kernel_rfl) rfl rfl (by rfl) ?_
 simp only [env0,List.cons_append,List.nil_append]
 have kw:=ksIs [0,2]
 have ow:=ownIs []
 repeat' (first
  | refine g_ ?_
  | ((with_reducible refine And.intro ?_ ?_);(exact sv))
  | (refine DW.cond (by rfl) ?_ ?_<;>(first | exact i0_ | (refine ic_ ?_;intro hb)))
  | ((with_reducible refine FVg_cases ?_ ?_)<;>(intro hb;rw [hb];revert hb;(first | exact i0_ | (refine i_ ?_;intro hb))))
  | refine r_ ?_
  | refine k_ ?_
  | (refine q_ (split_dc _ _ _) ?_)
  | refine o_ ?_
  | refine f_ ?_
  | with_reducible intro b)
 (first | exact fin_ | refine finq_ ?_)
 all_goals rfl
section
attribute [local push_cast 2000] u8
end
end
section
set_option linter.unusedSimpArgs false
set_option linter.unusedVariables false
set_option linter.unusedSectionVars false
set_option maxHeartbeats 4000000
set_option maxRecDepth 100000
attribute [local irreducible] DW SeqD DV DOp DC DVX
def wildT (l:List UInt8):Bool:=l.any fun c=>c==43||c==35
theorem wildg_dc (r:Int) (F:Own):(True)->DC Tryz.prog 143 [.int .i32 r] (([]:Own)++F) fun d G=>d = .bool (r==43||r==35)/\G=[]++F:=by
 intro hA
 refine DC.bodyS (n_:=9) (show Tryz.prog.funcs[143]? = some Tryz.f143 by kernel_rfl) rfl rfl (by rfl) ?_
 simp only [env0,List.cons_append,List.nil_append]
 have kw:=ksIs [0,2]
 have ow:=ownIs []
 repeat' (first
  | refine g_ ?_
  | ((with_reducible refine And.intro ?_ ?_);(exact sv))
  | (refine DW.cond (by rfl) ?_ ?_<;>(first | exact i0_ | (refine ic_ ?_;intro hb)))
  | ((with_reducible refine FVg_cases ?_ ?_)<;>(intro hb;rw [hb];revert hb;(first | exact i0_ | (refine i_ ?_;intro hb))))
  | refine r_ ?_
  | refine k_ ?_
  | refine o_ ?_
  | refine f_ ?_
  | with_reducible intro b)
 all_goals
  refine ⟨_,_,le.of_eq ?_,⟨rfl,rfl⟩,SubP.refl⟩
  simp_all
end
section
set_option linter.unusedSimpArgs false
set_option linter.unusedVariables false
set_option linter.unusedSectionVars false
set_option maxHeartbeats 4000000
set_option maxRecDepth 100000
attribute [local irreducible] DW SeqD DV DOp DC DVX
def okAt (ls:List (List UInt8)) (i:Nat):Bool:=ls.getD i default==[43]||(ls.getD i default==[35]&&decide ((i:Int)=(ls.length:Int) - 1)) || !wildT (ls.getD i default)
def okF (ls:List (List UInt8)):Bool:=(List.range ls.length).all (okAt ls)
theorem okF_t {ls:List (List UInt8)} (h:∀ i,i<ls.length->okAt ls i=true):okF ls=true:=by
 unfold okF;rw [List.all_eq_true];intro i hi;exact h i (List.mem_range.1 hi)
theorem okF_f {ls:List (List UInt8)} {k:Nat} (hk:k<ls.length) (h:okAt ls k=false):okF ls=false:=by
 cases e:okF ls with
 | false=>rfl
 | true=>unfold okF at e;rw [List.all_eq_true] at e;rw [e k (List.mem_range.2 hk)] at h;cases h
theorem ok_s {ls:List (List UInt8)} {k:Nat} (h:∀ i,i<k->okAt ls i=true) (hk:okAt ls k=true):∀ i,i<k+1->okAt ls i=true:=fun i hi=>by
 rcases Nat.lt_or_eq_of_le (Nat.le_of_lt_succ hi) with h1 | rfl
 · exact h i h1
 · exact hk
end
section
set_option linter.unusedSimpArgs false
set_option linter.unusedVariables false
set_option linter.unusedSectionVars false
set_option maxHeartbeats 4000000
set_option maxRecDepth 100000
attribute [local irreducible] DW SeqD DV DOp DC DVX
def goesM:List (List UInt8)->List (List UInt8)->Bool
 | [],b=>b.isEmpty
 | x::a,b=>x==[35]||match b with
  | []=>false
  | y::b=>(x==[43]||x==y)&&goesM a b
theorem take_str (l:List (List UInt8)):List.take l.length (List.map V.str l)=List.map V.str l:=List.take_of_length_le (by simp)
def hidT (l:List UInt8):Bool:=l.take 1==[36]
def matchM (a b:List (List UInt8)):Bool:=!(hidT (b.getD 0 default)&&(a.getD 0 default==[43]||a.getD 0 default==[35]))&&goesM a b
section
attribute [local push_cast 2000] take_str
end
end
section
open Go.RowKit Go.ChangeShapes Go.WideShapes Go.Deep
set_option linter.unusedSimpArgs false
set_option linter.unusedVariables false
set_option linter.unusedSectionVars false
theorem Sim.none (w:World):Sim w []:=⟨(fun _ h=>nomatch h),List.Pairwise.nil,List.Pairwise.nil⟩
section
variable {H:Type} {enc:TypeId×Value->H} {P:Program} {w:World}
end
end
end Go.Proofs.YtgekknefphagbaaGreatDoor
