/- Builders in a row: what is written to one of them. -/
import Derived.Test.YtbmbcjmgjdnlnaaGreatDoorDd3x
import Derived.Test.YtbmbcjmgjdnlnaaGreatDoorDg1x
import Derived.KernelRfl
import Derived.Test.YtbmbcjmgjdnlnaaGreatDoorRe2x
import Derived.Test.YtbmbcjmgjdnlnaaGreatDoorPtfx
import Derived.Test.YtbmbcjmgjdnlnaaGreatDoorPt3x
import Derived.Test.YtbmbcjmgjdnlnaaGreatDoorPtbx
import Derived.Test.YtbmbcjmgjdnlnaaGreatDoorSd3x
import Derived.Test.YtbmbcjmgjdnlnaaGreatDoorTbx
import Derived.Test.YtbmbcjmgjdnlnaaGreatDoorLkx
import Derived.Test.YtbmbcjmgjdnlnaaGreatDoorBdx
namespace Go.Proofs.YtbmbcjmgjdnlnaaGreatDoor
open Go.RowKit
set_option linter.unusedSimpArgs false
set_option linter.unusedVariables false
set_option linter.unusedSectionVars false
set_option maxHeartbeats 4000000
set_option maxRecDepth 100000
section
theorem DC.permB {α:Type} {P:Program} {f:FuncId} {args:List V} {H H1:Own} {Q:α->V->Prop} {F1 F2:α->Own} (hp:H.Perm H1) (h:DC P f args H1 fun d G=>∃ x,Q x d/\G=F1 x) (hq:∀ x,(F1 x).Perm (F2 x)):DC P f args H fun d G=>∃ x,Q x d/\G=F2 x :=
 ⟨h.1,fun xs w hs hn hr=>(h.2 xs w (hs.perm hp) hn fun k hk=>(Ext.perm hp).rel (hr k hk)).mono fun e w' ⟨v,d,H2,he,s,ex,r,x,hx,hg⟩=>by
   subst hg
   exact ⟨v,d,F2 x,he,s.perm (hq x),((Ext.perm hp).trans ex).trans (Ext.perm (hq x)),(Ext.perm (hq x)).rel r,x,hx,rfl⟩⟩
theorem DC.turn {P:Program} {f:FuncId} {args:List V} {H H1:Own} {Q0:List BX->Prop} {F1 F2:List BX->Own} (hp:H.Perm H1) (h:DC P f args H1 fun d G=>∃ L',Q0 L'/\d = .tup []/\G=F1 L') (hq:∀ L',(F1 L').Perm (F2 L')):DC P f args H fun d G=>∃ L',Q0 L'/\d = .tup []/\G=F2 L' :=
 (DC.permB (Q:=fun L' d=>Q0 L'/\d = .tup []) hp (h.mono fun d G ⟨L',h1,h2,h3⟩=>⟨L',⟨h1,h2⟩,h3⟩) hq).mono fun d G ⟨L',⟨h1,h2⟩,h3⟩=>⟨L',h1,h2,h3⟩
theorem bown_perm {E T:TypeId} {b:Nat} {A C:List BX} {x:BX} (K0 K1 F0:Own) (cs:List V):(K0++(K1++(.tb T b cs::barrs E (A++x::C)++F0))).Perm ([.tb T b cs, .ba E x.2.1 x.2.2]++K0++(K1++barrs E A++barrs E C++F0)):=by
 have e1:barrs E (A++x::C)=barrs E A ++ .ba E x.2.1 x.2.2::barrs E C:=by simp [barrs]
 rw [e1]
 have h1:(K0++(K1++(.tb T b cs::(barrs E A ++ .ba E x.2.1 x.2.2::barrs E C)++F0)))=(K0++K1) ++ .tb T b cs::((barrs E A ++ .ba E x.2.1 x.2.2::barrs E C)++F0):=by simp
 rw [h1]
 refine List.perm_middle.trans ?_
 have h2:(K0++K1)++((barrs E A ++ .ba E x.2.1 x.2.2::barrs E C)++F0)=(K0++K1++barrs E A) ++ .ba E x.2.1 x.2.2::(barrs E C++F0):=by simp
 rw [h2]
 refine (List.Perm.cons _ List.perm_middle).trans ?_
 simp
theorem DC.at_bown {P:Program} {f:FuncId} {args:List V} {E T:TypeId} {b:Nat} {A C:List BX} {x:BX} {K0 K1 F0:Own} {Y:List UInt8}
  (h:∀ F,DC P f args ([.tb T b (bcells b 0 (A++x::C)), .ba E x.2.1 x.2.2]++K0++F) fun d G=>∃ v',d = .tup []/\G=[.tb T b (lay2 b (2 * A.length) (bcells b 0 (A++x::C)) v' Y.length), .ba E v' Y]++K0++F) :
  DC P f args (K0++(K1++(bown E T b (A++x::C)++F0))) fun d G=>∃ v',d = .tup []/\G=K0++(K1++(bown E T b (A++(true,v',Y)::C)++F0)):=by
 refine DC.permB (bown_perm K0 K1 F0 _) (h (K1++barrs E A++barrs E C++F0)) fun v'=>?_
 have:=(bown_perm (E:=E) (T:=T) (b:=b) (A:=A) (C:=C) (x:=(true,v',Y)) K0 K1 F0 (bcells b 0 (A++(true,v',Y)::C))).symm
 rw [<-bcells_put b A C x v' Y] at this
 exact this.trans (by rw [bcells_put];exact List.Perm.refl _)
abbrev BXs:=List BX
def byt (L:BXs):List Str:=L.map fun x=>x.2.2
structure BL (L:BXs) (m:Nat):Prop where
 len:L.length=10
 sz:∀ x∈L,x.2.2.length<=m
theorem BL.mono {L:BXs} {m n:Nat} (h:BL L m) (hmn:m<=n):BL L n:=⟨h.len,fun x hx=>Nat.le_trans (h.sz x hx) hmn⟩
theorem byt_len (L:BXs):(byt L).length=L.length:=List.length_map _
theorem BL.next {L L1:BXs} {m n k:Nat} {W:List UInt8} (h:BL L m) (hl:L1.length=10) (hb:byt L1=addAt (byt L) k W) (hw:W.length<=n):BL L1 (m+n):=by
 refine ⟨hl,fun x hx=>?_⟩
 have hx':x.2.2∈byt L1:=List.mem_map.2 ⟨x,hx,rfl⟩
 rw [hb] at hx'
 unfold addAt at hx'
 have hm:∀ y∈byt L,y.length<=m:=fun y hy=>by obtain ⟨z,hz,rfl⟩:=List.mem_map.1 hy;exact h.sz z hz
 rcases List.mem_or_eq_of_mem_set hx' with h' | h'
 · exact Nat.le_trans (hm _ h') (by omega)
 · rw [h',List.length_append]
   have:((byt L).getD k []).length<=m:=by
    by_cases hk:k<(byt L).length
    · rw [List.getD_eq_getElem?_getD,List.getElem?_eq_getElem hk];exact hm _ (List.getElem_mem hk)
    · rw [List.getD_eq_getElem?_getD,List.getElem?_eq_none (by omega)];exact Nat.zero_le _
   omega
theorem lies10:∀ k,k<10->liesB 129 (2 * k) 20
 | 0,_=>by unfold liesB;kernel_rfl
 | 1,_=>by unfold liesB;kernel_rfl
 | 2,_=>by unfold liesB;kernel_rfl
 | 3,_=>by unfold liesB;kernel_rfl
 | 4,_=>by unfold liesB;kernel_rfl
 | 5,_=>by unfold liesB;kernel_rfl
 | 6,_=>by unfold liesB;kernel_rfl
 | 7,_=>by unfold liesB;kernel_rfl
 | 8,_=>by unfold liesB;kernel_rfl
 | 9,_=>by unfold liesB;kernel_rfl
 | k+10,h=>absurd h (by omega)
theorem bown_bat {b:Nat} {A C:BXs} {x:BX} (h:(A++x::C).length=10):BAt 129 b (2 * A.length) (bcells b 0 (A++x::C)) x.2.1 x.2.2.length:=by
 have hl:A.length<10:=by simp at h;omega
 refine ⟨⟨x.1,bcells_at0 b A C x⟩,bcells_at1 b A C x,by rw [bcells_len,h];omega,?_⟩
 rw [bcells_len,h]
 exact lies10 _ hl
theorem split_k {L:BXs} {k:Nat} (h:k<L.length):∃ A x C,L=A++x::C/\A.length=k:=⟨L.take k,L[k],L.drop (k+1),by rw [<-List.drop_eq_getElem_cons,List.take_append_drop],by rw [List.length_take];omega⟩
theorem byt_put {A C:BXs} {x:BX} {v':Value} {W:List UInt8}:byt (A++(true,v',x.2.2++W)::C)=addAt (byt (A++x::C)) A.length W:=by
 unfold byt addAt
 rw [List.map_append,List.map_append,List.map_cons,List.map_cons]
 have hl:(A.map fun x:BX=>x.2.2).length=A.length:=List.length_map _
 have e:(A.map (fun x:BX=>x.2.2)++x.2.2::C.map fun x:BX=>x.2.2).getD A.length []=x.2.2:=by
  rw [List.getD_eq_getElem?_getD,List.getElem?_append_right (by omega),hl,Nat.sub_self];rfl
 rw [e,List.set_append_right _ _ (by omega),hl,Nat.sub_self]
 rfl
theorem DC.at_k {f:FuncId} {args:List V} {b:Nat} {K0 K1 F0:Own} (L:BXs) (k:Nat) (hk:k<10) (m:Nat) (hL:BL L m) (W:List UInt8)
  (h:∀ (cs:List V) (v:Value) (l:List UInt8),BAt 129 b (2 * k) cs v l.length->l.length<=m->∀ F,DC Tryz.prog f args ([.tb 129 b cs, .ba 5 v l]++K0++F) fun d G=>∃ v',d = .tup []/\G=[.tb 129 b (lay2 b (2 * k) cs v' (l++W).length), .ba 5 v' (l++W)]++K0++F) :
  DC Tryz.prog f args (K0++(K1++(bown 5 129 b L++F0))) fun d G=>∃ L':BXs,(L'.length=10/\byt L'=addAt (byt L) k W)/\d = .tup []/\G=K0++(K1++(bown 5 129 b L'++F0)):=by
 obtain ⟨A,x,C,rfl,rfl⟩:=split_k (show k<L.length by rw [hL.len];exact hk)
 refine (DC.at_bown (Y:=x.2.2++W) fun F=>h _ _ _ (bown_bat hL.len) (hL.sz x (by simp)) F).mono ?_
 rintro d G ⟨v',rfl,rfl⟩
 exact ⟨_,⟨by have:=hL.len;simpa using this,byt_put⟩,rfl,rfl⟩
theorem lineR_dc (v0:Value) (T5:TypeId) (fr:Nat×Nat) (e1 e2 e3:Ent) (b:Nat) (L:BXs) (k:Nat) (y0 y1 y2:List UInt8) (F:Own):(k<10/\BL L 100000000000/\(Lib.join [y0,y1,y2] [32]).length<=20000)->DC Tryz.prog 88 [.raw (.pointer (some ⟨b,k * 2,none⟩)), .sl [.str y0, .str y1, .str y2]] (([]:Own)++(.tail 1 v0::loose::knP T5 fr::e1::e2::e3::(bown 5 129 b L++F))) fun d G=>∃ L':BXs,(L'.length=10/\byt L'=addAt (byt L) k (lineZ [y0,y1,y2]))/\d = .tup []/\G=(.tail 1 v0::loose::knP T5 fr::e1::e2::e3::(bown 5 129 b L'++F)):=fun h=>by
 have p1:∀ L':BXs,(loose :: .tail 1 v0::knP T5 fr::e1::e2::e3::(bown 5 129 b L'++F)).Perm (.tail 1 v0::loose::knP T5 fr::e1::e2::e3::(bown 5 129 b L'++F)):=fun L'=>List.Perm.swap ..
 have:=DC.at_k (f:=88) (args:=[.raw (.pointer (some ⟨b,2 * k,none⟩)), .sl [.str y0, .str y1, .str y2]]) (b:=b) (K0:=[loose]) (K1:=[.tail 1 v0,knP T5 fr,e1,e2,e3]) (F0:=F) L k h.1 100000000000 h.2.1 (lineZ [y0,y1,y2]) fun cs v l hB hl F=>line3_dc 129 b (2 * k) cs v l y0 y1 y2 F ⟨hB,by have:=h.2.2;omega⟩
 rw [Nat.mul_comm k 2]
 exact DC.turn (p1 L).symm this p1
theorem lineS_dc (v0:Value) (T5:TypeId) (fr:Nat×Nat) (e1 e2 e3:Ent) (b:Nat) (L:BXs) (y0:List UInt8) (F:Own):(8<10/\BL L 100000000000/\(Lib.join [y0] [32]).length<=20000)->DC Tryz.prog 88 [.raw (.pointer (some ⟨b,16,none⟩)), .sl [.str y0]] (([]:Own)++(.tail 1 v0::loose::knP T5 fr::e1::e2::e3::(bown 5 129 b L++F))) fun d G=>∃ L':BXs,(L'.length=10/\byt L'=addAt (byt L) 8 (lineZ [y0]))/\d = .tup []/\G=(.tail 1 v0::loose::knP T5 fr::e1::e2::e3::(bown 5 129 b L'++F)):=fun h=>by
 have p1:∀ L':BXs,(loose :: .tail 1 v0::knP T5 fr::e1::e2::e3::(bown 5 129 b L'++F)).Perm (.tail 1 v0::loose::knP T5 fr::e1::e2::e3::(bown 5 129 b L'++F)):=fun L'=>List.Perm.swap ..
 have:=DC.at_k (f:=88) (args:=[.raw (.pointer (some ⟨b,2 * 8,none⟩)), .sl [.str y0]]) (b:=b) (K0:=[loose]) (K1:=[.tail 1 v0,knP T5 fr,e1,e2,e3]) (F0:=F) L 8 h.1 100000000000 h.2.1 (lineZ [y0]) fun cs v l hB hl F=>line1_dc 129 b (2 * 8) cs v l y0 F ⟨hB,by have:=h.2.2;omega⟩
 exact DC.turn (p1 L).symm this p1
theorem lineF_dc (v0:Value) (T5:TypeId) (fr:Nat×Nat) (e1 e2 e3:Ent) (b:Nat) (L:BXs) (y0 y1:List UInt8) (F:Own):(9<10/\BL L 100000000000/\(Lib.join [y0,y1] [32]).length<=20000)->DC Tryz.prog 88 [.raw (.pointer (some ⟨b,18,none⟩)), .sl [.str y0, .str y1]] (([]:Own)++(.tail 1 v0::loose::knP T5 fr::e1::e2::e3::(bown 5 129 b L++F))) fun d G=>∃ L':BXs,(L'.length=10/\byt L'=addAt (byt L) 9 (lineZ [y0,y1]))/\d = .tup []/\G=(.tail 1 v0::loose::knP T5 fr::e1::e2::e3::(bown 5 129 b L'++F)):=fun h=>by
 have p1:∀ L':BXs,(loose :: .tail 1 v0::knP T5 fr::e1::e2::e3::(bown 5 129 b L'++F)).Perm (.tail 1 v0::loose::knP T5 fr::e1::e2::e3::(bown 5 129 b L'++F)):=fun L'=>List.Perm.swap ..
 have:=DC.at_k (f:=88) (args:=[.raw (.pointer (some ⟨b,2 * 9,none⟩)), .sl [.str y0, .str y1]]) (b:=b) (K0:=[loose]) (K1:=[.tail 1 v0,knP T5 fr,e1,e2,e3]) (F0:=F) L 9 h.1 100000000000 h.2.1 (lineZ [y0,y1]) fun cs v l hB hl F=>line2_dc 129 b (2 * 9) cs v l y0 y1 F ⟨hB,by have:=h.2.2;omega⟩
 exact DC.turn (p1 L).symm this p1
end
section
section
variable {α β:Type} [DecidableEq α]
def lookA (k:α):List (α×β)->Option β
 | x::m=>if k=x.1 then some x.2 else lookA k m
 | []=>none
def updA (k:α) (v:β):List (α×β)->List (α×β)
 | x::m=>if k=x.1 then (x.1,v)::m else x::updA k v m
 | []=>[(k,v)]
def dropA (k:α):List (α×β)->List (α×β)
 | x::m=>if k=x.1 then m else x::dropA k m
 | []=>[]
def entM (ek:α->V) (ev:β->V) (l:List (α×β)):List (V×V):=l.map fun x=>(ek x.1,ev x.2)
theorem entM_nil (ek:α->V) (ev:β->V):entM ek ev []=[]:=rfl
structure KeyE (ks:List Nat) (g:Bool) (ek:α->V):Prop where
 eq:∀ a b,eqLS ks (ek a).cs (ek b).cs
 dec:∀ a b,eqL (ek a).cs (ek b).cs=decide (a=b)
 shape:∀ a,(g=true->ek a = .agg (ek a).cs)/\(g=false->(ek a).cs=[ek a])
variable {ks:List Nat} {g:Bool} {ek:α->V} {ev:β->V}
theorem look_ent (h:KeyE ks g ek) (a:α):∀ l:List (α×β),lookV (ek a) (entM ek ev l)=(lookA a l).map ev
 | []=>rfl
 | x::l=>by
  have ih:=look_ent h a l
  unfold entM at ih ⊢
  rw [List.map_cons]
  unfold lookV lookA
  rw [h.dec]
  by_cases e:a=x.1
  · rw [if_pos (decide_eq_true e),if_pos e];rfl
  · rw [if_neg (by simp [e]),if_neg e];exact ih
theorem upd_ent (h:KeyE ks g ek) (a:α) (v:β):∀ l:List (α×β),updV (ek a) (ev v) (entM ek ev l)=entM ek ev (updA a v l)
 | []=>rfl
 | x::l=>by
  have ih:=upd_ent h a v l
  unfold entM at ih ⊢
  rw [List.map_cons]
  unfold updV updA
  rw [h.dec]
  by_cases e:a=x.1
  · rw [if_pos (decide_eq_true e),if_pos e];rfl
  · rw [if_neg (by simp [e]),if_neg e,List.map_cons,ih]
theorem drop_ent (h:KeyE ks g ek) (a:α):∀ l:List (α×β),dropV (ek a) (entM ek ev l)=entM ek ev (dropA a l)
 | []=>rfl
 | x::l=>by
  have ih:=drop_ent h a l
  unfold entM at ih ⊢
  rw [List.map_cons]
  unfold dropV dropA
  rw [h.dec]
  by_cases e:a=x.1
  · rw [if_pos (decide_eq_true e),if_pos e]
  · rw [if_neg (by simp [e]),if_neg e,List.map_cons,ih]
def mapT (P:Program) (t:TypeId):Option (List Nat×Bool):=if (ty P t).kind=8 then (keyT P (ty P t).key).map fun ks=>(ks,(ty P (ty P t).key).agg) else none
theorem keyS_ent {P:Program} {t:TypeId} (h:KeyE ks g ek) (a:α) (l:List (α×β)) (ht:mapT P t=some (ks,g)):KeyS P t (ek a) (entM ek ev l):=by
 unfold mapT at ht
 split at ht
 · rename_i h8
   cases hk:keyT P (ty P t).key with
   | none=>rw [hk] at ht;cases ht
   | some ks' =>
    rw [hk] at ht
    simp only [Option.map_some,Option.some.injEq,Prod.mk.injEq] at ht
    obtain ⟨rfl,rfl⟩:=ht
    refine ⟨h8,?_,?_⟩
    · rw [hk]
      refine ⟨h.eq a a,fun x hx=>?_⟩
      obtain ⟨y,_,rfl⟩:=List.mem_map.1 hx
      exact h.eq a y.1
    · refine ⟨fun hg=>⟨(h.shape a).1 hg,fun x hx=>?_⟩,fun hg=>⟨(h.shape a).2 hg,fun x hx=>?_⟩⟩
      · obtain ⟨y,_,rfl⟩:=List.mem_map.1 hx;exact (h.shape y.1).1 hg
      · obtain ⟨y,_,rfl⟩:=List.mem_map.1 hx;exact (h.shape y.1).2 hg
 · cases ht
end
section
variable {α β:Type} [DecidableEq α]
theorem lookA_none {k:α}:∀ {l:List (α×β)},lookA k l=none↔∀ x∈l,k≠x.1
 | []=>⟨fun _ _ h=>(nomatch h),fun _=>rfl⟩
 | x::l=>by
  unfold lookA
  by_cases e:k=x.1
  · rw [if_pos e];exact ⟨(fun h=>nomatch h),fun h=>absurd e (h x List.mem_cons_self)⟩
  · rw [if_neg e,lookA_none]
    exact ⟨fun h y hy=>by
     rcases List.mem_cons.1 hy with rfl | hy
     · exact e
     · exact h y hy,fun h y hy=>h y (List.mem_cons_of_mem _ hy)⟩
theorem lookA_some {k:α} {v:β}:∀ {l:List (α×β)},lookA k l=some v->(k,v)∈l
 | [],h=>by cases h
 | x::l,h=>by
  unfold lookA at h
  by_cases e:k=x.1
  · rw [if_pos e] at h;injection h with h;subst h;subst e;exact List.mem_cons_self
  · rw [if_neg e] at h;exact List.mem_cons_of_mem _ (lookA_some h)
theorem updA_new {k:α} {v:β}:∀ {l:List (α×β)},lookA k l=none->updA k v l=l++[(k,v)]
 | [],_=>rfl
 | x::l,h=>by
  unfold lookA at h
  unfold updA
  by_cases e:k=x.1
  · rw [if_pos e] at h;cases h
  · rw [if_neg e] at h ⊢
    rw [updA_new h];rfl
end
section
variable {P:Program} {o:Oper} {f:Operand->V} {H:Own} {K:V->Own->Prop}
theorem DVop.look_ {e:Env} {mv tm:List Nat} {ops:Array Oper} {K:Env->Own->Prop} {i:Nat} {rest:List Oper} {t:TypeId} {x ix:Operand} {ok:Bool} {r:Nat} (hm:mv.contains i=false) (ht:tm.contains i=true) (hop:o.op = .lookup t x ix ok) (hx:opd e x = .raw (.map (some r)))
  (h:OnM H r fun m _=>(KeyS P t (opd e ix) m/\(ty P (ty P t).elem).kind≠0/\(ty P (ty P t).elem).kind≠11/\(ty P (ty P t).elem).zero≠[]) /\
    FD P (mv++tm) ops (fun i' l' e'=>DV P mv tm ops K i' l' e' H) (i+1) rest (putO e o.dst (if ok=true then .tup [(lookV (opd e ix) m).getD (zeroD P (ty P t).elem), .bool (lookV (opd e ix) m).isSome] else (lookV (opd e ix) m).getD (zeroD P (ty P t).elem)))):DVop P mv tm ops K i o rest e H:=by
 obtain ⟨m,L1,L2,hH,h1,h2⟩:=h
 exact DVop.tm_ hm ht (DOp.look_ hop hx ⟨m,L1,L2,hH,h1,rfl,rfl⟩) h2
end
theorem opt_bool (o:Option Bool):(o.map V.bool).getD (.bool false) = .bool (o.getD false):=by cases o<;>rfl
theorem opt_int (k:IntKind) (o:Option Int):(o.map (V.int k)).getD (.int k 0) = .int k (o.getD 0):=by cases o<;>rfl
theorem opt_some {α:Type} (f:α->V) (o:Option α):(o.map f).isSome=o.isSome:=by cases o<;>rfl
theorem look_nil (kd:V):lookV kd []=none:=rfl
theorem upd_nil (kd vd:V):updV kd vd []=[(kd,vd)]:=rfl
section
variable {β:Type} {ev:β->V} {P:Program} {t:TypeId}
end
end
section
attribute [local irreducible] DW SeqD DV DOp DC DVX
section
attribute [local push_cast 2000] u8
end
section
attribute [local push_cast 2000] u8
end
section
attribute [local push_cast 2000] u8
end
end
section
abbrev knM (m:Int):Ent:=.know 3 [.int .i64 m]
def levs (l:List UInt8):List (List UInt8):=(Lib.splitB (bs [47]) 0 (Lib.countB (bs l) (bs [47])) (bs l)).map (·.data.toList)
theorem bs_back (b:ByteArray):bs b.data.toList=b:=by cases b;simp [bs]
theorem split_one:∀ (n:Nat) (cs:List V),n=cs.length->splitV 1 false n cs=cs
 | 0,[],_=>rfl
 | n+1,c::cs,h=>by
  simp only [splitV,Bool.false_eq_true,if_false,List.getD_cons_zero,List.drop_succ_cons,List.drop_zero,split_one n cs (by simpa using h)]
theorem levs_len (l:List UInt8):(levs l).length=Lib.countB (bs l) (bs [47])+1:=by
 unfold levs
 rw [List.length_map,Lib.splitB_all (bs [47]) (by decide) 0 _ (bs l) rfl]
theorem split_dc (m:Int) (l:List UInt8) (F:Own):l.length<=1000000000->DC Tryz.prog 218 [.str l, .str [47]] ([knM m]++F) fun d G=>d = .sl ((levs l).map V.str)/\G=[knM m]++F:=fun hl=>by
 refine ⟨by kernel_rfl,fun xs w hs hsz hr=>?_⟩
 have h0:=hr 0 (by simp)
 have h1:=hr 1 (by simp)
 obtain ⟨x0,x1,rfl⟩:=two_of hsz
 have e0:x0 = .string (bs l):=by
  have h0:R (stable w ([knM m]++F)) w x0 (.str l):=h0
  cases h0;rfl
 have e1:x1 = .string (bs [47]):=by
  have h1:R (stable w ([knM m]++F)) w x1 (.str [47]):=h1
  cases h1;rfl
 subst e0;subst e1
 have hh:=hs.holds (knM m) (List.mem_cons_self ..)
 obtain ⟨k1,k2⟩:=hh 0 (by simp)
 have k2:R (stable w ([knM m]++F)) w (cellAt w ⟨3,0,none⟩) (.int .i64 m):=k2
 have hm:w.cell? ⟨3,0,none⟩=some (.int .i64 m):=by
  have k3:=k1.1
  unfold cellAt at k2
  cases hc:w.cell? ⟨3,0,none⟩ with
  | none=>rw [hc] at k3;cases k3
  | some v=>rw [hc] at k2;cases k2;rfl
 have c:=Any.strings_Split laySplit (by kernel_rfl) (bs l) (bs [47]) m w (by rw [bs_size];omega) hm (by decide)
 refine c.mono ?_
 rintro e w' ⟨rfl,rfl⟩
 have hz:((levs l).map V.str).length=(Lib.countB (bs l) (bs [47])+1) * 1:=by rw [List.length_map,levs_len,Nat.mul_one]
 have rr:=row_rel (w:=w) hs ((Lib.splitB (bs [47]) 0 (Lib.countB (bs l) (bs [47])) (bs l)).map Value.string).toArray (laySplit_ren.t 9) ((levs l).map V.str) (Lib.countB (bs l) (bs [47])+1) 1 false (by decide) (fun _=>⟨rfl,by simp [V.flat]⟩) (by simp [levs]) hz (fun k hk=>by
  have hk':k<(Lib.splitB (bs [47]) 0 (Lib.countB (bs l) (bs [47])) (bs l)).length:=by simpa [levs] using hk
  have e1:(((Lib.splitB (bs [47]) 0 (Lib.countB (bs l) (bs [47])) (bs l)).map Value.string).toArray).getD k undef=Value.string (bs ((Lib.splitB (bs [47]) 0 (Lib.countB (bs l) (bs [47])) (bs l))[k]).data.toList):=by
   rw [bs_back];simp [Array.getD_eq_getD_getElem?,hk']
  have e2:((levs l).map V.str).getD k .any = .str ((Lib.splitB (bs [47]) 0 (Lib.countB (bs l) (bs [47])) (bs l))[k]).data.toList:=by
   simp [levs,List.getD_eq_getElem?_getD,hk']
  rw [e1,e2];exact .str _)
 rw [split_one _ _ (by rw [hz,Nat.mul_one])] at rr
 exact ⟨_,_,_,rfl,(Sim.new hs _).1,(Sim.new hs _).2,rr,rfl,rfl⟩
attribute [local irreducible] DW SeqD DV DOp DC DVX
theorem levelsg_dc (m:Int) (l:List UInt8) (F:Own):(l.length<=1000000000)->DC Tryz.prog 176 [.str l] ([knM m]++F) fun d G=>d = .sl ((levs l).map V.str)/\G=[knM m]++F:=by
 intro hA
 have hl:=hA
 refine DC.bodyS (n_:=5) (show Tryz.prog.funcs[176]? = some Tryz.f176 by kernel_rfl) rfl rfl (by rfl) ?_
 simp only [env0,List.cons_append,List.nil_append]
 have kw:=ksIs [0,2]
 have ow:=ownIs []
 repeat' (first
  | refine g_ ?_
  | ((with_reducible refine And.intro ?_ ?_);(exact sv))
  | (refine DW.cond (by rfl) ?_ ?_<;>(first | exact i0_ | (refine ic_ ?_;intro hb)))
  | ((with_reducible refine FVg_cases ?_ ?_)<;>(intro hb;rw [hb];revert hb;(first | exact i0_ | (refine i_ ?_;intro hb))))
  | refine r_ ?_
  | refine k_ ?_
  | (refine q_ (split_dc _ _ _) ?_)
  | refine o_ ?_
  | refine f_ ?_
  | with_reducible intro b)
 (first | exact fin_ | refine finq_ ?_)
 all_goals rfl
section
attribute [local push_cast 2000] u8
end
end
section
attribute [local irreducible] DW SeqD DV DOp DC DVX
def wildT (l:List UInt8):Bool:=l.any fun c=>c==43||c==35
theorem wildg_dc (r:Int) (F:Own):(True)->DC Tryz.prog 126 [.int .i32 r] (([]:Own)++F) fun d G=>d = .bool (r==43||r==35)/\G=[]++F:=by
 intro hA
 refine DC.bodyS (n_:=9) (show Tryz.prog.funcs[126]? = some Tryz.f126 by kernel_rfl) rfl rfl (by rfl) ?_
 simp only [env0,List.cons_append,List.nil_append]
 have kw:=ksIs [0,2]
 have ow:=ownIs []
 repeat' (first
  | refine g_ ?_
  | ((with_reducible refine And.intro ?_ ?_);(exact sv))
  | (refine DW.cond (by rfl) ?_ ?_<;>(first | exact i0_ | (refine ic_ ?_;intro hb)))
  | ((with_reducible refine FVg_cases ?_ ?_)<;>(intro hb;rw [hb];revert hb;(first | exact i0_ | (refine i_ ?_;intro hb))))
  | refine r_ ?_
  | refine k_ ?_
  | refine o_ ?_
  | refine f_ ?_
  | with_reducible intro b)
 all_goals
  refine ⟨_,_,le.of_eq ?_,⟨rfl,rfl⟩,SubP.refl⟩
  simp_all
end
section
attribute [local irreducible] DW SeqD DV DOp DC DVX
def okAt (ls:List (List UInt8)) (i:Nat):Bool:=ls.getD i default==[43]||(ls.getD i default==[35]&&decide ((i:Int)=(ls.length:Int) - 1)) || !wildT (ls.getD i default)
def okF (ls:List (List UInt8)):Bool:=(List.range ls.length).all (okAt ls)
theorem okF_t {ls:List (List UInt8)} (h:∀ i,i<ls.length->okAt ls i=true):okF ls=true:=by
 unfold okF;rw [List.all_eq_true];intro i hi;exact h i (List.mem_range.1 hi)
theorem okF_f {ls:List (List UInt8)} {k:Nat} (hk:k<ls.length) (h:okAt ls k=false):okF ls=false:=by
 cases e:okF ls with
 | false=>rfl
 | true=>unfold okF at e;rw [List.all_eq_true] at e;rw [e k (List.mem_range.2 hk)] at h;cases h
theorem ok_s {ls:List (List UInt8)} {k:Nat} (h:∀ i,i<k->okAt ls i=true) (hk:okAt ls k=true):∀ i,i<k+1->okAt ls i=true:=fun i hi=>by
 rcases Nat.lt_or_eq_of_le (Nat.le_of_lt_succ hi) with h1 | rfl
 · exact h i h1
 · exact hk
end
section
attribute [local irreducible] DW SeqD DV DOp DC DVX
end
section
theorem st_at {l:List TDeed} (hn:l.length<=20) (h:∀ d∈l,deedOk d) {k:Nat} (hk:k<3):(tablesM l).length=3/\TR ((tablesM l).getD k default)/\Rng 20 ((tablesM l).getD k default)/\Lite 3072 ((tablesM l).getD k default):=by
 have hs:=Story.of h
 obtain ⟨t1,t2,_⟩:=hs.tab (n:=(k:Int)) ⟨by omega,by omega⟩
 have e:tabT (storyT l) (k:Int)=(tablesM l).getD k default:=by unfold tabT tablesM;rw [Int.toNat_natCast]
 rw [e] at t1 t2
 exact ⟨hs.lt,t1,t2.mono hn,story_lite hn t1 t2⟩
theorem st_top {t:TTable} (ht:TR t) (hr:Rng 20 t) (n e:Int):0<=topM t.seen n e/\topM t.seen n e<=20:=top_le ht.seen (fun d hd=>(hr.s d hd).2.2.2) n e
theorem st_no {t:TTable} (ht:TR t) (hr:Rng 20 t) {n:Int} (hn:3<=n) (e:Int):fencedL t.fences n e=false/\topM t.seen n e=0/\∀ r∈t.routes,r.dot.node≠n:=by
 have key:∀ m e,3<=m->topM t.seen m e=0:=fun m e hm=>by
  rcases top_cases ht.seen m e with ⟨d,hd,h1,_⟩ | ⟨_,h⟩
  · have:=(hr.s d hd).1;omega
  · exact h
 refine ⟨?_,key n e hn,fun r hr' hq=>?_⟩
 · cases hf:fencedL t.fences n e with
   | false=>rfl
   | true =>
    obtain ⟨x,hx,h1,_⟩:=fenced_iff.1 hf
    have:=(hr.f x hx).1;omega
 · have:=(ht.rok r hr').2.1
   rw [has_iff] at this
   have h2:=key r.dot.node r.dot.epoch (by omega)
   omega
theorem add_lite {m:Nat} {t:TTable} (h:Lite m t) (n e:Int) {f:Str} (hf:f.length<=65535):Lite (m+1) (routeAddM t n e f):=by
 unfold routeAddM
 split
 · have h1:=addM_len t.seen (nextDot t.seen n e)
   have h2:=insR_len (withoutR t.routes n e f) ⟨nextDot t.seen n e,f⟩
   have h3:=(without_sub t.routes n e f).length_le
   have:=h.s;have:=h.r
   refine ⟨by show (addM _ _).length<=_;omega,Nat.le_trans h.f (Nat.le_succ _),by show (insR _ _).length<=_;omega,Nat.le_trans h.c (Nat.le_succ _),fun r hr=>?_,h.ct,h.cp⟩
   rcases mem_insR.1 hr with rfl | hr
   · exact hf
   · exact h.rf r ((without_sub t.routes n e f).subset hr)
 · exact h.mono (Nat.le_succ _)
theorem fence_lite {m:Nat} {t:TTable} (h:Lite m t) (n e:Int):Lite (m+1) (fenceM t n e):=by
 obtain ⟨h1,h2,h3,h4⟩:=fenceM_facts t n e
 have:=h.s;have:=h.f;have:=h.r;have:=h.c;have:=h4.length_le
 exact ⟨by rw [h1];omega,by omega,by omega,by rw [h2];omega,fun r hr=>h.rf r (h4.subset hr),by rw [h2];exact h.ct,by rw [h2];exact h.cp⟩
def lineRp (r:TRoute):List UInt8:=lineZ [[114],dotP r.dot.node r.dot.epoch r.dot.n,hexM r.filter]
def lineSp (d:TDot):List UInt8:=lineZ [dotP d.node d.epoch d.n]
def lineFp (x:TFence):List UInt8:=lineZ [Lib.itoa x.node,Lib.itoa x.epoch]
def sumsP (t:TTable):List Int:=(bufsL lineRp cellP lineSp lineFp t).map fnvV
abbrev cellIn (c:TCell):Prop:=dotIn c.dot/\(natIn c.stamp.l/\natIn c.stamp.c/\natIn c.stamp.node)/\natIn c.qos/\c.topic.length<=1000/\c.payload.length<=1000
abbrev NP:TTable->Prop:=All4 dotIn (fun f=>natIn f.node/\natIn f.epoch) (fun r=>dotIn r.dot/\r.filter.length<=1000) cellIn
theorem getD_orq {α:Type} [Inhabited α] (l:List α) (k:Nat):l.getD k default∈l\/l.getD k default=default:=by
 by_cases h:k<l.length
 · exact .inl (getD_mem h)
 · exact .inr (by rw [List.getD_eq_getElem?_getD,List.getElem?_eq_none (by omega)];rfl)
theorem nat_0q:natIn 0:=⟨by decide,by decide⟩
theorem filterL_lenq {f:Str} (h:f∈filterL):f.length<=9:=by
 have:∀ f∈filterL,f.length<=9:=by decide
 exact this f h
theorem topicL_lenq {f:Str} (h:f∈topicL):f.length<=9:=by
 have:∀ f∈topicL,f.length<=9:=by decide
 exact this f h
theorem neat_of {t:TTable} (h:NP t) (hL:Lite 4000 t):Neat t:=by
 have hz:dotIn (default:TDot):=⟨nat_0q,nat_0q,nat_0q⟩
 refine ⟨hL.s,hL.f,hL.r,hL.c,fun k=>?_,fun k=>?_,fun k=>?_,fun k=>?_⟩
 · rcases getD_orq t.seen k with e | e
   · exact h.s _ e
   · rw [e];exact hz
 · rcases getD_orq t.fences k with e | e
   · exact h.f _ e
   · rw [e];exact ⟨nat_0q,nat_0q⟩
 · rcases getD_orq t.routes k with e | e
   · exact h.r _ e
   · rw [e];exact ⟨hz,Nat.zero_le _⟩
 · rcases getD_orq t.cells k with e | e
   · exact h.c _ e
   · rw [e];exact ⟨hz,⟨nat_0q,nat_0q,nat_0q⟩,nat_0q,Nat.zero_le _,Nat.zero_le _⟩
section
variable {t:TTable} (h:TR t) (hr:Rng 20 t) (hL:Lite 3072 t)
include h hr
theorem dot_inq {d:TDot} (hd:d∈dotsOf t.routes t.cells):dotIn d:=by
 have hh:=has_iff.1 (h.hasDots d hd)
 rcases top_cases h.seen d.node d.epoch with ⟨x,hx,h1,h2,h3⟩ | ⟨_,h3⟩
 · obtain ⟨a,b,c⟩:=hr.s x hx
   exact ⟨⟨by omega,by omega⟩,⟨by omega,by omega⟩,⟨by omega,by omega⟩⟩
 · omega
theorem story_np:NP t:=by
 refine ⟨fun d hd=>?_,fun x hx=>?_,fun x hx=>?_,fun x hx=>?_⟩
 · obtain ⟨a,b,c⟩:=hr.s d hd
   exact ⟨⟨by omega,by omega⟩,⟨by omega,by omega⟩,⟨by omega,by omega⟩⟩
 · obtain ⟨a,b⟩:=hr.f x hx
   exact ⟨⟨by omega,by omega⟩,⟨by omega,by omega⟩⟩
 · have:=filterL_lenq (hr.r x hx)
   exact ⟨dot_inq h hr (by simp only [dotsOf,List.mem_append,List.mem_map];exact .inl ⟨_,hx,rfl⟩),by omega⟩
 · obtain ⟨a1,a2,a3,a4,a5⟩:=hr.c x hx
   have:=topicL_lenq a1
   have hc:=(h.cok x hx).1
   simp only [cellB,stampedM,Bool.and_eq_true,decide_eq_true_eq] at hc
   exact ⟨dot_inq h hr (by simp only [dotsOf,List.mem_append,List.mem_map];exact .inr ⟨_,hx,rfl⟩),⟨⟨by omega,by omega⟩,⟨by omega,by omega⟩,⟨by omega,by omega⟩⟩,⟨by omega,by omega⟩,by omega,by omega⟩
theorem next_inq {n e:Int} (hn:natIn n) (he:natIn e):dotIn (nextDot t.seen n e):=by
 have:=st_top h hr n e
 exact ⟨hn,he,⟨by show (0:Int)<=topM _ _ _+1;omega,by show topM _ _ _+1<=_;omega⟩⟩
end
theorem put_lite {m:Nat} {t:TTable} (h:Lite m t) (n e:Int) (s:TStamp) {m1 m2:Str} (m3:Int) (h1:m1.length<=65535) (h2:m2.length<=1000000000):Lite (m+1) (cellPutM t n e s m1 m2 m3):=by
 unfold cellPutM
 split
 · have a1:=addM_len t.seen (nextDot t.seen n e)
   have a2:=cellIn_len t.cells (putC (nextDot t.seen n e) s.l s.c s.node m1 m2 m3)
   have:=h.s;have:=h.c
   refine ⟨by show (addM _ _).length<=_;omega,Nat.le_trans h.f (Nat.le_succ _),Nat.le_trans h.r (Nat.le_succ _),by show (cellInM _ _).length<=_;omega,h.rf,fun c hc=>?_,fun c hc=>?_⟩
   · rcases mem_cellIn hc with rfl | hc
     · exact h1
     · exact h.ct c hc
   · rcases mem_cellIn hc with rfl | hc
     · exact h2
     · exact h.cp c hc
 · exact h.mono (Nat.le_succ _)
structure Fit (t:TTable):Prop where
 neat:Neat t
 lite:Lite 1000000000 t
 tab:tabB t=true
section
variable {t:TTable} (h:TR t) (hr:Rng 20 t) (hL:Lite 3072 t)
include h hr hL
theorem fit_t:Fit t:=⟨neat_of (story_np h hr) (hL.mono (by decide)),hL.mono (by decide),tr_iff.2 h⟩
theorem fit_add {f:Str} (hf:f.length<=1000):Fit (routeAddM t 3 1 f):=by
 have hd:dotIn (nextDot t.seen 3 1):=next_inq h hr ⟨by decide,by decide⟩ ⟨by decide,by decide⟩
 have hl:=add_lite hL 3 1 (f:=f) (by omega)
 exact ⟨neat_of ((story_np h hr).add 3 1 f (fun _ _=>hd) ⟨hd,hf⟩) (hl.mono (by decide)),hl.mono (by decide),tr_iff.2 (h.add 3 1 f)⟩
theorem fit_put {tp:Str} (hf:tp.length<=1000):Fit (cellPutM t 3 1 ⟨1000,0,3⟩ tp [122] 0):=by
 have hd:dotIn (nextDot t.seen 3 1):=next_inq h hr ⟨by decide,by decide⟩ ⟨by decide,by decide⟩
 have hl:=put_lite hL 3 1 ⟨1000,0,3⟩ (m1:=tp) (m2:=[122]) 0 (by omega) (by simp)
 refine ⟨neat_of ((story_np h hr).put 3 1 ⟨1000,0,3⟩ tp [122] 0 hd ?_) (hl.mono (by decide)),hl.mono (by decide),tr_iff.2 (h.put 3 1 _ tp [122] 0)⟩
 exact ⟨hd,⟨⟨by show (0:Int)<=1000;decide,by show (1000:Int)<=_;decide⟩,nat_0q,⟨by show (0:Int)<=3;decide,by show (3:Int)<=_;decide⟩⟩,by unfold putC;exact nat_0q,hf,by show (1:Nat)<=1000;decide⟩
theorem fit_fence {e:Int} (he:natIn e):Fit (fenceM t 11 e):=by
 have hl:=fence_lite hL 11 e
 exact ⟨neat_of ((story_np h hr).fence 11 e ⟨⟨by show (0:Int)<=11;decide,by show (11:Int)<=_;decide⟩,he⟩) (hl.mono (by decide)),hl.mono (by decide),tr_iff.2 (h.fence 11 e)⟩
end
abbrev bufsP (t:TTable):List Str:=bufsL lineRp cellP lineSp lineFp t
theorem sumsP_len (t:TTable):(sumsP t).length=10:=by unfold sumsP;rw [List.length_map,bufs_len]
theorem sumsP_at (t:TTable) {i:Nat} (h:i<10):(sumsP t).getD i default=fnvV ((bufsP t).getD i []):=by
 unfold sumsP
 have:i<(bufsP t).length:=by rw [bufs_len];exact h
 rw [List.getD_eq_getElem?_getD,List.getElem?_map,List.getElem?_eq_getElem this,List.getD_eq_getElem?_getD,List.getElem?_eq_getElem this];rfl
def diffT (t u:TTable):List Int:=differK (sumsP t) (sumsP u) 10
theorem diff_only {t u:TTable} {p q:Int} (h:∀ i:Nat,i<10->(i:Int)≠p->(i:Int)≠q->(bufsP t).getD i []=(bufsP u).getD i []):(∀ k,k<(diffT t u).length->(diffT t u).getD k default=p\/(diffT t u).getD k default=q)/\(diffT t u).length<=2:=by
 have hm:∀ x∈diffT t u,x=p\/x=q:=fun x hx=>by
  obtain ⟨i,hi,rfl,hd⟩:=differ_mem hx
  rcases hd with hd | hd
  · exact absurd (by rw [sumsP_len,sumsP_len]) hd
  · by_cases h1:(i:Int)=p
    · exact .inl h1
    · by_cases h2:(i:Int)=q
      · exact .inr h2
      · exact absurd (by rw [sumsP_at t hi,sumsP_at u hi,h i hi h1 h2]) hd
 exact ⟨fun k hk=>hm _ (getD_mem hk),two_only (differ_rise _ _ _) hm⟩
theorem diff_len (t u:TTable):(diffT t u).length<=10:=differ_len _ _ _
theorem diff_self (t:TTable):diffT t t=[]:=by simp [diffT,differK]
theorem add_only (t:TTable) (f:Str):(∀ k,k<(diffT t (routeAddM t 3 1 f)).length->(diffT t (routeAddM t 3 1 f)).getD k default=bucketV f\/(diffT t (routeAddM t 3 1 f)).getD k default=8)/\(diffT t (routeAddM t 3 1 f)).length<=2 :=
 diff_only fun i hi h1 h2=>(bufs_same hi (add_routes t 3 1 f h1) (by rw [(add_rest t 3 1 f).1]) (.inl (by omega)) (.inr (add_rest t 3 1 f).2)).symm
theorem put_only (t:TTable) (f:Str):(∀ k,k<(diffT t (cellPutM t 3 1 ⟨1000,0,3⟩ f [122] 0)).length->(diffT t (cellPutM t 3 1 ⟨1000,0,3⟩ f [122] 0)).getD k default=bucketV f\/(diffT t (cellPutM t 3 1 ⟨1000,0,3⟩ f [122] 0)).getD k default=8)/\(diffT t (cellPutM t 3 1 ⟨1000,0,3⟩ f [122] 0)).length<=2 :=
 diff_only fun i hi h1 h2=>(bufs_same hi (by rw [(put_rest t 3 1 ⟨1000,0,3⟩ f [122] 0).1]) (put_cells t 3 1 ⟨1000,0,3⟩ f [122] 0 h1) (.inl (by omega)) (.inr (put_rest t 3 1 ⟨1000,0,3⟩ f [122] 0).2)).symm
theorem fence_rest {t:TTable} (h:TR t) (hr:Rng 20 t) (e:Int):(fenceM t 11 e).seen=t.seen/\(fenceM t 11 e).routes=t.routes/\(fenceM t 11 e).cells=t.cells:=by
 unfold fenceM
 split
 · refine ⟨rfl,?_,rfl⟩
   refine List.filter_eq_self.2 fun r hm=>?_
   have h0:=(st_no h hr (n:=11) (by decide) e).2.2 r hm
   have h1:=(h.rok r hm).2.2
   cases hf:fencedL (fenceL t.fences 11 e) r.dot.node r.dot.epoch with
   | false=>rfl
   | true =>
    rcases (fenced_fenceL h.fences).1 hf with ⟨a,_⟩ | ⟨_,a⟩
    · exact absurd a h0
    · rw [h1] at a;exact absurd a (by decide)
 · exact ⟨rfl,rfl,rfl⟩
theorem fence_only {t:TTable} (h:TR t) (hr:Rng 20 t) (e:Int):∀ k,k<(diffT t (fenceM t 11 e)).length->(diffT t (fenceM t 11 e)).getD k default=9:=fun k hk=>by
 obtain ⟨a,b,c⟩:=fence_rest h hr e
 have:=(diff_only (t:=t) (u:=fenceM t 11 e) (p:=9) (q:=9) fun i hi h1 _=>bufs_same hi (by rw [b]) (by rw [c]) (.inr a.symm) (.inl (by omega))).1 k hk
 omega
end
section
open Go.RowKit Go.ChangeShapes Go.WideShapes Go.Deep
theorem row_sim {w:World} {K:Own} {g:Nat} {o:Obj} (h:Sim w K) (hk:∀ e∈K,∃ b cs,e = .know b cs) (hg:w.heap[g]? = some o):Sim w (loose :: .row g o::K):=by
 have st:∀ a,stable w K a->stable w (loose :: .row g o::K) a/\w.cell? a=w.cell? a:=fun a ha=>⟨⟨ha.1,fun e he=>by
  rcases List.mem_cons.1 he with rfl | he
  · exact fun h=>h
  · rcases List.mem_cons.1 he with rfl | he
    · exact fun h=>h
    · exact ha.2 e he⟩,rfl⟩
 refine ⟨fun e he=>?_,?_,?_⟩
 · rcases List.mem_cons.1 he with rfl | he
   · exact fun k hk=>absurd hk (Nat.not_lt_zero _)
   · rcases List.mem_cons.1 he with rfl | he
     · exact hg
     · exact Ent.holds_mono (h.holds e he) st fun _ _=>rfl
 · exact List.pairwise_cons.2 ⟨fun f hf a ha=>ha.elim,List.pairwise_cons.2 ⟨fun f hf a ha=>ha.elim,h.disj⟩⟩
 · refine List.pairwise_cons.2 ⟨fun f hf a ha=>ha.elim,List.pairwise_cons.2 ⟨fun f hf a ha hb=>?_,h.apart⟩⟩
   obtain ⟨b,cs,rfl⟩:=hk f hf
   exact hb
theorem DC.lawR {P:Program} {f:FuncId} {args:List V} {K:Own} {g:Nat} {o:Obj} {xs:Array Value} {w:World} (h:DC P f args (loose :: .row g o::K) fun d H'=>d = .bool true/\H'=loose :: .row g o::K) (hK:Sim w K) (hk:∀ e∈K,∃ b cs,e = .know b cs) (hg:w.heap[g]? = some o)
  (hn:xs.size=args.length) (hr:∀ k,k<args.length->R (stable w []) w (xs.getD k undef) (args.getD k .any)) :
  Calls P f xs w fun e w'=>e = .returned (.bool true)/\Below w.heap.size w w':=by
 have own:∀ e∈(loose :: .row g o::K:Own),∀ a,¬ e.owns a:=fun e he a=>by
  rcases List.mem_cons.1 he with rfl | he
  · exact fun h=>h
  · rcases List.mem_cons.1 he with rfl | he
    · exact fun h=>h
    · obtain ⟨b,cs,rfl⟩:=hk e he
      exact fun h=>h
 have st:∀ a,stable w [] a->stable w (loose :: .row g o::K) a/\w.cell? a=w.cell? a:=fun a ha=>⟨⟨ha.1,fun e he=>own e he a⟩,rfl⟩
 refine (h.2 xs w (row_sim hK hk hg) hn fun k hk=>(hr k hk).mono st).mono fun e w' ⟨v,d,H',he,s,x,r,hd,hH⟩=>?_
 subst hd
 subst hH
 cases r
 refine ⟨he,x.os,x.tape,x.output,x.size,fun b hb=>?_⟩
 by_cases hbg:b=g
 · subst hbg
   have h1:w'.heap[b]? = some o:=s.holds (.row b o) (by simp)
   rw [h1,hg]
 · refine (x.full b hb fun e he ht=>?_).1
   rcases List.mem_cons.1 he with rfl | he
   · exact ht
   · rcases List.mem_cons.1 he with rfl | he
     · exact hbg ht
     · obtain ⟨b,cs,rfl⟩:=hk e he
       exact ht
theorem known_know {m:Int}:∀ e∈([knF,knA, .know 3 [.int .i64 m]]:Own),∃ b cs,e = .know b cs:=fun e he=>by
 simp only [List.mem_cons,List.not_mem_nil,or_false] at he
 rcases he with rfl | rfl | rfl<;>exact ⟨_,_,rfl⟩
theorem pow_obj {w:World} (h:Go.Lib.VarReads Tryz.prog w "internal/strconv.uint64pow10" (Go.Lib.tabData .u64 Go.Lib.pow10Tab)):∃ T fr,w.heap[0]? = some (pow10O T fr):=by
 obtain ⟨g,t,cs,fuel,p,h1,h2,h3,h4⟩:=h
 have e1:g=0:=Option.some.inj (h1.symm.trans (by kernel_rfl))
 subst e1
 have e2:t=262:=Option.some.inj (h2.symm.trans (by kernel_rfl))
 subst e2
 have e3:=Go.Lib.cells_of_tab (e:=51) (n:=20) Tryz.underlying262 Tryz.underlying51 (by kernel_rfl) (by kernel_rfl) h4
 unfold World.var? at h3
 rw [show Program.globalNamed Tryz.prog "internal/strconv.uint64pow10" = some 0 from by kernel_rfl] at h3
 simp only [Option.bind_some] at h3
 cases hh:w.heap[0]? with
 | none=>rw [hh] at h3;exact absurd h3 (by simp)
 | some o =>
  rw [hh] at h3
  cases o with
  | cells xs T fr =>
   simp only [Option.some.injEq] at h3
   subst h3
   refine ⟨T,fr,?_⟩
   unfold pow10O
   rw [<-e3]
  | _=>exact absurd h3 (by simp)
end
end Go.Proofs.YtbmbcjmgjdnlnaaGreatDoor
