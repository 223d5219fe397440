/- The trie: all filters that anybody has. -/
import Derived.Test.YtphhijelneaedaaDoorTjx
import Derived.Test.YtphhijelneaedaaDoorItx
import Derived.Test.YtphhijelneaedaaDoorSb
import Derived.KernelRfl
namespace Go.Proofs.YtphhijelneaedaaDoor
open Go.RowKit
set_option linter.unusedSimpArgs false
set_option linter.unusedVariables false
set_option linter.unusedSectionVars false
set_option maxHeartbeats 4000000
set_option maxRecDepth 100000
section
theorem cells_str:∀ l:List Str,cells (l.map V.str)=l.map V.str
 | []=>rfl
 | x::l=>by rw [List.map_cons,cells_cons,cells_str l];rfl
def outS (Q:List (List Str)):List V:=(Q.map joinS).map V.str
theorem outS_s (Q:List (List Str)) (p:List Str):outS (Q++[p])=outS Q++[.str (joinS p)]:=by simp [outS]
def cntQ (Q:List (List Str)):Nat:=Q.length
theorem cntQ_s (Q:List (List Str)) (p:List Str):cntQ (Q++[p])=cntQ Q+1:=by simp [cntQ]
theorem DC.frzT {P:Program} {f:FuncId} {args:List V} {H F:Own} {sz:Nat} {l:List V} (hz:0<sz) (hl:∀ y∈l,y.n=sz)
  (h:DC P f args H fun d G=>∃ v,d = .ar v l.length/\G = .arr sz v (cells l)::F):DC P f args H fun d G=>∃ v,d = .gs v l/\G = .tail sz v::F :=
 ⟨h.1,fun xs w hs hn hr=>(h.2 xs w hs hn hr).mono fun e w' ⟨u,d,H',he,s,ex,r,v,hd,hG⟩=>by
   subst hd hG
   obtain ⟨⟨g1,g2⟩,g3⟩:=Sim.frz (L1:=[]) s hz hl
   exact ⟨u, .gs v l,_,he,g1,ex.trans g2,R.cv g3 (Cv.hit _) (g2.rel r),v,rfl,rfl⟩⟩
attribute [local irreducible] DW SeqD DV DOp DC DVX
theorem sv_closS_dc {p:Prop} (h:p:=by first | exact sv | (simp [V.one]<;>omega) | fail):p:=h
theorem closS_dc (l:List Str) (p:Addr) (n cap:Nat) (F:Own):(l.length<=1000000000)->DC Tryd.prog 69 [.gs (.slice (some p) n cap) (l.map V.str)] (([]:Own)++F) fun d G=>∃ v,d = .ar v l.length/\G = .arr 1 v (cells (l.map V.str))::F:=by
 intro hA
 have hl:=hA
 refine DC.bodyS (n_:=8) (show Tryd.prog.funcs[69]? = some Tryd.f69 by kernel_rfl) rfl rfl (by rfl) ?_
 simp only [env0,List.cons_append,List.nil_append]
 have kw:=ksIs [0,2,4]
 have ow:=ownIs [5]
 repeat' (first
  | refine g_ ?_
  | ((with_reducible refine And.intro ?_ ?_);(exact sv_closS_dc))
  | (refine DW.cond (by rfl) ?_ ?_<;>(first | exact i0_ | (refine ic_ ?_;intro hb)))
  | ((with_reducible refine FVg_cases ?_ ?_)<;>(intro hb;rw [hb];revert hb;(first | exact i0_ | (refine i_ ?_;intro hb))))
  | refine r_ ?_
  | refine k_ ?_
  | ((first | (refine DOp.lista_ [5] rfl rfl ?_) | (refine DOp.makea_ [5] rfl rfl rfl rfl ?_))<;>(refine s_ ?_))
  | refine o_ ?_
  | refine f_ ?_
  | with_reducible intro b)
 all_goals first
 | (refine ⟨_,_,le.rfl_,⟨_,rfl,rfl⟩,?_⟩;(exact sub_);done)
theorem closN_dc (n cap:Nat) (F:Own):(True)->DC Tryd.prog 69 [.gs (.slice none n cap) []] (([]:Own)++F) fun d G=>d = .gs (.slice none 0 0) []/\G=[]++F:=by
 intro hA
 refine DC.bodyS (n_:=8) (show Tryd.prog.funcs[69]? = some Tryd.f69 by kernel_rfl) rfl rfl (by rfl) ?_
 simp only [env0,List.cons_append,List.nil_append]
 have kw:=ksIs [0,2,4]
 have ow:=ownIs []
 repeat' (first
  | refine g_ ?_
  | ((with_reducible refine And.intro ?_ ?_);(exact sv))
  | (refine DW.cond (by rfl) ?_ ?_<;>(first | exact i0_ | (refine ic_ ?_;intro hb)))
  | ((with_reducible refine FVg_cases ?_ ?_)<;>(intro hb;rw [hb];revert hb;(first | exact i0_ | (refine i_ ?_;intro hb))))
  | refine r_ ?_
  | refine k_ ?_
  | ((first | (refine DOp.lista_ [5] rfl rfl ?_) | (refine DOp.makea_ [5] rfl rfl rfl rfl ?_))<;>(refine s_ ?_))
  | refine o_ ?_
  | refine f_ ?_
  | with_reducible intro b)
 (first | exact fin_ | refine finq_ ?_)
 all_goals rfl
theorem clos_dc (l:List Str) (F:Own):l.length<=1000000000->DC Tryd.prog 69 [.sl (l.map V.str)] (([]:Own)++F) fun d G=>∃ v,d = .ar v l.length/\G = .arr 1 v (cells (l.map V.str))::F:=fun h=>DC.someV (by kernel_rfl) fun a cap ha=>by
 cases a with
 | none =>
  have e:=ha rfl
  have el:l=[]:=List.map_eq_nil_iff.1 e
  subst el
  exact (DC.own0 1 (closN_dc _ _ F trivial)).mono fun d G ⟨h1,h2⟩=>⟨_,h1,h2⟩
 | some p=>exact closS_dc l p _ _ F h
theorem cloS2_dc (l:List Str) (F:Own):l.length<=1000000000->DC Tryd.prog 69 [.sl (l.map V.str)] (([]:Own)++F) fun d G=>∃ v,d = .gs v (l.map V.str)/\G = .tail 1 v::F:=fun h =>
 DC.frzT (by decide) (fun y hy=>by obtain ⟨x,_,rfl⟩:=List.mem_map.1 hy;rfl) ((clos_dc l F h).mono fun d G ⟨v,h1,h2⟩=>⟨v,by rw [List.length_map];exact h1,h2⟩)
theorem layXtra:Go.Proofs.Builder.Extra Tryd.prog layJoin_ren where
 sizeBuilder:=by kernel_rfl
 liesBuilder:=by kernel_rfl
 t5:=Tryd.underlying5
 a5:=Tryd.isAgg5
 z5:=Tryd.sizeOf5
 v5:=Tryd.zeroValue5
 infoByte:=by kernel_rfl
 cellsByte:=by kernel_rfl
 sizeByte:=by kernel_rfl
 neB5:=by decide
theorem join7_dc (p:List Str) (F:Own):(p.length<=1000000/\(joinS p).length<=1000000000)->DC Tryd.prog 58 [.sl (p.map V.str), .str [47]] ([loose]++F) fun d G=>d = .str (joinS p)/\G=[loose]++F:=fun h =>
 DC.join layJoin layXtra (by kernel_rfl) p [47] F ⟨h.1,Nat.le_trans h.2 (by decide)⟩
def Hangs (h hs:List Nd) (r:Nat) (p:List Str):Prop:=∀ s d,fol h r (p++s)=some d->∃ x,fnd h d=some x/\fnd hs d=some x
theorem fnd_skip {x:Nd} {d:Nat} (hd:x.b≠d):∀ {h1 h2:List Nd},fnd (h1++x::h2) d=fnd (h1++h2) d
 | [],h2=>by rw [List.nil_append,fnd_cons,if_neg hd];rfl
 | y::h1,h2=>by rw [List.cons_append,List.cons_append,fnd_cons,fnd_cons,fnd_skip hd]
theorem hang_kid {h h1 h2:List Nd} {r:Nat} {m:List Str->Str->Option Int} {p:List Str} {nd:Nd} (ht:Tri h r m) (hp:fol h r p=some nd.b) (hh:Hangs h (h1++nd::h2) r p) (x:Str):Hangs h (h1++h2) r (p++[x]):=by
 intro s d hd
 rw [List.append_assoc] at hd
 obtain ⟨y,y1,y2⟩:=hh ([x]++s) d hd
 refine ⟨y,y1,?_⟩
 rw [<-fnd_skip (x:=nd) (fun e=>?_)]
 · exact y2
 · rw [<-e] at hd
   have:=congrArg List.length (ht.inj _ _ _ hd hp)
   simp at this
structure WI (m:List Str->Str->Option Int) (p:List Str) (Q0:List (List Str)) (Lf:List (Str×Nat)) (Q:List (List Str)):Prop where
 nl:(Lf.map (·.1)).Nodup
 nd:Q.Nodup
 mem:∀ q,q∈Q↔q∈Q0\/(p <+: q/\(∃ k,(m q k).isSome=true)/\∀ e∈Lf,¬ (p++[e.1]) <+: q)
structure WQ (m:List Str->Str->Option Int) (p:List Str) (Q:List (List Str)):Prop where
 nd:Q.Nodup
 has:∀ q∈Q,∃ k,(m q k).isSome=true
 off:∀ q∈Q,¬ p <+: q
theorem pre_two {p q:List Str} {x y:Str} (h1:(p++[x]) <+: q) (h2:(p++[y]) <+: q):x=y:=by
 obtain ⟨s,rfl⟩:=h1
 obtain ⟨t,h⟩:=h2
 simp only [List.append_assoc,List.cons_append,List.nil_append] at h
 have:=List.append_cancel_left h
 injection this with h1 _
 exact h1.symm
theorem pre_more {p q:List Str} (h:p <+: q):q=p\/∃ x,(p++[x]) <+: q:=by
 obtain ⟨s,rfl⟩:=h
 cases s with
 | nil=>exact .inl (List.append_nil p)
 | cons x s=>exact .inr ⟨x,s,by simp⟩
section
variable {h:List Nd} {r b:Nat} {m:List Str->Str->Option Int} {p:List Str} {nd:Nd} {Q0 Q:List (List Str)} (ht:Tri h r m) (hp:fol h r p=some b) (hx:fnd h b=some nd)
include ht hp hx
theorem edge_of {q:List Str} {x k:Str} (hm:(m q k).isSome=true) (hq:(p++[x]) <+: q):∃ e∈nd.next,e.1=x:=by
 have hf:=ht.fkid hp hx x
 cases hl:lookA x nd.next with
 | some c=>exact ⟨_,lookA_some hl,rfl⟩
 | none =>
  rw [hl] at hf
  obtain ⟨s,rfl⟩:=hq
  rw [ht.gone hf s k] at hm;cases hm
theorem wi_start_no (hW:WQ m p Q0) (hk:nd.keys=[]):WI m p Q0 nd.next Q0:=by
 refine ⟨(ht.nn _ _ hx).1,hW.nd,fun q=>⟨.inl,?_⟩⟩
 rintro (h1 | ⟨h1,⟨k,h2⟩,h3⟩)
 · exact h1
 · exfalso
   rcases pre_more h1 with rfl | ⟨x,hx'⟩
   · rw [<-ht.has _ _ _ hp hx,hk] at h2;cases h2
   · obtain ⟨e,he,rfl⟩:=edge_of ht hp hx h2 hx'
     exact h3 e he hx'
theorem wi_start_yes (hW:WQ m p Q0) (hk:nd.keys≠[]):WI m p Q0 nd.next (Q0++[p]):=by
 have hs:∃ k,(m p k).isSome=true:=by
  cases hks:nd.keys with
  | nil=>exact absurd hks hk
  | cons e l=>exact ⟨e.1,by rw [<-ht.has _ _ _ hp hx,hks,lookA_cons,if_pos rfl];rfl⟩
 refine ⟨(ht.nn _ _ hx).1,?_,fun q=>?_⟩
 · rw [List.nodup_append]
   exact ⟨hW.nd,by simp,fun a ha c hc e=>by rw [List.mem_singleton.1 hc] at e;exact hW.off a ha (e▸List.prefix_refl _)⟩
 · rw [List.mem_append,List.mem_singleton]
   constructor
   · rintro (h1 | rfl)
     · exact .inl h1
     · exact .inr ⟨List.prefix_refl _,hs,fun e _ hh=>pre_ne _ _ hh⟩
   · rintro (h1 | ⟨h1,⟨k,h2⟩,h3⟩)
     · exact .inl h1
     · rcases pre_more h1 with rfl | ⟨x,hx'⟩
       · exact .inr rfl
       · exfalso
         obtain ⟨e,he,rfl⟩:=edge_of ht hp hx h2 hx'
         exact h3 e he hx'
end
theorem wi_kid {m:List Str->Str->Option Int} {p:List Str} {Q0 Q:List (List Str)} {A C:List (Str×Nat)} {e:Str×Nat} (hW:WQ m p Q0) (hI:WI m p Q0 (A++e::C) Q):WQ m (p++[e.1]) Q:=by
 refine ⟨hI.nd,fun q hq=>?_,fun q hq hh=>?_⟩
 · rcases (hI.mem q).1 hq with h1 | h1
   · exact hW.has q h1
   · exact h1.2.1
 · rcases (hI.mem q).1 hq with h1 | h1
   · exact hW.off q h1 ((List.prefix_append _ _).trans hh)
   · exact h1.2.2 e (by simp) hh
theorem wi_next {m:List Str->Str->Option Int} {p:List Str} {Q0 Q Q':List (List Str)} {A C:List (Str×Nat)} {e:Str×Nat} (hI:WI m p Q0 (A++e::C) Q) (hn:Q'.Nodup) (hm:∀ q,q∈Q'↔q∈Q\/((p++[e.1]) <+: q/\∃ k,(m q k).isSome=true)):WI m p Q0 (A++C) Q':=by
 have hnl:=hI.nl
 rw [List.map_append,List.map_cons,List.nodup_append,List.nodup_cons] at hnl
 refine ⟨?_,hn,fun q=>?_⟩
 · have:=hI.nl
   rw [List.map_append,List.map_cons] at this
   rw [List.map_append]
   exact this.sublist ((List.sublist_cons_self _ _).append_left _)
 · rw [hm,hI.mem]
   constructor
   · rintro ((h1 | ⟨h1,h2,h3⟩) | ⟨h1,h2⟩)
     · exact .inl h1
     · exact .inr ⟨h1,h2,fun x hx=>h3 x (by
        rcases List.mem_append.1 hx with h | h
        · exact List.mem_append_left _ h
        · exact List.mem_append_right _ (List.mem_cons_of_mem _ h))⟩
     · refine .inr ⟨(List.prefix_append _ _).trans h1,h2,fun x hx hh=>?_⟩
       have e1:=pre_two h1 hh
       rcases List.mem_append.1 hx with h | h
       · exact hnl.2.2 x.1 (List.mem_map.2 ⟨x,h,rfl⟩) e.1 List.mem_cons_self e1.symm
       · exact hnl.2.1.1 (e1▸List.mem_map.2 ⟨x,h,rfl⟩)
   · rintro (h1 | ⟨h1,h2,h3⟩)
     · exact .inl (.inl h1)
     · by_cases hh:(p++[e.1]) <+: q
       · exact .inr ⟨hh,h2⟩
       · refine .inl (.inr ⟨h1,h2,fun x hx=>?_⟩)
         rcases List.mem_append.1 hx with h | h
         · exact h3 x (List.mem_append_left _ h)
         · rcases List.mem_cons.1 h with rfl | h
           · exact hh
           · exact h3 x (List.mem_append_right _ h)
structure WB (m:List Str->Str->Option Int):Prop where
 few:∀ Q:List (List Str),Q.Nodup->(∀ q∈Q,∃ k,(m q k).isSome=true)->Q.length<=1000000000
 small:∀ p k,(m p k).isSome=true->(joinS p).length<=65535
attribute [local irreducible] Nd.own ownH joinS outS cntQ
theorem fil1_dc (p:List Str) (ob:Nat) (v:Value) (Q:List (List Str)) (F:Own):(cntQ Q<=2000000000)->DC Tryd.prog 39 [.str (joinS p), .raw (.pointer (some ⟨ob,0,none⟩))] (.blk ob [.ar v (cntQ Q)] :: .arr 1 v (outS Q)::[]++F) fun d G=>∃ v',d = .tup []/\G = .blk ob [.ar v' (cntQ (Q++[p]))] :: .arr 1 v' (outS (Q++[p]))::F:=by
 intro hA
 have hQ:=hA
 refine DC.bodyS (n_:=7) (show Tryd.prog.funcs[39]? = some Tryd.f39 by kernel_rfl) rfl rfl (by rfl) ?_
 simp only [env0,List.cons_append,List.nil_append]
 have kw:=ksIs [0,1]
 have ow:=ownIs []
 repeat' (first
  | refine g_ ?_
  | ((with_reducible refine And.intro ?_ ?_);(exact sv))
  | (refine DW.cond (by rfl) ?_ ?_<;>(first | exact i0_ | (refine ic_ ?_;intro hb)))
  | ((with_reducible refine FVg_cases ?_ ?_)<;>(intro hb;rw [hb];revert hb;(first | exact i0_ | (refine i_ ?_;intro hb))))
  | refine r_ ?_
  | refine k_ ?_
  | refine o_ ?_
  | refine f_ ?_
  | with_reducible intro b)
 all_goals first
 | (refine ⟨_,_,le.rfl_,⟨b,rfl,rfl⟩,?_⟩;(rw [outS_s,cntQ_s]);(exact sub_);done)
 | (trace_state;fail)
abbrev PM:=List (Str×Nat)
abbrev QL:=List (List Str)
theorem sv_walk1_dc {p:Prop} (h:p:=by first | exact sv | exact ⟨hpl,hjl (by (try simp only at hb);omega)⟩ | (refine ⟨hang_kid ht hp hh _,hkid _ (hsub _ ?_),wi_kid hW hI⟩;simp) | exact hQl | fail):p:=h
theorem s_walk1_dc {P Q:Prop} (q:Q) (h:Hid Q->P:=by (intro q;simp (maxSteps:=1000000) (disch:=omega) only [push_cast,↓reduceIte,reduceCtorEq,Nat.reduceAdd,Nat.reduceMul,Nat.reduceLT,Nat.reduceLeDiff,Nat.reduceEqDiff,Nat.reduceSub,Int.reduceToNat,Int.reduceLT,Int.reduceLE,Int.reduceAdd,Int.reduceSub,Int.reduceMul,Int.reduceNeg,Nat.reduceBEq,Int.reduceBEq,Int.reduceBNe,Nat.reduceBNe,Int.reduceEq,hlk,hC,look_nil,upd_nil,look_str,upd_str,drop_str,opt_bool,opt_int,opt_some,entM_nil,entM_len,keyS_70,keyS0_70,zeroD_65,keyS_71,keyS0_71,zeroD_3,upd_strP,upd_strI,drop_str,some_mapC,none_mapC,Option.getD_some,Option.getD_none,Option.isSome_some,Option.isSome_none,entM_app];exact q.1)):P:=h ⟨q⟩
section
attribute [local push_cast 2000] look_nil upd_nil look_str upd_str drop_str opt_bool opt_int opt_some entM_nil entM_len keyS_70 keyS0_70 zeroD_65 keyS_71 keyS0_71 zeroD_3 upd_strP upd_strI some_mapC none_mapC Option.getD_some Option.getD_none Option.isSome_some Option.isSome_none entM_app
theorem walk1_dc (h:List Nd) (r:Nat) (m:List Str->Str->Option Int) (ob:Nat) (hs:List Nd) (p:List Str) (b:Nat) (v:Value) (Q:List (List Str)) (nd:Nd) (F:Own):((Tri h r m/\WB m)/\(Hangs h hs r p/\fol h r p=some b/\WQ m p Q)/\(fnd h b=some nd/\fnd hs b=some nd)/\(∀ (hs:List Nd) (x:Str) (c:Nat) (v:Value) (Q:List (List Str)) (F:Own),(Hangs h hs r (p++[x])/\fol h r (p++[x])=some c/\WQ m (p++[x]) Q)->DC Tryd.prog 38 [.raw (.pointer (some ⟨c,0,none⟩)), .sl (p.map V.str++[.str x]), .fn (.func 39) [] [.raw (.pointer (some ⟨ob,0,none⟩))]] ((loose :: .blk ob [.ar v (cntQ Q)] :: .arr 1 v (outS Q)::(ownH hs++[]))++F) fun d G=>∃ (Q':List (List Str)) (v':Value),(Q'.Nodup/\∀ q,q∈Q'↔q∈Q\/((p++[x]) <+: q/\∃ k,(m q k).isSome=true))/\d = .tup []/\G=loose :: .blk ob [.ar v' (cntQ Q')] :: .arr 1 v' (outS Q')::(ownH hs++F)))->DC Tryd.prog 38 [.raw (.pointer (some ⟨b,0,none⟩)), .sl (p.map V.str), .fn (.func 39) [] [.raw (.pointer (some ⟨ob,0,none⟩))]] (loose :: .blk ob [.ar v (cntQ Q)] :: .arr 1 v (outS Q)::(ownH hs++[])++F) fun d G=>∃ (Q':List (List Str)) (v':Value),(Q'.Nodup/\∀ q,q∈Q'↔q∈Q\/(p <+: q/\∃ k,(m q k).isSome=true))/\d = .tup []/\G=loose :: .blk ob [.ar v' (cntQ Q')] :: .arr 1 v' (outS Q')::(ownH hs++F):=by
 intro hA
 obtain ⟨⟨ht,hWB⟩,⟨hh,hp,hW⟩,⟨hxx,hx2⟩,hcl⟩:=hA
 refine DC.bodyS (n_:=36) (show Tryd.prog.funcs[38]? = some Tryd.f38 by kernel_rfl) rfl rfl (by rfl) ?_
 simp only [env0,List.append_assoc,List.cons_append,List.nil_append]
 have kw:=ksIs [0,1,2,6,7,13,22,24]
 have ow:=ownIs [12]
 have hlk:True:=trivial
 have hC:True:=trivial
 have hpl:p.length<=1000000:=Nat.le_trans (ht.dep _ _ hp) (by decide)
 have hjl:0<nd.keys.length->(joinS p).length<=1000000000:=fun h0=>by
  cases hks:nd.keys with
  | nil=>rw [hks] at h0;exact absurd h0 (Nat.lt_irrefl _)
  | cons e l=>exact Nat.le_trans (hWB.small p e.1 (by rw [<-ht.has _ _ _ hp hxx,hks,lookA_cons,if_pos rfl];rfl)) (by decide)
 have hQl:cntQ Q<=2000000000:=Nat.le_trans (by unfold cntQ;exact hWB.few Q hW.nd hW.has) (by decide)
 repeat' (first
  | ((fail_if_success (have zz:=hop));(obtain ⟨_,rfl⟩:=fnd_some hx2);(with_reducible apply DW.openR 2 hx2);(repeat (with_reducible first | refine OutL.here ?_ | refine OutL.next ?_ | refine OutL.skip ?_));(intro g1 g2 hg);(subst hg);(have hop:True:=trivial);(have hkid:∀ e∈nd.next,fol h r (p++[e.1])=some e.2:=fun e he=>by rw [ht.fkid hp hxx];exact lookA_mem (ht.nn _ _ hxx).1 he);(unfold Nd.own;simp only [List.cons_append,List.nil_append]))
  | ((refine DOp.rangem_ rfl rfl ?_);(repeat (with_reducible first | refine OnM.here ?_ | refine OnM.next ?_ | (refine OnM.inN (by assumption) ?_;with_reducible intro C hC) | (refine OnM.inK (by assumption) ?_;with_reducible intro C hC) | refine OnM.skip ?_));(refine And.intro (by rw [ty_70]) ?_);(with_reducible intro rI);refine s_walk1_dc ?_)
  | ((refine DOp.entrym_ rfl rfl ?_);(repeat (with_reducible first | refine OnG.here ?_ | refine OnG.next ?_ | refine OnG.skip ?_));(refine ⟨_,rfl,?_⟩);refine s_walk1_dc ?_)
  | ((refine DOp.nextm_ (t:=0) rfl rfl ?_);(repeat (with_reducible first | refine OnG.here ?_ | refine OnG.next ?_ | refine OnG.skip ?_));(refine both_ent (fun A x C hL=>?_) (fun hL=>?_))<;>(subst hL)<;>(refine s_walk1_dc ?_))
  | ((with_reducible apply DW.unitE (r:=rI));(repeat (with_reducible first | refine Out.here ?_ | refine Out.next ?_ | refine Out.skip ?_));(with_reducible refine DW_id ?_))
  | ((refine DOp.load_ rfl rfl ?_);(repeat (with_reducible first | refine OnB.here ?_ | refine OnB.next ?_ | (refine OnB.inH (by assumption) ?_;with_reducible intro C) | refine OnB.skip ?_));refine s_walk1_dc ?_)
  | ((refine DOp.look_ rfl rfl ?_);(repeat (with_reducible first | refine OnM.here ?_ | refine OnM.next ?_ | (refine OnM.inN (by assumption) ?_;with_reducible intro C hC) | (refine OnM.inK (by assumption) ?_;with_reducible intro C hC) | refine OnM.skip ?_));refine s_walk1_dc ?_)
  | ((refine DOp.lenm_ rfl rfl ?_);(repeat (with_reducible first | refine OnM.here ?_ | refine OnM.next ?_ | (refine OnM.inN (by assumption) ?_;with_reducible intro C hC) | (refine OnM.inK (by assumption) ?_;with_reducible intro C hC) | refine OnM.skip ?_));refine s_walk1_dc ?_)
  | ((with_reducible refine DW.loopB 0 (X:=PM×QL×Value×VM) (fun x=>WI m p Q x.1 x.2.1/\(∀ e∈x.1,e∈nd.next)) (fun x=>[(1, .sl (p.map V.str)),(2, .fn (.func 39) [] [.raw (.pointer (some ⟨ob,0,none⟩))]),(22, .raw (.pointer (some ⟨rI,0,none⟩)))]) (fun x=>loose :: .blk ob [.ar x.2.2.1 (cntQ x.2.1)] :: .arr 1 x.2.2.1 (outS x.2.1) :: .miter rI nd.nm (entM V.str pv nd.next) (entM V.str pv x.1) x.2.2.2::(ownH (g1++g2)++[])) (fun x=>x.1.length) ((nd.next,Q++[p],v2,[])) ?_ ?_ ?_);exact (⟨wi_start_yes ht hp hxx hW (fun e=>by rw [e] at hb;simp at hb),fun _ h=>h⟩);(simp [Sub,get,keepL]<;>fail);(try simp only [List.append_assoc,List.cons_append,List.nil_append]);refine pl_ ?_;intro ⟨Lf,Q1,v1,cur⟩ ⟨hI,hsub⟩;(try simp only [List.append_assoc,List.cons_append,List.nil_append]);try simp only at hI hsub)
  | ((with_reducible refine DW.loopB 0 (X:=PM×QL×Value×VM) (fun x=>WI m p Q x.1 x.2.1/\(∀ e∈x.1,e∈nd.next)) (fun x=>[(1, .sl (p.map V.str)),(2, .fn (.func 39) [] [.raw (.pointer (some ⟨ob,0,none⟩))]),(22, .raw (.pointer (some ⟨rI,0,none⟩)))]) (fun x=>loose :: .blk ob [.ar x.2.2.1 (cntQ x.2.1)] :: .arr 1 x.2.2.1 (outS x.2.1) :: .miter rI nd.nm (entM V.str pv nd.next) (entM V.str pv x.1) x.2.2.2::(ownH (g1++g2)++[])) (fun x=>x.1.length) ((nd.next,Q,v,[])) ?_ ?_ ?_);exact (⟨wi_start_no ht hp hxx hW (len_nil (by omega)),fun _ h=>h⟩);(simp [Sub,get,keepL]<;>fail);(try simp only [List.append_assoc,List.cons_append,List.nil_append]);refine pl_ ?_;intro ⟨Lf,Q1,v1,cur⟩ ⟨hI,hsub⟩;(try simp only [List.append_assoc,List.cons_append,List.nil_append]);try simp only at hI hsub)
  | refine g_ ?_
  | ((with_reducible refine And.intro ?_ ?_);(exact sv_walk1_dc))
  | (refine DW.cond (by rfl) ?_ ?_<;>(first | exact i0_ | (intro hb;(try simp only [↓reduceCtorEq,not_true_eq_false,not_false_eq_true,hbs,Int.reduceBEq,Int.reduceBNe,Int.reduceEq] at hb);(try refine s_walk1_dc ?_))))
  | ((with_reducible refine FVg_cases ?_ ?_)<;>(intro hb;rw [hb];revert hb;(first | exact i0_ | (intro hb;(try simp only [↓reduceCtorEq,not_true_eq_false,not_false_eq_true,hbs,Int.reduceBEq,Int.reduceBNe,Int.reduceEq] at hb);(try refine s_walk1_dc ?_)))))
  | ((refine Both.imp ?_ ?_)<;>(first | exact i0_ | (intro hb;(try simp only [↓reduceCtorEq,not_true_eq_false,not_false_eq_true,hbs,Int.reduceBEq,Int.reduceBNe,Int.reduceEq] at hb);(try refine s_walk1_dc ?_))))
  | ((first | refine rn_ ?_ | refine kn_ ?_)<;>(refine s_walk1_dc ?_))
  | ((first | (refine DOp.lenm_ rfl rfl ?_;(repeat (with_reducible first | refine OnM.here ?_ | refine OnM.next ?_))) | (refine DOp.rangem_ rfl rfl ?_;(repeat (with_reducible first | refine OnM.here ?_ | refine OnM.next ?_))) | (refine DOp.nextm_ (t:=0) rfl rfl ?_;(repeat (with_reducible first | refine OnG.here ?_ | refine OnG.next ?_))) | (refine DOp.entrym_ rfl rfl ?_;(repeat (with_reducible first | refine OnG.here ?_ | refine OnG.next ?_))))<;>(refine s_walk1_dc ?_))
  | (refine q_ (join7_dc _ _) ?_ (ha:=by exact sv_walk1_dc) (hk:=fun q=>q.1);refine s_walk1_dc ?_)
  | (refine p_ (fil1_dc _ _ _ _ _) ?_ (ha:=by exact sv_walk1_dc);rintro d H1 ⟨v2,rfl,rfl⟩<;>refine s_walk1_dc ?_)
  | (refine p_ (cloS2_dc _ _) ?_ (ha:=by exact sv_walk1_dc);rintro d H1 ⟨v3,rfl,rfl⟩<;>refine s_walk1_dc ?_)
  | (refine p_ (hcl _ _ _ _ _ _) ?_ (ha:=by exact sv_walk1_dc);rintro d H1 ⟨Q2,v4,⟨hQ2,hm2⟩,rfl,rfl⟩<;>refine s_walk1_dc ?_)
  | ((refine on_ ?_);refine s_walk1_dc ?_)
  | refine f_ ?_
  | with_reducible intro b)
 all_goals first
 | (refine ⟨(A++C,Q2,v4,[(.str x.1,pv x.2)]),⟨wi_next hI hQ2 hm2,fun e he=>hsub e (by rcases List.mem_append.1 he with h | h<;>simp [h])⟩,by (try simp only);simp only [List.length_append,List.length_cons];omega,by simp [Sub,get],?_⟩;((try dsimp only);(exact sub_));done)
 | (refine ⟨_,_,le.rfl_,⟨Q1,v1,⟨hI.nd,fun q=>by rw [hI.mem];simp⟩,rfl,rfl⟩,?_⟩;(repeat (first | refine SubP.pick ?_ | refine Out.here ?_ | refine Out.next ?_ | refine Out.skip ?_));(refine SubP.closeR ?_);(unfold Nd.own;simp only [List.cons_append,List.nil_append]);(exact sub_);done)
 | (trace_state;fail)
end
end
section
theorem walk_dc {h:List Nd} {r:Nat} {m:List Str->Str->Option Int} {ob:Nat} (ht:Tri h r m) (hWB:WB m):∀ (n:Nat) (hs:List Nd) (p:List Str) (b:Nat) (v:Value) (Q:List (List Str)) (F:Own),(65536<p.length+n/\Hangs h hs r p/\fol h r p=some b/\WQ m p Q)->DC Tryd.prog 38 [.raw (.pointer (some ⟨b,0,none⟩)), .sl (p.map V.str), .fn (.func 39) [] [.raw (.pointer (some ⟨ob,0,none⟩))]] ((loose :: .blk ob [.ar v (cntQ Q)] :: .arr 1 v (outS Q)::(ownH hs++[]))++F) fun d G=>∃ (Q':List (List Str)) (v':Value),(Q'.Nodup/\∀ q,q∈Q'↔q∈Q\/(p <+: q/\∃ k,(m q k).isSome=true))/\d = .tup []/\G=loose :: .blk ob [.ar v' (cntQ Q')] :: .arr 1 v' (outS Q')::(ownH hs++F)
 | 0,_,p,_,_,_,_,⟨h0,_,hp,_⟩=>absurd (ht.dep _ _ hp) (by omega)
 | n+1,hs,p,b,v,Q,F,⟨h0,hh,hp,hW⟩=>by
  obtain ⟨nd,h1,h2⟩:=hh [] b (by rw [List.append_nil];exact hp)
  exact walk1_dc h r m ob hs p b v Q nd F ⟨⟨ht,hWB⟩,⟨hh,hp,hW⟩,⟨h1,h2⟩,fun hs x c v Q F ⟨g1,g2,g3⟩=>by
   have:=walk_dc (ob:=ob) ht hWB n hs (p++[x]) c v Q F ⟨by rw [List.length_append,List.length_singleton];omega,g1,g2,g3⟩
   rw [List.map_append,List.map_cons,List.map_nil] at this;exact this⟩
theorem mOf_some {L:TL} {q:List Str} {k:Str} (h:(mOf L q k).isSome=true):spl (joinS q)=q/\∃ e∈L,e.1.1=joinS q/\e.1.2=k:=by
 unfold mOf at h
 split at h
 · rename_i h1
   obtain ⟨e,he,h2⟩:=List.mem_map.1 (lookA_isSome.1 h)
   exact ⟨h1,e,he,by rw [h2],by rw [h2]⟩
 · cases h
theorem wb_of {ts:TS} (hs:TOK ts) (hl:ts.L.length<=1000000000):WB (mOf ts.L):=by
 refine ⟨fun Q hQ hm=>?_,fun p k h=>?_⟩
 · have:=len_le (l:=Q) (l':=ts.L.map fun e=>spl e.1.1) hQ fun q hq=>by
    obtain ⟨k,hk⟩:=hm q hq
    obtain ⟨h1,e,he,h2,_⟩:=mOf_some hk
    exact List.mem_map.2 ⟨e,he,by rw [h2,h1]⟩
   rw [List.length_map] at this
   omega
 · obtain ⟨_,e,he,h2,_⟩:=mOf_some h
   have:=(filterB_len (hs.fl e he)).2
   rw [h2] at this;exact this
theorem walk_end {ts:TS} {Q:List (List Str)} (hn:Q.Nodup) (hm:∀ q,q∈Q↔q∈([]:List (List Str))\/([] <+: q/\∃ k,(mOf ts.L q k).isSome=true)):sortS (Q.map joinS)=filtersL ts.L:=by
 have hq:∀ q∈Q,spl (joinS q)=q/\∃ e∈ts.L,e.1.1=joinS q:=fun q hq=>by
  rcases (hm q).1 hq with h | ⟨_,k,h⟩
  · cases h
  · obtain ⟨h1,e,he,h2,_⟩:=mOf_some h
    exact ⟨h1,e,he,h2⟩
 refine sort_is ?_ (filters_is ts.L).1 fun x=>?_
 · refine List.pairwise_map.2 (hn.imp_of_mem fun {a b} ha hb hne e=>hne ?_)
   rw [<-(hq a ha).1,<-(hq b hb).1,e]
 · rw [(filters_is ts.L).2]
   constructor
   · intro h
     obtain ⟨q,h1,rfl⟩:=List.mem_map.1 h
     obtain ⟨e,he,h2⟩:=(hq q h1).2
     exact ⟨e,he,h2⟩
   · rintro ⟨e,he,rfl⟩
     refine List.mem_map.2 ⟨spl e.1.1,(hm _).2 (.inr ⟨List.nil_prefix,e.1.2,?_⟩),joinS_spl _⟩
     rw [mOf_at]
     exact lookA_isSome.2 (List.mem_map.2 ⟨e,he,rfl⟩)
theorem walkT_dc (ts:TS) (ob:Nat) (F:Own):(TOK ts/\ts.L.length<=1000000000)->DC Tryd.prog 38 [.raw (.pointer (some ⟨ts.r,0,none⟩)), .sl [], .fn (.func 39) [] [.raw (.pointer (some ⟨ob,0,none⟩))]] ((loose :: .blk ob [.ar (.slice none 0 0) 0] :: .arr 1 (.slice none 0 0) []::(ownH ts.h++[]))++F) fun d G=>∃ (Q':List (List Str)) (v':Value),(sortS (Q'.map joinS)=filtersL ts.L/\cntQ Q'<=1000000000)/\d = .tup []/\G=loose :: .blk ob [.ar v' (cntQ Q')] :: .arr 1 v' (outS Q')::(ownH ts.h++F):=fun ⟨hs,hl⟩=>by
 have hB:=wb_of hs hl
 have h:=walk_dc (ob:=ob) hs.tri hB 65537 ts.h [] ts.r (.slice none 0 0) [] F ⟨by decide,fun q d hd=>by
  obtain ⟨x,hx⟩:=hs.tri.at hd
  exact ⟨x,hx,hx⟩,rfl,⟨List.nodup_nil,(fun _ h=>nomatch h),(fun _ h=>nomatch h)⟩⟩
 refine h.mono fun d G hd=>?_
 obtain ⟨Q,v,⟨h1,h2⟩,h3,h4⟩:=hd
 refine ⟨Q,v,⟨walk_end h1 h2,hB.few Q h1 fun q hq=>?_⟩,h3,h4⟩
 rcases (h2 q).1 hq with h | h
 · cases h
 · exact h.2
theorem sort1_dc (Q:List (List Str)) (v:Value) (F:Own):cntQ Q<=1000000000->DC Tryd.prog 40 [.ar v (cntQ Q)] ([.arr 1 v (outS Q)]++F) fun d G=>d = .tup []/\G=[.arr 1 v ((sortS (Q.map joinS)).map V.str)]++F:=fun h =>
 DC.sortS (by kernel_rfl) (Q.map joinS) v (cntQ Q) F ⟨by unfold cntQ;rw [List.length_map],by rw [List.length_map];unfold cntQ at h;omega⟩
theorem DW.own0R (id:Nat) {ops:Array Oper} {dr:Bool} {P:Program} {n:Nat} {Q:Exit->Env->Own->Prop} {e:Env} {H F:Own} (b:Nat) (hq:Pulled H [.blk b [.gs (.slice none 0 0) []]] F)
 (h:DW P n (.region id ops dr) Q e (.arr 1 (.slice none 0 0) [] :: .blk b [.ar (.slice none 0 0) 0]::F)):DW P n (.region id ops dr) Q e H:=DW.own0P 1 b 0 hq rfl h
attribute [local irreducible] DW SeqD DV DOp DC DVX Nd.own ownH outS cntQ sortS filtersL
theorem s_tfilA_dc {P Q:Prop} (q:Q) (h:Hid Q->P:=by (intro q;simp (maxSteps:=1000000) (disch:=omega) only [push_cast,↓reduceIte,reduceCtorEq,Nat.reduceAdd,Nat.reduceMul,Nat.reduceLT,Nat.reduceLeDiff,Nat.reduceEqDiff,Nat.reduceSub,Int.reduceToNat,Int.reduceLT,Int.reduceLE,Int.reduceAdd,Int.reduceSub,Int.reduceMul,Int.reduceNeg,Nat.reduceBEq,Int.reduceBEq,Int.reduceBNe,Nat.reduceBNe,Int.reduceEq,hlk,hC,look_nil,upd_nil,look_str,upd_str,drop_str,opt_bool,opt_int,opt_some,entM_nil,entM_len,keyS_70,keyS0_70,zeroD_65,keyS_71,keyS0_71,zeroD_3,upd_strP,upd_strI,drop_str,some_mapC,none_mapC,Option.getD_some,Option.getD_none,Option.isSome_some,Option.isSome_none];exact q.1)):P:=h ⟨q⟩
section
attribute [local push_cast 2000] look_nil upd_nil look_str upd_str drop_str opt_bool opt_int opt_some entM_nil entM_len keyS_70 keyS0_70 zeroD_65 keyS_71 keyS0_71 zeroD_3 upd_strP upd_strI some_mapC none_mapC Option.getD_some Option.getD_none Option.isSome_some Option.isSome_none
theorem tfilA_dc (t:Nat) (ts:TS) (F:Own):(TOK ts/\ts.L.length<=1000000000)->DC Tryd.prog 16 [.raw (.pointer (some ⟨t,0,none⟩))] (loose::(ownT t ts++[])++F) fun d G=>∃ v,d = .ar v (filtersL ts.L).length/\G = .arr 1 v ((filtersL ts.L).map V.str)::((loose::(ownT t ts++[]))++F):=by
 intro hA
 obtain ⟨hs,hln⟩:=hA
 refine DC.bodyS (n_:=13) (show Tryd.prog.funcs[16]? = some Tryd.f16 by kernel_rfl) rfl rfl (by rfl) ?_
 simp only [env0,List.append_assoc,List.cons_append,List.nil_append]
 have kw:=ksIs [0,2,3]
 have ow:=ownIs []
 have hlk:True:=trivial
 have hC:True:=trivial
 (unfold ownT;simp only [List.cons_append,List.append_assoc,List.nil_append])
 repeat' (first
  | ((fail_if_success (have zz:=hoj));(with_reducible apply DW.own0R 2 ob);(focus (with_reducible repeat (first | exact Pulled.nil | apply Pulled.cons | exact Took.here | apply Took.next | apply Took.skip)));(have hoj:True:=trivial))
  | refine g_ ?_
  | ((with_reducible refine And.intro ?_ ?_);(exact sv))
  | (refine DW.cond (by rfl) ?_ ?_<;>(first | exact i0_ | (intro hb;(try simp only [↓reduceCtorEq,not_true_eq_false,not_false_eq_true,hbs,Int.reduceBEq,Int.reduceBNe,Int.reduceEq] at hb);(try refine s_tfilA_dc ?_))))
  | ((with_reducible refine FVg_cases ?_ ?_)<;>(intro hb;rw [hb];revert hb;(first | exact i0_ | (intro hb;(try simp only [↓reduceCtorEq,not_true_eq_false,not_false_eq_true,hbs,Int.reduceBEq,Int.reduceBNe,Int.reduceEq] at hb);(try refine s_tfilA_dc ?_)))))
  | ((first | refine rn_ ?_ | refine kn_ ?_)<;>(refine s_tfilA_dc ?_))
  | (refine p_ (walkT_dc _ _ _) ?_;rintro d H1 ⟨Q2,v2,⟨hQ2,hc2⟩,rfl,rfl⟩<;>refine s_tfilA_dc ?_)
  | (refine p_ (sort1_dc _ _ _) ?_;rintro d H1 ⟨rfl,rfl⟩<;>refine s_tfilA_dc ?_)
  | ((refine on_ ?_);refine s_tfilA_dc ?_)
  | refine f_ ?_
  | ((fail_if_success (have zz:=ob));with_reducible intro ob)
  | with_reducible intro b)
 all_goals first
 | (have hz:(filtersL ts.L).length=cntQ Q2:=by rw [<-hQ2,sortS_len];unfold cntQ;rw [List.length_map]
    rw [hz,<-hQ2]
    refine ⟨_,_,le.rfl_,⟨v2,rfl,rfl⟩,?_⟩;(try unfold ownT);(try simp only [List.cons_append,List.append_assoc,List.nil_append]);(exact sub_);done)
 | (trace_state;fail)
end
theorem tfil_dc (t:Nat) (ts:TS) (F:Own):(TOK ts/\ts.L.length<=1000000000)->DC Tryd.prog 16 [.raw (.pointer (some ⟨t,0,none⟩))] ((loose::(ownT t ts++[]))++F) fun d G=>d = .sl ((filtersL ts.L).map V.str)/\G=(loose::(ownT t ts++[]))++F:=fun h =>
 (DC.frzX (X:=List Str) (Q:=fun x=>x=filtersL ts.L) (sz:=1) (l:=fun x=>x.map V.str) (by decide) (fun x y hy=>by obtain ⟨z,_,rfl⟩:=List.mem_map.1 hy;rfl)
   ((tfilA_dc t ts F h).mono fun d G hd=>by
     obtain ⟨v,h1,h2⟩:=hd
     exact ⟨v,_,by rw [List.length_map];exact h1,rfl,by rw [cells_str];exact h2⟩)).mono fun d G hd=>by
   obtain ⟨x,rfl,h1,h2⟩:=hd
   exact ⟨h1,h2⟩
end
end Go.Proofs.YtphhijelneaedaaDoor
