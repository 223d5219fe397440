/- The trie: all filters, in order. -/
import Derived.Test.YtgekknefphagbaaGreatDoorItx
import Derived.KernelRfl
import Derived.Shelf.SlIterI.Nil
import Derived.Test.YtgekknefphagbaaGreatDoorProg
namespace Go.Proofs.YtgekknefphagbaaGreatDoor
open Go.RowKit
set_option linter.unusedSimpArgs false
set_option linter.unusedVariables false
set_option linter.unusedSectionVars false
set_option maxHeartbeats 4000000
set_option maxRecDepth 100000
section
theorem zmi {h:List Nd} {r:Nat} {m:List Str->Str->Option Int} {ob:Nat} (ht:Tri h r m) (hWB:WB m):∀ (n:Nat) (hs:List Nd) (p:List Str) (b:Nat) (v:Value) (Q:List (List Str)) (F:Own),(65536<p.length+n/\zoo h hs r p/\fol h r p=some b/\WQ m p Q)->DC Tryz.prog 141 [.raw (.pointer (some ⟨b,0,none⟩)), .sl (p.map V.str), .fn (.func 142) [] [.raw (.pointer (some ⟨ob,0,none⟩))]] ((loose :: .blk ob [.ar v (cntQ Q)] :: .arr 1 v (outS Q)::(ownH hs++[]))++F) fun d G=>∃ (Q':List (List Str)) (v':Value),(Q'.Nodup/\∀ q,q∈Q'↔q∈Q\/(p <+: q/\∃ k,(m q k).isSome=true))/\d = .tup []/\G=loose :: .blk ob [.ar v' (cntQ Q')] :: .arr 1 v' (outS Q')::(ownH hs++F)
 | 0,_,p,_,_,_,_,⟨h0,_,hp,_⟩=>absurd (ht.dep _ _ hp) (by omega)
 | n+1,hs,p,b,v,Q,F,⟨h0,hh,hp,hW⟩=>by
  obtain ⟨nd,h1,h2⟩:=hh [] b (by rw [List.append_nil];exact hp)
  exact zp7 h r m ob hs p b v Q nd F ⟨⟨ht,hWB⟩,⟨hh,hp,hW⟩,⟨h1,h2⟩,fun hs x c v Q F ⟨g1,g2,g3⟩=>by
   have:=zmi (ob:=ob) ht hWB n hs (p++[x]) c v Q F ⟨by rw [List.length_append,List.length_singleton];omega,g1,g2,g3⟩
   rw [List.map_append,List.map_cons,List.map_nil] at this;exact this⟩
theorem zhN {L:TL} {q:List Str} {k:Str} (h:(mOf L q k).isSome=true):spl (joinS q)=q/\∃ e∈L,e.1.1=joinS q/\e.1.2=k:=by
 unfold mOf at h
 split at h
 · rename_i h1
   obtain ⟨e,he,h2⟩:=List.mem_map.1 (zcd.1 h)
   exact ⟨h1,e,he,by rw [h2],by rw [h2]⟩
 · cases h
theorem wb_of {ts:TS} (hs:TOK ts) (hl:ts.L.length<=1000000000):WB (mOf ts.L):=by
 refine ⟨fun Q hQ hm=>?_,fun p k h=>?_⟩
 · have:=zmT (l:=Q) (l':=ts.L.map fun e=>spl e.1.1) hQ fun q hq=>by
    obtain ⟨k,hk⟩:=hm q hq
    obtain ⟨h1,e,he,h2,_⟩:=zhN hk
    exact List.mem_map.2 ⟨e,he,by rw [h2,h1]⟩
   rw [List.length_map] at this
   omega
 · obtain ⟨_,e,he,h2,_⟩:=zhN h
   have:=(zgz (hs.fl e he)).2
   rw [h2] at this;exact this
theorem zp9 {ts:TS} {Q:List (List Str)} (hn:Q.Nodup) (hm:∀ q,q∈Q↔q∈([]:List (List Str))\/([] <+: q/\∃ k,(mOf ts.L q k).isSome=true)):sortS (Q.map joinS)=zbG ts.L:=by
 have hq:∀ q∈Q,spl (joinS q)=q/\∃ e∈ts.L,e.1.1=joinS q:=fun q hq=>by
  rcases (hm q).1 hq with h | ⟨_,k,h⟩
  · cases h
  · obtain ⟨h1,e,he,h2,_⟩:=zhN h
    exact ⟨h1,e,he,h2⟩
 refine zhy ?_ (zgY ts.L).1 fun x=>?_
 · refine List.pairwise_map.2 (hn.imp_of_mem fun {a b} ha hb hne e=>hne ?_)
   rw [<-(hq a ha).1,<-(hq b hb).1,e]
 · rw [(zgY ts.L).2]
   constructor
   · intro h
     obtain ⟨q,h1,rfl⟩:=List.mem_map.1 h
     obtain ⟨e,he,h2⟩:=(hq q h1).2
     exact ⟨e,he,h2⟩
   · rintro ⟨e,he,rfl⟩
     refine List.mem_map.2 ⟨spl e.1.1,(hm _).2 (.inr ⟨List.nil_prefix,e.1.2,?_⟩),zga _⟩
     rw [zeB]
     exact zcd.2 (List.mem_map.2 ⟨e,he,rfl⟩)
theorem zo5 (ts:TS) (ob:Nat) (F:Own):(TOK ts/\ts.L.length<=1000000000)->DC Tryz.prog 141 [.raw (.pointer (some ⟨ts.r,0,none⟩)), .sl [], .fn (.func 142) [] [.raw (.pointer (some ⟨ob,0,none⟩))]] ((loose :: .blk ob [.ar (.slice none 0 0) 0] :: .arr 1 (.slice none 0 0) []::(ownH ts.h++[]))++F) fun d G=>∃ (Q':List (List Str)) (v':Value),(sortS (Q'.map joinS)=zbG ts.L/\cntQ Q'<=1000000000)/\d = .tup []/\G=loose :: .blk ob [.ar v' (cntQ Q')] :: .arr 1 v' (outS Q')::(ownH ts.h++F):=fun ⟨hs,hl⟩=>by
 have hB:=wb_of hs hl
 have h:=zmi (ob:=ob) hs.tri hB 65537 ts.h [] ts.r (.slice none 0 0) [] F ⟨by decide,fun q d hd=>by
  obtain ⟨x,hx⟩:=hs.tri.at hd
  exact ⟨x,hx,hx⟩,rfl,⟨List.nodup_nil,(fun _ h=>nomatch h),(fun _ h=>nomatch h)⟩⟩
 refine h.mono fun d G hd=>?_
 obtain ⟨Q,v,⟨h1,h2⟩,h3,h4⟩:=hd
 refine ⟨Q,v,⟨zp9 h1 h2,hB.few Q h1 fun q hq=>?_⟩,h3,h4⟩
 rcases (h2 q).1 hq with h | h
 · cases h
 · exact h.2
theorem zpm (Q:List (List Str)) (v:Value) (F:Own):cntQ Q<=1000000000->DC Tryz.prog 105 [.ar v (cntQ Q)] ([.arr 1 v (outS Q)]++F) fun d G=>d = .tup []/\G=[.arr 1 v ((sortS (Q.map joinS)).map V.str)]++F:=fun h =>
 DC.sortS (by kernel_rfl) (Q.map joinS) v (cntQ Q) F ⟨by unfold cntQ;rw [List.length_map],by rw [List.length_map];unfold cntQ at h;omega⟩
theorem DW.own0R (id:Nat) {ops:Array Oper} {dr:Bool} {P:Program} {n:Nat} {Q:Exit->Env->Own->Prop} {e:Env} {H F:Own} (b:Nat) (hq:Pulled H [.blk b [.gs (.slice none 0 0) []]] F)
 (h:DW P n (.region id ops dr) Q e (.arr 1 (.slice none 0 0) [] :: .blk b [.ar (.slice none 0 0) 0]::F)):DW P n (.region id ops dr) Q e H:=DW.own0P 1 b 0 hq rfl h
attribute [local irreducible] DW SeqD DV DOp DC DVX Nd.own ownH outS cntQ sortS zbG
theorem zlJ {P Q:Prop} (q:Q) (h:Hid Q->P:=by (intro q;simp (maxSteps:=1000000) (disch:=omega) only [push_cast,↓reduceIte,reduceCtorEq,Nat.reduceAdd,Nat.reduceMul,Nat.reduceLT,Nat.reduceLeDiff,Nat.reduceEqDiff,Nat.reduceSub,Int.reduceToNat,Int.reduceLT,Int.reduceLE,Int.reduceAdd,Int.reduceSub,Int.reduceMul,Int.reduceNeg,Nat.reduceBEq,Int.reduceBEq,Int.reduceBNe,Nat.reduceBNe,Int.reduceEq,hlk,hC];exact q.1)):P:=h ⟨q⟩
section
attribute [local push_cast 2000] za9 zaW za8 zaL za3 zaG zaV za7 zax za2 zaX zaB zaC zaY zaE zaq za6 zat zaZ za5 zas zba zaD zar zap zaR zcO zaH zaF Option.getD_some Option.getD_none Option.isSome_some Option.isSome_none
theorem zph (t:Nat) (ts:TS) (F:Own):(TOK ts/\ts.L.length<=1000000000)->DC Tryz.prog 79 [.raw (.pointer (some ⟨t,0,none⟩))] (loose::(ownT t ts++[])++F) fun d G=>∃ v,d = .ar v (zbG ts.L).length/\G = .arr 1 v ((zbG ts.L).map V.str)::((loose::(ownT t ts++[]))++F):=by
 intro hA
 obtain ⟨hs,hln⟩:=hA
 refine DC.bodyS (n_:=13) (show Tryz.prog.funcs[79]? = some Tryz.f79 by kernel_rfl) rfl rfl (by rfl) ?_
 simp only [env0,List.append_assoc,List.cons_append,List.nil_append]
 have kw:=ksIs [0,2,3]
 have ow:=zaf []
 have hlk:True:=trivial
 have hC:True:=trivial
 (unfold ownT;simp only [List.cons_append,List.append_assoc,List.nil_append])
 repeat' (first
  | ((fail_if_success (have zz:=hoj));(with_reducible apply DW.own0R 2 ob);(focus (with_reducible repeat (first | exact Pulled.nil | apply Pulled.cons | exact Took.here | apply Took.next | apply Took.skip)));(have hoj:True:=trivial))
  | refine g_ ?_
  | ((with_reducible refine And.intro ?_ ?_);(exact sv))
  | (refine DW.cond (by rfl) ?_ ?_<;>(first | exact i0_ | (intro hb;(try simp only [↓reduceCtorEq,not_true_eq_false,not_false_eq_true,hbs,Int.reduceBEq,Int.reduceBNe,Int.reduceEq] at hb);(try refine zlJ ?_))))
  | ((with_reducible refine zaa ?_ ?_)<;>(intro hb;rw [hb];revert hb;(first | exact i0_ | (intro hb;(try simp only [↓reduceCtorEq,not_true_eq_false,not_false_eq_true,hbs,Int.reduceBEq,Int.reduceBNe,Int.reduceEq] at hb);(try refine zlJ ?_)))))
  | ((first | refine rn_ ?_ | refine kn_ ?_)<;>(refine zlJ ?_))
  | (refine p_ (zo5 _ _ _) ?_;rintro d H1 ⟨Q2,v2,⟨hQ2,hc2⟩,rfl,rfl⟩<;>refine zlJ ?_)
  | (refine p_ (zpm _ _ _) ?_;rintro d H1 ⟨rfl,rfl⟩<;>refine zlJ ?_)
  | ((refine on_ ?_);refine zlJ ?_)
  | refine f_ ?_
  | ((fail_if_success (have zz:=ob));with_reducible intro ob)
  | with_reducible intro b)
 all_goals first
 | (have hz:(zbG ts.L).length=cntQ Q2:=by rw [<-hQ2,zeb];unfold cntQ;rw [List.length_map]
    rw [hz,<-hQ2]
    refine ⟨_,_,le.rfl_,⟨v2,rfl,rfl⟩,?_⟩;(try unfold ownT);(try simp only [List.cons_append,List.append_assoc,List.nil_append]);(exact sub_);done)
 | (trace_state;fail)
end
theorem tfil_dc (t:Nat) (ts:TS) (F:Own):(TOK ts/\ts.L.length<=1000000000)->DC Tryz.prog 79 [.raw (.pointer (some ⟨t,0,none⟩))] ((loose::(ownT t ts++[]))++F) fun d G=>d = .sl ((zbG ts.L).map V.str)/\G=(loose::(ownT t ts++[]))++F:=fun h =>
 (DC.frzX (X:=List Str) (Q:=fun x=>x=zbG ts.L) (sz:=1) (l:=fun x=>x.map V.str) (by decide) (fun x y hy=>by obtain ⟨z,_,rfl⟩:=List.mem_map.1 hy;rfl)
   ((zph t ts F h).mono fun d G hd=>by
     obtain ⟨v,h1,h2⟩:=hd
     exact ⟨v,_,by rw [List.length_map];exact h1,rfl,by rw [zb3];exact h2⟩)).mono fun d G hd=>by
   obtain ⟨x,rfl,h1,h2⟩:=hd
   exact ⟨h1,h2⟩
end
section
open Go.Shelf Go.RowKit
def zi4:Go.Shelf.Ren:=⟨fun | 7=>51 | 10=>104 | n=>n,fun | 23=>89 | 26=>3 | 3=>96 | 28=>118 | 0=>0 | 27=>117 | 33=>95 | 4=>4 | n=>n,fun | n=>n⟩
theorem layKeysI:Go.Proofs.SlLaysZI.n7 Tryz.prog zi4:={
 mixed:=by kernel_rfl
 f7:=⟨Tryz.f51.name,by decide,Tryz.func51.trans (congrArg some (by kernel_rfl))⟩
 f10:=⟨Tryz.f104.name,by decide,Tryz.func104.trans (congrArg some (by kernel_rfl))⟩
 t0:=Tryz.underlying0
 a0:=Tryz.isAgg0
 z0:=Tryz.sizeOf0
 v0:=Tryz.zeroValue0
 t4:=Tryz.underlying4
 a4:=Tryz.isAgg4
 z4:=Tryz.sizeOf4
 v4:=Tryz.zeroValue4
 t23:=Tryz.underlying89
 a23:=Tryz.isAgg89
 z23:=Tryz.sizeOf89
 v23:=Tryz.zeroValue89
 t26:=Tryz.underlying3
 a26:=Tryz.isAgg3
 z26:=Tryz.sizeOf3
 v26:=Tryz.zeroValue3
 t27:=Tryz.underlying117
 a27:=Tryz.isAgg117
 z27:=Tryz.sizeOf117
 v27:=Tryz.zeroValue117
 t28:=Tryz.underlying118
 a28:=Tryz.isAgg118
 z28:=Tryz.sizeOf118
 v28:=Tryz.zeroValue118
 t33:=Tryz.underlying95
 a33:=Tryz.isAgg95
 z33:=Tryz.sizeOf95
 v33:=Tryz.zeroValue95 }
def zgM:Go.Shelf.Ren:=⟨fun | 6=>50 | 8=>102 | 9=>103 | 11=>161 | 13=>163 | 12=>162 | 23=>219 | 24=>220 | 14=>210 | 15=>211 | 16=>212 | 17=>213 | 18=>214 | 19=>215 | 20=>216 | 21=>217 | 22=>218 | 25=>254 | 26=>255 | 27=>256 | 28=>257 | 29=>258 | 30=>259 | 31=>282 | n=>n,fun | 26=>3 | 28=>118 | 24=>27 | 0=>0 | 3=>3 | 37=>221 | 48=>281 | 50=>283 | 4=>4 | 40=>274 | 39=>273 | 45=>148 | 5=>5 | 9=>9 | 51=>315 | 55=>319 | 57=>334 | 58=>335 | 33=>95 | n=>n,fun | n=>n⟩
theorem laySortedI:Go.Proofs.SlLaysZI.n6 Tryz.prog zgM:={
 mixed:=by kernel_rfl
 f6:=⟨Tryz.f50.name,by decide,Tryz.func50.trans (congrArg some (by kernel_rfl))⟩
 f8:=⟨Tryz.f102.name,by decide,Tryz.func102.trans (congrArg some (by kernel_rfl))⟩
 f11:=⟨Tryz.f161.name,by decide,Tryz.func161.trans (congrArg some (by kernel_rfl))⟩
 t0:=Tryz.underlying0
 a0:=Tryz.isAgg0
 z0:=Tryz.sizeOf0
 v0:=Tryz.zeroValue0
 t24:=Tryz.underlying27
 a24:=Tryz.isAgg27
 z24:=Tryz.sizeOf27
 v24:=Tryz.zeroValue27
 t26:=Tryz.underlying3
 a26:=Tryz.isAgg3
 z26:=Tryz.sizeOf3
 v26:=Tryz.zeroValue3
 t28:=Tryz.underlying118
 a28:=Tryz.isAgg118
 z28:=Tryz.sizeOf118
 v28:=Tryz.zeroValue118
 i26:=by kernel_rfl }
end
end Go.Proofs.YtgekknefphagbaaGreatDoor
