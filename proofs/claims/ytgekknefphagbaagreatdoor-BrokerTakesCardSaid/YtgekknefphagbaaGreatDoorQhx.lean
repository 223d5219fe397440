/- The broker: its connections in order; a session speaks again, over the whole state. -/
import Derived.Test.YtgekknefphagbaaGreatDoorIsx
import Derived.KernelRfl
namespace Go.Proofs.YtgekknefphagbaaGreatDoor
open Go.RowKit
set_option linter.unusedSimpArgs false
set_option linter.unusedVariables false
set_option linter.unusedSectionVars false
set_option maxHeartbeats 4000000
set_option maxRecDepth 100000
section
attribute [local irreducible] SN.own ownT ownC ownS zae zbj zah zaK
attribute [local irreducible] DW SeqD DV DOp DC DVX DVJ idsF usI sortS putM zaj onlyM
theorem BOK.setS {cm sm t:Nat} {ts:TS} {cs:List Cn} {m1 m2:List SN} {y y':SN} (h:BOK ⟨cm,sm,t,ts,cs,m1++y::m2⟩) (hn:y'.a.name=y.a.name) (hb:y'.b=y.b) (ho:SAOK y'.a) (hq:SAQ y'.a):BOK ⟨cm,sm,t,ts,cs,m1++y'::m2⟩ :=
 ⟨h.t,h.cn,fun c hc=>(h.co c hc).mono (zd2 hn hb),zeE h.sn hn,zeo h.so ho,zeo h.sq hq,h.sd⟩
theorem ses_at {s:BN} (h:BOK s) {c:Cn} (hc:c∈s.cs) {nm:YS} {b:Nat} (hs:c.s=some (nm,b)):∃ m1 y m2,s.ss=m1++y::m2/\y.a.name=nm/\y.b=b/\(∀ d∈m1,d.a.name≠y.a.name)/\∀ d∈m2,d.a.name≠y.a.name:=by
 obtain ⟨y,hy,h1,h2⟩:=(h.co c hc).s _ hs
 obtain ⟨m1,m2,hss,k1,k2⟩:=zc0 h.sn hy
 exact ⟨m1,y,m2,hss,h1,h2,k1,k2⟩
theorem sesD_at {cm sm t:Nat} {ts:TS} {cs:List Cn} {m1 m2:List SN} {y:SN} (k1:∀ d∈m1,d.a.name≠y.a.name):sesD y.a.name (BN.pl ⟨cm,sm,t,ts,cs,m1++y::m2⟩)=y.a:=by
 unfold sesD
 rw [zdE (s:=⟨cm,sm,t,ts,cs,m1++y::m2⟩) rfl k1];rfl
theorem pl_setS {cm sm t:Nat} {ts:TS} {cs:List Cn} {m1 m2:List SN} {y y':SN} {g:SA->SA} (k1:∀ d∈m1,d.a.name≠y.a.name) (k2:∀ d∈m2,d.a.name≠y.a.name) (hy:y'.a=g y.a) :
  BN.pl ⟨cm,sm,t,ts,cs,m1++y'::m2⟩={ BN.pl ⟨cm,sm,t,ts,cs,m1++y::m2⟩ with sess:=(BN.pl ⟨cm,sm,t,ts,cs,m1++y::m2⟩).sess.map fun a=>if a.name=y.a.name then g a else a }:=by
 have key:∀ l:List SN,(∀ d∈l,d.a.name≠y.a.name)->(l.map (·.a)).map (fun a=>if a.name=y.a.name then g a else a)=l.map (·.a):=fun l h=>by
  rw [List.map_map]
  exact List.map_congr_left fun d hd=>by show (if d.a.name=y.a.name then g d.a else d.a)=d.a;rw [if_neg (h d hd)]
 unfold BN.pl
 simp only
 congr 1
 rw [List.map_append,List.map_cons,List.map_append,List.map_cons,List.map_append,List.map_cons,key m1 k1,key m2 k2,if_pos rfl,hy]
theorem zmd {now:Int} {x:Ef×Br} {n o:Int} (h:n≠o):(tickS now x o).2.conn n=x.2.conn n:=by
 unfold tickS
 split
 · split
   · exact zeZ h _
   · rfl
 · rfl
theorem zlI {now:Int} {n:Int}:∀ (l:List Int) (x:Ef×Br),n ∉ l->(l.foldl (tickS now) x).2.conn n=x.2.conn n
 | [],x,_=>rfl
 | o::l,x,h=>by
  rw [List.foldl_cons,zlI l _ fun hm=>h (List.mem_cons_of_mem _ hm)]
  exact zmd fun e=>h (by rw [e];exact List.mem_cons_self)
end
section
attribute [local irreducible] SN.own ownT ownC ownS ownB zae zbj zah zaK outM zcJ zbf
attribute [local irreducible] DW SeqD DV DOp DC DVX DVJ idsF usI sortS putM zaj onlyM
theorem zqS:nilE.outs=[]:=rfl
theorem zqH:nilE.pubs=[]:=rfl
theorem zqV:nilE.adds=[]:=rfl
theorem zqX:nilE.drops=[]:=rfl
section
attribute [local push_cast 2000] Cn.cells za9 zaW za8 zaL za3 zaG zaV za7 zax za2 zaX zaB zaC zaY zaE zaq za6 zat zaZ za5 zas zba zaD zar zap zbh zbt zbi zaR zaH zaF Option.getD_some Option.getD_none Option.isSome_some Option.isSome_none
end
end
section
abbrev LYs:=List YS
attribute [local irreducible] SN.own ownT ownC ownS zcl za0 outM
attribute [local irreducible] DW SeqD DV DOp DC DVX DVJ idsF usI sortS putM zaj onlyM
section
attribute [local push_cast 2000] encU za9 zaW za8 zaL za3 zaG zaV za7 zax za2 zaX zaB zaC zaY zaE zaq za6 zat zaZ za5 zas zba zaD zar zap zbh zbt zbi zaR zaH zaF Option.getD_some Option.getD_none Option.isSome_some Option.isSome_none
end
end
section
theorem DW.loop0 (id:Nat) {P:Program} {n:Nat} {Q:Exit->Env->Own->Prop} {e:Env} {H:Own} {c:Code} (h:DW P n c (zfC (fun _ _=>False) (zdF id Q)) e H):DW P n (.block id (.loop c)) Q e H :=
 DW.block (DW.loop (fun e' H'=>e'=e/\H'=H) (fun _ _=>0) ⟨rfl,rfl⟩ fun e' H' ⟨h1,h2⟩=>by
  subst h1;subst h2
  exact h.mono fun x e H hq=>by
   cases x with
   | normal=>exact hq.elim
   | _=>exact hq)
def sbP (id:Int) (C:List Int):Pk:=⟨9,false,false,0,id,[],[],0,[],false,0,false,[],[],0,false,false,false,[],[],false,0,[],C⟩
theorem send_sb (id:Int) (C:List Int) (h:C.length<=100000):SendK (sbP id C):=⟨⟨Nat.zero_le _,Nat.zero_le _,Nat.zero_le _,Nat.zero_le _,Nat.zero_le _,Nat.zero_le _,Nat.zero_le _,Nat.zero_le _,fun k=>by simp [sbP];exact Nat.zero_le _,h⟩,by show (9:Int)=2\/_;simp [sbP],by first | rfl | (unfold onlyM sbP;simp)⟩
def zdw (u:YS×Int):Int:=if filterB u.1=true then u.2 else 128
def sS (nm:YS) (x:SA×TL×List YS) (u:YS×Int):SA×TL×List YS :=
 if filterB u.1=true then (subA u.1 u.2 x.1,putL x.2.1 u.1 nm u.2,if (zcl x.2.1 u.1).length=0 then x.2.2++[u.1] else x.2.2) else x
def sL (nm:YS) (us:List (YS×Int)) (a:SA) (L:TL):SA×TL×List YS:=us.foldl (sS nm) (a,L,[])
theorem sL_0 (nm:YS) (us:List (YS×Int)) (a:SA) (L:TL):sL nm (us.take 0) a L=(a,L,[]):=by rw [List.take_zero];rfl
theorem zkg {us:List (YS×Int)} {k:Nat} (hk:k<us.length):us.take (k+1)=us.take k++[us.getD k default]:=by
 rw [List.take_add_one,List.getElem?_eq_getElem hk]
 simp [List.getD,List.getElem?_eq_getElem hk]
theorem sL_s {nm:YS} {us:List (YS×Int)} {a:SA} {L:TL} {k:Nat} (hk:k<us.length):sL nm (us.take (k+1)) a L=sS nm (sL nm (us.take k) a L) (us.getD k default):=by
 unfold sL
 rw [zkg hk,List.foldl_append];rfl
theorem zre {us:List (YS×Int)} {k:Nat} (hk:k<us.length):(us.take (k+1)).map zdw=(us.take k).map zdw++[zdw (us.getD k default)]:=by rw [zkg hk,List.map_append];rfl
theorem c_n {us:List (YS×Int)} {C:List Int} {k:Nat} (hk:k<us.length) (e:(us.take k).map zdw=C) (h:filterB (us.getD k default).1=false):(us.take (k+1)).map zdw=C++[128]:=by rw [zre hk,e];unfold zdw;rw [if_neg (by rw [h];decide)]
theorem c_y {us:List (YS×Int)} {C:List Int} {k:Nat} (hk:k<us.length) (e:(us.take k).map zdw=C) (h:filterB (us.getD k default).1=true):(us.take (k+1)).map zdw=C++[(us.getD k default).2]:=by rw [zre hk,e];unfold zdw;rw [if_pos h]
theorem s_n {nm:YS} {us:List (YS×Int)} {a a1:SA} {L L1:TL} {D:List YS} {k:Nat} (hk:k<us.length) (e:sL nm (us.take k) a L=(a1,L1,D)) (h:filterB (us.getD k default).1=false):sL nm (us.take (k+1)) a L=(a1,L1,D):=by
 rw [sL_s hk,e];unfold sS;rw [if_neg (by rw [h];decide)]
theorem s_y {nm:YS} {us:List (YS×Int)} {a a1 a2:SA} {L L1 L2:TL} {D:List YS} {k:Nat} (hk:k<us.length) (e:sL nm (us.take k) a L=(a1,L1,D)) (h:filterB (us.getD k default).1=true) (e2:a2=subA (us.getD k default).1 (us.getD k default).2 a1) (e3:L2=putL L1 (us.getD k default).1 nm (us.getD k default).2) (h4:(zcl L1 (us.getD k default).1).length=0):sL nm (us.take (k+1)) a L=(a2,L2,D++[(us.getD k default).1]):=by
 rw [sL_s hk,e];unfold sS;simp only;rw [if_pos h,e2,<-e3,if_pos h4]
theorem s_k {nm:YS} {us:List (YS×Int)} {a a1 a2:SA} {L L1 L2:TL} {D:List YS} {k:Nat} (hk:k<us.length) (e:sL nm (us.take k) a L=(a1,L1,D)) (h:filterB (us.getD k default).1=true) (e2:a2=subA (us.getD k default).1 (us.getD k default).2 a1) (e3:L2=putL L1 (us.getD k default).1 nm (us.getD k default).2) (h4:¬ (zcl L1 (us.getD k default).1).length=0):sL nm (us.take (k+1)) a L=(a2,L2,D):=by
 rw [sL_s hk,e];unfold sS;simp only;rw [if_pos h,e2,<-e3,if_neg h4]
theorem zcW (f:YS) (q:Int) (a:SA):(subA f q a).name=a.name:=rfl
theorem znJ (L:TL) (f k:YS) (q:Int):(putL L f k q).length<=L.length+1:=by
 unfold putL
 split
 · rw [zfM];split<;>omega
 · omega
attribute [local irreducible] SN.own ownT ownC ownS zcl za0 outM sL subA putL filterB zdw
attribute [local irreducible] DW SeqD DV DOp DC DVX DVJ idsF usI sortS putM zaj onlyM
theorem znO (p:Pk) (v:Value) (C:List Int) (n:Int) (F:Own):C.length<=100000->DC Tryz.prog 42 [.int .i64 n, .sl [.agg [.int .i64 9, .bool false, .bool false, .int .i64 0, .int .i64 p.id, .str [], .gs (.slice none 0 0) [], .int .i64 0, .str [], .bool false, .int .i64 0, .bool false, .str [], .gs (.slice none 0 0) [], .int .i64 0, .bool false, .bool false, .bool false, .str [], .gs (.slice none 0 0) [], .bool false, .int .i64 0, .gs (.slice none 0 0) [], .gs v (C.map (V.int .i64))]]] ([knF,knA]++F) fun d G=>d = .sl ((outM n [sbP p.id C]).map encOu)/\G=[knF,knA]++F:=fun h =>
 DC.args (Les.cons le.rfl_ (Les.cons (le.sl1 (Les.cons le.rfl_ (Les.cons le.rfl_ (Les.cons le.rfl_ (Les.cons le.rfl_ (Les.cons le.rfl_ (Les.cons le.rfl_ (Les.cons (le.gs rfl) (Les.cons le.rfl_ (Les.cons le.rfl_ (Les.cons le.rfl_ (Les.cons le.rfl_ (Les.cons le.rfl_ (Les.cons le.rfl_ (Les.cons (le.gs rfl) (Les.cons le.rfl_ (Les.cons le.rfl_ (Les.cons le.rfl_ (Les.cons le.rfl_ (Les.cons le.rfl_ (Les.cons (le.gs rfl) (Les.cons le.rfl_ (Les.cons le.rfl_ (Les.cons (le.gs rfl) (Les.cons (le.gs rfl) (Les.nil)))))))))))))))))))))))))) Les.nil)) (zmk n [sbP p.id C] F ⟨by simp,fun k hk=>by obtain rfl:k=0:=(by simpa using hk);exact send_sb _ _ h⟩)
theorem zcZ {P Q:Prop} (q:Q) (h:Hid Q->P:=by (intro q;simp (maxSteps:=1000000) (disch:=omega) only [push_cast,↓reduceIte,reduceCtorEq,Nat.reduceAdd,Nat.reduceMul,Nat.reduceLT,Nat.reduceLeDiff,Nat.reduceEqDiff,Nat.reduceSub,Int.reduceToNat,Int.reduceLT,Int.reduceLE,Int.reduceAdd,Int.reduceSub,Int.reduceMul,Int.reduceNeg,Nat.reduceBEq,Int.reduceBEq,Int.reduceBNe,Nat.reduceBNe,Int.reduceEq,hlk,hC];exact q.1)):P:=h ⟨q⟩
attribute [local push_cast 2000] za9 zaW za8 zaL za3 zaG zaV za7 zax za2 zaX zaB zaC zaY zaE zaq za6 zat zaZ za5 zas zba zaD zar zap zbh zbt zbi zaR zaH zaF Option.getD_some Option.getD_none Option.isSome_some Option.isSome_none
section
theorem zgS (ff:YS) (F:Own):(True)->DC Tryz.prog 98 [.agg [.sl [], .sl [], .sl [], .sl []], .str ff] (([]:Own)++F) fun d G=>d = .sl []/\G=[]++F:=by
 intro hA
 have hC:=hA
 refine DC.bodyS (n_:=34) (show Tryz.prog.funcs[98]? = some Tryz.f98 by kernel_rfl) rfl rfl (by rfl) ?_
 simp only [env0,List.cons_append,List.nil_append]
 have kw:=ksIs [0,1,2,4,5,7,9,10,11,12,23]
 have ow:=zaf []
 have hlk:True:=trivial
 repeat' (first
  | (with_reducible refine DW.loop0 0 ?_)
  | refine g_ ?_
  | ((with_reducible refine And.intro ?_ ?_);(exact sv))
  | (refine DW.cond (by rfl) ?_ ?_<;>(first | exact i0_ | (intro hb;(try simp only [↓reduceCtorEq,not_true_eq_false,not_false_eq_true,hbs,Int.reduceBEq,Int.reduceBNe,Int.reduceEq] at hb);(try refine zcZ ?_))))
  | ((with_reducible refine zaa ?_ ?_)<;>(intro hb;rw [hb];revert hb;(first | exact i0_ | (intro hb;(try simp only [↓reduceCtorEq,not_true_eq_false,not_false_eq_true,hbs,Int.reduceBEq,Int.reduceBNe,Int.reduceEq] at hb);(try refine zcZ ?_)))))
  | ((first | refine rn_ ?_ | refine kn_ ?_)<;>(refine zcZ ?_))
  | ((first | (refine DOp.lenm_ rfl rfl ?_;(repeat (with_reducible first | refine OnM.here ?_ | refine OnM.next ?_))))<;>(refine zcZ ?_))
  | ((refine on_ ?_);refine zcZ ?_)
  | refine f_ ?_
  | with_reducible intro b)
 all_goals first
 | ((refine ⟨_,_,le.gs rfl,⟨rfl,rfl⟩,?_⟩);(exact sub_);done)
 | (trace_state;fail)
end
abbrev LIs:=List Int
theorem zbz {p:Prop} (h:p:=by first | exact sv | exact ⟨hY,by assumption,hU _ (by omega),hQ0 _ (by omega),hQ1 _ (by omega)⟩ | (have:=hU k (by omega);omega) | exact ⟨hT,hU _ (by omega),by omega⟩ | exact ⟨hT,hU _ (by omega),by omega,by rw [hxa,zcW,hYn];exact hyl⟩ | fail):p:=h
section
attribute [local push_cast 2000] encU
theorem subA_dc (bb cm sm t:Nat) (m:Int) (M:List (Int×Nat)) (n now:Int) (cb st:Nat) (hd kp:Int) (cl:Bool) (wv:V) (y:SN) (ts:TS) (p:Pk) (F:Own):(lookA n M=some cb/\SAOK y.a/\TOK ts/\ts.L.length<=100000000/\(p.subs.length<=1000/\y.a.name.length<=1000000000)/\(∀ k,k<p.subs.length->(p.subs.getD k default).1.length<=1000000)/\(∀ k,k<p.subs.length->0<=(p.subs.getD k default).2)/\(∀ k,k<p.subs.length->(p.subs.getD k default).2<=2))->DC Tryz.prog 44 [.raw (.pointer (some ⟨bb,0,none⟩)), .int .i64 n, .agg [.int .i64 p.kind, .bool p.dup, .bool p.retain, .int .i64 p.qos, .int .i64 p.id, .str p.topic, .sl (p.payload.map u8), .int .i64 p.level, .str p.client, .bool p.clean, .int .i64 p.keep, .bool p.hasWill, .str p.wtopic, .sl (p.wpay.map u8), .int .i64 p.wqos, .bool p.wretain, .bool p.hasUser, .bool p.hasPass, .str p.user, .sl (p.pass.map u8), .bool p.present, .int .i64 p.code, .sl (p.subs.map encU), .sl (p.codes.map (V.int .i64))], .int .i64 now, .agg [.sl [], .sl [], .sl [], .sl []]] (loose::knF::knA::knM m :: .blk bb [.raw (.map (some cm)), .raw (.map (some sm)), .raw (.pointer (some ⟨t,0,none⟩))] :: .map cm (entM (V.int .i64) pv M) :: .blk cb [.raw (.pointer (some ⟨st,0,none⟩)), .int .i64 hd, .raw (.pointer (some ⟨y.b,0,none⟩)), .int .i64 kp, .bool cl,wv]::(y.own++(ownT t ts++[]))++F) fun d G=>∃ (y':SN) (ts':TS) (D:LYs),((SAOK y'.a/\y'.b=y.b/\y'.a.name=y.a.name)/\TOK ts'/\(sL y.a.name p.subs y.a ts.L)=(y'.a,ts'.L,D))/\d=zc5 (⟨outM n [sbP p.id (p.subs.map zdw)],[],D,[]⟩:Ef)/\G=loose::knF::knA::knM m :: .blk bb [.raw (.map (some cm)), .raw (.map (some sm)), .raw (.pointer (some ⟨t,0,none⟩))] :: .map cm (entM (V.int .i64) pv M) :: .blk cb [.raw (.pointer (some ⟨st,0,none⟩)), .int .i64 hd, .raw (.pointer (some ⟨y.b,0,none⟩)), .int .i64 kp, .bool cl,wv]::(y'.own++(ownT t ts'++F)):=by
 intro hA
 obtain ⟨hlk,hy,hts,hLl,⟨hUl,hyl⟩,hU,hQ0,hQ1⟩:=hA
 refine DC.bodyS (n_:=139) (show Tryz.prog.funcs[44]? = some Tryz.f44 by kernel_rfl) rfl rfl (by rfl) ?_
 simp only [env0,List.append_assoc,List.map_nil,List.length_nil,zao,List.cons_append,List.nil_append]
 have kw:=ksIs [0,1,2,3,4,7,9,10,11,12,13,15,16,17,19,33,34,35,36,42,56,95,96,97,98,107,111,112,113,114]
 have ow:=zaf []
 have dw9:=drIs 9 [] [3,5,6]
 have dw12:=drIs 12 [10] [3,5,7,9]
 have dw23:=drIs 23 [17,19] [1,5,7,9,11,15,16]
 have rw_:=rsIs [.cell 10 38]
 refine DW.tail0 1 ?_
 refine DW.tail0 1 ?_
 have hC:True:=trivial
 repeat' (first
  | (with_reducible refine DW.loop0 4 ?_)
  | ((fail_if_success (have zz:=hre));(rw [<-hxb]);(have hre:True:=trivial))
  | ((refine DOp.load_ rfl rfl ?_);(repeat (with_reducible first | refine OnB.here ?_ | refine OnB.next ?_ | (refine OnB.inH (by assumption) ?_;with_reducible intro C) | refine OnB.skip ?_));refine zcZ ?_)
  | ((refine DOp.look_ rfl rfl ?_);(repeat (with_reducible first | refine OnM.here ?_ | refine OnM.next ?_ | (refine OnM.inN (by assumption) ?_;with_reducible intro C hC) | (refine OnM.inK (by assumption) ?_;with_reducible intro C hC) | refine OnM.skip ?_));refine zcZ ?_)
  | ((with_reducible refine DW.loopB 0 (X:=Nat×Value×Value×SN×TS×LYs×LIs) (fun x=>(x.1<=p.subs.length/\x.2.2.2.2.1.L.length<=ts.L.length+x.1/\(p.subs.take x.1).map zdw=x.2.2.2.2.2.2/\x.2.2.2.2.2.2.length=x.1/\x.2.2.2.2.2.1.length<=x.1)/\SAOK x.2.2.2.1.a/\x.2.2.2.1.b=y.b/\x.2.2.2.1.a.name=y.a.name/\TOK x.2.2.2.2.1/\sL y.a.name (p.subs.take x.1) y.a ts.L=(x.2.2.2.1.a,x.2.2.2.2.1.L,x.2.2.2.2.2.1)) (fun x=>[(0, .raw (.pointer (some ⟨bb,0,none⟩))),(1, .int .i64 n),(3, .int .i64 now),(7, .sp [.int .i64 p.kind, .bool p.dup, .bool p.retain, .int .i64 p.qos, .int .i64 p.id, .str p.topic, .sl (p.payload.map u8), .int .i64 p.level, .str p.client, .bool p.clean, .int .i64 p.keep, .bool p.hasWill, .str p.wtopic, .sl (p.wpay.map u8), .int .i64 p.wqos, .bool p.wretain, .bool p.hasUser, .bool p.hasPass, .str p.user, .sl (p.pass.map u8), .bool p.present, .int .i64 p.code, .sl (p.subs.map encU), .sl (p.codes.map (V.int .i64))]),(9, .sp [.sl [], .sl [], .sl [], .sl []]),(10, .raw (.pointer (some ⟨rb,0,none⟩))),(11, .raw (.pointer (some ⟨x.2.2.2.1.b,0,none⟩))),(12, .raw (.pointer (some ⟨eb,0,none⟩))),(13, .raw (.pointer (some ⟨ab,0,none⟩))),(33, .sl (p.subs.map encU)),(34, .int .i64 p.subs.length),(35, .int .i64 x.1)]) (fun x=>.tail 1 x.2.1 :: .tail 1 x.2.2.1 :: .blk eb [.gs (.slice none 0 0) [], .gs (.slice none 0 0) [], .gs x.2.1 (x.2.2.2.2.2.1.map V.str), .gs (.slice none 0 0) []] :: .blk rb [.gs (.slice none 0 0) [], .gs (.slice none 0 0) [], .gs (.slice none 0 0) [], .gs (.slice none 0 0) []] :: .blk ab [.int .i64 9, .bool false, .bool false, .int .i64 0, .int .i64 p.id, .str [], .gs (.slice none 0 0) [], .int .i64 0, .str [], .bool false, .int .i64 0, .bool false, .str [], .gs (.slice none 0 0) [], .int .i64 0, .bool false, .bool false, .bool false, .str [], .gs (.slice none 0 0) [], .bool false, .int .i64 0, .gs (.slice none 0 0) [], .gs x.2.2.1 (x.2.2.2.2.2.2.map (V.int .i64))]::loose::knF::knA::knM m :: .blk bb [.raw (.map (some cm)), .raw (.map (some sm)), .raw (.pointer (some ⟨t,0,none⟩))]::(x.2.2.2.1.own++(ownT t x.2.2.2.2.1++[]))) (fun x=>p.subs.length - x.1) ((0, .slice none 0 0, .slice none 0 0,y,ts,[],[])) ?_ ?_ ?_);exact (⟨⟨Nat.zero_le _,Nat.le_refl _,rfl,rfl,Nat.le_refl _⟩,hy,rfl,rfl,hts,sL_0 ..⟩);(exact kxcm);(try simp only [List.append_assoc,List.map_nil,List.length_nil,zao,List.cons_append,List.nil_append]);refine pl_ ?_;intro ⟨k,va,vc,Y2,T,D,Co⟩ ⟨⟨hk,hTl0,hCo,hCl,hDl⟩,hY,hYb,hYn,hT,hSL⟩;(try simp only [List.append_assoc,List.map_nil,List.length_nil,zao,List.cons_append,List.nil_append]);(try simp only at hk hTl0 hCo hCl hDl hY hYb hYn hT hSL);have hTl:T.L.length<=1000000000:=by omega)
  | ((with_reducible refine DW.loopB 2 (X:=Nat) (fun x=>x<=p.subs.length) (fun x=>[(1, .int .i64 n),(3, .int .i64 now),(9, .sp [.sl [], .sl [], .sl [], .sl []]),(10, .raw (.pointer (some ⟨rb,0,none⟩))),(11, .raw (.pointer (some ⟨Y2.b,0,none⟩))),(12, .raw (.pointer (some ⟨eb,0,none⟩))),(13, .raw (.pointer (some ⟨ab,0,none⟩))),(95, .sl (p.subs.map encU)),(96, .int .i64 p.subs.length),(97, .int .i64 x)]) (fun x=>.blk ab [.int .i64 9, .bool false, .bool false, .int .i64 0, .int .i64 p.id, .str [], .gs (.slice none 0 0) [], .int .i64 0, .str [], .bool false, .int .i64 0, .bool false, .str [], .gs (.slice none 0 0) [], .int .i64 0, .bool false, .bool false, .bool false, .str [], .gs (.slice none 0 0) [], .bool false, .int .i64 0, .gs (.slice none 0 0) [], .gs vc (Co.map (V.int .i64))]::([]:Own)) (fun x=>p.subs.length - x) (0) ?_ ?_ ?_);exact (Nat.zero_le _);(exact kxcm);(try simp only [List.append_assoc,List.map_nil,List.length_nil,zao,List.cons_append,List.nil_append]);refine pl_ ?_;intro z hz;(try simp only [List.append_assoc,List.map_nil,List.length_nil,zao,List.cons_append,List.nil_append]);(try simp only at hz))
  | refine g_ ?_
  | ((with_reducible refine And.intro ?_ ?_);(exact zbz))
  | (refine DW.cond (by rfl) ?_ ?_<;>(first | exact i0_ | (intro hb;(try simp only [↓reduceCtorEq,not_true_eq_false,not_false_eq_true,hbs,Int.reduceBEq,Int.reduceBNe,Int.reduceEq] at hb);(try refine zcZ ?_))))
  | ((with_reducible first | refine zaa ?_ ?_ | refine zak ?_ ?_)<;>(intro hb;rw [hb];revert hb;(first | exact i0_ | (intro hb;(try simp only [↓reduceCtorEq,not_true_eq_false,not_false_eq_true,hbs,Int.reduceBEq,Int.reduceBNe,Int.reduceEq] at hb);(try refine zcZ ?_)))))
  | ((first | refine rn_ ?_ | refine dn_ ?_ | refine kn_ ?_)<;>(refine zcZ ?_))
  | ((refine dm_ ?_);(first | ((first | refine v_ (zcv _ _ _) ?_ (ha:=by exact zbz) (hk:=fun q=>q.1) | refine v_ (zfG _ _ _ _ _) ?_ (ha:=by exact zbz) (hk:=fun q=>q.1) | refine v_ (zmJ _ _) ?_ (ha:=by exact zbz) (hk:=fun q=>q.1));refine zcZ ?_) | (refine v_ (znO _ _ _ _ _) ?_ (ha:=by exact zbz) (hk:=fun q=>q.1);refine zcZ ?_) | (refine v_ (zgS _ _) ?_ (ha:=by exact zbz) (hk:=fun q=>q.1);refine zcZ ?_) | (refine DVop.look_ rfl rfl rfl rfl ?_;(repeat (with_reducible first | refine OnM.here ?_ | refine OnM.next ?_));refine zcZ ?_)))
  | ((refine von_ ?_);refine zcZ ?_)
  | ((first | (refine DOp.look_ rfl rfl ?_;(repeat (with_reducible first | refine OnM.here ?_ | refine OnM.next ?_))) | (refine DOp.lenm_ rfl rfl ?_;(repeat (with_reducible first | refine OnM.here ?_ | refine OnM.next ?_))))<;>(refine zcZ ?_))
  | ((first | refine q_ (zcv _ _ _) ?_ (ha:=by exact zbz) (hk:=fun q=>q.1) | refine q_ (zfG _ _ _ _ _) ?_ (ha:=by exact zbz) (hk:=fun q=>q.1) | refine q_ (zmJ _ _) ?_ (ha:=by exact zbz) (hk:=fun q=>q.1));refine zcZ ?_)
  | (refine p_ (ssubC _ _ _ _ _) ?_ (ha:=by exact zbz);rintro d H1 ⟨x2,⟨hxo,hxa,hxb⟩,⟨r2,rfl⟩,rfl⟩<;>refine zcZ ?_)
  | (refine p_ (put_dc _ _ _ _ _ _ _) ?_ (ha:=by exact zbz);rintro d H1 ⟨ts2,hs2,hL2,rfl,rfl⟩<;>refine zcZ ?_)
  | (refine q_ (znO _ _ _ _ _) ?_ (ha:=by exact zbz) (hk:=fun q=>q.1);refine zcZ ?_)
  | (refine q_ (zgS _ _) ?_ (ha:=by exact zbz) (hk:=fun q=>q.1);refine zcZ ?_)
  | ((refine on_ ?_);refine zcZ ?_)
  | refine f_ ?_
  | refine vm_ ?_
  | ((fail_if_success (have zz:=rb));with_reducible intro rb)
  | ((fail_if_success (have zz:=eb));with_reducible intro eb)
  | ((fail_if_success (have zz:=ab));with_reducible intro ab)
  | ((fail_if_success (have zz:=bx));with_reducible intro bx)
  | ((fail_if_success (have zz:=v2));with_reducible intro v2)
  | ((fail_if_success (have zz:=v3));with_reducible intro v3)
  | with_reducible intro b)
 all_goals first
 | (((have e1:=s_n (show k<p.subs.length by omega) hSL (by first | assumption | exact hb));(have e2:=c_n (show k<p.subs.length by omega) hCo (by first | assumption | exact hb));(refine ⟨(k+1,va,v2,Y2,T,D,Co++[128]),⟨⟨by (try simp only);omega,by (try simp only);omega,e2,by (try simp only);simp;omega,by (try simp only);omega⟩,hY,hYb,hYn,hT,e1⟩,by (try simp only);omega,?_,?_⟩);(focus (simp [Sub,get,zaP]));(try dsimp only);(simp only [List.map_append,List.map_cons,List.map_nil]);(exact sub_);done))
 | (((have hs9:filterB (p.subs.getD k default).1=true:=by assumption);(have hp9:=znJ T.L (p.subs.getD k default).1 y.a.name (p.subs.getD k default).2);(have e:=s_y (a2:=x2.a) (L2:=ts2.L) (show k<p.subs.length by omega) hSL hs9 hxa (by rw [hL2,hxa,zcW,hYn]) (by omega));(have e2:=c_y (show k<p.subs.length by omega) hCo hs9);(refine ⟨(k+1,v2,v3,x2,ts2,D++[(p.subs.getD k default).1],Co++[(p.subs.getD k default).2]),⟨⟨by (try simp only);omega,by (try simp only);rw [hL2,hxa,zcW,hYn];omega,e2,by (try simp only);simp;omega,by (try simp only);simp;omega⟩,hxo,hxb.trans hYb,by (try simp only);rw [hxa,zcW];exact hYn,hs2,e⟩,by (try simp only);omega,?_,?_⟩);(focus (simp [Sub,get,zaP,hxb]));(try dsimp only);(simp only [List.map_append,List.map_cons,List.map_nil]);(exact sub_);done))
 | (((have hs9:filterB (p.subs.getD k default).1=true:=by assumption);(have hp9:=znJ T.L (p.subs.getD k default).1 y.a.name (p.subs.getD k default).2);(have e:=s_k (a2:=x2.a) (L2:=ts2.L) (show k<p.subs.length by omega) hSL hs9 hxa (by rw [hL2,hxa,zcW,hYn]) (by omega));(have e2:=c_y (show k<p.subs.length by omega) hCo hs9);(refine ⟨(k+1,va,v2,x2,ts2,D,Co++[(p.subs.getD k default).2]),⟨⟨by (try simp only);omega,by (try simp only);rw [hL2,hxa,zcW,hYn];omega,e2,by (try simp only);simp;omega,by (try simp only);omega⟩,hxo,hxb.trans hYb,by (try simp only);rw [hxa,zcW];exact hYn,hs2,e⟩,by (try simp only);omega,?_,?_⟩);(focus (simp [Sub,get,zaP,hxb]));(try dsimp only);(simp only [List.map_append,List.map_cons,List.map_nil]);(exact sub_);done))
 | (((refine ⟨z+1,by (try simp only);omega,by (try simp only);omega,?_,?_⟩);(focus (simp [Sub,get,zaP]));(try dsimp only);(exact sub_);done))
 | (((have hkl:k=p.subs.length:=by omega);(subst hkl);(rw [List.take_length] at hSL hCo);(subst hCo);(refine ⟨_,_,le.agg (Les.cons le.rfl_ (Les.cons (le.gs rfl) (Les.cons (le.gs rfl) (Les.cons (le.gs rfl) Les.nil)))),⟨Y2,T,D,⟨⟨hY,hYb,hYn⟩,hT,hSL⟩,rfl,rfl⟩,?_⟩);(exact sub_);done))
 | (trace_state;fail)
end
end
end Go.Proofs.YtgekknefphagbaaGreatDoor
