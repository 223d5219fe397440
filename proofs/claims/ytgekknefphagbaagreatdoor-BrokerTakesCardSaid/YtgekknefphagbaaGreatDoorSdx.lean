/- The broker: Take of filters. -/
import Derived.Test.YtgekknefphagbaaGreatDoorQhx
import Derived.KernelRfl
import Derived.Test.YtgekknefphagbaaGreatDoorQjx
namespace Go.Proofs.YtgekknefphagbaaGreatDoor
open Go.RowKit
set_option linter.unusedSimpArgs false
set_option linter.unusedVariables false
set_option linter.unusedSectionVars false
set_option maxHeartbeats 4000000
set_option maxRecDepth 100000
section
attribute [local irreducible] SN.own ownT ownC ownS zae zbj zaK zb5 sL outM zdw zcl putL
attribute [local irreducible] DW SeqD DV DOp DC DVX DVJ idsF usI sortS putM zaj onlyM
theorem zcM {p:Prop} (h:p:=by first | exact sv | exact ⟨hlk,hy,hts,hH⟩ | fail):p:=h
theorem zfF {P Q:Prop} (q:Q) (h:Hid Q->P:=by (intro q;simp (maxSteps:=1000000) (disch:=omega) only [push_cast,↓reduceIte,reduceCtorEq,Nat.reduceAdd,Nat.reduceMul,Nat.reduceLT,Nat.reduceLeDiff,Nat.reduceEqDiff,Nat.reduceSub,Int.reduceToNat,Int.reduceLT,Int.reduceLE,Int.reduceAdd,Int.reduceSub,Int.reduceMul,Int.reduceNeg,Nat.reduceBEq,Int.reduceBEq,Int.reduceBNe,Nat.reduceBNe,Int.reduceEq,hlk,hC];exact q.1)):P:=h ⟨q⟩
attribute [local push_cast 2000] za9 zaW za8 zaL za3 zaG zaV za7 zax za2 zaX zaB zaC zaY zaE zaq za6 zat zaZ za5 zas zba zaD zar zap zbh zbt zbi zaR zaH zaF Option.getD_some Option.getD_none Option.isSome_some Option.isSome_none
section
attribute [local push_cast 2000] zc5
theorem zll (bb:Nat) (m:Int) (cm sm t:Nat) (ts:TS) (l1 l2:List Cn) (m1 m2:List SN) (y:SN) (n now:Int) (cb st:Nat) (left:YS) (bad hd kp:Int) (cl:Bool) (will:List Mg) (lv wv:V) (p:Pk) (F:Own):(lookA n (kvC l1++(n,cb)::kvC l2)=some cb/\p.kind=8/\SAOK y.a/\TOK ts/\ts.L.length<=100000000/\(p.subs.length<=1000/\y.a.name.length<=1000000000)/\(∀ k,k<p.subs.length->(p.subs.getD k default).1.length<=1000000)/\(∀ k,k<p.subs.length->0<=(p.subs.getD k default).2)/\(∀ k,k<p.subs.length->(p.subs.getD k default).2<=2))->DC Tryz.prog 14 [.raw (.pointer (some ⟨bb,0,none⟩)), .int .i64 n, .agg [.int .i64 p.kind, .bool p.dup, .bool p.retain, .int .i64 p.qos, .int .i64 p.id, .str p.topic, .sl (p.payload.map u8), .int .i64 p.level, .str p.client, .bool p.clean, .int .i64 p.keep, .bool p.hasWill, .str p.wtopic, .sl (p.wpay.map u8), .int .i64 p.wqos, .bool p.wretain, .bool p.hasUser, .bool p.hasPass, .str p.user, .sl (p.pass.map u8), .bool p.present, .int .i64 p.code, .sl (p.subs.map encU), .sl (p.codes.map (V.int .i64))], .int .i64 now, .agg [.sl [], .sl [], .sl [], .sl []]] (loose::knF::knA::knM m :: .blk bb [.raw (.map (some cm)), .raw (.map (some sm)), .raw (.pointer (some ⟨t,0,none⟩))] :: .map cm (entM (V.int .i64) pv (kvC l1++(n,cb)::kvC l2)) :: .blk cb [.raw (.pointer (some ⟨st,0,none⟩)), .int .i64 hd, .raw (.pointer (some ⟨y.b,0,none⟩)), .int .i64 kp, .bool cl,wv] :: .map sm (entM V.str pv (kvS m1++(y.a.name,y.b)::kvS m2)) :: .blk st [lv, .int .i64 bad]::(ownC l1++(ownC l2++(ownS m1++(ownS m2++(y.own++(ownT t ts++[]))))))++F) fun d G=>∃ (y':SN) (ts':TS) (D:LYs),((SAOK y'.a/\y'.b=y.b/\y'.a.name=y.a.name)/\TOK ts'/\sL y.a.name p.subs y.a ts.L=(y'.a,ts'.L,D))/\d = .tup [zc5 (⟨outM n [sbP p.id (p.subs.map zdw)],[],D,[]⟩:Ef), .int .i64 0]/\G=loose::knF::knA::knM m::(ownB bb (⟨cm,sm,t,ts',l1++(⟨n,cb,st,left,bad,zbf now,some (y.a.name,y.b),kp,cl,will,lv,wv⟩:Cn)::l2,m1++y'::m2⟩:BN)++F):=by
 intro hA
 obtain ⟨hlk,hk6,hy,hts,hH⟩:=hA
 refine DC.bodyS (n_:=114) (show Tryz.prog.funcs[14]? = some Tryz.f14 by kernel_rfl) rfl rfl (by rfl) ?_
 simp only [env0,List.append_assoc,List.cons_append,List.nil_append]
 have kw:=ksIs [0,1,2,3,4,7,9,10,11,12,14,22,37,42,43,50,56,71,85,93,99,106]
 have ow:=zaf []
 have dw5:=drIs 5 [] [3,6]
 have dw13:=drIs 13 [] [3,4,5]
 have dw18:=drIs 18 [10] [4,5,7,8]
 have rw_:=rsIs [.cell 10 38, .tmp 11]
 have hC:True:=trivial
 repeat' (first
  | ((refine DOp.load_ rfl rfl ?_);(repeat (with_reducible first | refine OnB.here ?_ | refine OnB.next ?_ | (refine OnB.inH (by assumption) ?_;with_reducible intro C) | refine OnB.skip ?_));refine zfF ?_)
  | ((refine DOp.look_ rfl rfl ?_);(repeat (with_reducible first | refine OnM.here ?_ | refine OnM.next ?_ | (refine OnM.inN (by assumption) ?_;with_reducible intro C hC) | (refine OnM.inK (by assumption) ?_;with_reducible intro C hC) | refine OnM.skip ?_));refine zfF ?_)
  | refine g_ ?_
  | ((with_reducible refine And.intro ?_ ?_);(exact zcM))
  | (refine DW.cond (by rfl) ?_ ?_<;>(first | exact i0_ | (intro hb;(try simp only [↓reduceCtorEq,not_true_eq_false,not_false_eq_true,hbs,Int.reduceBEq,Int.reduceBNe,Int.reduceEq] at hb);(try refine zfF ?_))))
  | ((with_reducible first | refine zaa ?_ ?_ | refine zak ?_ ?_)<;>(intro hb;rw [hb];revert hb;(first | exact i0_ | (intro hb;(try simp only [↓reduceCtorEq,not_true_eq_false,not_false_eq_true,hbs,Int.reduceBEq,Int.reduceBNe,Int.reduceEq] at hb);(try refine zfF ?_)))))
  | ((first | refine rn_ ?_ | refine dn_ ?_ | refine kn_ ?_)<;>(refine zfF ?_))
  | ((refine dm_ ?_);(first | (refine v_ (zdv _ _) ?_ (ha:=by exact zcM) (hk:=fun q=>q.1);refine zfF ?_) | (refine DVop.look_ rfl rfl rfl rfl ?_;(repeat (with_reducible first | refine OnM.here ?_ | refine OnM.next ?_));refine zfF ?_)))
  | ((refine von_ ?_);refine zfF ?_)
  | ((first | (refine DOp.look_ rfl rfl ?_;(repeat (with_reducible first | refine OnM.here ?_ | refine OnM.next ?_))))<;>(refine zfF ?_))
  | (refine q_ (zdv _ _) ?_ (ha:=by exact zcM) (hk:=fun q=>q.1);refine zfF ?_)
  | (refine p_ (subA_dc _ _ _ _ _ _ _ _ _ _ _ _ _ _ _ _ _ _) ?_ (ha:=by exact zcM);rintro d H1 ⟨y',ts',D,⟨⟨hyo,hy2,hyn⟩,hts',hL⟩,rfl,rfl⟩<;>refine zfF ?_)
  | ((refine on_ ?_);refine zfF ?_)
  | refine f_ ?_
  | refine vm_ ?_
  | ((fail_if_success (have zz:=rb));with_reducible intro rb)
  | with_reducible intro b)
 all_goals first
 | (((with_reducible refine kill_ ?_);omega))
 | (((refine ⟨_,_,le.rfl_,⟨y',ts',D,⟨⟨hyo,hy2,hyn⟩,hts',hL⟩,rfl,rfl⟩,?_⟩);(simp only [ownB,BN.maps,zad,zaM,zai,zbq,Cn.own,Cn.cells,Cn.sv,Option.map_none,Option.map_some,hy2,hyn,List.append_assoc,List.cons_append,List.nil_append,List.append_nil]);(exact sub_);done))
 | (trace_state;fail)
end
section
attribute [local push_cast 2000] zc5
end
end
section
theorem sS_keep (nm:YS) (x:SA×TL×List YS) (u:YS×Int):(sS nm x u).1.fly=x.1.fly/\(sS nm x u).1.q=x.1.q/\(sS nm x u).1.name=x.1.name:=by unfold sS;split<;>exact ⟨rfl,rfl,rfl⟩
theorem ziF {f:SA×TL×List YS->YS×Int->SA×TL×List YS} (hf:∀ x u,(f x u).1.fly=x.1.fly/\(f x u).1.q=x.1.q/\(f x u).1.name=x.1.name):∀ (us:List (YS×Int)) (x:SA×TL×List YS),(us.foldl f x).1.fly=x.1.fly/\(us.foldl f x).1.q=x.1.q/\(us.foldl f x).1.name=x.1.name
 | [],x=>⟨rfl,rfl,rfl⟩
 | u::us,x=>by
  have h1:=ziF hf us (f x u)
  have h2:=hf x u
  exact ⟨h1.1.trans h2.1,h1.2.1.trans h2.2.1,h1.2.2.trans h2.2.2⟩
theorem saq_of {a b:SA} (h:SAQ a) (h1:b.fly=a.fly) (h2:b.q=a.q):SAQ b:=⟨by rw [h1];exact h.fly,by rw [h2];exact h.q⟩
theorem BOK.setT {cm sm t:Nat} {ts ts':TS} {cs:List Cn} {ss:List SN} (h:BOK ⟨cm,sm,t,ts,cs,ss⟩) (ht:TOK ts'):BOK ⟨cm,sm,t,ts',cs,ss⟩:=⟨ht,h.cn,h.co,h.sn,h.so,h.sq,h.sd⟩
def subX (nm:YS) (p:Pk) (b:Br):SA×TL×List YS:=sL nm p.subs (sesD nm b) b.L
def setB (n now:Int) (nm:YS) (x:SA×TL×List YS) (b:Br):Br:={ zbV n now b with sess:=(zbV n now b).sess.map (fun a=>if a.name=nm then x.1 else a),L:=x.2.1 }
structure SubN (p:Pk):Prop where
 n:p.subs.length<=1000
 l:∀ k,k<p.subs.length->(p.subs.getD k default).1.length<=1000000
 q0:∀ k,k<p.subs.length->0<=(p.subs.getD k default).2
 q1:∀ k,k<p.subs.length->(p.subs.getD k default).2<=2
attribute [local irreducible] SN.own ownT ownC ownS zae zbj zaK zb5 sL outM zdw zcl putL
attribute [local irreducible] DW SeqD DV DOp DC DVX DVJ idsF usI sortS putM zaj onlyM
theorem zj0 (bb:Nat) (m:Int) (s:BN) (n now:Int) (p:Pk) (nm:YS) (F:Own):(BOK s/\(∃ cp,s.pl.conn n=some cp/\cp.s=some nm)/\p.kind=8/\SubN p/\s.pl.L.length<=100000000)->DC Tryz.prog 14 [.raw (.pointer (some ⟨bb,0,none⟩)), .int .i64 n, .agg [.int .i64 p.kind, .bool p.dup, .bool p.retain, .int .i64 p.qos, .int .i64 p.id, .str p.topic, .sl (p.payload.map u8), .int .i64 p.level, .str p.client, .bool p.clean, .int .i64 p.keep, .bool p.hasWill, .str p.wtopic, .sl (p.wpay.map u8), .int .i64 p.wqos, .bool p.wretain, .bool p.hasUser, .bool p.hasPass, .str p.user, .sl (p.pass.map u8), .bool p.present, .int .i64 p.code, .sl (p.subs.map encU), .sl (p.codes.map (V.int .i64))], .int .i64 now, .agg [.sl [], .sl [], .sl [], .sl []]] ((loose::knF::knA::knM m::(ownB bb s++[]))++F) fun d G=>∃ s':BN,(BOK s'/\s'.pl=setB n now nm (subX nm p s.pl) s.pl)/\d = .tup [zc5 (⟨outM n [sbP p.id (p.subs.map zdw)],[],(subX nm p s.pl).2.2,[]⟩:Ef), .int .i64 0]/\G=loose::knF::knA::knM m::(ownB bb s'++F):=by
 rintro ⟨h,⟨cp,hc,hs⟩,hk,hN,hz⟩
 obtain ⟨cm,sm,t,ts,l1,c,l2,ss,rfl,rfl,hcn,h1,h2⟩:=h.at hc
 obtain ⟨cn,cb,st,left,bad,hd,sv,kp,cl,will,lv,wv⟩:=c
 have hcn1:n=cn:=hcn.symm
 subst hcn1
 cases sv with
 | none=>simp [Cn.pl] at hs
 | some e =>
 obtain ⟨xn,xb⟩:=e
 have hxn:xn=nm:=by simpa [Cn.pl] using hs
 subst hxn
 obtain ⟨m1,y,m2,hss,hyn0,hyb0,k1,k2⟩:=ses_at h (c:=⟨n,cb,st,left,bad,hd,some (xn,xb),kp,cl,will,lv,wv⟩) (by simp) rfl
 simp only at hss
 subst hss;subst hyn0;subst hyb0
 have hy:=h.so y (by simp)
 have hyq:=h.sq y (by simp)
 have hlk:lookA n (kvC l1++(n,cb)::kvC l2)=some cb:=by have:=ze6 (l2:=l2) h1;rwa [zaM] at this
 have hH:ts.L.length<=100000000/\(p.subs.length<=1000/\y.a.name.length<=1000000000)/\(∀ k,k<p.subs.length->(p.subs.getD k default).1.length<=1000000)/\(∀ k,k<p.subs.length->0<=(p.subs.getD k default).2)/\(∀ k,k<p.subs.length->(p.subs.getD k default).2<=2):=⟨hz,⟨hN.n,by have:=hy.name;omega⟩,hN.l,hN.q0,hN.q1⟩
 refine DC.conv (zll bb m cm sm t ts l1 l2 m1 m2 y n now cb st left bad hd kp cl will lv wv p F ⟨hlk,hk,hy,h.t,hH⟩) (by (simp only [ownB,BN.maps,zad,zaM,zai,zbq,Cn.own,Cn.cells,Cn.sv,Option.map_none,Option.map_some,List.append_assoc,List.cons_append,List.nil_append,List.append_nil]);exact sub_) ?_
 rintro d G ⟨y',ts',D,⟨⟨hyo,hy2,hyn⟩,hts',hL⟩,rfl,rfl⟩
 have hD:sesD y.a.name (BN.pl ⟨cm,sm,t,ts,l1++(⟨n,cb,st,left,bad,hd,some (y.a.name,y.b),kp,cl,will,lv,wv⟩:Cn)::l2,m1++y::m2⟩)=y.a:=sesD_at k1
 have hx:subX y.a.name p (BN.pl ⟨cm,sm,t,ts,l1++(⟨n,cb,st,left,bad,hd,some (y.a.name,y.b),kp,cl,will,lv,wv⟩:Cn)::l2,m1++y::m2⟩)=(y'.a,ts'.L,D):=by unfold subX;rw [hD];exact hL
 have hkeep:y'.a.fly=y.a.fly/\y'.a.q=y.a.q:=by
  have h9:=ziF (sS_keep y.a.name) p.subs (y.a,ts.L,[])
  unfold sL at hL
  rw [hL] at h9
  exact ⟨h9.1,h9.2.1⟩
 refine ⟨_,_,le.rfl_,⟨(⟨cm,sm,t,ts',l1++(⟨n,cb,st,left,bad,zbf now,some (y.a.name,y.b),kp,cl,will,lv,wv⟩:Cn)::l2,m1++y'::m2⟩:BN),⟨?_,?_⟩,by rw [hx],rfl⟩,sub_⟩
 · exact ((h.heard now).setS hyn hy2 hyo (saq_of hyq hkeep.1 hkeep.2)).setT hts'
 · rw [hx]
   unfold setB
   rw [<-zhG (c:=(⟨n,cb,st,left,bad,hd,some (y.a.name,y.b),kp,cl,will,lv,wv⟩:Cn)) now h1 h2]
   have e1:=pl_setS (cm:=cm) (sm:=sm) (t:=t) (ts:=ts) (cs:=l1++(⟨n,cb,st,left,bad,zbf now,some (y.a.name,y.b),kp,cl,will,lv,wv⟩:Cn)::l2) (y':=y') (g:=fun _=>y'.a) k1 k2 rfl
   have e2:BN.pl ⟨cm,sm,t,ts',l1++(⟨n,cb,st,left,bad,zbf now,some (y.a.name,y.b),kp,cl,will,lv,wv⟩:Cn)::l2,m1++y'::m2⟩={ BN.pl ⟨cm,sm,t,ts,l1++(⟨n,cb,st,left,bad,zbf now,some (y.a.name,y.b),kp,cl,will,lv,wv⟩:Cn)::l2,m1++y'::m2⟩ with L:=ts'.L }:=rfl
   rw [e2,e1]
end
end Go.Proofs.YtgekknefphagbaaGreatDoor
