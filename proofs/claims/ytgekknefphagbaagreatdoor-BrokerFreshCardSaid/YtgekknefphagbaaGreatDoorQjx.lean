/- The broker: Take over the whole state: nobody, what may not be said, a ping, a goodbye. -/
import Derived.Test.YtgekknefphagbaaGreatDoorOpx
import Derived.KernelRfl
import Derived.Test.YtgekknefphagbaaGreatDoorYmx
namespace Go.Proofs.YtgekknefphagbaaGreatDoor
open Go.RowKit
set_option linter.unusedSimpArgs false
set_option linter.unusedVariables false
set_option linter.unusedSectionVars false
set_option maxHeartbeats 4000000
set_option maxRecDepth 100000
section
def zdW (n:Int) (b:Br):Br:={ b with conns:=b.conns.map fun c=>if c.n=n then { c with will:=[] } else c }
theorem BSz.unwill {b:Br} (h:BSz b) (n:Int):BSz (zdW n b):=⟨h.L,h.sub⟩
theorem BOK.unwill {cm sm t:Nat} {ts:TS} {l1 l2:List Cn} {ss:List SN} {c:Cn} (h:BOK ⟨cm,sm,t,ts,l1++c::l2,ss⟩):BOK ⟨cm,sm,t,ts,l1++{ c with will:=[],wv:=.gs (.slice none 0 0) [] }::l2,ss⟩:=by
 refine ⟨h.t,?_,fun d hd=>?_,h.sn,h.so,h.sq,?_⟩
 · have:=h.cn
   simp only [List.map_append,List.map_cons] at this ⊢
   exact this
 · rcases List.mem_append.1 hd with h1 | h1
   · exact h.co d (List.mem_append.2 (.inl h1))
   · rcases List.mem_cons.1 h1 with rfl | h1
     · have ho:=h.co c (by simp)
       exact ⟨ho.n,ho.heard,ho.keep,Nat.zero_le _,(fun _ h=>nomatch h),ho.lv, .inl ⟨rfl,rfl⟩,ho.s⟩
     · exact h.co d (List.mem_append.2 (.inr (List.mem_cons_of_mem _ h1)))
 · have key:∀ d∈l1++{ c with will:=[],wv:=.gs (.slice none 0 0) [] }::l2,∃ d'∈l1++c::l2,d'.n=d.n/\d'.s=d.s:=fun d hd=>by
    rcases List.mem_append.1 hd with h1 | h1
    · exact ⟨d,List.mem_append.2 (.inl h1),rfl,rfl⟩
    · rcases List.mem_cons.1 h1 with rfl | h1
      · exact ⟨c,by simp,rfl,rfl⟩
      · exact ⟨d,List.mem_append.2 (.inr (List.mem_cons_of_mem _ h1)),rfl,rfl⟩
   intro a ha d hd e e' he he' hee
   obtain ⟨a',ha',ha1,ha2⟩:=key a ha
   obtain ⟨d',hd',hd1,hd2⟩:=key d hd
   rw [<-ha1,<-hd1]
   exact h.sd a' ha' d' hd' e e' (ha2.trans he) (hd2.trans he') hee
theorem zeg {cm sm t:Nat} {ts:TS} {l1 l2:List Cn} {ss:List SN} {c:Cn} (now:Int) (h1:∀ d∈l1,d.n≠c.n) (h2:∀ d∈l2,d.n≠c.n):BN.pl ⟨cm,sm,t,ts,l1++{ c with heard:=zal now }::l2,ss⟩=zbw c.n now (BN.pl ⟨cm,sm,t,ts,l1++c::l2,ss⟩):=by
 unfold zbw BN.pl
 simp only
 rw [zkr (c':={ c with heard:=zal now }) rfl h1 h2]
theorem znX {cm sm t:Nat} {ts:TS} {l1 l2:List Cn} {ss:List SN} {c:Cn} (h1:∀ d∈l1,d.n≠c.n) (h2:∀ d∈l2,d.n≠c.n):BN.pl ⟨cm,sm,t,ts,l1++{ c with will:=[],wv:=.gs (.slice none 0 0) [] }::l2,ss⟩=zdW c.n (BN.pl ⟨cm,sm,t,ts,l1++c::l2,ss⟩):=by
 unfold zdW BN.pl
 simp only
 rw [zkr (c':={ c with will:=[],wv:=.gs (.slice none 0 0) [] }) rfl h1 h2]
attribute [local irreducible] SN.own ownT ownC ownS zae za8 zaR zbD
attribute [local irreducible] DW SeqD DV DOp DC DVX DVJ idsF usI sortS putM zay onlyM
theorem zcC {p:Prop} (h:p:=by first | exact sv | exact ⟨h1,⟨h2,rfl⟩,h4⟩ | fail):p:=h
theorem zfD {P Q:Prop} (q:Q) (h:Hid Q->P:=by (intro q;simp (maxSteps:=1000000) (disch:=omega) only [push_cast,↓reduceIte,reduceCtorEq,Nat.reduceAdd,Nat.reduceMul,Nat.reduceLT,Nat.reduceLeDiff,Nat.reduceEqDiff,Nat.reduceSub,Int.reduceToNat,Int.reduceLT,Int.reduceLE,Int.reduceAdd,Int.reduceSub,Int.reduceMul,Int.reduceNeg,Nat.reduceBEq,Int.reduceBEq,Int.reduceBNe,Nat.reduceBNe,Int.reduceEq,hlk,hC];exact q.1)):P:=h ⟨q⟩
section
attribute [local push_cast 2000] zaK zbd zaI zaV zaA zaD zbe zaF za6 za7 zba zaH zaG zbb zaC za1 zaJ zaz zbc zaE za0 zaZ zaB zax za2 zbn zb1 zbl zaY zaM zaL Option.getD_some Option.getD_none Option.isSome_some Option.isSome_none
theorem zlY (bb:Nat) (m:Int) (cm sm t:Nat) (ts:TS) (l1 l2:List Cn) (ss:List SN) (n now:Int) (cb st:Nat) (left:YS) (bad hd kp:Int) (cl:Bool) (will:List Mg) (lv wv:V) (xn:YS) (xb:Nat) (p:Pk) (T1 T2 T3 T4:List V) (F:Own):((BOK (⟨cm,sm,t,ts,l1++(⟨n,cb,st,left,bad,zal now,some (xn,xb),kp,cl,will,lv,wv⟩:Cn)::l2,ss⟩:BN)/\(⟨n,cb,st,left,bad,zal now,some (xn,xb),kp,cl,will,lv,wv⟩:Cn)∈(⟨cm,sm,t,ts,l1++(⟨n,cb,st,left,bad,zal now,some (xn,xb),kp,cl,will,lv,wv⟩:Cn)::l2,ss⟩:BN).cs/\BSz (⟨cm,sm,t,ts,l1++(⟨n,cb,st,left,bad,zal now,some (xn,xb),kp,cl,will,lv,wv⟩:Cn)::l2,ss⟩:BN).pl)/\lookA n (kvC l1++(n,cb)::kvC l2)=some cb/\p.kind=2)->DC Tryz.prog 14 [.raw (.pointer (some ⟨bb,0,none⟩)), .int .i64 n, .agg [.int .i64 p.kind, .bool p.dup, .bool p.retain, .int .i64 p.qos, .int .i64 p.id, .str p.topic, .sl (p.payload.map u8), .int .i64 p.level, .str p.client, .bool p.clean, .int .i64 p.keep, .bool p.hasWill, .str p.wtopic, .sl (p.wpay.map u8), .int .i64 p.wqos, .bool p.wretain, .bool p.hasUser, .bool p.hasPass, .str p.user, .sl (p.pass.map u8), .bool p.present, .int .i64 p.code, .sl (p.subs.map encU), .sl (p.codes.map (V.int .i64))], .int .i64 now, .agg [.sl T1, .sl T2, .sl T3, .sl T4]] (loose::knF::knA::knM m :: .blk bb [.raw (.map (some cm)), .raw (.map (some sm)), .raw (.pointer (some ⟨t,0,none⟩))] :: .map cm (entM (V.int .i64) pv (kvC l1++(n,cb)::kvC l2)) :: .blk cb [.raw (.pointer (some ⟨st,0,none⟩)), .int .i64 hd, .raw (.pointer (some ⟨xb,0,none⟩)), .int .i64 kp, .bool cl,wv] :: .map sm (entM V.str pv (kvS ss)) :: .blk st [lv, .int .i64 bad]::(ownC l1++(ownC l2++(ownS ss++(ownT t ts++[]))))++F) fun d G=>∃ s':BN,(BOK s'/\s'.pl=(zae n (⟨cm,sm,t,ts,l1++(⟨n,cb,st,left,bad,zal now,some (xn,xb),kp,cl,will,lv,wv⟩:Cn)::l2,ss⟩:BN).pl).2)/\d = .tup [zb8 (zae n (⟨cm,sm,t,ts,l1++(⟨n,cb,st,left,bad,zal now,some (xn,xb),kp,cl,will,lv,wv⟩:Cn)::l2,ss⟩:BN).pl).1, .int .i64 0]/\G=loose::knF::knA::knM m::(ownB bb s'++F):=by
 intro hA
 obtain ⟨⟨h1,h2,h4⟩,hlk,hC⟩:=hA
 refine DC.bodyS (n_:=114) (show Tryz.prog.funcs[14]? = some Tryz.f14 by kernel_rfl) rfl rfl (by rfl) ?_
 simp only [env0,List.append_assoc,List.cons_append,List.nil_append]
 have kw:=ksIs [0,1,2,3,4,7,9,10,11,12,14,22,37,42,43,50,56,71,85,93,99,106]
 have ow:=zai []
 have dw5:=drIs 5 [] [3,6]
 have dw13:=drIs 13 [] [3,4,5]
 have dw18:=drIs 18 [10] [4,5,7,8]
 have rw_:=rsIs [.cell 10 38, .tmp 11]
 repeat' (first
  | ((fail_if_success (have zz:=hto));(with_reducible refine DW.toR 27 (G:=.blk rb [.gs (.slice none 0 0) [], .gs (.slice none 0 0) [], .gs (.slice none 0 0) [], .gs (.slice none 0 0) []]::loose::knF::knA::knM m::(ownB bb (⟨cm,sm,t,ts,l1++(⟨n,cb,st,left,bad,zal now,some (xn,xb),kp,cl,will,lv,wv⟩:Cn)::l2,ss⟩:BN)++F)) ?_ ?_);(focus ((simp only [ownB,BN.maps,zad,zas,Cn.own,Cn.cells,Cn.sv,Option.map_none,Option.map_some,List.append_assoc,List.cons_append,List.nil_append,List.append_nil]);exact sub_));(have hto:True:=trivial))
  | ((refine DOp.load_ rfl rfl ?_);(repeat (with_reducible first | refine OnB.here ?_ | refine OnB.next ?_ | (refine OnB.inH (by assumption) ?_;with_reducible intro C) | refine OnB.skip ?_));refine zfD ?_)
  | ((refine DOp.look_ rfl rfl ?_);(repeat (with_reducible first | refine OnM.here ?_ | refine OnM.next ?_ | (refine OnM.inN (by assumption) ?_;with_reducible intro C hC) | (refine OnM.inK (by assumption) ?_;with_reducible intro C hC) | refine OnM.skip ?_));refine zfD ?_)
  | refine g_ ?_
  | ((with_reducible refine And.intro ?_ ?_);(exact zcC))
  | (refine DW.cond (by rfl) ?_ ?_<;>(first | exact i0_ | (intro hb;(try simp only [↓reduceCtorEq,not_true_eq_false,not_false_eq_true,hbs,Int.reduceBEq,Int.reduceBNe,Int.reduceEq] at hb);(try refine zfD ?_))))
  | ((with_reducible first | refine zaa ?_ ?_ | refine zak ?_ ?_)<;>(intro hb;rw [hb];revert hb;(first | exact i0_ | (intro hb;(try simp only [↓reduceCtorEq,not_true_eq_false,not_false_eq_true,hbs,Int.reduceBEq,Int.reduceBNe,Int.reduceEq] at hb);(try refine zfD ?_)))))
  | ((first | refine rn_ ?_ | refine dn_ ?_ | refine kn_ ?_)<;>(refine zfD ?_))
  | ((refine dm_ ?_);(first | (refine v_ (zbB _ _) ?_ (ha:=by exact zcC) (hk:=fun q=>q.1);refine zfD ?_) | (refine DVop.look_ rfl rfl rfl rfl ?_;(repeat (with_reducible first | refine OnM.here ?_ | refine OnM.next ?_));refine zfD ?_)))
  | ((refine von_ ?_);refine zfD ?_)
  | ((first | (refine DOp.look_ rfl rfl ?_;(repeat (with_reducible first | refine OnM.here ?_ | refine OnM.next ?_))))<;>(refine zfD ?_))
  | (refine q_ (zbB _ _) ?_ (ha:=by exact zcC) (hk:=fun q=>q.1);refine zfD ?_)
  | (refine p_ (zcc (s:=(⟨cm,sm,t,ts,l1++(⟨n,cb,st,left,bad,zal now,some (xn,xb),kp,cl,will,lv,wv⟩:Cn)::l2,ss⟩:BN)) (c:=(⟨n,cb,st,left,bad,zal now,some (xn,xb),kp,cl,will,lv,wv⟩:Cn)) _ _ _ _) ?_ (ha:=by exact zcC);rintro d H1 ⟨s2,⟨hs2,hp2⟩,rfl,rfl⟩<;>refine zfD ?_)
  | ((refine on_ ?_);refine zfD ?_)
  | refine f_ ?_
  | refine vm_ ?_
  | ((fail_if_success (have zz:=rb));with_reducible intro rb)
  | with_reducible intro b)
 all_goals first
 | (((refine ⟨_,_,le.rfl_,⟨s2,⟨hs2,hp2⟩,rfl,rfl⟩,?_⟩);(exact sub_);done))
 | (trace_state;fail)
end
theorem zlB (bb:Nat) (m:Int) (s:BN) (n now:Int) (p:Pk) (T1 T2 T3 T4:List V) (F:Own):(BOK s/\BSz s.pl/\(∃ cp,s.pl.conn n=some cp/\cp.s.isSome=false)/\p.kind≠1)->DC Tryz.prog 14 [.raw (.pointer (some ⟨bb,0,none⟩)), .int .i64 n, .agg [.int .i64 p.kind, .bool p.dup, .bool p.retain, .int .i64 p.qos, .int .i64 p.id, .str p.topic, .sl (p.payload.map u8), .int .i64 p.level, .str p.client, .bool p.clean, .int .i64 p.keep, .bool p.hasWill, .str p.wtopic, .sl (p.wpay.map u8), .int .i64 p.wqos, .bool p.wretain, .bool p.hasUser, .bool p.hasPass, .str p.user, .sl (p.pass.map u8), .bool p.present, .int .i64 p.code, .sl (p.subs.map encU), .sl (p.codes.map (V.int .i64))], .int .i64 now, .agg [.sl T1, .sl T2, .sl T3, .sl T4]] ((loose::knF::knA::knM m::(ownB bb s++[]))++F) fun d G=>∃ s':BN,(BOK s'/\s'.pl=(zae n (zbw n now s.pl)).2)/\d = .tup [zb8 (zae n (zbw n now s.pl)).1, .int .i64 0]/\G=loose::knF::knA::knM m::(ownB bb s'++F):=by
 rintro ⟨h,hz,⟨cp,hc,hs⟩,hk⟩
 obtain ⟨cm,sm,t,ts,l1,c,l2,ss,rfl,rfl,hcn,h1,h2⟩:=h.at hc
 obtain ⟨cn,cb,st,left,bad,hd,sv,kp,cl,will,lv,wv⟩:=c
 have hcn1:n=cn:=hcn.symm
 subst hcn1
 cases sv with
 | some e=>simp [Cn.pl] at hs
 | none =>
 have hlk:lookA n (kvC l1++(n,cb)::kvC l2)=some cb:=by have:=zcZ (l2:=l2) h1;rwa [zas] at this
 have hp:BN.pl ⟨cm,sm,t,ts,l1++(⟨n,cb,st,left,bad,zal now,none,kp,cl,will,lv,wv⟩:Cn)::l2,ss⟩=zbw n now (BN.pl ⟨cm,sm,t,ts,l1++(⟨n,cb,st,left,bad,hd,none,kp,cl,will,lv,wv⟩:Cn)::l2,ss⟩):=zeg (c:=(⟨n,cb,st,left,bad,hd,none,kp,cl,will,lv,wv⟩:Cn)) now h1 h2
 refine DC.conv (zmg bb m cm sm t ts l1 l2 ss n now cb st left bad hd kp cl will lv wv p T1 T2 T3 T4 F ⟨⟨(h.heard now),by simp,(by rw [hp];exact hz.heard _ _)⟩,hlk,hk⟩) (by (simp only [ownB,BN.maps,zad,zas,Cn.own,Cn.cells,Cn.sv,Option.map_none,Option.map_some,List.append_assoc,List.cons_append,List.nil_append,List.append_nil]);exact sub_) ?_
 rintro d G ⟨s',⟨hs',hp'⟩,rfl,rfl⟩
 exact ⟨_,_,le.rfl_,⟨s',⟨hs',by rw [hp',hp]⟩,by rw [hp],rfl⟩,sub_⟩
theorem zlk (bb:Nat) (m:Int) (s:BN) (n now:Int) (p:Pk) (T1 T2 T3 T4:List V) (F:Own):(BOK s/\BSz s.pl/\(∃ cp,s.pl.conn n=some cp/\cp.s.isSome=true)/\p.kind=1)->DC Tryz.prog 14 [.raw (.pointer (some ⟨bb,0,none⟩)), .int .i64 n, .agg [.int .i64 p.kind, .bool p.dup, .bool p.retain, .int .i64 p.qos, .int .i64 p.id, .str p.topic, .sl (p.payload.map u8), .int .i64 p.level, .str p.client, .bool p.clean, .int .i64 p.keep, .bool p.hasWill, .str p.wtopic, .sl (p.wpay.map u8), .int .i64 p.wqos, .bool p.wretain, .bool p.hasUser, .bool p.hasPass, .str p.user, .sl (p.pass.map u8), .bool p.present, .int .i64 p.code, .sl (p.subs.map encU), .sl (p.codes.map (V.int .i64))], .int .i64 now, .agg [.sl T1, .sl T2, .sl T3, .sl T4]] ((loose::knF::knA::knM m::(ownB bb s++[]))++F) fun d G=>∃ s':BN,(BOK s'/\s'.pl=(zae n (zbw n now s.pl)).2)/\d = .tup [zb8 (zae n (zbw n now s.pl)).1, .int .i64 0]/\G=loose::knF::knA::knM m::(ownB bb s'++F):=by
 rintro ⟨h,hz,⟨cp,hc,hs⟩,hk⟩
 obtain ⟨cm,sm,t,ts,l1,c,l2,ss,rfl,rfl,hcn,h1,h2⟩:=h.at hc
 obtain ⟨cn,cb,st,left,bad,hd,sv,kp,cl,will,lv,wv⟩:=c
 have hcn1:n=cn:=hcn.symm
 subst hcn1
 cases sv with
 | none=>simp [Cn.pl] at hs
 | some e =>
 obtain ⟨xn,xb⟩:=e
 have hlk:lookA n (kvC l1++(n,cb)::kvC l2)=some cb:=by have:=zcZ (l2:=l2) h1;rwa [zas] at this
 have hp:BN.pl ⟨cm,sm,t,ts,l1++(⟨n,cb,st,left,bad,zal now,some (xn,xb),kp,cl,will,lv,wv⟩:Cn)::l2,ss⟩=zbw n now (BN.pl ⟨cm,sm,t,ts,l1++(⟨n,cb,st,left,bad,hd,some (xn,xb),kp,cl,will,lv,wv⟩:Cn)::l2,ss⟩):=zeg (c:=(⟨n,cb,st,left,bad,hd,some (xn,xb),kp,cl,will,lv,wv⟩:Cn)) now h1 h2
 refine DC.conv (zmt bb m cm sm t ts l1 l2 ss n now cb st left bad hd kp cl will lv wv xn xb p T1 T2 T3 T4 F ⟨⟨(h.heard now),by simp,(by rw [hp];exact hz.heard _ _)⟩,hlk,hk⟩) (by (simp only [ownB,BN.maps,zad,zas,Cn.own,Cn.cells,Cn.sv,Option.map_none,Option.map_some,List.append_assoc,List.cons_append,List.nil_append,List.append_nil]);exact sub_) ?_
 rintro d G ⟨s',⟨hs',hp'⟩,rfl,rfl⟩
 exact ⟨_,_,le.rfl_,⟨s',⟨hs',by rw [hp',hp]⟩,by rw [hp],rfl⟩,sub_⟩
theorem zjr (bb:Nat) (m:Int) (s:BN) (n now:Int) (p:Pk) (T1 T2 T3 T4:List V) (F:Own):(BOK s/\BSz s.pl/\(∃ cp,s.pl.conn n=some cp/\cp.s.isSome=true)/\p.kind=2)->DC Tryz.prog 14 [.raw (.pointer (some ⟨bb,0,none⟩)), .int .i64 n, .agg [.int .i64 p.kind, .bool p.dup, .bool p.retain, .int .i64 p.qos, .int .i64 p.id, .str p.topic, .sl (p.payload.map u8), .int .i64 p.level, .str p.client, .bool p.clean, .int .i64 p.keep, .bool p.hasWill, .str p.wtopic, .sl (p.wpay.map u8), .int .i64 p.wqos, .bool p.wretain, .bool p.hasUser, .bool p.hasPass, .str p.user, .sl (p.pass.map u8), .bool p.present, .int .i64 p.code, .sl (p.subs.map encU), .sl (p.codes.map (V.int .i64))], .int .i64 now, .agg [.sl T1, .sl T2, .sl T3, .sl T4]] ((loose::knF::knA::knM m::(ownB bb s++[]))++F) fun d G=>∃ s':BN,(BOK s'/\s'.pl=(zae n (zbw n now s.pl)).2)/\d = .tup [zb8 (zae n (zbw n now s.pl)).1, .int .i64 0]/\G=loose::knF::knA::knM m::(ownB bb s'++F):=by
 rintro ⟨h,hz,⟨cp,hc,hs⟩,hk⟩
 obtain ⟨cm,sm,t,ts,l1,c,l2,ss,rfl,rfl,hcn,h1,h2⟩:=h.at hc
 obtain ⟨cn,cb,st,left,bad,hd,sv,kp,cl,will,lv,wv⟩:=c
 have hcn1:n=cn:=hcn.symm
 subst hcn1
 cases sv with
 | none=>simp [Cn.pl] at hs
 | some e =>
 obtain ⟨xn,xb⟩:=e
 have hlk:lookA n (kvC l1++(n,cb)::kvC l2)=some cb:=by have:=zcZ (l2:=l2) h1;rwa [zas] at this
 have hp:BN.pl ⟨cm,sm,t,ts,l1++(⟨n,cb,st,left,bad,zal now,some (xn,xb),kp,cl,will,lv,wv⟩:Cn)::l2,ss⟩=zbw n now (BN.pl ⟨cm,sm,t,ts,l1++(⟨n,cb,st,left,bad,hd,some (xn,xb),kp,cl,will,lv,wv⟩:Cn)::l2,ss⟩):=zeg (c:=(⟨n,cb,st,left,bad,hd,some (xn,xb),kp,cl,will,lv,wv⟩:Cn)) now h1 h2
 refine DC.conv (zlY bb m cm sm t ts l1 l2 ss n now cb st left bad hd kp cl will lv wv xn xb p T1 T2 T3 T4 F ⟨⟨(h.heard now),by simp,(by rw [hp];exact hz.heard _ _)⟩,hlk,hk⟩) (by (simp only [ownB,BN.maps,zad,zas,Cn.own,Cn.cells,Cn.sv,Option.map_none,Option.map_some,List.append_assoc,List.cons_append,List.nil_append,List.append_nil]);exact sub_) ?_
 rintro d G ⟨s',⟨hs',hp'⟩,rfl,rfl⟩
 exact ⟨_,_,le.rfl_,⟨s',⟨hs',by rw [hp',hp]⟩,by rw [hp],rfl⟩,sub_⟩
theorem zi6 (bb:Nat) (m:Int) (s:BN) (n now:Int) (p:Pk) (T1 T2 T3 T4:List V) (F:Own):(BOK s/\BSz s.pl/\(∃ cp,s.pl.conn n=some cp/\cp.s.isSome=true)/\p.kind=12)->DC Tryz.prog 14 [.raw (.pointer (some ⟨bb,0,none⟩)), .int .i64 n, .agg [.int .i64 p.kind, .bool p.dup, .bool p.retain, .int .i64 p.qos, .int .i64 p.id, .str p.topic, .sl (p.payload.map u8), .int .i64 p.level, .str p.client, .bool p.clean, .int .i64 p.keep, .bool p.hasWill, .str p.wtopic, .sl (p.wpay.map u8), .int .i64 p.wqos, .bool p.wretain, .bool p.hasUser, .bool p.hasPass, .str p.user, .sl (p.pass.map u8), .bool p.present, .int .i64 p.code, .sl (p.subs.map encU), .sl (p.codes.map (V.int .i64))], .int .i64 now, .agg [.sl T1, .sl T2, .sl T3, .sl T4]] ((loose::knF::knA::knM m::(ownB bb s++[]))++F) fun d G=>∃ s':BN,(BOK s'/\s'.pl=zbw n now s.pl)/\d = .tup [zb8 (⟨outM n [zan 13 0 false 0],[],[],[]⟩:Ef), .int .i64 0]/\G=loose::knF::knA::knM m::(ownB bb s'++F):=by
 rintro ⟨h,hz,⟨cp,hc,hs⟩,hk⟩
 obtain ⟨cm,sm,t,ts,l1,c,l2,ss,rfl,rfl,hcn,h1,h2⟩:=h.at hc
 obtain ⟨cn,cb,st,left,bad,hd,sv,kp,cl,will,lv,wv⟩:=c
 have hcn1:n=cn:=hcn.symm
 subst hcn1
 cases sv with
 | none=>simp [Cn.pl] at hs
 | some e =>
 obtain ⟨xn,xb⟩:=e
 have hlk:lookA n (kvC l1++(n,cb)::kvC l2)=some cb:=by have:=zcZ (l2:=l2) h1;rwa [zas] at this
 have hp:BN.pl ⟨cm,sm,t,ts,l1++(⟨n,cb,st,left,bad,zal now,some (xn,xb),kp,cl,will,lv,wv⟩:Cn)::l2,ss⟩=zbw n now (BN.pl ⟨cm,sm,t,ts,l1++(⟨n,cb,st,left,bad,hd,some (xn,xb),kp,cl,will,lv,wv⟩:Cn)::l2,ss⟩):=zeg (c:=(⟨n,cb,st,left,bad,hd,some (xn,xb),kp,cl,will,lv,wv⟩:Cn)) now h1 h2
 refine DC.conv (zju bb m cm sm t ts l1 l2 ss n now cb st left bad hd kp cl will lv wv xn xb p T1 T2 T3 T4 F ⟨hlk,hk⟩) (by (simp only [ownB,BN.maps,zad,zas,Cn.own,Cn.cells,Cn.sv,Option.map_none,Option.map_some,List.append_assoc,List.cons_append,List.nil_append,List.append_nil]);exact sub_) ?_
 rintro d G ⟨rfl,rfl⟩
 exact ⟨_,_,le.rfl_,⟨(⟨cm,sm,t,ts,l1++(⟨n,cb,st,left,bad,zal now,some (xn,xb),kp,cl,will,lv,wv⟩:Cn)::l2,ss⟩:BN),⟨h.heard now,hp⟩,rfl,rfl⟩,sub_⟩
theorem ziR (bb:Nat) (m:Int) (s:BN) (n now:Int) (p:Pk) (T1 T2 T3 T4:List V) (F:Own):(BOK s/\BSz s.pl/\(∃ cp,s.pl.conn n=some cp/\cp.s.isSome=true)/\p.kind=14)->DC Tryz.prog 14 [.raw (.pointer (some ⟨bb,0,none⟩)), .int .i64 n, .agg [.int .i64 p.kind, .bool p.dup, .bool p.retain, .int .i64 p.qos, .int .i64 p.id, .str p.topic, .sl (p.payload.map u8), .int .i64 p.level, .str p.client, .bool p.clean, .int .i64 p.keep, .bool p.hasWill, .str p.wtopic, .sl (p.wpay.map u8), .int .i64 p.wqos, .bool p.wretain, .bool p.hasUser, .bool p.hasPass, .str p.user, .sl (p.pass.map u8), .bool p.present, .int .i64 p.code, .sl (p.subs.map encU), .sl (p.codes.map (V.int .i64))], .int .i64 now, .agg [.sl T1, .sl T2, .sl T3, .sl T4]] ((loose::knF::knA::knM m::(ownB bb s++[]))++F) fun d G=>∃ s':BN,(BOK s'/\s'.pl=(zae n (zdW n (zbw n now s.pl))).2)/\d = .tup [zb8 (zae n (zdW n (zbw n now s.pl))).1, .int .i64 0]/\G=loose::knF::knA::knM m::(ownB bb s'++F):=by
 rintro ⟨h,hz,⟨cp,hc,hs⟩,hk⟩
 obtain ⟨cm,sm,t,ts,l1,c,l2,ss,rfl,rfl,hcn,h1,h2⟩:=h.at hc
 obtain ⟨cn,cb,st,left,bad,hd,sv,kp,cl,will,lv,wv⟩:=c
 have hcn1:n=cn:=hcn.symm
 subst hcn1
 cases sv with
 | none=>simp [Cn.pl] at hs
 | some e =>
 obtain ⟨xn,xb⟩:=e
 have hlk:lookA n (kvC l1++(n,cb)::kvC l2)=some cb:=by have:=zcZ (l2:=l2) h1;rwa [zas] at this
 have hp:BN.pl ⟨cm,sm,t,ts,l1++(⟨n,cb,st,left,bad,zal now,some (xn,xb),kp,cl,[],lv, .gs (.slice none 0 0) []⟩:Cn)::l2,ss⟩=zdW n (zbw n now (BN.pl ⟨cm,sm,t,ts,l1++(⟨n,cb,st,left,bad,hd,some (xn,xb),kp,cl,will,lv,wv⟩:Cn)::l2,ss⟩)):=by rw [<-zeg (c:=(⟨n,cb,st,left,bad,hd,some (xn,xb),kp,cl,will,lv,wv⟩:Cn)) now h1 h2];exact znX (c:=(⟨n,cb,st,left,bad,zal now,some (xn,xb),kp,cl,will,lv,wv⟩:Cn)) h1 h2
 refine DC.conv (zke bb m cm sm t ts l1 l2 ss n now cb st left bad hd kp cl will lv wv xn xb p T1 T2 T3 T4 F ⟨⟨(h.heard now).unwill,by simp,(by rw [hp];exact (hz.heard _ _).unwill _)⟩,hlk,hk⟩) (by (simp only [ownB,BN.maps,zad,zas,Cn.own,Cn.cells,Cn.sv,Option.map_none,Option.map_some,List.append_assoc,List.cons_append,List.nil_append,List.append_nil]);exact sub_) ?_
 rintro d G ⟨s',⟨hs',hp'⟩,rfl,rfl⟩
 exact ⟨_,_,le.rfl_,⟨s',⟨hs',by rw [hp',hp]⟩,by rw [hp],rfl⟩,sub_⟩
theorem zne (bb:Nat) (s:BN) (n now:Int) (p:Pk) (T1 T2 T3 T4:List V) (F:Own):(s.pl.conn n=none)->DC Tryz.prog 14 [.raw (.pointer (some ⟨bb,0,none⟩)), .int .i64 n, .agg [.int .i64 p.kind, .bool p.dup, .bool p.retain, .int .i64 p.qos, .int .i64 p.id, .str p.topic, .sl (p.payload.map u8), .int .i64 p.level, .str p.client, .bool p.clean, .int .i64 p.keep, .bool p.hasWill, .str p.wtopic, .sl (p.wpay.map u8), .int .i64 p.wqos, .bool p.wretain, .bool p.hasUser, .bool p.hasPass, .str p.user, .sl (p.pass.map u8), .bool p.present, .int .i64 p.code, .sl (p.subs.map encU), .sl (p.codes.map (V.int .i64))], .int .i64 now, .agg [.sl T1, .sl T2, .sl T3, .sl T4]] ((ownB bb s++[])++F) fun d G=>d = .tup [zb8 nilE, .int .i64 30]/\G=(ownB bb s++[])++F:=fun hc=>by
 have hlk:lookA n (kvC s.cs)=none:=by
  have:=zdK s n
  rw [hc] at this
  cases h1:lookA n (kvC s.cs) with
  | none=>rfl
  | some b=>rw [h1] at this;cases this
 obtain ⟨cm,sm,t,ts,cs,ss⟩:=s
 refine DC.conv (znn bb cm sm t (kvC cs) n now p T1 T2 T3 T4 (.map sm (entM V.str pv (kvS ss))::(ownC cs++(ownS ss++(ownT t ts++F)))) hlk) (by (simp only [ownB,BN.maps,zad,zaf,Cn.own,Cn.cells,Cn.sv,Option.map_none,Option.map_some,List.append_assoc,List.cons_append,List.nil_append,List.append_nil]);exact sub_) ?_
 rintro d G ⟨rfl,rfl⟩
 exact ⟨_,_,le.rfl_,⟨rfl,rfl⟩,by (simp only [ownB,BN.maps,zad,zaf,Cn.own,Cn.cells,Cn.sv,Option.map_none,Option.map_some,List.append_assoc,List.cons_append,List.nil_append,List.append_nil]);exact sub_⟩
theorem zmC (bb:Nat) (s:BN) (n now:Int) (F:Own):(0<=n/\n<16/\(s.pl.conn n).isSome=true)->DC Tryz.prog 13 [.raw (.pointer (some ⟨bb,0,none⟩)), .int .i64 n, .int .i64 now] ((ownB bb s++[])++F) fun d G=>d = .int .i64 30/\G=(ownB bb s++[])++F:=fun ⟨hn0,hn1,hc⟩=>by
 rw [zdK] at hc
 obtain ⟨b,hb⟩:=Option.isSome_iff_exists.1 hc
 obtain ⟨cm,sm,t,ts,cs,ss⟩:=s
 refine DC.conv (zoU bb cm sm t (kvC cs) n now b (.map sm (entM V.str pv (kvS ss))::(ownC cs++(ownS ss++(ownT t ts++F)))) ⟨hb,hn0,hn1⟩) (by (simp only [ownB,BN.maps,zad,zaf,Cn.own,Cn.cells,Cn.sv,Option.map_none,Option.map_some,List.append_assoc,List.cons_append,List.nil_append,List.append_nil]);exact sub_) ?_
 rintro d G ⟨rfl,rfl⟩
 exact ⟨_,_,le.rfl_,⟨rfl,rfl⟩,by (simp only [ownB,BN.maps,zad,zaf,Cn.own,Cn.cells,Cn.sv,Option.map_none,Option.map_some,List.append_assoc,List.cons_append,List.nil_append,List.append_nil]);exact sub_⟩
end
section
def cliY_:List YS:=[[107],[108],[109],[195,169],[]]
def cliY (k:Int):YS:=cliY_.getD (k.tmod 5).toNat default
theorem zmL {k:Int} (h:0<=k):([.str [107], .str [108], .str [109], .str [195,169], .str []]:List V).getD (k.tmod 5).toNat .any = .str (cliY k):=by
 have q0:=Int.tmod_nonneg 5 h;have q1:=Int.tmod_lt_of_pos k (show (0:Int)<5 by decide)
 unfold cliY
 generalize hj:(k.tmod 5).toNat=j
 have hj5:j<5:=by omega
 match j,hj5 with
 | 0,_=>rfl
 | 1,_=>rfl
 | 2,_=>rfl
 | 3,_=>rfl
 | 4,_=>rfl
theorem zoj {l:List YS} {n:Nat} (h:∀ f∈l,f.length<=n) (i:Nat):(l.getD i default).length<=n:=by
 by_cases hi:i<l.length
 · exact h _ (zpx hi)
 · rw [List.getD_eq_getElem?_getD,List.getElem?_eq_none (by omega)];exact Nat.zero_le _
theorem zbA (k:Int):(cliY k).length<=100:=zoj (by decide) _
def topY (k:Int):YS:=([[97],[97,47,98],[98,47,99],[36,115,47,97],[97,47,47,98],[195,169,47,97],[99]]:List YS).getD (k.tmod 7).toNat default
def filY (k:Int):YS:=([[97],[35],[97,47,43],[43,47,98],[97,47,35],[98,47,99],[36,115,47,35],[43],[43,47,43],[195,169,47,35]]:List YS).getD (k.tmod 10).toNat default
theorem zbC (k:Int):(topY k).length<=100:=zoj (by decide) _
theorem zao (k:Int):(filY k).length<=100:=zoj (by decide) _
theorem flt0:∀ k,((([]:List (YS×Int)).getD k default)).1.length<=100:=fun k=>by simp [List.getD_eq_getElem?_getD];decide
theorem fltC {x:YS×Int} {l:List (YS×Int)} (h:x.1.length<=100) (hl:∀ k,(l.getD k default).1.length<=100):∀ k,((x::l).getD k default).1.length<=100
 | 0=>h
 | k+1=>hl k
theorem zdL {D:V} {F H:Own} {q_kind:Int} {q_dup:Bool} {q_retain:Bool} {q_qos:Int} {q_id:Int} {q_topic:YS} {q_payload:YS} {q_level:Int} {q_client:YS} {q_clean:Bool} {q_keep:Int} {q_hasWill:Bool} {q_wtopic:YS} {q_wpay:YS} {q_wqos:Int} {q_wretain:Bool} {q_hasUser:Bool} {q_hasPass:Bool} {q_user:YS} {q_pass:YS} {q_present:Bool} {q_code:Int} {q_subs:List (YS×Int)} {q_codes:List Int} (h1:le D (.agg [.int .i64 q_kind, .bool q_dup, .bool q_retain, .int .i64 q_qos, .int .i64 q_id, .str q_topic, .sl (q_payload.map u8), .int .i64 q_level, .str q_client, .bool q_clean, .int .i64 q_keep, .bool q_hasWill, .str q_wtopic, .sl (q_wpay.map u8), .int .i64 q_wqos, .bool q_wretain, .bool q_hasUser, .bool q_hasPass, .str q_user, .sl (q_pass.map u8), .bool q_present, .int .i64 q_code, .sl (q_subs.map encU), .sl (q_codes.map (V.int .i64))])) (h2:PkB ⟨q_kind,q_dup,q_retain,q_qos,q_id,q_topic,q_payload,q_level,q_client,q_clean,q_keep,q_hasWill,q_wtopic,q_wpay,q_wqos,q_wretain,q_hasUser,q_hasPass,q_user,q_pass,q_present,q_code,q_subs,q_codes⟩) (h3:SubP F H):∃ d' G,le D d'/\(∃ p:Pk,PkB p/\d' = .agg [.int .i64 p.kind, .bool p.dup, .bool p.retain, .int .i64 p.qos, .int .i64 p.id, .str p.topic, .sl (p.payload.map u8), .int .i64 p.level, .str p.client, .bool p.clean, .int .i64 p.keep, .bool p.hasWill, .str p.wtopic, .sl (p.wpay.map u8), .int .i64 p.wqos, .bool p.wretain, .bool p.hasUser, .bool p.hasPass, .str p.user, .sl (p.pass.map u8), .bool p.present, .int .i64 p.code, .sl (p.subs.map encU), .sl (p.codes.map (V.int .i64))]/\G=F)/\SubP G H:=⟨_,_,h1,⟨⟨q_kind,q_dup,q_retain,q_qos,q_id,q_topic,q_payload,q_level,q_client,q_clean,q_keep,q_hasWill,q_wtopic,q_wpay,q_wqos,q_wretain,q_hasUser,q_hasPass,q_user,q_pass,q_present,q_code,q_subs,q_codes⟩,h2,rfl,rfl⟩,h3⟩
theorem z100:([]:YS).length<=100:=Nat.zero_le _
theorem u100:([117]:YS).length<=100:=by decide
theorem a100:([97,35]:YS).length<=100:=by decide
attribute [local irreducible] DW SeqD DV DOp DC DVX
theorem ziX {P Q:Prop} (q:Q) (h:Hid Q->P:=by (intro q;simp (maxSteps:=1000000) (disch:=omega) only [push_cast,↓reduceIte,reduceCtorEq,Nat.reduceAdd,Nat.reduceMul,Nat.reduceLT,Nat.reduceLeDiff,Nat.reduceEqDiff,Nat.reduceSub,Int.reduceToNat,Int.reduceLT,Int.reduceLE,Int.reduceAdd,Int.reduceSub,Int.reduceMul,Int.reduceNeg,Nat.reduceBEq,Int.reduceBEq,Int.reduceBNe,Nat.reduceBNe,Int.reduceEq,hkm];exact q.1)):P:=h ⟨q⟩
theorem zgo (k:Int) (F:Own):(0<=k/\k<=255)->DC Tryz.prog 21 [.int .u8 k] (([]:Own)++F) fun d G=>d = .str (topY k)/\G=[]++F:=by
 intro hA
 obtain ⟨h0,h1⟩:=hA
 refine DC.bodyS (n_:=8) (show Tryz.prog.funcs[21]? = some Tryz.f21 by kernel_rfl) rfl rfl (by rfl) ?_
 simp only [env0,List.cons_append,List.nil_append]
 have kw:=ksIs [0,2]
 have ow:=zai []
 have q0:=Int.tmod_nonneg 7 h0;have q1:=Int.tmod_lt_of_pos k (show (0:Int)<7 by decide)
 rcases (show k.tmod 7=0\/k.tmod 7=1\/k.tmod 7=2\/k.tmod 7=3\/k.tmod 7=4\/k.tmod 7=5\/k.tmod 7=6 by omega) with hkm | hkm | hkm | hkm | hkm | hkm | hkm
 repeat' (first
  | refine g_ ?_
  | ((with_reducible refine And.intro ?_ ?_);(exact sv))
  | (refine DW.cond (by rfl) ?_ ?_<;>(first | exact i0_ | (intro hb;(try simp only [↓reduceCtorEq,not_true_eq_false,not_false_eq_true,hbs,Int.reduceBEq,Int.reduceBNe,Int.reduceEq] at hb);(try refine ziX ?_))))
  | ((with_reducible refine zaa ?_ ?_)<;>(intro hb;rw [hb];revert hb;(first | exact i0_ | (intro hb;(try simp only [↓reduceCtorEq,not_true_eq_false,not_false_eq_true,hbs,Int.reduceBEq,Int.reduceBNe,Int.reduceEq] at hb);(try refine ziX ?_)))))
  | ((first | refine rn_ ?_ | refine kn_ ?_)<;>(refine ziX ?_))
  | ((refine on_ ?_);refine ziX ?_)
  | refine f_ ?_
  | with_reducible intro b)
 all_goals (refine ⟨_,_,le.of_eq ?_,⟨rfl,rfl⟩,SubP.refl⟩;rw [topY,hkm];rfl)
theorem zmi (k:Int) (F:Own):(0<=k/\k<=255)->DC Tryz.prog 28 [.int .u8 k] (([]:Own)++F) fun d G=>d = .str (filY k)/\G=[]++F:=by
 intro hA
 obtain ⟨h0,h1⟩:=hA
 refine DC.bodyS (n_:=8) (show Tryz.prog.funcs[28]? = some Tryz.f28 by kernel_rfl) rfl rfl (by rfl) ?_
 simp only [env0,List.cons_append,List.nil_append]
 have kw:=ksIs [0,2]
 have ow:=zai []
 have q0:=Int.tmod_nonneg 10 h0;have q1:=Int.tmod_lt_of_pos k (show (0:Int)<10 by decide)
 rcases (show k.tmod 10=0\/k.tmod 10=1\/k.tmod 10=2\/k.tmod 10=3\/k.tmod 10=4\/k.tmod 10=5\/k.tmod 10=6\/k.tmod 10=7\/k.tmod 10=8\/k.tmod 10=9 by omega) with hkm | hkm | hkm | hkm | hkm | hkm | hkm | hkm | hkm | hkm
 repeat' (first
  | refine g_ ?_
  | ((with_reducible refine And.intro ?_ ?_);(exact sv))
  | (refine DW.cond (by rfl) ?_ ?_<;>(first | exact i0_ | (intro hb;(try simp only [↓reduceCtorEq,not_true_eq_false,not_false_eq_true,hbs,Int.reduceBEq,Int.reduceBNe,Int.reduceEq] at hb);(try refine ziX ?_))))
  | ((with_reducible refine zaa ?_ ?_)<;>(intro hb;rw [hb];revert hb;(first | exact i0_ | (intro hb;(try simp only [↓reduceCtorEq,not_true_eq_false,not_false_eq_true,hbs,Int.reduceBEq,Int.reduceBNe,Int.reduceEq] at hb);(try refine ziX ?_)))))
  | ((first | refine rn_ ?_ | refine kn_ ?_)<;>(refine ziX ?_))
  | ((refine on_ ?_);refine ziX ?_)
  | refine f_ ?_
  | with_reducible intro b)
 all_goals (refine ⟨_,_,le.of_eq ?_,⟨rfl,rfl⟩,SubP.refl⟩;rw [filY,hkm];rfl)
section
attribute [local push_cast 2000] zmL
theorem zps (a b c:Int) (x:YS) (F:Own):(((0<=a/\a<=255)/\(0<=b/\b<=255)/\(0<=c/\c<=255))/\x.length<=40)->DC Tryz.prog 19 [.int .u8 a, .int .u8 b, .int .u8 c, .sl (x.map u8)] (([]:Own)++F) fun d G=>∃ p:Pk,PkB p/\d = .agg [.int .i64 p.kind, .bool p.dup, .bool p.retain, .int .i64 p.qos, .int .i64 p.id, .str p.topic, .sl (p.payload.map u8), .int .i64 p.level, .str p.client, .bool p.clean, .int .i64 p.keep, .bool p.hasWill, .str p.wtopic, .sl (p.wpay.map u8), .int .i64 p.wqos, .bool p.wretain, .bool p.hasUser, .bool p.hasPass, .str p.user, .sl (p.pass.map u8), .bool p.present, .int .i64 p.code, .sl (p.subs.map encU), .sl (p.codes.map (V.int .i64))]/\G=[]++F:=by
 intro hA
 obtain ⟨⟨ha,hb_,hc⟩,hx⟩:=hA
 refine DC.bodyS (n_:=57) (show Tryz.prog.funcs[19]? = some Tryz.f19 by kernel_rfl) rfl rfl (by rfl) ?_
 simp only [env0,List.cons_append,List.nil_append]
 have kw:=ksIs [0,1,2,3,8,9,24,31,46,50]
 have ow:=zai []
 have rw_:=rsIs [.cell 8 29]
 have ha0:=ha.1;have q0:=Int.tmod_nonneg 5 ha.1;have q1:=Int.tmod_lt_of_pos a (show (0:Int)<5 by decide)
 have rc5:=Int.tmod_nonneg 5 hc.1;have sc5:=Int.tmod_lt_of_pos c (show (0:Int)<5 by decide);have ra3:=Int.tmod_nonneg 3 ha.1;have sa3:=Int.tmod_lt_of_pos a (show (0:Int)<3 by decide);have rb2:=Int.tmod_nonneg 2 hb_.1;have sb2:=Int.tmod_lt_of_pos b (show (0:Int)<2 by decide);have rb9:=Int.tmod_nonneg 9 hb_.1;have sb9:=Int.tmod_lt_of_pos b (show (0:Int)<9 by decide);have rc3:=Int.tmod_nonneg 3 hc.1;have sc3:=Int.tmod_lt_of_pos c (show (0:Int)<3 by decide);have rb3:=Int.tmod_nonneg 3 hb_.1;have sb3:=Int.tmod_lt_of_pos b (show (0:Int)<3 by decide);have ra8:=Int.tmod_nonneg 8 ha.1;have sa8:=Int.tmod_lt_of_pos a (show (0:Int)<8 by decide);have rb10:=Int.tmod_nonneg 10 hb_.1;have sb10:=Int.tmod_lt_of_pos b (show (0:Int)<10 by decide)
 repeat' (first
  | refine g_ ?_
  | ((with_reducible refine And.intro ?_ ?_);(exact sv))
  | (refine DW.cond (by rfl) ?_ ?_<;>(first | exact i0_ | (refine ic_ ?_;intro hb)))
  | ((with_reducible refine zaa ?_ ?_)<;>(intro hb;rw [hb];revert hb;(first | exact i0_ | (refine i_ ?_;intro hb))))
  | refine r_ ?_
  | refine k_ ?_
  | (refine q_ (zgo _ _) ?_)
  | refine o_ ?_
  | refine f_ ?_
  | with_reducible intro b)
 all_goals first
 | ((apply zdL (q_payload:=[]) (q_wpay:=[]) (q_pass:=[]) (q_subs:=[]) (q_codes:=[]));(focus (refine le.agg ?_;(repeat (first | exact Les.nil | refine Les.cons le.rfl_ ?_ | refine Les.cons (le.gs rfl) ?_ | refine Les.cons (le.gs List.map_nil.symm) ?_ | (refine Les.cons (le.of_eq ?_) ?_;(focus (simp [encU,List.map_take]<;>fail)))));done));(focus (refine ⟨?_,?_,?_,?_,?_,?_,?_,?_,?_,?_⟩<;>(first | exact z100 | exact u100 | exact a100 | exact zbA _ | exact zbC _ | exact zao _ | (show List.length x<=100;omega) | exact Nat.zero_le _ | exact flt0 | exact Nat.le_of_ble_eq_true rfl | (refine lenT ?_ _;exact Nat.le_of_ble_eq_true rfl) | (refine fltT ?_ _;(repeat (first | exact flt0 | (refine fltC ?_ ?_;(focus (first | exact zao _ | exact a100)))))) | (repeat (first | exact flt0 | (refine fltC ?_ ?_;(focus (first | exact zao _ | exact a100))))));done));(exact sub_);done)
 | ((apply zdL (q_payload:=[]) (q_wpay:=[]) (q_pass:=x) (q_subs:=[]) (q_codes:=[]));(focus (refine le.agg ?_;(repeat (first | exact Les.nil | refine Les.cons le.rfl_ ?_ | refine Les.cons (le.gs rfl) ?_ | refine Les.cons (le.gs List.map_nil.symm) ?_ | (refine Les.cons (le.of_eq ?_) ?_;(focus (simp [encU,List.map_take]<;>fail)))));done));(focus (refine ⟨?_,?_,?_,?_,?_,?_,?_,?_,?_,?_⟩<;>(first | exact z100 | exact u100 | exact a100 | exact zbA _ | exact zbC _ | exact zao _ | (show List.length x<=100;omega) | exact Nat.zero_le _ | exact flt0 | exact Nat.le_of_ble_eq_true rfl | (refine lenT ?_ _;exact Nat.le_of_ble_eq_true rfl) | (refine fltT ?_ _;(repeat (first | exact flt0 | (refine fltC ?_ ?_;(focus (first | exact zao _ | exact a100)))))) | (repeat (first | exact flt0 | (refine fltC ?_ ?_;(focus (first | exact zao _ | exact a100))))));done));(exact sub_);done)
 | ((apply zdL (q_payload:=[]) (q_wpay:=x) (q_pass:=[]) (q_subs:=[]) (q_codes:=[]));(focus (refine le.agg ?_;(repeat (first | exact Les.nil | refine Les.cons le.rfl_ ?_ | refine Les.cons (le.gs rfl) ?_ | refine Les.cons (le.gs List.map_nil.symm) ?_ | (refine Les.cons (le.of_eq ?_) ?_;(focus (simp [encU,List.map_take]<;>fail)))));done));(focus (refine ⟨?_,?_,?_,?_,?_,?_,?_,?_,?_,?_⟩<;>(first | exact z100 | exact u100 | exact a100 | exact zbA _ | exact zbC _ | exact zao _ | (show List.length x<=100;omega) | exact Nat.zero_le _ | exact flt0 | exact Nat.le_of_ble_eq_true rfl | (refine lenT ?_ _;exact Nat.le_of_ble_eq_true rfl) | (refine fltT ?_ _;(repeat (first | exact flt0 | (refine fltC ?_ ?_;(focus (first | exact zao _ | exact a100)))))) | (repeat (first | exact flt0 | (refine fltC ?_ ?_;(focus (first | exact zao _ | exact a100))))));done));(exact sub_);done)
 | ((apply zdL (q_payload:=[]) (q_wpay:=x) (q_pass:=x) (q_subs:=[]) (q_codes:=[]));(focus (refine le.agg ?_;(repeat (first | exact Les.nil | refine Les.cons le.rfl_ ?_ | refine Les.cons (le.gs rfl) ?_ | refine Les.cons (le.gs List.map_nil.symm) ?_ | (refine Les.cons (le.of_eq ?_) ?_;(focus (simp [encU,List.map_take]<;>fail)))));done));(focus (refine ⟨?_,?_,?_,?_,?_,?_,?_,?_,?_,?_⟩<;>(first | exact z100 | exact u100 | exact a100 | exact zbA _ | exact zbC _ | exact zao _ | (show List.length x<=100;omega) | exact Nat.zero_le _ | exact flt0 | exact Nat.le_of_ble_eq_true rfl | (refine lenT ?_ _;exact Nat.le_of_ble_eq_true rfl) | (refine fltT ?_ _;(repeat (first | exact flt0 | (refine fltC ?_ ?_;(focus (first | exact zao _ | exact a100)))))) | (repeat (first | exact flt0 | (refine fltC ?_ ?_;(focus (first | exact zao _ | exact a100))))));done));(exact sub_);done)
 | (trace_state;fail)
end
end
section
theorem fltT {l:List (YS×Int)} (h:∀ k,(l.getD k default).1.length<=100) (n:Nat):∀ k,((l.take n).getD k default).1.length<=100:=fun k=>by
 have e:=h k
 rw [List.getD_eq_getElem?_getD,List.getElem?_take]
 rw [List.getD_eq_getElem?_getD] at e
 split
 · exact e
 · exact flt0 0
theorem DW.frzO2 {P:Program} {n:Nat} {Q:Exit->Env->Own->Prop} {e e':Env} {H H':Own} (id:Nat) {ops:Array Oper} {d:Bool} (v:Value) {l:List V} (h:OnA H v fun sz cs C=>cs=cells l/\0<sz/\(∀ y∈l,y.n=sz)/\CvE v l e e'/\CvO v l (C (.tail sz v)) H'/\DW P n (.region id ops d) Q e' H'):DW P n (.region id ops d) Q e H:=by
 obtain ⟨sz,cs,L1,L2,h0,h1,h2,h3,h4,h5,h6⟩:=h
 exact DW.frzOR id v ⟨sz,cs,L1,L2,h0,h1,h2,h3,h4,H',h5,h6⟩
theorem lenT {l:List (YS×Int)} (h:l.length<=3) (n:Nat):(l.take n).length<=3:=by rw [List.length_take];omega
attribute [local irreducible] DW SeqD DV DOp DC DVX filY topY
theorem zcn {p:Prop} (h:p:=by first | exact sv | exact ⟨⟨ha,hb_,hc⟩,hx⟩ | fail):p:=h
theorem zqf (k a bq c:Int) (x:YS) (F:Own):(((0<=k/\k<=255)/\(0<=a/\a<=255)/\(0<=bq/\bq<=255)/\(0<=c/\c<=255))/\x.length<=40)->DC Tryz.prog 18 [.int .u8 k, .int .u8 a, .int .u8 bq, .int .u8 c, .sl (x.map u8)] (([]:Own)++F) fun d G=>∃ p:Pk,PkB p/\d = .agg [.int .i64 p.kind, .bool p.dup, .bool p.retain, .int .i64 p.qos, .int .i64 p.id, .str p.topic, .sl (p.payload.map u8), .int .i64 p.level, .str p.client, .bool p.clean, .int .i64 p.keep, .bool p.hasWill, .str p.wtopic, .sl (p.wpay.map u8), .int .i64 p.wqos, .bool p.wretain, .bool p.hasUser, .bool p.hasPass, .str p.user, .sl (p.pass.map u8), .bool p.present, .int .i64 p.code, .sl (p.subs.map encU), .sl (p.codes.map (V.int .i64))]/\G=[]++F:=by
 intro hA
 obtain ⟨⟨hk,ha,hb_,hc⟩,hx⟩:=hA
 refine DC.bodyS (n_:=130) (show Tryz.prog.funcs[18]? = some Tryz.f18 by kernel_rfl) rfl rfl (by rfl) ?_
 simp only [env0,List.cons_append,List.nil_append]
 have kw:=ksIs [0,1,2,3,4,10,11,12,13,19,20,37,48,63,77,85,100,104,108,112,119,122]
 have ow:=zai [59]
 have dw16:=drIs 16 [9,11] [1,3]
 have rw_:=rsIs [.cell 10 29]
 have rk15:=Int.tmod_nonneg 15 hk.1;have sk15:=Int.tmod_lt_of_pos k (show (0:Int)<15 by decide);have rbq7:=Int.tmod_nonneg 7 hb_.1;have sbq7:=Int.tmod_lt_of_pos bq (show (0:Int)<7 by decide);have rbq3:=Int.tmod_nonneg 3 hb_.1;have sbq3:=Int.tmod_lt_of_pos bq (show (0:Int)<3 by decide);have rc2:=Int.tmod_nonneg 2 hc.1;have sc2:=Int.tmod_lt_of_pos c (show (0:Int)<2 by decide);have rc5:=Int.tmod_nonneg 5 hc.1;have sc5:=Int.tmod_lt_of_pos c (show (0:Int)<5 by decide);have rc7:=Int.tmod_nonneg 7 hc.1;have sc7:=Int.tmod_lt_of_pos c (show (0:Int)<7 by decide);have rc3:=Int.tmod_nonneg 3 hc.1;have sc3:=Int.tmod_lt_of_pos c (show (0:Int)<3 by decide);have rc11:=Int.tmod_nonneg 11 hc.1;have sc11:=Int.tmod_lt_of_pos c (show (0:Int)<11 by decide)
 repeat' (first
  | ((with_reducible apply DW.frzO2 15 v59 (l:=[V.agg [V.str (filY a),V.int .i64 (bq.tmod 3)]]));(repeat (with_reducible first | refine OnA.here ?_ | refine OnA.next ?_));refine ⟨rfl,by decide,(by intro y hy;rw [List.mem_singleton] at hy;subst hy;rfl),?_,?_,?_⟩;(focus (repeat (first | exact CvE.nil | apply CvE.cons (Cv.hit _) | apply CvE.cons (Cv.rfl _))));(focus ((repeat (first | apply CvO.blk _ (by repeat (first | exact CvL.nil | apply CvL.cons (Cv.hit _) | apply CvL.cons (Cv.rfl _))) | apply CvO.keep | exact CvO.rfl_ _ _ _)))))
  | refine g_ ?_
  | ((with_reducible refine And.intro ?_ ?_);(exact zcn))
  | (refine DW.cond (by rfl) ?_ ?_<;>(first | exact i0_ | (refine ic_ ?_;intro hb)))
  | ((with_reducible first | refine zaa ?_ ?_ | refine zak ?_ ?_)<;>(intro hb;rw [hb];revert hb;(first | exact i0_ | (refine i_ ?_;intro hb))))
  | refine r_ ?_
  | refine d_ ?_
  | refine k_ ?_
  | ((refine dm_ ?_);(first | ((first | refine v_ (zgo _ _) ?_ (ha:=by exact zcn) | refine v_ (zmi _ _) ?_ (ha:=by exact zcn)))))
  | refine vo_ ?_
  | ((first | (refine DOp.lista_ [59] rfl rfl ?_) | (refine DOp.makea_ [59] rfl rfl rfl rfl ?_))<;>(refine s_ ?_))
  | ((first | refine q_ (zgo _ _) ?_ (ha:=by exact zcn) | refine q_ (zmi _ _) ?_ (ha:=by exact zcn)))
  | (refine p_ (zps _ _ _ _ _) ?_ (ha:=by exact zcn);rintro d H1 ⟨pc,hpc,rfl,rfl⟩<;>refine s_ ?_)
  | refine o_ ?_
  | refine f_ ?_
  | refine vm_ ?_
  | ((fail_if_success (have zz:=b10));with_reducible intro b10)
  | ((fail_if_success (have zz:=v59));with_reducible intro v59)
  | ((fail_if_success (have zz:=b13));with_reducible intro b13)
  | with_reducible intro b)
 all_goals first
 | (refine ⟨_,_,le.rfl_,⟨pc,hpc,rfl,rfl⟩,?_⟩;(exact sub_);done)
 | ((apply zdL (q_payload:=x) (q_wpay:=[]) (q_pass:=[]) (q_subs:=[]) (q_codes:=[]));(focus (refine le.agg ?_;(repeat (first | exact Les.nil | refine Les.cons le.rfl_ ?_ | refine Les.cons (le.gs rfl) ?_ | refine Les.cons (le.gs List.map_nil.symm) ?_ | (refine Les.cons (le.of_eq ?_) ?_;(focus (simp [encU,List.map_take]<;>fail)))));done));(focus (refine ⟨?_,?_,?_,?_,?_,?_,?_,?_,?_,?_⟩<;>(first | exact z100 | exact u100 | exact a100 | exact zbA _ | exact zbC _ | exact zao _ | (show List.length x<=100;omega) | exact Nat.zero_le _ | exact flt0 | exact Nat.le_of_ble_eq_true rfl | (refine lenT ?_ _;exact Nat.le_of_ble_eq_true rfl) | (refine fltT ?_ _;(repeat (first | exact flt0 | (refine fltC ?_ ?_;(focus (first | exact zao _ | exact a100)))))) | (repeat (first | exact flt0 | (refine fltC ?_ ?_;(focus (first | exact zao _ | exact a100))))));done));(exact sub_);done)
 | ((apply zdL (q_payload:=[]) (q_wpay:=[]) (q_pass:=[]) (q_subs:=[]) (q_codes:=[]));(focus (refine le.agg ?_;(repeat (first | exact Les.nil | refine Les.cons le.rfl_ ?_ | refine Les.cons (le.gs rfl) ?_ | refine Les.cons (le.gs List.map_nil.symm) ?_ | (refine Les.cons (le.of_eq ?_) ?_;(focus (simp [encU,List.map_take]<;>fail)))));done));(focus (refine ⟨?_,?_,?_,?_,?_,?_,?_,?_,?_,?_⟩<;>(first | exact z100 | exact u100 | exact a100 | exact zbA _ | exact zbC _ | exact zao _ | (show List.length x<=100;omega) | exact Nat.zero_le _ | exact flt0 | exact Nat.le_of_ble_eq_true rfl | (refine lenT ?_ _;exact Nat.le_of_ble_eq_true rfl) | (refine fltT ?_ _;(repeat (first | exact flt0 | (refine fltC ?_ ?_;(focus (first | exact zao _ | exact a100)))))) | (repeat (first | exact flt0 | (refine fltC ?_ ?_;(focus (first | exact zao _ | exact a100))))));done));(exact sub_);done)
 | ((apply zdL (q_payload:=[]) (q_wpay:=[]) (q_pass:=[]) (q_subs:=[(filY a,bq.tmod 3)]) (q_codes:=[]));(focus (refine le.agg ?_;(repeat (first | exact Les.nil | refine Les.cons le.rfl_ ?_ | refine Les.cons (le.gs rfl) ?_ | refine Les.cons (le.gs List.map_nil.symm) ?_ | (refine Les.cons (le.of_eq ?_) ?_;(focus (simp [encU,List.map_take]<;>fail)))));done));(focus (refine ⟨?_,?_,?_,?_,?_,?_,?_,?_,?_,?_⟩<;>(first | exact z100 | exact u100 | exact a100 | exact zbA _ | exact zbC _ | exact zao _ | (show List.length x<=100;omega) | exact Nat.zero_le _ | exact flt0 | exact Nat.le_of_ble_eq_true rfl | (refine lenT ?_ _;exact Nat.le_of_ble_eq_true rfl) | (refine fltT ?_ _;(repeat (first | exact flt0 | (refine fltC ?_ ?_;(focus (first | exact zao _ | exact a100)))))) | (repeat (first | exact flt0 | (refine fltC ?_ ?_;(focus (first | exact zao _ | exact a100))))));done));(exact sub_);done)
 | ((apply zdL (q_payload:=[]) (q_wpay:=[]) (q_pass:=[]) (q_subs:=[(filY a,bq.tmod 3),(filY c,c.tmod 2)]) (q_codes:=[]));(focus (refine le.agg ?_;(repeat (first | exact Les.nil | refine Les.cons le.rfl_ ?_ | refine Les.cons (le.gs rfl) ?_ | refine Les.cons (le.gs List.map_nil.symm) ?_ | (refine Les.cons (le.of_eq ?_) ?_;(focus (simp [encU,List.map_take]<;>fail)))));done));(focus (refine ⟨?_,?_,?_,?_,?_,?_,?_,?_,?_,?_⟩<;>(first | exact z100 | exact u100 | exact a100 | exact zbA _ | exact zbC _ | exact zao _ | (show List.length x<=100;omega) | exact Nat.zero_le _ | exact flt0 | exact Nat.le_of_ble_eq_true rfl | (refine lenT ?_ _;exact Nat.le_of_ble_eq_true rfl) | (refine fltT ?_ _;(repeat (first | exact flt0 | (refine fltC ?_ ?_;(focus (first | exact zao _ | exact a100)))))) | (repeat (first | exact flt0 | (refine fltC ?_ ?_;(focus (first | exact zao _ | exact a100))))));done));(exact sub_);done)
 | ((apply zdL (q_payload:=[]) (q_wpay:=[]) (q_pass:=[]) (q_subs:=[(filY a,bq.tmod 3),(filY c,c.tmod 2),([97,35],1)]) (q_codes:=[]));(focus (refine le.agg ?_;(repeat (first | exact Les.nil | refine Les.cons le.rfl_ ?_ | refine Les.cons (le.gs rfl) ?_ | refine Les.cons (le.gs List.map_nil.symm) ?_ | (refine Les.cons (le.of_eq ?_) ?_;(focus (simp [encU,List.map_take]<;>fail)))));done));(focus (refine ⟨?_,?_,?_,?_,?_,?_,?_,?_,?_,?_⟩<;>(first | exact z100 | exact u100 | exact a100 | exact zbA _ | exact zbC _ | exact zao _ | (show List.length x<=100;omega) | exact Nat.zero_le _ | exact flt0 | exact Nat.le_of_ble_eq_true rfl | (refine lenT ?_ _;exact Nat.le_of_ble_eq_true rfl) | (refine fltT ?_ _;(repeat (first | exact flt0 | (refine fltC ?_ ?_;(focus (first | exact zao _ | exact a100)))))) | (repeat (first | exact flt0 | (refine fltC ?_ ?_;(focus (first | exact zao _ | exact a100))))));done));(exact sub_);done)
 | ((apply zdL (q_payload:=[]) (q_wpay:=[]) (q_pass:=[]) (q_subs:=[(filY a,bq.tmod 3),([97,35],1)]) (q_codes:=[]));(focus (refine le.agg ?_;(repeat (first | exact Les.nil | refine Les.cons le.rfl_ ?_ | refine Les.cons (le.gs rfl) ?_ | refine Les.cons (le.gs List.map_nil.symm) ?_ | (refine Les.cons (le.of_eq ?_) ?_;(focus (simp [encU,List.map_take]<;>fail)))));done));(focus (refine ⟨?_,?_,?_,?_,?_,?_,?_,?_,?_,?_⟩<;>(first | exact z100 | exact u100 | exact a100 | exact zbA _ | exact zbC _ | exact zao _ | (show List.length x<=100;omega) | exact Nat.zero_le _ | exact flt0 | exact Nat.le_of_ble_eq_true rfl | (refine lenT ?_ _;exact Nat.le_of_ble_eq_true rfl) | (refine fltT ?_ _;(repeat (first | exact flt0 | (refine fltC ?_ ?_;(focus (first | exact zao _ | exact a100)))))) | (repeat (first | exact flt0 | (refine fltC ?_ ?_;(focus (first | exact zao _ | exact a100))))));done));(exact sub_);done)
 | ((apply zdL (q_payload:=[]) (q_wpay:=[]) (q_pass:=[]) (q_subs:=(List.take (1+c.tmod 2).toNat [(filY a,0),(filY c,0)])) (q_codes:=[]));(focus (refine le.agg ?_;(repeat (first | exact Les.nil | refine Les.cons le.rfl_ ?_ | refine Les.cons (le.gs rfl) ?_ | refine Les.cons (le.gs List.map_nil.symm) ?_ | (refine Les.cons (le.of_eq ?_) ?_;(focus (simp [encU,List.map_take]<;>fail)))));done));(focus (refine ⟨?_,?_,?_,?_,?_,?_,?_,?_,?_,?_⟩<;>(first | exact z100 | exact u100 | exact a100 | exact zbA _ | exact zbC _ | exact zao _ | (show List.length x<=100;omega) | exact Nat.zero_le _ | exact flt0 | exact Nat.le_of_ble_eq_true rfl | (refine lenT ?_ _;exact Nat.le_of_ble_eq_true rfl) | (refine fltT ?_ _;(repeat (first | exact flt0 | (refine fltC ?_ ?_;(focus (first | exact zao _ | exact a100)))))) | (repeat (first | exact flt0 | (refine fltC ?_ ?_;(focus (first | exact zao _ | exact a100))))));done));(exact sub_);done)
 | (trace_state;fail)
end
end Go.Proofs.YtgekknefphagbaaGreatDoor
