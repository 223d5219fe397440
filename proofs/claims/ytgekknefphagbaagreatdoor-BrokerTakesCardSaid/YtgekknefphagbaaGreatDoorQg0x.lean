/- The broker: a greeting is taken: the session, what goes out. -/
import Derived.Test.YtgekknefphagbaaGreatDoorIsx
import Derived.KernelRfl
import Derived.Test.YtgekknefphagbaaGreatDoorQg1x
import Derived.Test.YtgekknefphagbaaGreatDoorQg2x
import Derived.Test.YtgekknefphagbaaGreatDoorQg3x
import Derived.Test.YtgekknefphagbaaGreatDoorQjx
namespace Go.Proofs.YtgekknefphagbaaGreatDoor
open Go.RowKit
set_option linter.unusedSimpArgs false
set_option linter.unusedVariables false
set_option linter.unusedSectionVars false
set_option maxHeartbeats 4000000
set_option maxRecDepth 100000
section
attribute [local irreducible] SN.own ownT ownC ownS zae zbj zah zaK zb5 zb4 zam newA outM
attribute [local irreducible] DW SeqD DV DOp DC DVX DVJ idsF usI sortS putM zaj onlyM
theorem zbm {p:Prop} (h:p:=by first | exact sv | (exact kxby) | (exact kxbq) | exact hN16 | exact ⟨hB,hof⟩ | exact ⟨hB,⟨hco,rfl⟩,hz⟩ | exact ⟨hB,hno,hz⟩ | (rw [hx];exact zaz hnl) | exact hyo | exact ⟨⟨by omega,rfl⟩,by (have:=zac hyo now;omega),zcD hyo hyq now _⟩ | exact ⟨⟨by omega,rfl⟩,by (rw [hx];have:=zac (zaz hnl) now;omega),by (rw [hx];exact zcD (zaz hnl) (zdD _) now _)⟩ | exact ⟨⟨rfl,rfl⟩,⟨by (exact kxaa),by (exact kxaa),by (exact kxaa),rfl,by (exact kxaa)⟩,⟨by (exact kxaa),by (exact kxaa),by (exact kxaa),by (exact kxaa)⟩,kxb7,kxb8,kxb9⟩ | fail):p:=h
theorem zc8 {P Q:Prop} (q:Q) (h:Hid Q->P:=by (intro q;simp (maxSteps:=1000000) (disch:=omega) only [push_cast,↓reduceIte,reduceCtorEq,Nat.reduceAdd,Nat.reduceMul,Nat.reduceLT,Nat.reduceLeDiff,Nat.reduceEqDiff,Nat.reduceSub,Int.reduceToNat,Int.reduceLT,Int.reduceLE,Int.reduceAdd,Int.reduceSub,Int.reduceMul,Int.reduceNeg,Nat.reduceBEq,Int.reduceBEq,Int.reduceBNe,Nat.reduceBNe,Int.reduceEq,hlk,hC,hlv,hcl,hw,hpc,hpn,hwn];exact q.1)):P:=h ⟨q⟩
section
attribute [local push_cast 2000] za9 zaW za8 zaL za3 zaG zaV za7 zax za2 zaX zaB zaC zaY zaE zaq za6 zat zaZ za5 zas zba zaD zar zap zbh zbt zbi zaR zaH zaF Option.getD_some Option.getD_none Option.isSome_some Option.isSome_none
theorem zo0 (bb:Nat) (m:Int) (T5:TypeId) (fr5:Nat×Nat) (s:BN) (cp:CP) (n now:Int) (p:Pk) (nm:YS) (F:Own):((BOK s/\BSz s.pl/\s.pl.conn n=some cp/\cp.s=none)/\(0<=n/\n<16/\p.level=4/\p.clean=false/\nm=nameM n p/\nm.length<=100000)/\(p.wtopic.length<=100000/\p.wpay.length<=100000 /\ -1000000000<=p.keep/\p.keep<=1000000000)/\(p.client=[]->p.clean=true)/\(p.hasWill=true->zb5 p.wtopic=true)/\ofM nm s.pl = -1/\NoOne nm s.pl)->DC Tryz.prog 39 [.raw (.pointer (some ⟨bb,0,none⟩)), .int .i64 n, .agg [.int .i64 p.kind, .bool p.dup, .bool p.retain, .int .i64 p.qos, .int .i64 p.id, .str p.topic, .sl (p.payload.map u8), .int .i64 p.level, .str p.client, .bool p.clean, .int .i64 p.keep, .bool p.hasWill, .str p.wtopic, .sl (p.wpay.map u8), .int .i64 p.wqos, .bool p.wretain, .bool p.hasUser, .bool p.hasPass, .str p.user, .sl (p.pass.map u8), .bool p.present, .int .i64 p.code, .sl (p.subs.map encU), .sl (p.codes.map (V.int .i64))], .int .i64 now] (knP T5 fr5::loose::knF::knA::knM m::(ownB bb s++[])++F) fun d G=>∃ (w1 w2 w3 w4:Value) (s':BN) (n1 n2 n3 n4:Nat) (c1 c2 c3 c4:List V),((BOK s'/\s'.pl=(zbo n nm p now (zbw p.clean nm (zaw nm s.pl))).2)/\RowsE (zbo n nm p now (zbw p.clean nm (zaw nm s.pl))).1 n1 n2 n3 n4 c1 c2 c3 c4)/\d = .agg [.ar w1 n1, .ar w2 n2, .ar w3 n3, .ar w4 n4]/\G = .arr 4 w1 c1 :: .arr 4 w2 c2 :: .arr 1 w3 c3 :: .arr 1 w4 c4::knP T5 fr5::loose::knF::knA::knM m::(ownB bb s'++F):=by
 intro hA
 obtain ⟨⟨hB,hz,hcon,hcs⟩,⟨hn0,hn1,hlv,hcl,hnm,hnl⟩,⟨hwt,hwp,hk0,hk1⟩,hnc,hwN,hof,hno⟩:=hA
 refine DC.bodyS (n_:=140) (show Tryz.prog.funcs[39]? = some Tryz.f39 by kernel_rfl) rfl rfl (by rfl) ?_
 simp only [env0,List.append_assoc,List.cons_append,List.nil_append]
 have kw:=ksIs [0,1,2,3,6,8,9,10,11,12,13,14,15,22,34,50,58,64,79,109]
 have ow:=zaf [131]
 have dw22:=drIs 22 [10,13,16] []
 have dw24:=drIs 24 [18] [3,6,7,10,13]
 have rw_:=rsIs [.cell 8 38]
 have hlk:True:=trivial
 have hC:True:=trivial
 have hN16:0<=n/\n<16:=⟨hn0,hn1⟩
 have hsp:(p.client=[]/\35::Go.Lib.itoa n=nm/\(Go.Lib.itoa n).length<=100000)\/(p.client=nm/\(nm=[])=False/\(Go.Lib.itoa n).length=(Go.Lib.itoa n).length):=by
  unfold nameM at hnm
  by_cases h:p.client=[]
  · rw [if_pos h] at hnm
    exact .inl ⟨h,hnm.symm,by rw [hnm] at hnl;simp only [List.length_cons] at hnl;omega⟩
  · rw [if_neg h] at hnm
    exact .inr ⟨hnm.symm,by rw [hnm];exact eq_false h,rfl⟩
 rcases hsp with ⟨hpc,hpn,hil⟩ | ⟨hpc,hpn,hil⟩<;>(rcases hw:p.hasWill with _ | _)<;>(have hwn:=hwN)<;>(simp only [hw,forall_const,reduceCtorEq,false_implies,Bool.false_eq_true,true_implies] at hwn)
 repeat' (first
  | (exact absurd hb (of_eq_false hpn))
  | ((have h9:=hnc hpc);(rw [hcl] at h9);(exact Bool.noConfusion h9))
  | ((fail_if_success (have zz:=hown));(with_reducible show DW _ _ (Code.region 11 _ _) _ _ _);(refine DW.own0P 4 eb 0 kxbg rfl ?_);(simp only [List.set_cons_succ,List.set_cons_zero]);(refine DW.own0P 4 eb 1 kxbg rfl ?_);(simp only [List.set_cons_succ,List.set_cons_zero]);(refine DW.own0P 1 eb 2 kxbg rfl ?_);(simp only [List.set_cons_succ,List.set_cons_zero]);(refine DW.own0P 1 eb 3 kxbg rfl ?_);(simp only [List.set_cons_succ,List.set_cons_zero]);(have hown:True:=trivial))
  | ((fail_if_success (have zz:=hop));(with_reducible show DW _ _ (Code.region 16 _ _) _ _ _);(have hop:True:=trivial);(have hBc:BOK s:=hB);(have hnoc:NoOne nm s.pl:=hno);(have hconc:s.pl.conn n=some cp:=hcon);(have hplc:s.pl=s.pl:=rfl);(have hT9:zaw nm s.pl=(nilE,s.pl):=by unfold zaw;rw [hof];rfl);(have hX:zbw false nm (zaw nm s.pl)=(nilE,s.pl):=by unfold zbw;rw [if_neg (by decide),hT9]);(rw [hX]);(clear hX hT9);(have hBd:=hBc);(clear hBc);(obtain ⟨cm,sm,t,ts,l1,c,l2,ss,hSS,hcp,hcn,h1,h2⟩:=BOK.at hBd hconc);(have hno3:=NoOne.cs hnoc);(generalize hGB:s.pl=B3 at hplc hnoc hconc);(subst hSS);(obtain ⟨cn,cb,st,lf,bad,hd,sv,kp,cl,will,lv,wv⟩:=c);(have hcn1:n=cn:=hcn.symm);(subst hcn1);(have hsv:sv=none:=by (have:=hcs;rw [<-hcp] at this;simpa [Cn.pl] using this));(subst hsv);(have hC:=ze6 (l2:=l2) h1);(simp only at hC h1 h2);(rcases hlk:lookA nm (kvS ss) with _ | yb);rotate_left;(focus ((obtain ⟨m1,y,m2,hss,hyn,hyb,k1,k2⟩:=zfS hBd.sn hlk);(simp only at hss);(subst hss);(subst hyb);(have hyo:=hBd.so y (by simp));(have hyq:=hBd.sq y (by simp));(with_reducible apply DW.toR 16);(focus ((simp only [ownB,BN.maps,zad,zai,Cn.own,Cn.cells,Cn.sv,Option.map_none,Option.map_some,List.append_assoc,List.cons_append,List.nil_append,List.append_nil]);exact SubP.refl))));rotate_left;(focus ((with_reducible apply DW.toR 16);(focus ((simp only [ownB,BN.maps,zad,zai,Cn.own,Cn.cells,Cn.sv,Option.map_none,Option.map_some,List.append_assoc,List.cons_append,List.nil_append,List.append_nil]);exact SubP.refl)))))
  | ((refine DOp.load_ rfl rfl ?_);(repeat (with_reducible first | refine OnB.here ?_ | refine OnB.next ?_ | (refine OnB.inH (by assumption) ?_;with_reducible intro C) | refine OnB.skip ?_));refine zc8 ?_)
  | ((refine DOp.look_ rfl rfl ?_);(repeat (with_reducible first | refine OnM.here ?_ | refine OnM.next ?_ | (refine OnM.inN (by assumption) ?_;with_reducible intro C hC) | (refine OnM.inK (by assumption) ?_;with_reducible intro C hC) | refine OnM.skip ?_));refine zc8 ?_)
  | ((refine DOp.upd_ rfl rfl ?_);(repeat (with_reducible first | refine OnM.here ?_ | refine OnM.next ?_ | (refine OnM.inN (by assumption) ?_;with_reducible intro C hC) | (refine OnM.inK (by assumption) ?_;with_reducible intro C hC) | refine OnM.skip ?_));refine zc8 ?_)
  | refine g_ ?_
  | ((with_reducible refine And.intro ?_ ?_);(exact zbm))
  | (refine DW.cond (by rfl) ?_ ?_<;>(first | exact i0_ | (intro hb;(try simp only [↓reduceCtorEq,not_true_eq_false,not_false_eq_true,hbs,Int.reduceBEq,Int.reduceBNe,Int.reduceEq] at hb);(try refine zc8 ?_))))
  | ((with_reducible first | refine zaa ?_ ?_ | refine zak ?_ ?_)<;>(intro hb;rw [hb];revert hb;(first | exact i0_ | (intro hb;(try simp only [↓reduceCtorEq,not_true_eq_false,not_false_eq_true,hbs,Int.reduceBEq,Int.reduceBNe,Int.reduceEq] at hb);(try refine zc8 ?_)))))
  | ((first | refine rn_ ?_ | refine dn_ ?_ | refine kn_ ?_)<;>(refine zc8 ?_))
  | ((refine dm_ ?_);(first | ((first | refine v_ (zdN _ _ _ _) ?_ (ha:=by exact zbm) (hk:=fun q=>q.1) | refine v_ (zcx _ _) ?_ (ha:=by exact zbm) (hk:=fun q=>q.1) | refine v_ (zbD _ _) ?_ (ha:=by exact zbm) (hk:=fun q=>q.1) | refine v_ (zhu _ _ _ _) ?_ (ha:=by exact zbm) (hk:=fun q=>q.1));refine zc8 ?_) | (refine DVop.look_ rfl rfl rfl rfl ?_;(repeat (with_reducible first | refine OnM.here ?_ | refine OnM.next ?_));refine zc8 ?_)))
  | ((refine von_ ?_);refine zc8 ?_)
  | ((first | (refine DOp.look_ rfl rfl ?_;(repeat (with_reducible first | refine OnM.here ?_ | refine OnM.next ?_))) | (refine DOp.upd_ rfl rfl ?_;(repeat (with_reducible first | refine OnM.here ?_ | refine OnM.next ?_))) | (refine DOp.lista_ [131] rfl rfl ?_) | (refine DOp.makea_ [131] rfl rfl rfl rfl ?_))<;>(refine zc8 ?_))
  | ((first | refine q_ (zdN _ _ _ _) ?_ (ha:=by exact zbm) (hk:=fun q=>q.1) | refine q_ (zcx _ _) ?_ (ha:=by exact zbm) (hk:=fun q=>q.1) | refine q_ (zbD _ _) ?_ (ha:=by exact zbm) (hk:=fun q=>q.1) | refine q_ (zhu _ _ _ _) ?_ (ha:=by exact zbm) (hk:=fun q=>q.1));refine zc8 ?_)
  | (refine p_ (zcb (D1:=[]) (D2:=[]) _ _ _ _ _ _ _ _ _ _ _ _ _ _ _ _ _ _) ?_ (ha:=by exact zbm);rintro d H1 ⟨w1,w2,w3,w4,rfl,rfl⟩<;>refine zc8 ?_)
  | (refine p_ (zh5 _ _) ?_ (ha:=by exact zbm);rintro d H1 ⟨x,⟨hx,hx0⟩,rfl,rfl⟩<;>refine zc8 ?_)
  | (refine p_ (zpR _ _ _) ?_ (ha:=by exact zbm);rintro d H1 ⟨x2,⟨hxo,hxa,hxb⟩,rfl,rfl⟩<;>refine zc8 ?_)
  | (refine p_ (zdU (kind:=2) (id:=0) (pr:=false) (code:=0) (l:=zam now x.a) _ _ _ _ _) ?_ (ha:=by exact zbm);rintro d H1 ⟨rfl,rfl⟩<;>refine zc8 ?_)
  | (refine p_ (zdU (kind:=2) (id:=0) (pr:=true) (code:=0) (l:=zam now y.a) _ _ _ _ _) ?_ (ha:=by exact zbm);rintro d H1 ⟨rfl,rfl⟩<;>refine zc8 ?_)
  | ((refine on_ ?_);refine zc8 ?_)
  | refine f_ ?_
  | refine vm_ ?_
  | ((fail_if_success (have zz:=rb));with_reducible intro rb)
  | ((fail_if_success (have zz:=eb));with_reducible intro eb)
  | ((fail_if_success (have zz:=lw));with_reducible intro lw)
  | ((fail_if_success (have zz:=av));with_reducible intro av)
  | with_reducible intro b)
 all_goals first
 | (((have hw9:p.hasWill=false:=hw);(have hyn:True:=trivial);(have hx2n:x2.a.name=nm:=by rw [hxa,zaO,hx,zck]);(have hx2m:=hx2n);(have hkv:updA nm x.b (kvS ss)=kvS (ss++[x2]):=by (exact kxbz));(rw [hkv]);(have hO:zau nm now B3=zan 2 0 false 0::zam now x.a:=by (exact kxbj));(apply zbX (s':=(⟨cm,sm,t,ts,l1++(⟨n,cb,st,lf,bad,hd,some (nm,x2.b),p.keep,false,will,lv,wv⟩:Cn)::l2,ss++[x2]⟩:BN)));(exact kxa3);(exact kxa1);(exact kxaf);(exact kxax)))
 | (((have hw9:p.hasWill=true:=hw);(have hyn:True:=trivial);(have hx2n:x2.a.name=nm:=by rw [hxa,zaO,hx,zck]);(have hx2m:=hx2n);(have hkv:updA nm x.b (kvS ss)=kvS (ss++[x2]):=by (exact kxbz));(rw [hkv]);(have hO:zau nm now B3=zan 2 0 false 0::zam now x.a:=by (exact kxbj));(apply zbX (s':=(⟨cm,sm,t,ts,l1++(⟨n,cb,st,lf,bad,hd,some (nm,x2.b),p.keep,false,[(⟨p.wtopic,p.wpay,p.wqos,p.wretain⟩:Mg)],lv, .sl ([(⟨p.wtopic,p.wpay,p.wqos,p.wretain⟩:Mg)].map encM)⟩:Cn)::l2,ss++[x2]⟩:BN)));(exact kxa3);(exact kxa1);(exact kxab);(exact kxal)))
 | (((have hw9:p.hasWill=false:=hw);(have hx2n:x2.a.name=y.a.name:=by rw [hxa,zaO]);(have hx2m:x2.a.name=nm:=hx2n.trans hyn);(have hO:zau nm now B3=zan 2 0 true 0::zam now y.a:=by (exact kxbf));(apply zbX (s':=(⟨cm,sm,t,ts,l1++(⟨n,cb,st,lf,bad,hd,some (nm,x2.b),p.keep,false,will,lv,wv⟩:Cn)::l2,m1++x2::m2⟩:BN)));(exact kxa4);(exact kxa2);(exact kxah);(exact kxat)))
 | (((have hw9:p.hasWill=true:=hw);(have hx2n:x2.a.name=y.a.name:=by rw [hxa,zaO]);(have hx2m:x2.a.name=nm:=hx2n.trans hyn);(have hO:zau nm now B3=zan 2 0 true 0::zam now y.a:=by (exact kxbf));(apply zbX (s':=(⟨cm,sm,t,ts,l1++(⟨n,cb,st,lf,bad,hd,some (nm,x2.b),p.keep,false,[(⟨p.wtopic,p.wpay,p.wqos,p.wretain⟩:Mg)],lv, .sl ([(⟨p.wtopic,p.wpay,p.wqos,p.wretain⟩:Mg)].map encM)⟩:Cn)::l2,m1++x2::m2⟩:BN)));(exact kxa4);(exact kxa2);(exact kxad);(exact kxaj)))
 | (trace_state;fail)
end
end
section
theorem zlC {nm:YS} {b:Br} (h:ofM nm b = -1):zaw nm b=(nilE,b):=by unfold zaw;rw [h];rfl
structure ConN (n:Int) (p:Pk):Prop where
 rng:0<=n/\n<16
 name:(nameM n p).length<=100000
 wtopic:p.wtopic.length<=100000
 wpay:p.wpay.length<=100000
 keep : -1000000000<=p.keep/\p.keep<=1000000000
attribute [local irreducible] SN.own ownT ownC ownS ownB zae zbj zah zaK zb5 zb4 zam outM zbp
attribute [local irreducible] DW SeqD DV DOp DC DVX DVJ idsF usI sortS putM zaj onlyM
theorem zn1 (bb:Nat) (m:Int) (T5:TypeId) (fr5:Nat×Nat) (s:BN) (cp:CP) (n now:Int) (p:Pk) (nm:YS) (F:Own):((BOK s/\BSz s.pl/\s.pl.conn n=some cp/\cp.s=none)/\ConN n p/\nm=nameM n p/\p.level=4/\(p.client=[]->p.clean=true)/\(p.hasWill=true->zb5 p.wtopic=true))->DC Tryz.prog 39 [.raw (.pointer (some ⟨bb,0,none⟩)), .int .i64 n, .agg [.int .i64 p.kind, .bool p.dup, .bool p.retain, .int .i64 p.qos, .int .i64 p.id, .str p.topic, .sl (p.payload.map u8), .int .i64 p.level, .str p.client, .bool p.clean, .int .i64 p.keep, .bool p.hasWill, .str p.wtopic, .sl (p.wpay.map u8), .int .i64 p.wqos, .bool p.wretain, .bool p.hasUser, .bool p.hasPass, .str p.user, .sl (p.pass.map u8), .bool p.present, .int .i64 p.code, .sl (p.subs.map encU), .sl (p.codes.map (V.int .i64))], .int .i64 now] ((knP T5 fr5::loose::knF::knA::knM m::(ownB bb s++[]))++F) fun d G=>∃ s':BN,(BOK s'/\s'.pl=(zbo n nm p now (zbw p.clean nm (zaw nm s.pl))).2)/\d = .agg [.sl ((zbo n nm p now (zbw p.clean nm (zaw nm s.pl))).1.outs.map encOu), .sl ((zbo n nm p now (zbw p.clean nm (zaw nm s.pl))).1.pubs.map encM), .sl ((zbo n nm p now (zbw p.clean nm (zaw nm s.pl))).1.adds.map V.str), .sl ((zbo n nm p now (zbw p.clean nm (zaw nm s.pl))).1.drops.map V.str)]/\G=knP T5 fr5::loose::knF::knA::knM m::(ownB bb s'++F):=by
 rintro ⟨⟨hB,hz,hc,hs⟩,hcn,hnm,hlv,hnc,hw⟩
 have key:DC Tryz.prog 39 [.raw (.pointer (some ⟨bb,0,none⟩)), .int .i64 n, .agg [.int .i64 p.kind, .bool p.dup, .bool p.retain, .int .i64 p.qos, .int .i64 p.id, .str p.topic, .sl (p.payload.map u8), .int .i64 p.level, .str p.client, .bool p.clean, .int .i64 p.keep, .bool p.hasWill, .str p.wtopic, .sl (p.wpay.map u8), .int .i64 p.wqos, .bool p.wretain, .bool p.hasUser, .bool p.hasPass, .str p.user, .sl (p.pass.map u8), .bool p.present, .int .i64 p.code, .sl (p.subs.map encU), .sl (p.codes.map (V.int .i64))], .int .i64 now] ((knP T5 fr5::loose::knF::knA::knM m::(ownB bb s++[]))++F) fun d G=>∃ (w1 w2 w3 w4:Value) (s':BN) (n1 n2 n3 n4:Nat) (c1 c2 c3 c4:List V),((BOK s'/\s'.pl=(zbo n nm p now (zbw p.clean nm (zaw nm s.pl))).2)/\RowsE (zbo n nm p now (zbw p.clean nm (zaw nm s.pl))).1 n1 n2 n3 n4 c1 c2 c3 c4)/\d = .agg [.ar w1 n1, .ar w2 n2, .ar w3 n3, .ar w4 n4]/\G = .arr 4 w1 c1 :: .arr 4 w2 c2 :: .arr 1 w3 c3 :: .arr 1 w4 c4::knP T5 fr5::loose::knF::knA::knM m::(ownB bb s'++F):=by
  have hnl:nm.length<=100000:=by rw [hnm];exact hcn.name
  rcases zoa hB nm with ⟨hof,hno⟩ | ⟨co,hco,hcon,hco0,hcos⟩
  · cases hcl:p.clean with
    | false =>
     have h1:=zo0 bb m T5 fr5 s cp n now p nm F ⟨⟨hB,hz,hc,hs⟩,⟨hcn.rng.1,hcn.rng.2,hlv,hcl,hnm,hnl⟩,⟨hcn.wtopic,hcn.wpay,hcn.keep.1,hcn.keep.2⟩,hnc,hw,hof,hno⟩
     rw [hcl] at h1
     exact h1
    | true =>
     have h1:=zpn bb m T5 fr5 s cp n now p nm F ⟨⟨hB,hz,hc,hs⟩,⟨hcn.rng.1,hcn.rng.2,hlv,hcl,hnm,hnl⟩,⟨hcn.wtopic,hcn.wpay,hcn.keep.1,hcn.keep.2⟩,hnc,hw,hof,hno⟩
     rw [hcl] at h1
     exact h1
  · have hne:n≠co.n:=fun e=>by
     rw [e,zj9 hB hco] at hc
     cases hc
     simp only [Cn.pl] at hs
     rw [hcos] at hs;cases hs
    cases hcl:p.clean with
    | false =>
     have h1:=zpW bb m T5 fr5 s cp n now p nm co F ⟨⟨hB,hz,hc,hs⟩,⟨hcn.rng.1,hcn.rng.2,hlv,hcl,hnm,hnl⟩,⟨hcn.wtopic,hcn.wpay,hcn.keep.1,hcn.keep.2⟩,hnc,hw,hco,hcon.symm,hco0,hne,hcos⟩
     rw [hcl] at h1
     exact h1
    | true =>
     have h1:=zpe bb m T5 fr5 s cp n now p nm co F ⟨⟨hB,hz,hc,hs⟩,⟨hcn.rng.1,hcn.rng.2,hlv,hcl,hnm,hnl⟩,⟨hcn.wtopic,hcn.wpay,hcn.keep.1,hcn.keep.2⟩,hnc,hw,hco,hcon.symm,hco0,hne,hcos⟩
     rw [hcl] at h1
     exact h1
 exact DC.frzE (X:=BN) (Q:=fun s'=>BOK s'/\s'.pl=(zbo n nm p now (zbw p.clean nm (zaw nm s.pl))).2) (l1:=fun _=>(zbo n nm p now (zbw p.clean nm (zaw nm s.pl))).1.outs.map encOu) (l2:=fun _=>(zbo n nm p now (zbw p.clean nm (zaw nm s.pl))).1.pubs.map encM) (l3:=fun _=>(zbo n nm p now (zbw p.clean nm (zaw nm s.pl))).1.adds.map V.str) (l4:=fun _=>(zbo n nm p now (zbw p.clean nm (zaw nm s.pl))).1.drops.map V.str) (L:=fun s'=>knP T5 fr5::loose::knF::knA::knM m::(ownB bb s'++F))
  (fun _ j hj=>(zgl _ j hj).1) (fun _=>mg_n _) (fun _=>st_n _) (fun _=>st_n _)
  (key.mono fun d G ⟨w1,w2,w3,w4,s',n1,n2,n3,n4,c1,c2,c3,c4,⟨hq,hr⟩,hd,hG⟩=>⟨w1,w2,w3,w4,s',hq,by rw [hd,hr.n1,hr.n2,hr.n3,hr.n4];simp only [List.length_map],by rw [hG,hr.c1,hr.c2,hr.c3,hr.c4];simp only [zb3]⟩)
theorem zgA {p:Prop} (h:p:=by first | exact sv | exact ⟨hB,⟨hcc,hccn⟩,hz⟩ | exact htl | fail):p:=h
theorem zce {P Q:Prop} (q:Q) (h:Hid Q->P:=by (intro q;simp (maxSteps:=1000000) (disch:=omega) only [push_cast,↓reduceIte,reduceCtorEq,Nat.reduceAdd,Nat.reduceMul,Nat.reduceLT,Nat.reduceLeDiff,Nat.reduceEqDiff,Nat.reduceSub,Int.reduceToNat,Int.reduceLT,Int.reduceLE,Int.reduceAdd,Int.reduceSub,Int.reduceMul,Int.reduceNeg,Nat.reduceBEq,Int.reduceBEq,Int.reduceBNe,Nat.reduceBNe,Int.reduceEq,hx1,hx2,hx3,hx4];exact q.1)):P:=h ⟨q⟩
theorem zpN (bb:Nat) (m:Int) (s:BN) (n now:Int) (p:Pk) (F:Own):((BOK s/\BSz s.pl/\(∃ cp,s.pl.conn n=some cp/\cp.s=none)/\ConN n p)/\p.level≠4)->DC Tryz.prog 39 [.raw (.pointer (some ⟨bb,0,none⟩)), .int .i64 n, .agg [.int .i64 p.kind, .bool p.dup, .bool p.retain, .int .i64 p.qos, .int .i64 p.id, .str p.topic, .sl (p.payload.map u8), .int .i64 p.level, .str p.client, .bool p.clean, .int .i64 p.keep, .bool p.hasWill, .str p.wtopic, .sl (p.wpay.map u8), .int .i64 p.wqos, .bool p.wretain, .bool p.hasUser, .bool p.hasPass, .str p.user, .sl (p.pass.map u8), .bool p.present, .int .i64 p.code, .sl (p.subs.map encU), .sl (p.codes.map (V.int .i64))], .int .i64 now] (loose::knF::knA::knM m::(ownB bb s++[])++F) fun d G=>∃ s':BN,(BOK s'/\s'.pl=(zbp n 1 s.pl).2)/\d = .agg [.sl ((zbp n 1 s.pl).1.outs.map encOu), .sl ((zbp n 1 s.pl).1.pubs.map encM), .sl ((zbp n 1 s.pl).1.adds.map V.str), .sl ((zbp n 1 s.pl).1.drops.map V.str)]/\G=loose::knF::knA::knM m::(ownB bb s'++F):=by
 intro hA
 obtain ⟨⟨hB,hz,⟨cp,hcp,hcs⟩,hcn⟩,hx1⟩:=hA
 refine DC.bodyS (n_:=140) (show Tryz.prog.funcs[39]? = some Tryz.f39 by kernel_rfl) rfl rfl (by rfl) ?_
 simp only [env0,List.append_assoc,List.cons_append,List.nil_append]
 have kw:=ksIs [0,1,2,3,6,8,9,10,11,12,13,14,15,22,34,50,58,64,79,109]
 have ow:=zaf []
 have dw22:=drIs 22 [10,13,16] []
 have dw24:=drIs 24 [18] [3,6,7,10,13]
 have rw_:=rsIs [.cell 8 38]
 obtain ⟨c,hcc,_,hccn⟩:=zgD hcp
 have hx2:True:=trivial
 have hx3:True:=trivial
 have hx4:True:=trivial
 repeat' (first
  | ((have zz:=hb);(exact absurd (And.intro zz hcl) hnn))
  | (exact absurd hb hx1)
  | (exact absurd hx1 hb)
  | refine g_ ?_
  | ((with_reducible refine And.intro ?_ ?_);(exact zgA))
  | (refine DW.cond (by rfl) ?_ ?_<;>(first | exact i0_ | (intro hb;(try simp only [↓reduceCtorEq,not_true_eq_false,not_false_eq_true,hbs,Int.reduceBEq,Int.reduceBNe,Int.reduceEq] at hb);(try refine zce ?_))))
  | ((with_reducible first | refine zaa ?_ ?_ | refine zak ?_ ?_)<;>(intro hb;rw [hb];revert hb;(first | exact i0_ | (intro hb;(try simp only [↓reduceCtorEq,not_true_eq_false,not_false_eq_true,hbs,Int.reduceBEq,Int.reduceBNe,Int.reduceEq] at hb);(try refine zce ?_)))))
  | ((first | refine rn_ ?_ | refine dn_ ?_ | refine kn_ ?_)<;>(refine zce ?_))
  | ((refine von_ ?_);refine zce ?_)
  | (refine p_ (zi2 (c:=c) _ _ _ _ _ _) ?_ (ha:=by exact zgA);rintro d H1 ⟨s2,⟨hs2,hp2⟩,rfl,rfl⟩<;>refine zce ?_)
  | ((refine on_ ?_);refine zce ?_)
  | refine f_ ?_
  | refine vm_ ?_
  | ((fail_if_success (have zz:=rb));with_reducible intro rb)
  | with_reducible intro b)
 all_goals first
 | (exact kxbw)
 | (trace_state;fail)
theorem zgn {p:Prop} (h:p:=by first | exact sv | exact ⟨hB,⟨hcc,hccn⟩,hz⟩ | exact htl | fail):p:=h
theorem zpQ (bb:Nat) (m:Int) (s:BN) (n now:Int) (p:Pk) (F:Own):((BOK s/\BSz s.pl/\(∃ cp,s.pl.conn n=some cp/\cp.s=none)/\ConN n p)/\p.level=4/\p.client=[]/\p.clean=false)->DC Tryz.prog 39 [.raw (.pointer (some ⟨bb,0,none⟩)), .int .i64 n, .agg [.int .i64 p.kind, .bool p.dup, .bool p.retain, .int .i64 p.qos, .int .i64 p.id, .str p.topic, .sl (p.payload.map u8), .int .i64 p.level, .str p.client, .bool p.clean, .int .i64 p.keep, .bool p.hasWill, .str p.wtopic, .sl (p.wpay.map u8), .int .i64 p.wqos, .bool p.wretain, .bool p.hasUser, .bool p.hasPass, .str p.user, .sl (p.pass.map u8), .bool p.present, .int .i64 p.code, .sl (p.subs.map encU), .sl (p.codes.map (V.int .i64))], .int .i64 now] (loose::knF::knA::knM m::(ownB bb s++[])++F) fun d G=>∃ s':BN,(BOK s'/\s'.pl=(zbp n 2 s.pl).2)/\d = .agg [.sl ((zbp n 2 s.pl).1.outs.map encOu), .sl ((zbp n 2 s.pl).1.pubs.map encM), .sl ((zbp n 2 s.pl).1.adds.map V.str), .sl ((zbp n 2 s.pl).1.drops.map V.str)]/\G=loose::knF::knA::knM m::(ownB bb s'++F):=by
 intro hA
 obtain ⟨⟨hB,hz,⟨cp,hcp,hcs⟩,hcn⟩,hx1,hx2,hx3⟩:=hA
 refine DC.bodyS (n_:=140) (show Tryz.prog.funcs[39]? = some Tryz.f39 by kernel_rfl) rfl rfl (by rfl) ?_
 simp only [env0,List.append_assoc,List.cons_append,List.nil_append]
 have kw:=ksIs [0,1,2,3,6,8,9,10,11,12,13,14,15,22,34,50,58,64,79,109]
 have ow:=zaf []
 have dw22:=drIs 22 [10,13,16] []
 have dw24:=drIs 24 [18] [3,6,7,10,13]
 have rw_:=rsIs [.cell 8 38]
 obtain ⟨c,hcc,_,hccn⟩:=zgD hcp
 have hx4:True:=trivial
 repeat' (first
  | ((have zz:=hb);(exact absurd (And.intro zz hcl) hnn))
  | (exact absurd hb hx1)
  | (exact absurd hx1 hb)
  | refine g_ ?_
  | ((with_reducible refine And.intro ?_ ?_);(exact zgn))
  | (refine DW.cond (by rfl) ?_ ?_<;>(first | exact i0_ | (intro hb;(try simp only [↓reduceCtorEq,not_true_eq_false,not_false_eq_true,hbs,Int.reduceBEq,Int.reduceBNe,Int.reduceEq] at hb);(try refine zce ?_))))
  | ((with_reducible first | refine zaa ?_ ?_ | refine zak ?_ ?_)<;>(intro hb;rw [hb];revert hb;(first | exact i0_ | (intro hb;(try simp only [↓reduceCtorEq,not_true_eq_false,not_false_eq_true,hbs,Int.reduceBEq,Int.reduceBNe,Int.reduceEq] at hb);(try refine zce ?_)))))
  | ((first | refine rn_ ?_ | refine dn_ ?_ | refine kn_ ?_)<;>(refine zce ?_))
  | ((refine von_ ?_);refine zce ?_)
  | (refine p_ (zi2 (c:=c) _ _ _ _ _ _) ?_ (ha:=by exact zgn);rintro d H1 ⟨s2,⟨hs2,hp2⟩,rfl,rfl⟩<;>refine zce ?_)
  | ((refine on_ ?_);refine zce ?_)
  | refine f_ ?_
  | refine vm_ ?_
  | ((fail_if_success (have zz:=rb));with_reducible intro rb)
  | with_reducible intro b)
 all_goals first
 | (exact kxbw)
 | (trace_state;fail)
theorem zdB {p:Prop} (h:p:=by first | exact sv | exact ⟨hB,⟨hcc,hccn⟩,hz⟩ | exact htl | fail):p:=h
theorem zp8 (bb:Nat) (m:Int) (s:BN) (n now:Int) (p:Pk) (F:Own):((BOK s/\BSz s.pl/\(∃ cp,s.pl.conn n=some cp/\cp.s=none)/\ConN n p)/\p.level=4/\¬(p.client=[]/\p.clean=false)/\p.hasWill=true/\zb5 p.wtopic=false)->DC Tryz.prog 39 [.raw (.pointer (some ⟨bb,0,none⟩)), .int .i64 n, .agg [.int .i64 p.kind, .bool p.dup, .bool p.retain, .int .i64 p.qos, .int .i64 p.id, .str p.topic, .sl (p.payload.map u8), .int .i64 p.level, .str p.client, .bool p.clean, .int .i64 p.keep, .bool p.hasWill, .str p.wtopic, .sl (p.wpay.map u8), .int .i64 p.wqos, .bool p.wretain, .bool p.hasUser, .bool p.hasPass, .str p.user, .sl (p.pass.map u8), .bool p.present, .int .i64 p.code, .sl (p.subs.map encU), .sl (p.codes.map (V.int .i64))], .int .i64 now] (loose::knF::knA::knM m::(ownB bb s++[])++F) fun d G=>∃ s':BN,(BOK s'/\s'.pl=(zae n s.pl).2)/\d = .agg [.sl ((zae n s.pl).1.outs.map encOu), .sl ((zae n s.pl).1.pubs.map encM), .sl ((zae n s.pl).1.adds.map V.str), .sl ((zae n s.pl).1.drops.map V.str)]/\G=loose::knF::knA::knM m::(ownB bb s'++F):=by
 intro hA
 obtain ⟨⟨hB,hz,⟨cp,hcp,hcs⟩,hcn⟩,hx1,hnn,hx3,hx4⟩:=hA
 refine DC.bodyS (n_:=140) (show Tryz.prog.funcs[39]? = some Tryz.f39 by kernel_rfl) rfl rfl (by rfl) ?_
 simp only [env0,List.append_assoc,List.cons_append,List.nil_append]
 have kw:=ksIs [0,1,2,3,6,8,9,10,11,12,13,14,15,22,34,50,58,64,79,109]
 have ow:=zaf []
 have dw22:=drIs 22 [10,13,16] []
 have dw24:=drIs 24 [18] [3,6,7,10,13]
 have rw_:=rsIs [.cell 8 38]
 obtain ⟨c,hcc,_,hccn⟩:=zgD hcp
 have hx2:True:=trivial
 have htl:p.wtopic.length<=1000000000:=by have:=hcn.wtopic;omega
 rcases hcl:p.clean with _ | _
 repeat' (first
  | ((have zz:=hb);(exact absurd (And.intro zz hcl) hnn))
  | (exact absurd hb hx1)
  | (exact absurd hx1 hb)
  | refine g_ ?_
  | ((with_reducible refine And.intro ?_ ?_);(exact zdB))
  | (refine DW.cond (by rfl) ?_ ?_<;>(first | exact i0_ | (intro hb;(try simp only [↓reduceCtorEq,not_true_eq_false,not_false_eq_true,hbs,Int.reduceBEq,Int.reduceBNe,Int.reduceEq] at hb);(try refine zce ?_))))
  | ((with_reducible first | refine zaa ?_ ?_ | refine zak ?_ ?_)<;>(intro hb;rw [hb];revert hb;(first | exact i0_ | (intro hb;(try simp only [↓reduceCtorEq,not_true_eq_false,not_false_eq_true,hbs,Int.reduceBEq,Int.reduceBNe,Int.reduceEq] at hb);(try refine zce ?_)))))
  | ((first | refine rn_ ?_ | refine dn_ ?_ | refine kn_ ?_)<;>(refine zce ?_))
  | ((refine dm_ ?_);(first | (refine v_ (zcx _ _) ?_ (ha:=by exact zdB) (hk:=fun q=>q.1);refine zce ?_)))
  | ((refine von_ ?_);refine zce ?_)
  | (refine p_ (zeC (c:=c) _ _ _ _ _) ?_ (ha:=by exact zdB);rintro d H1 ⟨s2,⟨hs2,hp2⟩,rfl,rfl⟩<;>refine zce ?_)
  | (refine q_ (zcx _ _) ?_ (ha:=by exact zdB) (hk:=fun q=>q.1);refine zce ?_)
  | ((refine on_ ?_);refine zce ?_)
  | refine f_ ?_
  | refine vm_ ?_
  | ((fail_if_success (have zz:=rb));with_reducible intro rb)
  | with_reducible intro b)
 all_goals first
 | (exact kxbw)
 | (trace_state;fail)
end
end Go.Proofs.YtgekknefphagbaaGreatDoor
