/- The broker: a greeting is taken: the session, what goes out. -/
import Derived.Test.YtgekknefphagbaaGreatDoorIsx
import Derived.KernelRfl
namespace Go.Proofs.YtgekknefphagbaaGreatDoor
open Go.RowKit
set_option linter.unusedSimpArgs false
set_option linter.unusedVariables false
set_option linter.unusedSectionVars false
set_option maxHeartbeats 4000000
set_option maxRecDepth 100000
section
attribute [local irreducible] SN.own ownT ownC ownS zae zbj zah zaK zb5 zb4 zam newA outM
attribute [local irreducible] DW SeqD DV DOp DC DVX DVJ idsF usI sortS putM zaj onlyM
theorem zaQ {p:Prop} (h:p:=by first | exact sv | (exact kxby) | (exact kxbq) | exact hN16 | exact ⟨hB,hof⟩ | exact ⟨hB,⟨hco,rfl⟩,hz⟩ | exact ⟨hs2,(by rw [hp2];exact hno2),(by rw [hp2];exact hz.shut _)⟩ | (rw [hx];exact zaz hnl) | exact hyo | exact ⟨⟨by omega,rfl⟩,by (have:=zac hyo now;omega),zcD hyo hyq now _⟩ | exact ⟨⟨by omega,rfl⟩,by (rw [hx];have:=zac (zaz hnl) now;omega),by (rw [hx];exact zcD (zaz hnl) (zdD _) now _)⟩ | exact ⟨⟨rfl,rfl⟩,⟨by (exact kxaa),by (exact kxaa),by (exact kxaa),rfl,by (exact kxaa)⟩,⟨by (exact kxaa),by (exact kxaa),by (exact kxaa),by (exact kxaa)⟩,kxb7,kxb8,kxb9⟩ | fail):p:=h
theorem zbJ {P Q:Prop} (q:Q) (h:Hid Q->P:=by (intro q;simp (maxSteps:=1000000) (disch:=omega) only [push_cast,↓reduceIte,reduceCtorEq,Nat.reduceAdd,Nat.reduceMul,Nat.reduceLT,Nat.reduceLeDiff,Nat.reduceEqDiff,Nat.reduceSub,Int.reduceToNat,Int.reduceLT,Int.reduceLE,Int.reduceAdd,Int.reduceSub,Int.reduceMul,Int.reduceNeg,Nat.reduceBEq,Int.reduceBEq,Int.reduceBNe,Nat.reduceBNe,Int.reduceEq,hlk,hC,hlv,hcl,hw,hpc,hpn,hwn];exact q.1)):P:=h ⟨q⟩
section
attribute [local push_cast 2000] za9 zaW za8 zaL za3 zaG zaV za7 zax za2 zaX zaB zaC zaY zaE zaq za6 zat zaZ za5 zas zba zaD zar zap zbh zbt zbi zaR zaH zaF Option.getD_some Option.getD_none Option.isSome_some Option.isSome_none
theorem zpe (bb:Nat) (m:Int) (T5:TypeId) (fr5:Nat×Nat) (s:BN) (cp:CP) (n now:Int) (p:Pk) (nm:YS) (co:Cn) (F:Own):((BOK s/\BSz s.pl/\s.pl.conn n=some cp/\cp.s=none)/\(0<=n/\n<16/\p.level=4/\p.clean=true/\nm=nameM n p/\nm.length<=100000)/\(p.wtopic.length<=100000/\p.wpay.length<=100000 /\ -1000000000<=p.keep/\p.keep<=1000000000)/\(p.client=[]->p.clean=true)/\(p.hasWill=true->zb5 p.wtopic=true)/\co∈s.cs/\ofM nm s.pl=co.n/\0<=co.n/\n≠co.n/\co.s.map (·.1)=some nm)->DC Tryz.prog 39 [.raw (.pointer (some ⟨bb,0,none⟩)), .int .i64 n, .agg [.int .i64 p.kind, .bool p.dup, .bool p.retain, .int .i64 p.qos, .int .i64 p.id, .str p.topic, .sl (p.payload.map u8), .int .i64 p.level, .str p.client, .bool p.clean, .int .i64 p.keep, .bool p.hasWill, .str p.wtopic, .sl (p.wpay.map u8), .int .i64 p.wqos, .bool p.wretain, .bool p.hasUser, .bool p.hasPass, .str p.user, .sl (p.pass.map u8), .bool p.present, .int .i64 p.code, .sl (p.subs.map encU), .sl (p.codes.map (V.int .i64))], .int .i64 now] (knP T5 fr5::loose::knF::knA::knM m::(ownB bb s++[])++F) fun d G=>∃ (w1 w2 w3 w4:Value) (s':BN) (n1 n2 n3 n4:Nat) (c1 c2 c3 c4:List V),((BOK s'/\s'.pl=(zbo n nm p now (zbw p.clean nm (zaw nm s.pl))).2)/\RowsE (zbo n nm p now (zbw p.clean nm (zaw nm s.pl))).1 n1 n2 n3 n4 c1 c2 c3 c4)/\d = .agg [.ar w1 n1, .ar w2 n2, .ar w3 n3, .ar w4 n4]/\G = .arr 4 w1 c1 :: .arr 4 w2 c2 :: .arr 1 w3 c3 :: .arr 1 w4 c4::knP T5 fr5::loose::knF::knA::knM m::(ownB bb s'++F):=by
 intro hA
 obtain ⟨⟨hB,hz,hcon,hcs⟩,⟨hn0,hn1,hlv,hcl,hnm,hnl⟩,⟨hwt,hwp,hk0,hk1⟩,hnc,hwN,hco,hof,hco0,hne,hcos⟩:=hA
 refine DC.bodyS (n_:=140) (show Tryz.prog.funcs[39]? = some Tryz.f39 by kernel_rfl) rfl rfl (by rfl) ?_
 simp only [env0,List.append_assoc,List.cons_append,List.nil_append]
 have kw:=ksIs [0,1,2,3,6,8,9,10,11,12,13,14,15,22,34,50,58,64,79,109]
 have ow:=zaf [131]
 have dw22:=drIs 22 [10,13,16] []
 have dw24:=drIs 24 [18] [3,6,7,10,13]
 have rw_:=rsIs [.cell 8 38]
 have hlk:True:=trivial
 have hC:True:=trivial
 have hN16:0<=n/\n<16:=⟨hn0,hn1⟩
 have hno2:NoOne nm (zae co.n s.pl).2:=NoOne.shut hB hco hcos
 have hsn:=zj5 hB hz hco
 obtain ⟨hS1,hS2,hS3a,hS4⟩:=hsn
 have hS3:(zae co.n s.pl).1.adds.length=0:=by rw [hS3a];rfl
 have hFL:∀ s2:BN,s2.pl=(zae co.n s.pl).2->(zah nm s2.pl).1.length<=1000000:=fun s2 h=>by rw [h];exact zgv (hz.shut _) _
 have hsp:(p.client=[]/\35::Go.Lib.itoa n=nm/\(Go.Lib.itoa n).length<=100000)\/(p.client=nm/\(nm=[])=False/\(Go.Lib.itoa n).length=(Go.Lib.itoa n).length):=by
  unfold nameM at hnm
  by_cases h:p.client=[]
  · rw [if_pos h] at hnm
    exact .inl ⟨h,hnm.symm,by rw [hnm] at hnl;simp only [List.length_cons] at hnl;omega⟩
  · rw [if_neg h] at hnm
    exact .inr ⟨hnm.symm,by rw [hnm];exact eq_false h,rfl⟩
 rcases hsp with ⟨hpc,hpn,hil⟩ | ⟨hpc,hpn,hil⟩<;>(rcases hw:p.hasWill with _ | _)<;>(have hwn:=hwN)<;>(simp only [hw,forall_const,reduceCtorEq,false_implies,Bool.false_eq_true,true_implies] at hwn)
 repeat' (first
  | (exact absurd hb (of_eq_false hpn))
  | ((fail_if_success (have zz:=hown));(with_reducible show DW _ _ (Code.region 11 _ _) _ _ _);(refine DW.own0P 4 eb 0 kxbg rfl ?_);(simp only [List.set_cons_succ,List.set_cons_zero]);(refine DW.own0P 4 eb 1 kxbg rfl ?_);(simp only [List.set_cons_succ,List.set_cons_zero]);(refine DW.own0P 1 eb 2 kxbg rfl ?_);(simp only [List.set_cons_succ,List.set_cons_zero]);(refine DW.own0P 1 eb 3 kxbg rfl ?_);(simp only [List.set_cons_succ,List.set_cons_zero]);(have hown:True:=trivial))
  | ((fail_if_success (have zz:=hop));(with_reducible show DW _ _ (Code.region 16 _ _) _ _ _);(have hop:True:=trivial);(have hBc:BOK s3:=hs3);(have hnoc:NoOne nm s3.pl:=by rw [hp3];exact NoOne.forget (by rw [hp2];exact hno2) _);(have hconc:s3.pl.conn n=some cp:=by rw [hp3,zf2];exact (by rw [hp2,zeZ hne];exact hcon));(have hplc:s3.pl=(zah nm s2.pl).2:=hp3);(have hT9:zaw nm s.pl=(andM nilE (zae co.n s.pl).1,s2.pl):=by unfold zaw;rw [hof,if_pos hco0,hp2]);(have hX:zbw true nm (zaw nm s.pl)=((andM (andM nilE (zae co.n s.pl).1) ⟨[],[],[],(zah nm s2.pl).1⟩),s3.pl):=by unfold zbw;rw [if_pos rfl,hT9,hp3]);(rw [hX]);(clear hX hT9);(have hBd:=hBc);(clear hBc);(obtain ⟨cm,sm,t,ts,l1,c,l2,ss,hSS,hcp,hcn,h1,h2⟩:=BOK.at hBd hconc);(have hno3:=NoOne.cs hnoc);(generalize hGB:s3.pl=B3 at hplc hnoc hconc);(subst hSS);(obtain ⟨cn,cb,st,lf,bad,hd,sv,kp,cl,will,lv,wv⟩:=c);(have hcn1:n=cn:=hcn.symm);(subst hcn1);(have hsv:sv=none:=by (have:=hcs;rw [<-hcp] at this;simpa [Cn.pl] using this));(subst hsv);(have hC:=ze6 (l2:=l2) h1);(simp only at hC h1 h2);(rcases hlk:lookA nm (kvS ss) with _ | yb);rotate_left;(focus ((obtain ⟨m1,y,m2,hss,hyn,hyb,k1,k2⟩:=zfS hBd.sn hlk);(simp only at hss);(subst hss);(subst hyb);(have hyo:=hBd.so y (by simp));(have hyq:=hBd.sq y (by simp));(with_reducible apply DW.toR 16);(focus ((simp only [ownB,BN.maps,zad,zai,Cn.own,Cn.cells,Cn.sv,Option.map_none,Option.map_some,List.append_assoc,List.cons_append,List.nil_append,List.append_nil]);exact SubP.refl))));rotate_left;(focus ((with_reducible apply DW.toR 16);(focus ((simp only [ownB,BN.maps,zad,zai,Cn.own,Cn.cells,Cn.sv,Option.map_none,Option.map_some,List.append_assoc,List.cons_append,List.nil_append,List.append_nil]);exact SubP.refl)))))
  | ((refine DOp.load_ rfl rfl ?_);(repeat (with_reducible first | refine OnB.here ?_ | refine OnB.next ?_ | (refine OnB.inH (by assumption) ?_;with_reducible intro C) | refine OnB.skip ?_));refine zbJ ?_)
  | ((refine DOp.look_ rfl rfl ?_);(repeat (with_reducible first | refine OnM.here ?_ | refine OnM.next ?_ | (refine OnM.inN (by assumption) ?_;with_reducible intro C hC) | (refine OnM.inK (by assumption) ?_;with_reducible intro C hC) | refine OnM.skip ?_));refine zbJ ?_)
  | ((refine DOp.upd_ rfl rfl ?_);(repeat (with_reducible first | refine OnM.here ?_ | refine OnM.next ?_ | (refine OnM.inN (by assumption) ?_;with_reducible intro C hC) | (refine OnM.inK (by assumption) ?_;with_reducible intro C hC) | refine OnM.skip ?_));refine zbJ ?_)
  | refine g_ ?_
  | ((with_reducible refine And.intro ?_ ?_);(exact zaQ))
  | (refine DW.cond (by rfl) ?_ ?_<;>(first | exact i0_ | (intro hb;(try simp only [↓reduceCtorEq,not_true_eq_false,not_false_eq_true,hbs,Int.reduceBEq,Int.reduceBNe,Int.reduceEq] at hb);(try refine zbJ ?_))))
  | ((with_reducible first | refine zaa ?_ ?_ | refine zak ?_ ?_)<;>(intro hb;rw [hb];revert hb;(first | exact i0_ | (intro hb;(try simp only [↓reduceCtorEq,not_true_eq_false,not_false_eq_true,hbs,Int.reduceBEq,Int.reduceBNe,Int.reduceEq] at hb);(try refine zbJ ?_)))))
  | ((first | refine rn_ ?_ | refine dn_ ?_ | refine kn_ ?_)<;>(refine zbJ ?_))
  | ((refine dm_ ?_);(first | ((first | refine v_ (zdN _ _ _ _) ?_ (ha:=by exact zaQ) (hk:=fun q=>q.1) | refine v_ (zcx _ _) ?_ (ha:=by exact zaQ) (hk:=fun q=>q.1) | refine v_ (zbD _ _) ?_ (ha:=by exact zaQ) (hk:=fun q=>q.1));refine zbJ ?_) | (refine v_ (zhO (z:=co.n) _ _ _ _) ?_ (ha:=by exact zaQ) (hk:=fun q=>q.1);refine zbJ ?_) | (refine DVop.look_ rfl rfl rfl rfl ?_;(repeat (with_reducible first | refine OnM.here ?_ | refine OnM.next ?_));refine zbJ ?_)))
  | ((refine von_ ?_);refine zbJ ?_)
  | ((first | (refine DOp.look_ rfl rfl ?_;(repeat (with_reducible first | refine OnM.here ?_ | refine OnM.next ?_))) | (refine DOp.upd_ rfl rfl ?_;(repeat (with_reducible first | refine OnM.here ?_ | refine OnM.next ?_))) | (refine DOp.lista_ [131] rfl rfl ?_) | (refine DOp.makea_ [131] rfl rfl rfl rfl ?_))<;>(refine zbJ ?_))
  | ((first | refine q_ (zdN _ _ _ _) ?_ (ha:=by exact zaQ) (hk:=fun q=>q.1) | refine q_ (zcx _ _) ?_ (ha:=by exact zaQ) (hk:=fun q=>q.1) | refine q_ (zbD _ _) ?_ (ha:=by exact zaQ) (hk:=fun q=>q.1));refine zbJ ?_)
  | (refine q_ (zhO (z:=co.n) _ _ _ _) ?_ (ha:=by exact zaQ) (hk:=fun q=>q.1);refine zbJ ?_)
  | (refine p_ (zeC (c:=co) _ _ _ _ _) ?_ (ha:=by exact zaQ);rintro d H1 ⟨s2,⟨hs2,hp2⟩,rfl,rfl⟩<;>refine zbJ ?_)
  | (refine p_ (zgU _ _ _ _ _) ?_ (ha:=by exact zaQ);rintro d H1 ⟨s3,⟨hs3,hp3⟩,rfl,rfl⟩<;>refine zbJ ?_)
  | (refine p_ (zcb (D1:=[]) (D2:=(zae co.n s.pl).1.drops) _ _ _ _ _ _ _ _ _ _ _ _ _ _ _ _ _ _) ?_ (ha:=by exact zaQ);rintro d H1 ⟨w1,w2,w3,w4,rfl,rfl⟩<;>refine zbJ ?_)
  | (refine p_ (zcb (D1:=(zaK ([]++(zae co.n s.pl).1.drops))) (D2:=(zah nm s2.pl).1) _ _ _ _ _ _ _ _ _ _ _ _ _ _ _ _ _ _) ?_ (ha:=by exact zaQ);rintro d H1 ⟨w1,w2,w3,w4,rfl,rfl⟩<;>refine zbJ ?_)
  | (refine p_ (zcb (D1:=(zaK ((zaK ([]++(zae co.n s.pl).1.drops))++(zah nm s2.pl).1))) (D2:=[]) _ _ _ _ _ _ _ _ _ _ _ _ _ _ _ _ _ _) ?_ (ha:=by exact zaQ);rintro d H1 ⟨w1,w2,w3,w4,rfl,rfl⟩<;>refine zbJ ?_)
  | (refine p_ (zh5 _ _) ?_ (ha:=by exact zaQ);rintro d H1 ⟨x,⟨hx,hx0⟩,rfl,rfl⟩<;>refine zbJ ?_)
  | (refine p_ (zpR _ _ _) ?_ (ha:=by exact zaQ);rintro d H1 ⟨x2,⟨hxo,hxa,hxb⟩,rfl,rfl⟩<;>refine zbJ ?_)
  | (refine p_ (zdU (kind:=2) (id:=0) (pr:=false) (code:=0) (l:=zam now x.a) _ _ _ _ _) ?_ (ha:=by exact zaQ);rintro d H1 ⟨rfl,rfl⟩<;>refine zbJ ?_)
  | (refine p_ (zdU (kind:=2) (id:=0) (pr:=true) (code:=0) (l:=zam now y.a) _ _ _ _ _) ?_ (ha:=by exact zaQ);rintro d H1 ⟨rfl,rfl⟩<;>refine zbJ ?_)
  | ((refine on_ ?_);refine zbJ ?_)
  | refine f_ ?_
  | refine vm_ ?_
  | ((fail_if_success (have zz:=rb));with_reducible intro rb)
  | ((fail_if_success (have zz:=eb));with_reducible intro eb)
  | ((fail_if_success (have zz:=lw));with_reducible intro lw)
  | ((fail_if_success (have zz:=av));with_reducible intro av)
  | with_reducible intro b)
 all_goals first
 | (((have hw9:p.hasWill=false:=hw);(have hyn:True:=trivial);(have hx2n:x2.a.name=nm:=by rw [hxa,zaO,hx,zck]);(have hx2m:=hx2n);(have hkv:updA nm x.b (kvS ss)=kvS (ss++[x2]):=by (exact kxbz));(rw [hkv]);(have hO:zau nm now B3=zan 2 0 false 0::zam now x.a:=by (exact kxbj));(apply zbX (s':=(⟨cm,sm,t,ts,l1++(⟨n,cb,st,lf,bad,hd,some (nm,x2.b),p.keep,true,will,lv,wv⟩:Cn)::l2,ss++[x2]⟩:BN)));(exact kxa3);(exact kxao);(exact kxag);(exact kxay)))
 | (((have hw9:p.hasWill=true:=hw);(have hyn:True:=trivial);(have hx2n:x2.a.name=nm:=by rw [hxa,zaO,hx,zck]);(have hx2m:=hx2n);(have hkv:updA nm x.b (kvS ss)=kvS (ss++[x2]):=by (exact kxbz));(rw [hkv]);(have hO:zau nm now B3=zan 2 0 false 0::zam now x.a:=by (exact kxbj));(apply zbX (s':=(⟨cm,sm,t,ts,l1++(⟨n,cb,st,lf,bad,hd,some (nm,x2.b),p.keep,true,[(⟨p.wtopic,p.wpay,p.wqos,p.wretain⟩:Mg)],lv, .sl ([(⟨p.wtopic,p.wpay,p.wqos,p.wretain⟩:Mg)].map encM)⟩:Cn)::l2,ss++[x2]⟩:BN)));(exact kxa3);(exact kxao);(exact kxac);(exact kxam)))
 | (((have hw9:p.hasWill=false:=hw);(have hx2n:x2.a.name=y.a.name:=by rw [hxa,zaO]);(have hx2m:x2.a.name=nm:=hx2n.trans hyn);(have hO:zau nm now B3=zan 2 0 true 0::zam now y.a:=by (exact kxbf));(apply zbX (s':=(⟨cm,sm,t,ts,l1++(⟨n,cb,st,lf,bad,hd,some (nm,x2.b),p.keep,true,will,lv,wv⟩:Cn)::l2,m1++x2::m2⟩:BN)));(exact kxa4);(exact kxap);(exact kxai);(exact kxau)))
 | (((have hw9:p.hasWill=true:=hw);(have hx2n:x2.a.name=y.a.name:=by rw [hxa,zaO]);(have hx2m:x2.a.name=nm:=hx2n.trans hyn);(have hO:zau nm now B3=zan 2 0 true 0::zam now y.a:=by (exact kxbf));(apply zbX (s':=(⟨cm,sm,t,ts,l1++(⟨n,cb,st,lf,bad,hd,some (nm,x2.b),p.keep,true,[(⟨p.wtopic,p.wpay,p.wqos,p.wretain⟩:Mg)],lv, .sl ([(⟨p.wtopic,p.wpay,p.wqos,p.wretain⟩:Mg)].map encM)⟩:Cn)::l2,m1++x2::m2⟩:BN)));(exact kxa4);(exact kxap);(exact kxae);(exact kxak)))
 | (trace_state;fail)
end
end
end Go.Proofs.YtgekknefphagbaaGreatDoor
