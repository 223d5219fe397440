/- The broker: a greeting is taken: the session, what goes out. -/
import Derived.Test.YtgekknefphagbaaGreatDoorIsx
import Derived.KernelRfl
import Derived.Test.YtgekknefphagbaaGreatDoorQg1x
import Derived.Test.YtgekknefphagbaaGreatDoorQg2x
import Derived.Test.YtgekknefphagbaaGreatDoorQg3x
import Derived.Test.YtgekknefphagbaaGreatDoorQjx
namespace Go.Proofs.YtgekknefphagbaaGreatDoor
open Go.RowKit
set_option linter.unusedSimpArgs false
set_option linter.unusedVariables false
set_option linter.unusedSectionVars false
set_option maxHeartbeats 4000000
set_option maxRecDepth 100000
section
attribute [local irreducible] SN.own ownT ownC ownS zae zbr zak zaQ zbz zb6 zao newA outM
attribute [local irreducible] DW SeqD DV DOp DC DVX DVJ idsF usI sortS putM zal onlyM
theorem zbk {p:Prop} (h:p:=by first | exact sv | (refine ⟨?_,?_,fun _ _=>⟨rfl,rfl⟩⟩<;>(have h8:=zac hyo now;omega)) | (refine ⟨?_,?_,fun _ _=>⟨rfl,rfl⟩⟩<;>(have h7:=zar hnl;rw [<-hx] at h7;have h8:=zac h7 now;omega)) | exact hN16 | exact ⟨hB,hof⟩ | exact ⟨hB,⟨hco,rfl⟩,hz⟩ | exact ⟨hB,hno,hz⟩ | (rw [hx];exact zar hnl) | exact hyo | exact ⟨⟨by omega,rfl⟩,by (have:=zac hyo now;omega),zcw hyo hyq now _⟩ | exact ⟨⟨by omega,rfl⟩,by (rw [hx];have:=zac (zar hnl) now;omega),by (rw [hx];exact zcw (zar hnl) (zd0 _) now _)⟩ | exact ⟨⟨rfl,rfl⟩,⟨by ((try simp only [List.length_map,List.length_append,List.length_nil,List.length_cons,Nat.zero_add,Nat.add_zero]);(first | omega | exact hS4 | (refine Nat.le_trans (za5 ..) ?_;(simp only [List.length_cons]);first | (have h8:=zac hyo now;omega) | (have h7:=zar hnl;rw [<-hx] at h7;have h8:=zac h7 now;omega)) | exact Nat.le_trans (zab _) (by (simp only [List.length_append,List.length_nil]);omega) | (have h6:=hFL s2 hp2;have h5:=zab (zae co.n s.pl).1.drops;have h7:=zab ([]++(zae co.n s.pl).1.drops);(simp only [List.nil_append] at h7);first | omega | (refine Nat.le_trans (zab _) ?_;(simp only [List.length_append,List.nil_append,List.length_nil]);omega)))),by ((try simp only [List.length_map,List.length_append,List.length_nil,List.length_cons,Nat.zero_add,Nat.add_zero]);(first | omega | exact hS4 | (refine Nat.le_trans (za5 ..) ?_;(simp only [List.length_cons]);first | (have h8:=zac hyo now;omega) | (have h7:=zar hnl;rw [<-hx] at h7;have h8:=zac h7 now;omega)) | exact Nat.le_trans (zab _) (by (simp only [List.length_append,List.length_nil]);omega) | (have h6:=hFL s2 hp2;have h5:=zab (zae co.n s.pl).1.drops;have h7:=zab ([]++(zae co.n s.pl).1.drops);(simp only [List.nil_append] at h7);first | omega | (refine Nat.le_trans (zab _) ?_;(simp only [List.length_append,List.nil_append,List.length_nil]);omega)))),by ((try simp only [List.length_map,List.length_append,List.length_nil,List.length_cons,Nat.zero_add,Nat.add_zero]);(first | omega | exact hS4 | (refine Nat.le_trans (za5 ..) ?_;(simp only [List.length_cons]);first | (have h8:=zac hyo now;omega) | (have h7:=zar hnl;rw [<-hx] at h7;have h8:=zac h7 now;omega)) | exact Nat.le_trans (zab _) (by (simp only [List.length_append,List.length_nil]);omega) | (have h6:=hFL s2 hp2;have h5:=zab (zae co.n s.pl).1.drops;have h7:=zab ([]++(zae co.n s.pl).1.drops);(simp only [List.nil_append] at h7);first | omega | (refine Nat.le_trans (zab _) ?_;(simp only [List.length_append,List.nil_append,List.length_nil]);omega)))),rfl,by ((try simp only [List.length_map,List.length_append,List.length_nil,List.length_cons,Nat.zero_add,Nat.add_zero]);(first | omega | exact hS4 | (refine Nat.le_trans (za5 ..) ?_;(simp only [List.length_cons]);first | (have h8:=zac hyo now;omega) | (have h7:=zar hnl;rw [<-hx] at h7;have h8:=zac h7 now;omega)) | exact Nat.le_trans (zab _) (by (simp only [List.length_append,List.length_nil]);omega) | (have h6:=hFL s2 hp2;have h5:=zab (zae co.n s.pl).1.drops;have h7:=zab ([]++(zae co.n s.pl).1.drops);(simp only [List.nil_append] at h7);first | omega | (refine Nat.le_trans (zab _) ?_;(simp only [List.length_append,List.nil_append,List.length_nil]);omega))))⟩,⟨by ((try simp only [List.length_map,List.length_append,List.length_nil,List.length_cons,Nat.zero_add,Nat.add_zero]);(first | omega | exact hS4 | (refine Nat.le_trans (za5 ..) ?_;(simp only [List.length_cons]);first | (have h8:=zac hyo now;omega) | (have h7:=zar hnl;rw [<-hx] at h7;have h8:=zac h7 now;omega)) | exact Nat.le_trans (zab _) (by (simp only [List.length_append,List.length_nil]);omega) | (have h6:=hFL s2 hp2;have h5:=zab (zae co.n s.pl).1.drops;have h7:=zab ([]++(zae co.n s.pl).1.drops);(simp only [List.nil_append] at h7);first | omega | (refine Nat.le_trans (zab _) ?_;(simp only [List.length_append,List.nil_append,List.length_nil]);omega)))),by ((try simp only [List.length_map,List.length_append,List.length_nil,List.length_cons,Nat.zero_add,Nat.add_zero]);(first | omega | exact hS4 | (refine Nat.le_trans (za5 ..) ?_;(simp only [List.length_cons]);first | (have h8:=zac hyo now;omega) | (have h7:=zar hnl;rw [<-hx] at h7;have h8:=zac h7 now;omega)) | exact Nat.le_trans (zab _) (by (simp only [List.length_append,List.length_nil]);omega) | (have h6:=hFL s2 hp2;have h5:=zab (zae co.n s.pl).1.drops;have h7:=zab ([]++(zae co.n s.pl).1.drops);(simp only [List.nil_append] at h7);first | omega | (refine Nat.le_trans (zab _) ?_;(simp only [List.length_append,List.nil_append,List.length_nil]);omega)))),by ((try simp only [List.length_map,List.length_append,List.length_nil,List.length_cons,Nat.zero_add,Nat.add_zero]);(first | omega | exact hS4 | (refine Nat.le_trans (za5 ..) ?_;(simp only [List.length_cons]);first | (have h8:=zac hyo now;omega) | (have h7:=zar hnl;rw [<-hx] at h7;have h8:=zac h7 now;omega)) | exact Nat.le_trans (zab _) (by (simp only [List.length_append,List.length_nil]);omega) | (have h6:=hFL s2 hp2;have h5:=zab (zae co.n s.pl).1.drops;have h7:=zab ([]++(zae co.n s.pl).1.drops);(simp only [List.nil_append] at h7);first | omega | (refine Nat.le_trans (zab _) ?_;(simp only [List.length_append,List.nil_append,List.length_nil]);omega)))),by ((try simp only [List.length_map,List.length_append,List.length_nil,List.length_cons,Nat.zero_add,Nat.add_zero]);(first | omega | exact hS4 | (refine Nat.le_trans (za5 ..) ?_;(simp only [List.length_cons]);first | (have h8:=zac hyo now;omega) | (have h7:=zar hnl;rw [<-hx] at h7;have h8:=zac h7 now;omega)) | exact Nat.le_trans (zab _) (by (simp only [List.length_append,List.length_nil]);omega) | (have h6:=hFL s2 hp2;have h5:=zab (zae co.n s.pl).1.drops;have h7:=zab ([]++(zae co.n s.pl).1.drops);(simp only [List.nil_append] at h7);first | omega | (refine Nat.le_trans (zab _) ?_;(simp only [List.length_append,List.nil_append,List.length_nil]);omega))))⟩,(by first | exact zg0 _ | exact zg0 []),(by first | exact zeG _ | exact zeG []),(by first | exact ze2 _ | exact ze2 [])⟩ | fail):p:=h
theorem zc4 {P Q:Prop} (q:Q) (h:Hid Q->P:=by (intro q;simp (maxSteps:=1000000) (disch:=omega) only [push_cast,↓reduceIte,reduceCtorEq,Nat.reduceAdd,Nat.reduceMul,Nat.reduceLT,Nat.reduceLeDiff,Nat.reduceEqDiff,Nat.reduceSub,Int.reduceToNat,Int.reduceLT,Int.reduceLE,Int.reduceAdd,Int.reduceSub,Int.reduceMul,Int.reduceNeg,Nat.reduceBEq,Int.reduceBEq,Int.reduceBNe,Nat.reduceBNe,Int.reduceEq,hlk,hC,hlv,hcl,hw,hpc,hpn,hwn];exact q.1)):P:=h ⟨q⟩
section
attribute [local push_cast 2000] za8 zbb zaE zaX zaF zaA zbe za9 za4 za7 zbd zaI zaC zba zaG zaw zaH zav zbc zaB zay zbf zaD zax zau zbq zb1 zbt zaZ zaM zaP Option.getD_some Option.getD_none Option.isSome_some Option.isSome_none
theorem zpk (bb:Nat) (m:Int) (T5:TypeId) (fr5:Nat×Nat) (s:BN) (cp:CP) (n now:Int) (p:Pk) (nm:YS) (F:Own):((BOK s/\BSz s.pl/\s.pl.conn n=some cp/\cp.s=none)/\(0<=n/\n<16/\p.level=4/\p.clean=false/\nm=nameM n p/\nm.length<=100000)/\(p.wtopic.length<=100000/\p.wpay.length<=100000 /\ -1000000000<=p.keep/\p.keep<=1000000000)/\(p.client=[]->p.clean=true)/\(p.hasWill=true->zbz p.wtopic=true)/\ofM nm s.pl = -1/\NoOne nm s.pl)->DC Tryz.prog 39 [.raw (.pointer (some ⟨bb,0,none⟩)), .int .i64 n, .agg [.int .i64 p.kind, .bool p.dup, .bool p.retain, .int .i64 p.qos, .int .i64 p.id, .str p.topic, .sl (p.payload.map u8), .int .i64 p.level, .str p.client, .bool p.clean, .int .i64 p.keep, .bool p.hasWill, .str p.wtopic, .sl (p.wpay.map u8), .int .i64 p.wqos, .bool p.wretain, .bool p.hasUser, .bool p.hasPass, .str p.user, .sl (p.pass.map u8), .bool p.present, .int .i64 p.code, .sl (p.subs.map encU), .sl (p.codes.map (V.int .i64))], .int .i64 now] (knP T5 fr5::loose::knF::knA::knM m::(ownB bb s++[])++F) fun d G=>∃ (w1 w2 w3 w4:Value) (s':BN) (n1 n2 n3 n4:Nat) (c1 c2 c3 c4:List V),((BOK s'/\s'.pl=(zbu n nm p now (zbs p.clean nm (zaz nm s.pl))).2)/\RowsE (zbu n nm p now (zbs p.clean nm (zaz nm s.pl))).1 n1 n2 n3 n4 c1 c2 c3 c4)/\d = .agg [.ar w1 n1, .ar w2 n2, .ar w3 n3, .ar w4 n4]/\G = .arr 4 w1 c1 :: .arr 4 w2 c2 :: .arr 1 w3 c3 :: .arr 1 w4 c4::knP T5 fr5::loose::knF::knA::knM m::(ownB bb s'++F):=by
 intro hA
 obtain ⟨⟨hB,hz,hcon,hcs⟩,⟨hn0,hn1,hlv,hcl,hnm,hnl⟩,⟨hwt,hwp,hk0,hk1⟩,hnc,hwN,hof,hno⟩:=hA
 refine DC.bodyS (n_:=140) (show Tryz.prog.funcs[39]? = some Tryz.f39 by kernel_rfl) rfl rfl (by rfl) ?_
 simp only [env0,List.append_assoc,List.cons_append,List.nil_append]
 have kw:=ksIs [0,1,2,3,6,8,9,10,11,12,13,14,15,22,34,50,58,64,79,109]
 have ow:=zaf [131]
 have dw22:=drIs 22 [10,13,16] []
 have dw24:=drIs 24 [18] [3,6,7,10,13]
 have rw_:=rsIs [.cell 8 38]
 have hlk:True:=trivial
 have hC:True:=trivial
 have hN16:0<=n/\n<16:=⟨hn0,hn1⟩
 have hsp:(p.client=[]/\35::Go.Lib.itoa n=nm/\(Go.Lib.itoa n).length<=100000)\/(p.client=nm/\(nm=[])=False/\(Go.Lib.itoa n).length=(Go.Lib.itoa n).length):=by
  unfold nameM at hnm
  by_cases h:p.client=[]
  · rw [if_pos h] at hnm
    exact .inl ⟨h,hnm.symm,by rw [hnm] at hnl;simp only [List.length_cons] at hnl;omega⟩
  · rw [if_neg h] at hnm
    exact .inr ⟨hnm.symm,by rw [hnm];exact eq_false h,rfl⟩
 rcases hsp with ⟨hpc,hpn,hil⟩ | ⟨hpc,hpn,hil⟩<;>(rcases hw:p.hasWill with _ | _)<;>(have hwn:=hwN)<;>(simp only [hw,forall_const,reduceCtorEq,false_implies,Bool.false_eq_true,true_implies] at hwn)
 repeat' (first
  | (exact absurd hb (of_eq_false hpn))
  | ((have h9:=hnc hpc);(rw [hcl] at h9);(exact Bool.noConfusion h9))
  | ((fail_if_success (have zz:=hown));(with_reducible show DW _ _ (Code.region 11 _ _) _ _ _);(refine DW.own0P 4 eb 0 (by ((with_reducible repeat (first | exact Pulled.nil | apply Pulled.cons | exact Took.here | apply Took.next | apply Took.skip | fail))<;>fail)) rfl ?_);(simp only [List.set_cons_succ,List.set_cons_zero]);(refine DW.own0P 4 eb 1 (by ((with_reducible repeat (first | exact Pulled.nil | apply Pulled.cons | exact Took.here | apply Took.next | apply Took.skip | fail))<;>fail)) rfl ?_);(simp only [List.set_cons_succ,List.set_cons_zero]);(refine DW.own0P 1 eb 2 (by ((with_reducible repeat (first | exact Pulled.nil | apply Pulled.cons | exact Took.here | apply Took.next | apply Took.skip | fail))<;>fail)) rfl ?_);(simp only [List.set_cons_succ,List.set_cons_zero]);(refine DW.own0P 1 eb 3 (by ((with_reducible repeat (first | exact Pulled.nil | apply Pulled.cons | exact Took.here | apply Took.next | apply Took.skip | fail))<;>fail)) rfl ?_);(simp only [List.set_cons_succ,List.set_cons_zero]);(have hown:True:=trivial))
  | ((fail_if_success (have zz:=hop));(with_reducible show DW _ _ (Code.region 16 _ _) _ _ _);(have hop:True:=trivial);(have hBc:BOK s:=hB);(have hnoc:NoOne nm s.pl:=hno);(have hconc:s.pl.conn n=some cp:=hcon);(have hplc:s.pl=s.pl:=rfl);(have hT9:zaz nm s.pl=(nilE,s.pl):=by unfold zaz;rw [hof];rfl);(have hX:zbs false nm (zaz nm s.pl)=(nilE,s.pl):=by unfold zbs;rw [if_neg (by decide),hT9]);(rw [hX]);(clear hX hT9);(have hBd:=hBc);(clear hBc);(obtain ⟨cm,sm,t,ts,l1,c,l2,ss,hSS,hcp,hcn,h1,h2⟩:=BOK.at hBd hconc);(have hno3:=NoOne.cs hnoc);(generalize hGB:s.pl=B3 at hplc hnoc hconc);(subst hSS);(obtain ⟨cn,cb,st,lf,bad,hd,sv,kp,cl,will,lv,wv⟩:=c);(have hcn1:n=cn:=hcn.symm);(subst hcn1);(have hsv:sv=none:=by (have:=hcs;rw [<-hcp] at this;simpa [Cn.pl] using this));(subst hsv);(have hC:=zfk (l2:=l2) h1);(simp only at hC h1 h2);(rcases hlk:lookA nm (kvS ss) with _ | yb);rotate_left;(focus ((obtain ⟨m1,y,m2,hss,hyn,hyb,k1,k2⟩:=zfC hBd.sn hlk);(simp only at hss);(subst hss);(subst hyb);(have hyo:=hBd.so y (by simp));(have hyq:=hBd.sq y (by simp));(with_reducible apply DW.toR 16);(focus ((simp only [ownB,BN.maps,zad,zah,Cn.own,Cn.cells,Cn.sv,Option.map_none,Option.map_some,List.append_assoc,List.cons_append,List.nil_append,List.append_nil]);exact SubP.refl))));rotate_left;(focus ((with_reducible apply DW.toR 16);(focus ((simp only [ownB,BN.maps,zad,zah,Cn.own,Cn.cells,Cn.sv,Option.map_none,Option.map_some,List.append_assoc,List.cons_append,List.nil_append,List.append_nil]);exact SubP.refl)))))
  | ((refine DOp.load_ rfl rfl ?_);(repeat (with_reducible first | refine OnB.here ?_ | refine OnB.next ?_ | (refine OnB.inH (by assumption) ?_;with_reducible intro C) | refine OnB.skip ?_));refine zc4 ?_)
  | ((refine DOp.look_ rfl rfl ?_);(repeat (with_reducible first | refine OnM.here ?_ | refine OnM.next ?_ | (refine OnM.inN (by assumption) ?_;with_reducible intro C hC) | (refine OnM.inK (by assumption) ?_;with_reducible intro C hC) | refine OnM.skip ?_));refine zc4 ?_)
  | ((refine DOp.upd_ rfl rfl ?_);(repeat (with_reducible first | refine OnM.here ?_ | refine OnM.next ?_ | (refine OnM.inN (by assumption) ?_;with_reducible intro C hC) | (refine OnM.inK (by assumption) ?_;with_reducible intro C hC) | refine OnM.skip ?_));refine zc4 ?_)
  | refine g_ ?_
  | ((with_reducible refine And.intro ?_ ?_);(exact zbk))
  | (refine DW.cond (by rfl) ?_ ?_<;>(first | exact i0_ | (intro hb;(try simp only [↓reduceCtorEq,not_true_eq_false,not_false_eq_true,hbs,Int.reduceBEq,Int.reduceBNe,Int.reduceEq] at hb);(try refine zc4 ?_))))
  | ((with_reducible first | refine zaa ?_ ?_ | refine zai ?_ ?_)<;>(intro hb;rw [hb];revert hb;(first | exact i0_ | (intro hb;(try simp only [↓reduceCtorEq,not_true_eq_false,not_false_eq_true,hbs,Int.reduceBEq,Int.reduceBNe,Int.reduceEq] at hb);(try refine zc4 ?_)))))
  | ((first | refine rn_ ?_ | refine dn_ ?_ | refine kn_ ?_)<;>(refine zc4 ?_))
  | ((refine dm_ ?_);(first | ((first | refine v_ (zdB _ _ _ _) ?_ (ha:=by exact zbk) (hk:=fun q=>q.1) | refine v_ (zcq _ _) ?_ (ha:=by exact zbk) (hk:=fun q=>q.1) | refine v_ (zbC _ _) ?_ (ha:=by exact zbk) (hk:=fun q=>q.1) | refine v_ (zhD _ _ _ _) ?_ (ha:=by exact zbk) (hk:=fun q=>q.1));refine zc4 ?_) | (refine DVop.look_ rfl rfl rfl rfl ?_;(repeat (with_reducible first | refine OnM.here ?_ | refine OnM.next ?_));refine zc4 ?_)))
  | ((refine von_ ?_);refine zc4 ?_)
  | ((first | (refine DOp.look_ rfl rfl ?_;(repeat (with_reducible first | refine OnM.here ?_ | refine OnM.next ?_))) | (refine DOp.upd_ rfl rfl ?_;(repeat (with_reducible first | refine OnM.here ?_ | refine OnM.next ?_))) | (refine DOp.lista_ [131] rfl rfl ?_) | (refine DOp.makea_ [131] rfl rfl rfl rfl ?_))<;>(refine zc4 ?_))
  | ((first | refine q_ (zdB _ _ _ _) ?_ (ha:=by exact zbk) (hk:=fun q=>q.1) | refine q_ (zcq _ _) ?_ (ha:=by exact zbk) (hk:=fun q=>q.1) | refine q_ (zbC _ _) ?_ (ha:=by exact zbk) (hk:=fun q=>q.1) | refine q_ (zhD _ _ _ _) ?_ (ha:=by exact zbk) (hk:=fun q=>q.1));refine zc4 ?_)
  | (refine p_ (zbY (D1:=[]) (D2:=[]) _ _ _ _ _ _ _ _ _ _ _ _ _ _ _ _ _ _) ?_ (ha:=by exact zbk);rintro d H1 ⟨w1,w2,w3,w4,rfl,rfl⟩<;>refine zc4 ?_)
  | (refine p_ (zhe _ _) ?_ (ha:=by exact zbk);rintro d H1 ⟨x,⟨hx,hx0⟩,rfl,rfl⟩<;>refine zc4 ?_)
  | (refine p_ (zp5 _ _ _) ?_ (ha:=by exact zbk);rintro d H1 ⟨x2,⟨hxo,hxa,hxb⟩,rfl,rfl⟩<;>refine zc4 ?_)
  | (refine p_ (zd8 (kind:=2) (id:=0) (pr:=false) (code:=0) (l:=zao now x.a) _ _ _ _ _) ?_ (ha:=by exact zbk);rintro d H1 ⟨rfl,rfl⟩<;>refine zc4 ?_)
  | (refine p_ (zd8 (kind:=2) (id:=0) (pr:=true) (code:=0) (l:=zao now y.a) _ _ _ _ _) ?_ (ha:=by exact zbk);rintro d H1 ⟨rfl,rfl⟩<;>refine zc4 ?_)
  | ((refine on_ ?_);refine zc4 ?_)
  | refine f_ ?_
  | refine vm_ ?_
  | ((fail_if_success (have zz:=rb));with_reducible intro rb)
  | ((fail_if_success (have zz:=eb));with_reducible intro eb)
  | ((fail_if_success (have zz:=lw));with_reducible intro lw)
  | ((fail_if_success (have zz:=av));with_reducible intro av)
  | with_reducible intro b)
 all_goals first
 | (((have hw9:p.hasWill=false:=hw);(have hyn:True:=trivial);(have hx2n:x2.a.name=nm:=by rw [hxa,zaK,hx,zc3]);(have hx2m:=hx2n);(have hkv:updA nm x.b (kvS ss)=kvS (ss++[x2]):=by (rw [zcs hlk];unfold kvS;rw [List.map_append,<-hxb,<-hx2n];rfl));(rw [hkv]);(have hO:zap nm now B3=zan 2 0 false 0::zao now x.a:=by (have h5:=zcg (s:=⟨cm,sm,t,ts,l1++(⟨n,cb,st,lf,bad,hd,none,kp,cl,will,lv,wv⟩:Cn)::l2,ss⟩) hlk;rw [hGB] at h5;unfold zap sesD;rw [h5,hx];rfl));(apply zbU (s':=(⟨cm,sm,t,ts,l1++(⟨n,cb,st,lf,bad,hd,some (nm,x2.b),p.keep,false,will,lv,wv⟩:Cn)::l2,ss++[x2]⟩:BN)));(focus ((simp only [ownB,BN.maps,zad,zbA,zcR,zaT,zbx,Cn.own,Cn.cells,Cn.sv,Option.map_some,Option.map_none,List.map_cons,List.map_nil,encM,hxb,hx2n,hyn,List.append_assoc,List.cons_append,List.nil_append,List.append_nil]);exact sub_));(focus ((show RowsE (andM nilE ⟨outM n (zap nm now B3),[],[],[]⟩) _ _ _ _ _ _ _ _);(rw [hO]);(refine RowsE.cast (RowsE.nil.and (x:=⟨outM n (zan 2 0 false 0::zao now x.a),[],[],[]⟩)) ?_ ?_ ?_ ?_ ?_ ?_ ?_ ?_<;>(first | rfl | (simp [nilE,andM,zas];done)))));(focus (exact (BOK.greet (c:=(⟨n,cb,st,lf,bad,hd,none,kp,cl,will,lv,wv⟩:Cn)) (c':=(⟨n,cb,st,lf,bad,hd,some (nm,x2.b),p.keep,false,will,lv,wv⟩:Cn)) (x:=x2) (nm:=nm) hBd hno3 (zfj hBd.sn (by rw [hx2n];exact hlk)) (zd6 (p:=fun z=>SAOK z.a/\SAQ z.a) (fun z hz=>⟨hBd.so z hz,hBd.sq z hz⟩) ⟨hxo,by rw [hxa,hx];exact (zd0 nm).resume now⟩) (fun z hz=>⟨z,List.mem_append_left _ hz,rfl,rfl⟩) rfl (CnOK.greet (hBd.co (⟨n,cb,st,lf,bad,hd,none,kp,cl,will,lv,wv⟩:Cn) (by simp)) ⟨hk0,hk1⟩ (by simp) hx2m) rfl)));(focus ((have h6:=zc1 (cm:=cm) (sm:=sm) (t:=t) (ts:=ts) (c:=(⟨n,cb,st,lf,bad,hd,none,kp,cl,will,lv,wv⟩:Cn)) (c':=(⟨n,cb,st,lf,bad,hd,some (nm,x2.b),p.keep,false,will,lv,wv⟩:Cn)) (x:=x2) (n:=n) (p:=p) (now:=now) rfl h1 h2 hlk (by rw [hxa,hx]) (by rw [zc2 hw,hcl];rfl));(rw [hGB] at h6);exact h6))))
 | (((have hw9:p.hasWill=true:=hw);(have hyn:True:=trivial);(have hx2n:x2.a.name=nm:=by rw [hxa,zaK,hx,zc3]);(have hx2m:=hx2n);(have hkv:updA nm x.b (kvS ss)=kvS (ss++[x2]):=by (rw [zcs hlk];unfold kvS;rw [List.map_append,<-hxb,<-hx2n];rfl));(rw [hkv]);(have hO:zap nm now B3=zan 2 0 false 0::zao now x.a:=by (have h5:=zcg (s:=⟨cm,sm,t,ts,l1++(⟨n,cb,st,lf,bad,hd,none,kp,cl,will,lv,wv⟩:Cn)::l2,ss⟩) hlk;rw [hGB] at h5;unfold zap sesD;rw [h5,hx];rfl));(apply zbU (s':=(⟨cm,sm,t,ts,l1++(⟨n,cb,st,lf,bad,hd,some (nm,x2.b),p.keep,false,[(⟨p.wtopic,p.wpay,p.wqos,p.wretain⟩:Mg)],lv, .sl ([(⟨p.wtopic,p.wpay,p.wqos,p.wretain⟩:Mg)].map encM)⟩:Cn)::l2,ss++[x2]⟩:BN)));(focus ((simp only [ownB,BN.maps,zad,zbA,zcR,zaT,zbx,Cn.own,Cn.cells,Cn.sv,Option.map_some,Option.map_none,List.map_cons,List.map_nil,encM,hxb,hx2n,hyn,List.append_assoc,List.cons_append,List.nil_append,List.append_nil]);exact sub_));(focus ((show RowsE (andM nilE ⟨outM n (zap nm now B3),[],[],[]⟩) _ _ _ _ _ _ _ _);(rw [hO]);(refine RowsE.cast (RowsE.nil.and (x:=⟨outM n (zan 2 0 false 0::zao now x.a),[],[],[]⟩)) ?_ ?_ ?_ ?_ ?_ ?_ ?_ ?_<;>(first | rfl | (simp [nilE,andM,zas];done)))));(focus (exact (BOK.greet (c:=(⟨n,cb,st,lf,bad,hd,none,kp,cl,will,lv,wv⟩:Cn)) (c':=(⟨n,cb,st,lf,bad,hd,some (nm,x2.b),p.keep,false,[(⟨p.wtopic,p.wpay,p.wqos,p.wretain⟩:Mg)],lv, .sl ([(⟨p.wtopic,p.wpay,p.wqos,p.wretain⟩:Mg)].map encM)⟩:Cn)) (x:=x2) (nm:=nm) hBd hno3 (zfj hBd.sn (by rw [hx2n];exact hlk)) (zd6 (p:=fun z=>SAOK z.a/\SAQ z.a) (fun z hz=>⟨hBd.so z hz,hBd.sq z hz⟩) ⟨hxo,by rw [hxa,hx];exact (zd0 nm).resume now⟩) (fun z hz=>⟨z,List.mem_append_left _ hz,rfl,rfl⟩) rfl (CnOK.greetW (hBd.co (⟨n,cb,st,lf,bad,hd,none,kp,cl,will,lv,wv⟩:Cn) (by simp)) ⟨hk0,hk1⟩ (by simp) hx2m ⟨hwt,hwp⟩) rfl)));(focus ((have h6:=zc1 (cm:=cm) (sm:=sm) (t:=t) (ts:=ts) (c:=(⟨n,cb,st,lf,bad,hd,none,kp,cl,will,lv,wv⟩:Cn)) (c':=(⟨n,cb,st,lf,bad,hd,some (nm,x2.b),p.keep,false,[(⟨p.wtopic,p.wpay,p.wqos,p.wretain⟩:Mg)],lv, .sl ([(⟨p.wtopic,p.wpay,p.wqos,p.wretain⟩:Mg)].map encM)⟩:Cn)) (x:=x2) (n:=n) (p:=p) (now:=now) rfl h1 h2 hlk (by rw [hxa,hx]) (by rw [zcv hw,hcl];rfl));(rw [hGB] at h6);exact h6))))
 | (((have hw9:p.hasWill=false:=hw);(have hx2n:x2.a.name=y.a.name:=by rw [hxa,zaK]);(have hx2m:x2.a.name=nm:=hx2n.trans hyn);(have hO:zap nm now B3=zan 2 0 true 0::zao now y.a:=by (have h5:=zd7 (s:=⟨cm,sm,t,ts,l1++(⟨n,cb,st,lf,bad,hd,none,kp,cl,will,lv,wv⟩:Cn)::l2,m1++y::m2⟩) rfl k1;rw [hGB,hyn] at h5;unfold zap sesD;rw [h5];rfl));(apply zbU (s':=(⟨cm,sm,t,ts,l1++(⟨n,cb,st,lf,bad,hd,some (nm,x2.b),p.keep,false,will,lv,wv⟩:Cn)::l2,m1++x2::m2⟩:BN)));(focus ((simp only [ownB,BN.maps,zad,zah,zaT,zbx,Cn.own,Cn.cells,Cn.sv,Option.map_some,Option.map_none,List.map_cons,List.map_nil,encM,hxb,hx2n,hyn,List.append_assoc,List.cons_append,List.nil_append,List.append_nil]);exact sub_));(focus ((show RowsE (andM nilE ⟨outM n (zap nm now B3),[],[],[]⟩) _ _ _ _ _ _ _ _);(rw [hO]);(refine RowsE.cast (RowsE.nil.and (x:=⟨outM n (zan 2 0 true 0::zao now y.a),[],[],[]⟩)) ?_ ?_ ?_ ?_ ?_ ?_ ?_ ?_<;>(first | rfl | (simp [nilE,andM,zas];done)))));(focus (exact (BOK.greet (c:=(⟨n,cb,st,lf,bad,hd,none,kp,cl,will,lv,wv⟩:Cn)) (c':=(⟨n,cb,st,lf,bad,hd,some (nm,x2.b),p.keep,false,will,lv,wv⟩:Cn)) (x:=x2) (nm:=nm) hBd hno3 (zfh hBd.sn hx2n) (zfo (p:=fun z=>SAOK z.a/\SAQ z.a) (fun z hz=>⟨hBd.so z hz,hBd.sq z hz⟩) ⟨hxo,by rw [hxa];exact hyq.resume now⟩) (zdL hx2n hxb) rfl (CnOK.greet (hBd.co (⟨n,cb,st,lf,bad,hd,none,kp,cl,will,lv,wv⟩:Cn) (by simp)) ⟨hk0,hk1⟩ (by simp) hx2m) rfl)));(focus ((have h6:=zcu (cm:=cm) (sm:=sm) (t:=t) (ts:=ts) (c:=(⟨n,cb,st,lf,bad,hd,none,kp,cl,will,lv,wv⟩:Cn)) (c':=(⟨n,cb,st,lf,bad,hd,some (nm,x2.b),p.keep,false,will,lv,wv⟩:Cn)) (x:=x2) (n:=n) (p:=p) (now:=now) rfl h1 h2 k1 k2 hxa (by rw [hyn];exact (by rw [zc2 hw,hcl];rfl)));(rw [hGB,hyn] at h6);exact h6))))
 | (((have hw9:p.hasWill=true:=hw);(have hx2n:x2.a.name=y.a.name:=by rw [hxa,zaK]);(have hx2m:x2.a.name=nm:=hx2n.trans hyn);(have hO:zap nm now B3=zan 2 0 true 0::zao now y.a:=by (have h5:=zd7 (s:=⟨cm,sm,t,ts,l1++(⟨n,cb,st,lf,bad,hd,none,kp,cl,will,lv,wv⟩:Cn)::l2,m1++y::m2⟩) rfl k1;rw [hGB,hyn] at h5;unfold zap sesD;rw [h5];rfl));(apply zbU (s':=(⟨cm,sm,t,ts,l1++(⟨n,cb,st,lf,bad,hd,some (nm,x2.b),p.keep,false,[(⟨p.wtopic,p.wpay,p.wqos,p.wretain⟩:Mg)],lv, .sl ([(⟨p.wtopic,p.wpay,p.wqos,p.wretain⟩:Mg)].map encM)⟩:Cn)::l2,m1++x2::m2⟩:BN)));(focus ((simp only [ownB,BN.maps,zad,zah,zaT,zbx,Cn.own,Cn.cells,Cn.sv,Option.map_some,Option.map_none,List.map_cons,List.map_nil,encM,hxb,hx2n,hyn,List.append_assoc,List.cons_append,List.nil_append,List.append_nil]);exact sub_));(focus ((show RowsE (andM nilE ⟨outM n (zap nm now B3),[],[],[]⟩) _ _ _ _ _ _ _ _);(rw [hO]);(refine RowsE.cast (RowsE.nil.and (x:=⟨outM n (zan 2 0 true 0::zao now y.a),[],[],[]⟩)) ?_ ?_ ?_ ?_ ?_ ?_ ?_ ?_<;>(first | rfl | (simp [nilE,andM,zas];done)))));(focus (exact (BOK.greet (c:=(⟨n,cb,st,lf,bad,hd,none,kp,cl,will,lv,wv⟩:Cn)) (c':=(⟨n,cb,st,lf,bad,hd,some (nm,x2.b),p.keep,false,[(⟨p.wtopic,p.wpay,p.wqos,p.wretain⟩:Mg)],lv, .sl ([(⟨p.wtopic,p.wpay,p.wqos,p.wretain⟩:Mg)].map encM)⟩:Cn)) (x:=x2) (nm:=nm) hBd hno3 (zfh hBd.sn hx2n) (zfo (p:=fun z=>SAOK z.a/\SAQ z.a) (fun z hz=>⟨hBd.so z hz,hBd.sq z hz⟩) ⟨hxo,by rw [hxa];exact hyq.resume now⟩) (zdL hx2n hxb) rfl (CnOK.greetW (hBd.co (⟨n,cb,st,lf,bad,hd,none,kp,cl,will,lv,wv⟩:Cn) (by simp)) ⟨hk0,hk1⟩ (by simp) hx2m ⟨hwt,hwp⟩) rfl)));(focus ((have h6:=zcu (cm:=cm) (sm:=sm) (t:=t) (ts:=ts) (c:=(⟨n,cb,st,lf,bad,hd,none,kp,cl,will,lv,wv⟩:Cn)) (c':=(⟨n,cb,st,lf,bad,hd,some (nm,x2.b),p.keep,false,[(⟨p.wtopic,p.wpay,p.wqos,p.wretain⟩:Mg)],lv, .sl ([(⟨p.wtopic,p.wpay,p.wqos,p.wretain⟩:Mg)].map encM)⟩:Cn)) (x:=x2) (n:=n) (p:=p) (now:=now) rfl h1 h2 k1 k2 hxa (by rw [hyn];exact (by rw [zcv hw,hcl];rfl)));(rw [hGB,hyn] at h6);exact h6))))
 | (trace_state;fail)
end
end
section
theorem zgW {nm:YS} {b:Br} (h:ofM nm b = -1):zaz nm b=(nilE,b):=by unfold zaz;rw [h];rfl
structure ConN (n:Int) (p:Pk):Prop where
 rng:0<=n/\n<16
 name:(nameM n p).length<=100000
 wtopic:p.wtopic.length<=100000
 wpay:p.wpay.length<=100000
 keep : -1000000000<=p.keep/\p.keep<=1000000000
attribute [local irreducible] SN.own ownT ownC ownS ownB zae zbr zak zaQ zbz zb6 zao outM zaY
attribute [local irreducible] DW SeqD DV DOp DC DVX DVJ idsF usI sortS putM zal onlyM
theorem zmV (bb:Nat) (m:Int) (T5:TypeId) (fr5:Nat×Nat) (s:BN) (cp:CP) (n now:Int) (p:Pk) (nm:YS) (F:Own):((BOK s/\BSz s.pl/\s.pl.conn n=some cp/\cp.s=none)/\ConN n p/\nm=nameM n p/\p.level=4/\(p.client=[]->p.clean=true)/\(p.hasWill=true->zbz p.wtopic=true))->DC Tryz.prog 39 [.raw (.pointer (some ⟨bb,0,none⟩)), .int .i64 n, .agg [.int .i64 p.kind, .bool p.dup, .bool p.retain, .int .i64 p.qos, .int .i64 p.id, .str p.topic, .sl (p.payload.map u8), .int .i64 p.level, .str p.client, .bool p.clean, .int .i64 p.keep, .bool p.hasWill, .str p.wtopic, .sl (p.wpay.map u8), .int .i64 p.wqos, .bool p.wretain, .bool p.hasUser, .bool p.hasPass, .str p.user, .sl (p.pass.map u8), .bool p.present, .int .i64 p.code, .sl (p.subs.map encU), .sl (p.codes.map (V.int .i64))], .int .i64 now] ((knP T5 fr5::loose::knF::knA::knM m::(ownB bb s++[]))++F) fun d G=>∃ s':BN,(BOK s'/\s'.pl=(zbu n nm p now (zbs p.clean nm (zaz nm s.pl))).2)/\d = .agg [.sl ((zbu n nm p now (zbs p.clean nm (zaz nm s.pl))).1.outs.map encOu), .sl ((zbu n nm p now (zbs p.clean nm (zaz nm s.pl))).1.pubs.map encM), .sl ((zbu n nm p now (zbs p.clean nm (zaz nm s.pl))).1.adds.map V.str), .sl ((zbu n nm p now (zbs p.clean nm (zaz nm s.pl))).1.drops.map V.str)]/\G=knP T5 fr5::loose::knF::knA::knM m::(ownB bb s'++F):=by
 rintro ⟨⟨hB,hz,hc,hs⟩,hcn,hnm,hlv,hnc,hw⟩
 have key:DC Tryz.prog 39 [.raw (.pointer (some ⟨bb,0,none⟩)), .int .i64 n, .agg [.int .i64 p.kind, .bool p.dup, .bool p.retain, .int .i64 p.qos, .int .i64 p.id, .str p.topic, .sl (p.payload.map u8), .int .i64 p.level, .str p.client, .bool p.clean, .int .i64 p.keep, .bool p.hasWill, .str p.wtopic, .sl (p.wpay.map u8), .int .i64 p.wqos, .bool p.wretain, .bool p.hasUser, .bool p.hasPass, .str p.user, .sl (p.pass.map u8), .bool p.present, .int .i64 p.code, .sl (p.subs.map encU), .sl (p.codes.map (V.int .i64))], .int .i64 now] ((knP T5 fr5::loose::knF::knA::knM m::(ownB bb s++[]))++F) fun d G=>∃ (w1 w2 w3 w4:Value) (s':BN) (n1 n2 n3 n4:Nat) (c1 c2 c3 c4:List V),((BOK s'/\s'.pl=(zbu n nm p now (zbs p.clean nm (zaz nm s.pl))).2)/\RowsE (zbu n nm p now (zbs p.clean nm (zaz nm s.pl))).1 n1 n2 n3 n4 c1 c2 c3 c4)/\d = .agg [.ar w1 n1, .ar w2 n2, .ar w3 n3, .ar w4 n4]/\G = .arr 4 w1 c1 :: .arr 4 w2 c2 :: .arr 1 w3 c3 :: .arr 1 w4 c4::knP T5 fr5::loose::knF::knA::knM m::(ownB bb s'++F):=by
  have hnl:nm.length<=100000:=by rw [hnm];exact hcn.name
  rcases znv hB nm with ⟨hof,hno⟩ | ⟨co,hco,hcon,hco0,hcos⟩
  · cases hcl:p.clean with
    | false =>
     have h1:=zpk bb m T5 fr5 s cp n now p nm F ⟨⟨hB,hz,hc,hs⟩,⟨hcn.rng.1,hcn.rng.2,hlv,hcl,hnm,hnl⟩,⟨hcn.wtopic,hcn.wpay,hcn.keep.1,hcn.keep.2⟩,hnc,hw,hof,hno⟩
     rw [hcl] at h1
     exact h1
    | true =>
     have h1:=zop bb m T5 fr5 s cp n now p nm F ⟨⟨hB,hz,hc,hs⟩,⟨hcn.rng.1,hcn.rng.2,hlv,hcl,hnm,hnl⟩,⟨hcn.wtopic,hcn.wpay,hcn.keep.1,hcn.keep.2⟩,hnc,hw,hof,hno⟩
     rw [hcl] at h1
     exact h1
  · have hne:n≠co.n:=fun e=>by
     rw [e,zjo hB hco] at hc
     cases hc
     simp only [Cn.pl] at hs
     rw [hcos] at hs;cases hs
    cases hcl:p.clean with
    | false =>
     have h1:=zo3 bb m T5 fr5 s cp n now p nm co F ⟨⟨hB,hz,hc,hs⟩,⟨hcn.rng.1,hcn.rng.2,hlv,hcl,hnm,hnl⟩,⟨hcn.wtopic,hcn.wpay,hcn.keep.1,hcn.keep.2⟩,hnc,hw,hco,hcon.symm,hco0,hne,hcos⟩
     rw [hcl] at h1
     exact h1
    | true =>
     have h1:=zow bb m T5 fr5 s cp n now p nm co F ⟨⟨hB,hz,hc,hs⟩,⟨hcn.rng.1,hcn.rng.2,hlv,hcl,hnm,hnl⟩,⟨hcn.wtopic,hcn.wpay,hcn.keep.1,hcn.keep.2⟩,hnc,hw,hco,hcon.symm,hco0,hne,hcos⟩
     rw [hcl] at h1
     exact h1
 exact DC.frzE (X:=BN) (Q:=fun s'=>BOK s'/\s'.pl=(zbu n nm p now (zbs p.clean nm (zaz nm s.pl))).2) (l1:=fun _=>(zbu n nm p now (zbs p.clean nm (zaz nm s.pl))).1.outs.map encOu) (l2:=fun _=>(zbu n nm p now (zbs p.clean nm (zaz nm s.pl))).1.pubs.map encM) (l3:=fun _=>(zbu n nm p now (zbs p.clean nm (zaz nm s.pl))).1.adds.map V.str) (l4:=fun _=>(zbu n nm p now (zbs p.clean nm (zaz nm s.pl))).1.drops.map V.str) (L:=fun s'=>knP T5 fr5::loose::knF::knA::knM m::(ownB bb s'++F))
  (fun _ j hj=>(zg0 _ j hj).1) (fun _=>mg_n _) (fun _=>st_n _) (fun _=>st_n _)
  (key.mono fun d G ⟨w1,w2,w3,w4,s',n1,n2,n3,n4,c1,c2,c3,c4,⟨hq,hr⟩,hd,hG⟩=>⟨w1,w2,w3,w4,s',hq,by rw [hd,hr.n1,hr.n2,hr.n3,hr.n4];simp only [List.length_map],by rw [hG,hr.c1,hr.c2,hr.c3,hr.c4];simp only [zb5]⟩)
theorem zgt {p:Prop} (h:p:=by first | exact sv | exact ⟨hB,⟨hcc,hccn⟩,hz⟩ | exact htl | fail):p:=h
theorem zbZ {P Q:Prop} (q:Q) (h:Hid Q->P:=by (intro q;simp (maxSteps:=1000000) (disch:=omega) only [push_cast,↓reduceIte,reduceCtorEq,Nat.reduceAdd,Nat.reduceMul,Nat.reduceLT,Nat.reduceLeDiff,Nat.reduceEqDiff,Nat.reduceSub,Int.reduceToNat,Int.reduceLT,Int.reduceLE,Int.reduceAdd,Int.reduceSub,Int.reduceMul,Int.reduceNeg,Nat.reduceBEq,Int.reduceBEq,Int.reduceBNe,Nat.reduceBNe,Int.reduceEq,hx1,hx2,hx3,hx4];exact q.1)):P:=h ⟨q⟩
theorem zoc (bb:Nat) (m:Int) (s:BN) (n now:Int) (p:Pk) (F:Own):((BOK s/\BSz s.pl/\(∃ cp,s.pl.conn n=some cp/\cp.s=none)/\ConN n p)/\p.level≠4)->DC Tryz.prog 39 [.raw (.pointer (some ⟨bb,0,none⟩)), .int .i64 n, .agg [.int .i64 p.kind, .bool p.dup, .bool p.retain, .int .i64 p.qos, .int .i64 p.id, .str p.topic, .sl (p.payload.map u8), .int .i64 p.level, .str p.client, .bool p.clean, .int .i64 p.keep, .bool p.hasWill, .str p.wtopic, .sl (p.wpay.map u8), .int .i64 p.wqos, .bool p.wretain, .bool p.hasUser, .bool p.hasPass, .str p.user, .sl (p.pass.map u8), .bool p.present, .int .i64 p.code, .sl (p.subs.map encU), .sl (p.codes.map (V.int .i64))], .int .i64 now] (loose::knF::knA::knM m::(ownB bb s++[])++F) fun d G=>∃ s':BN,(BOK s'/\s'.pl=(zaY n 1 s.pl).2)/\d = .agg [.sl ((zaY n 1 s.pl).1.outs.map encOu), .sl ((zaY n 1 s.pl).1.pubs.map encM), .sl ((zaY n 1 s.pl).1.adds.map V.str), .sl ((zaY n 1 s.pl).1.drops.map V.str)]/\G=loose::knF::knA::knM m::(ownB bb s'++F):=by
 intro hA
 obtain ⟨⟨hB,hz,⟨cp,hcp,hcs⟩,hcn⟩,hx1⟩:=hA
 refine DC.bodyS (n_:=140) (show Tryz.prog.funcs[39]? = some Tryz.f39 by kernel_rfl) rfl rfl (by rfl) ?_
 simp only [env0,List.append_assoc,List.cons_append,List.nil_append]
 have kw:=ksIs [0,1,2,3,6,8,9,10,11,12,13,14,15,22,34,50,58,64,79,109]
 have ow:=zaf []
 have dw22:=drIs 22 [10,13,16] []
 have dw24:=drIs 24 [18] [3,6,7,10,13]
 have rw_:=rsIs [.cell 8 38]
 obtain ⟨c,hcc,_,hccn⟩:=zfF hcp
 have hx2:True:=trivial
 have hx3:True:=trivial
 have hx4:True:=trivial
 repeat' (first
  | ((have zz:=hb);(exact absurd (And.intro zz hcl) hnn))
  | (exact absurd hb hx1)
  | (exact absurd hx1 hb)
  | refine g_ ?_
  | ((with_reducible refine And.intro ?_ ?_);(exact zgt))
  | (refine DW.cond (by rfl) ?_ ?_<;>(first | exact i0_ | (intro hb;(try simp only [↓reduceCtorEq,not_true_eq_false,not_false_eq_true,hbs,Int.reduceBEq,Int.reduceBNe,Int.reduceEq] at hb);(try refine zbZ ?_))))
  | ((with_reducible first | refine zaa ?_ ?_ | refine zai ?_ ?_)<;>(intro hb;rw [hb];revert hb;(first | exact i0_ | (intro hb;(try simp only [↓reduceCtorEq,not_true_eq_false,not_false_eq_true,hbs,Int.reduceBEq,Int.reduceBNe,Int.reduceEq] at hb);(try refine zbZ ?_)))))
  | ((first | refine rn_ ?_ | refine dn_ ?_ | refine kn_ ?_)<;>(refine zbZ ?_))
  | ((refine von_ ?_);refine zbZ ?_)
  | (refine p_ (ziw (c:=c) _ _ _ _ _ _) ?_ (ha:=by exact zgt);rintro d H1 ⟨s2,⟨hs2,hp2⟩,rfl,rfl⟩<;>refine zbZ ?_)
  | ((refine on_ ?_);refine zbZ ?_)
  | refine f_ ?_
  | refine vm_ ?_
  | ((fail_if_success (have zz:=rb));with_reducible intro rb)
  | with_reducible intro b)
 all_goals first
 | (((refine ⟨_,_,le.rfl_,⟨s2,⟨hs2,hp2⟩,rfl,rfl⟩,?_⟩);(exact sub_);done))
 | (trace_state;fail)
theorem zfP {p:Prop} (h:p:=by first | exact sv | exact ⟨hB,⟨hcc,hccn⟩,hz⟩ | exact htl | fail):p:=h
theorem zoH (bb:Nat) (m:Int) (s:BN) (n now:Int) (p:Pk) (F:Own):((BOK s/\BSz s.pl/\(∃ cp,s.pl.conn n=some cp/\cp.s=none)/\ConN n p)/\p.level=4/\p.client=[]/\p.clean=false)->DC Tryz.prog 39 [.raw (.pointer (some ⟨bb,0,none⟩)), .int .i64 n, .agg [.int .i64 p.kind, .bool p.dup, .bool p.retain, .int .i64 p.qos, .int .i64 p.id, .str p.topic, .sl (p.payload.map u8), .int .i64 p.level, .str p.client, .bool p.clean, .int .i64 p.keep, .bool p.hasWill, .str p.wtopic, .sl (p.wpay.map u8), .int .i64 p.wqos, .bool p.wretain, .bool p.hasUser, .bool p.hasPass, .str p.user, .sl (p.pass.map u8), .bool p.present, .int .i64 p.code, .sl (p.subs.map encU), .sl (p.codes.map (V.int .i64))], .int .i64 now] (loose::knF::knA::knM m::(ownB bb s++[])++F) fun d G=>∃ s':BN,(BOK s'/\s'.pl=(zaY n 2 s.pl).2)/\d = .agg [.sl ((zaY n 2 s.pl).1.outs.map encOu), .sl ((zaY n 2 s.pl).1.pubs.map encM), .sl ((zaY n 2 s.pl).1.adds.map V.str), .sl ((zaY n 2 s.pl).1.drops.map V.str)]/\G=loose::knF::knA::knM m::(ownB bb s'++F):=by
 intro hA
 obtain ⟨⟨hB,hz,⟨cp,hcp,hcs⟩,hcn⟩,hx1,hx2,hx3⟩:=hA
 refine DC.bodyS (n_:=140) (show Tryz.prog.funcs[39]? = some Tryz.f39 by kernel_rfl) rfl rfl (by rfl) ?_
 simp only [env0,List.append_assoc,List.cons_append,List.nil_append]
 have kw:=ksIs [0,1,2,3,6,8,9,10,11,12,13,14,15,22,34,50,58,64,79,109]
 have ow:=zaf []
 have dw22:=drIs 22 [10,13,16] []
 have dw24:=drIs 24 [18] [3,6,7,10,13]
 have rw_:=rsIs [.cell 8 38]
 obtain ⟨c,hcc,_,hccn⟩:=zfF hcp
 have hx4:True:=trivial
 repeat' (first
  | ((have zz:=hb);(exact absurd (And.intro zz hcl) hnn))
  | (exact absurd hb hx1)
  | (exact absurd hx1 hb)
  | refine g_ ?_
  | ((with_reducible refine And.intro ?_ ?_);(exact zfP))
  | (refine DW.cond (by rfl) ?_ ?_<;>(first | exact i0_ | (intro hb;(try simp only [↓reduceCtorEq,not_true_eq_false,not_false_eq_true,hbs,Int.reduceBEq,Int.reduceBNe,Int.reduceEq] at hb);(try refine zbZ ?_))))
  | ((with_reducible first | refine zaa ?_ ?_ | refine zai ?_ ?_)<;>(intro hb;rw [hb];revert hb;(first | exact i0_ | (intro hb;(try simp only [↓reduceCtorEq,not_true_eq_false,not_false_eq_true,hbs,Int.reduceBEq,Int.reduceBNe,Int.reduceEq] at hb);(try refine zbZ ?_)))))
  | ((first | refine rn_ ?_ | refine dn_ ?_ | refine kn_ ?_)<;>(refine zbZ ?_))
  | ((refine von_ ?_);refine zbZ ?_)
  | (refine p_ (ziw (c:=c) _ _ _ _ _ _) ?_ (ha:=by exact zfP);rintro d H1 ⟨s2,⟨hs2,hp2⟩,rfl,rfl⟩<;>refine zbZ ?_)
  | ((refine on_ ?_);refine zbZ ?_)
  | refine f_ ?_
  | refine vm_ ?_
  | ((fail_if_success (have zz:=rb));with_reducible intro rb)
  | with_reducible intro b)
 all_goals first
 | (((refine ⟨_,_,le.rfl_,⟨s2,⟨hs2,hp2⟩,rfl,rfl⟩,?_⟩);(exact sub_);done))
 | (trace_state;fail)
theorem zdv {p:Prop} (h:p:=by first | exact sv | exact ⟨hB,⟨hcc,hccn⟩,hz⟩ | exact htl | fail):p:=h
theorem zoP (bb:Nat) (m:Int) (s:BN) (n now:Int) (p:Pk) (F:Own):((BOK s/\BSz s.pl/\(∃ cp,s.pl.conn n=some cp/\cp.s=none)/\ConN n p)/\p.level=4/\¬(p.client=[]/\p.clean=false)/\p.hasWill=true/\zbz p.wtopic=false)->DC Tryz.prog 39 [.raw (.pointer (some ⟨bb,0,none⟩)), .int .i64 n, .agg [.int .i64 p.kind, .bool p.dup, .bool p.retain, .int .i64 p.qos, .int .i64 p.id, .str p.topic, .sl (p.payload.map u8), .int .i64 p.level, .str p.client, .bool p.clean, .int .i64 p.keep, .bool p.hasWill, .str p.wtopic, .sl (p.wpay.map u8), .int .i64 p.wqos, .bool p.wretain, .bool p.hasUser, .bool p.hasPass, .str p.user, .sl (p.pass.map u8), .bool p.present, .int .i64 p.code, .sl (p.subs.map encU), .sl (p.codes.map (V.int .i64))], .int .i64 now] (loose::knF::knA::knM m::(ownB bb s++[])++F) fun d G=>∃ s':BN,(BOK s'/\s'.pl=(zae n s.pl).2)/\d = .agg [.sl ((zae n s.pl).1.outs.map encOu), .sl ((zae n s.pl).1.pubs.map encM), .sl ((zae n s.pl).1.adds.map V.str), .sl ((zae n s.pl).1.drops.map V.str)]/\G=loose::knF::knA::knM m::(ownB bb s'++F):=by
 intro hA
 obtain ⟨⟨hB,hz,⟨cp,hcp,hcs⟩,hcn⟩,hx1,hnn,hx3,hx4⟩:=hA
 refine DC.bodyS (n_:=140) (show Tryz.prog.funcs[39]? = some Tryz.f39 by kernel_rfl) rfl rfl (by rfl) ?_
 simp only [env0,List.append_assoc,List.cons_append,List.nil_append]
 have kw:=ksIs [0,1,2,3,6,8,9,10,11,12,13,14,15,22,34,50,58,64,79,109]
 have ow:=zaf []
 have dw22:=drIs 22 [10,13,16] []
 have dw24:=drIs 24 [18] [3,6,7,10,13]
 have rw_:=rsIs [.cell 8 38]
 obtain ⟨c,hcc,_,hccn⟩:=zfF hcp
 have hx2:True:=trivial
 have htl:p.wtopic.length<=1000000000:=by have:=hcn.wtopic;omega
 rcases hcl:p.clean with _ | _
 repeat' (first
  | ((have zz:=hb);(exact absurd (And.intro zz hcl) hnn))
  | (exact absurd hb hx1)
  | (exact absurd hx1 hb)
  | refine g_ ?_
  | ((with_reducible refine And.intro ?_ ?_);(exact zdv))
  | (refine DW.cond (by rfl) ?_ ?_<;>(first | exact i0_ | (intro hb;(try simp only [↓reduceCtorEq,not_true_eq_false,not_false_eq_true,hbs,Int.reduceBEq,Int.reduceBNe,Int.reduceEq] at hb);(try refine zbZ ?_))))
  | ((with_reducible first | refine zaa ?_ ?_ | refine zai ?_ ?_)<;>(intro hb;rw [hb];revert hb;(first | exact i0_ | (intro hb;(try simp only [↓reduceCtorEq,not_true_eq_false,not_false_eq_true,hbs,Int.reduceBEq,Int.reduceBNe,Int.reduceEq] at hb);(try refine zbZ ?_)))))
  | ((first | refine rn_ ?_ | refine dn_ ?_ | refine kn_ ?_)<;>(refine zbZ ?_))
  | ((refine dm_ ?_);(first | (refine v_ (zcq _ _) ?_ (ha:=by exact zdv) (hk:=fun q=>q.1);refine zbZ ?_)))
  | ((refine von_ ?_);refine zbZ ?_)
  | (refine p_ (ze3 (c:=c) _ _ _ _ _) ?_ (ha:=by exact zdv);rintro d H1 ⟨s2,⟨hs2,hp2⟩,rfl,rfl⟩<;>refine zbZ ?_)
  | (refine q_ (zcq _ _) ?_ (ha:=by exact zdv) (hk:=fun q=>q.1);refine zbZ ?_)
  | ((refine on_ ?_);refine zbZ ?_)
  | refine f_ ?_
  | refine vm_ ?_
  | ((fail_if_success (have zz:=rb));with_reducible intro rb)
  | with_reducible intro b)
 all_goals first
 | (((refine ⟨_,_,le.rfl_,⟨s2,⟨hs2,hp2⟩,rfl,rfl⟩,?_⟩);(exact sub_);done))
 | (trace_state;fail)
end
section
attribute [local irreducible] SN.own ownT ownC ownS ownB zae zbr zak zaQ zbz zb6 zao outM zaY zbu
attribute [local irreducible] DW SeqD DV DOp DC DVX DVJ idsF usI sortS putM zal onlyM
theorem zkR (bb:Nat) (m:Int) (T5:TypeId) (fr5:Nat×Nat) (s:BN) (n now:Int) (p:Pk) (F:Own):(BOK s/\BSz s.pl/\(∃ cp,s.pl.conn n=some cp/\cp.s=none)/\ConN n p)->DC Tryz.prog 39 [.raw (.pointer (some ⟨bb,0,none⟩)), .int .i64 n, .agg [.int .i64 p.kind, .bool p.dup, .bool p.retain, .int .i64 p.qos, .int .i64 p.id, .str p.topic, .sl (p.payload.map u8), .int .i64 p.level, .str p.client, .bool p.clean, .int .i64 p.keep, .bool p.hasWill, .str p.wtopic, .sl (p.wpay.map u8), .int .i64 p.wqos, .bool p.wretain, .bool p.hasUser, .bool p.hasPass, .str p.user, .sl (p.pass.map u8), .bool p.present, .int .i64 p.code, .sl (p.subs.map encU), .sl (p.codes.map (V.int .i64))], .int .i64 now] ((knP T5 fr5::loose::knF::knA::knM m::(ownB bb s++[]))++F) fun d G=>∃ s':BN,(BOK s'/\s'.pl=(zat n p now s.pl).2)/\d = .agg [.sl ((zat n p now s.pl).1.outs.map encOu), .sl ((zat n p now s.pl).1.pubs.map encM), .sl ((zat n p now s.pl).1.adds.map V.str), .sl ((zat n p now s.pl).1.drops.map V.str)]/\G=knP T5 fr5::loose::knF::knA::knM m::(ownB bb s'++F):=by
 intro h
 have hall:=h
 obtain ⟨hB,hz,⟨cp,hc,hs⟩,hcn⟩:=h
 by_cases h1:p.level=4
 · by_cases h2:p.client=[]/\p.clean=false
   · have e1:zat n p now s.pl=zaY n 2 s.pl:=by unfold zat;rw [if_neg (by rw [h1];decide),if_pos h2]
     rw [e1]
     refine DC.conv (zoH bb m s n now p (knP T5 fr5::F) ⟨hall,h1,h2⟩) (by (try simp only [List.append_assoc,List.cons_append,List.nil_append]);exact sub_) ?_
     rintro d G ⟨s',hq,rfl,rfl⟩
     exact ⟨_,_,le.rfl_,⟨s',hq,rfl,rfl⟩,by (try simp only [List.append_assoc,List.cons_append,List.nil_append]);exact sub_⟩
   · by_cases h3:p.hasWill=true/\zbz p.wtopic=false
     · have e1:zat n p now s.pl=zae n s.pl:=by unfold zat;rw [if_neg (by rw [h1];decide),if_neg h2,if_pos h3]
       rw [e1]
       refine DC.conv (zoP bb m s n now p (knP T5 fr5::F) ⟨hall,h1,h2,h3⟩) (by (try simp only [List.append_assoc,List.cons_append,List.nil_append]);exact sub_) ?_
       rintro d G ⟨s',hq,rfl,rfl⟩
       exact ⟨_,_,le.rfl_,⟨s',hq,rfl,rfl⟩,by (try simp only [List.append_assoc,List.cons_append,List.nil_append]);exact sub_⟩
     · have e1:zat n p now s.pl=zbu n (nameM n p) p now (zbs p.clean (nameM n p) (zaz (nameM n p) s.pl)):=by unfold zat;rw [if_neg (by rw [h1];decide),if_neg h2,if_neg h3]
       rw [e1]
       refine zmV bb m T5 fr5 s cp n now p (nameM n p) F ⟨⟨hB,hz,hc,hs⟩,hcn,rfl,h1,fun h=>?_,fun h=>?_⟩
       · cases hcl:p.clean with
         | true=>rfl
         | false=>exact absurd ⟨h,hcl⟩ h2
       · cases hw:zbz p.wtopic with
         | true=>rfl
         | false=>exact absurd ⟨h,hw⟩ h3
 · have e1:zat n p now s.pl=zaY n 1 s.pl:=by unfold zat;rw [if_pos h1]
   rw [e1]
   refine DC.conv (zoc bb m s n now p (knP T5 fr5::F) ⟨hall,h1⟩) (by (try simp only [List.append_assoc,List.cons_append,List.nil_append]);exact sub_) ?_
   rintro d G ⟨s',hq,rfl,rfl⟩
   exact ⟨_,_,le.rfl_,⟨s',hq,rfl,rfl⟩,by (try simp only [List.append_assoc,List.cons_append,List.nil_append]);exact sub_⟩
attribute [local irreducible] zat
theorem zcC {p:Prop} (h:p:=by first | exact sv | exact hall | fail):p:=h
theorem zdz {P Q:Prop} (q:Q) (h:Hid Q->P:=by (intro q;simp (maxSteps:=1000000) (disch:=omega) only [push_cast,↓reduceIte,reduceCtorEq,Nat.reduceAdd,Nat.reduceMul,Nat.reduceLT,Nat.reduceLeDiff,Nat.reduceEqDiff,Nat.reduceSub,Int.reduceToNat,Int.reduceLT,Int.reduceLE,Int.reduceAdd,Int.reduceSub,Int.reduceMul,Int.reduceNeg,Nat.reduceBEq,Int.reduceBEq,Int.reduceBNe,Nat.reduceBNe,Int.reduceEq,hlk,hC];exact q.1)):P:=h ⟨q⟩
section
attribute [local push_cast 2000] za8 zbb zaE zaX zaF zaA zbe za9 za4 za7 zbd zaI zaC zba zaG zaw zaH zav zbc zaB zay zbf zaD zax zau zbq zb1 zbt zaZ zaM zaP Option.getD_some Option.getD_none Option.isSome_some Option.isSome_none
theorem zli (bb:Nat) (m:Int) (T5:TypeId) (fr5:Nat×Nat) (cm sm t:Nat) (ts:TS) (l1 l2:List Cn) (ss:List SN) (n now:Int) (cb st:Nat) (left:YS) (bad hd kp:Int) (cl:Bool) (will:List Mg) (lv wv:V) (p:Pk) (T1 T2 T3 T4:List V) (F:Own):((BOK (⟨cm,sm,t,ts,l1++(⟨n,cb,st,left,bad,zbm now,none,kp,cl,will,lv,wv⟩:Cn)::l2,ss⟩:BN)/\BSz (⟨cm,sm,t,ts,l1++(⟨n,cb,st,left,bad,zbm now,none,kp,cl,will,lv,wv⟩:Cn)::l2,ss⟩:BN).pl/\(∃ cp,(⟨cm,sm,t,ts,l1++(⟨n,cb,st,left,bad,zbm now,none,kp,cl,will,lv,wv⟩:Cn)::l2,ss⟩:BN).pl.conn n=some cp/\cp.s=none)/\ConN n p)/\lookA n (kvC l1++(n,cb)::kvC l2)=some cb/\p.kind=1)->DC Tryz.prog 14 [.raw (.pointer (some ⟨bb,0,none⟩)), .int .i64 n, .agg [.int .i64 p.kind, .bool p.dup, .bool p.retain, .int .i64 p.qos, .int .i64 p.id, .str p.topic, .sl (p.payload.map u8), .int .i64 p.level, .str p.client, .bool p.clean, .int .i64 p.keep, .bool p.hasWill, .str p.wtopic, .sl (p.wpay.map u8), .int .i64 p.wqos, .bool p.wretain, .bool p.hasUser, .bool p.hasPass, .str p.user, .sl (p.pass.map u8), .bool p.present, .int .i64 p.code, .sl (p.subs.map encU), .sl (p.codes.map (V.int .i64))], .int .i64 now, .agg [.sl T1, .sl T2, .sl T3, .sl T4]] (knP T5 fr5::loose::knF::knA::knM m :: .blk bb [.raw (.map (some cm)), .raw (.map (some sm)), .raw (.pointer (some ⟨t,0,none⟩))] :: .map cm (entM (V.int .i64) pv (kvC l1++(n,cb)::kvC l2)) :: .blk cb [.raw (.pointer (some ⟨st,0,none⟩)), .int .i64 hd, .raw (.pointer none), .int .i64 kp, .bool cl,wv] :: .map sm (entM V.str pv (kvS ss)) :: .blk st [lv, .int .i64 bad]::(ownC l1++(ownC l2++(ownS ss++(ownT t ts++[]))))++F) fun d G=>∃ s':BN,(BOK s'/\s'.pl=(zat n p now (⟨cm,sm,t,ts,l1++(⟨n,cb,st,left,bad,zbm now,none,kp,cl,will,lv,wv⟩:Cn)::l2,ss⟩:BN).pl).2)/\d = .tup [zcM (zat n p now (⟨cm,sm,t,ts,l1++(⟨n,cb,st,left,bad,zbm now,none,kp,cl,will,lv,wv⟩:Cn)::l2,ss⟩:BN).pl).1, .int .i64 0]/\G=knP T5 fr5::loose::knF::knA::knM m::(ownB bb s'++F):=by
 intro hA
 obtain ⟨hall,hlk,hk1⟩:=hA
 refine DC.bodyS (n_:=114) (show Tryz.prog.funcs[14]? = some Tryz.f14 by kernel_rfl) rfl rfl (by rfl) ?_
 simp only [env0,List.append_assoc,List.cons_append,List.nil_append]
 have kw:=ksIs [0,1,2,3,4,7,9,10,11,12,14,22,37,42,43,50,56,71,85,93,99,106]
 have ow:=zaf []
 have dw5:=drIs 5 [] [3,6]
 have dw13:=drIs 13 [] [3,4,5]
 have dw18:=drIs 18 [10] [4,5,7,8]
 have rw_:=rsIs [.cell 10 38, .tmp 11]
 have hC:True:=trivial
 repeat' (first
  | ((fail_if_success (have zz:=hto));(with_reducible refine DW.toR 9 (G:=.blk rb [.gs (.slice none 0 0) [], .gs (.slice none 0 0) [], .gs (.slice none 0 0) [], .gs (.slice none 0 0) []]::knP T5 fr5::loose::knF::knA::knM m::(ownB bb (⟨cm,sm,t,ts,l1++(⟨n,cb,st,left,bad,zbm now,none,kp,cl,will,lv,wv⟩:Cn)::l2,ss⟩:BN)++F)) ?_ ?_);(focus ((simp only [ownB,BN.maps,zad,zaT,Cn.own,Cn.cells,Cn.sv,Option.map_none,Option.map_some,List.append_assoc,List.cons_append,List.nil_append,List.append_nil]);exact sub_));(have hto:True:=trivial))
  | ((refine DOp.load_ rfl rfl ?_);(repeat (with_reducible first | refine OnB.here ?_ | refine OnB.next ?_ | (refine OnB.inH (by assumption) ?_;with_reducible intro C) | refine OnB.skip ?_));refine zdz ?_)
  | ((refine DOp.look_ rfl rfl ?_);(repeat (with_reducible first | refine OnM.here ?_ | refine OnM.next ?_ | (refine OnM.inN (by assumption) ?_;with_reducible intro C hC) | (refine OnM.inK (by assumption) ?_;with_reducible intro C hC) | refine OnM.skip ?_));refine zdz ?_)
  | refine g_ ?_
  | ((with_reducible refine And.intro ?_ ?_);(exact zcC))
  | (refine DW.cond (by rfl) ?_ ?_<;>(first | exact i0_ | (intro hb;(try simp only [↓reduceCtorEq,not_true_eq_false,not_false_eq_true,hbs,Int.reduceBEq,Int.reduceBNe,Int.reduceEq] at hb);(try refine zdz ?_))))
  | ((with_reducible first | refine zaa ?_ ?_ | refine zai ?_ ?_)<;>(intro hb;rw [hb];revert hb;(first | exact i0_ | (intro hb;(try simp only [↓reduceCtorEq,not_true_eq_false,not_false_eq_true,hbs,Int.reduceBEq,Int.reduceBNe,Int.reduceEq] at hb);(try refine zdz ?_)))))
  | ((first | refine rn_ ?_ | refine dn_ ?_ | refine kn_ ?_)<;>(refine zdz ?_))
  | ((refine dm_ ?_);(first | (refine v_ (zeA _ _) ?_ (ha:=by exact zcC) (hk:=fun q=>q.1);refine zdz ?_) | (refine DVop.look_ rfl rfl rfl rfl ?_;(repeat (with_reducible first | refine OnM.here ?_ | refine OnM.next ?_));refine zdz ?_)))
  | ((refine von_ ?_);refine zdz ?_)
  | ((first | (refine DOp.look_ rfl rfl ?_;(repeat (with_reducible first | refine OnM.here ?_ | refine OnM.next ?_))))<;>(refine zdz ?_))
  | (refine q_ (zeA _ _) ?_ (ha:=by exact zcC) (hk:=fun q=>q.1);refine zdz ?_)
  | (refine p_ (zkR (s:=(⟨cm,sm,t,ts,l1++(⟨n,cb,st,left,bad,zbm now,none,kp,cl,will,lv,wv⟩:Cn)::l2,ss⟩:BN)) (p:=p) _ _ _ _ _ _ _) ?_ (ha:=by exact zcC);rintro d H1 ⟨s2,⟨hs2,hp2⟩,rfl,rfl⟩<;>refine zdz ?_)
  | ((refine on_ ?_);refine zdz ?_)
  | refine f_ ?_
  | refine vm_ ?_
  | ((fail_if_success (have zz:=rb));with_reducible intro rb)
  | with_reducible intro b)
 all_goals first
 | (((with_reducible refine kill_ ?_);omega))
 | (((refine ⟨_,_,le.rfl_,⟨s2,⟨hs2,hp2⟩,rfl,rfl⟩,?_⟩);(exact sub_);done))
 | (trace_state;fail)
end
theorem zkS (n now:Int) (b:Br):(zcV n now b).conn n=(b.conn n).map fun c=>{ c with heard:=zbm now }:=by
 unfold zcV Br.conn
 simp only
 induction b.conns with
 | nil=>rfl
 | cons c l ih =>
  rw [List.map_cons]
  by_cases h:c.n=n
  · rw [if_pos h,List.find?_cons_of_pos (by simp [h]),List.find?_cons_of_pos (by simp [h])];rfl
  · rw [if_neg h,List.find?_cons_of_neg (by simp [h]),List.find?_cons_of_neg (by simp [h]),ih]
theorem zfE (bb:Nat) (m:Int) (T5:TypeId) (fr5:Nat×Nat) (s:BN) (n now:Int) (p:Pk) (T1 T2 T3 T4:List V) (F:Own):(BOK s/\BSz s.pl/\(∃ cp,s.pl.conn n=some cp/\cp.s=none)/\ConN n p/\p.kind=1)->DC Tryz.prog 14 [.raw (.pointer (some ⟨bb,0,none⟩)), .int .i64 n, .agg [.int .i64 p.kind, .bool p.dup, .bool p.retain, .int .i64 p.qos, .int .i64 p.id, .str p.topic, .sl (p.payload.map u8), .int .i64 p.level, .str p.client, .bool p.clean, .int .i64 p.keep, .bool p.hasWill, .str p.wtopic, .sl (p.wpay.map u8), .int .i64 p.wqos, .bool p.wretain, .bool p.hasUser, .bool p.hasPass, .str p.user, .sl (p.pass.map u8), .bool p.present, .int .i64 p.code, .sl (p.subs.map encU), .sl (p.codes.map (V.int .i64))], .int .i64 now, .agg [.sl T1, .sl T2, .sl T3, .sl T4]] ((knP T5 fr5::loose::knF::knA::knM m::(ownB bb s++[]))++F) fun d G=>∃ s':BN,(BOK s'/\s'.pl=(zat n p now (zcV n now s.pl)).2)/\d = .tup [zcM (zat n p now (zcV n now s.pl)).1, .int .i64 0]/\G=knP T5 fr5::loose::knF::knA::knM m::(ownB bb s'++F):=by
 rintro ⟨h,hz,⟨cp,hc,hs⟩,hcon,hk⟩
 have hc0:=hc
 obtain ⟨cm,sm,t,ts,l1,c,l2,ss,rfl,rfl,hcn,h1,h2⟩:=h.at hc
 obtain ⟨cn,cb,st,left,bad,hd,sv,kp,cl,will,lv,wv⟩:=c
 have hcn1:n=cn:=hcn.symm
 subst hcn1
 cases sv with
 | some e=>simp [Cn.pl] at hs
 | none =>
  have hlk:lookA n (kvC l1++(n,cb)::kvC l2)=some cb:=by have:=zfk (l2:=l2) h1;rwa [zaT] at this
  have hp:BN.pl ⟨cm,sm,t,ts,l1++(⟨n,cb,st,left,bad,zbm now,none,kp,cl,will,lv,wv⟩:Cn)::l2,ss⟩=zcV n now (BN.pl ⟨cm,sm,t,ts,l1++(⟨n,cb,st,left,bad,hd,none,kp,cl,will,lv,wv⟩:Cn)::l2,ss⟩):=zk5 (c:=(⟨n,cb,st,left,bad,hd,none,kp,cl,will,lv,wv⟩:Cn)) now h1 h2
  refine DC.conv (zli bb m T5 fr5 cm sm t ts l1 l2 ss n now cb st left bad hd kp cl will lv wv p T1 T2 T3 T4 F ⟨⟨h.heard now,by rw [hp];exact hz.heard _ _,⟨_,by rw [hp,zkS,hc0];rfl,rfl⟩,hcon⟩,hlk,hk⟩) (by (simp only [ownB,BN.maps,zad,zaT,Cn.own,Cn.cells,Cn.sv,Option.map_none,Option.map_some,List.append_assoc,List.cons_append,List.nil_append,List.append_nil]);exact sub_) ?_
  rintro d G ⟨s',⟨hs',hp'⟩,rfl,rfl⟩
  exact ⟨_,_,le.rfl_,⟨s',⟨hs',by rw [hp',hp]⟩,by rw [hp],rfl⟩,sub_⟩
end
end Go.Proofs.YtgekknefphagbaaGreatDoor
