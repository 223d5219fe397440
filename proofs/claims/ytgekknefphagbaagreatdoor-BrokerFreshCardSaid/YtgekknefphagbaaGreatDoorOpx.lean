/- The broker: a ping; a client that says that it goes. -/
import Derived.Test.YtgekknefphagbaaGreatDoorOlx
import Derived.KernelRfl
namespace Go.Proofs.YtgekknefphagbaaGreatDoor
open Go.RowKit
set_option linter.unusedSimpArgs false
set_option linter.unusedVariables false
set_option linter.unusedSectionVars false
set_option maxHeartbeats 4000000
set_option maxRecDepth 100000
section
theorem zmR:SendK (zan 13 0 false 0):=⟨zjt _ _ _ _,by show (13:Int)=2\/_;simp [zan],by first | rfl | (unfold onlyM zan;simp)⟩
attribute [local irreducible] SN.own ownT ownC ownS zae za8 zaR zbD
attribute [local irreducible] DW SeqD DV DOp DC DVX DVJ idsF usI sortS putM zay onlyM
theorem zca {p:Prop} (h:p:=by first | exact sv | exact zmR | fail):p:=h
theorem zcL {P Q:Prop} (q:Q) (h:Hid Q->P:=by (intro q;simp (maxSteps:=1000000) (disch:=omega) only [push_cast,↓reduceIte,reduceCtorEq,Nat.reduceAdd,Nat.reduceMul,Nat.reduceLT,Nat.reduceLeDiff,Nat.reduceEqDiff,Nat.reduceSub,Int.reduceToNat,Int.reduceLT,Int.reduceLE,Int.reduceAdd,Int.reduceSub,Int.reduceMul,Int.reduceNeg,Nat.reduceBEq,Int.reduceBEq,Int.reduceBNe,Nat.reduceBNe,Int.reduceEq,hlk,hC];exact q.1)):P:=h ⟨q⟩
attribute [local push_cast 2000] zaK zbd zaI zaV zaA zaD zbe zaF za6 za7 zba zaH zaG zbb zaC za1 zaJ zaz zbc zaE za0 zaZ zaB zax za2 zbn zb1 zbl zaY zaM zaL Option.getD_some Option.getD_none Option.isSome_some Option.isSome_none
section
theorem zju (bb:Nat) (m:Int) (cm sm t:Nat) (ts:TS) (l1 l2:List Cn) (ss:List SN) (n now:Int) (cb st:Nat) (left:YS) (bad hd kp:Int) (cl:Bool) (will:List Mg) (lv wv:V) (xn:YS) (xb:Nat) (p:Pk) (T1 T2 T3 T4:List V) (F:Own):(lookA n (kvC l1++(n,cb)::kvC l2)=some cb/\p.kind=12)->DC Tryz.prog 14 [.raw (.pointer (some ⟨bb,0,none⟩)), .int .i64 n, .agg [.int .i64 p.kind, .bool p.dup, .bool p.retain, .int .i64 p.qos, .int .i64 p.id, .str p.topic, .sl (p.payload.map u8), .int .i64 p.level, .str p.client, .bool p.clean, .int .i64 p.keep, .bool p.hasWill, .str p.wtopic, .sl (p.wpay.map u8), .int .i64 p.wqos, .bool p.wretain, .bool p.hasUser, .bool p.hasPass, .str p.user, .sl (p.pass.map u8), .bool p.present, .int .i64 p.code, .sl (p.subs.map encU), .sl (p.codes.map (V.int .i64))], .int .i64 now, .agg [.sl T1, .sl T2, .sl T3, .sl T4]] (loose::knF::knA::knM m :: .blk bb [.raw (.map (some cm)), .raw (.map (some sm)), .raw (.pointer (some ⟨t,0,none⟩))] :: .map cm (entM (V.int .i64) pv (kvC l1++(n,cb)::kvC l2)) :: .blk cb [.raw (.pointer (some ⟨st,0,none⟩)), .int .i64 hd, .raw (.pointer (some ⟨xb,0,none⟩)), .int .i64 kp, .bool cl,wv] :: .map sm (entM V.str pv (kvS ss)) :: .blk st [lv, .int .i64 bad]::(ownC l1++(ownC l2++(ownS ss++(ownT t ts++[]))))++F) fun d G=>d = .tup [zb8 (⟨outM n [zan 13 0 false 0],[],[],[]⟩:Ef), .int .i64 0]/\G=loose::knF::knA::knM m::(ownB bb (⟨cm,sm,t,ts,l1++(⟨n,cb,st,left,bad,zal now,some (xn,xb),kp,cl,will,lv,wv⟩:Cn)::l2,ss⟩:BN)++F):=by
 intro hA
 obtain ⟨hlk,hC⟩:=hA
 refine DC.bodyS (n_:=114) (show Tryz.prog.funcs[14]? = some Tryz.f14 by kernel_rfl) rfl rfl (by rfl) ?_
 simp only [env0,List.append_assoc,List.cons_append,List.nil_append]
 have kw:=ksIs [0,1,2,3,4,7,9,10,11,12,14,22,37,42,43,50,56,71,85,93,99,106]
 have ow:=zai []
 have dw5:=drIs 5 [] [3,6]
 have dw13:=drIs 13 [] [3,4,5]
 have dw18:=drIs 18 [10] [4,5,7,8]
 have rw_:=rsIs [.cell 10 38, .tmp 11]
 repeat' (first
  | ((refine DOp.load_ rfl rfl ?_);(repeat (with_reducible first | refine OnB.here ?_ | refine OnB.next ?_ | (refine OnB.inH (by assumption) ?_;with_reducible intro C) | refine OnB.skip ?_));refine zcL ?_)
  | ((refine DOp.look_ rfl rfl ?_);(repeat (with_reducible first | refine OnM.here ?_ | refine OnM.next ?_ | (refine OnM.inN (by assumption) ?_;with_reducible intro C hC) | (refine OnM.inK (by assumption) ?_;with_reducible intro C hC) | refine OnM.skip ?_));refine zcL ?_)
  | refine g_ ?_
  | ((with_reducible refine And.intro ?_ ?_);(exact zca))
  | (refine DW.cond (by rfl) ?_ ?_<;>(first | exact i0_ | (intro hb;(try simp only [↓reduceCtorEq,not_true_eq_false,not_false_eq_true,hbs,Int.reduceBEq,Int.reduceBNe,Int.reduceEq] at hb);(try refine zcL ?_))))
  | ((with_reducible first | refine zaa ?_ ?_ | refine zak ?_ ?_)<;>(intro hb;rw [hb];revert hb;(first | exact i0_ | (intro hb;(try simp only [↓reduceCtorEq,not_true_eq_false,not_false_eq_true,hbs,Int.reduceBEq,Int.reduceBNe,Int.reduceEq] at hb);(try refine zcL ?_)))))
  | ((first | refine rn_ ?_ | refine dn_ ?_ | refine kn_ ?_)<;>(refine zcL ?_))
  | ((refine dm_ ?_);(first | ((first | refine v_ (zbB _ _) ?_ (ha:=by exact zca) (hk:=fun q=>q.1) | refine v_ (zmD _ _ _ _ _ _) ?_ (ha:=by exact zca) (hk:=fun q=>q.1));refine zcL ?_) | (refine DVop.look_ rfl rfl rfl rfl ?_;(repeat (with_reducible first | refine OnM.here ?_ | refine OnM.next ?_));refine zcL ?_)))
  | ((refine von_ ?_);refine zcL ?_)
  | ((first | (refine DOp.look_ rfl rfl ?_;(repeat (with_reducible first | refine OnM.here ?_ | refine OnM.next ?_))))<;>(refine zcL ?_))
  | ((first | refine q_ (zbB _ _) ?_ (ha:=by exact zca) (hk:=fun q=>q.1) | refine q_ (zmD _ _ _ _ _ _) ?_ (ha:=by exact zca) (hk:=fun q=>q.1));refine zcL ?_)
  | ((refine on_ ?_);refine zcL ?_)
  | refine f_ ?_
  | refine vm_ ?_
  | ((fail_if_success (have zz:=rb));with_reducible intro rb)
  | with_reducible intro b)
 all_goals first
 | (((refine ⟨_,_,le.tup (Les.cons (le.agg (Les.cons le.rfl_ (Les.cons (le.gs rfl) (Les.cons (le.gs rfl) (Les.cons (le.gs rfl) Les.nil))))) (Les.cons le.rfl_ Les.nil)),⟨rfl,rfl⟩,?_⟩);((simp only [ownB,BN.maps,zad,zas,Cn.own,Cn.cells,Cn.sv,Option.map_none,Option.map_some,List.append_assoc,List.cons_append,List.nil_append,List.append_nil]));(exact sub_);done))
 | (trace_state;fail)
end
theorem zcu {p:Prop} (h:p:=by first | exact sv | exact ⟨h1,⟨h2,rfl⟩,h4⟩ | fail):p:=h
section
theorem zke (bb:Nat) (m:Int) (cm sm t:Nat) (ts:TS) (l1 l2:List Cn) (ss:List SN) (n now:Int) (cb st:Nat) (left:YS) (bad hd kp:Int) (cl:Bool) (will:List Mg) (lv wv:V) (xn:YS) (xb:Nat) (p:Pk) (T1 T2 T3 T4:List V) (F:Own):((BOK (⟨cm,sm,t,ts,l1++(⟨n,cb,st,left,bad,zal now,some (xn,xb),kp,cl,[],lv, .gs (.slice none 0 0) []⟩:Cn)::l2,ss⟩:BN)/\(⟨n,cb,st,left,bad,zal now,some (xn,xb),kp,cl,[],lv, .gs (.slice none 0 0) []⟩:Cn)∈(⟨cm,sm,t,ts,l1++(⟨n,cb,st,left,bad,zal now,some (xn,xb),kp,cl,[],lv, .gs (.slice none 0 0) []⟩:Cn)::l2,ss⟩:BN).cs/\BSz (⟨cm,sm,t,ts,l1++(⟨n,cb,st,left,bad,zal now,some (xn,xb),kp,cl,[],lv, .gs (.slice none 0 0) []⟩:Cn)::l2,ss⟩:BN).pl)/\lookA n (kvC l1++(n,cb)::kvC l2)=some cb/\p.kind=14)->DC Tryz.prog 14 [.raw (.pointer (some ⟨bb,0,none⟩)), .int .i64 n, .agg [.int .i64 p.kind, .bool p.dup, .bool p.retain, .int .i64 p.qos, .int .i64 p.id, .str p.topic, .sl (p.payload.map u8), .int .i64 p.level, .str p.client, .bool p.clean, .int .i64 p.keep, .bool p.hasWill, .str p.wtopic, .sl (p.wpay.map u8), .int .i64 p.wqos, .bool p.wretain, .bool p.hasUser, .bool p.hasPass, .str p.user, .sl (p.pass.map u8), .bool p.present, .int .i64 p.code, .sl (p.subs.map encU), .sl (p.codes.map (V.int .i64))], .int .i64 now, .agg [.sl T1, .sl T2, .sl T3, .sl T4]] (loose::knF::knA::knM m :: .blk bb [.raw (.map (some cm)), .raw (.map (some sm)), .raw (.pointer (some ⟨t,0,none⟩))] :: .map cm (entM (V.int .i64) pv (kvC l1++(n,cb)::kvC l2)) :: .blk cb [.raw (.pointer (some ⟨st,0,none⟩)), .int .i64 hd, .raw (.pointer (some ⟨xb,0,none⟩)), .int .i64 kp, .bool cl,wv] :: .map sm (entM V.str pv (kvS ss)) :: .blk st [lv, .int .i64 bad]::(ownC l1++(ownC l2++(ownS ss++(ownT t ts++[]))))++F) fun d G=>∃ s':BN,(BOK s'/\s'.pl=(zae n (⟨cm,sm,t,ts,l1++(⟨n,cb,st,left,bad,zal now,some (xn,xb),kp,cl,[],lv, .gs (.slice none 0 0) []⟩:Cn)::l2,ss⟩:BN).pl).2)/\d = .tup [zb8 (zae n (⟨cm,sm,t,ts,l1++(⟨n,cb,st,left,bad,zal now,some (xn,xb),kp,cl,[],lv, .gs (.slice none 0 0) []⟩:Cn)::l2,ss⟩:BN).pl).1, .int .i64 0]/\G=loose::knF::knA::knM m::(ownB bb s'++F):=by
 intro hA
 obtain ⟨⟨h1,h2,h4⟩,hlk,hC⟩:=hA
 refine DC.bodyS (n_:=114) (show Tryz.prog.funcs[14]? = some Tryz.f14 by kernel_rfl) rfl rfl (by rfl) ?_
 simp only [env0,List.append_assoc,List.cons_append,List.nil_append]
 have kw:=ksIs [0,1,2,3,4,7,9,10,11,12,14,22,37,42,43,50,56,71,85,93,99,106]
 have ow:=zai []
 have dw5:=drIs 5 [] [3,6]
 have dw13:=drIs 13 [] [3,4,5]
 have dw18:=drIs 18 [10] [4,5,7,8]
 have rw_:=rsIs [.cell 10 38, .tmp 11]
 repeat' (first
  | ((fail_if_success (have zz:=hto));(with_reducible refine DW.toR 27 (G:=.blk rb [.gs (.slice none 0 0) [], .gs (.slice none 0 0) [], .gs (.slice none 0 0) [], .gs (.slice none 0 0) []]::loose::knF::knA::knM m::(ownB bb (⟨cm,sm,t,ts,l1++(⟨n,cb,st,left,bad,zal now,some (xn,xb),kp,cl,[],lv, .gs (.slice none 0 0) []⟩:Cn)::l2,ss⟩:BN)++F)) ?_ ?_);(focus ((simp only [ownB,BN.maps,zad,zas,Cn.own,Cn.cells,Cn.sv,Option.map_none,Option.map_some,List.append_assoc,List.cons_append,List.nil_append,List.append_nil]);exact sub_));(have hto:True:=trivial))
  | ((refine DOp.load_ rfl rfl ?_);(repeat (with_reducible first | refine OnB.here ?_ | refine OnB.next ?_ | (refine OnB.inH (by assumption) ?_;with_reducible intro C) | refine OnB.skip ?_));refine zcL ?_)
  | ((refine DOp.look_ rfl rfl ?_);(repeat (with_reducible first | refine OnM.here ?_ | refine OnM.next ?_ | (refine OnM.inN (by assumption) ?_;with_reducible intro C hC) | (refine OnM.inK (by assumption) ?_;with_reducible intro C hC) | refine OnM.skip ?_));refine zcL ?_)
  | refine g_ ?_
  | ((with_reducible refine And.intro ?_ ?_);(exact zcu))
  | (refine DW.cond (by rfl) ?_ ?_<;>(first | exact i0_ | (intro hb;(try simp only [↓reduceCtorEq,not_true_eq_false,not_false_eq_true,hbs,Int.reduceBEq,Int.reduceBNe,Int.reduceEq] at hb);(try refine zcL ?_))))
  | ((with_reducible first | refine zaa ?_ ?_ | refine zak ?_ ?_)<;>(intro hb;rw [hb];revert hb;(first | exact i0_ | (intro hb;(try simp only [↓reduceCtorEq,not_true_eq_false,not_false_eq_true,hbs,Int.reduceBEq,Int.reduceBNe,Int.reduceEq] at hb);(try refine zcL ?_)))))
  | ((first | refine rn_ ?_ | refine dn_ ?_ | refine kn_ ?_)<;>(refine zcL ?_))
  | ((refine dm_ ?_);(first | (refine v_ (zbB _ _) ?_ (ha:=by exact zcu) (hk:=fun q=>q.1);refine zcL ?_) | (refine DVop.look_ rfl rfl rfl rfl ?_;(repeat (with_reducible first | refine OnM.here ?_ | refine OnM.next ?_));refine zcL ?_)))
  | ((refine von_ ?_);refine zcL ?_)
  | ((first | (refine DOp.look_ rfl rfl ?_;(repeat (with_reducible first | refine OnM.here ?_ | refine OnM.next ?_))))<;>(refine zcL ?_))
  | (refine q_ (zbB _ _) ?_ (ha:=by exact zcu) (hk:=fun q=>q.1);refine zcL ?_)
  | (refine p_ (zcc (s:=(⟨cm,sm,t,ts,l1++(⟨n,cb,st,left,bad,zal now,some (xn,xb),kp,cl,[],lv, .gs (.slice none 0 0) []⟩:Cn)::l2,ss⟩:BN)) (c:=(⟨n,cb,st,left,bad,zal now,some (xn,xb),kp,cl,[],lv, .gs (.slice none 0 0) []⟩:Cn)) _ _ _ _) ?_ (ha:=by exact zcu);rintro d H1 ⟨s2,⟨hs2,hp2⟩,rfl,rfl⟩<;>refine zcL ?_)
  | ((refine on_ ?_);refine zcL ?_)
  | refine f_ ?_
  | refine vm_ ?_
  | ((fail_if_success (have zz:=rb));with_reducible intro rb)
  | with_reducible intro b)
 all_goals first
 | (((refine ⟨_,_,le.rfl_,⟨s2,⟨hs2,hp2⟩,rfl,rfl⟩,?_⟩);(exact sub_);done))
 | (trace_state;fail)
end
end
section
theorem zbo (l1 l2:List SN) (c:SN):kvS (l1++c::l2)=kvS l1++(c.a.name,c.b)::kvS l2:=by unfold kvS;rw [List.map_append];rfl
theorem zqn {k id:Int} (h:k=4\/k=5\/k=6\/k=7):SendK (ackP k id):=by
 refine ⟨zjt k id false 0,?_,?_⟩
 · show k=2\/_;simp only [ackP];omega
 · rcases h with rfl | rfl | rfl | rfl<;>first | rfl | (unfold onlyM ackP;simp)
attribute [local irreducible] SN.own ownT ownC ownS zae za8 zaR zbD
attribute [local irreducible] DW SeqD DV DOp DC DVX DVJ idsF usI sortS putM zay onlyM
section
attribute [local push_cast 2000] zaK zbd zaI zaV zaA zaD zbe zaF za6 za7 zba zaH zaG zbb zaC za1 zaJ zaz zbc zaE za0 zaZ zaB zax za2 zbn zb1 zbl zaY zaM zaL Option.getD_some Option.getD_none Option.isSome_some Option.isSome_none
end
end
section
theorem zkt {m:Mg} (hm:MgN m) (id:Int) (dup:Bool) (h1:1<=m.qos):SendK (pubM m id dup):=by
 refine ⟨⟨hm.topic,hm.pay,Nat.zero_le _,Nat.zero_le _,Nat.zero_le _,Nat.zero_le _,Nat.zero_le _,Nat.zero_le _,fun k=>by simp [pubM];exact Nat.zero_le _,Nat.zero_le _⟩,?_,?_⟩
 · show (3:Int)=2\/_;simp [pubM]
 · unfold onlyM pubM;simp;refine ⟨fun _=>by omega,fun _=>by omega,?_⟩;exact ⟨rfl,rfl,rfl,rfl,rfl,rfl,rfl,rfl,rfl,rfl,rfl,rfl,rfl,rfl,rfl,rfl,rfl⟩
theorem zob {l:List Pk} (h:∀ p∈l,SendK p):∀ k,k<l.length->SendK (l.getD k default):=fun k hk=>by
 rw [List.getD_eq_getElem?_getD,List.getElem?_eq_getElem hk]
 exact h _ (List.getElem_mem hk)
theorem zgW (now:Int):∀ (q:List Mg) (a:SA),(∀ m∈q,MgN m/\1<=m.qos)->∀ p∈zb9 now q a,SendK p
 | [],a,_,p,hp=>by unfold zb9 at hp;cases hp
 | m::q,a,h,p,hp=>by
  unfold zb9 at hp
  split at hp
  · rcases List.mem_cons.1 hp with rfl | hp
    · exact zkt (h m List.mem_cons_self).1 _ _ (h m List.mem_cons_self).2
    · exact zgW now q _ (fun x hx=>h x (List.mem_cons_of_mem _ hx)) p hp
  · cases hp
theorem zhi {now ago:Int} {l:List Fl} (h:∀ f∈l,FlOK f/\1<=f.m.qos):∀ p∈zb6 now ago l,SendK p:=fun p hp=>by
 unfold zb6 at hp
 obtain ⟨f,hf,hp⟩:=List.mem_flatMap.1 hp
 unfold agP at hp
 split at hp
 · cases hp
 · split at hp
   · rw [List.mem_singleton.1 hp];exact zqn (by omega)
   · rw [List.mem_singleton.1 hp];exact zkt (h f hf).1.m _ _ (h f hf).2
theorem zj6 {a:SA} (h:SAOK a) (hq:SAQ a) (now:Int):∀ p∈zap now a,SendK p:=fun p hp=>by
 unfold zap at hp
 rcases List.mem_append.1 hp with hp | hp
 · exact zhi (fun f hf=>⟨h.flo f hf,hq.fly f hf⟩) p hp
 · exact zgW now a.q _ (fun m hm=>⟨h.qm m hm,hq.q m hm⟩) p hp
end
section
def NoOne (nm:YS) (b:Br):Prop:=∀ c∈b.conns,c.s≠some nm
def zbw (n now:Int) (b:Br):Br:={ b with conns:=b.conns.map fun c=>if c.n=n then { c with heard:=zal now } else c }
theorem zkr {l1 l2:List Cn} {c c':Cn} {f:CP->CP} (hf:f c.pl=c'.pl) (h1:∀ d∈l1,d.n≠c.n) (h2:∀ d∈l2,d.n≠c.n):((l1++c::l2).map Cn.pl).map (fun d=>if d.n=c.n then f d else d)=(l1++c'::l2).map Cn.pl:=by
 have key:∀ l:List Cn,(∀ d∈l,d.n≠c.n)->(l.map Cn.pl).map (fun d=>if d.n=c.n then f d else d)=l.map Cn.pl:=fun l h=>by
  rw [List.map_map]
  exact List.map_congr_left fun d hd=>by show (if d.n=c.n then f d.pl else d.pl)=d.pl;rw [if_neg (h d hd)]
 rw [List.map_append,List.map_cons,List.map_append,List.map_cons,key l1 h1,key l2 h2,List.map_append,List.map_cons]
 rw [show (if c.pl.n=c.n then f c.pl else c.pl)=c'.pl from by rw [if_pos (show c.pl.n=c.n from rfl),hf]]
theorem BOK.at {s:BN} (h:BOK s) {n:Int} {p:CP} (hc:s.pl.conn n=some p):∃ cm sm t ts l1 c l2 ss,s=(⟨cm,sm,t,ts,l1++c::l2,ss⟩:BN)/\c.pl=p/\c.n=n/\(∀ d∈l1,d.n≠c.n)/\(∀ d∈l2,d.n≠c.n):=by
 obtain ⟨c,hcm,hp,hn⟩:=ze4 hc
 obtain ⟨l1,l2,hs,h1,h2⟩:=zbS h.cn hcm
 obtain ⟨cm,sm,t,ts,cs,ss⟩:=s
 simp only at hs
 subst hs
 exact ⟨cm,sm,t,ts,l1,c,l2,ss,rfl,hp,hn,h1,h2⟩
theorem ses_of {s:BN} {nm:YS} {a:SA} (h:s.pl.ses nm=some a):∃ y∈s.ss,y.a=a/\y.a.name=nm:=by
 unfold Br.ses BN.pl at h
 have h1:=List.mem_of_find?_eq_some h
 have h2:=List.find?_some h
 obtain ⟨y,hy,rfl⟩:=List.mem_map.1 h1
 exact ⟨y,hy,rfl,by simpa using h2⟩
theorem zkG (s:BN) (nm:YS):(s.pl.ses nm).isSome=(lookA nm (kvS s.ss)).isSome:=by
 rw [zgm]
 unfold Br.ses BN.pl
 simp only [List.find?_map,Option.isSome_map]
 rfl
theorem zpQ {s:BN} {nm:YS} (h:s.pl.ses nm=none):lookA nm (kvS s.ss)=none:=by
 have:=zkG s nm
 rw [h] at this
 cases h1:lookA nm (kvS s.ss) with
 | none=>rfl
 | some b=>rw [h1] at this;cases this
theorem zm9 {s:BN} (h:BOK s) (nm:YS):(ofM nm s.pl = -1/\NoOne nm s.pl)\/∃ c∈s.cs,c.n=ofM nm s.pl/\0<=c.n/\c.s.map (·.1)=some nm:=by
 by_cases hex:∃ c∈s.cs,c.s.map (·.1)=some nm
 · obtain ⟨c,hc,hs⟩:=hex
   right
   cases hcs:c.s with
   | none=>rw [hcs] at hs;cases hs
   | some e =>
    obtain ⟨e1,e2⟩:=e
    have he:e1=nm:=by rw [hcs] at hs;simpa using hs
    subst he
    exact ⟨c,hc,(ofM_y h hc hcs).symm,(h.co c hc).n.1,by rw [hcs] at hs ⊢;exact hs⟩
 · left
   refine ⟨ofM_n fun c hc hcs=>hex ⟨c,hc,hcs⟩,fun p hp hps=>?_⟩
   obtain ⟨c,hc,rfl⟩:=List.mem_map.1 hp
   exact hex ⟨c,hc,hps⟩
theorem NoOne.cs {s:BN} {nm:YS} (h:NoOne nm s.pl):∀ c∈s.cs,c.s.map (·.1)≠some nm:=fun c hc=>h c.pl (List.mem_map.2 ⟨c,hc,rfl⟩)
theorem zd3 (nm:YS) (b:Br):(zah nm b).2.conns=b.conns:=by unfold zah;split<;>rfl
theorem ziG (n:Int) (b:Br):(za8 n b).2.conns=b.conns.filter fun c=>c.n != n:=by
 unfold za8
 cases hc:b.conn n with
 | none =>
  refine (List.filter_eq_self.2 fun c hcm=>?_).symm
  have:=List.find?_eq_none.1 hc c hcm
  simpa using this
 | some c =>
  simp only
  cases hs:c.s with
  | none=>rfl
  | some nm =>
   simp only
   split
   · exact zd3 ..
   · rfl
theorem zgI (n:Int) (b:Br):(zae n b).2.conns=b.conns.filter fun c=>c.n != n:=ziG n b
theorem find_ne {l:List CP} {n o:Int} (h:n≠o):(l.filter fun c=>c.n != o).find? (fun c=>c.n==n)=l.find? fun c=>c.n==n:=by
 induction l with
 | nil=>rfl
 | cons c l ih =>
  by_cases ho:c.n=o
  · rw [List.filter_cons_of_neg (by simp [ho]),ih,List.find?_cons_of_neg (by simp [ho];exact Ne.symm h)]
  · rw [List.filter_cons_of_pos (by simp [ho])]
    by_cases hn:c.n=n
    · rw [List.find?_cons_of_pos (by simp [hn]),List.find?_cons_of_pos (by simp [hn])]
    · rw [List.find?_cons_of_neg (by simp [hn]),List.find?_cons_of_neg (by simp [hn]),ih]
theorem zfn {n o:Int} (h:n≠o) (b:Br):(zae o b).2.conn n=b.conn n:=by unfold Br.conn;rw [zgI];exact find_ne h
theorem zf0 (nm:YS) (n:Int) (b:Br):(zah nm b).2.conn n=b.conn n:=by unfold Br.conn;rw [zd3]
theorem NoOne.shut {s:BN} (h:BOK s) {nm:YS} {c:Cn} (hc:c∈s.cs) (hs:c.s.map (·.1)=some nm):NoOne nm (zae c.n s.pl).2:=fun p hp hps=>by
 rw [zgI] at hp
 obtain ⟨hp1,hp2⟩:=List.mem_filter.1 hp
 obtain ⟨d,hd,rfl⟩:=List.mem_map.1 hp1
 cases he:c.s with
 | none=>rw [he] at hs;cases hs
 | some e =>
  cases he':d.s with
  | none=>simp [Cn.pl,he'] at hps
  | some e' =>
   have h1:e.1=nm:=by rw [he] at hs;simpa using hs
   have h2:e'.1=nm:=by simpa [Cn.pl,he'] using hps
   have:=h.sd c hc d hd e e' he he' (h1.trans h2.symm)
   simp [Cn.pl,this] at hp2
theorem NoOne.forget {nm:YS} {b:Br} (h:NoOne nm b) (x:YS):NoOne nm (zah x b).2:=by unfold NoOne;rw [zd3];exact h
theorem BSz.forget {b:Br} (h:BSz b) (nm:YS):BSz (zah nm b).2:=by
 unfold zah
 split
 · exact h
 · exact ⟨Nat.le_trans (zfv ..) h.L,fun a ha=>h.sub a (List.mem_filter.1 ha).1⟩
theorem BSz.leave {b:Br} (h:BSz b) (n:Int):BSz (za8 n b).2:=by
 have ho:BSz (b.off n):=⟨h.L,h.sub⟩
 unfold za8
 split
 · exact h
 · split
   · split
     · exact ho.forget _
     · exact ho
   · exact ho
theorem BSz.shut {b:Br} (h:BSz b) (n:Int):BSz (zae n b).2:=h.leave n
theorem BSz.heard {b:Br} (h:BSz b) (n now:Int):BSz (zbw n now b):=⟨h.L,h.sub⟩
theorem BOK.soff {s:BN} (h:BOK s) {m1 m2:List SN} {y:SN} (hss:s.ss=m1++y::m2) (hno:∀ c∈s.cs,c.s.map (·.1)≠some y.a.name) {ts:TS} (ht:TOK ts):BOK { s with ss:=m1++m2,ts:=ts }:=by
 have hsu2:(m1++m2).Sublist s.ss:=by rw [hss];exact (List.sublist_cons_self _ _).append_left _
 refine ⟨ht,h.cn,fun d hd=>?_,h.sn.sublist (hsu2.map _),fun x hx=>h.so x (hsu2.subset hx),fun x hx=>h.sq x (hsu2.subset hx),h.sd⟩
 have ho:=h.co d hd
 refine ⟨ho.n,ho.heard,ho.keep,ho.will,ho.wm,ho.lv,ho.wv,fun e he=>?_⟩
 obtain ⟨x,hx,hx1,hx2⟩:=ho.s e he
 rw [hss] at hx
 rcases List.mem_append.1 hx with hx | hx
 · exact ⟨x,List.mem_append.2 (.inl hx),hx1,hx2⟩
 rcases List.mem_cons.1 hx with rfl | hx
 · exact absurd (by rw [he,Option.map_some,<-hx1]) (hno d hd)
 · exact ⟨x,List.mem_append.2 (.inr hx),hx1,hx2⟩
attribute [local irreducible] SN.own ownT ownC ownS zag zcN za4 zar zaR
attribute [local irreducible] DW SeqD DV DOp DC DVX DVJ idsF usI sortS putM zay onlyM
theorem zhb (bb:Nat) (m:Int) (s:BN) (nm:YS) (F:Own):(BOK s/\NoOne nm s.pl/\BSz s.pl)->DC Tryz.prog 84 [.raw (.pointer (some ⟨bb,0,none⟩)), .str nm] ((loose::knF::knA::knM m::(ownB bb s++[]))++F) fun d G=>∃ s':BN,(BOK s'/\s'.pl=(zah nm s.pl).2)/\d = .sl ((zah nm s.pl).1.map V.str)/\G=loose::knF::knA::knM m::(ownB bb s'++F):=by
 rintro ⟨h,hno,hz⟩
 cases hs:s.pl.ses nm with
 | none =>
  have hlk:=zpQ hs
  have e1:zah nm s.pl=([],s.pl):=by unfold zah;rw [hs]
  rw [e1]
  obtain ⟨cm,sm,t,ts,cs,ss⟩:=s
  refine DC.conv (zlh bb cm sm t (kvS ss) nm (loose::knF::knA::knM m :: .map cm (entM (V.int .i64) pv (kvC cs))::(ownC cs++(ownS ss++(ownT t ts++F)))) hlk) (by (simp only [ownB,BN.maps,zad,zaf,Cn.own,Cn.cells,Cn.sv,Option.map_none,Option.map_some,List.append_assoc,List.cons_append,List.nil_append,List.append_nil]);exact sub_) ?_
  rintro d G ⟨rfl,rfl⟩
  exact ⟨_,_,le.gs rfl,⟨(⟨cm,sm,t,ts,cs,ss⟩:BN),⟨h,rfl⟩,rfl,rfl⟩,by (simp only [ownB,BN.maps,zad,zaf,Cn.own,Cn.cells,Cn.sv,Option.map_none,Option.map_some,List.append_assoc,List.cons_append,List.nil_append,List.append_nil]);exact sub_⟩
 | some a =>
  obtain ⟨y,hy,rfl,rfl⟩:=ses_of hs
  obtain ⟨m1,m2,hss,k1,k2⟩:=zbS h.sn hy
  obtain ⟨cm,sm,t,ts,cs,ss⟩:=s
  simp only at hss
  subst hss
  have hyo:=h.so y hy
  have hsk:=znT (l2:=m2) k1
  have hsr:=zhZ (l2:=m2) k1
  have hzy0:=hz.sub y.a (List.mem_map.2 ⟨y,hy,rfl⟩)
  have hzy:y.a.subs.length<=1000000000/\∀ e∈y.a.subs,e.1.length<=1000000:=⟨Nat.le_trans hzy0.1 (by decide),hzy0.2⟩
  have hF:lookA y.a.name (kvS (m1++y::m2))=some y.b/\SAOK y.a/\TOK ts/\y.a.subs.length<=1000000000/\ts.L.length<=1000000000/\(zar y.a.subs).length<=1000000000/\∀ k,k<(zar y.a.subs).length->((zar y.a.subs).getD k default).1.length<=1000000 :=
   ⟨hsk,hyo,h.t,hzy.1,hz.L,by rw [zc6];exact hzy.1,fun k hk=>by obtain ⟨x,hx,hxe⟩:=zh9 hk;rw [hxe];exact hzy.2 x hx⟩
  have hps:=zdi (s:=⟨cm,sm,t,ts,cs,m1++y::m2⟩) rfl k1
  have e1:zah y.a.name (BN.pl ⟨cm,sm,t,ts,cs,m1++y::m2⟩)=((zag y.a.name (zar y.a.subs) ts.L).1,⟨cs.map Cn.pl,(m1++m2).map (·.a),(zag y.a.name (zar y.a.subs) ts.L).2⟩):=by
   unfold zah
   rw [hps]
   simp only [BN.pl,zjq k1 k2]
  rw [e1]
  refine DC.conv (zgF bb cm sm t m (kvS (m1++y::m2)) y ts (.map cm (entM (V.int .i64) pv (kvC cs))::(ownC cs++(ownS m1++(ownS m2++F)))) hF) (by (simp only [ownB,BN.maps,zad,zaf,Cn.own,Cn.cells,Cn.sv,Option.map_none,Option.map_some,List.append_assoc,List.cons_append,List.nil_append,List.append_nil]);exact sub_) ?_
  rintro d G ⟨ts',⟨ht',hL'⟩,rfl,rfl⟩
  rw [hsr]
  exact ⟨_,_,le.rfl_,⟨(⟨cm,sm,t,ts',cs,m1++m2⟩:BN),⟨h.soff rfl (NoOne.cs hno) ht',by unfold BN.pl;simp only;rw [hL']⟩,rfl,rfl⟩,by (simp only [ownB,BN.maps,zbI,zbm,Cn.own,Cn.cells,Cn.sv,Option.map_none,Option.map_some,List.append_assoc,List.cons_append,List.nil_append,List.append_nil]);exact sub_⟩
end
section
def nameM (n:Int) (p:Pk):YS:=if p.client=[] then 35::Go.Lib.itoa n else p.client
def zdm (nm:YS) (p:Pk) (c:CP):CP:={ c with s:=some nm,keep:=p.keep,clean:=p.clean,will:=if p.hasWill=true then [⟨p.wtopic,p.wpay,p.wqos,p.wretain⟩] else c.will }
noncomputable def zaw (nm:YS) (b:Br):Ef×Br:=if 0<=ofM nm b then (andM nilE (zae (ofM nm b) b).1,(zae (ofM nm b) b).2) else (nilE,b)
noncomputable def zbs (cl:Bool) (nm:YS) (x:Ef×Br):Ef×Br:=if cl=true then (andM x.1 ⟨[],[],[],(zah nm x.2).1⟩,(zah nm x.2).2) else x
def sesD (nm:YS) (b:Br):SA:=(b.ses nm).getD (newA nm)
def zez (n:Int) (nm:YS) (p:Pk) (now:Int) (b:Br):Br :=
 ⟨b.conns.map (fun c=>if c.n=n then zdm nm p c else c),if (b.ses nm).isSome=true then b.sess.map (fun a=>if a.name=nm then zb7 now (sesD nm b) else a) else b.sess++[zb7 now (sesD nm b)],b.L⟩
def zat (nm:YS) (now:Int) (b:Br):List Pk:=zan 2 0 (b.ses nm).isSome 0::zap now (sesD nm b)
noncomputable def zbp (n:Int) (nm:YS) (p:Pk) (now:Int) (x:Ef×Br):Ef×Br:=(andM x.1 ⟨outM n (zat nm now x.2),[],[],[]⟩,zez n nm p now x.2)
noncomputable def zaT (n:Int) (p:Pk) (now:Int) (b:Br):Ef×Br :=
 if p.level≠4 then zbi n 1 b else if p.client=[]/\p.clean=false then zbi n 2 b else if p.hasWill=true/\zbD p.wtopic=false then zae n b
 else zbp n (nameM n p) p now (zbs p.clean (nameM n p) (zaw (nameM n p) b))
theorem zgB (now:Int):∀ (q:List Mg) (a:SA),(zb2 now q a).name=a.name
 | [],a=>rfl
 | m::q,a=>by
  unfold zb2
  split
  · exact zgB now q _
  · rfl
theorem zaN (now:Int) (a:SA):(zb7 now a).name=a.name:=by unfold zb7;rw [zgB];rfl
theorem CnOK.mono {ss ss':List SN} {c:Cn} (ho:CnOK ss c) (hold:∀ y∈ss,∃ y'∈ss',y'.a.name=y.a.name/\y'.b=y.b):CnOK ss' c :=
 ⟨ho.n,ho.heard,ho.keep,ho.will,ho.wm,ho.lv,ho.wv,fun e he=>by
   obtain ⟨x,hx,h1,h2⟩:=ho.s e he
   obtain ⟨y,hy,k1,k2⟩:=hold x hx
   exact ⟨y,hy,k1.trans h1,k2.trans h2⟩⟩
theorem BOK.greet {cm sm t:Nat} {ts:TS} {l1 l2:List Cn} {ss ss':List SN} {c c':Cn} {x:SN} {nm:YS} (h:BOK ⟨cm,sm,t,ts,l1++c::l2,ss⟩) (hno:∀ d∈l1++c::l2,d.s.map (·.1)≠some nm)
  (hsn:(ss'.map (·.a.name)).Nodup) (hso:∀ y∈ss',SAOK y.a/\SAQ y.a) (hold:∀ y∈ss,∃ y'∈ss',y'.a.name=y.a.name/\y'.b=y.b)
  (hn:c'.n=c.n) (hco:CnOK ss' c') (hs:c'.s=some (nm,x.b)):BOK ⟨cm,sm,t,ts,l1++c'::l2,ss'⟩:=by
 have hmem:∀ d∈l1++c'::l2,d=c'\/d∈l1++c::l2:=fun d hd=>by
  rcases List.mem_append.1 hd with h1 | h1
  · exact .inr (List.mem_append.2 (.inl h1))
  · rcases List.mem_cons.1 h1 with rfl | h1
    · exact .inl rfl
    · exact .inr (List.mem_append.2 (.inr (List.mem_cons_of_mem _ h1)))
 refine ⟨h.t,?_,fun d hd=>?_,hsn,fun y hy=>(hso y hy).1,fun y hy=>(hso y hy).2,fun a ha d hd e e' he he' hee=>?_⟩
 · have:=h.cn
   simp only [List.map_append,List.map_cons] at this ⊢
   rw [hn];exact this
 · rcases hmem d hd with rfl | h1
   · exact hco
   · exact (h.co d h1).mono hold
 · rcases hmem a ha with rfl | h1
   · rcases hmem d hd with rfl | h2
     · rfl
     · rw [hs] at he
       cases he
       exact absurd (by rw [he'];simp [<-hee]) (hno d h2)
   · rcases hmem d hd with rfl | h2
     · rw [hs] at he'
       cases he'
       exact absurd (by rw [he];simp [hee]) (hno a h1)
     · exact h.sd a h1 d h2 e e' he he' hee
theorem zfz {ss:List SN} {x:SN} (h:(ss.map (·.a.name)).Nodup) (hx:lookA x.a.name (kvS ss)=none):((ss++[x]).map (·.a.name)).Nodup:=by
 rw [List.map_append,List.nodup_append]
 refine ⟨h,by simp,fun a ha b hb e=>?_⟩
 simp only [List.map_cons,List.map_nil,List.mem_cons,List.not_mem_nil,or_false] at hb
 obtain ⟨y,hy,rfl⟩:=List.mem_map.1 ha
 rw [zgm] at hx
 simp only [Option.map_eq_none_iff] at hx
 have:=List.find?_eq_none.1 hx y hy
 simp at this
 exact this (e.trans hb)
theorem ze8 {m1 m2:List SN} {x y:SN} (h:((m1++y::m2).map (·.a.name)).Nodup) (hx:x.a.name=y.a.name):((m1++x::m2).map (·.a.name)).Nodup:=by
 simp only [List.map_append,List.map_cons] at h ⊢
 rw [hx];exact h
theorem zd2 {m1 m2:List SN} {x y:SN} (hx:x.a.name=y.a.name) (hb:x.b=y.b):∀ z∈m1++y::m2,∃ z'∈m1++x::m2,z'.a.name=z.a.name/\z'.b=z.b:=fun z hz=>by
 rcases List.mem_append.1 hz with h1 | h1
 · exact ⟨z,List.mem_append.2 (.inl h1),rfl,rfl⟩
 · rcases List.mem_cons.1 h1 with rfl | h1
   · exact ⟨x,by simp,hx,hb⟩
   · exact ⟨z,List.mem_append.2 (.inr (List.mem_cons_of_mem _ h1)),rfl,rfl⟩
theorem zep {m1 m2:List SN} {x y:SN} {p:SN->Prop} (h:∀ z∈m1++y::m2,p z) (hx:p x):∀ z∈m1++x::m2,p z:=fun z hz=>by
 rcases List.mem_append.1 hz with h1 | h1
 · exact h z (List.mem_append.2 (.inl h1))
 · rcases List.mem_cons.1 h1 with rfl | h1
   · exact hx
   · exact h z (List.mem_append.2 (.inr (List.mem_cons_of_mem _ h1)))
theorem sa_set {m1 m2:List SN} {x y:SN} {a:SA} (ha:x.a=a) (h1:∀ d∈m1,d.a.name≠y.a.name) (h2:∀ d∈m2,d.a.name≠y.a.name):((m1++y::m2).map (·.a)).map (fun z=>if z.name=y.a.name then a else z)=(m1++x::m2).map (·.a):=by
 have key:∀ l:List SN,(∀ d∈l,d.a.name≠y.a.name)->(l.map (·.a)).map (fun z=>if z.name=y.a.name then a else z)=l.map (·.a):=fun l h=>by
  rw [List.map_map]
  exact List.map_congr_left fun d hd=>by show (if d.a.name=y.a.name then a else d.a)=d.a;rw [if_neg (h d hd)]
 rw [List.map_append,List.map_cons,List.map_append,List.map_cons,key m1 h1,key m2 h2,List.map_append,List.map_cons,if_pos rfl,ha]
theorem zcj {s:BN} {nm:YS} (h:lookA nm (kvS s.ss)=none):s.pl.ses nm=none:=by
 have:=zkG s nm
 rw [h] at this
 cases h1:s.pl.ses nm with
 | none=>rfl
 | some b=>rw [h1] at this;cases this
theorem zc5 {cm sm t:Nat} {ts:TS} {l1 l2:List Cn} {ss:List SN} {c c':Cn} {x:SN} {n:Int} {nm:YS} {p:Pk} {now:Int} (hn:c.n=n) (h1:∀ d∈l1,d.n≠c.n) (h2:∀ d∈l2,d.n≠c.n) (hl:lookA nm (kvS ss)=none) (hx:x.a=zb7 now (newA nm)) (hg:zdm nm p c.pl=c'.pl) :
  BN.pl ⟨cm,sm,t,ts,l1++c'::l2,ss++[x]⟩=zez n nm p now (BN.pl ⟨cm,sm,t,ts,l1++c::l2,ss⟩):=by
 subst hn
 have hs:(BN.pl ⟨cm,sm,t,ts,l1++c::l2,ss⟩).ses nm=none:=zcj hl
 unfold zez sesD
 rw [hs]
 unfold BN.pl
 simp only [Option.isSome_none,Bool.false_eq_true,if_false,Option.getD_none]
 rw [zkr hg h1 h2,<-hx]
 simp only [List.map_append,List.map_cons,List.map_nil]
theorem zcy {cm sm t:Nat} {ts:TS} {l1 l2:List Cn} {m1 m2:List SN} {c c':Cn} {x y:SN} {n:Int} {p:Pk} {now:Int} (hn:c.n=n) (h1:∀ d∈l1,d.n≠c.n) (h2:∀ d∈l2,d.n≠c.n) (k1:∀ d∈m1,d.a.name≠y.a.name) (k2:∀ d∈m2,d.a.name≠y.a.name) (hx:x.a=zb7 now y.a) (hg:zdm y.a.name p c.pl=c'.pl) :
  BN.pl ⟨cm,sm,t,ts,l1++c'::l2,m1++x::m2⟩=zez n y.a.name p now (BN.pl ⟨cm,sm,t,ts,l1++c::l2,m1++y::m2⟩):=by
 subst hn
 have hs:=zdi (s:=⟨cm,sm,t,ts,l1++c::l2,m1++y::m2⟩) rfl k1
 unfold zez sesD
 rw [hs]
 unfold BN.pl
 simp only [Option.isSome_some,if_true,Option.getD_some]
 rw [zkr hg h1 h2,sa_set hx k1 k2]
theorem zdp (now ago:Int):∀ l:List Fl,(zb6 now ago l).length<=l.length
 | []=>Nat.le_refl _
 | f::l=>by
  have h:=zdp now ago l
  have h1:(agP now ago f).length<=1:=by unfold agP;split;exact Nat.zero_le _;split<;>simp
  show (agP now ago f++zb6 now ago l).length<=_
  rw [List.length_append,List.length_cons];omega
theorem zac {a:SA} (h:SAOK a) (now:Int):(zap now a).length<=12:=by
 unfold zap
 rw [List.length_append]
 have h1:=zdp now (-4398046511104) a.fly
 have h2:=zfp now a.q (zcJ now (-4398046511104) a)
 have:=h.fly;have:=h.q
 omega
theorem zcw {a:SA} (h:SAOK a) (hq:SAQ a) (now:Int) (pr:Bool):∀ p∈zan 2 0 pr 0::zap now a,SendK p:=fun p hp=>by
 rcases List.mem_cons.1 hp with rfl | hp
 · exact zjh _ _
 · exact zj6 h hq now p hp
end
end Go.Proofs.YtgekknefphagbaaGreatDoor
