/- The broker: Take of a greeting, over the whole state. -/
import Derived.Test.YtgekknefphagbaaGreatDoorQg0x
import Derived.KernelRfl
import Derived.Test.YtgekknefphagbaaGreatDoorQhx
namespace Go.Proofs.YtgekknefphagbaaGreatDoor
open Go.RowKit
set_option linter.unusedSimpArgs false
set_option linter.unusedVariables false
set_option linter.unusedSectionVars false
set_option maxHeartbeats 4000000
set_option maxRecDepth 100000
section
attribute [local irreducible] SN.own ownT ownC ownS ownB zae zbj zah zaK zb5 zb4 zam outM zbp zbo
attribute [local irreducible] DW SeqD DV DOp DC DVX DVJ idsF usI sortS putM zaj onlyM
theorem zlG (bb:Nat) (m:Int) (T5:TypeId) (fr5:Nat×Nat) (s:BN) (n now:Int) (p:Pk) (F:Own):(BOK s/\BSz s.pl/\(∃ cp,s.pl.conn n=some cp/\cp.s=none)/\ConN n p)->DC Tryz.prog 39 [.raw (.pointer (some ⟨bb,0,none⟩)), .int .i64 n, .agg [.int .i64 p.kind, .bool p.dup, .bool p.retain, .int .i64 p.qos, .int .i64 p.id, .str p.topic, .sl (p.payload.map u8), .int .i64 p.level, .str p.client, .bool p.clean, .int .i64 p.keep, .bool p.hasWill, .str p.wtopic, .sl (p.wpay.map u8), .int .i64 p.wqos, .bool p.wretain, .bool p.hasUser, .bool p.hasPass, .str p.user, .sl (p.pass.map u8), .bool p.present, .int .i64 p.code, .sl (p.subs.map encU), .sl (p.codes.map (V.int .i64))], .int .i64 now] ((knP T5 fr5::loose::knF::knA::knM m::(ownB bb s++[]))++F) fun d G=>∃ s':BN,(BOK s'/\s'.pl=(zaS n p now s.pl).2)/\d = .agg [.sl ((zaS n p now s.pl).1.outs.map encOu), .sl ((zaS n p now s.pl).1.pubs.map encM), .sl ((zaS n p now s.pl).1.adds.map V.str), .sl ((zaS n p now s.pl).1.drops.map V.str)]/\G=knP T5 fr5::loose::knF::knA::knM m::(ownB bb s'++F):=by
 intro h
 have hall:=h
 obtain ⟨hB,hz,⟨cp,hc,hs⟩,hcn⟩:=h
 by_cases h1:p.level=4
 · by_cases h2:p.client=[]/\p.clean=false
   · have e1:zaS n p now s.pl=zbp n 2 s.pl:=by unfold zaS;rw [if_neg (by rw [h1];decide),if_pos h2]
     rw [e1]
     refine DC.conv (zpQ bb m s n now p (knP T5 fr5::F) ⟨hall,h1,h2⟩) kxbt ?_
     rintro d G ⟨s',hq,rfl,rfl⟩
     exact ⟨_,_,le.rfl_,⟨s',hq,rfl,rfl⟩,by (try simp only [List.append_assoc,List.cons_append,List.nil_append]);exact sub_⟩
   · by_cases h3:p.hasWill=true/\zb5 p.wtopic=false
     · have e1:zaS n p now s.pl=zae n s.pl:=by unfold zaS;rw [if_neg (by rw [h1];decide),if_neg h2,if_pos h3]
       rw [e1]
       refine DC.conv (zp8 bb m s n now p (knP T5 fr5::F) ⟨hall,h1,h2,h3⟩) kxbt ?_
       rintro d G ⟨s',hq,rfl,rfl⟩
       exact ⟨_,_,le.rfl_,⟨s',hq,rfl,rfl⟩,by (try simp only [List.append_assoc,List.cons_append,List.nil_append]);exact sub_⟩
     · have e1:zaS n p now s.pl=zbo n (nameM n p) p now (zbw p.clean (nameM n p) (zaw (nameM n p) s.pl)):=by unfold zaS;rw [if_neg (by rw [h1];decide),if_neg h2,if_neg h3]
       rw [e1]
       refine zn1 bb m T5 fr5 s cp n now p (nameM n p) F ⟨⟨hB,hz,hc,hs⟩,hcn,rfl,h1,fun h=>?_,fun h=>?_⟩
       · cases hcl:p.clean with
         | true=>rfl
         | false=>exact absurd ⟨h,hcl⟩ h2
       · cases hw:zb5 p.wtopic with
         | true=>rfl
         | false=>exact absurd ⟨h,hw⟩ h3
 · have e1:zaS n p now s.pl=zbp n 1 s.pl:=by unfold zaS;rw [if_pos h1]
   rw [e1]
   refine DC.conv (zpN bb m s n now p (knP T5 fr5::F) ⟨hall,h1⟩) kxbt ?_
   rintro d G ⟨s',hq,rfl,rfl⟩
   exact ⟨_,_,le.rfl_,⟨s',hq,rfl,rfl⟩,by (try simp only [List.append_assoc,List.cons_append,List.nil_append]);exact sub_⟩
attribute [local irreducible] zaS
theorem zcN {p:Prop} (h:p:=by first | exact sv | exact hall | fail):p:=h
theorem zfE {P Q:Prop} (q:Q) (h:Hid Q->P:=by (intro q;simp (maxSteps:=1000000) (disch:=omega) only [push_cast,↓reduceIte,reduceCtorEq,Nat.reduceAdd,Nat.reduceMul,Nat.reduceLT,Nat.reduceLeDiff,Nat.reduceEqDiff,Nat.reduceSub,Int.reduceToNat,Int.reduceLT,Int.reduceLE,Int.reduceAdd,Int.reduceSub,Int.reduceMul,Int.reduceNeg,Nat.reduceBEq,Int.reduceBEq,Int.reduceBNe,Nat.reduceBNe,Int.reduceEq,hlk,hC];exact q.1)):P:=h ⟨q⟩
section
attribute [local push_cast 2000] za9 zaW za8 zaL za3 zaG zaV za7 zax za2 zaX zaB zaC zaY zaE zaq za6 zat zaZ za5 zas zba zaD zar zap zbh zbt zbi zaR zaH zaF Option.getD_some Option.getD_none Option.isSome_some Option.isSome_none
theorem zly (bb:Nat) (m:Int) (T5:TypeId) (fr5:Nat×Nat) (cm sm t:Nat) (ts:TS) (l1 l2:List Cn) (ss:List SN) (n now:Int) (cb st:Nat) (left:YS) (bad hd kp:Int) (cl:Bool) (will:List Mg) (lv wv:V) (p:Pk) (T1 T2 T3 T4:List V) (F:Own):((BOK (⟨cm,sm,t,ts,l1++(⟨n,cb,st,left,bad,zbf now,none,kp,cl,will,lv,wv⟩:Cn)::l2,ss⟩:BN)/\BSz (⟨cm,sm,t,ts,l1++(⟨n,cb,st,left,bad,zbf now,none,kp,cl,will,lv,wv⟩:Cn)::l2,ss⟩:BN).pl/\(∃ cp,(⟨cm,sm,t,ts,l1++(⟨n,cb,st,left,bad,zbf now,none,kp,cl,will,lv,wv⟩:Cn)::l2,ss⟩:BN).pl.conn n=some cp/\cp.s=none)/\ConN n p)/\lookA n (kvC l1++(n,cb)::kvC l2)=some cb/\p.kind=1)->DC Tryz.prog 14 [.raw (.pointer (some ⟨bb,0,none⟩)), .int .i64 n, .agg [.int .i64 p.kind, .bool p.dup, .bool p.retain, .int .i64 p.qos, .int .i64 p.id, .str p.topic, .sl (p.payload.map u8), .int .i64 p.level, .str p.client, .bool p.clean, .int .i64 p.keep, .bool p.hasWill, .str p.wtopic, .sl (p.wpay.map u8), .int .i64 p.wqos, .bool p.wretain, .bool p.hasUser, .bool p.hasPass, .str p.user, .sl (p.pass.map u8), .bool p.present, .int .i64 p.code, .sl (p.subs.map encU), .sl (p.codes.map (V.int .i64))], .int .i64 now, .agg [.sl T1, .sl T2, .sl T3, .sl T4]] (knP T5 fr5::loose::knF::knA::knM m :: .blk bb [.raw (.map (some cm)), .raw (.map (some sm)), .raw (.pointer (some ⟨t,0,none⟩))] :: .map cm (entM (V.int .i64) pv (kvC l1++(n,cb)::kvC l2)) :: .blk cb [.raw (.pointer (some ⟨st,0,none⟩)), .int .i64 hd, .raw (.pointer none), .int .i64 kp, .bool cl,wv] :: .map sm (entM V.str pv (kvS ss)) :: .blk st [lv, .int .i64 bad]::(ownC l1++(ownC l2++(ownS ss++(ownT t ts++[]))))++F) fun d G=>∃ s':BN,(BOK s'/\s'.pl=(zaS n p now (⟨cm,sm,t,ts,l1++(⟨n,cb,st,left,bad,zbf now,none,kp,cl,will,lv,wv⟩:Cn)::l2,ss⟩:BN).pl).2)/\d = .tup [zc5 (zaS n p now (⟨cm,sm,t,ts,l1++(⟨n,cb,st,left,bad,zbf now,none,kp,cl,will,lv,wv⟩:Cn)::l2,ss⟩:BN).pl).1, .int .i64 0]/\G=knP T5 fr5::loose::knF::knA::knM m::(ownB bb s'++F):=by
 intro hA
 obtain ⟨hall,hlk,hk1⟩:=hA
 refine DC.bodyS (n_:=114) (show Tryz.prog.funcs[14]? = some Tryz.f14 by kernel_rfl) rfl rfl (by rfl) ?_
 simp only [env0,List.append_assoc,List.cons_append,List.nil_append]
 have kw:=ksIs [0,1,2,3,4,7,9,10,11,12,14,22,37,42,43,50,56,71,85,93,99,106]
 have ow:=zaf []
 have dw5:=drIs 5 [] [3,6]
 have dw13:=drIs 13 [] [3,4,5]
 have dw18:=drIs 18 [10] [4,5,7,8]
 have rw_:=rsIs [.cell 10 38, .tmp 11]
 have hC:True:=trivial
 repeat' (first
  | ((fail_if_success (have zz:=hto));(with_reducible refine DW.toR 9 (G:=.blk rb [.gs (.slice none 0 0) [], .gs (.slice none 0 0) [], .gs (.slice none 0 0) [], .gs (.slice none 0 0) []]::knP T5 fr5::loose::knF::knA::knM m::(ownB bb (⟨cm,sm,t,ts,l1++(⟨n,cb,st,left,bad,zbf now,none,kp,cl,will,lv,wv⟩:Cn)::l2,ss⟩:BN)++F)) ?_ ?_);(focus ((simp only [ownB,BN.maps,zad,zaM,Cn.own,Cn.cells,Cn.sv,Option.map_none,Option.map_some,List.append_assoc,List.cons_append,List.nil_append,List.append_nil]);exact sub_));(have hto:True:=trivial))
  | ((refine DOp.load_ rfl rfl ?_);(repeat (with_reducible first | refine OnB.here ?_ | refine OnB.next ?_ | (refine OnB.inH (by assumption) ?_;with_reducible intro C) | refine OnB.skip ?_));refine zfE ?_)
  | ((refine DOp.look_ rfl rfl ?_);(repeat (with_reducible first | refine OnM.here ?_ | refine OnM.next ?_ | (refine OnM.inN (by assumption) ?_;with_reducible intro C hC) | (refine OnM.inK (by assumption) ?_;with_reducible intro C hC) | refine OnM.skip ?_));refine zfE ?_)
  | refine g_ ?_
  | ((with_reducible refine And.intro ?_ ?_);(exact zcN))
  | (refine DW.cond (by rfl) ?_ ?_<;>(first | exact i0_ | (intro hb;(try simp only [↓reduceCtorEq,not_true_eq_false,not_false_eq_true,hbs,Int.reduceBEq,Int.reduceBNe,Int.reduceEq] at hb);(try refine zfE ?_))))
  | ((with_reducible first | refine zaa ?_ ?_ | refine zak ?_ ?_)<;>(intro hb;rw [hb];revert hb;(first | exact i0_ | (intro hb;(try simp only [↓reduceCtorEq,not_true_eq_false,not_false_eq_true,hbs,Int.reduceBEq,Int.reduceBNe,Int.reduceEq] at hb);(try refine zfE ?_)))))
  | ((first | refine rn_ ?_ | refine dn_ ?_ | refine kn_ ?_)<;>(refine zfE ?_))
  | ((refine dm_ ?_);(first | (refine v_ (zdv _ _) ?_ (ha:=by exact zcN) (hk:=fun q=>q.1);refine zfE ?_) | (refine DVop.look_ rfl rfl rfl rfl ?_;(repeat (with_reducible first | refine OnM.here ?_ | refine OnM.next ?_));refine zfE ?_)))
  | ((refine von_ ?_);refine zfE ?_)
  | ((first | (refine DOp.look_ rfl rfl ?_;(repeat (with_reducible first | refine OnM.here ?_ | refine OnM.next ?_))))<;>(refine zfE ?_))
  | (refine q_ (zdv _ _) ?_ (ha:=by exact zcN) (hk:=fun q=>q.1);refine zfE ?_)
  | (refine p_ (zlG (s:=(⟨cm,sm,t,ts,l1++(⟨n,cb,st,left,bad,zbf now,none,kp,cl,will,lv,wv⟩:Cn)::l2,ss⟩:BN)) (p:=p) _ _ _ _ _ _ _) ?_ (ha:=by exact zcN);rintro d H1 ⟨s2,⟨hs2,hp2⟩,rfl,rfl⟩<;>refine zfE ?_)
  | ((refine on_ ?_);refine zfE ?_)
  | refine f_ ?_
  | refine vm_ ?_
  | ((fail_if_success (have zz:=rb));with_reducible intro rb)
  | with_reducible intro b)
 all_goals first
 | (((with_reducible refine kill_ ?_);omega))
 | (exact kxbw)
 | (trace_state;fail)
end
theorem zlU (n now:Int) (b:Br):(zbV n now b).conn n=(b.conn n).map fun c=>{ c with heard:=zbf now }:=by
 unfold zbV Br.conn
 simp only
 induction b.conns with
 | nil=>rfl
 | cons c l ih =>
  rw [List.map_cons]
  by_cases h:c.n=n
  · rw [if_pos h,List.find?_cons_of_pos (by simp [h]),List.find?_cons_of_pos (by simp [h])];rfl
  · rw [if_neg h,List.find?_cons_of_neg (by simp [h]),List.find?_cons_of_neg (by simp [h]),ih]
theorem zes (bb:Nat) (m:Int) (T5:TypeId) (fr5:Nat×Nat) (s:BN) (n now:Int) (p:Pk) (T1 T2 T3 T4:List V) (F:Own):(BOK s/\BSz s.pl/\(∃ cp,s.pl.conn n=some cp/\cp.s=none)/\ConN n p/\p.kind=1)->DC Tryz.prog 14 [.raw (.pointer (some ⟨bb,0,none⟩)), .int .i64 n, .agg [.int .i64 p.kind, .bool p.dup, .bool p.retain, .int .i64 p.qos, .int .i64 p.id, .str p.topic, .sl (p.payload.map u8), .int .i64 p.level, .str p.client, .bool p.clean, .int .i64 p.keep, .bool p.hasWill, .str p.wtopic, .sl (p.wpay.map u8), .int .i64 p.wqos, .bool p.wretain, .bool p.hasUser, .bool p.hasPass, .str p.user, .sl (p.pass.map u8), .bool p.present, .int .i64 p.code, .sl (p.subs.map encU), .sl (p.codes.map (V.int .i64))], .int .i64 now, .agg [.sl T1, .sl T2, .sl T3, .sl T4]] ((knP T5 fr5::loose::knF::knA::knM m::(ownB bb s++[]))++F) fun d G=>∃ s':BN,(BOK s'/\s'.pl=(zaS n p now (zbV n now s.pl)).2)/\d = .tup [zc5 (zaS n p now (zbV n now s.pl)).1, .int .i64 0]/\G=knP T5 fr5::loose::knF::knA::knM m::(ownB bb s'++F):=by
 rintro ⟨h,hz,⟨cp,hc,hs⟩,hcon,hk⟩
 have hc0:=hc
 obtain ⟨cm,sm,t,ts,l1,c,l2,ss,rfl,rfl,hcn,h1,h2⟩:=h.at hc
 obtain ⟨cn,cb,st,left,bad,hd,sv,kp,cl,will,lv,wv⟩:=c
 have hcn1:n=cn:=hcn.symm
 subst hcn1
 cases sv with
 | some e=>simp [Cn.pl] at hs
 | none =>
  have hlk:lookA n (kvC l1++(n,cb)::kvC l2)=some cb:=by have:=ze6 (l2:=l2) h1;rwa [zaM] at this
  have hp:BN.pl ⟨cm,sm,t,ts,l1++(⟨n,cb,st,left,bad,zbf now,none,kp,cl,will,lv,wv⟩:Cn)::l2,ss⟩=zbV n now (BN.pl ⟨cm,sm,t,ts,l1++(⟨n,cb,st,left,bad,hd,none,kp,cl,will,lv,wv⟩:Cn)::l2,ss⟩):=zhG (c:=(⟨n,cb,st,left,bad,hd,none,kp,cl,will,lv,wv⟩:Cn)) now h1 h2
  refine DC.conv (zly bb m T5 fr5 cm sm t ts l1 l2 ss n now cb st left bad hd kp cl will lv wv p T1 T2 T3 T4 F ⟨⟨h.heard now,by rw [hp];exact hz.heard _ _,⟨_,by rw [hp,zlU,hc0];rfl,rfl⟩,hcon⟩,hlk,hk⟩) kxbc ?_
  rintro d G ⟨s',⟨hs',hp'⟩,rfl,rfl⟩
  exact ⟨_,_,le.rfl_,⟨s',⟨hs',by rw [hp',hp]⟩,by rw [hp],rfl⟩,sub_⟩
end
section
theorem zgc (now:Int) (nm:YS):zb4 now (newA nm)=newA nm:=rfl
theorem zgx (now:Int) (nm:YS):zam now (newA nm)=[]:=rfl
theorem zfJ:zaK []=[]:=List.eq_nil_of_length_eq_zero (Nat.le_zero.1 (zab []))
theorem zhh (kind id:Int) (pr:Bool) (code:Int) (h:kind∈[2,4,5,6,7,11,13] ) (h2:kind=2\/(pr=false/\code=0)) (h3:kind=2\/kind=13->id=0):onlyM (zan kind id pr code)=zan kind id pr code:=by
 simp only [List.mem_cons,List.not_mem_nil,or_false] at h
 rcases h with rfl | rfl | rfl | rfl | rfl | rfl | rfl<;>simp at h2 h3<;>(try obtain ⟨rfl,rfl⟩:=h2)<;>(try subst h3)<;>rfl
theorem zfh {pr:Bool} {code:Int} (h:0<=code/\code<=5) (h2:pr=true->code=0):zaj (zan 2 0 pr code)=true:=by
 have e:onlyM (zan 2 0 pr code)=zan 2 0 pr code:=zhh 2 0 pr code (by simp) (.inl rfl) (fun _=>rfl)
 have hc:chkB []=true:=by first | rfl | decide | simp [chkB]
 have hc6:code=0\/code=1\/code=2\/code=3\/code=4\/code=5:=by omega
 unfold zaj preM
 rw [e]
 cases pr with
 | false=>rcases hc6 with rfl | rfl | rfl | rfl | rfl | rfl<;>simp [zan,inM,zen,hc,zeT,numM,zbl]
 | true =>
  have:=h2 rfl
  subst this
  simp [zan,inM,zen,hc,zeT,numM,zbl]
theorem zq9:varM 2=[2]:=by kernel_rfl
theorem varM_0:varM 0=[0]:=by kernel_rfl
theorem byteW_0:zbr 0=0:=by kernel_rfl
theorem byteW_1:zbr 1=1:=by kernel_rfl
theorem zkL:zbr 32=32:=by kernel_rfl
theorem zov:zbr 208=208:=by kernel_rfl
def zdA (pr:Bool) (code:Int):YS:=[32,2,if pr=true then 1 else 0,zbr code]
theorem zkU {pr:Bool} {code:Int} (h:0<=code/\code<=5) (h2:pr=true->code=0):putM (zan 2 0 pr code)=zdA pr code:=by
 unfold putM
 rw [if_pos (zfh h h2)]
 show zbr 32::(varM 2++[zbr (if pr=true then 1 else 0),zbr code])=zdA pr code
 unfold zdA
 cases pr
 · simp [zq9,zkL,byteW_0]
 · simp [zq9,zkL,byteW_1]
theorem zh4 (n:Int) {pr:Bool} {code:Int} (h:0<=code/\code<=5) (h2:pr=true->code=0):outM n [zan 2 0 pr code]=[⟨n,zdA pr code,false⟩]:=by rw [zoc (zfh h h2),zkU h h2]
theorem zhp:zaj (zan 13 0 false 0)=true:=by
 have e:onlyM (zan 13 0 false 0)=zan 13 0 false 0:=zhh 13 0 false 0 (by simp) (.inr ⟨rfl,rfl⟩) (fun _=>rfl)
 have hc:chkB []=true:=by first | rfl | decide | simp [chkB]
 unfold zaj preM
 rw [e]
 simp [zan,inM,zen,hc,zeT,numM,zbl]
theorem zpz (n:Int):outM n [zan 13 0 false 0]=[⟨n,[208,0],false⟩]:=by
 rw [zoc zhp]
 unfold putM
 rw [if_pos zhp]
 show [(⟨n,zbr 208::(varM 0++[]),false⟩:Ou)]=_
 rw [varM_0,zov];rfl
end
section
theorem zgh {b:Br} {nm:YS} (h:b.ses nm=none):zah nm b=([],b):=by unfold zah;rw [h]
theorem zm4 (e:Ef) (o:List Ou) (h:e.drops=[]):andM e ⟨o,[],[],[]⟩=⟨e.outs++o,e.pubs,e.adds,[]⟩:=by
 unfold andM
 rw [h]
 simp only [List.append_nil,zfJ]
def zdG (lev:Int) (nm:YS) (cl:Bool) (kp:Int) (hw:Bool) (wt wp:YS) (wq:Int) (wr:Bool):Pk:=⟨1,false,false,0,0,[],[],lev,nm,cl,kp,hw,wt,wp,wq,wr,false,false,[],[],false,0,[],[]⟩
theorem zf9 {b:Br} {n now:Int} {p:Pk} (hlv:p.level=4) (hn:p.client≠[]) (hw:p.hasWill=true->zb5 p.wtopic=true) (hof:ofM p.client b = -1) (hs:b.ses p.client=none) :
  zaS n p now b=(⟨[⟨n,zdA false 0,false⟩],[],[],[]⟩,⟨b.conns.map (fun c=>if c.n=n then zcH p.client p c else c),b.sess++[newA p.client],b.L⟩):=by
 have hnm:nameM n p=p.client:=by unfold nameM;rw [if_neg hn]
 unfold zaS
 rw [if_neg (fun h=>h hlv),if_neg (fun h=>hn h.1),if_neg (fun h=>by rw [hw h.1] at h;exact Bool.noConfusion h.2),hnm,zlC hof]
 have hx:zbw p.clean p.client (nilE,b)=(nilE,b):=by
  unfold zbw
  split
  · rw [zgh hs,zm4 _ _ rfl];rfl
  · rfl
 rw [hx]
 unfold zbo zdX zau sesD
 simp only [hs,Option.isSome_none,Option.getD_none,Bool.false_eq_true,if_false,zgx,zgc]
 rw [zh4 n ⟨by decide,by decide⟩ (fun h=>Bool.noConfusion h),zm4 _ _ rfl]
 rfl
def zcc (n:Int):Br:=⟨[newC n 0],[],[]⟩
def zcI (n:Int) (nm:YS) (kp:Int) (cl:Bool) (hd:Int) (w:List Mg):Br:=⟨[⟨n,[],0,hd,some nm,kp,cl,w⟩],[newA nm],[]⟩
theorem zn5 (n:Int):BSz (zcc n):=⟨Nat.zero_le _,fun _ h=>nomatch h⟩
theorem zok (n:Int) (nm:YS) (kp:Int) (cl:Bool) (hd:Int) (w:List Mg):BSz (zcI n nm kp cl hd w):=⟨Nat.zero_le _,fun a ha=>by
 rw [List.mem_singleton.1 ha];exact ⟨Nat.zero_le _,fun _ h=>nomatch h⟩⟩
theorem ze1:zbf 0=0:=by unfold zbf;decide
theorem zhg (n:Int):(zcc n).conn n=some (newC n 0):=by simp [zcc,Br.conn,newC]
theorem zha (n:Int) (nm:YS) (kp:Int) (cl:Bool) (hd:Int) (w:List Mg):(zcI n nm kp cl hd w).conn n=some ⟨n,[],0,hd,some nm,kp,cl,w⟩:=by simp [zcI,Br.conn]
theorem zoN (n:Int) (hn:0<=n/\n<16):zcX n 0 newB=zcc n:=by
 unfold zcX newB zcc Br.conn
 rw [if_neg (by simp;omega)];rfl
theorem zjq (n:Int):zbV n 0 (zcc n)=zcc n:=by simp [zbV,zcc,newC,ze1]
theorem zjN (n now:Int) (nm:YS) (kp:Int) (cl:Bool) (hd:Int) (w:List Mg):zbV n now (zcI n nm kp cl hd w)=zcI n nm kp cl (zbf now) w:=by simp [zbV,zcI]
attribute [local irreducible] SN.own ownT ownC ownS ownB zae zbj zah zaK zb5 outM zaS
attribute [local irreducible] DW SeqD DV DOp DC DVX DVJ idsF usI sortS putM zaj onlyM
theorem zq5 (bb:Nat) (s:BN) (n:Int) (F:Own):(BOK s/\s.pl=newB/\0<=n/\n<16)->DC Tryz.prog 13 [.raw (.pointer (some ⟨bb,0,none⟩)), .int .i64 n, .int .i64 0] ((ownB bb s++[])++F) fun d G=>∃ s':BN,(BOK s'/\s'.pl=zcc n)/\d = .int .i64 0/\G=ownB bb s'++F:=fun ⟨h,hp,hn⟩=>by
 have:=zfZ bb s n 0 F ⟨h,hn,by rw [hp];rfl⟩
 rwa [hp,zoN n hn] at this
theorem zns (bb:Nat) (s:BN) (n:Int) (F:Own):(BOK s/\s.pl=zcc n/\0<=n/\n<16)->DC Tryz.prog 13 [.raw (.pointer (some ⟨bb,0,none⟩)), .int .i64 n, .int .i64 0] ((ownB bb s++[])++F) fun d G=>d = .int .i64 30/\G=(ownB bb s++[])++F:=fun ⟨h,hp,hn⟩ =>
 zmj bb s n 0 F ⟨hn.1,hn.2,by rw [hp,zhg];rfl⟩
theorem zp5 (bb:Nat) (m:Int) (T5:TypeId) (fr5:Nat×Nat) (s:BN) (n:Int) (nm:YS) (cl:Bool) (kp:Int) (F:Own):(BOK s/\s.pl=zcc n/\(0<=n/\n<16)/\nm≠[]/\nm.length<=1000/\0<=kp/\kp<=1000)->DC Tryz.prog 14 [.raw (.pointer (some ⟨bb,0,none⟩)), .int .i64 n, .agg [.int .i64 1, .bool false, .bool false, .int .i64 0, .int .i64 0, .str [], .gs (.slice none 0 0) [], .int .i64 4, .str nm, .bool cl, .int .i64 kp, .bool false, .str [], .gs (.slice none 0 0) [], .int .i64 0, .bool false, .bool false, .bool false, .str [], .gs (.slice none 0 0) [], .bool false, .int .i64 0, .gs (.slice none 0 0) [], .gs (.slice none 0 0) []], .int .i64 0, .agg [.gs (.slice none 0 0) [], .gs (.slice none 0 0) [], .gs (.slice none 0 0) [], .gs (.slice none 0 0) []]] ((knP T5 fr5::loose::knF::knA::knM m::(ownB bb s++[]))++F) fun d G=>∃ s':BN,(BOK s'/\s'.pl=zcI n nm kp cl 0 [])/\d = .tup [zc5 ⟨[⟨n,zdA false 0,false⟩],[],[],[]⟩, .int .i64 0]/\G=knP T5 fr5::loose::knF::knA::knM m::(ownB bb s'++F):=fun ⟨h,hp,hn,hnm,hnl,hk0,hk1⟩=>by
 have h1:=zes bb m T5 fr5 s n 0 (zdG 4 nm cl kp false [] [] 0 false) [] [] [] [] F ⟨h,by rw [hp];exact zn5 n,⟨_,by rw [hp];exact zhg n,rfl⟩,⟨hn,by unfold nameM;rw [if_neg (show ¬ (zdG 4 nm cl kp false [] [] 0 false).client=[] from hnm)];show nm.length<=100000;omega,Nat.zero_le _,Nat.zero_le _,by show -1000000000<=kp;omega,by show kp<=1000000000;omega⟩,rfl⟩
 rw [hp,zjq,zf9 (p:=zdG 4 nm cl kp false [] [] 0 false) rfl hnm (fun h=>Bool.noConfusion h) (by simp [ofM,zcc,newC]) (by simp [Br.ses,zcc])] at h1
 have h2:(⟨(zcc n).conns.map (fun c=>if c.n=n then zcH nm (zdG 4 nm cl kp false [] [] 0 false) c else c),(zcc n).sess++[newA nm],(zcc n).L⟩:Br)=zcI n nm kp cl 0 []:=by simp [zcc,newC,zcI,zcH,zdG,ze1]
 simp only [zdG] at h1 h2
 rw [h2] at h1
 exact DC.args (Les.cons le.rfl_ (Les.cons le.rfl_ (Les.cons (le.agg (Les.cons le.rfl_ (Les.cons le.rfl_ (Les.cons le.rfl_ (Les.cons le.rfl_ (Les.cons le.rfl_ (Les.cons le.rfl_ (Les.cons (le.gs rfl) (Les.cons le.rfl_ (Les.cons le.rfl_ (Les.cons le.rfl_ (Les.cons le.rfl_ (Les.cons le.rfl_ (Les.cons le.rfl_ (Les.cons (le.gs rfl) (Les.cons le.rfl_ (Les.cons le.rfl_ (Les.cons le.rfl_ (Les.cons le.rfl_ (Les.cons le.rfl_ (Les.cons (le.gs rfl) (Les.cons le.rfl_ (Les.cons le.rfl_ (Les.cons (le.gs rfl) (Les.cons (le.gs rfl) (Les.nil)))))))))))))))))))))))))) (Les.cons le.rfl_ (Les.cons (le.agg (Les.cons (le.gs rfl) (Les.cons (le.gs rfl) (Les.cons (le.gs rfl) (Les.cons (le.gs rfl) Les.nil))))) Les.nil))))) h1
theorem zoW (bb:Nat) (m:Int) (s:BN) (n:Int) (nm:YS) (cl:Bool) (kp hd now:Int) (w:List Mg) (F:Own):(BOK s/\s.pl=zcI n nm kp cl hd w)->DC Tryz.prog 14 [.raw (.pointer (some ⟨bb,0,none⟩)), .int .i64 n, .agg [.int .i64 12, .bool false, .bool false, .int .i64 0, .int .i64 0, .str [], .gs (.slice none 0 0) [], .int .i64 0, .str [], .bool false, .int .i64 0, .bool false, .str [], .gs (.slice none 0 0) [], .int .i64 0, .bool false, .bool false, .bool false, .str [], .gs (.slice none 0 0) [], .bool false, .int .i64 0, .gs (.slice none 0 0) [], .gs (.slice none 0 0) []], .int .i64 now, .agg [.gs (.slice none 0 0) [], .gs (.slice none 0 0) [], .gs (.slice none 0 0) [], .gs (.slice none 0 0) []]] ((loose::knF::knA::knM m::(ownB bb s++[]))++F) fun d G=>∃ s':BN,(BOK s'/\s'.pl=zcI n nm kp cl (zbf now) w)/\d = .tup [zc5 ⟨[⟨n,[208,0],false⟩],[],[],[]⟩, .int .i64 0]/\G=loose::knF::knA::knM m::(ownB bb s'++F):=fun ⟨h,hp⟩=>by
 have h1:=zi5 bb m s n now (zan 12 0 false 0) [] [] [] [] F ⟨h,by rw [hp];exact zok ..,⟨_,by rw [hp];exact zha ..,rfl⟩,rfl⟩
 rw [hp,zjN,zpz] at h1
 simp only [zan] at h1
 exact DC.args (Les.cons le.rfl_ (Les.cons le.rfl_ (Les.cons (le.agg (Les.cons le.rfl_ (Les.cons le.rfl_ (Les.cons le.rfl_ (Les.cons le.rfl_ (Les.cons le.rfl_ (Les.cons le.rfl_ (Les.cons (le.gs rfl) (Les.cons le.rfl_ (Les.cons le.rfl_ (Les.cons le.rfl_ (Les.cons le.rfl_ (Les.cons le.rfl_ (Les.cons le.rfl_ (Les.cons (le.gs rfl) (Les.cons le.rfl_ (Les.cons le.rfl_ (Les.cons le.rfl_ (Les.cons le.rfl_ (Les.cons le.rfl_ (Les.cons (le.gs rfl) (Les.cons le.rfl_ (Les.cons le.rfl_ (Les.cons (le.gs rfl) (Les.cons (le.gs rfl) (Les.nil)))))))))))))))))))))))))) (Les.cons le.rfl_ (Les.cons (le.agg (Les.cons (le.gs rfl) (Les.cons (le.gs rfl) (Les.cons (le.gs rfl) (Les.cons (le.gs rfl) Les.nil))))) Les.nil))))) h1
theorem kCli_dc (bb:Nat) (s:BN) (n:Int) (nm:YS) (cl:Bool) (kp hd:Int) (w:List Mg) (F:Own):(BOK s/\s.pl=zcI n nm kp cl hd w)->DC Tryz.prog 17 [.raw (.pointer (some ⟨bb,0,none⟩)), .int .i64 n] ((ownB bb s++[])++F) fun d G=>d = .str nm/\G=(ownB bb s++[])++F:=fun ⟨h,hp⟩=>by
 have h1:=znR bb s n F h
 have h2:zcu n (zcI n nm kp cl hd w)=nm:=by unfold zcu;rw [zha];rfl
 rwa [hp,h2] at h1
end
section
theorem connB_0:zdA false 0=[32,2,0,0]:=by kernel_rfl
attribute [local irreducible] SN.own ownT ownC ownS ownB zae zbj zah zaK zb5 outM zaS zdA newB zcc zcI
attribute [local irreducible] DW SeqD DV DOp DC DVX DVJ idsF usI sortS putM zaj onlyM
theorem zbB {p:Prop} (h:p:=by first | exact sv | exact rfl | exact ⟨hs0,hp0,by decide,by decide⟩ | exact ⟨hs1,hp1,by decide,by decide⟩ | exact ⟨hs1,hp1,⟨by decide,by decide⟩,by decide,by decide,by decide,by decide⟩ | exact ⟨hs2,hp2⟩ | exact ⟨hs3,hp3⟩ | fail):p:=h
section
attribute [local push_cast 2000] connB_0 zc5 encOu List.map_cons List.map_nil
theorem zls (m:Int) (T5:TypeId) (fr5:Nat×Nat) (F:Own):(True)->DC Tryz.prog 11 [] ([loose,knP T5 fr5,knF,knA,knM m]++F) fun d G=>d = .bool true/\G=[loose,knP T5 fr5,knF,knA,knM m]++F:=by
 intro hA
 refine DC.bodyS (n_:=74) (show Tryz.prog.funcs[11]? = some Tryz.f11 by kernel_rfl) rfl rfl (by rfl) ?_
 simp only [env0,List.append_assoc,List.cons_append,List.nil_append]
 have kw:=ksIs [0,1,2,3,4,5,18]
 have ow:=zaf []
 repeat' (first
  | refine g_ ?_
  | ((with_reducible refine And.intro ?_ ?_);(exact zbB))
  | (refine DW.cond (by rfl) ?_ ?_<;>(first | exact i0_ | (refine ic_ ?_;intro hb)))
  | ((with_reducible refine zaa ?_ ?_)<;>(intro hb;rw [hb];revert hb;(first | exact i0_ | (refine i_ ?_;intro hb))))
  | refine r_ ?_
  | refine k_ ?_
  | (refine p_ (zn0 _) ?_ (ha:=by exact zbB);rintro d H1 ⟨bb,s0,⟨hs0,hp0⟩,rfl,rfl⟩<;>refine s_ ?_)
  | (refine p_ (zq5 _ _ _ _) ?_ (ha:=by exact zbB);rintro d H1 ⟨s1,⟨hs1,hp1⟩,rfl,rfl⟩<;>refine s_ ?_)
  | (refine q_ (zns _ _ _ _) ?_ (ha:=by exact zbB))
  | (refine p_ (zp5 _ _ _ _ _ _ _ _ _ _) ?_ (ha:=by exact zbB);rintro d H1 ⟨s2,⟨hs2,hp2⟩,rfl,rfl⟩<;>refine s_ ?_)
  | (refine p_ (zoW (nm:=[107]) (cl:=true) (kp:=0) (hd:=0) (w:=[]) _ _ _ _ _ _) ?_ (ha:=by exact zbB);rintro d H1 ⟨s3,⟨hs3,hp3⟩,rfl,rfl⟩<;>refine s_ ?_)
  | (refine q_ (kCli_dc (nm:=[107]) (cl:=true) (kp:=0) (hd:=zbf 0) (w:=[]) _ _ _ _) ?_ (ha:=by exact zbB))
  | refine o_ ?_
  | refine f_ ?_
  | ((fail_if_success (have zz:=eb));with_reducible intro eb)
  | ((fail_if_success (have zz:=gb));with_reducible intro gb)
  | with_reducible intro b)
 all_goals first
 | ((exact absurd rfl hb))
 | (exact kxb5)
 | (trace_state;fail)
end
end
end Go.Proofs.YtgekknefphagbaaGreatDoor
