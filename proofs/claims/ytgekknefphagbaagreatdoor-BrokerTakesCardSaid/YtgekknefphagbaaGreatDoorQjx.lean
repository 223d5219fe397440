/- The broker: Take over the whole state: nobody, what may not be said, a ping, a goodbye. -/
import Derived.Test.YtgekknefphagbaaGreatDoorQcx
import Derived.KernelRfl
import Derived.Test.YtgekknefphagbaaGreatDoorTex
namespace Go.Proofs.YtgekknefphagbaaGreatDoor
open Go.RowKit
set_option linter.unusedSimpArgs false
set_option linter.unusedVariables false
set_option linter.unusedSectionVars false
set_option maxHeartbeats 4000000
set_option maxRecDepth 100000
section
theorem zhG {cm sm t:Nat} {ts:TS} {l1 l2:List Cn} {ss:List SN} {c:Cn} (now:Int) (h1:∀ d∈l1,d.n≠c.n) (h2:∀ d∈l2,d.n≠c.n):BN.pl ⟨cm,sm,t,ts,l1++{ c with heard:=zbf now }::l2,ss⟩=zbV c.n now (BN.pl ⟨cm,sm,t,ts,l1++c::l2,ss⟩):=by
 unfold zbV BN.pl
 simp only
 rw [zm1 (c':={ c with heard:=zbf now }) rfl h1 h2]
attribute [local irreducible] SN.own ownT ownC ownS zae zbj zaK zb5
attribute [local irreducible] DW SeqD DV DOp DC DVX DVJ idsF usI sortS putM zaj onlyM
section
attribute [local push_cast 2000] za9 zaW za8 zaL za3 zaG zaV za7 zax za2 zaX zaB zaC zaY zaE zaq za6 zat zaZ za5 zas zba zaD zar zap zbh zbt zbi zaR zaH zaF Option.getD_some Option.getD_none Option.isSome_some Option.isSome_none
end
theorem zi5 (bb:Nat) (m:Int) (s:BN) (n now:Int) (p:Pk) (T1 T2 T3 T4:List V) (F:Own):(BOK s/\BSz s.pl/\(∃ cp,s.pl.conn n=some cp/\cp.s.isSome=true)/\p.kind=12)->DC Tryz.prog 14 [.raw (.pointer (some ⟨bb,0,none⟩)), .int .i64 n, .agg [.int .i64 p.kind, .bool p.dup, .bool p.retain, .int .i64 p.qos, .int .i64 p.id, .str p.topic, .sl (p.payload.map u8), .int .i64 p.level, .str p.client, .bool p.clean, .int .i64 p.keep, .bool p.hasWill, .str p.wtopic, .sl (p.wpay.map u8), .int .i64 p.wqos, .bool p.wretain, .bool p.hasUser, .bool p.hasPass, .str p.user, .sl (p.pass.map u8), .bool p.present, .int .i64 p.code, .sl (p.subs.map encU), .sl (p.codes.map (V.int .i64))], .int .i64 now, .agg [.sl T1, .sl T2, .sl T3, .sl T4]] ((loose::knF::knA::knM m::(ownB bb s++[]))++F) fun d G=>∃ s':BN,(BOK s'/\s'.pl=zbV n now s.pl)/\d = .tup [zc5 (⟨outM n [zan 13 0 false 0],[],[],[]⟩:Ef), .int .i64 0]/\G=loose::knF::knA::knM m::(ownB bb s'++F):=by
 rintro ⟨h,hz,⟨cp,hc,hs⟩,hk⟩
 obtain ⟨cm,sm,t,ts,l1,c,l2,ss,rfl,rfl,hcn,h1,h2⟩:=h.at hc
 obtain ⟨cn,cb,st,left,bad,hd,sv,kp,cl,will,lv,wv⟩:=c
 have hcn1:n=cn:=hcn.symm
 subst hcn1
 cases sv with
 | none=>simp [Cn.pl] at hs
 | some e =>
 obtain ⟨xn,xb⟩:=e
 have hlk:lookA n (kvC l1++(n,cb)::kvC l2)=some cb:=by have:=ze6 (l2:=l2) h1;rwa [zaM] at this
 have hp:BN.pl ⟨cm,sm,t,ts,l1++(⟨n,cb,st,left,bad,zbf now,some (xn,xb),kp,cl,will,lv,wv⟩:Cn)::l2,ss⟩=zbV n now (BN.pl ⟨cm,sm,t,ts,l1++(⟨n,cb,st,left,bad,hd,some (xn,xb),kp,cl,will,lv,wv⟩:Cn)::l2,ss⟩):=zhG (c:=(⟨n,cb,st,left,bad,hd,some (xn,xb),kp,cl,will,lv,wv⟩:Cn)) now h1 h2
 refine DC.conv (zjC bb m cm sm t ts l1 l2 ss n now cb st left bad hd kp cl will lv wv xn xb p T1 T2 T3 T4 F ⟨hlk,hk⟩) kxbc ?_
 rintro d G ⟨rfl,rfl⟩
 exact ⟨_,_,le.rfl_,⟨(⟨cm,sm,t,ts,l1++(⟨n,cb,st,left,bad,zbf now,some (xn,xb),kp,cl,will,lv,wv⟩:Cn)::l2,ss⟩:BN),⟨h.heard now,hp⟩,rfl,rfl⟩,sub_⟩
theorem zmj (bb:Nat) (s:BN) (n now:Int) (F:Own):(0<=n/\n<16/\(s.pl.conn n).isSome=true)->DC Tryz.prog 13 [.raw (.pointer (some ⟨bb,0,none⟩)), .int .i64 n, .int .i64 now] ((ownB bb s++[])++F) fun d G=>d = .int .i64 30/\G=(ownB bb s++[])++F:=fun ⟨hn0,hn1,hc⟩=>by
 rw [zg9] at hc
 obtain ⟨b,hb⟩:=Option.isSome_iff_exists.1 hc
 obtain ⟨cm,sm,t,ts,cs,ss⟩:=s
 refine DC.conv (zoY bb cm sm t (kvC cs) n now b (.map sm (entM V.str pv (kvS ss))::(ownC cs++(ownS ss++(ownT t ts++F)))) ⟨hb,hn0,hn1⟩) kxbb ?_
 rintro d G ⟨rfl,rfl⟩
 exact ⟨_,_,le.rfl_,⟨rfl,rfl⟩,by (simp only [ownB,BN.maps,zad,zai,Cn.own,Cn.cells,Cn.sv,Option.map_none,Option.map_some,List.append_assoc,List.cons_append,List.nil_append,List.append_nil]);exact sub_⟩
end
section
theorem zkx {α:Type} {l m:List α} {k:Nat} (h:l.take k=m.take k) (h1:l.length<=k) (h2:m.length<=k):l=m:=by
 rwa [List.take_of_length_le h1,List.take_of_length_le h2] at h
theorem zkw {α:Type} [Inhabited α] {l m:List α} {k:Nat} (h:l.take k=m.take k) (h1:k<l.length) (h2:k<m.length) (e:l.getD k default=m.getD k default):l.take (k+1)=m.take (k+1):=by
 rw [zex h1,zex h2,h,e]
attribute [local irreducible] DW SeqD DV DOp DC DVX zeT
section
attribute [local push_cast 2000] zbv zbg
theorem zit (a1 a2:YS) (a3:Int) (a4:Bool) (b1 b2:YS) (b3:Int) (b4:Bool) (F:Own):(True)->DC Tryz.prog 233 [.agg [.str a1, .sl (a2.map u8), .int .i64 a3, .bool a4], .agg [.str b1, .sl (b2.map u8), .int .i64 b3, .bool b4]] (([]:Own)++F) fun d G=>d = .bool (decide (a1=b1/\a2=b2/\a3=b3/\a4=b4))/\G=[]++F:=by
 intro hA
 refine DC.bodyS (n_:=33) (show Tryz.prog.funcs[233]? = some Tryz.f233 by kernel_rfl) rfl rfl (by rfl) ?_
 simp only [env0,List.cons_append,List.nil_append]
 have kw:=ksIs [0,1,2,3,4]
 have ow:=zaf []
 repeat' (first
  | refine g_ ?_
  | ((with_reducible refine And.intro ?_ ?_);(exact sv))
  | (refine DW.cond (by rfl) ?_ ?_<;>(first | exact i0_ | (refine ic_ ?_;intro hb)))
  | ((with_reducible refine zaa ?_ ?_)<;>(intro hb;rw [hb];revert hb;(first | exact i0_ | (refine i_ ?_;intro hb))))
  | refine r_ ?_
  | refine k_ ?_
  | refine o_ ?_
  | refine f_ ?_
  | with_reducible intro b)
 all_goals first
 | ((refine ⟨_,_,le.of_eq ?_,⟨rfl,rfl⟩,?_⟩);rotate_left;(exact sub_);congr 1;rw [Bool.eq_iff_iff];(simp_all<;>omega);done)
 | (trace_state;fail)
end
section
attribute [local push_cast 2000] List.append_eq List.cons_append List.nil_append zbv zbg encU
theorem zb6 (p q:Pk) (F:Own):(PkN p/\PkN q)->DC Tryz.prog 182 [.agg [.int .i64 p.kind, .bool p.dup, .bool p.retain, .int .i64 p.qos, .int .i64 p.id, .str p.topic, .sl (p.payload.map u8), .int .i64 p.level, .str p.client, .bool p.clean, .int .i64 p.keep, .bool p.hasWill, .str p.wtopic, .sl (p.wpay.map u8), .int .i64 p.wqos, .bool p.wretain, .bool p.hasUser, .bool p.hasPass, .str p.user, .sl (p.pass.map u8), .bool p.present, .int .i64 p.code, .sl (p.subs.map encU), .sl (p.codes.map (V.int .i64))], .agg [.int .i64 q.kind, .bool q.dup, .bool q.retain, .int .i64 q.qos, .int .i64 q.id, .str q.topic, .sl (q.payload.map u8), .int .i64 q.level, .str q.client, .bool q.clean, .int .i64 q.keep, .bool q.hasWill, .str q.wtopic, .sl (q.wpay.map u8), .int .i64 q.wqos, .bool q.wretain, .bool q.hasUser, .bool q.hasPass, .str q.user, .sl (q.pass.map u8), .bool q.present, .int .i64 q.code, .sl (q.subs.map encU), .sl (q.codes.map (V.int .i64))]] (([]:Own)++F) fun d G=>d = .bool (zeT p q)/\G=[]++F:=by
 intro hA
 obtain ⟨hp,hq⟩:=hA
 refine DC.bodyS (n_:=195) (show Tryz.prog.funcs[182]? = some Tryz.f182 by kernel_rfl) rfl rfl (by rfl) ?_
 simp only [env0,List.cons_append,List.nil_append]
 have kw:=ksIs [0,1,2,3,4,5,6,48,53,66,71,84]
 have ow:=zaf []
 have dw6:=drIs 6 [] [1,4,6,9]
 have dw11:=drIs 11 [] [1,4,6,9]
 have s1:=hp.subs;have s2:=hp.codes;have t1:=hq.subs;have t2:=hq.codes
 repeat' (first
  | ((with_reducible refine DW.loopB 0 (X:=Nat) (fun x=>x<=p.subs.length/\p.subs.take x=q.subs.take x) (fun x=>[(2, .sp [.int .i64 p.kind, .bool p.dup, .bool p.retain, .int .i64 p.qos, .int .i64 p.id, .str p.topic, .sl (p.payload.map u8), .int .i64 p.level, .str p.client, .bool p.clean, .int .i64 p.keep, .bool p.hasWill, .str p.wtopic, .sl (p.wpay.map u8), .int .i64 p.wqos, .bool p.wretain, .bool p.hasUser, .bool p.hasPass, .str p.user, .sl (p.pass.map u8), .bool p.present, .int .i64 p.code, .sl (p.subs.map encU), .sl (p.codes.map (V.int .i64))]),(3, .sp [.int .i64 q.kind, .bool q.dup, .bool q.retain, .int .i64 q.qos, .int .i64 q.id, .str q.topic, .sl (q.payload.map u8), .int .i64 q.level, .str q.client, .bool q.clean, .int .i64 q.keep, .bool q.hasWill, .str q.wtopic, .sl (q.wpay.map u8), .int .i64 q.wqos, .bool q.wretain, .bool q.hasUser, .bool q.hasPass, .str q.user, .sl (q.pass.map u8), .bool q.present, .int .i64 q.code, .sl (q.subs.map encU), .sl (q.codes.map (V.int .i64))]),(5, .int .i64 x)]) (fun x=>([]:Own)) (fun x=>p.subs.length - x) (0) ?_ ?_ ?_);exact (⟨Nat.zero_le _,rfl⟩);(exact kxcm);(try simp only [List.cons_append,List.nil_append]);refine pl_ ?_;intro k ⟨hk,hks⟩;(try simp only [List.cons_append,List.nil_append]);(try simp only at hk hks))
  | ((with_reducible refine DW.loopB 2 (X:=Nat) (fun x=>x<=p.codes.length/\p.codes.take x=q.codes.take x) (fun x=>[(2, .sp [.int .i64 p.kind, .bool p.dup, .bool p.retain, .int .i64 p.qos, .int .i64 p.id, .str p.topic, .sl (p.payload.map u8), .int .i64 p.level, .str p.client, .bool p.clean, .int .i64 p.keep, .bool p.hasWill, .str p.wtopic, .sl (p.wpay.map u8), .int .i64 p.wqos, .bool p.wretain, .bool p.hasUser, .bool p.hasPass, .str p.user, .sl (p.pass.map u8), .bool p.present, .int .i64 p.code, .sl (p.subs.map encU), .sl (p.codes.map (V.int .i64))]),(3, .sp [.int .i64 q.kind, .bool q.dup, .bool q.retain, .int .i64 q.qos, .int .i64 q.id, .str q.topic, .sl (q.payload.map u8), .int .i64 q.level, .str q.client, .bool q.clean, .int .i64 q.keep, .bool q.hasWill, .str q.wtopic, .sl (q.wpay.map u8), .int .i64 q.wqos, .bool q.wretain, .bool q.hasUser, .bool q.hasPass, .str q.user, .sl (q.pass.map u8), .bool q.present, .int .i64 q.code, .sl (q.subs.map encU), .sl (q.codes.map (V.int .i64))]),(6, .int .i64 x)]) (fun x=>([]:Own)) (fun x=>p.codes.length - x) (0) ?_ ?_ ?_);exact (⟨Nat.zero_le _,rfl⟩);(exact kxcm);(try simp only [List.cons_append,List.nil_append]);refine pl_ ?_;intro i ⟨hi,his⟩;(try simp only [List.cons_append,List.nil_append]);(try simp only at hi his))
  | refine g_ ?_
  | ((with_reducible refine And.intro ?_ ?_);(exact sv))
  | (refine DW.cond (by rfl) ?_ ?_<;>(first | exact i0_ | (refine ic_ ?_;intro hb)))
  | ((with_reducible first | refine zaa ?_ ?_ | refine zak ?_ ?_)<;>(intro hb;rw [hb];revert hb;(first | exact i0_ | (refine i_ ?_;intro hb))))
  | refine r_ ?_
  | refine d_ ?_
  | refine k_ ?_
  | ((refine dm_ ?_);(first | (refine v_ (zit _ _ _ _ _ _ _ _ _) ?_)))
  | refine vo_ ?_
  | (refine q_ (zit _ _ _ _ _ _ _ _ _) ?_)
  | refine o_ ?_
  | refine f_ ?_
  | refine vm_ ?_
  | with_reducible intro b)
 all_goals first
 | ((refine ⟨_,_,le.of_eq ?_,⟨rfl,rfl⟩,?_⟩);rotate_left;(exact sub_);(rw [sameM_f (fun h=>by subst h;simp_all)]);done)
 | ((refine ⟨_,_,le.of_eq ?_,⟨rfl,rfl⟩,?_⟩);rotate_left;(exact sub_);(have es:=zkx hks (by omega) (by omega));(have ec:=zkx his (by omega) (by omega));(congr 1);(rw [Bool.eq_iff_iff,znX]);constructor;(focus (intro h;(apply pk_ext);(simp_all);done));(focus (intro h;(subst h);(simp_all);done));done)
 | (refine ⟨k+1,⟨by (try simp only);omega,zkw hks (by omega) (by omega) (by first | exact Prod.ext hb.1 hb.2 | (apply Prod.ext<;>simp_all))⟩,by (try simp only);omega,by simp [Sub,get],?_⟩;(exact kxce);done)
 | (refine ⟨i+1,⟨by (try simp only);omega,zkw his (by omega) (by omega) (by simp_all)⟩,by (try simp only);omega,by simp [Sub,get],?_⟩;(exact kxce);done)
 | (trace_state;fail)
end
end
end Go.Proofs.YtgekknefphagbaaGreatDoor
