/- The tables of a story are small. -/
import Derived.Test.YtbmbcjmgjdnlnaaGreatDoorTfx
import Derived.KernelRfl
import Derived.Test.YtbmbcjmgjdnlnaaGreatDoorFs1x
import Derived.Test.YtbmbcjmgjdnlnaaGreatDoorFp3x
namespace Go.Proofs.YtbmbcjmgjdnlnaaGreatDoor
open Go.RowKit
set_option linter.unusedSimpArgs false
set_option linter.unusedVariables false
set_option linter.unusedSectionVars false
set_option maxHeartbeats 4000000
set_option maxRecDepth 100000
section
theorem filt_idx:∀ a∈filterL,filterL.idxOf a<10/\∀ b∈filterL,filterL.idxOf a=filterL.idxOf b->a=b:=by decide
theorem top_idx:∀ a∈topicL,topicL.idxOf a<7/\∀ b∈topicL,topicL.idxOf a=topicL.idxOf b->a=b:=by decide
theorem story_small {i:Nat} {t:TTable} (hi:i<=20) (h:TR t) (hr:Rng i t):t.routes.length<=960/\t.cells.length<=7:=by
 have hin:∀ r∈t.routes,(0<=r.dot.node/\r.dot.node<3)/\(1<=r.dot.epoch/\r.dot.epoch<=21):=fun r hrr=>by
  have hh:=has_iff.1 (h.rok r hrr).2.1
  rcases top_cases h.seen r.dot.node r.dot.epoch with ⟨x,hx,h1,h2,h3⟩ | ⟨_,h3⟩
  · have:=hr.s x hx;omega
  · omega
 constructor
 · refine pigeon_map (fun r:TRoute=>((r.dot.node * 32+r.dot.epoch) * 10+(filterL.idxOf r.filter:Nat)).toNat) 960 (pw_mem h.rone fun a ha b hb hab=>?_) fun d hd=>?_
   · have h1:=hin a ha;have h2:=hin b hb
     have f1:=filt_idx _ (hr.r a ha);have f2:=filt_idx _ (hr.r b hb)
     show ((a.dot.node * 32+a.dot.epoch) * 10+((filterL.idxOf a.filter:Nat):Int)).toNat≠((b.dot.node * 32+b.dot.epoch) * 10+((filterL.idxOf b.filter:Nat):Int)).toNat
     intro e
     have g1:=f1.1;have g2:=f2.1
     have he:filterL.idxOf a.filter=filterL.idxOf b.filter:=by omega
     exact hab ⟨by omega,by omega,f1.2 _ (hr.r b hb) he⟩
   · have h1:=hin d hd
     have g1:=(filt_idx _ (hr.r d hd)).1
     show ((d.dot.node * 32+d.dot.epoch) * 10+((filterL.idxOf d.filter:Nat):Int)).toNat<960
     omega
 · refine pigeon_map (fun c:TCell=>topicL.idxOf c.topic) 7 (pw_mem h.csort fun a ha b hb hab=>?_) fun d hd=>(top_idx _ (hr.c d hd).1).1
   intro e
   have:=(top_idx _ (hr.c a ha).1).2 _ (hr.c b hb).1 e
   rw [this,bl_irrefl] at hab;cases hab
theorem table_small {i:Nat} {t:TTable} (hi:i<=20) (h:TR t) (hr:Rng i t):(tableBy t).length<=60000:=by
 obtain ⟨l1,l2,_⟩:=story_len hi h hr
 obtain ⟨l3,l4⟩:=story_small hi h hr
 have e1:(flatBy fenceBy t.fences).length=16 * t.fences.length:=flatBy_len (fun x _=>fenceBy_len x)
 have e2:(flatBy routeBy t.routes).length<=41 * t.routes.length:=flatBy_le fun x hx=>by rw [routeBy_len];have:=filterL_len (hr.r _ hx);omega
 have e3:(flatBy cellBy t.cells).length<=119 * t.cells.length:=flatBy_le fun x hx=>by
  rw [cellBy_len];obtain ⟨a1,a2,_⟩:=hr.c _ hx;have:=topicL_len a1;omega
 simp only [tableBy,List.length_append,dotsBy_len,numsL_len,List.length_cons,List.length_nil,e1]
 omega
theorem tables_small {l:List TDeed} (hn:l.length<=20) (h:∀ d∈l,deedOk d) {k:Int} (hk:0<=k/\k<3):(tableBy ((tablesM l).getD k.toNat default)).length<=60000:=by
 obtain ⟨t1,t2,_⟩:=(Story.of h).tab hk
 exact table_small hn t1 t2
end
section
theorem tables_seen {l:List TDeed} (hn:l.length<=20) (h:∀ d∈l,deedOk d) {k:Int} (hk:0<=k/\k<3):((tablesM l).getD k.toNat default).seen.length<=96:=by
 obtain ⟨t1,t2,_⟩:=(Story.of h).tab hk
 exact (story_len hn t1 t2).1
theorem neat_in {t:TTable} (h:Neat t):InT t:=by
 have dn:∀ {d:TDot},dotIn d->InD d:=fun h=>⟨⟨by have:=h.1.1;omega,h.1.2⟩,⟨by have:=h.2.1.1;omega,h.2.1.2⟩,⟨by have:=h.2.2.1;omega,h.2.2.2⟩⟩
 have ni:∀ {x:Int},natIn x->i64 x:=fun h=>⟨by have:=h.1;omega,h.2⟩
 refine ⟨fun d hd=>?_,fun d hd=>?_,fun d hd=>?_,fun d hd=>?_⟩
 · obtain ⟨k,hk,rfl⟩:=mem_getD hd;exact dn (h.d k)
 · obtain ⟨k,hk,rfl⟩:=mem_getD hd;exact ⟨ni (h.f k).1,ni (h.f k).2⟩
 · obtain ⟨k,hk,rfl⟩:=mem_getD hd;exact dn (h.r k).1
 · obtain ⟨k,hk,rfl⟩:=mem_getD hd
   obtain ⟨c1,⟨c2,c3,c4⟩,c5,_⟩:=h.c k
   exact ⟨dn c1,ni c2,ni c3,ni c4,ni c5⟩
theorem neat_light {t:TTable} (h:Neat t):LightT t:=by
 refine ⟨Nat.le_trans h.ls (by decide),Nat.le_trans h.lf (by decide),Nat.le_trans h.lr (by decide),Nat.le_trans h.lc (by decide),fun r hr=>?_,fun c hc=>?_,fun c hc=>?_⟩
 · obtain ⟨k,hk,rfl⟩:=mem_getD hr;exact Nat.le_trans (h.r k).2 (by decide)
 · obtain ⟨k,hk,rfl⟩:=mem_getD hc;exact Nat.le_trans (h.c k).2.2.2.1 (by decide)
 · obtain ⟨k,hk,rfl⟩:=mem_getD hc;exact Nat.le_trans (h.c k).2.2.2.2 (by decide)
structure SomeF (x:Str) (f:TFrame):Prop where
 i:InF f
 b:LightF f
 r:frameB f=true
 n:(fullBy f).length<=60100
 p:f.kind=3->f.payload=x
 d:Lite 1000000000 f.tab/\f.topic.length<=1000
 s:f.sums.length<=20/\f.seen.length<=100/\f.payload.length<=40
theorem empty_lite:Lite 1000000000 emptyT:=⟨Nat.zero_le _,Nat.zero_le _,Nat.zero_le _,Nat.zero_le _,(fun _ h=>nomatch h),(fun _ h=>nomatch h),(fun _ h=>nomatch h)⟩
theorem len_nil0:∀ x∈([]:List Int),0<=x/\x<=18446744073709551615:=fun _ h=>nomatch h
theorem some_1 {a b c:Int} {ls:List Int} {se:List TDot} {x:Str} (ha:0<=a/\a<16) (hb:1<=b/\b<=2147483647) (hc:0<=c/\c<=1099511627776) (h1:ls.length=10) (h2:∀ x∈ls,0<=x/\x<=18446744073709551615) (h3:rightB se=true) (h4:se.length<=96) (h5:∀ d∈se,InD d):SomeF x ⟨1,a,b,c,ls,se,emptyT,0,[],[],0,false⟩:=by
 refine ⟨⟨h2,h5,empty_in⟩,⟨by simp only;omega,by simp only;omega,empty_light,Nat.zero_le _,Nat.zero_le _⟩,?_,?_,(fun h=>by cases h),⟨empty_lite,Nat.zero_le _⟩,by simp only;omega,by simp only;omega,Nat.zero_le _⟩
 · unfold frameB wordB
   simp [ha.1,ha.2,hb.1,hb.2,hc.1,hc.2,h1,h3]
 · rw [fullBy_len,restP_1 rfl]
   have:=flatBy_len (f:=sumBy) (n:=8) (l:=ls) (fun x _=>sumP_len x)
   simp only [List.length_append,numsL_len,dotsBy_len,List.length_cons,List.length_nil,this]
   omega
theorem some_2 {a b c:Int} {t:TTable} {x:Str} (ha:0<=a/\a<16) (hb:1<=b/\b<=2147483647) (hc:0<=c/\c<=1099511627776) (h1:Neat t) (h2:Lite 3072 t) (h3:tabB t=true) (h4:(tableBy t).length<=60000):SomeF x ⟨2,a,b,c,[],[],t,0,[],[],0,false⟩:=by
 refine ⟨⟨len_nil0,(fun _ h=>nomatch h),neat_in h1⟩,⟨Nat.zero_le _,Nat.zero_le _,neat_light h1,Nat.zero_le _,Nat.zero_le _⟩,?_,?_,(fun h=>by cases h),⟨h2.mono (by decide),Nat.zero_le _⟩,Nat.zero_le _,Nat.zero_le _,Nat.zero_le _⟩
 · unfold frameB wordB
   simp [ha.1,ha.2,hb.1,hb.2,hc.1,hc.2,h3]
 · rw [fullBy_len,restP_2 rfl];exact Nat.le_trans (Nat.add_le_add_left h4 36) (by decide)
theorem some_3 {a b c d q:Int} {tp x:Str} (ha:0<=a/\a<16) (hb:1<=b/\b<=2147483647) (hc:0<=c/\c<=1099511627776) (hd:1<=d/\d<=2147483647) (hq:0<=q/\q<=2) (h1:nameB tp=true) (h2:tp.length<=1000) (h3:x.length<=40):SomeF x ⟨3,a,b,c,[],[],emptyT,d,tp,x,q,false⟩:=by
 refine ⟨⟨len_nil0,(fun _ h=>nomatch h),empty_in⟩,⟨Nat.zero_le _,Nat.zero_le _,empty_light,Nat.le_trans h2 (by decide),Nat.le_trans h3 (by decide)⟩,?_,?_,(fun _=>rfl),⟨empty_lite,h2⟩,Nat.zero_le _,Nat.zero_le _,h3⟩
 · unfold frameB
   simp [ha.1,ha.2,hb.1,hb.2,hc.1,hc.2,hd.1,hd.2,hq.1,hq.2,h1]
 · rw [fullBy_len,restP_3 rfl]
   simp only [List.length_append,numsL_len,textBy_len,List.length_cons,List.length_nil]
   omega
def deedR (d:TDeed):Prop:=(0<=d.what/\d.what<=255)/\(0<=d.who/\d.who<=255)/\(0<=d.k/\d.k<=255)
theorem deeds_ok {l:List TDeed} (h:∀ d∈l,deedR d) (h2:∀ k,(l.getD k default).x.length<=30):∀ d∈l,deedOk d:=fun d hd=>by
 obtain ⟨k,hk,rfl⟩:=mem_getD hd
 obtain ⟨a,b,c⟩:=h _ hd
 exact ⟨a,b,c,h2 k⟩
attribute [local irreducible] DW SeqD DV DOp DC DVX DVJ
theorem sv_someF_dc {p:Prop} (h:p:=by first | exact sv | exact ⟨hn,hl⟩ | exact ⟨hnt,hlt.mono (by decide),htb⟩ | fail):p:=h
section
attribute [local push_cast 2000] encTable
theorem someF_dc (l:List TDeed) (k a:Int) (x:List UInt8) (F:Own):(l.length<=20/\(∀ d∈l,deedOk d)/\(0<=k/\k<=255)/\(0<=a/\a<=255)/\x.length<=40)->DC Tryz.prog 14 [.sl (l.map encDeed), .int .u8 k, .int .u8 a, .sl (x.map u8)] (([]:Own)++F) fun d G=>∃ f:TFrame,SomeF x f/\d = .agg [.int .i64 f.kind, .int .i64 f.fr, .int .i64 f.ep, .int .i64 f.at_, .sl (f.sums.map encU), .sl (f.seen.map encDot), .sl (f.tab.seen.map encDot), .sl (f.tab.fences.map encFence), .sl (f.tab.routes.map encRoute), .sl (f.tab.cells.map encCell), .int .i64 f.seq, .str f.topic, .sl (f.payload.map u8), .int .i64 f.qos, .bool f.retain]/\G=[]++F:=by
 intro hA
 obtain ⟨hn,hl,hk,ha,hx⟩:=hA
 refine DC.bodyS (n_:=58) (show Tryz.prog.funcs[14]? = some Tryz.f14 by kernel_rfl) rfl rfl (by rfl) ?_
 simp only [env0,List.cons_append,List.nil_append]
 have kw:=ksIs [0,1,2,3,8,9,10,32,45,53]
 have ow:=ownIs [8,10]
 have dw6:=drIs 6 [1,5,7] [0]
 have rw_:=rsIs [.cell 8 33]
 have h3:=tmod3 hk.1
 obtain ⟨htn,htr,hnt,hlt,htl⟩:=tables_at hn hl h3
 have hsm:=tables_small hn hl h3
 have htb:=tr_iff.2 htr
 have a0:=Int.tmod_nonneg 16 ha.1
 have a1:=Int.tmod_lt_of_pos a (show (0:Int)<16 by decide)
 have a3:=tmod3 ha.1
 have htp:=topic_name ha.1
 have hse:=tables_seen hn hl h3
 repeat' (first
  | ((with_reducible apply DW.frzB 2 9);(focus (exact rfl));(repeat (with_reducible first | refine Out.here ?_ | refine Out.next ?_));simp only [put_cons,put_nil,Nat.reduceEqDiff,↓reduceIte,if_true,if_false,reduceCtorEq])
  | refine g_ ?_
  | ((with_reducible refine And.intro ?_ ?_);(exact sv_someF_dc))
  | (refine DW.cond (by rfl) ?_ ?_<;>(first | exact i0_ | (refine ic_ ?_;intro hb)))
  | ((with_reducible first | refine FVg_cases ?_ ?_ | refine FDg_cases ?_ ?_)<;>(intro hb;rw [hb];revert hb;(first | exact i0_ | (refine i_ ?_;intro hb))))
  | refine r_ ?_
  | refine d_ ?_
  | refine k_ ?_
  | ((refine dm_ ?_);(first | ((first | refine v_ (story_dc _ _) ?_ (ha:=by exact sv_someF_dc) | refine v_ (topic_dc _ _) ?_ (ha:=by exact sv_someF_dc)))))
  | refine vo_ ?_
  | ((first | refine q_ (story_dc _ _) ?_ (ha:=by exact sv_someF_dc) | refine q_ (topic_dc _ _) ?_ (ha:=by exact sv_someF_dc)))
  | (refine p_ (rsums_dc _ _) ?_ (ha:=by exact sv_someF_dc);rintro d H1 ⟨ls,rfl,hls,rfl⟩<;>refine s_ ?_)
  | refine o_ ?_
  | refine f_ ?_
  | refine vm_ ?_
  | with_reducible intro b)
 all_goals first
 | (exfalso;omega)
 | (have hk3:k.tmod 3=0:=by omega
    rw [hk3] at htr hnt hlt htl htb hsm hse
    try rw [hk3]
    refine ⟨_,_,?_,⟨⟨1,a.tmod 16,k+1,a * 5,ls,((tablesM l).getD 0 default).seen,emptyT,0,[],[],0,false⟩,some_1 ⟨by omega,by omega⟩ ⟨by omega,by omega⟩ ⟨by omega,by omega⟩ hls.1 hls.2 htr.seen hse (neat_in hnt).s,rfl,rfl⟩,?_⟩;rotate_left;(exact sub_);exact le.agg (by repeat (first | exact Les.nil | refine Les.cons le.rfl_ ?_ | refine Les.cons (le.gs rfl) ?_ | refine Les.cons (le.gs List.map_nil.symm) ?_ | refine Les.cons (le.agg ?_) ?_));done)
 | (have hk3:k.tmod 3=1:=by omega
    rw [hk3] at htr hnt hlt htl htb hsm hse
    try rw [hk3]
    refine ⟨_,_,?_,⟨⟨2,a.tmod 16,k+1,a * 5,[],[],((tablesM l).getD 1 default),0,[],[],0,false⟩,some_2 ⟨by omega,by omega⟩ ⟨by omega,by omega⟩ ⟨by omega,by omega⟩ hnt hlt htb hsm,rfl,rfl⟩,?_⟩;rotate_left;(exact sub_);exact le.agg (by repeat (first | exact Les.nil | refine Les.cons le.rfl_ ?_ | refine Les.cons (le.gs rfl) ?_ | refine Les.cons (le.gs List.map_nil.symm) ?_ | refine Les.cons (le.agg ?_) ?_));done)
 | (have hk3:k.tmod 3=2:=by omega
    rw [hk3] at htr hnt hlt htl htb hsm hse
    try rw [hk3]
    refine ⟨_,_,?_,⟨⟨3,a.tmod 16,k+1,a * 5,[],[],emptyT,a+1,topicM a,x,a.tmod 3,false⟩,some_3 ⟨by omega,by omega⟩ ⟨by omega,by omega⟩ ⟨by omega,by omega⟩ ⟨by omega,by omega⟩ ⟨by omega,by omega⟩ htp.1 htp.2 hx,rfl,rfl⟩,?_⟩;rotate_left;(exact sub_);exact le.agg (by repeat (first | exact Les.nil | refine Les.cons le.rfl_ ?_ | refine Les.cons (le.gs rfl) ?_ | refine Les.cons (le.gs List.map_nil.symm) ?_ | refine Les.cons (le.agg ?_) ?_));done)
 | (trace_state;fail)
end
end
end Go.Proofs.YtbmbcjmgjdnlnaaGreatDoor
