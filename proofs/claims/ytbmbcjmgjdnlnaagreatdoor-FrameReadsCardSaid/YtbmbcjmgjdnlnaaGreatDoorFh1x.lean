/- A frame held against itself. -/
import Derived.Test.YtbmbcjmgjdnlnaaGreatDoorFt4x
import Derived.Test.YtbmbcjmgjdnlnaaGreatDoorLex
import Derived.KernelRfl
import Derived.Test.YtbmbcjmgjdnlnaaGreatDoorFv5x
import Derived.Test.YtbmbcjmgjdnlnaaGreatDoorFs1x
import Derived.Test.YtbmbcjmgjdnlnaaGreatDoorFt5x
import Derived.Test.YtbmbcjmgjdnlnaaGreatDoorTbx
namespace Go.Proofs.YtbmbcjmgjdnlnaaGreatDoor
open Go.RowKit
set_option linter.unusedSimpArgs false
set_option linter.unusedVariables false
set_option linter.unusedSectionVars false
set_option maxHeartbeats 4000000
set_option maxRecDepth 100000
section
theorem eqSelfS (p:List UInt8):(p==p)=true:=by simp
theorem sameT_dc (t:TTable) (F:Own):Lite 1000000000 t->DC Tryz.prog 65 [.agg [.sl (t.seen.map encDot), .sl (t.fences.map encFence), .sl (t.routes.map encRoute), .sl (t.cells.map encCell)], .agg [.sl (t.seen.map encDot), .sl (t.fences.map encFence), .sl (t.routes.map encRoute), .sl (t.cells.map encCell)]] (([]:Own)++F) fun d G=>d = .bool true/\G=[]++F:=fun h=>by
 have:=same_dc t t F ⟨h,h⟩
 rwa [decide_eq_true rfl] at this
attribute [local irreducible] DW SeqD DV DOp DC DVX DVJ
section
attribute [local push_cast 2000] encDot
theorem hdots_dc (l:List TDot) (F:Own):(l.length<=1000000000)->DC Tryz.prog 42 [.sl (l.map encDot), .sl (l.map encDot)] (([]:Own)++F) fun d G=>d = .bool true/\G=[]++F:=by
 intro hA
 have hl:=hA
 refine DC.bodyS (n_:=26) (show Tryz.prog.funcs[42]? = some Tryz.f42 by kernel_rfl) rfl rfl (by rfl) ?_
 simp only [env0,List.cons_append,List.nil_append]
 have kw:=ksIs [0,1,4,5,10,14,25]
 have ow:=ownIs []
 have dw6:=drIs 6 [] [3,7]
 repeat' (first
  | ((with_reducible refine DW.loopB 0 (X:=Nat) (fun x=>x<=l.length) (fun x=>[(0, .sl (l.map encDot)),(1, .sl (l.map encDot)),(5, .int .i64 x)]) (fun x=>([]:Own)) (fun x=>l.length - x) (0) ?_ ?_ ?_);exact (Nat.zero_le _);(simp [Sub,get,keepL]<;>fail);(try simp only [List.cons_append,List.nil_append]);refine pl_ ?_;intro k hk;(try simp only [List.cons_append,List.nil_append]))
  | refine g_ ?_
  | ((with_reducible refine And.intro ?_ ?_);(exact sv))
  | (refine DW.cond (by rfl) ?_ ?_<;>(first | exact i0_ | (refine ic_ ?_;intro hb)))
  | ((with_reducible first | refine FVg_cases ?_ ?_ | refine FDg_cases ?_ ?_)<;>(intro hb;rw [hb];revert hb;(first | exact i0_ | (refine i_ ?_;intro hb))))
  | refine r_ ?_
  | refine d_ ?_
  | refine k_ ?_
  | refine vo_ ?_
  | refine o_ ?_
  | refine f_ ?_
  | refine vm_ ?_
  | with_reducible intro b)
 all_goals first
 | (exfalso;omega)
 | (refine ⟨k+1,?_,?_,?_,?_⟩;(((try simp only);omega));(((try simp only);omega));(simp [Sub,get]<;>(fail));(try dsimp only);(exact sub_);done)
 | ((first | exact fin_ | refine finq_ ?_);done)
 | (exfalso;simp_all;done)
 | (trace_state;fail)
end
section
attribute [local push_cast 2000] byteOf_map isU8_map eqSelfS
theorem hmsg_dc (t p:Str) (q:Int) (r:Bool) (F:Own):(True)->DC Tryz.prog 72 [.agg [.str t, .sl (p.map u8), .int .i64 q, .bool r], .agg [.str t, .sl (p.map u8), .int .i64 q, .bool r]] (([]:Own)++F) fun d G=>d = .bool true/\G=[]++F:=by
 intro hA
 refine DC.bodyS (n_:=33) (show Tryz.prog.funcs[72]? = some Tryz.f72 by kernel_rfl) rfl rfl (by rfl) ?_
 simp only [env0,List.cons_append,List.nil_append]
 have kw:=ksIs [0,1,2,3,4]
 have ow:=ownIs []
 repeat' (first
  | refine g_ ?_
  | ((with_reducible refine And.intro ?_ ?_);(exact sv))
  | (refine DW.cond (by rfl) ?_ ?_<;>(first | exact i0_ | (refine ic_ ?_;intro hb)))
  | ((with_reducible refine FVg_cases ?_ ?_)<;>(intro hb;rw [hb];revert hb;(first | exact i0_ | (refine i_ ?_;intro hb))))
  | refine r_ ?_
  | refine k_ ?_
  | refine o_ ?_
  | refine f_ ?_
  | with_reducible intro b)
 all_goals first
 | ((first | exact fin_ | refine finq_ ?_);done)
 | (exfalso;simp_all;done)
 | ((refine ⟨_,_,le.of_eq ?_,⟨rfl,rfl⟩,?_⟩);(simp;done);(exact sub_);done)
 | (trace_state;fail)
end
theorem sv_helpF_dc {p:Prop} (h:p:=by first | exact sv | exact hf.t | exact Nat.le_trans hf.l.seen (by decide) | fail):p:=h
section
attribute [local push_cast 2000] encU
theorem helpF_dc (f:TFrame) (F:Own):(LightD f)->DC Tryz.prog 21 [.agg [.int .i64 f.kind, .int .i64 f.fr, .int .i64 f.ep, .int .i64 f.at_, .sl (f.sums.map encU), .sl (f.seen.map encDot), .sl (f.tab.seen.map encDot), .sl (f.tab.fences.map encFence), .sl (f.tab.routes.map encRoute), .sl (f.tab.cells.map encCell), .int .i64 f.seq, .str f.topic, .sl (f.payload.map u8), .int .i64 f.qos, .bool f.retain], .agg [.int .i64 f.kind, .int .i64 f.fr, .int .i64 f.ep, .int .i64 f.at_, .sl (f.sums.map encU), .sl (f.seen.map encDot), .sl (f.tab.seen.map encDot), .sl (f.tab.fences.map encFence), .sl (f.tab.routes.map encRoute), .sl (f.tab.cells.map encCell), .int .i64 f.seq, .str f.topic, .sl (f.payload.map u8), .int .i64 f.qos, .bool f.retain]] (([]:Own)++F) fun d G=>d = .bool true/\G=[]++F:=by
 intro hA
 have hf:=hA
 refine DC.bodyS (n_:=87) (show Tryz.prog.funcs[21]? = some Tryz.f21 by kernel_rfl) rfl rfl (by rfl) ?_
 simp only [env0,List.cons_append,List.nil_append]
 have kw:=ksIs [0,1,2,3,4,5,63,68,81]
 have ow:=ownIs []
 have dw6:=drIs 6 [] [1,4,6,9]
 have hq:=hf.l.sums
 repeat' (first
  | ((with_reducible refine DW.loopB 0 (X:=Nat) (fun x=>x<=f.sums.length) (fun x=>[(2, .sp [.int .i64 f.kind, .int .i64 f.fr, .int .i64 f.ep, .int .i64 f.at_, .sl (f.sums.map encU), .sl (f.seen.map encDot), .sl (f.tab.seen.map encDot), .sl (f.tab.fences.map encFence), .sl (f.tab.routes.map encRoute), .sl (f.tab.cells.map encCell), .int .i64 f.seq, .str f.topic, .sl (f.payload.map u8), .int .i64 f.qos, .bool f.retain]),(3, .sp [.int .i64 f.kind, .int .i64 f.fr, .int .i64 f.ep, .int .i64 f.at_, .sl (f.sums.map encU), .sl (f.seen.map encDot), .sl (f.tab.seen.map encDot), .sl (f.tab.fences.map encFence), .sl (f.tab.routes.map encRoute), .sl (f.tab.cells.map encCell), .int .i64 f.seq, .str f.topic, .sl (f.payload.map u8), .int .i64 f.qos, .bool f.retain]),(5, .int .i64 x)]) (fun x=>([]:Own)) (fun x=>f.sums.length - x) (0) ?_ ?_ ?_);exact (Nat.zero_le _);(simp [Sub,get,keepL]<;>fail);(try simp only [List.cons_append,List.nil_append]);refine pl_ ?_;intro k hk;(try simp only [List.cons_append,List.nil_append]))
  | refine g_ ?_
  | ((with_reducible refine And.intro ?_ ?_);(exact sv_helpF_dc))
  | (refine DW.cond (by rfl) ?_ ?_<;>(first | exact i0_ | (refine ic_ ?_;intro hb)))
  | ((with_reducible first | refine FVg_cases ?_ ?_ | refine FDg_cases ?_ ?_)<;>(intro hb;rw [hb];revert hb;(first | exact i0_ | (refine i_ ?_;intro hb))))
  | refine r_ ?_
  | refine d_ ?_
  | refine k_ ?_
  | ((refine dm_ ?_);(first | (refine v_ (hdots_dc _ _) ?_ (ha:=by exact sv_helpF_dc)) | (refine v_ (hmsg_dc _ _ _ _ _) ?_ (ha:=by exact sv_helpF_dc)) | (refine v_ (sameT_dc _ _) ?_ (ha:=by exact sv_helpF_dc))))
  | refine vo_ ?_
  | (refine q_ (hdots_dc _ _) ?_ (ha:=by exact sv_helpF_dc))
  | (refine q_ (hmsg_dc _ _ _ _ _) ?_ (ha:=by exact sv_helpF_dc))
  | (refine q_ (sameT_dc _ _) ?_ (ha:=by exact sv_helpF_dc))
  | refine o_ ?_
  | refine f_ ?_
  | refine vm_ ?_
  | with_reducible intro b)
 all_goals first
 | (exfalso;omega)
 | ((first | exact fin_ | refine finq_ ?_);done)
 | (refine ⟨k+1,?_,?_,?_,?_⟩;(((try simp only);omega));(((try simp only);omega));(simp [Sub,get]<;>(fail));(try dsimp only);(exact sub_);done)
 | (exfalso;simp_all;done)
 | (trace_state;fail)
end
end
section
theorem small_1 {a b c:Int} {ls:List Int} {se:List TDot} (h1:ls.length=10) (h2:∀ x∈ls,0<=x/\x<=18446744073709551615) (h4:se.length<=96) (h5:∀ d∈se,InD d):SmallF 0 ⟨1,a,b,c,ls,se,emptyT,0,[],[],0,false⟩:=by
 refine ⟨⟨h2,h5,empty_in⟩,?_,?_,Nat.zero_le _,Nat.zero_le _,Nat.zero_le _,Nat.zero_le _,(fun _ h=>nomatch h),(fun _ h=>nomatch h),Nat.zero_le _,Nat.zero_le _,Nat.zero_le _,(show i64 1 from ⟨by decide,by decide⟩)⟩
 · show ls.length<=_;omega
 · show se.length<=_;omega
theorem small_2 {a b c:Int} {t:TTable} (h:InT t) (h1:t.seen.length<=96) (h2:t.fences.length<=3) (h3:t.routes.length<=960) (h4:t.cells.length<=7) (h5:∀ r∈t.routes,r.filter.length<=9) (h6:∀ c∈t.cells,c.topic.length<=60/\c.payload.length<=60):SmallF 0 ⟨2,a,b,c,[],[],t,0,[],[],0,false⟩:=by
 have e2:(flatBy routeBy t.routes).length<=41 * t.routes.length:=flatBy_le fun x hx=>by rw [routeBy_len];have:=h5 x hx;omega
 exact ⟨⟨len_nil0,(fun _ h=>nomatch h),h⟩,Nat.zero_le _,Nat.zero_le _,by show t.seen.length<=_;omega,by show t.fences.length<=_;omega,h3,by show t.cells.length<=_;omega,fun r hr=>Nat.le_trans (h5 r hr) (by decide),h6,by show (flatBy routeBy t.routes).length<=_;omega,Nat.zero_le _,Nat.zero_le _,(show i64 2 from ⟨by decide,by decide⟩)⟩
theorem small_3 {a b c d q:Int} {tp x:Str} (h2:tp.length<=60) (h3:x.length<=40):SmallF 0 ⟨3,a,b,c,[],[],emptyT,d,tp,x,q,false⟩ :=
 ⟨⟨len_nil0,(fun _ h=>nomatch h),empty_in⟩,Nat.zero_le _,Nat.zero_le _,Nat.zero_le _,Nat.zero_le _,Nat.zero_le _,Nat.zero_le _,(fun _ h=>nomatch h),(fun _ h=>nomatch h),Nat.zero_le _,h2,Nat.le_trans h3 (by decide),(show i64 3 from ⟨by decide,by decide⟩)⟩
theorem tables_facts {l:List TDeed} (hn:l.length<=20) (h:∀ d∈l,deedOk d) {k:Int} (hk:0<=k/\k<3):((tablesM l).getD k.toNat default).fences.length<=3/\((tablesM l).getD k.toNat default).routes.length<=960/\((tablesM l).getD k.toNat default).cells.length<=7/\(∀ r∈((tablesM l).getD k.toNat default).routes,r.filter.length<=9)/\(∀ c∈((tablesM l).getD k.toNat default).cells,c.topic.length<=60/\c.payload.length<=60):=by
 obtain ⟨t1,t2,_⟩:=(Story.of h).tab hk
 obtain ⟨l1,l2,_⟩:=story_len hn t1 t2
 obtain ⟨l3,l4⟩:=story_small hn t1 t2
 refine ⟨l2,l3,l4,fun r hr=>filterL_len (t2.r r hr),fun c hc=>?_⟩
 obtain ⟨a1,a2,_⟩:=t2.c c hc
 have:=topicL_len a1
 exact ⟨by omega,by omega⟩
theorem topic_small {k:Int} (h:0<=k):(topicM k).length<=60:=Nat.le_trans (topicL_len (topicM_mem h)) (by decide)
theorem preadB_dc (n:Nat) (g:TFrame) (m:Int) (F:Own):(SmallF n g/\n<=10/\frameB g=true)->DC Tryz.prog 20 [.sl ((fullBy g).map u8)] ([knF,knA,knM m]++F) fun d G=>d = .tup [.agg [.int .i64 g.kind, .int .i64 g.fr, .int .i64 g.ep, .int .i64 g.at_, .sl (g.sums.map encU), .sl (g.seen.map encDot), .sl (g.tab.seen.map encDot), .sl (g.tab.fences.map encFence), .sl (g.tab.routes.map encRoute), .sl (g.tab.cells.map encCell), .int .i64 g.seq, .str g.topic, .sl (g.payload.map u8), .int .i64 g.qos, .bool g.retain], .int .i64 0]/\G=[knF,knA,knM m]++F:=fun ⟨h,hn,hB⟩=>by
 have:=pread_dc (fullBy g) m F (Nat.le_trans (h.len hn) (by decide))
 obtain ⟨e1,e2⟩:=read_frame (h.frame hn hB)
 rw [e1,e2] at this
 exact this
def encF (f:TFrame):V:=.agg [.int .i64 f.kind, .int .i64 f.fr, .int .i64 f.ep, .int .i64 f.at_, .sl (f.sums.map encU), .sl (f.seen.map encDot), .sl (f.tab.seen.map encDot), .sl (f.tab.fences.map encFence), .sl (f.tab.routes.map encRoute), .sl (f.tab.cells.map encCell), .int .i64 f.seq, .str f.topic, .sl (f.payload.map u8), .int .i64 f.qos, .bool f.retain]
def fs5 (a b c d e:TFrame):List TFrame:=[a,b,c,d,e]
theorem fs5_l (a b c d e:TFrame):(fs5 a b c d e).length=5:=rfl
theorem fs5_at {a b c d e:TFrame} (ha:SmallF 6 a) (hb:SmallF 6 b) (hc:SmallF 6 c) (hd:SmallF 6 d) (he:SmallF 6 e) {i:Nat} (hi:i<5):SmallF 6 ((fs5 a b c d e).getD i default):=by
 match i,hi with
 | 0,_=>exact ha
 | 1,_=>exact hb
 | 2,_=>exact hc
 | 3,_=>exact hd
 | 4,_=>exact he
 | i+5,h=>omega
attribute [local irreducible] DW SeqD DV DOp DC DVX DVJ
theorem sv_someS_dc {p:Prop} (h:p:=by first | exact sv | exact ⟨hn,hl⟩ | exact ⟨hnt,hlt.mono (by decide),htb⟩ | fail):p:=h
section
attribute [local push_cast 2000] encTable
theorem someS_dc (l:List TDeed) (k a:Int) (x:List UInt8) (F:Own):(l.length<=20/\(∀ d∈l,deedOk d)/\(0<=k/\k<=255)/\(0<=a/\a<=255)/\x.length<=40)->DC Tryz.prog 14 [.sl (l.map encDeed), .int .u8 k, .int .u8 a, .sl (x.map u8)] (([]:Own)++F) fun d G=>∃ f:TFrame,SmallF 0 f/\d = .agg [.int .i64 f.kind, .int .i64 f.fr, .int .i64 f.ep, .int .i64 f.at_, .sl (f.sums.map encU), .sl (f.seen.map encDot), .sl (f.tab.seen.map encDot), .sl (f.tab.fences.map encFence), .sl (f.tab.routes.map encRoute), .sl (f.tab.cells.map encCell), .int .i64 f.seq, .str f.topic, .sl (f.payload.map u8), .int .i64 f.qos, .bool f.retain]/\G=[]++F:=by
 intro hA
 obtain ⟨hn,hl,hk,ha,hx⟩:=hA
 refine DC.bodyS (n_:=58) (show Tryz.prog.funcs[14]? = some Tryz.f14 by kernel_rfl) rfl rfl (by rfl) ?_
 simp only [env0,List.cons_append,List.nil_append]
 have kw:=ksIs [0,1,2,3,8,9,10,32,45,53]
 have ow:=ownIs [8,10]
 have dw6:=drIs 6 [1,5,7] [0]
 have rw_:=rsIs [.cell 8 33]
 have h3:=tmod3 hk.1
 obtain ⟨htn,htr,hnt,hlt,htl⟩:=tables_at hn hl h3
 have hft:=tables_facts hn hl h3
 have htb:=tr_iff.2 htr
 have hse:=tables_seen hn hl h3
 have a0:=Int.tmod_nonneg 16 ha.1
 have a1:=Int.tmod_lt_of_pos a (show (0:Int)<16 by decide)
 have a3:=tmod3 ha.1
 repeat' (first
  | ((with_reducible apply DW.frzB 2 9);(focus (exact rfl));(repeat (with_reducible first | refine Out.here ?_ | refine Out.next ?_));simp only [put_cons,put_nil,Nat.reduceEqDiff,↓reduceIte,if_true,if_false,reduceCtorEq])
  | refine g_ ?_
  | ((with_reducible refine And.intro ?_ ?_);(exact sv_someS_dc))
  | (refine DW.cond (by rfl) ?_ ?_<;>(first | exact i0_ | (refine ic_ ?_;intro hb)))
  | ((with_reducible first | refine FVg_cases ?_ ?_ | refine FDg_cases ?_ ?_)<;>(intro hb;rw [hb];revert hb;(first | exact i0_ | (refine i_ ?_;intro hb))))
  | refine r_ ?_
  | refine d_ ?_
  | refine k_ ?_
  | ((refine dm_ ?_);(first | ((first | refine v_ (story_dc _ _) ?_ (ha:=by exact sv_someS_dc) | refine v_ (topic_dc _ _) ?_ (ha:=by exact sv_someS_dc)))))
  | refine vo_ ?_
  | ((first | refine q_ (story_dc _ _) ?_ (ha:=by exact sv_someS_dc) | refine q_ (topic_dc _ _) ?_ (ha:=by exact sv_someS_dc)))
  | (refine p_ (rsums_dc _ _) ?_ (ha:=by exact sv_someS_dc);rintro d H1 ⟨ls,rfl,hls,rfl⟩<;>refine s_ ?_)
  | refine o_ ?_
  | refine f_ ?_
  | refine vm_ ?_
  | with_reducible intro b)
 all_goals first
 | (exfalso;omega)
 | (have hk3:k.tmod 3=0:=by omega
    rw [hk3] at htr hnt hlt htl htb hse hft
    try rw [hk3]
    refine ⟨_,_,?_,⟨⟨1,a.tmod 16,k+1,a * 5,ls,((tablesM l).getD 0 default).seen,emptyT,0,[],[],0,false⟩,small_1 hls.1 hls.2 hse (neat_in hnt).s,rfl,rfl⟩,?_⟩;rotate_left;(exact sub_);exact le.agg (by repeat (first | exact Les.nil | refine Les.cons le.rfl_ ?_ | refine Les.cons (le.gs rfl) ?_ | refine Les.cons (le.gs List.map_nil.symm) ?_ | refine Les.cons (le.agg ?_) ?_));done)
 | (have hk3:k.tmod 3=1:=by omega
    rw [hk3] at htr hnt hlt htl htb hse hft
    try rw [hk3]
    refine ⟨_,_,?_,⟨⟨2,a.tmod 16,k+1,a * 5,[],[],((tablesM l).getD 1 default),0,[],[],0,false⟩,small_2 (neat_in hnt) hse hft.1 hft.2.1 hft.2.2.1 hft.2.2.2.1 hft.2.2.2.2,rfl,rfl⟩,?_⟩;rotate_left;(exact sub_);exact le.agg (by repeat (first | exact Les.nil | refine Les.cons le.rfl_ ?_ | refine Les.cons (le.gs rfl) ?_ | refine Les.cons (le.gs List.map_nil.symm) ?_ | refine Les.cons (le.agg ?_) ?_));done)
 | (have hk3:k.tmod 3=2:=by omega
    rw [hk3] at htr hnt hlt htl htb hse hft
    try rw [hk3]
    refine ⟨_,_,?_,⟨⟨3,a.tmod 16,k+1,a * 5,[],[],emptyT,a+1,topicM a,x,a.tmod 3,false⟩,small_3 (topic_small ha.1) hx,rfl,rfl⟩,?_⟩;rotate_left;(exact sub_);exact le.agg (by repeat (first | exact Les.nil | refine Les.cons le.rfl_ ?_ | refine Les.cons (le.gs rfl) ?_ | refine Les.cons (le.gs List.map_nil.symm) ?_ | refine Les.cons (le.agg ?_) ?_));done)
 | (trace_state;fail)
end
end
end Go.Proofs.YtbmbcjmgjdnlnaaGreatDoor
