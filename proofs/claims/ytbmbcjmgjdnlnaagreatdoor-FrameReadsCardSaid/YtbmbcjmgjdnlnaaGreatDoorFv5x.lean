/- Frames that are bent in a place; light ones. -/
import Derived.Test.YtbmbcjmgjdnlnaaGreatDoorFv1x
import Derived.Test.YtbmbcjmgjdnlnaaGreatDoorFt4x
import Derived.KernelRfl
namespace Go.Proofs.YtbmbcjmgjdnlnaaGreatDoor
open Go.RowKit
set_option linter.unusedSimpArgs false
set_option linter.unusedVariables false
set_option linter.unusedSectionVars false
set_option maxHeartbeats 4000000
set_option maxRecDepth 100000
section
structure SmallF (n:Nat) (f:TFrame):Prop where
 i:InF f
 s:f.sums.length<=20+n
 e:f.seen.length<=100+n
 ts:f.tab.seen.length<=100
 tf:f.tab.fences.length<=20+n
 tr:f.tab.routes.length<=960
 tc:f.tab.cells.length<=20
 rf:∀ r∈f.tab.routes,r.filter.length<=60
 ct:∀ c∈f.tab.cells,c.topic.length<=60/\c.payload.length<=60
 rl:(flatBy routeBy f.tab.routes).length<=40000
 tp:f.topic.length<=60
 py:f.payload.length<=60+n
 kd:i64 f.kind
theorem i64_1:i64 1:=⟨by decide,by decide⟩
theorem SmallF.mono {n m:Nat} {f:TFrame} (h:SmallF n f) (hm:n<=m):SmallF m f:=⟨h.i,Nat.le_trans h.s (by omega),Nat.le_trans h.e (by omega),h.ts,Nat.le_trans h.tf (by omega),h.tr,h.tc,h.rf,h.ct,h.rl,h.tp,Nat.le_trans h.py (by omega),h.kd⟩
theorem SmallF.light {n:Nat} {f:TFrame} (h:SmallF n f) (hn:n<=10):LightD f:=by
 have:=h.s;have:=h.e;have:=h.ts;have:=h.tf;have:=h.tr;have:=h.tc;have:=h.tp;have:=h.py
 refine ⟨⟨by omega,by omega,⟨by omega,by omega,by omega,by omega,fun r hr=>Nat.le_trans (h.rf r hr) (by decide),fun c hc=>Nat.le_trans (h.ct c hc).1 (by decide),fun c hc=>Nat.le_trans (h.ct c hc).2 (by decide)⟩,by omega,by omega⟩,⟨by omega,by omega,by omega,by omega,fun r hr=>Nat.le_trans (h.rf r hr) (by decide),fun c hc=>Nat.le_trans (h.ct c hc).1 (by decide),fun c hc=>Nat.le_trans (h.ct c hc).2 (by decide)⟩,by omega⟩
theorem SmallF.len {n:Nat} {f:TFrame} (h:SmallF n f) (hn:n<=10):(fullBy f).length<=65535:=by
 have h1:=h.s;have h2:=h.e;have h3:=h.ts;have h4:=h.tf;have h6:=h.tc;have h7:=h.tp;have h8:=h.py;have h9:=h.rl
 have e1:(flatBy fenceBy f.tab.fences).length=16 * f.tab.fences.length:=flatBy_len (fun x _=>fenceBy_len x)
 have e3:(flatBy cellBy f.tab.cells).length<=200 * f.tab.cells.length:=flatBy_le fun x hx=>by rw [cellBy_len];have:=h.ct x hx;omega
 have e4:=flatBy_len (f:=sumBy) (n:=8) (l:=f.sums) (fun x _=>sumP_len x)
 rw [fullBy_len]
 unfold restBy
 split
 · simp only [List.length_append,numsL_len,dotsBy_len,List.length_cons,List.length_nil,e4];omega
 · split
   · simp only [tableBy,List.length_append,dotsBy_len,numsL_len,List.length_cons,List.length_nil,e1];omega
   · simp only [List.length_append,numsL_len,textBy_len,List.length_cons,List.length_nil];omega
theorem SmallF.frame {n:Nat} {f:TFrame} (h:SmallF n f) (hn:n<=10) (hB:frameB f=true):IsFrame (fullBy f) f:=⟨h.i,(h.light hn).l,hB,rfl⟩
attribute [local irreducible] DW SeqD DV DOp DC DVX DVJ
section
attribute [local push_cast 2000] encRoute encCell
theorem lightT_dc (t:TTable) (F:Own):(True)->DC Tryz.prog 46 [.agg [.sl (t.seen.map encDot), .sl (t.fences.map encFence), .sl (t.routes.map encRoute), .sl (t.cells.map encCell)]] (([]:Own)++F) fun d G=>(d = .bool true/\((t.seen.length<=20/\t.fences.length<=20/\t.routes.length<=20/\t.cells.length<=20)/\(∀ j,j<t.routes.length->(t.routes.getD j default).filter.length<=60)/\(∀ j,j<t.cells.length->(t.cells.getD j default).topic.length<=60/\(t.cells.getD j default).payload.length<=60))/\G=[]++F)\/(d = .bool false/\G=[]++F):=by
 intro hA
 refine DC.bodyS (n_:=67) (show Tryz.prog.funcs[46]? = some Tryz.f46 by kernel_rfl) rfl rfl (by rfl) ?_
 simp only [env0,List.cons_append,List.nil_append]
 have kw:=ksIs [0,1,2,3,4,26,31,41,46,66]
 have ow:=ownIs []
 repeat' (first
  | ((with_reducible refine DW.loopB 0 (X:=Nat) (fun x=>x<=t.routes.length/\∀ j,j<x->(t.routes.getD j default).filter.length<=60) (fun x=>[(1, .sp [.sl (t.seen.map encDot), .sl (t.fences.map encFence), .sl (t.routes.map encRoute), .sl (t.cells.map encCell)]),(3, .int .i64 x)]) (fun x=>([]:Own)) (fun x=>t.routes.length - x) (0) ?_ ?_ ?_);exact (⟨Nat.zero_le _,fun j h=>absurd h (Nat.not_lt_zero _)⟩);(simp [Sub,get,keepL]<;>fail);(try simp only [List.cons_append,List.nil_append]);refine pl_ ?_;intro i ⟨hi,hr⟩;(try simp only [List.cons_append,List.nil_append]);try simp only at hi hr)
  | ((with_reducible refine DW.loopB 2 (X:=Nat) (fun x=>x<=t.cells.length/\∀ j,j<x->(t.cells.getD j default).topic.length<=60/\(t.cells.getD j default).payload.length<=60) (fun x=>[(1, .sp [.sl (t.seen.map encDot), .sl (t.fences.map encFence), .sl (t.routes.map encRoute), .sl (t.cells.map encCell)]),(4, .int .i64 x)]) (fun x=>([]:Own)) (fun x=>t.cells.length - x) (0) ?_ ?_ ?_);exact (⟨Nat.zero_le _,fun j h=>absurd h (Nat.not_lt_zero _)⟩);(simp [Sub,get,keepL]<;>fail);(try simp only [List.cons_append,List.nil_append]);refine pl_ ?_;intro i2 ⟨hi2,hc⟩;(try simp only [List.cons_append,List.nil_append]);try simp only at hi2 hc)
  | refine g_ ?_
  | ((with_reducible refine And.intro ?_ ?_);(exact sv))
  | (refine DW.cond (by rfl) ?_ ?_<;>(first | exact i0_ | (refine ic_ ?_;intro hb)))
  | ((with_reducible refine FVg_cases ?_ ?_)<;>(intro hb;rw [hb];revert hb;(first | exact i0_ | (refine i_ ?_;intro hb))))
  | refine r_ ?_
  | refine k_ ?_
  | refine o_ ?_
  | refine f_ ?_
  | with_reducible intro b)
 all_goals first
 | (refine ⟨i2+1,⟨by omega,fun j hj=>?_⟩,by omega,by (simp [Sub,get]<;>fail),?_⟩;(rcases Nat.lt_succ_iff_lt_or_eq.1 hj with h | rfl;(exact hc j h);(exact ⟨by omega,by omega⟩));(exact sub_);done)
 | (refine ⟨i+1,⟨by omega,fun j hj=>?_⟩,by omega,by (simp [Sub,get]<;>fail),?_⟩;(rcases Nat.lt_succ_iff_lt_or_eq.1 hj with h | rfl;(exact hr j h);(omega));(exact sub_);done)
 | (refine ⟨_,_,le.rfl_, .inl ⟨rfl,⟨⟨by omega,by omega,by omega,by omega⟩,(fun j hj=>hr j (by omega)),(fun j hj=>hc j (by omega))⟩,rfl⟩,?_⟩;(exact sub_);done)
 | (refine ⟨_,_,le.rfl_, .inr ⟨rfl,rfl⟩,?_⟩;(exact sub_);done)
 | (exfalso;omega)
 | (trace_state;fail)
end
theorem lightF_dc (f:TFrame) (F:Own):(True)->DC Tryz.prog 12 [.agg [.int .i64 f.kind, .int .i64 f.fr, .int .i64 f.ep, .int .i64 f.at_, .sl (f.sums.map encU), .sl (f.seen.map encDot), .sl (f.tab.seen.map encDot), .sl (f.tab.fences.map encFence), .sl (f.tab.routes.map encRoute), .sl (f.tab.cells.map encCell), .int .i64 f.seq, .str f.topic, .sl (f.payload.map u8), .int .i64 f.qos, .bool f.retain]] (([]:Own)++F) fun d G=>(d = .bool true/\((f.sums.length<=20/\f.seen.length<=20/\f.topic.length<=60/\f.payload.length<=60)/\(f.tab.seen.length<=20/\f.tab.fences.length<=20/\f.tab.routes.length<=20/\f.tab.cells.length<=20)/\(∀ j,j<f.tab.routes.length->(f.tab.routes.getD j default).filter.length<=60)/\(∀ j,j<f.tab.cells.length->(f.tab.cells.getD j default).topic.length<=60/\(f.tab.cells.getD j default).payload.length<=60))/\G=[]++F)\/(d = .bool false/\G=[]++F):=by
 intro hA
 refine DC.bodyS (n_:=32) (show Tryz.prog.funcs[12]? = some Tryz.f12 by kernel_rfl) rfl rfl (by rfl) ?_
 simp only [env0,List.cons_append,List.nil_append]
 have kw:=ksIs [0,1,2]
 have ow:=ownIs []
 repeat' (first
  | refine g_ ?_
  | ((with_reducible refine And.intro ?_ ?_);(exact sv))
  | (refine DW.cond (by rfl) ?_ ?_<;>(first | exact i0_ | (refine ic_ ?_;intro hb)))
  | ((with_reducible refine FVg_cases ?_ ?_)<;>(intro hb;rw [hb];revert hb;(first | exact i0_ | (refine i_ ?_;intro hb))))
  | refine r_ ?_
  | refine k_ ?_
  | (refine p_ (lightT_dc _ _) ?_;rintro d H1 (⟨rfl,hlt,rfl⟩ | ⟨rfl,rfl⟩)<;>refine s_ ?_)
  | refine o_ ?_
  | refine f_ ?_
  | with_reducible intro b)
 all_goals first
 | (refine ⟨_,_,le.rfl_, .inr ⟨rfl,rfl⟩,?_⟩;(exact sub_);done)
 | ((by_cases h60:f.payload.length<=60)
    · (refine ⟨_,_,le.of_eq ?_, .inl ⟨rfl,⟨⟨by omega,by omega,by omega,by omega⟩,hlt⟩,rfl⟩,?_⟩;(congr 1;exact decide_eq_true (by omega));(exact sub_))
    · (refine ⟨_,_,le.of_eq ?_, .inr ⟨rfl,rfl⟩,?_⟩;(congr 1;exact decide_eq_false (by omega));(exact sub_)))
 | (exfalso;omega)
 | (trace_state;fail)
theorem sv_bent_dc {p:Prop} (h:p:=by first | exact sv | (simp [u8,V.one];omega) | (simp [u8,V.one]<;>fail) | fail):p:=h
section
attribute [local push_cast 2000] encU encDot encFence
theorem bent_dc (n:Nat) (f:TFrame) (k v:Int) (z:Str) (F:Own):((SmallF n f/\n<=5)/\(0<=k/\k<=255)/\i64 v/\z.length<=60)->DC Tryz.prog 15 [.agg [.int .i64 f.kind, .int .i64 f.fr, .int .i64 f.ep, .int .i64 f.at_, .sl (f.sums.map encU), .sl (f.seen.map encDot), .sl (f.tab.seen.map encDot), .sl (f.tab.fences.map encFence), .sl (f.tab.routes.map encRoute), .sl (f.tab.cells.map encCell), .int .i64 f.seq, .str f.topic, .sl (f.payload.map u8), .int .i64 f.qos, .bool f.retain], .int .u8 k, .int .i64 v, .str z] (([]:Own)++F) fun d G=>∃ g:TFrame,SmallF (n+1) g/\d = .agg [.int .i64 g.kind, .int .i64 g.fr, .int .i64 g.ep, .int .i64 g.at_, .sl (g.sums.map encU), .sl (g.seen.map encDot), .sl (g.tab.seen.map encDot), .sl (g.tab.fences.map encFence), .sl (g.tab.routes.map encRoute), .sl (g.tab.cells.map encCell), .int .i64 g.seq, .str g.topic, .sl (g.payload.map u8), .int .i64 g.qos, .bool g.retain]/\G=[]++F:=by
 intro hA
 obtain ⟨⟨hf,hn⟩,hk,hv,hz⟩:=hA
 refine DC.bodyS (n_:=88) (show Tryz.prog.funcs[15]? = some Tryz.f15 by kernel_rfl) rfl rfl (by rfl) ?_
 simp only [env0,List.cons_append,List.nil_append]
 have kw:=ksIs [0,1,2,3,4,8,10,19,23,27,31,35,39,44,49,53,63,74]
 have ow:=ownIs [4,8]
 have rw_:=rsIs [.cell 8 33]
 have k0:=Int.tmod_nonneg 12 hk.1;have k1:=Int.tmod_lt_of_pos k (show (0:Int)<12 by decide);have q1:=hf.s;have q2:=hf.e;have q3:=hf.ts;have q4:=hf.tf;have q5:=hf.tr;have q6:=hf.tc;have q7:=hf.tp;have q8:=hf.py;have hm:=hf.mono (Nat.le_succ n);obtain ⟨hv1,hv2⟩:=hv
 repeat' (first
  | refine g_ ?_
  | ((with_reducible refine And.intro ?_ ?_);(exact sv_bent_dc))
  | (refine DW.cond (by rfl) ?_ ?_<;>(first | exact i0_ | (refine ic_ ?_;intro hb)))
  | ((with_reducible refine FVg_cases ?_ ?_)<;>(intro hb;rw [hb];revert hb;(first | exact i0_ | (refine i_ ?_;intro hb))))
  | refine r_ ?_
  | refine k_ ?_
  | refine o_ ?_
  | refine f_ ?_
  | with_reducible intro b)
 all_goals first
 | (exfalso;omega)
 | (refine ⟨_,_,?_,⟨⟨v,f.fr,f.ep,f.at_,f.sums,f.seen,f.tab,f.seq,f.topic,f.payload,f.qos,f.retain⟩,⟨⟨hm.i.u,hm.i.s,hm.i.t⟩,hm.s,hm.e,hm.ts,hm.tf,hm.tr,hm.tc,hm.rf,hm.ct,hm.rl,hm.tp,hm.py,⟨hv1,hv2⟩⟩,rfl,rfl⟩,?_⟩;rotate_left;(exact sub_);((try simp only [List.map_append,List.map_cons,List.map_nil,encU,encDot,encFence]);first | (exact le.rfl_) | (refine le.agg ?_;(repeat (first | exact Les.nil | refine Les.cons le.rfl_ ?_ | refine Les.cons (le.gs rfl) ?_ | refine Les.cons (le.gs List.map_nil.symm) ?_ | refine Les.cons (le.agg ?_) ?_));done));done)
 | (refine ⟨_,_,?_,⟨⟨f.kind,v,f.ep,f.at_,f.sums,f.seen,f.tab,f.seq,f.topic,f.payload,f.qos,f.retain⟩,⟨⟨hm.i.u,hm.i.s,hm.i.t⟩,hm.s,hm.e,hm.ts,hm.tf,hm.tr,hm.tc,hm.rf,hm.ct,hm.rl,hm.tp,hm.py,hm.kd⟩,rfl,rfl⟩,?_⟩;rotate_left;(exact sub_);((try simp only [List.map_append,List.map_cons,List.map_nil,encU,encDot,encFence]);first | (exact le.rfl_) | (refine le.agg ?_;(repeat (first | exact Les.nil | refine Les.cons le.rfl_ ?_ | refine Les.cons (le.gs rfl) ?_ | refine Les.cons (le.gs List.map_nil.symm) ?_ | refine Les.cons (le.agg ?_) ?_));done));done)
 | (refine ⟨_,_,?_,⟨⟨f.kind,f.fr,v,f.at_,f.sums,f.seen,f.tab,f.seq,f.topic,f.payload,f.qos,f.retain⟩,⟨⟨hm.i.u,hm.i.s,hm.i.t⟩,hm.s,hm.e,hm.ts,hm.tf,hm.tr,hm.tc,hm.rf,hm.ct,hm.rl,hm.tp,hm.py,hm.kd⟩,rfl,rfl⟩,?_⟩;rotate_left;(exact sub_);((try simp only [List.map_append,List.map_cons,List.map_nil,encU,encDot,encFence]);first | (exact le.rfl_) | (refine le.agg ?_;(repeat (first | exact Les.nil | refine Les.cons le.rfl_ ?_ | refine Les.cons (le.gs rfl) ?_ | refine Les.cons (le.gs List.map_nil.symm) ?_ | refine Les.cons (le.agg ?_) ?_));done));done)
 | (refine ⟨_,_,?_,⟨⟨f.kind,f.fr,f.ep,v,f.sums,f.seen,f.tab,f.seq,f.topic,f.payload,f.qos,f.retain⟩,⟨⟨hm.i.u,hm.i.s,hm.i.t⟩,hm.s,hm.e,hm.ts,hm.tf,hm.tr,hm.tc,hm.rf,hm.ct,hm.rl,hm.tp,hm.py,hm.kd⟩,rfl,rfl⟩,?_⟩;rotate_left;(exact sub_);((try simp only [List.map_append,List.map_cons,List.map_nil,encU,encDot,encFence]);first | (exact le.rfl_) | (refine le.agg ?_;(repeat (first | exact Les.nil | refine Les.cons le.rfl_ ?_ | refine Les.cons (le.gs rfl) ?_ | refine Les.cons (le.gs List.map_nil.symm) ?_ | refine Les.cons (le.agg ?_) ?_));done));done)
 | (refine ⟨_,_,?_,⟨⟨f.kind,f.fr,f.ep,f.at_,f.sums,f.seen,f.tab,v,f.topic,f.payload,f.qos,f.retain⟩,⟨⟨hm.i.u,hm.i.s,hm.i.t⟩,hm.s,hm.e,hm.ts,hm.tf,hm.tr,hm.tc,hm.rf,hm.ct,hm.rl,hm.tp,hm.py,hm.kd⟩,rfl,rfl⟩,?_⟩;rotate_left;(exact sub_);((try simp only [List.map_append,List.map_cons,List.map_nil,encU,encDot,encFence]);first | (exact le.rfl_) | (refine le.agg ?_;(repeat (first | exact Les.nil | refine Les.cons le.rfl_ ?_ | refine Les.cons (le.gs rfl) ?_ | refine Les.cons (le.gs List.map_nil.symm) ?_ | refine Les.cons (le.agg ?_) ?_));done));done)
 | (refine ⟨_,_,?_,⟨⟨f.kind,f.fr,f.ep,f.at_,f.sums,f.seen,f.tab,f.seq,z,f.payload,f.qos,f.retain⟩,⟨⟨hm.i.u,hm.i.s,hm.i.t⟩,hm.s,hm.e,hm.ts,hm.tf,hm.tr,hm.tc,hm.rf,hm.ct,hm.rl,hz,hm.py,hm.kd⟩,rfl,rfl⟩,?_⟩;rotate_left;(exact sub_);((try simp only [List.map_append,List.map_cons,List.map_nil,encU,encDot,encFence]);first | (exact le.rfl_) | (refine le.agg ?_;(repeat (first | exact Les.nil | refine Les.cons le.rfl_ ?_ | refine Les.cons (le.gs rfl) ?_ | refine Les.cons (le.gs List.map_nil.symm) ?_ | refine Les.cons (le.agg ?_) ?_));done));done)
 | (refine ⟨_,_,?_,⟨⟨f.kind,f.fr,f.ep,f.at_,f.sums,f.seen,f.tab,f.seq,f.topic,f.payload,v,f.retain⟩,⟨⟨hm.i.u,hm.i.s,hm.i.t⟩,hm.s,hm.e,hm.ts,hm.tf,hm.tr,hm.tc,hm.rf,hm.ct,hm.rl,hm.tp,hm.py,hm.kd⟩,rfl,rfl⟩,?_⟩;rotate_left;(exact sub_);((try simp only [List.map_append,List.map_cons,List.map_nil,encU,encDot,encFence]);first | (exact le.rfl_) | (refine le.agg ?_;(repeat (first | exact Les.nil | refine Les.cons le.rfl_ ?_ | refine Les.cons (le.gs rfl) ?_ | refine Les.cons (le.gs List.map_nil.symm) ?_ | refine Les.cons (le.agg ?_) ?_));done));done)
 | (refine ⟨_,_,?_,⟨⟨f.kind,f.fr,f.ep,f.at_,f.sums,f.seen,f.tab,f.seq,f.topic,f.payload,f.qos,true⟩,⟨⟨hm.i.u,hm.i.s,hm.i.t⟩,hm.s,hm.e,hm.ts,hm.tf,hm.tr,hm.tc,hm.rf,hm.ct,hm.rl,hm.tp,hm.py,hm.kd⟩,rfl,rfl⟩,?_⟩;rotate_left;(exact sub_);((try simp only [List.map_append,List.map_cons,List.map_nil,encU,encDot,encFence]);first | (exact le.rfl_) | (refine le.agg ?_;(repeat (first | exact Les.nil | refine Les.cons le.rfl_ ?_ | refine Les.cons (le.gs rfl) ?_ | refine Les.cons (le.gs List.map_nil.symm) ?_ | refine Les.cons (le.agg ?_) ?_));done));done)
 | (refine ⟨_,_,?_,⟨⟨f.kind,f.fr,f.ep,f.at_,f.sums++[IntKind.u64.wrap v],f.seen,f.tab,f.seq,f.topic,f.payload,f.qos,f.retain⟩,⟨⟨(fun x hx=>by rcases List.mem_append.1 hx with hx | hx;exact hm.i.u x hx;rw [List.mem_singleton] at hx;subst hx;exact u64_b v),hm.i.s,hm.i.t⟩,(by have:=hf.s;simp only [List.length_append,List.length_cons,List.length_nil];omega),hm.e,hm.ts,hm.tf,hm.tr,hm.tc,hm.rf,hm.ct,hm.rl,hm.tp,hm.py,hm.kd⟩,rfl,rfl⟩,?_⟩;rotate_left;(exact sub_);((try simp only [List.map_append,List.map_cons,List.map_nil,encU,encDot,encFence]);first | (exact le.rfl_) | (refine le.agg ?_;(repeat (first | exact Les.nil | refine Les.cons le.rfl_ ?_ | refine Les.cons (le.gs rfl) ?_ | refine Les.cons (le.gs List.map_nil.symm) ?_ | refine Les.cons (le.agg ?_) ?_));done));done)
 | (refine ⟨_,_,?_,⟨⟨f.kind,f.fr,f.ep,f.at_,f.sums,f.seen++[⟨IntKind.i64.wrap (BitVec.toNat (BitVec.ofInt IntKind.i64.bits v &&& BitVec.ofInt IntKind.i64.bits 31):Int),1,1⟩],f.tab,f.seq,f.topic,f.payload,f.qos,f.retain⟩,⟨⟨hm.i.u,(fun x hx=>by rcases List.mem_append.1 hx with hx | hx;exact hm.i.s x hx;rw [List.mem_singleton] at hx;subst hx;exact ⟨wrap_in _,i64_1,i64_1⟩),hm.i.t⟩,hm.s,(by have:=hf.e;simp only [List.length_append,List.length_cons,List.length_nil];omega),hm.ts,hm.tf,hm.tr,hm.tc,hm.rf,hm.ct,hm.rl,hm.tp,hm.py,hm.kd⟩,rfl,rfl⟩,?_⟩;rotate_left;(exact sub_);((try simp only [List.map_append,List.map_cons,List.map_nil,encU,encDot,encFence]);first | (exact le.rfl_) | (refine le.agg ?_;(repeat (first | exact Les.nil | refine Les.cons le.rfl_ ?_ | refine Les.cons (le.gs rfl) ?_ | refine Les.cons (le.gs List.map_nil.symm) ?_ | refine Les.cons (le.agg ?_) ?_));done));done)
 | (refine ⟨_,_,?_,⟨⟨f.kind,f.fr,f.ep,f.at_,f.sums,f.seen,⟨f.tab.seen,f.tab.fences++[⟨IntKind.i64.wrap (BitVec.toNat (BitVec.ofInt IntKind.i64.bits v &&& BitVec.ofInt IntKind.i64.bits 31):Int),1⟩],f.tab.routes,f.tab.cells⟩,f.seq,f.topic,f.payload,f.qos,f.retain⟩,⟨⟨hm.i.u,hm.i.s,⟨hm.i.t.s,(fun x hx=>by rcases List.mem_append.1 hx with hx | hx;exact hm.i.t.f x hx;rw [List.mem_singleton] at hx;subst hx;exact ⟨wrap_in _,i64_1⟩),hm.i.t.r,hm.i.t.c⟩⟩,hm.s,hm.e,hm.ts,(by have:=hf.tf;simp only [List.length_append,List.length_cons,List.length_nil];omega),hm.tr,hm.tc,hm.rf,hm.ct,hm.rl,hm.tp,hm.py,hm.kd⟩,rfl,rfl⟩,?_⟩;rotate_left;(exact sub_);((try simp only [List.map_append,List.map_cons,List.map_nil,encU,encDot,encFence]);first | (exact le.rfl_) | (refine le.agg ?_;(repeat (first | exact Les.nil | refine Les.cons le.rfl_ ?_ | refine Les.cons (le.gs rfl) ?_ | refine Les.cons (le.gs List.map_nil.symm) ?_ | refine Les.cons (le.agg ?_) ?_));done));done)
 | (refine ⟨_,_,?_,⟨⟨f.kind,f.fr,f.ep,f.at_,f.sums,f.seen,f.tab,f.seq,f.topic,f.payload++[7],f.qos,f.retain⟩,⟨⟨hm.i.u,hm.i.s,hm.i.t⟩,hm.s,hm.e,hm.ts,hm.tf,hm.tr,hm.tc,hm.rf,hm.ct,hm.rl,hm.tp,(by have:=hf.py;simp only [List.length_append,List.length_cons,List.length_nil];omega),hm.kd⟩,rfl,rfl⟩,?_⟩;rotate_left;(exact sub_);((try simp only [List.map_append,List.map_cons,List.map_nil,encU,encDot,encFence]);first | (exact le.rfl_) | (refine le.agg ?_;(repeat (first | exact Les.nil | refine Les.cons le.rfl_ ?_ | refine Les.cons (le.gs rfl) ?_ | refine Les.cons (le.gs List.map_nil.symm) ?_ | refine Les.cons (le.agg ?_) ?_));done));done)
 | (trace_state;fail)
end
end
end Go.Proofs.YtbmbcjmgjdnlnaaGreatDoor
