/- Copies of bytes; numbers in use, queues. -/
import Derived.Test.YtgekknefphagbaaGreatDoorJax
import Derived.Test.YtgekknefphagbaaGreatDoorTex
import Derived.Test.YtgekknefphagbaaGreatDoorNsx
import Derived.KernelRfl
import Derived.Test.YtgekknefphagbaaGreatDoorPv3x
namespace Go.Proofs.YtgekknefphagbaaGreatDoor
open Go.RowKit
set_option linter.unusedSimpArgs false
set_option linter.unusedVariables false
set_option linter.unusedSectionVars false
set_option maxHeartbeats 4000000
set_option maxRecDepth 100000
section
attribute [local irreducible] DW SeqD DV DOp DC DVX DVJ
theorem ziR {p:Prop} (h:p:=by first | exact sv | (simp [u8,V.one,u8]<;>omega) | fail):p:=h
attribute [local push_cast 2000] za8 zbb zaE zaX zaF zaA zbe za9 za4 za7 zbd zaI zaC zba zaG zaw zaH zav zbc zaB zay zbf zaD zax zau
section
attribute [local push_cast 2000] u8
theorem zoX (l:List UInt8) (p:Addr) (n cap:Nat) (F:Own):(l.length<=1000000000)->DC Tryz.prog 86 [.gs (.slice (some p) n cap) (l.map u8)] (([]:Own)++F) fun d G=>∃ v,d = .ar v l.length/\G = .arr 1 v (cells (l.map u8))::F:=by
 intro hA
 have hl:=hA
 refine DC.bodyS (n_:=8) (show Tryz.prog.funcs[86]? = some Tryz.f86 by kernel_rfl) rfl rfl (by rfl) ?_
 simp only [env0,List.cons_append,List.nil_append]
 have kw:=ksIs [0,2,4]
 have ow:=zaf [5]
 repeat' (first
  | refine g_ ?_
  | ((with_reducible refine And.intro ?_ ?_);(exact ziR))
  | (refine DW.cond (by rfl) ?_ ?_<;>(first | exact i0_ | (refine ic_ ?_;intro hb)))
  | ((with_reducible refine zaa ?_ ?_)<;>(intro hb;rw [hb];revert hb;(first | exact i0_ | (refine i_ ?_;intro hb))))
  | refine r_ ?_
  | refine k_ ?_
  | ((first | (refine DOp.lista_ [5] rfl rfl ?_) | (refine DOp.makea_ [5] rfl rfl rfl rfl ?_))<;>(refine s_ ?_))
  | refine o_ ?_
  | refine f_ ?_
  | with_reducible intro b)
 all_goals first
 | (refine ⟨_,_,le.rfl_,⟨_,rfl,rfl⟩,?_⟩;(exact sub_);done)
end
theorem zor (n cap:Nat) (F:Own):(True)->DC Tryz.prog 86 [.gs (.slice none n cap) []] (([]:Own)++F) fun d G=>d = .gs (.slice none 0 0) []/\G=[]++F:=by
 intro hA
 refine DC.bodyS (n_:=8) (show Tryz.prog.funcs[86]? = some Tryz.f86 by kernel_rfl) rfl rfl (by rfl) ?_
 simp only [env0,List.cons_append,List.nil_append]
 have kw:=ksIs [0,2,4]
 have ow:=zaf []
 repeat' (first
  | refine g_ ?_
  | ((with_reducible refine And.intro ?_ ?_);(exact sv))
  | (refine DW.cond (by rfl) ?_ ?_<;>(first | exact i0_ | (refine ic_ ?_;intro hb)))
  | ((with_reducible refine zaa ?_ ?_)<;>(intro hb;rw [hb];revert hb;(first | exact i0_ | (refine i_ ?_;intro hb))))
  | refine r_ ?_
  | refine k_ ?_
  | ((first | (refine DOp.lista_ [5] rfl rfl ?_) | (refine DOp.makea_ [5] rfl rfl rfl rfl ?_))<;>(refine s_ ?_))
  | refine o_ ?_
  | refine f_ ?_
  | with_reducible intro b)
 (first | exact fin_ | refine finq_ ?_)
 all_goals rfl
theorem clob_dc (l:List UInt8) (F:Own):l.length<=1000000000->DC Tryz.prog 86 [.sl (l.map u8)] (([]:Own)++F) fun d G=>∃ v,d = .ar v l.length/\G = .arr 1 v (cells (l.map u8))::F:=fun h=>DC.someV (by kernel_rfl) fun a cap ha=>by
 cases a with
 | none =>
  have e:=ha rfl
  have el:l=[]:=List.map_eq_nil_iff.1 e
  subst el
  exact (DC.own0 1 (zor _ _ F trivial)).mono fun d G ⟨h1,h2⟩=>⟨_,h1,h2⟩
 | some p=>exact zoX l p _ _ F h
theorem zbC (l:List UInt8) (F:Own):l.length<=1000000000->DC Tryz.prog 86 [.sl (l.map u8)] (([]:Own)++F) fun d G=>d = .sl (l.map u8)/\G=[]++F:=fun h =>
 DC.le_ (fun v=>.gs v (l.map u8)) (fun v=>le.gs rfl) ((DC.frz (F:=F) (K:=fun _=>True) (D:=fun v=>.ar v l.length) (D':=fun v=>.gs v (l.map u8)) (sz:=1) (l:=l.map u8) (L:=fun _=>F) (by decide) (fun y hy=>by obtain ⟨x,_,rfl⟩:=List.mem_map.1 hy;rfl) (fun v=>.hit _)
  ((clob_dc l F h).mono fun d G ⟨v,h1,h2⟩=>⟨v,h1,h2,trivial⟩)).mono fun d G ⟨v,h1,h2,_⟩=>⟨v,h1,h2⟩)
section
variable {β:Type} {ev:β->V}
theorem zbq (a:Int) (l:List (Int×β)):zdJ (.int .i64 a) (entM (V.int .i64) ev l)=(lookA a l).map ev:=zhi (intE .i64) a l
theorem zh1 (a:Int) (v:β) (l:List (Int×β)):updV (.int .i64 a) (ev v) (entM (V.int .i64) ev l)=entM (V.int .i64) ev (updA a v l):=ziO (intE .i64) a v l
theorem zbt (a:Int) (l:List (Int×β)):zg4 (.int .i64 a) (entM (V.int .i64) ev l)=entM (V.int .i64) ev (za1 a l):=zhz (intE .i64) a l
end
theorem mm_ids:min (max (65535:Int) 0) 65535=65535:=by decide
theorem mm_q:min (max (8:Int) 0) 65536=8:=by decide
theorem cand_eq {t:Int} (h:0<=t):t.tmod 65535+1=cand t 0:=zqa h
theorem cand_cc (t:Int) (k:Nat):cand (cand t k) 0=cand t (k+1):=by
 have:=zdW t k
 rw [<-zqa (by omega),cand_s]
theorem zmD (t:Int) (k:Nat):IntKind.i64.wrap (cand t k)=cand t k:=by
 have:=zdW t k
 rw [IntKind.wrap_i64]<;>omega
theorem zmM:usI []=[]:=rfl
attribute [local irreducible] cand usI zbv zdi
theorem zfx (now:Int) (F:Own):(True)->DC Tryz.prog 93 [.int .i64 now] (([]:Own)++F) fun d G=>d = .int .i64 (zbm now)/\G=[]++F:=by
 intro hA
 refine DC.bodyS (n_:=6) (show Tryz.prog.funcs[93]? = some Tryz.f93 by kernel_rfl) rfl rfl (by rfl) ?_
 simp only [env0,List.cons_append,List.nil_append]
 have kw:=ksIs [0,2]
 have ow:=zaf []
 repeat' (first
  | refine g_ ?_
  | ((with_reducible refine And.intro ?_ ?_);(exact sv))
  | (refine DW.cond (by rfl) ?_ ?_<;>(first | exact i0_ | (refine ic_ ?_;intro hb)))
  | ((with_reducible refine zaa ?_ ?_)<;>(intro hb;rw [hb];revert hb;(first | exact i0_ | (refine i_ ?_;intro hb))))
  | refine r_ ?_
  | refine k_ ?_
  | refine o_ ?_
  | refine f_ ?_
  | with_reducible intro b)
 (first | exact fin_ | refine finq_ ?_)
 all_goals rfl
section
attribute [local push_cast 2000] mm_ids
theorem zlE  (F:Own):(True)->DC Tryz.prog 147 [.int .i64 65535] (([]:Own)++F) fun d G=>∃ ib um,d = .raw (.pointer (some ⟨ib,0,none⟩))/\G = .blk ib [.raw (.map (some um)), .int .i64 65535, .int .i64 0] :: .map um (entM (V.int .i64) V.bool (usI []))::F:=by
 intro hA
 refine DC.bodyS (n_:=9) (show Tryz.prog.funcs[147]? = some Tryz.f147 by kernel_rfl) rfl rfl (by rfl) ?_
 simp only [env0,List.cons_append,List.nil_append]
 have kw:=ksIs [0,2]
 have ow:=zaf [8]
 repeat' (first
  | refine g_ ?_
  | ((with_reducible refine And.intro ?_ ?_);(exact sv))
  | (refine DW.cond (by rfl) ?_ ?_<;>(first | exact i0_ | (refine ic_ ?_;intro hb)))
  | ((with_reducible refine zaa ?_ ?_)<;>(intro hb;rw [hb];revert hb;(first | exact i0_ | (refine i_ ?_;intro hb))))
  | refine r_ ?_
  | refine k_ ?_
  | refine o_ ?_
  | refine f_ ?_
  | ((fail_if_success (have zz:=b1));with_reducible intro b1)
  | ((fail_if_success (have zz:=b2));with_reducible intro b2)
  | with_reducible intro b)
 all_goals first
 | (refine ⟨_,_,le.rfl_,⟨b2,b1,rfl,rfl⟩,?_⟩;(rw [zmM]);(simp only [za4]);(exact sub_);done)
 | (trace_state;fail)
end
section
attribute [local push_cast 2000] cand_eq cand_cc zmD zbq zh1 zbt zhk zj2 zhr zja zeO
theorem zna (ib um:Nat) (us:List Int) (tk:Int) (F:Own):(us.length<=1000/\0<=tk/\tk<=65535)->DC Tryz.prog 177 [.raw (.pointer (some ⟨ib,0,none⟩))] ([.blk ib [.raw (.map (some um)), .int .i64 65535, .int .i64 tk], .map um (entM (V.int .i64) V.bool (usI us))]++F) fun d G=>d = .tup [.int .i64 (zbv us tk), .bool true]/\G = .blk ib [.raw (.map (some um)), .int .i64 65535, .int .i64 (zbv us tk)] :: .map um (entM (V.int .i64) V.bool (usI (us++[zbv us tk])))::F:=by
 intro hA
 obtain ⟨hus,htk⟩:=hA
 refine DC.bodyS (n_:=53) (show Tryz.prog.funcs[177]? = some Tryz.f177 by kernel_rfl) rfl rfl (by rfl) ?_
 simp only [env0,List.cons_append,List.nil_append]
 have kw:=ksIs [0,2,3,13,31]
 have ow:=zaf []
 have dw1:=drIs 1 [] [3,4,8]
 have dw4:=drIs 4 [] [3,7,8]
 have dw6:=drIs 6 [8] [3,7]
 have q0:=Int.tmod_nonneg 65535 htk.1;have q1:=Int.tmod_lt_of_pos tk (show (0:Int)<65535 by decide)
 repeat' (first
  | ((with_reducible refine DW.loopB 0 (X:=Nat) (fun x=>x<=us.length/\(∀ j,j<x->cand tk j∈us)/\zdi us tk (us.length - x) x=zbv us tk) (fun x=>[(0, .raw (.pointer (some ⟨ib,0,none⟩)))]) (fun x=>[.blk ib [.raw (.map (some um)), .int .i64 65535, .int .i64 (cand tk x)], .map um (entM (V.int .i64) V.bool (usI us))]) (fun x=>us.length - x) (0) ?_ ?_ ?_);exact (⟨Nat.zero_le _,(fun j h=>absurd h (Nat.not_lt_zero _)),by unfold zbv;rfl⟩);(simp [Sub,get,zaW]<;>fail);(try simp only [List.cons_append,List.nil_append]);refine pl_ ?_;intro k ⟨hk,hin,hfr⟩;(try simp only [List.cons_append,List.nil_append]);(try simp only at hk hin hfr);have hrg:=zdW tk k;have q2:=Int.tmod_nonneg 65535 (show 0<=cand tk k by omega);have q3:=Int.tmod_lt_of_pos (cand tk k) (show (0:Int)<65535 by decide))
  | refine g_ ?_
  | ((with_reducible refine And.intro ?_ ?_);(exact sv))
  | (refine DW.cond (by rfl) ?_ ?_<;>(first | exact i0_ | (refine ic_ ?_;intro hb)))
  | ((with_reducible first | refine zaa ?_ ?_ | refine zai ?_ ?_)<;>(intro hb;rw [hb];revert hb;(first | exact i0_ | (refine i_ ?_;intro hb))))
  | refine r_ ?_
  | refine d_ ?_
  | refine k_ ?_
  | ((refine dm_ ?_);(first | (refine DVop.look_ rfl rfl rfl rfl ?_;(repeat (with_reducible first | refine OnM.here ?_ | refine OnM.next ?_));refine s_ ?_) | (refine DVop.lenm_ rfl rfl rfl rfl ?_;(repeat (with_reducible first | refine OnM.here ?_ | refine OnM.next ?_));refine s_ ?_)))
  | refine vo_ ?_
  | ((first | (refine DOp.look_ rfl rfl ?_;(repeat (with_reducible first | refine OnM.here ?_ | refine OnM.next ?_))) | (refine DOp.upd_ rfl rfl ?_;(repeat (with_reducible first | refine OnM.here ?_ | refine OnM.next ?_))) | (refine DOp.lenm_ rfl rfl ?_;(repeat (with_reducible first | refine OnM.here ?_ | refine OnM.next ?_))))<;>(refine s_ ?_))
  | refine o_ ?_
  | refine f_ ?_
  | refine vm_ ?_
  | with_reducible intro b)
 all_goals first
 | ((have hm:cand tk k∈us:=by simpa using hb)
    (have hal:∀ j,j<=k->cand tk j∈us:=fun j hj=>(Nat.lt_or_eq_of_le hj).elim (hin j) (fun e=>e▸hm))
    (have hroom:=zhV (us:=us) (t:=tk) (k:=k) (by omega) hal)
    refine ⟨k+1,⟨by (try simp only);omega,(fun j hj=>hal j (by (try simp only at hj);omega)),?_⟩,by (try simp only);omega,by simp [Sub,get],?_⟩;(focus ((try simp only);rw [<-hfr,zn7 hm (by omega)];congr 1));((try dsimp only);(exact sub_));done)
 | ((have hm:cand tk k ∉ us:=by simpa using hb)
    (have e:zbv us tk=cand tk k:=by rw [<-hfr,zkU hm])
    (rw [if_neg hm]);(rw [e]);(first | exact fin_ | refine finq_ ?_);done)
 | (trace_state;fail)
end
section
attribute [local push_cast 2000] zbq zh1 zbt zhk zj2 zhr zja zeO
end
section
attribute [local push_cast 2000] mm_q
theorem qnew_dc  (F:Own):(True)->DC Tryz.prog 148 [.int .i64 8] (([]:Own)++F) fun d G=>∃ qb,d = .raw (.pointer (some ⟨qb,0,none⟩))/\G = .blk qb [.gs (.slice none 0 0) ([].map encM), .int .i64 8, .int .i64 0] :: .tail 4 (.slice none 0 0)::F:=by
 intro hA
 refine DC.bodyS (n_:=8) (show Tryz.prog.funcs[148]? = some Tryz.f148 by kernel_rfl) rfl rfl (by rfl) ?_
 simp only [env0,List.cons_append,List.nil_append]
 have kw:=ksIs [0,2]
 have ow:=zaf [7]
 refine DW.tail0 4 ?_
 repeat' (first
  | refine g_ ?_
  | ((with_reducible refine And.intro ?_ ?_);(exact sv))
  | (refine DW.cond (by rfl) ?_ ?_<;>(first | exact i0_ | (refine ic_ ?_;intro hb)))
  | ((with_reducible refine zaa ?_ ?_)<;>(intro hb;rw [hb];revert hb;(first | exact i0_ | (refine i_ ?_;intro hb))))
  | refine r_ ?_
  | refine k_ ?_
  | refine o_ ?_
  | refine f_ ?_
  | ((fail_if_success (have zz:=b1));with_reducible intro b1)
  | with_reducible intro b)
 all_goals first
 | (refine ⟨_,_,le.rfl_,⟨b1,rfl,rfl⟩,?_⟩;(try simp only [List.map_nil]);(exact sub_);done)
 | (trace_state;fail)
end
section
attribute [local push_cast 2000] encM
end
section
attribute [local push_cast 2000] encM
theorem qpop_dc (qb:Nat) (qv:Value) (m:Mg) (q:List Mg) (lost:Int) (F:Own):(True)->DC Tryz.prog 195 [.raw (.pointer (some ⟨qb,0,none⟩))] ([.blk qb [.gs qv (encM m::q.map encM), .int .i64 8, .int .i64 lost], .tail 4 qv]++F) fun d G=>∃ qv',d = .tup [.agg [.str m.topic, .sl (m.pay.map u8), .int .i64 m.qos, .bool m.retain], .bool true]/\G = .blk qb [.gs qv' (q.map encM), .int .i64 8, .int .i64 lost] :: .tail 4 qv'::F:=by
 intro hA
 refine DC.bodyS (n_:=27) (show Tryz.prog.funcs[195]? = some Tryz.f195 by kernel_rfl) rfl rfl (by rfl) ?_
 simp only [env0,List.cons_append,List.nil_append]
 have kw:=ksIs [0,2,3,4,10]
 have ow:=zaf [2]
 have rw_:=rsIs [.cell 2 63, .tmp 3]
 repeat' (first
  | refine g_ ?_
  | ((with_reducible refine And.intro ?_ ?_);(exact sv))
  | (refine DW.cond (by rfl) ?_ ?_<;>(first | exact i0_ | (refine ic_ ?_;intro hb)))
  | ((with_reducible refine zaa ?_ ?_)<;>(intro hb;rw [hb];revert hb;(first | exact i0_ | (refine i_ ?_;intro hb))))
  | refine k_ ?_
  | ((with_reducible refine DW.regK [0,2,3,4,10] (by kernel_rfl) ?_)<;>(refine s_ ?_))
  | ((first | ((with_reducible refine SeqD.op rfl ?_);(first | (refine DOp.slicet_ rfl rfl rfl ?_;(repeat (with_reducible first | refine OnT.here ?_ | refine OnT.next ?_ | refine OnT.skip ?_))) | (refine DOp.slicea_ rfl rfl ?_) | (refine DOp.capa_ rfl rfl ?_) | (refine DOp.lensub_ rfl rfl ?_) | (refine DOp.copyaa2_ rfl rfl rfl ?_;(repeat (with_reducible first | refine OnA.here ?_ | refine OnA.next ?_));(repeat (with_reducible first | refine OnA.here ?_ | refine OnA.next ?_))) | (refine DOp.copyas2_ rfl rfl rfl ?_;(repeat (with_reducible first | refine OnA.here ?_ | refine OnA.next ?_))) | (refine DOp.cleara2_ rfl rfl ?_;(repeat (with_reducible first | refine OnA.here ?_ | refine OnA.next ?_))) | (refine DOp.appsubz_ rfl rfl rfl ?_;(repeat (with_reducible first | refine OnA.here ?_ | refine OnA.next ?_))) | (refine DOp.appsub_ rfl rfl rfl ?_;(repeat (with_reducible first | refine OnA.here ?_ | refine OnA.next ?_))) | (refine on_ ?_))) | (refine SeqD.opP rfl ?_) | (refine DOp.slicet_ rfl rfl rfl ?_;(repeat (with_reducible first | refine OnT.here ?_ | refine OnT.next ?_ | refine OnT.skip ?_))) | (refine DOp.slicea_ rfl rfl ?_) | (refine DOp.capa_ rfl rfl ?_) | (refine DOp.lensub_ rfl rfl ?_) | (refine DOp.copyaa2_ rfl rfl rfl ?_;(repeat (with_reducible first | refine OnA.here ?_ | refine OnA.next ?_));(repeat (with_reducible first | refine OnA.here ?_ | refine OnA.next ?_))) | (refine DOp.copyas2_ rfl rfl rfl ?_;(repeat (with_reducible first | refine OnA.here ?_ | refine OnA.next ?_))) | (refine DOp.cleara2_ rfl rfl ?_;(repeat (with_reducible first | refine OnA.here ?_ | refine OnA.next ?_))) | (refine DOp.appsubz_ rfl rfl rfl ?_;(repeat (with_reducible first | refine OnA.here ?_ | refine OnA.next ?_))) | (refine DOp.appsub_ rfl rfl rfl ?_;(repeat (with_reducible first | refine OnA.here ?_ | refine OnA.next ?_))))<;>(refine s_ ?_))
  | refine o_ ?_
  | refine f_ ?_
  | ((fail_if_success (have zz:=b1));with_reducible intro b1)
  | ((fail_if_success (have zz:=b2));with_reducible intro b2)
  | with_reducible intro b)
 all_goals first
 | (refine ⟨_,_,le.rfl_,⟨b,rfl,rfl⟩,?_⟩;(exact sub_);done)
 | (trace_state;fail)
end
theorem zpr (qb:Nat) (qv:Value) (lost:Int) (F:Own):(True)->DC Tryz.prog 195 [.raw (.pointer (some ⟨qb,0,none⟩))] ([.blk qb [.gs qv [], .int .i64 8, .int .i64 lost], .tail 4 qv]++F) fun d G=>d = .tup [.agg [.str [], .gs (.slice none 0 0) [], .int .i64 0, .bool false], .bool false]/\G=[.blk qb [.gs qv [], .int .i64 8, .int .i64 lost], .tail 4 qv]++F:=by
 intro hA
 refine DC.bodyS (n_:=27) (show Tryz.prog.funcs[195]? = some Tryz.f195 by kernel_rfl) rfl rfl (by rfl) ?_
 simp only [env0,List.cons_append,List.nil_append]
 have kw:=ksIs [0,2,3,4,10]
 have ow:=zaf [2]
 have rw_:=rsIs [.cell 2 63, .tmp 3]
 repeat' (first
  | refine g_ ?_
  | ((with_reducible refine And.intro ?_ ?_);(exact sv))
  | (refine DW.cond (by rfl) ?_ ?_<;>(first | exact i0_ | (refine ic_ ?_;intro hb)))
  | ((with_reducible refine zaa ?_ ?_)<;>(intro hb;rw [hb];revert hb;(first | exact i0_ | (refine i_ ?_;intro hb))))
  | refine r_ ?_
  | refine k_ ?_
  | refine o_ ?_
  | refine f_ ?_
  | with_reducible intro b)
 (first | exact fin_ | refine finq_ ?_)
 all_goals rfl
end
section
def zc5 (p:Pk):V:=.agg [.int .i64 p.kind, .bool p.dup, .bool p.retain, .int .i64 p.qos, .int .i64 p.id, .str p.topic, .sl (p.payload.map u8), .int .i64 p.level, .str p.client, .bool p.clean, .int .i64 p.keep, .bool p.hasWill, .str p.wtopic, .sl (p.wpay.map u8), .int .i64 p.wqos, .bool p.wretain, .bool p.hasUser, .bool p.hasPass, .str p.user, .sl (p.pass.map u8), .bool p.present, .int .i64 p.code, .sl (p.subs.map encU), .sl (p.codes.map (V.int .i64))]
theorem zbN (l:List Fl):(cells (l.map encF)).length=l.length * 7:=by rw [zdG (sz:=7) _ (fun y hy=>by obtain ⟨x,_,rfl⟩:=List.mem_map.1 hy;rfl),List.length_map]
theorem fl_snoc (l:List Fl) (f:Fl):cells (l.map encF)++[.str f.m.topic, .sl (f.m.pay.map u8), .int .i64 f.m.qos, .bool f.m.retain, .int .i64 f.id, .int .i64 f.sent, .bool f.rcv]=cells ((l++[f]).map encF):=by
 rw [List.map_append,zb2];rfl
theorem zmf (l:List Fl) (f:Fl):idsF (l++[f])=idsF l++[f.id]:=by unfold idsF;rw [List.map_append];rfl
theorem le.sl1 {a a':List V} (h:Les a a'):le (.sl [.agg a]) (.sl [.agg a']):=fun S w u r=>by
 have key:=h.at_
 generalize hL:[V.agg a]=L at r
 cases r with
 | sl A n cap _ sz hn hc ha h1 h2 h3 h4 =>
 subst hL
 have hsz:a.length=sz:=h2 0 (by simp)
 refine .sl A n cap [.agg a'] sz hn hc (fun h=>nomatch ha h) (fun q hq _=>h1 q hq (by simp)) (fun i hi=>?_) (fun q i k hq hi hk=>h3 q i k hq hi hk) (fun q i k hq hi hk=>?_)
 · obtain rfl:i=0:=by simpa using hi
   show a'.length=sz
   rw [<-key.1,hsz]
 · obtain rfl:i=0:=by simpa using hi
   have:=h4 q 0 k hq (by simp) hk
   exact key.2 k (by rw [<-key.1,hsz];exact hk) S w _ this
attribute [local irreducible] DW SeqD DV DOp DC DVX DVJ filterB zbv zbm idsF usI
attribute [local push_cast 2000] za8 zbb zaE zaX zaF zaA zbe za9 za4 za7 zbd zaI zaC zba zaG zaw zaH zav zbc zaB zay zbf zaD zax zau
section
theorem zhe (nm:YS) (F:Own):(True)->DC Tryz.prog 85 [.str nm] (([]:Own)++F) fun d G=>∃ x:SN,(x.a=newA nm/\x.lost=0)/\d = .raw (.pointer (some ⟨x.b,0,none⟩))/\G=x.own++F:=by
 intro hA
 refine DC.bodyS (n_:=10) (show Tryz.prog.funcs[85]? = some Tryz.f85 by kernel_rfl) rfl rfl (by rfl) ?_
 simp only [env0,List.cons_append,List.nil_append]
 have kw:=ksIs [0,2]
 have ow:=zaf [9]
 repeat' (first
  | ((fail_if_success (have zz:=hown));(refine DW.own0P 7 b3 3 (by ((with_reducible repeat (first | exact Pulled.nil | apply Pulled.cons | exact Took.here | apply Took.next | fail))<;>fail)) rfl ?_);(simp only [List.set_cons_succ,List.set_cons_zero]);(have hown:True:=trivial))
  | refine g_ ?_
  | ((with_reducible refine And.intro ?_ ?_);(exact sv))
  | (refine DW.cond (by rfl) ?_ ?_<;>(first | exact i0_ | (refine ic_ ?_;intro hb)))
  | ((with_reducible refine zaa ?_ ?_)<;>(intro hb;rw [hb];revert hb;(first | exact i0_ | (refine i_ ?_;intro hb))))
  | refine r_ ?_
  | refine k_ ?_
  | (refine p_ (zlE _) ?_;rintro d H1 ⟨ib,um,rfl,rfl⟩<;>refine s_ ?_)
  | (refine p_ (qnew_dc _) ?_;rintro d H1 ⟨qb,rfl,rfl⟩<;>refine s_ ?_)
  | refine o_ ?_
  | refine f_ ?_
  | ((fail_if_success (have zz:=b1));with_reducible intro b1)
  | ((fail_if_success (have zz:=b2));with_reducible intro b2)
  | ((fail_if_success (have zz:=b3));with_reducible intro b3)
  | with_reducible intro b)
 all_goals first
 | (refine ⟨_,_,le.rfl_,⟨⟨b3,b1,ib,um,qb,b2, .slice none 0 0, .slice none 0 0,0,newA nm⟩,⟨rfl,rfl⟩,rfl,rfl⟩,?_⟩;(unfold SN.own SN.cs newA idsF;simp only [zmM,List.map_nil,zas,za4,List.length_nil,List.cons_append,List.nil_append]);(exact sub_);done)
 | (trace_state;fail)
end
theorem zlA (b sm ib qb gm:Nat) (fv:Value) (nm:YS) (fl:List Fl) (F:Own):(True)->DC Tryz.prog 49 [.raw (.pointer (some ⟨b,0,none⟩))] ([.blk b [.str nm, .raw (.map (some sm)), .raw (.pointer (some ⟨ib,0,none⟩)), .ar fv fl.length, .raw (.pointer (some ⟨qb,0,none⟩)), .raw (.map (some gm))]]++F) fun d G=>d = .str nm/\G=[.blk b [.str nm, .raw (.map (some sm)), .raw (.pointer (some ⟨ib,0,none⟩)), .ar fv fl.length, .raw (.pointer (some ⟨qb,0,none⟩)), .raw (.map (some gm))]]++F:=by
 intro hA
 refine DC.bodyS (n_:=7) (show Tryz.prog.funcs[49]? = some Tryz.f49 by kernel_rfl) rfl rfl (by rfl) ?_
 simp only [env0,List.cons_append,List.nil_append]
 have kw:=ksIs [0,2]
 have ow:=zaf []
 repeat' (first
  | refine g_ ?_
  | ((with_reducible refine And.intro ?_ ?_);(exact sv))
  | (refine DW.cond (by rfl) ?_ ?_<;>(first | exact i0_ | (refine ic_ ?_;intro hb)))
  | ((with_reducible refine zaa ?_ ?_)<;>(intro hb;rw [hb];revert hb;(first | exact i0_ | (refine i_ ?_;intro hb))))
  | refine r_ ?_
  | refine k_ ?_
  | refine o_ ?_
  | refine f_ ?_
  | with_reducible intro b)
 (first | exact fin_ | refine finq_ ?_)
 all_goals rfl
section
end
section
end
theorem zh6 (mt mp:YS) (mq:Int) (mr:Bool) (id:Int) (dup:Bool) (F:Own):(mp.length<=100000)->DC Tryz.prog 124 [.agg [.str mt, .sl (mp.map u8), .int .i64 mq, .bool mr], .int .i64 id, .bool dup] (([]:Own)++F) fun d G=>d = .agg [.int .i64 (pubM (⟨mt,mp,mq,mr⟩:Mg) id dup).kind, .bool (pubM (⟨mt,mp,mq,mr⟩:Mg) id dup).dup, .bool (pubM (⟨mt,mp,mq,mr⟩:Mg) id dup).retain, .int .i64 (pubM (⟨mt,mp,mq,mr⟩:Mg) id dup).qos, .int .i64 (pubM (⟨mt,mp,mq,mr⟩:Mg) id dup).id, .str (pubM (⟨mt,mp,mq,mr⟩:Mg) id dup).topic, .sl ((pubM (⟨mt,mp,mq,mr⟩:Mg) id dup).payload.map u8), .int .i64 (pubM (⟨mt,mp,mq,mr⟩:Mg) id dup).level, .str (pubM (⟨mt,mp,mq,mr⟩:Mg) id dup).client, .bool (pubM (⟨mt,mp,mq,mr⟩:Mg) id dup).clean, .int .i64 (pubM (⟨mt,mp,mq,mr⟩:Mg) id dup).keep, .bool (pubM (⟨mt,mp,mq,mr⟩:Mg) id dup).hasWill, .str (pubM (⟨mt,mp,mq,mr⟩:Mg) id dup).wtopic, .sl ((pubM (⟨mt,mp,mq,mr⟩:Mg) id dup).wpay.map u8), .int .i64 (pubM (⟨mt,mp,mq,mr⟩:Mg) id dup).wqos, .bool (pubM (⟨mt,mp,mq,mr⟩:Mg) id dup).wretain, .bool (pubM (⟨mt,mp,mq,mr⟩:Mg) id dup).hasUser, .bool (pubM (⟨mt,mp,mq,mr⟩:Mg) id dup).hasPass, .str (pubM (⟨mt,mp,mq,mr⟩:Mg) id dup).user, .sl ((pubM (⟨mt,mp,mq,mr⟩:Mg) id dup).pass.map u8), .bool (pubM (⟨mt,mp,mq,mr⟩:Mg) id dup).present, .int .i64 (pubM (⟨mt,mp,mq,mr⟩:Mg) id dup).code, .sl ((pubM (⟨mt,mp,mq,mr⟩:Mg) id dup).subs.map encU), .sl ((pubM (⟨mt,mp,mq,mr⟩:Mg) id dup).codes.map (V.int .i64))]/\G=[]++F:=by
 intro hA
 have hmp:=hA
 refine DC.bodyS (n_:=19) (show Tryz.prog.funcs[124]? = some Tryz.f124 by kernel_rfl) rfl rfl (by rfl) ?_
 simp only [env0,List.cons_append,List.nil_append]
 have kw:=ksIs [0,1,2,3,6]
 have ow:=zaf []
 have dw1:=drIs 1 [12] [1,3,4,6,8]
 have rw_:=rsIs [.cell 6 29]
 repeat' (first
  | refine g_ ?_
  | ((with_reducible refine And.intro ?_ ?_);(exact sv))
  | (refine DW.cond (by rfl) ?_ ?_<;>(first | exact i0_ | (refine ic_ ?_;intro hb)))
  | ((with_reducible first | refine zaa ?_ ?_ | refine zai ?_ ?_)<;>(intro hb;rw [hb];revert hb;(first | exact i0_ | (refine i_ ?_;intro hb))))
  | refine r_ ?_
  | refine d_ ?_
  | refine k_ ?_
  | ((refine dm_ ?_);(first | (refine v_ (zbC _ _) ?_)))
  | refine vo_ ?_
  | (refine q_ (zbC _ _) ?_)
  | refine o_ ?_
  | refine f_ ?_
  | refine vm_ ?_
  | with_reducible intro b)
 all_goals first
 | ((refine ⟨_,_,?_,⟨rfl,rfl⟩,?_⟩);rotate_left;(exact sub_);(refine le.agg ?_);(repeat (first | exact Les.nil | refine Les.cons le.rfl_ ?_ | refine Les.cons (le.gs rfl) ?_));done)
 | (trace_state;fail)
theorem zip (k id:Int) (F:Own):(True)->DC Tryz.prog 88 [.int .i64 k, .int .i64 id] (([]:Own)++F) fun d G=>d = .sl [.agg [.int .i64 (ackP k id).kind, .bool (ackP k id).dup, .bool (ackP k id).retain, .int .i64 (ackP k id).qos, .int .i64 (ackP k id).id, .str (ackP k id).topic, .sl ((ackP k id).payload.map u8), .int .i64 (ackP k id).level, .str (ackP k id).client, .bool (ackP k id).clean, .int .i64 (ackP k id).keep, .bool (ackP k id).hasWill, .str (ackP k id).wtopic, .sl ((ackP k id).wpay.map u8), .int .i64 (ackP k id).wqos, .bool (ackP k id).wretain, .bool (ackP k id).hasUser, .bool (ackP k id).hasPass, .str (ackP k id).user, .sl ((ackP k id).pass.map u8), .bool (ackP k id).present, .int .i64 (ackP k id).code, .sl ((ackP k id).subs.map encU), .sl ((ackP k id).codes.map (V.int .i64))]]/\G=[]++F:=by
 intro hA
 refine DC.bodyS (n_:=9) (show Tryz.prog.funcs[88]? = some Tryz.f88 by kernel_rfl) rfl rfl (by rfl) ?_
 simp only [env0,List.cons_append,List.nil_append]
 have kw:=ksIs [0,1,4]
 have ow:=zaf []
 repeat' (first
  | refine g_ ?_
  | ((with_reducible refine And.intro ?_ ?_);(exact sv))
  | (refine DW.cond (by rfl) ?_ ?_<;>(first | exact i0_ | (refine ic_ ?_;intro hb)))
  | ((with_reducible refine zaa ?_ ?_)<;>(intro hb;rw [hb];revert hb;(first | exact i0_ | (refine i_ ?_;intro hb))))
  | refine r_ ?_
  | refine k_ ?_
  | refine o_ ?_
  | refine f_ ?_
  | with_reducible intro b)
 all_goals first
 | ((refine ⟨_,_,?_,⟨rfl,rfl⟩,?_⟩);rotate_left;(exact sub_);(refine le.sl1 ?_);(repeat (first | exact Les.nil | refine Les.cons le.rfl_ ?_ | refine Les.cons (le.gs rfl) ?_));done)
 | (trace_state;fail)
end
end Go.Proofs.YtgekknefphagbaaGreatDoor
