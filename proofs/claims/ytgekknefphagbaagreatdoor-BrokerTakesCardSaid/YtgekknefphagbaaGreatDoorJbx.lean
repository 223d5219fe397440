/- Copies of bytes; numbers in use, queues. -/
import Derived.Test.YtgekknefphagbaaGreatDoorJax
import Derived.Test.YtgekknefphagbaaGreatDoorTex
import Derived.Test.YtgekknefphagbaaGreatDoorMpx
import Derived.KernelRfl
import Derived.Test.YtgekknefphagbaaGreatDoorCzx
namespace Go.Proofs.YtgekknefphagbaaGreatDoor
open Go.RowKit
set_option linter.unusedSimpArgs false
set_option linter.unusedVariables false
set_option linter.unusedSectionVars false
set_option maxHeartbeats 4000000
set_option maxRecDepth 100000
section
attribute [local irreducible] DW SeqD DV DOp DC DVX DVJ
theorem zjv {p:Prop} (h:p:=by first | exact sv | (simp [u8,V.one,u8]<;>omega) | fail):p:=h
attribute [local push_cast 2000] za9 zaW za8 zaL za3 zaG zaV za7 zax za2 zaX zaB zaC zaY zaE zaq za6 zat zaZ za5 zas zba zaD zar zap
section
attribute [local push_cast 2000] u8
theorem zqb (l:List UInt8) (p:Addr) (n cap:Nat) (F:Own):(l.length<=1000000000)->DC Tryz.prog 86 [.gs (.slice (some p) n cap) (l.map u8)] (([]:Own)++F) fun d G=>∃ v,d = .ar v l.length/\G = .arr 1 v (cells (l.map u8))::F:=by
 intro hA
 have hl:=hA
 refine DC.bodyS (n_:=8) (show Tryz.prog.funcs[86]? = some Tryz.f86 by kernel_rfl) rfl rfl (by rfl) ?_
 simp only [env0,List.cons_append,List.nil_append]
 have kw:=ksIs [0,2,4]
 have ow:=zaf [5]
 repeat' (first
  | refine g_ ?_
  | ((with_reducible refine And.intro ?_ ?_);(exact zjv))
  | (refine DW.cond (by rfl) ?_ ?_<;>(first | exact i0_ | (refine ic_ ?_;intro hb)))
  | ((with_reducible refine zaa ?_ ?_)<;>(intro hb;rw [hb];revert hb;(first | exact i0_ | (refine i_ ?_;intro hb))))
  | refine r_ ?_
  | refine k_ ?_
  | ((first | (refine DOp.lista_ [5] rfl rfl ?_) | (refine DOp.makea_ [5] rfl rfl rfl rfl ?_))<;>(refine s_ ?_))
  | refine o_ ?_
  | refine f_ ?_
  | with_reducible intro b)
 all_goals first
 | (exact kxb2)
end
theorem zoO (n cap:Nat) (F:Own):(True)->DC Tryz.prog 86 [.gs (.slice none n cap) []] (([]:Own)++F) fun d G=>d = .gs (.slice none 0 0) []/\G=[]++F:=by
 intro hA
 refine DC.bodyS (n_:=8) (show Tryz.prog.funcs[86]? = some Tryz.f86 by kernel_rfl) rfl rfl (by rfl) ?_
 simp only [env0,List.cons_append,List.nil_append]
 have kw:=ksIs [0,2,4]
 have ow:=zaf []
 repeat' (first
  | refine g_ ?_
  | ((with_reducible refine And.intro ?_ ?_);(exact sv))
  | (refine DW.cond (by rfl) ?_ ?_<;>(first | exact i0_ | (refine ic_ ?_;intro hb)))
  | ((with_reducible refine zaa ?_ ?_)<;>(intro hb;rw [hb];revert hb;(first | exact i0_ | (refine i_ ?_;intro hb))))
  | refine r_ ?_
  | refine k_ ?_
  | ((first | (refine DOp.lista_ [5] rfl rfl ?_) | (refine DOp.makea_ [5] rfl rfl rfl rfl ?_))<;>(refine s_ ?_))
  | refine o_ ?_
  | refine f_ ?_
  | with_reducible intro b)
 (first | exact fin_ | refine finq_ ?_)
 all_goals rfl
theorem clob_dc (l:List UInt8) (F:Own):l.length<=1000000000->DC Tryz.prog 86 [.sl (l.map u8)] (([]:Own)++F) fun d G=>∃ v,d = .ar v l.length/\G = .arr 1 v (cells (l.map u8))::F:=fun h=>DC.someV (by kernel_rfl) fun a cap ha=>by
 cases a with
 | none =>
  have e:=ha rfl
  have el:l=[]:=List.map_eq_nil_iff.1 e
  subst el
  exact (DC.own0 1 (zoO _ _ F trivial)).mono fun d G ⟨h1,h2⟩=>⟨_,h1,h2⟩
 | some p=>exact zqb l p _ _ F h
theorem zbD (l:List UInt8) (F:Own):l.length<=1000000000->DC Tryz.prog 86 [.sl (l.map u8)] (([]:Own)++F) fun d G=>d = .sl (l.map u8)/\G=[]++F:=fun h =>
 DC.le_ (fun v=>.gs v (l.map u8)) (fun v=>le.gs rfl) ((DC.frz (F:=F) (K:=fun _=>True) (D:=fun v=>.ar v l.length) (D':=fun v=>.gs v (l.map u8)) (sz:=1) (l:=l.map u8) (L:=fun _=>F) (by decide) (fun y hy=>by obtain ⟨x,_,rfl⟩:=List.mem_map.1 hy;rfl) (fun v=>.hit _)
  ((clob_dc l F h).mono fun d G ⟨v,h1,h2⟩=>⟨v,h1,h2,trivial⟩)).mono fun d G ⟨v,h1,h2,_⟩=>⟨v,h1,h2⟩)
section
variable {β:Type} {ev:β->V}
theorem zbh (a:Int) (l:List (Int×β)):zec (.int .i64 a) (entM (V.int .i64) ev l)=(lookA a l).map ev:=zhY (intE .i64) a l
theorem zhP (a:Int) (v:β) (l:List (Int×β)):updV (.int .i64 a) (ev v) (entM (V.int .i64) ev l)=entM (V.int .i64) ev (updA a v l):=zjO (intE .i64) a v l
theorem zbi (a:Int) (l:List (Int×β)):zgP (.int .i64 a) (entM (V.int .i64) ev l)=entM (V.int .i64) ev (za0 a l):=zhF (intE .i64) a l
end
theorem mm_ids:min (max (65535:Int) 0) 65535=65535:=by decide
theorem mm_q:min (max (8:Int) 0) 65536=8:=by decide
theorem cand_eq {t:Int} (h:0<=t):t.tmod 65535+1=cand t 0:=zqI h
theorem cand_cc (t:Int) (k:Nat):cand (cand t k) 0=cand t (k+1):=by
 have:=zee t k
 rw [<-zqI (by omega),cand_s]
theorem znQ (t:Int) (k:Nat):IntKind.i64.wrap (cand t k)=cand t k:=by
 have:=zee t k
 rw [IntKind.wrap_i64]<;>omega
theorem zm8:usI []=[]:=rfl
attribute [local irreducible] cand usI zbx zds
theorem zfV (now:Int) (F:Own):(True)->DC Tryz.prog 93 [.int .i64 now] (([]:Own)++F) fun d G=>d = .int .i64 (zbf now)/\G=[]++F:=by
 intro hA
 refine DC.bodyS (n_:=6) (show Tryz.prog.funcs[93]? = some Tryz.f93 by kernel_rfl) rfl rfl (by rfl) ?_
 simp only [env0,List.cons_append,List.nil_append]
 have kw:=ksIs [0,2]
 have ow:=zaf []
 repeat' (first
  | refine g_ ?_
  | ((with_reducible refine And.intro ?_ ?_);(exact sv))
  | (refine DW.cond (by rfl) ?_ ?_<;>(first | exact i0_ | (refine ic_ ?_;intro hb)))
  | ((with_reducible refine zaa ?_ ?_)<;>(intro hb;rw [hb];revert hb;(first | exact i0_ | (refine i_ ?_;intro hb))))
  | refine r_ ?_
  | refine k_ ?_
  | refine o_ ?_
  | refine f_ ?_
  | with_reducible intro b)
 (first | exact fin_ | refine finq_ ?_)
 all_goals rfl
section
attribute [local push_cast 2000] mm_ids
theorem zmM  (F:Own):(True)->DC Tryz.prog 147 [.int .i64 65535] (([]:Own)++F) fun d G=>∃ ib um,d = .raw (.pointer (some ⟨ib,0,none⟩))/\G = .blk ib [.raw (.map (some um)), .int .i64 65535, .int .i64 0] :: .map um (entM (V.int .i64) V.bool (usI []))::F:=by
 intro hA
 refine DC.bodyS (n_:=9) (show Tryz.prog.funcs[147]? = some Tryz.f147 by kernel_rfl) rfl rfl (by rfl) ?_
 simp only [env0,List.cons_append,List.nil_append]
 have kw:=ksIs [0,2]
 have ow:=zaf [8]
 repeat' (first
  | refine g_ ?_
  | ((with_reducible refine And.intro ?_ ?_);(exact sv))
  | (refine DW.cond (by rfl) ?_ ?_<;>(first | exact i0_ | (refine ic_ ?_;intro hb)))
  | ((with_reducible refine zaa ?_ ?_)<;>(intro hb;rw [hb];revert hb;(first | exact i0_ | (refine i_ ?_;intro hb))))
  | refine r_ ?_
  | refine k_ ?_
  | refine o_ ?_
  | refine f_ ?_
  | ((fail_if_success (have zz:=b1));with_reducible intro b1)
  | ((fail_if_success (have zz:=b2));with_reducible intro b2)
  | with_reducible intro b)
 all_goals first
 | (refine ⟨_,_,le.rfl_,⟨b2,b1,rfl,rfl⟩,?_⟩;(rw [zm8]);(simp only [zax]);(exact sub_);done)
 | (trace_state;fail)
end
section
attribute [local push_cast 2000] cand_eq cand_cc znQ zbh zhP zbi zhH zjn zh9 zjU zff
theorem zml (ib um:Nat) (us:List Int) (tk:Int) (F:Own):(us.length<=1000/\0<=tk/\tk<=65535)->DC Tryz.prog 177 [.raw (.pointer (some ⟨ib,0,none⟩))] ([.blk ib [.raw (.map (some um)), .int .i64 65535, .int .i64 tk], .map um (entM (V.int .i64) V.bool (usI us))]++F) fun d G=>d = .tup [.int .i64 (zbx us tk), .bool true]/\G = .blk ib [.raw (.map (some um)), .int .i64 65535, .int .i64 (zbx us tk)] :: .map um (entM (V.int .i64) V.bool (usI (us++[zbx us tk])))::F:=by
 intro hA
 obtain ⟨hus,htk⟩:=hA
 refine DC.bodyS (n_:=53) (show Tryz.prog.funcs[177]? = some Tryz.f177 by kernel_rfl) rfl rfl (by rfl) ?_
 simp only [env0,List.cons_append,List.nil_append]
 have kw:=ksIs [0,2,3,13,31]
 have ow:=zaf []
 have dw1:=drIs 1 [] [3,4,8]
 have dw4:=drIs 4 [] [3,7,8]
 have dw6:=drIs 6 [8] [3,7]
 have q0:=Int.tmod_nonneg 65535 htk.1;have q1:=Int.tmod_lt_of_pos tk (show (0:Int)<65535 by decide)
 repeat' (first
  | ((with_reducible refine DW.loopB 0 (X:=Nat) (fun x=>x<=us.length/\(∀ j,j<x->cand tk j∈us)/\zds us tk (us.length - x) x=zbx us tk) (fun x=>[(0, .raw (.pointer (some ⟨ib,0,none⟩)))]) (fun x=>[.blk ib [.raw (.map (some um)), .int .i64 65535, .int .i64 (cand tk x)], .map um (entM (V.int .i64) V.bool (usI us))]) (fun x=>us.length - x) (0) ?_ ?_ ?_);exact (⟨Nat.zero_le _,(fun j h=>absurd h (Nat.not_lt_zero _)),by unfold zbx;rfl⟩);(exact kxcm);(try simp only [List.cons_append,List.nil_append]);refine pl_ ?_;intro k ⟨hk,hin,hfr⟩;(try simp only [List.cons_append,List.nil_append]);(try simp only at hk hin hfr);have hrg:=zee tk k;have q2:=Int.tmod_nonneg 65535 (show 0<=cand tk k by omega);have q3:=Int.tmod_lt_of_pos (cand tk k) (show (0:Int)<65535 by decide))
  | refine g_ ?_
  | ((with_reducible refine And.intro ?_ ?_);(exact sv))
  | (refine DW.cond (by rfl) ?_ ?_<;>(first | exact i0_ | (refine ic_ ?_;intro hb)))
  | ((with_reducible first | refine zaa ?_ ?_ | refine zak ?_ ?_)<;>(intro hb;rw [hb];revert hb;(first | exact i0_ | (refine i_ ?_;intro hb))))
  | refine r_ ?_
  | refine d_ ?_
  | refine k_ ?_
  | ((refine dm_ ?_);(first | (refine DVop.look_ rfl rfl rfl rfl ?_;(repeat (with_reducible first | refine OnM.here ?_ | refine OnM.next ?_));refine s_ ?_) | (refine DVop.lenm_ rfl rfl rfl rfl ?_;(repeat (with_reducible first | refine OnM.here ?_ | refine OnM.next ?_));refine s_ ?_)))
  | refine vo_ ?_
  | ((first | (refine DOp.look_ rfl rfl ?_;(repeat (with_reducible first | refine OnM.here ?_ | refine OnM.next ?_))) | (refine DOp.upd_ rfl rfl ?_;(repeat (with_reducible first | refine OnM.here ?_ | refine OnM.next ?_))) | (refine DOp.lenm_ rfl rfl ?_;(repeat (with_reducible first | refine OnM.here ?_ | refine OnM.next ?_))))<;>(refine s_ ?_))
  | refine o_ ?_
  | refine f_ ?_
  | refine vm_ ?_
  | with_reducible intro b)
 all_goals first
 | ((have hm:cand tk k∈us:=by simpa using hb)
    (have hal:∀ j,j<=k->cand tk j∈us:=fun j hj=>(Nat.lt_or_eq_of_le hj).elim (hin j) (fun e=>e▸hm))
    (have hroom:=ziO (us:=us) (t:=tk) (k:=k) (by omega) hal)
    refine ⟨k+1,⟨by (try simp only);omega,(fun j hj=>hal j (by (try simp only at hj);omega)),?_⟩,by (try simp only);omega,by simp [Sub,get],?_⟩;(focus ((try simp only);rw [<-hfr,zmy hm (by omega)];congr 1));(exact kxce);done)
 | ((have hm:cand tk k ∉ us:=by simpa using hb)
    (have e:zbx us tk=cand tk k:=by rw [<-hfr,zl7 hm])
    (rw [if_neg hm]);(rw [e]);(first | exact fin_ | refine finq_ ?_);done)
 | (trace_state;fail)
end
section
attribute [local push_cast 2000] zbh zhP zbi zhH zjn zh9 zjU zff
end
section
attribute [local push_cast 2000] mm_q
theorem qnew_dc  (F:Own):(True)->DC Tryz.prog 148 [.int .i64 8] (([]:Own)++F) fun d G=>∃ qb,d = .raw (.pointer (some ⟨qb,0,none⟩))/\G = .blk qb [.gs (.slice none 0 0) ([].map encM), .int .i64 8, .int .i64 0] :: .tail 4 (.slice none 0 0)::F:=by
 intro hA
 refine DC.bodyS (n_:=8) (show Tryz.prog.funcs[148]? = some Tryz.f148 by kernel_rfl) rfl rfl (by rfl) ?_
 simp only [env0,List.cons_append,List.nil_append]
 have kw:=ksIs [0,2]
 have ow:=zaf [7]
 refine DW.tail0 4 ?_
 repeat' (first
  | refine g_ ?_
  | ((with_reducible refine And.intro ?_ ?_);(exact sv))
  | (refine DW.cond (by rfl) ?_ ?_<;>(first | exact i0_ | (refine ic_ ?_;intro hb)))
  | ((with_reducible refine zaa ?_ ?_)<;>(intro hb;rw [hb];revert hb;(first | exact i0_ | (refine i_ ?_;intro hb))))
  | refine r_ ?_
  | refine k_ ?_
  | refine o_ ?_
  | refine f_ ?_
  | ((fail_if_success (have zz:=b1));with_reducible intro b1)
  | with_reducible intro b)
 all_goals first
 | (refine ⟨_,_,le.rfl_,⟨b1,rfl,rfl⟩,?_⟩;(try simp only [List.map_nil]);(exact sub_);done)
 | (trace_state;fail)
end
section
attribute [local push_cast 2000] encM
end
section
attribute [local push_cast 2000] encM
theorem qpop_dc (qb:Nat) (qv:Value) (m:Mg) (q:List Mg) (lost:Int) (F:Own):(True)->DC Tryz.prog 195 [.raw (.pointer (some ⟨qb,0,none⟩))] ([.blk qb [.gs qv (encM m::q.map encM), .int .i64 8, .int .i64 lost], .tail 4 qv]++F) fun d G=>∃ qv',d = .tup [.agg [.str m.topic, .sl (m.pay.map u8), .int .i64 m.qos, .bool m.retain], .bool true]/\G = .blk qb [.gs qv' (q.map encM), .int .i64 8, .int .i64 lost] :: .tail 4 qv'::F:=by
 intro hA
 refine DC.bodyS (n_:=27) (show Tryz.prog.funcs[195]? = some Tryz.f195 by kernel_rfl) rfl rfl (by rfl) ?_
 simp only [env0,List.cons_append,List.nil_append]
 have kw:=ksIs [0,2,3,4,10]
 have ow:=zaf [2]
 have rw_:=rsIs [.cell 2 63, .tmp 3]
 repeat' (first
  | refine g_ ?_
  | ((with_reducible refine And.intro ?_ ?_);(exact sv))
  | (refine DW.cond (by rfl) ?_ ?_<;>(first | exact i0_ | (refine ic_ ?_;intro hb)))
  | ((with_reducible refine zaa ?_ ?_)<;>(intro hb;rw [hb];revert hb;(first | exact i0_ | (refine i_ ?_;intro hb))))
  | refine k_ ?_
  | ((with_reducible refine DW.regK [0,2,3,4,10] (by kernel_rfl) ?_)<;>(refine s_ ?_))
  | ((first | ((with_reducible refine SeqD.op rfl ?_);(first | (refine DOp.slicet_ rfl rfl rfl ?_;(repeat (with_reducible first | refine OnT.here ?_ | refine OnT.next ?_ | refine OnT.skip ?_))) | (refine DOp.slicea_ rfl rfl ?_) | (refine DOp.capa_ rfl rfl ?_) | (refine DOp.lensub_ rfl rfl ?_) | (refine DOp.copyaa2_ rfl rfl rfl ?_;(repeat (with_reducible first | refine OnA.here ?_ | refine OnA.next ?_));(repeat (with_reducible first | refine OnA.here ?_ | refine OnA.next ?_))) | (refine DOp.copyas2_ rfl rfl rfl ?_;(repeat (with_reducible first | refine OnA.here ?_ | refine OnA.next ?_))) | (refine DOp.cleara2_ rfl rfl ?_;(repeat (with_reducible first | refine OnA.here ?_ | refine OnA.next ?_))) | (refine DOp.appsubz_ rfl rfl rfl ?_;(repeat (with_reducible first | refine OnA.here ?_ | refine OnA.next ?_))) | (refine DOp.appsub_ rfl rfl rfl ?_;(repeat (with_reducible first | refine OnA.here ?_ | refine OnA.next ?_))) | (refine on_ ?_))) | (refine SeqD.opP rfl ?_) | (refine DOp.slicet_ rfl rfl rfl ?_;(repeat (with_reducible first | refine OnT.here ?_ | refine OnT.next ?_ | refine OnT.skip ?_))) | (refine DOp.slicea_ rfl rfl ?_) | (refine DOp.capa_ rfl rfl ?_) | (refine DOp.lensub_ rfl rfl ?_) | (refine DOp.copyaa2_ rfl rfl rfl ?_;(repeat (with_reducible first | refine OnA.here ?_ | refine OnA.next ?_));(repeat (with_reducible first | refine OnA.here ?_ | refine OnA.next ?_))) | (refine DOp.copyas2_ rfl rfl rfl ?_;(repeat (with_reducible first | refine OnA.here ?_ | refine OnA.next ?_))) | (refine DOp.cleara2_ rfl rfl ?_;(repeat (with_reducible first | refine OnA.here ?_ | refine OnA.next ?_))) | (refine DOp.appsubz_ rfl rfl rfl ?_;(repeat (with_reducible first | refine OnA.here ?_ | refine OnA.next ?_))) | (refine DOp.appsub_ rfl rfl rfl ?_;(repeat (with_reducible first | refine OnA.here ?_ | refine OnA.next ?_))))<;>(refine s_ ?_))
  | refine o_ ?_
  | refine f_ ?_
  | ((fail_if_success (have zz:=b1));with_reducible intro b1)
  | ((fail_if_success (have zz:=b2));with_reducible intro b2)
  | with_reducible intro b)
 all_goals first
 | (refine ⟨_,_,le.rfl_,⟨b,rfl,rfl⟩,?_⟩;(exact sub_);done)
 | (trace_state;fail)
end
theorem zoF (qb:Nat) (qv:Value) (lost:Int) (F:Own):(True)->DC Tryz.prog 195 [.raw (.pointer (some ⟨qb,0,none⟩))] ([.blk qb [.gs qv [], .int .i64 8, .int .i64 lost], .tail 4 qv]++F) fun d G=>d = .tup [.agg [.str [], .gs (.slice none 0 0) [], .int .i64 0, .bool false], .bool false]/\G=[.blk qb [.gs qv [], .int .i64 8, .int .i64 lost], .tail 4 qv]++F:=by
 intro hA
 refine DC.bodyS (n_:=27) (show Tryz.prog.funcs[195]? = some Tryz.f195 by kernel_rfl) rfl rfl (by rfl) ?_
 simp only [env0,List.cons_append,List.nil_append]
 have kw:=ksIs [0,2,3,4,10]
 have ow:=zaf [2]
 have rw_:=rsIs [.cell 2 63, .tmp 3]
 repeat' (first
  | refine g_ ?_
  | ((with_reducible refine And.intro ?_ ?_);(exact sv))
  | (refine DW.cond (by rfl) ?_ ?_<;>(first | exact i0_ | (refine ic_ ?_;intro hb)))
  | ((with_reducible refine zaa ?_ ?_)<;>(intro hb;rw [hb];revert hb;(first | exact i0_ | (refine i_ ?_;intro hb))))
  | refine r_ ?_
  | refine k_ ?_
  | refine o_ ?_
  | refine f_ ?_
  | with_reducible intro b)
 (first | exact fin_ | refine finq_ ?_)
 all_goals rfl
end
section
def zcG (p:Pk):V:=.agg [.int .i64 p.kind, .bool p.dup, .bool p.retain, .int .i64 p.qos, .int .i64 p.id, .str p.topic, .sl (p.payload.map u8), .int .i64 p.level, .str p.client, .bool p.clean, .int .i64 p.keep, .bool p.hasWill, .str p.wtopic, .sl (p.wpay.map u8), .int .i64 p.wqos, .bool p.wretain, .bool p.hasUser, .bool p.hasPass, .str p.user, .sl (p.pass.map u8), .bool p.present, .int .i64 p.code, .sl (p.subs.map encU), .sl (p.codes.map (V.int .i64))]
theorem zbO (l:List Fl):(cells (l.map encF)).length=l.length * 7:=by rw [zdZ (sz:=7) _ (fun y hy=>by obtain ⟨x,_,rfl⟩:=List.mem_map.1 hy;rfl),List.length_map]
theorem fl_snoc (l:List Fl) (f:Fl):cells (l.map encF)++[.str f.m.topic, .sl (f.m.pay.map u8), .int .i64 f.m.qos, .bool f.m.retain, .int .i64 f.id, .int .i64 f.sent, .bool f.rcv]=cells ((l++[f]).map encF):=by
 rw [List.map_append,zb2];rfl
theorem znG (l:List Fl) (f:Fl):idsF (l++[f])=idsF l++[f.id]:=by unfold idsF;rw [List.map_append];rfl
theorem le.sl1 {a a':List V} (h:Les a a'):le (.sl [.agg a]) (.sl [.agg a']):=fun S w u r=>by
 have key:=h.at_
 generalize hL:[V.agg a]=L at r
 cases r with
 | sl A n cap _ sz hn hc ha h1 h2 h3 h4 =>
 subst hL
 have hsz:a.length=sz:=h2 0 (by simp)
 refine .sl A n cap [.agg a'] sz hn hc (fun h=>nomatch ha h) (fun q hq _=>h1 q hq (by simp)) (fun i hi=>?_) (fun q i k hq hi hk=>h3 q i k hq hi hk) (fun q i k hq hi hk=>?_)
 · obtain rfl:i=0:=by simpa using hi
   show a'.length=sz
   rw [<-key.1,hsz]
 · obtain rfl:i=0:=by simpa using hi
   have:=h4 q 0 k hq (by simp) hk
   exact key.2 k (by rw [<-key.1,hsz];exact hk) S w _ this
theorem zmG (a:YS) (c:Int) (l:List (YS×Int)):updV (.str a) (.int .i64 c) (entM V.str (V.int .i64) l)=entM V.str (V.int .i64) (updA a c l):=zaL (ev:=V.int .i64) a c l
attribute [local irreducible] DW SeqD DV DOp DC DVX DVJ filterB zbx zbf idsF usI
attribute [local push_cast 2000] za9 zaW za8 zaL za3 zaG zaV za7 zax za2 zaX zaB zaC zaY zaE zaq za6 zat zaZ za5 zas zba zaD zar zap
section
theorem zh5 (nm:YS) (F:Own):(True)->DC Tryz.prog 85 [.str nm] (([]:Own)++F) fun d G=>∃ x:SN,(x.a=newA nm/\x.lost=0)/\d = .raw (.pointer (some ⟨x.b,0,none⟩))/\G=x.own++F:=by
 intro hA
 refine DC.bodyS (n_:=10) (show Tryz.prog.funcs[85]? = some Tryz.f85 by kernel_rfl) rfl rfl (by rfl) ?_
 simp only [env0,List.cons_append,List.nil_append]
 have kw:=ksIs [0,2]
 have ow:=zaf [9]
 repeat' (first
  | ((fail_if_success (have zz:=hown));(refine DW.own0P 7 b3 3 (by ((with_reducible repeat (first | exact Pulled.nil | apply Pulled.cons | exact Took.here | apply Took.next | fail))<;>fail)) rfl ?_);(simp only [List.set_cons_succ,List.set_cons_zero]);(have hown:True:=trivial))
  | refine g_ ?_
  | ((with_reducible refine And.intro ?_ ?_);(exact sv))
  | (refine DW.cond (by rfl) ?_ ?_<;>(first | exact i0_ | (refine ic_ ?_;intro hb)))
  | ((with_reducible refine zaa ?_ ?_)<;>(intro hb;rw [hb];revert hb;(first | exact i0_ | (refine i_ ?_;intro hb))))
  | refine r_ ?_
  | refine k_ ?_
  | (refine p_ (zmM _) ?_;rintro d H1 ⟨ib,um,rfl,rfl⟩<;>refine s_ ?_)
  | (refine p_ (qnew_dc _) ?_;rintro d H1 ⟨qb,rfl,rfl⟩<;>refine s_ ?_)
  | refine o_ ?_
  | refine f_ ?_
  | ((fail_if_success (have zz:=b1));with_reducible intro b1)
  | ((fail_if_success (have zz:=b2));with_reducible intro b2)
  | ((fail_if_success (have zz:=b3));with_reducible intro b3)
  | with_reducible intro b)
 all_goals first
 | (refine ⟨_,_,le.rfl_,⟨⟨b3,b1,ib,um,qb,b2, .slice none 0 0, .slice none 0 0,0,newA nm⟩,⟨rfl,rfl⟩,rfl,rfl⟩,?_⟩;(unfold SN.own SN.cs newA idsF;simp only [zm8,List.map_nil,zao,zax,List.length_nil,List.cons_append,List.nil_append]);(exact sub_);done)
 | (trace_state;fail)
end
theorem zl4 (b sm ib qb gm:Nat) (fv:Value) (nm:YS) (fl:List Fl) (F:Own):(True)->DC Tryz.prog 49 [.raw (.pointer (some ⟨b,0,none⟩))] ([.blk b [.str nm, .raw (.map (some sm)), .raw (.pointer (some ⟨ib,0,none⟩)), .ar fv fl.length, .raw (.pointer (some ⟨qb,0,none⟩)), .raw (.map (some gm))]]++F) fun d G=>d = .str nm/\G=[.blk b [.str nm, .raw (.map (some sm)), .raw (.pointer (some ⟨ib,0,none⟩)), .ar fv fl.length, .raw (.pointer (some ⟨qb,0,none⟩)), .raw (.map (some gm))]]++F:=by
 intro hA
 refine DC.bodyS (n_:=7) (show Tryz.prog.funcs[49]? = some Tryz.f49 by kernel_rfl) rfl rfl (by rfl) ?_
 simp only [env0,List.cons_append,List.nil_append]
 have kw:=ksIs [0,2]
 have ow:=zaf []
 repeat' (first
  | refine g_ ?_
  | ((with_reducible refine And.intro ?_ ?_);(exact sv))
  | (refine DW.cond (by rfl) ?_ ?_<;>(first | exact i0_ | (refine ic_ ?_;intro hb)))
  | ((with_reducible refine zaa ?_ ?_)<;>(intro hb;rw [hb];revert hb;(first | exact i0_ | (refine i_ ?_;intro hb))))
  | refine r_ ?_
  | refine k_ ?_
  | refine o_ ?_
  | refine f_ ?_
  | with_reducible intro b)
 (first | exact fin_ | refine finq_ ?_)
 all_goals rfl
theorem zmb {P Q:Prop} (q:Q) (h:Hid Q->P:=by (intro q;simp (maxSteps:=1000000) (disch:=omega) only [push_cast,↓reduceIte,reduceCtorEq,Nat.reduceAdd,Nat.reduceMul,Nat.reduceLT,Nat.reduceLeDiff,Nat.reduceEqDiff,Nat.reduceSub,Int.reduceToNat,Int.reduceLT,Int.reduceLE,Int.reduceAdd,Int.reduceSub,Int.reduceMul,Int.reduceNeg,Nat.reduceBEq,Int.reduceBEq,Int.reduceBNe,Nat.reduceBNe,Int.reduceEq,hfb];exact q.1)):P:=h ⟨q⟩
section
attribute [local push_cast 2000] zmG
theorem ssub_dc (m:Int) (b sm ib qb gm:Nat) (fv:Value) (nm:YS) (fl:List Fl) (sb:List (YS×Int)) (ff:YS) (qq:Int) (F:Own):(filterB ff=true/\ff.length<=1000000/\0<=qq/\qq<=2)->DC Tryz.prog 96 [.raw (.pointer (some ⟨b,0,none⟩)), .str ff, .int .i64 qq] (knF::knA::knM m :: .blk b [.str nm, .raw (.map (some sm)), .raw (.pointer (some ⟨ib,0,none⟩)), .ar fv fl.length, .raw (.pointer (some ⟨qb,0,none⟩)), .raw (.map (some gm))] :: .map sm (entM V.str (V.int .i64) sb)::([]:Own)++F) fun d G=>∃ r:Bool,d = .bool r/\G=knF::knA::knM m :: .blk b [.str nm, .raw (.map (some sm)), .raw (.pointer (some ⟨ib,0,none⟩)), .ar fv fl.length, .raw (.pointer (some ⟨qb,0,none⟩)), .raw (.map (some gm))] :: .map sm (entM V.str (V.int .i64) (updA ff qq sb))::F:=by
 intro hA
 obtain ⟨hfb,hfl,hq0,hq2⟩:=hA
 refine DC.bodyS (n_:=37) (show Tryz.prog.funcs[96]? = some Tryz.f96 by kernel_rfl) rfl rfl (by rfl) ?_
 simp only [env0,List.cons_append,List.nil_append]
 have kw:=ksIs [0,1,2,6,8,19]
 have ow:=zaf []
 repeat' (first
  | refine g_ ?_
  | ((with_reducible refine And.intro ?_ ?_);(exact sv))
  | (refine DW.cond (by rfl) ?_ ?_<;>(first | exact i0_ | (intro hb;(try simp only [↓reduceCtorEq,not_true_eq_false,not_false_eq_true,hbs,Int.reduceBEq,Int.reduceBNe,Int.reduceEq] at hb);(try refine zmb ?_))))
  | ((with_reducible refine zaa ?_ ?_)<;>(intro hb;rw [hb];revert hb;(first | exact i0_ | (intro hb;(try simp only [↓reduceCtorEq,not_true_eq_false,not_false_eq_true,hbs,Int.reduceBEq,Int.reduceBNe,Int.reduceEq] at hb);(try refine zmb ?_)))))
  | ((first | refine rn_ ?_ | refine kn_ ?_)<;>(refine zmb ?_))
  | ((first | (refine DOp.look_ rfl rfl ?_;(repeat (with_reducible first | refine OnM.here ?_ | refine OnM.next ?_))) | (refine DOp.upd_ rfl rfl ?_;(repeat (with_reducible first | refine OnM.here ?_ | refine OnM.next ?_))))<;>(refine zmb ?_))
  | (refine q_ (zcv _ _ _) ?_ (hk:=fun q=>q.1);refine zmb ?_)
  | ((refine on_ ?_);refine zmb ?_)
  | refine f_ ?_
  | with_reducible intro b)
 all_goals first
 | (exact kxb2)
 | (trace_state;fail)
end
section
end
theorem zhT (mt mp:YS) (mq:Int) (mr:Bool) (id:Int) (dup:Bool) (F:Own):(mp.length<=100000)->DC Tryz.prog 124 [.agg [.str mt, .sl (mp.map u8), .int .i64 mq, .bool mr], .int .i64 id, .bool dup] (([]:Own)++F) fun d G=>d = .agg [.int .i64 (pubM (⟨mt,mp,mq,mr⟩:Mg) id dup).kind, .bool (pubM (⟨mt,mp,mq,mr⟩:Mg) id dup).dup, .bool (pubM (⟨mt,mp,mq,mr⟩:Mg) id dup).retain, .int .i64 (pubM (⟨mt,mp,mq,mr⟩:Mg) id dup).qos, .int .i64 (pubM (⟨mt,mp,mq,mr⟩:Mg) id dup).id, .str (pubM (⟨mt,mp,mq,mr⟩:Mg) id dup).topic, .sl ((pubM (⟨mt,mp,mq,mr⟩:Mg) id dup).payload.map u8), .int .i64 (pubM (⟨mt,mp,mq,mr⟩:Mg) id dup).level, .str (pubM (⟨mt,mp,mq,mr⟩:Mg) id dup).client, .bool (pubM (⟨mt,mp,mq,mr⟩:Mg) id dup).clean, .int .i64 (pubM (⟨mt,mp,mq,mr⟩:Mg) id dup).keep, .bool (pubM (⟨mt,mp,mq,mr⟩:Mg) id dup).hasWill, .str (pubM (⟨mt,mp,mq,mr⟩:Mg) id dup).wtopic, .sl ((pubM (⟨mt,mp,mq,mr⟩:Mg) id dup).wpay.map u8), .int .i64 (pubM (⟨mt,mp,mq,mr⟩:Mg) id dup).wqos, .bool (pubM (⟨mt,mp,mq,mr⟩:Mg) id dup).wretain, .bool (pubM (⟨mt,mp,mq,mr⟩:Mg) id dup).hasUser, .bool (pubM (⟨mt,mp,mq,mr⟩:Mg) id dup).hasPass, .str (pubM (⟨mt,mp,mq,mr⟩:Mg) id dup).user, .sl ((pubM (⟨mt,mp,mq,mr⟩:Mg) id dup).pass.map u8), .bool (pubM (⟨mt,mp,mq,mr⟩:Mg) id dup).present, .int .i64 (pubM (⟨mt,mp,mq,mr⟩:Mg) id dup).code, .sl ((pubM (⟨mt,mp,mq,mr⟩:Mg) id dup).subs.map encU), .sl ((pubM (⟨mt,mp,mq,mr⟩:Mg) id dup).codes.map (V.int .i64))]/\G=[]++F:=by
 intro hA
 have hmp:=hA
 refine DC.bodyS (n_:=19) (show Tryz.prog.funcs[124]? = some Tryz.f124 by kernel_rfl) rfl rfl (by rfl) ?_
 simp only [env0,List.cons_append,List.nil_append]
 have kw:=ksIs [0,1,2,3,6]
 have ow:=zaf []
 have dw1:=drIs 1 [12] [1,3,4,6,8]
 have rw_:=rsIs [.cell 6 29]
 repeat' (first
  | refine g_ ?_
  | ((with_reducible refine And.intro ?_ ?_);(exact sv))
  | (refine DW.cond (by rfl) ?_ ?_<;>(first | exact i0_ | (refine ic_ ?_;intro hb)))
  | ((with_reducible first | refine zaa ?_ ?_ | refine zak ?_ ?_)<;>(intro hb;rw [hb];revert hb;(first | exact i0_ | (refine i_ ?_;intro hb))))
  | refine r_ ?_
  | refine d_ ?_
  | refine k_ ?_
  | ((refine dm_ ?_);(first | (refine v_ (zbD _ _) ?_)))
  | refine vo_ ?_
  | (refine q_ (zbD _ _) ?_)
  | refine o_ ?_
  | refine f_ ?_
  | refine vm_ ?_
  | with_reducible intro b)
 all_goals first
 | ((refine ⟨_,_,?_,⟨rfl,rfl⟩,?_⟩);rotate_left;(exact sub_);(refine le.agg ?_);(repeat (first | exact Les.nil | refine Les.cons le.rfl_ ?_ | refine Les.cons (le.gs rfl) ?_));done)
 | (trace_state;fail)
theorem ziU (k id:Int) (F:Own):(True)->DC Tryz.prog 88 [.int .i64 k, .int .i64 id] (([]:Own)++F) fun d G=>d = .sl [.agg [.int .i64 (ackP k id).kind, .bool (ackP k id).dup, .bool (ackP k id).retain, .int .i64 (ackP k id).qos, .int .i64 (ackP k id).id, .str (ackP k id).topic, .sl ((ackP k id).payload.map u8), .int .i64 (ackP k id).level, .str (ackP k id).client, .bool (ackP k id).clean, .int .i64 (ackP k id).keep, .bool (ackP k id).hasWill, .str (ackP k id).wtopic, .sl ((ackP k id).wpay.map u8), .int .i64 (ackP k id).wqos, .bool (ackP k id).wretain, .bool (ackP k id).hasUser, .bool (ackP k id).hasPass, .str (ackP k id).user, .sl ((ackP k id).pass.map u8), .bool (ackP k id).present, .int .i64 (ackP k id).code, .sl ((ackP k id).subs.map encU), .sl ((ackP k id).codes.map (V.int .i64))]]/\G=[]++F:=by
 intro hA
 refine DC.bodyS (n_:=9) (show Tryz.prog.funcs[88]? = some Tryz.f88 by kernel_rfl) rfl rfl (by rfl) ?_
 simp only [env0,List.cons_append,List.nil_append]
 have kw:=ksIs [0,1,4]
 have ow:=zaf []
 repeat' (first
  | refine g_ ?_
  | ((with_reducible refine And.intro ?_ ?_);(exact sv))
  | (refine DW.cond (by rfl) ?_ ?_<;>(first | exact i0_ | (refine ic_ ?_;intro hb)))
  | ((with_reducible refine zaa ?_ ?_)<;>(intro hb;rw [hb];revert hb;(first | exact i0_ | (refine i_ ?_;intro hb))))
  | refine r_ ?_
  | refine k_ ?_
  | refine o_ ?_
  | refine f_ ?_
  | with_reducible intro b)
 all_goals first
 | ((refine ⟨_,_,?_,⟨rfl,rfl⟩,?_⟩);rotate_left;(exact sub_);(refine le.sl1 ?_);(repeat (first | exact Les.nil | refine Les.cons le.rfl_ ?_ | refine Les.cons (le.gs rfl) ?_));done)
 | (trace_state;fail)
end
section
abbrev LFl:=List Fl
abbrev LMg:=List Mg
abbrev LPk:=List Pk
theorem zhd {now:Int} {q:List Mg} {a:SA} (h:¬ a.fly.length<4):zb0 now q a={ a with q:=q }/\zb9 now q a=[]:=by
 cases q with
 | nil=>exact ⟨rfl,rfl⟩
 | cons m q=>unfold zb0 zb9;rw [if_neg h,if_neg h];exact ⟨rfl,rfl⟩
theorem zmr {now:Int} {a:SA}:zb0 now [] a={ a with q:=[] }/\zb9 now [] a=[]:=⟨rfl,rfl⟩
theorem zoJ {now:Int} {m:Mg} {q:List Mg} {a:SA} (h:a.fly.length<4):zb0 now (m::q) a=zb0 now q (zfA now m a)/\zb9 now (m::q) a=pubM m (zgW a) false::zb9 now q (zfA now m a):=by
 conv=>lhs;lhs;unfold zb0
 conv=>rhs;lhs;unfold zb9
 rw [if_pos h,if_pos h];exact ⟨rfl,rfl⟩
theorem zmw {fl:List Fl} (t:Int) (h:fl.length<=1000):1<=zbx (idsF fl) t/\zbx (idsF fl) t<=65535:=(zkQ t (by rw [zfY];omega)).2
attribute [local irreducible] DW SeqD DV DOp DC DVX DVJ zbx zbf idsF usI zb0 zb9
theorem zbL {p:Prop} (h:p:=by first | exact sv | (refine ⟨?_,?_⟩<;>omega) | (refine ⟨?_,?_,fun j _=>⟨rfl,rfl⟩⟩<;>omega) | fail):p:=h
section
attribute [local push_cast 2000] zbO zfY
theorem zo4 (b sm ib um qb gm:Nat) (fv:Value) (nm:YS) (tk:Int) (fl:List Fl) (mt mp:YS) (mq:Int) (mr:Bool) (now:Int) (F:Own):(fl.length<=100/\mp.length<=100000/\0<=tk/\tk<=65535)->DC Tryz.prog 126 [.raw (.pointer (some ⟨b,0,none⟩)), .agg [.str mt, .sl (mp.map u8), .int .i64 mq, .bool mr], .int .i64 now] ([.blk b [.str nm, .raw (.map (some sm)), .raw (.pointer (some ⟨ib,0,none⟩)), .ar fv fl.length, .raw (.pointer (some ⟨qb,0,none⟩)), .raw (.map (some gm))], .blk ib [.raw (.map (some um)), .int .i64 65535, .int .i64 tk], .map um (entM (V.int .i64) V.bool (usI (idsF fl))), .arr 7 fv (cells (fl.map encF))]++F) fun d G=>∃ fv',d = .agg [.int .i64 (pubM (⟨mt,mp,mq,mr⟩:Mg) (zbx (idsF fl) tk) false).kind, .bool (pubM (⟨mt,mp,mq,mr⟩:Mg) (zbx (idsF fl) tk) false).dup, .bool (pubM (⟨mt,mp,mq,mr⟩:Mg) (zbx (idsF fl) tk) false).retain, .int .i64 (pubM (⟨mt,mp,mq,mr⟩:Mg) (zbx (idsF fl) tk) false).qos, .int .i64 (pubM (⟨mt,mp,mq,mr⟩:Mg) (zbx (idsF fl) tk) false).id, .str (pubM (⟨mt,mp,mq,mr⟩:Mg) (zbx (idsF fl) tk) false).topic, .sl ((pubM (⟨mt,mp,mq,mr⟩:Mg) (zbx (idsF fl) tk) false).payload.map u8), .int .i64 (pubM (⟨mt,mp,mq,mr⟩:Mg) (zbx (idsF fl) tk) false).level, .str (pubM (⟨mt,mp,mq,mr⟩:Mg) (zbx (idsF fl) tk) false).client, .bool (pubM (⟨mt,mp,mq,mr⟩:Mg) (zbx (idsF fl) tk) false).clean, .int .i64 (pubM (⟨mt,mp,mq,mr⟩:Mg) (zbx (idsF fl) tk) false).keep, .bool (pubM (⟨mt,mp,mq,mr⟩:Mg) (zbx (idsF fl) tk) false).hasWill, .str (pubM (⟨mt,mp,mq,mr⟩:Mg) (zbx (idsF fl) tk) false).wtopic, .sl ((pubM (⟨mt,mp,mq,mr⟩:Mg) (zbx (idsF fl) tk) false).wpay.map u8), .int .i64 (pubM (⟨mt,mp,mq,mr⟩:Mg) (zbx (idsF fl) tk) false).wqos, .bool (pubM (⟨mt,mp,mq,mr⟩:Mg) (zbx (idsF fl) tk) false).wretain, .bool (pubM (⟨mt,mp,mq,mr⟩:Mg) (zbx (idsF fl) tk) false).hasUser, .bool (pubM (⟨mt,mp,mq,mr⟩:Mg) (zbx (idsF fl) tk) false).hasPass, .str (pubM (⟨mt,mp,mq,mr⟩:Mg) (zbx (idsF fl) tk) false).user, .sl ((pubM (⟨mt,mp,mq,mr⟩:Mg) (zbx (idsF fl) tk) false).pass.map u8), .bool (pubM (⟨mt,mp,mq,mr⟩:Mg) (zbx (idsF fl) tk) false).present, .int .i64 (pubM (⟨mt,mp,mq,mr⟩:Mg) (zbx (idsF fl) tk) false).code, .sl ((pubM (⟨mt,mp,mq,mr⟩:Mg) (zbx (idsF fl) tk) false).subs.map encU), .sl ((pubM (⟨mt,mp,mq,mr⟩:Mg) (zbx (idsF fl) tk) false).codes.map (V.int .i64))]/\G = .blk b [.str nm, .raw (.map (some sm)), .raw (.pointer (some ⟨ib,0,none⟩)), .ar fv' (fl.length+1), .raw (.pointer (some ⟨qb,0,none⟩)), .raw (.map (some gm))] :: .blk ib [.raw (.map (some um)), .int .i64 65535, .int .i64 (zbx (idsF fl) tk)] :: .map um (entM (V.int .i64) V.bool (usI (idsF (fl++[(⟨(⟨mt,mp,mq,mr⟩:Mg),zbx (idsF fl) tk,zbf now,false⟩:Fl)])))) :: .arr 7 fv' (cells ((fl++[(⟨(⟨mt,mp,mq,mr⟩:Mg),zbx (idsF fl) tk,zbf now,false⟩:Fl)]).map encF))::F:=by
 intro hA
 obtain ⟨hfl,hmp,htk0,htk1⟩:=hA
 refine DC.bodyS (n_:=38) (show Tryz.prog.funcs[126]? = some Tryz.f126 by kernel_rfl) rfl rfl (by rfl) ?_
 simp only [env0,List.cons_append,List.nil_append]
 have kw:=ksIs [0,1,2,4,6,7]
 have ow:=zaf [4]
 have dw3:=drIs 3 [11,14] [4,5,8]
 have rw_:=rsIs [.cell 6 29]
 have hil:=zfY fl
 repeat' (first
  | refine g_ ?_
  | ((with_reducible refine And.intro ?_ ?_);(exact zbL))
  | (refine DW.cond (by rfl) ?_ ?_<;>(first | exact i0_ | (refine ic_ ?_;intro hb)))
  | ((with_reducible first | refine zaa ?_ ?_ | refine zak ?_ ?_)<;>(intro hb;rw [hb];revert hb;(first | exact i0_ | (refine i_ ?_;intro hb))))
  | refine r_ ?_
  | refine d_ ?_
  | refine k_ ?_
  | ((refine dm_ ?_);(first | ((first | refine v_ (zbD _ _) ?_ (ha:=by exact zbL) | refine v_ (zfV _ _) ?_ (ha:=by exact zbL) | refine v_ (zhT _ _ _ _ _ _ _) ?_ (ha:=by exact zbL)))))
  | refine vo_ ?_
  | (refine p_ (zml _ _ _ _ _) ?_ (ha:=by exact zbL);rintro d H1 ⟨rfl,rfl⟩<;>refine s_ ?_)
  | ((first | refine q_ (zbD _ _) ?_ (ha:=by exact zbL) | refine q_ (zfV _ _) ?_ (ha:=by exact zbL) | refine q_ (zhT _ _ _ _ _ _ _) ?_ (ha:=by exact zbL)))
  | refine o_ ?_
  | refine f_ ?_
  | refine vm_ ?_
  | ((fail_if_success (have zz:=b1));with_reducible intro b1)
  | ((fail_if_success (have zz:=b2));with_reducible intro b2)
  | ((fail_if_success (have zz:=v3));with_reducible intro v3)
  | with_reducible intro b)
 all_goals first
 | ((have e1:=fl_snoc fl (⟨(⟨mt,mp,mq,mr⟩:Mg),zbx (idsF fl) tk,zbf now,false⟩:Fl));(simp only at e1);(rw [znG,<-e1]);refine ⟨_,_,le.rfl_,⟨v3,rfl,rfl⟩,?_⟩;(exact sub_);done)
 | (trace_state;fail)
end
theorem zda {p:Prop} (h:p:=by first | exact sv | (have hm1:=hqm mm List.mem_cons_self;refine ⟨?_,hm1.pay,?_,?_⟩<;>omega) | (refine ⟨?_,?_,fun _ _=>rfl⟩<;>omega) | fail):p:=h
section
attribute [local push_cast 2000] zbO
theorem znH (b sm ib um qb gm:Nat) (fv qv:Value) (lost:Int) (nm:YS) (sb:List (YS×Int)) (tk:Int) (fl:List Fl) (q:List Mg) (got:List Int) (now:Int) (F:Own):((fl.length<=100/\0<=tk/\tk<=65535/\q.length<=1000)/\∀ m∈q,MgN m)->DC Tryz.prog 149 [.raw (.pointer (some ⟨b,0,none⟩)), .int .i64 now] ([.blk b [.str nm, .raw (.map (some sm)), .raw (.pointer (some ⟨ib,0,none⟩)), .ar fv fl.length, .raw (.pointer (some ⟨qb,0,none⟩)), .raw (.map (some gm))], .blk ib [.raw (.map (some um)), .int .i64 65535, .int .i64 tk], .map um (entM (V.int .i64) V.bool (usI (idsF fl))), .arr 7 fv (cells (fl.map encF)), .blk qb [.gs qv (q.map encM), .int .i64 8, .int .i64 lost], .tail 4 qv]++F) fun d G=>∃ (a2:SA) (fv2 qv2:Value),a2=zb0 now q (⟨nm,sb,tk,fl,q,got⟩:SA)/\d = .sl ((zb9 now q (⟨nm,sb,tk,fl,q,got⟩:SA)).map zcG)/\G = .blk b [.str nm, .raw (.map (some sm)), .raw (.pointer (some ⟨ib,0,none⟩)), .ar fv2 a2.fly.length, .raw (.pointer (some ⟨qb,0,none⟩)), .raw (.map (some gm))] :: .blk ib [.raw (.map (some um)), .int .i64 65535, .int .i64 a2.taken] :: .map um (entM (V.int .i64) V.bool (usI (idsF a2.fly))) :: .arr 7 fv2 (cells (a2.fly.map encF)) :: .blk qb [.gs qv2 (a2.q.map encM), .int .i64 8, .int .i64 lost] :: .tail 4 qv2::F:=by
 intro hA
 obtain ⟨⟨hfl,htk0,htk1,hql⟩,hqm0⟩:=hA
 refine DC.bodyS (n_:=32) (show Tryz.prog.funcs[149]? = some Tryz.f149 by kernel_rfl) rfl rfl (by rfl) ?_
 simp only [env0,List.cons_append,List.nil_append]
 have kw:=ksIs [0,1,4,5,6,7,13,23]
 have ow:=zaf []
 refine DW.tail0 24 ?_
 repeat' (first
  | ((with_reducible refine DW.loopB 0 (X:=LFl×LMg×Int×Value×Value×Value×LPk) (fun x=>(x.1.length<=100/\0<=x.2.2.1/\x.2.2.1<=65535/\x.2.2.2.2.2.2.length+x.2.1.length<=1000)/\(∀ m∈x.2.1,MgN m)/\zb0 now x.2.1 (⟨nm,sb,x.2.2.1,x.1,q,got⟩:SA)=zb0 now q (⟨nm,sb,tk,fl,q,got⟩:SA)/\x.2.2.2.2.2.2++zb9 now x.2.1 (⟨nm,sb,x.2.2.1,x.1,q,got⟩:SA)=zb9 now q (⟨nm,sb,tk,fl,q,got⟩:SA)) (fun x=>[(0, .raw (.pointer (some ⟨b,0,none⟩))),(1, .int .i64 now),(5, .gs x.2.2.2.2.2.1 (x.2.2.2.2.2.2.map zcG))]) (fun x=>(.tail 24 x.2.2.2.2.2.1 :: .blk b [.str nm, .raw (.map (some sm)), .raw (.pointer (some ⟨ib,0,none⟩)), .ar x.2.2.2.1 x.1.length, .raw (.pointer (some ⟨qb,0,none⟩)), .raw (.map (some gm))] :: .blk ib [.raw (.map (some um)), .int .i64 65535, .int .i64 x.2.2.1] :: .map um (entM (V.int .i64) V.bool (usI (idsF x.1))) :: .arr 7 x.2.2.2.1 (cells (x.1.map encF)) :: .blk qb [.gs x.2.2.2.2.1 (x.2.1.map encM), .int .i64 8, .int .i64 lost] :: .tail 4 x.2.2.2.2.1::([]:Own))) (fun x=>x.2.1.length) ((fl,q,tk,fv,qv, .slice none 0 0,[])) ?_ ?_ ?_);exact (⟨⟨hfl,htk0,htk1,by (try simp only [List.length_nil]);omega⟩,hqm0,rfl,rfl⟩);(exact kxcm);(try simp only [List.cons_append,List.nil_append]);refine pl_ ?_;intro ⟨fl2,q2,tk2,fv2,qv2,v,out⟩ ⟨⟨hf2,ht0,ht1,ho2⟩,hqm,hda,hdp⟩;(try simp only [List.cons_append,List.nil_append]);(try simp only at hf2 ht0 ht1 ho2 hqm hda hdp);have htr:=zmw (fl:=fl2) tk2 (by omega);by_cases hf4:fl2.length<4;(rcases q2 with _ | ⟨mm,q2⟩);rotate_left 2;(rcases q2 with _ | ⟨mm,q2⟩);rotate_left 2)
  | refine g_ ?_
  | ((with_reducible refine And.intro ?_ ?_);(exact zda))
  | (refine DW.cond (by rfl) ?_ ?_<;>(first | exact i0_ | (refine ic_ ?_;intro hb)))
  | ((with_reducible refine zaa ?_ ?_)<;>(intro hb;rw [hb];revert hb;(first | exact i0_ | (refine i_ ?_;intro hb))))
  | refine r_ ?_
  | refine k_ ?_
  | (refine p_ (qpop_dc _ _ _ _ _ _) ?_ (ha:=by exact zda);rintro d H1 ⟨qv3,rfl,rfl⟩<;>refine s_ ?_)
  | (refine q_ (zoF _ _ _ _) ?_ (ha:=by exact zda))
  | (refine p_ (zo4 _ _ _ _ _ _ _ _ _ _ _ _ _ _ _ _) ?_ (ha:=by exact zda);rintro d H1 ⟨fv3,rfl,rfl⟩<;>refine s_ ?_)
  | refine o_ ?_
  | refine f_ ?_
  | ((fail_if_success (have zz:=b1));with_reducible intro b1)
  | ((fail_if_success (have zz:=v3));with_reducible intro v3)
  | with_reducible intro b)
 all_goals first
 | ((have e:zb0 now [] (⟨nm,sb,tk2,fl2,q,got⟩:SA)={ (⟨nm,sb,tk2,fl2,q,got⟩:SA) with q:=[] }/\zb9 now [] (⟨nm,sb,tk2,fl2,q,got⟩:SA)=[]:=zmr);(rw [e.1] at hda);(rw [e.2,List.append_nil] at hdp);refine ⟨_,_,le.gs ?_,⟨⟨nm,sb,tk2,fl2,[],got⟩,fv2,qv2,?_,rfl,rfl⟩,?_⟩;(focus (rw [hdp]));(focus (rw [<-hda]));(try simp only [List.map_nil,List.map_cons]);(exact sub_);done)
 | ((have e:zb0 now [] (⟨nm,sb,tk2,fl2,q,got⟩:SA)={ (⟨nm,sb,tk2,fl2,q,got⟩:SA) with q:=[] }/\zb9 now [] (⟨nm,sb,tk2,fl2,q,got⟩:SA)=[]:=zhd hf4);(rw [e.1] at hda);(rw [e.2,List.append_nil] at hdp);refine ⟨_,_,le.gs ?_,⟨⟨nm,sb,tk2,fl2,[],got⟩,fv2,qv2,?_,rfl,rfl⟩,?_⟩;(focus (rw [hdp]));(focus (rw [<-hda]));(try simp only [List.map_nil,List.map_cons]);(exact sub_);done)
 | ((have e:zb0 now (mm::q2) (⟨nm,sb,tk2,fl2,q,got⟩:SA)={ (⟨nm,sb,tk2,fl2,q,got⟩:SA) with q:=(mm::q2) }/\zb9 now (mm::q2) (⟨nm,sb,tk2,fl2,q,got⟩:SA)=[]:=zhd hf4);(rw [e.1] at hda);(rw [e.2,List.append_nil] at hdp);refine ⟨_,_,le.gs ?_,⟨⟨nm,sb,tk2,fl2,(mm::q2),got⟩,fv2,qv2,?_,rfl,rfl⟩,?_⟩;(focus (rw [hdp]));(focus (rw [<-hda]));(try simp only [List.map_nil,List.map_cons]);(exact sub_);done)
 | ((obtain ⟨e1,e2⟩:=zoJ (now:=now) (m:=mm) (q:=q2) (a:=(⟨nm,sb,tk2,fl2,q,got⟩:SA)) hf4);(rw [e1] at hda);(rw [e2] at hdp);refine ⟨(fl2++[⟨⟨mm.topic,mm.pay,mm.qos,mm.retain⟩,zbx (idsF fl2) tk2,zbf now,false⟩],q2,zbx (idsF fl2) tk2,fv3,qv3,v3,out++[pubM mm (zbx (idsF fl2) tk2) false]),⟨⟨?_,?_,?_,?_⟩,(fun m hm=>hqm m (List.mem_cons_of_mem _ hm)),?_,?_⟩,?_,?_,?_⟩;(exact kxbs);(exact kxcf);(exact kxcf);(focus ((try simp only [List.length_append,List.length_cons,List.length_nil] at ho2 ⊢);omega));(focus ((try dsimp only);exact hda));(focus ((try dsimp only);rw [List.append_assoc];exact hdp));(focus (simp));(focus (simp [Sub,get,zcG,pubM]));((try simp only [List.length_append,List.length_cons,List.length_nil,Nat.zero_add]);(exact sub_));done)
 | (trace_state;fail)
end
end
section
theorem zhJ {T:Type} [Inhabited T] {enc:T->V} {s:Nat} (hs:∀ x,(enc x).cs.length=s):∀ (l:List T) (k:Nat),k<l.length->List.take s (List.drop (k * s) (cells (l.map enc)))=(enc (l.getD k default)).cs
 | [],k,h=>absurd h (Nat.not_lt_zero _)
 | x::l,0,_=>by rw [Nat.zero_mul,List.drop_zero,List.map_cons,zbc,<-hs x,List.take_left'];rfl;rfl
 | x::l,k+1,h=>by
  rw [List.map_cons,zbc,show (k+1) * s=(enc x).cs.length+k * s by rw [hs,Nat.succ_mul];omega,List.drop_append,List.drop_of_length_le (by omega),Nat.add_sub_cancel_left,List.nil_append,zhJ hs l k (by simpa using h)]
  rfl
theorem zog {l:List Fl} {k:Nat} (h:k<l.length):List.take 7 (List.drop (k * 7) (cells (l.map encF)))=[.str (l.getD k default).m.topic, .sl ((l.getD k default).m.pay.map u8), .int .i64 (l.getD k default).m.qos, .bool (l.getD k default).m.retain, .int .i64 (l.getD k default).id, .int .i64 (l.getD k default).sent, .bool (l.getD k default).rcv]:=zhJ (s:=7) (fun _=>rfl) l k h
theorem zoG {l:List Fl} {k j:Nat} (h:k<l.length) (hj:j<7):(List.drop (k * 7+j) (cells (l.map encF))).getD 0 .any=(encF (l.getD k default)).cs.getD j .any:=by
 have e:=zhJ (enc:=encF) (s:=7) (fun _=>rfl) l k h
 rw [<-e]
 simp only [List.getD_eq_getElem?_getD,List.getElem?_drop,List.getElem?_take]
 rw [if_pos hj,Nat.add_zero]
theorem zn7 {l:List Fl} {k:Nat} (h:k<l.length):List.take 4 (List.drop (k * 7) (cells (l.map encF)))=[.str (l.getD k default).m.topic, .sl ((l.getD k default).m.pay.map u8), .int .i64 (l.getD k default).m.qos, .bool (l.getD k default).m.retain]:=by
 have e:=congrArg (List.take 4) (zog h)
 rw [List.take_take] at e
 exact e
theorem zoX {l:List Fl} {k:Nat} (h:k<l.length):(List.drop (k * 7+2) (cells (l.map encF))).getD 0 .any = .int .i64 (l.getD k default).m.qos:=zoG h (by decide)
theorem f_id {l:List Fl} {k:Nat} (h:k<l.length):(List.drop (k * 7+4) (cells (l.map encF))).getD 0 .any = .int .i64 (l.getD k default).id:=zoG h (by decide)
theorem zkM {l:List Fl} {k:Nat} (h:k<l.length):(List.drop (k * 7+5) (cells (l.map encF))).getD 0 .any = .int .i64 (l.getD k default).sent:=zoG h (by decide)
theorem zmg {l:List Fl} {k:Nat} (h:k<l.length):(List.drop (k * 7+6) (cells (l.map encF))).getD 0 .any = .bool (l.getD k default).rcv:=zoG h (by decide)
theorem zlS {l:List Fl}:∀ k:Nat,(cells (l.map encF)).take (k * 7)=cells ((l.take k).map encF):=by
 induction l with
 | nil=>intro k;simp [cells]
 | cons x l ih =>
  intro k
  cases k with
  | zero=>rw [Nat.zero_mul,List.take_zero,List.take_zero];rfl
  | succ k =>
   rw [List.map_cons,zbc,List.take_succ_cons,List.map_cons,zbc,<-ih k,List.take_append]
   have:(encF x).cs.length=7:=rfl
   rw [List.take_of_length_le (by omega),this,show (k+1) * 7 - 7=k * 7 by omega]
theorem zmc {l:List Fl}:∀ k:Nat,(cells (l.map encF)).drop (k * 7)=cells ((l.drop k).map encF):=by
 induction l with
 | nil=>intro k;simp [cells]
 | cons x l ih =>
  intro k
  cases k with
  | zero=>rw [Nat.zero_mul,List.drop_zero,List.drop_zero]
  | succ k =>
   rw [List.map_cons,zbc,List.drop_succ_cons,<-ih k,List.drop_append]
   have:(encF x).cs.length=7:=rfl
   rw [List.drop_of_length_le (by omega),this,show (k+1) * 7 - 7=k * 7 by omega,List.nil_append]
theorem znb {l:List Fl} {k:Nat} (h:k<l.length) (f:Fl):l.set k f=l.take k++f::l.drop (k+1):=by
 rw [List.set_eq_take_append_cons_drop,if_pos h]
theorem lay_f {l:List Fl} {k j:Nat} {d:V} {f:Fl} (h:k<l.length) (hj:j<7) (he:(encF f).cs=((encF (l.getD k default)).cs).set j d):layV (cells (l.map encF)) (k * 7+j) [d]=cells ((l.set k f).map encF):=by
 have hl:=zbO l
 have e1:cells (l.map encF)=cells ((l.take k).map encF)++((encF (l.getD k default)).cs++cells ((l.drop (k+1)).map encF)):=by
  conv=>lhs;rw [<-List.take_append_drop (k * 7) (cells (l.map encF)),zlS,zmc,List.drop_eq_getElem_cons h,List.map_cons,zbc]
  rw [show l.getD k default=l[k] by rw [List.getD_eq_getElem?_getD,List.getElem?_eq_getElem h];rfl]
 have ht:(cells ((l.take k).map encF)).length=k * 7:=by rw [zbO,List.length_take];rw [Nat.min_eq_left (by omega)]
 have h7:(encF (l.getD k default)).cs.length=7:=rfl
 rw [znb h,List.map_append,List.map_cons,zb2,zbc,he,e1]
 unfold layV
 generalize (encF (l.getD k default)).cs=A at h7 ⊢
 generalize cells ((l.take k).map encF)=T at ht ⊢
 generalize cells ((l.drop (k+1)).map encF)=D
 rw [show [d].length=1 from rfl,List.take_append,List.take_of_length_le (show T.length<=k * 7+j by omega),ht,Nat.add_sub_cancel_left,List.drop_append,List.drop_of_length_le (show T.length<=k * 7+j+1 by omega),List.nil_append,ht]
 rw [show k * 7+j+1 - k * 7=j+1 by omega,List.take_append_of_le_length (show j<=A.length by omega),List.drop_append_of_le_length (show j+1<=A.length by omega),List.set_eq_take_append_cons_drop,if_pos (show j<A.length by omega)]
 simp
attribute [local irreducible] DW SeqD DV DOp DC DVX DVJ zbx zbf idsF usI zb0 zb9
section
attribute [local push_cast 2000] List.length_nil
end
end
section
section
variable {P:Program} {o:Oper} {f:Operand->V} {H:Own} {K:V->Own->Prop}
end
end
section
theorem zlP:∀ l:List Fl,∀ x∈cells (l.map encF),V.one x=true
 | [],x,h=>by simp [cells] at h
 | f::l,x,h=>by
  rw [List.map_cons,zbc,List.mem_append] at h
  rcases h with h | h
  · have e:(encF f).cs=[.str f.m.topic, .sl (f.m.pay.map u8), .int .i64 f.m.qos, .bool f.m.retain, .int .i64 f.id, .int .i64 f.sent, .bool f.rcv]:=rfl
    rw [e] at h
    simp only [List.mem_cons,List.not_mem_nil,or_false] at h
    rcases h with rfl | rfl | rfl | rfl | rfl | rfl | rfl<;>rfl
  · exact zlP l x h
attribute [local irreducible] DW SeqD DV DOp DC DVX DVJ zbx zbf idsF usI zb0 zb9
section
attribute [local push_cast 2000] zog zn7 zoX f_id zkM zmg zbO
end
section
attribute [local push_cast 2000] zbO zhx zjF zh0 zjX Nat.sub_zero List.drop_zero Nat.zero_add
end
section
attribute [local push_cast 2000] zog zn7 zoX f_id zkM zmg zbO
end
end
section
theorem zkn {l:List Fl} {k:Nat} {z:Int} (h:k<l.length):layV (cells (l.map encF)) (k * 7+5) [.int .i64 z]=cells ((l.set k { l.getD k default with sent:=z }).map encF):=lay_f h (by decide) rfl
theorem zeP {l:List Fl} {k:Nat} {f:Fl} (h:k<l.length):(l.set k f).getD k default=f:=by rw [List.getD_eq_getElem?_getD,List.getElem?_set_self h];rfl
theorem f_idS {l:List Fl} {k:Nat} {f:Fl} (h:k<l.length):(List.drop (k * 7+4) (cells ((l.set k f).map encF))).getD 0 .any = .int .i64 f.id:=by rw [f_id (by rw [List.length_set];exact h),zeP h]
theorem zrb {l:List Fl} {k:Nat} {f:Fl} (h:k<l.length):(List.drop (k * 7+6) (cells ((l.set k f).map encF))).getD 0 .any = .bool f.rcv:=by rw [zmg (by rw [List.length_set];exact h),zeP h]
theorem zqD {l:List Fl} {k:Nat} {f:Fl} (h:k<l.length):List.take 4 (List.drop (k * 7) (cells ((l.set k f).map encF)))=[.str f.m.topic, .sl (f.m.pay.map u8), .int .i64 f.m.qos, .bool f.m.retain]:=by rw [zn7 (by rw [List.length_set];exact h),zeP h]
section
variable {kind id now:Int} {a:SA}
end
def agK (now ago:Int) (l:List Fl) (k:Nat):List Fl:=(l.take k).map (agF now ago)++l.drop k
theorem zj3 (now ago:Int) (l:List Fl) (k:Nat):(agK now ago l k).length=l.length:=by
 unfold agK;rw [List.length_append,List.length_map,List.length_take,List.length_drop];omega
theorem zrc {now ago:Int} {l:List Fl} {k:Nat} (h:k<l.length):(agK now ago l k).getD k default=l.getD k default:=by
 unfold agK
 have e:((l.take k).map (agF now ago)).length=k:=by rw [List.length_map,List.length_take];omega
 rw [List.getD_eq_getElem?_getD,List.getElem?_append_right (by omega),e,Nat.sub_self,List.getElem?_drop,Nat.add_zero,<-List.getD_eq_getElem?_getD]
theorem agK_s {now ago:Int} {l:List Fl} {k:Nat} (h:k<l.length):agK now ago l (k+1)=(agK now ago l k).set k (agF now ago (l.getD k default)):=by
 unfold agK
 have e:((l.take k).map (agF now ago)).length=k:=by rw [List.length_map,List.length_take];omega
 rw [List.set_append_right _ _ (by omega),e,Nat.sub_self,List.drop_eq_getElem_cons h,List.set_cons_zero,List.take_add_one,List.getElem?_eq_getElem h,Option.toList_some,List.map_append,List.map_cons,List.map_nil,List.append_assoc]
 rw [show l.getD k default=l[k] by rw [List.getD_eq_getElem?_getD,List.getElem?_eq_getElem h];rfl]
 rfl
theorem agK_0 (now ago:Int) (l:List Fl):agK now ago l 0=l:=rfl
theorem agK_all {now ago:Int} {l:List Fl} {k:Nat} (h:k=l.length):agK now ago l k=l.map (agF now ago):=by unfold agK;rw [h,List.take_length,List.drop_length,List.append_nil]
theorem agP_s {now ago:Int} {l:List Fl} {k:Nat} (h:k<l.length):zcJ now ago (l.take (k+1))=zcJ now ago (l.take k)++agP now ago (l.getD k default):=by
 unfold zcJ;rw [List.take_add_one,List.flatMap_append,List.getD_eq_getElem?_getD,List.getElem?_eq_getElem h];simp
theorem zoj (now ago:Int):∀ l:List Fl,(zcJ now ago l).length<=l.length
 | []=>Nat.le_refl _
 | f::l=>by
  have:=zoj now ago l
  have h1:(agP now ago f).length<=1:=by unfold agP;(repeat' split)<;>simp
  unfold zcJ at this ⊢
  rw [List.flatMap_cons,List.length_append,List.length_cons];omega
section
variable {now ago:Int} {l:List Fl} {k:Nat}
theorem zpg {f:Fl} (h:zbf now - f.sent<ago):agP now ago f=[]:=by unfold agP;rw [if_pos h]
theorem agP_rcv {f:Fl} (h:ago<=zbf now - f.sent) (h2:f.rcv=true):agP now ago f=[ackP 6 f.id]:=by unfold agP;rw [if_neg (by omega),if_pos h2]
theorem agP_pub {f:Fl} (h:ago<=zbf now - f.sent) (h2:f.rcv=false):agP now ago f=[pubM f.m f.id true]:=by unfold agP;rw [if_neg (by omega),if_neg (by rw [h2];decide)]
theorem zq4 (hk:k<l.length) (h:zbf now - (l.getD k default).sent<ago):agK now ago l (k+1)=agK now ago l k:=by
 rw [agK_s hk]
 have e:agF now ago (l.getD k default)=(agK now ago l k).getD k default:=by rw [zrc hk];unfold agF;rw [if_pos h]
 have hk2:k<(agK now ago l k).length:=by rw [zj3];exact hk
 rw [e,List.getD_eq_getElem?_getD,List.getElem?_eq_getElem hk2];exact List.set_getElem_self hk2
theorem zkY (hk:k<l.length) (h:ago<=zbf now - (l.getD k default).sent):agK now ago l (k+1)=(agK now ago l k).set k { l.getD k default with sent:=zbf now }:=by
 rw [agK_s hk];unfold agF;rw [if_neg (by omega)]
end
attribute [local irreducible] DW SeqD DV DOp DC DVX DVJ zbx zbf idsF usI zb0 zb9 zoe
section
attribute [local push_cast 2000] zog zn7 zoX f_id zkM zmg zbO zkn zeP List.length_set f_idS zrb zqD
end
theorem zbK {p:Prop} (h:p:=by first | exact sv | (refine ⟨?_,?_,fun _ _=>rfl⟩<;>omega) | fail):p:=h
theorem zjW {P Q:Prop} (q:Q) (h:Hid Q->P:=by (intro q;simp (maxSteps:=1000000) (disch:=omega) only [push_cast,↓reduceIte,reduceCtorEq,Nat.reduceAdd,Nat.reduceMul,Nat.reduceLT,Nat.reduceLeDiff,Nat.reduceEqDiff,Nat.reduceSub,Int.reduceToNat,Int.reduceLT,Int.reduceLE,Int.reduceAdd,Int.reduceSub,Int.reduceMul,Int.reduceNeg,Nat.reduceBEq,Int.reduceBEq,Int.reduceBNe,Nat.reduceBNe,Int.reduceEq,hgk];exact q.1)):P:=h ⟨q⟩
section
attribute [local push_cast 2000] zog zn7 zoX f_id zkM zmg zbO zkn f_idS zrb zqD zj3
theorem znz (b sm ib qb gm:Nat) (fv:Value) (nm:YS) (fl:List Fl) (now ago:Int) (F:Own):(fl.length<=100/\∀ k,k<fl.length->(-1099511627776<=(fl.getD k default).sent/\(fl.getD k default).sent<=1099511627776)/\(fl.getD k default).m.pay.length<=100000)->DC Tryz.prog 107 [.raw (.pointer (some ⟨b,0,none⟩)), .int .i64 now, .int .i64 ago] ([.arr 7 fv (cells (fl.map encF)), .blk b [.str nm, .raw (.map (some sm)), .raw (.pointer (some ⟨ib,0,none⟩)), .ar fv fl.length, .raw (.pointer (some ⟨qb,0,none⟩)), .raw (.map (some gm))]]++F) fun d G=>∃ v,d = .gs v ((zcJ now ago fl).map zcG)/\G = .tail 24 v :: .arr 7 fv (cells ((fl.map (agF now ago)).map encF)) :: .blk b [.str nm, .raw (.map (some sm)), .raw (.pointer (some ⟨ib,0,none⟩)), .ar fv fl.length, .raw (.pointer (some ⟨qb,0,none⟩)), .raw (.map (some gm))]::F:=by
 intro hA
 obtain ⟨hfl,hfo⟩:=hA
 refine DC.bodyS (n_:=63) (show Tryz.prog.funcs[107]? = some Tryz.f107 by kernel_rfl) rfl rfl (by rfl) ?_
 simp only [env0,agK_0,List.cons_append,List.nil_append]
 have kw:=ksIs [0,1,2,6,7,8,9,14,15,16,32,41]
 have ow:=zaf []
 have dw6:=drIs 6 [] [1,5]
 have dw10:=drIs 10 [11] [4,8,9]
 refine DW.tail0 24 ?_
 have hgk:True:=trivial
 repeat' (first
  | ((with_reducible refine DW.loopB 0 (X:=Nat×Value×LPk) (fun x=>x.1<=fl.length/\x.2.2=zcJ now ago (fl.take x.1)/\x.2.2.length<=x.1) (fun x=>[(0, .raw (.pointer (some ⟨b,0,none⟩))),(1, .int .i64 now),(2, .int .i64 ago),(7, .gs x.2.1 (x.2.2.map zcG)),(14, .int .i64 fl.length),(15, .int .i64 x.1)]) (fun x=>(.tail 24 x.2.1 :: .arr 7 fv (cells ((agK now ago fl x.1).map encF)) :: .blk b [.str nm, .raw (.map (some sm)), .raw (.pointer (some ⟨ib,0,none⟩)), .ar fv fl.length, .raw (.pointer (some ⟨qb,0,none⟩)), .raw (.map (some gm))]::([]:Own))) (fun x=>fl.length - x.1) ((0, .slice none 0 0,[])) ?_ ?_ ?_);exact (⟨Nat.zero_le _,(by simp [zcJ]),(by simp)⟩);(exact kxcm);(try simp only [agK_0,List.cons_append,List.nil_append]);refine pl_ ?_;intro ⟨k,v,out⟩ ⟨hk,hoe,hol⟩;(try simp only [agK_0,List.cons_append,List.nil_append]);(try simp only at hk hoe hol);have hal:=zj3 now ago fl k;by_cases hkl:k<fl.length;(have hgk:=zrc (now:=now) (ago:=ago) hkl;have hrg:=hfo k hkl;have hnr:=zdJ now);rotate_left;(have hgk:True:=trivial))
  | refine g_ ?_
  | ((with_reducible refine And.intro ?_ ?_);(exact zbK))
  | (refine DW.cond (by rfl) ?_ ?_<;>(first | exact i0_ | (intro hb;(try simp only [↓reduceCtorEq,not_true_eq_false,not_false_eq_true,hbs,Int.reduceBEq,Int.reduceBNe,Int.reduceEq] at hb);(try refine zjW ?_))))
  | ((with_reducible first | refine zaa ?_ ?_ | refine zak ?_ ?_)<;>(intro hb;rw [hb];revert hb;(first | exact i0_ | (intro hb;(try simp only [↓reduceCtorEq,not_true_eq_false,not_false_eq_true,hbs,Int.reduceBEq,Int.reduceBNe,Int.reduceEq] at hb);(try refine zjW ?_)))))
  | ((first | refine rn_ ?_ | refine dn_ ?_ | refine kn_ ?_)<;>(refine zjW ?_))
  | ((refine dm_ ?_);(first | ((first | refine v_ (zfV _ _) ?_ (ha:=by exact zbK) (hk:=fun q=>q.1) | refine v_ (ziU _ _ _) ?_ (ha:=by exact zbK) (hk:=fun q=>q.1) | refine v_ (zhT _ _ _ _ _ _ _) ?_ (ha:=by exact zbK) (hk:=fun q=>q.1));refine zjW ?_)))
  | ((refine von_ ?_);refine zjW ?_)
  | ((first | refine q_ (zfV _ _) ?_ (ha:=by exact zbK) (hk:=fun q=>q.1) | refine q_ (ziU _ _ _) ?_ (ha:=by exact zbK) (hk:=fun q=>q.1) | refine q_ (zhT _ _ _ _ _ _ _) ?_ (ha:=by exact zbK) (hk:=fun q=>q.1));refine zjW ?_)
  | ((refine on_ ?_);refine zjW ?_)
  | refine f_ ?_
  | refine vm_ ?_
  | ((fail_if_success (have zz:=v3));with_reducible intro v3)
  | with_reducible intro b)
 all_goals first
 | ((have hkl2:k=fl.length:=by omega);(rw [agK_all hkl2]);(rw [hkl2,List.take_length] at hoe);(rw [hoe]);refine ⟨_,_,le.rfl_,⟨v,rfl,rfl⟩,?_⟩;(exact sub_);done)
 | (refine ⟨(k+1,v,out),⟨?_,?_,?_⟩,?_,?_,?_⟩;(exact kxcf);(focus ((try simp only);rw [agP_s hkl,zpg (by assumption),<-hoe,List.append_nil]));(exact kxcf);(exact kxcf);(focus (simp [Sub,get]));((try simp only);rw [zq4 hkl (by assumption)];(exact sub_));done)
 | (refine ⟨(k+1,v3,out++[ackP 6 (fl.getD k default).id]),⟨?_,?_,?_⟩,?_,?_,?_⟩;(exact kxcf);(focus ((try simp only);rw [agP_s hkl,agP_rcv (by assumption) (by assumption),<-hoe]));(exact kxbs);(exact kxcf);(focus (simp [Sub,get,zcG,pubM,ackP]));((try simp only);rw [zkY hkl (by assumption)];(exact sub_));done)
 | (refine ⟨(k+1,v3,out++[pubM (fl.getD k default).m (fl.getD k default).id true]),⟨?_,?_,?_⟩,?_,?_,?_⟩;(exact kxcf);(focus ((try simp only);rw [agP_s hkl,agP_pub (by assumption) (by assumption),<-hoe]));(exact kxbs);(exact kxcf);(focus (simp [Sub,get,zcG,pubM,ackP]));((try simp only);rw [zkY hkl (by assumption)];(exact sub_));done)
 | (trace_state;fail)
end
end
end Go.Proofs.YtgekknefphagbaaGreatDoor
