/- Of an act an event; few acts. -/
import Derived.Test.YtphhijelneaedaaDoorYrx
import Derived.Test.YtphhijelneaedaaDoorYkx
import Derived.KernelRfl
namespace Go.Proofs.YtphhijelneaedaaDoor
open Go.RowKit
set_option linter.unusedSimpArgs false
set_option linter.unusedVariables false
set_option linter.unusedSectionVars false
set_option maxHeartbeats 4000000
set_option maxRecDepth 100000
section
structure YAct where
 what:Int
 a:Int
 b:Int
 c:Int
 d:Int
 x:YS
 deriving Inhabited
def encY (t:YAct):V:=.agg [.int .u8 t.what, .int .u8 t.a, .int .u8 t.b, .int .u8 t.c, .int .u8 t.d, .sl (t.x.map u8)]
def actY (t:YAct):Prop:=(0<=t.what/\t.what<=255)/\(0<=t.a/\t.a<=255)/\(0<=t.b/\t.b<=255)/\(0<=t.c/\t.c<=255)/\(0<=t.d/\t.d<=255)
theorem wrap8 (z:Int):0<=IntKind.u8.wrap z/\IntKind.u8.wrap z<=255:=by simp [IntKind.wrap,IntKind.bits,IntKind.signed];omega
theorem ev_fin {D:V} {F H:Own} {k n c m:Int} {b:YS} (h1:le D (.agg [.int .i64 k, .int .i64 n, .int .i64 c, .int .i64 m, .sl (b.map u8)])) (h2:EvB ⟨k,n,c,m,b⟩) (h3:SubP F H):∃ d' G,le D d'/\(∃ e:Ev,EvB e/\d'=encE e/\G=F)/\SubP G H:=⟨_,_,h1,⟨⟨k,n,c,m,b⟩,h2,rfl,rfl⟩,h3⟩
theorem actY_at {l:List YAct} (h:∀ t∈l,actY t) (k:Nat):actY (l.getD k default):=by
 by_cases hk:k<l.length
 · exact h _ (getD_inY hk)
 · rw [List.getD_eq_getElem?_getD,List.getElem?_eq_none (by omega)]
   exact ⟨⟨by decide,by decide⟩,⟨by decide,by decide⟩,⟨by decide,by decide⟩,⟨by decide,by decide⟩,⟨by decide,by decide⟩⟩
def shortK (l:List YAct) (k:Nat):Prop:=∀ j,j<k->(l.getD j default).x.length<=40
theorem shortK_s {l:List YAct} {k:Nat} (h:shortK l k) (h2:(l.getD k default).x.length<=40):shortK l (k+1):=fun j hj=>by
 rcases Nat.lt_or_eq_of_le (Nat.le_of_lt_succ hj) with h3 | rfl
 · exact h j h3
 · exact h2
theorem shortK_all {l:List YAct} (h:shortK l l.length) (k:Nat):(l.getD k default).x.length<=40:=by
 by_cases hk:k<l.length
 · exact h k hk
 · rw [List.getD_eq_getElem?_getD,List.getElem?_eq_none (by omega)];exact Nat.zero_le _
attribute [local irreducible] DW SeqD DV DOp DC DVX
section
attribute [local push_cast 2000] encY
theorem few23_dc (l:List YAct) (F:Own):(True)->DC Tryd.prog 22 [.sl (l.map encY), .int .i64 20] (([]:Own)++F) fun d G=>∃ r:Bool,(r=true->l.length<=20/\∀ k,(l.getD k default).x.length<=40)/\d = .bool r/\G=[]++F:=by
 intro hA
 refine DC.bodyS (n_:=23) (show Tryd.prog.funcs[22]? = some Tryd.f22 by kernel_rfl) rfl rfl (by rfl) ?_
 simp only [env0,List.cons_append,List.nil_append]
 have kw:=ksIs [0,1,4,5,9,13,22]
 have ow:=ownIs []
 repeat' (first
  | ((with_reducible refine DW.loopB 0 (X:=Nat) (fun x=>x<=l.length/\shortK l x) (fun x=>[(0, .sl (l.map encY)),(5, .int .i64 x)]) (fun x=>([]:Own)) (fun x=>l.length - x) (0) ?_ ?_ ?_);exact (⟨Nat.zero_le _,fun j h=>absurd h (Nat.not_lt_zero _)⟩);(simp [Sub,get,keepL]<;>fail);(try simp only [List.cons_append,List.nil_append]);refine pl_ ?_;intro k ⟨hk,hs⟩;(try simp only [List.cons_append,List.nil_append]);(try simp only at hk hs))
  | refine g_ ?_
  | ((with_reducible refine And.intro ?_ ?_);(exact sv))
  | (refine DW.cond (by rfl) ?_ ?_<;>(first | exact i0_ | (refine ic_ ?_;intro hb)))
  | ((with_reducible refine FVg_cases ?_ ?_)<;>(intro hb;rw [hb];revert hb;(first | exact i0_ | (refine i_ ?_;intro hb))))
  | refine r_ ?_
  | refine k_ ?_
  | refine o_ ?_
  | refine f_ ?_
  | with_reducible intro b)
 all_goals first
 | (refine ⟨_,_,le.rfl_,⟨false,(fun h=>nomatch h),rfl,rfl⟩,?_⟩;(exact sub_);done)
 | ((have hkl:k=l.length:=by omega);(subst hkl);refine ⟨_,_,le.rfl_,⟨true,(fun _=>⟨?_,shortK_all hs⟩),rfl,rfl⟩,?_⟩;omega;(exact sub_);done)
 | (refine ⟨k+1,⟨by (try simp only);omega,shortK_s hs ?_⟩,by (try simp only);omega,by simp [Sub,get],?_⟩;omega;(exact sub_);done)
 | (trace_state;fail)
end
theorem sv_event_mk {p:Prop} (h:p:=by first | exact sv | exact hpc | (refine ⟨⟨?_,?_,?_⟩,hx⟩<;>first | assumption | exact wrap8 _ | omega) | (refine ⟨⟨?_,?_,?_,?_⟩,hx⟩<;>first | assumption | exact wrap8 _ | omega) | fail):p:=h
theorem event_pre (bytes_dc:∀ (p:Pk) (F:Own),(PkB p)->DC Tryd.prog 46 [.agg [.int .i64 p.kind, .bool p.dup, .bool p.retain, .int .i64 p.qos, .int .i64 p.id, .str p.topic, .sl (p.payload.map u8), .int .i64 p.level, .str p.client, .bool p.clean, .int .i64 p.keep, .bool p.hasWill, .str p.wtopic, .sl (p.wpay.map u8), .int .i64 p.wqos, .bool p.wretain, .bool p.hasUser, .bool p.hasPass, .str p.user, .sl (p.pass.map u8), .bool p.present, .int .i64 p.code, .sl (p.subs.map encU), .sl (p.codes.map (V.int .i64))]] (([]:Own)++F) fun d G=>∃ x:YS,x.length<=3000/\d = .sl (x.map u8)/\G=[]++F) (wh a b_ c dd:Int) (x:YS) (F:Own):(((0<=wh/\wh<=255)/\(0<=a/\a<=255)/\(0<=b_/\b_<=255)/\(0<=c/\c<=255)/\(0<=dd/\dd<=255))/\x.length<=40)->DC Tryd.prog 23 [.agg [.int .u8 wh, .int .u8 a, .int .u8 b_, .int .u8 c, .int .u8 dd, .sl (x.map u8)], .int .i64 3, .int .i64 4] (([]:Own)++F) fun d G=>∃ e:Ev,EvB e/\d=encE e/\G=[]++F:=by
 intro hA
 obtain ⟨⟨hwh,ha,hb_,hc,hdd⟩,hx⟩:=hA
 refine DC.bodyS (n_:=134) (show Tryd.prog.funcs[23]? = some Tryd.f23 by kernel_rfl) rfl rfl (by rfl) ?_
 simp only [env0,List.cons_append,List.nil_append]
 have kw:=ksIs [0,1,2,3,6,7,8,9,24,34,38,39,45,62,90,97,102,106,111,116,121,127,130]
 have ow:=ownIs []
 have dw1:=drIs 1 [] [1,6]
 have rw_:=rsIs [.cell 6 54]
 have rwh24:=Int.tmod_nonneg 24 hwh.1;have swh24:=Int.tmod_lt_of_pos wh (show (0:Int)<24 by decide);have ra3:=Int.tmod_nonneg 3 ha.1;have sa3:=Int.tmod_lt_of_pos a (show (0:Int)<3 by decide);have rb_4:=Int.tmod_nonneg 4 hb_.1;have sb_4:=Int.tmod_lt_of_pos b_ (show (0:Int)<4 by decide);have rdd2:=Int.tmod_nonneg 2 hdd.1;have sdd2:=Int.tmod_lt_of_pos dd (show (0:Int)<2 by decide);have rdd3:=Int.tmod_nonneg 3 hdd.1;have sdd3:=Int.tmod_lt_of_pos dd (show (0:Int)<3 by decide);have t1:=Int.tdiv_nonneg hwh.1 (show (0:Int)<=24 by decide);have t2:=Int.tdiv_nonneg hc.1 (show (0:Int)<=2 by decide)
 repeat' (first
  | refine g_ ?_
  | ((with_reducible refine And.intro ?_ ?_);(exact sv_event_mk))
  | (refine DW.cond (by rfl) ?_ ?_<;>(first | exact i0_ | (refine ic_ ?_;intro hb)))
  | ((with_reducible first | refine FVg_cases ?_ ?_ | refine FDg_cases ?_ ?_)<;>(intro hb;rw [hb];revert hb;(first | exact i0_ | (refine i_ ?_;intro hb))))
  | refine r_ ?_
  | refine d_ ?_
  | refine k_ ?_
  | refine vo_ ?_
  | ((first | refine p_ (connY_dc _ _ _ _ _) ?_ (ha:=by exact sv_event_mk) | refine p_ (packY_dc _ _ _ _ _ _) ?_ (ha:=by exact sv_event_mk));rintro d H1 ⟨pc,hpc,rfl,rfl⟩<;>refine s_ ?_)
  | (refine p_ (bytes_dc _ _) ?_ (ha:=by exact sv_event_mk);rintro d H1 ⟨lx,hlx,rfl,rfl⟩<;>refine s_ ?_)
  | refine o_ ?_
  | refine f_ ?_
  | refine vm_ ?_
  | with_reducible intro b)
 all_goals first
 | ((apply ev_fin (b:=[]));(focus (refine le.agg ?_;(repeat (first | exact Les.nil | refine Les.cons le.rfl_ ?_ | refine Les.cons (le.gs rfl) ?_ | refine Les.cons (le.gs List.map_nil.symm) ?_ | (refine Les.cons (le.of_eq ?_) ?_;(focus (simp [encU,List.map_take]<;>fail)))));done));(focus (unfold EvB i64b;(refine ⟨⟨⟨?_,?_⟩,⟨?_,?_⟩,⟨?_,?_⟩⟩,?_⟩<;>(try simp only [List.length_nil])<;>omega);done));(exact sub_);done)
 | ((apply ev_fin (b:=lx));(focus (refine le.agg ?_;(repeat (first | exact Les.nil | refine Les.cons le.rfl_ ?_ | refine Les.cons (le.gs rfl) ?_ | refine Les.cons (le.gs List.map_nil.symm) ?_ | (refine Les.cons (le.of_eq ?_) ?_;(focus (simp [encU,List.map_take]<;>fail)))));done));(focus (unfold EvB i64b;(refine ⟨⟨⟨?_,?_⟩,⟨?_,?_⟩,⟨?_,?_⟩⟩,?_⟩<;>(try simp only [List.length_nil])<;>omega);done));(exact sub_);done)
 | ((apply ev_fin (b:=x));(focus (refine le.agg ?_;(repeat (first | exact Les.nil | refine Les.cons le.rfl_ ?_ | refine Les.cons (le.gs rfl) ?_ | refine Les.cons (le.gs List.map_nil.symm) ?_ | (refine Les.cons (le.of_eq ?_) ?_;(focus (simp [encU,List.map_take]<;>fail)))));done));(focus (unfold EvB i64b;(refine ⟨⟨⟨?_,?_⟩,⟨?_,?_⟩,⟨?_,?_⟩⟩,?_⟩<;>(try simp only [List.length_nil])<;>omega);done));(exact sub_);done)
 | (trace_state;fail)
end
end Go.Proofs.YtphhijelneaedaaDoor
