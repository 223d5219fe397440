/- Packets of numbers. -/
import Derived.Test.YtphhijelneaedaaDoorYmx
import Derived.KernelRfl
namespace Go.Proofs.YtphhijelneaedaaDoor
open Go.RowKit
set_option linter.unusedSimpArgs false
set_option linter.unusedVariables false
set_option linter.unusedSectionVars false
set_option maxHeartbeats 4000000
set_option maxRecDepth 100000
section
def cliY_:List YS:=[[107],[108],[109],[195,169],[]]
def cliY (k:Int):YS:=cliY_.getD (k.tmod 5).toNat default
theorem cliY_at {k:Int} (h:0<=k):([.str [107], .str [108], .str [109], .str [195,169], .str []]:List V).getD (k.tmod 5).toNat .any = .str (cliY k):=by
 have q0:=Int.tmod_nonneg 5 h;have q1:=Int.tmod_lt_of_pos k (show (0:Int)<5 by decide)
 unfold cliY
 generalize hj:(k.tmod 5).toNat=j
 have hj5:j<5:=by omega
 match j,hj5 with
 | 0,_=>rfl
 | 1,_=>rfl
 | 2,_=>rfl
 | 3,_=>rfl
 | 4,_=>rfl
theorem in_len {l:List YS} {n:Nat} (h:∀ f∈l,f.length<=n) (i:Nat):(l.getD i default).length<=n:=by
 by_cases hi:i<l.length
 · exact h _ (getD_inY hi)
 · rw [List.getD_eq_getElem?_getD,List.getElem?_eq_none (by omega)];exact Nat.zero_le _
theorem cliY_len (k:Int):(cliY k).length<=100:=in_len (by decide) _
def topY (k:Int):YS:=([[97],[97,47,98],[98,47,99],[36,115,47,97],[97,47,47,98],[195,169,47,97],[99]]:List YS).getD (k.tmod 7).toNat default
def filY (k:Int):YS:=([[97],[35],[97,47,43],[43,47,98],[97,47,35],[98,47,99],[36,115,47,35],[43],[43,47,43],[195,169,47,35]]:List YS).getD (k.tmod 10).toNat default
theorem topY_len (k:Int):(topY k).length<=100:=in_len (by decide) _
theorem filY_len (k:Int):(filY k).length<=100:=in_len (by decide) _
theorem flt0:∀ k,((([]:List (YS×Int)).getD k default)).1.length<=100:=fun k=>by simp [List.getD_eq_getElem?_getD];decide
theorem fltC {x:YS×Int} {l:List (YS×Int)} (h:x.1.length<=100) (hl:∀ k,(l.getD k default).1.length<=100):∀ k,((x::l).getD k default).1.length<=100
 | 0=>h
 | k+1=>hl k
theorem pk_fin {D:V} {F H:Own} {q_kind:Int} {q_dup:Bool} {q_retain:Bool} {q_qos:Int} {q_id:Int} {q_topic:YS} {q_payload:YS} {q_level:Int} {q_client:YS} {q_clean:Bool} {q_keep:Int} {q_hasWill:Bool} {q_wtopic:YS} {q_wpay:YS} {q_wqos:Int} {q_wretain:Bool} {q_hasUser:Bool} {q_hasPass:Bool} {q_user:YS} {q_pass:YS} {q_present:Bool} {q_code:Int} {q_subs:List (YS×Int)} {q_codes:List Int} (h1:le D (.agg [.int .i64 q_kind, .bool q_dup, .bool q_retain, .int .i64 q_qos, .int .i64 q_id, .str q_topic, .sl (q_payload.map u8), .int .i64 q_level, .str q_client, .bool q_clean, .int .i64 q_keep, .bool q_hasWill, .str q_wtopic, .sl (q_wpay.map u8), .int .i64 q_wqos, .bool q_wretain, .bool q_hasUser, .bool q_hasPass, .str q_user, .sl (q_pass.map u8), .bool q_present, .int .i64 q_code, .sl (q_subs.map encU), .sl (q_codes.map (V.int .i64))])) (h2:PkB ⟨q_kind,q_dup,q_retain,q_qos,q_id,q_topic,q_payload,q_level,q_client,q_clean,q_keep,q_hasWill,q_wtopic,q_wpay,q_wqos,q_wretain,q_hasUser,q_hasPass,q_user,q_pass,q_present,q_code,q_subs,q_codes⟩) (h3:SubP F H):∃ d' G,le D d'/\(∃ p:Pk,PkB p/\d' = .agg [.int .i64 p.kind, .bool p.dup, .bool p.retain, .int .i64 p.qos, .int .i64 p.id, .str p.topic, .sl (p.payload.map u8), .int .i64 p.level, .str p.client, .bool p.clean, .int .i64 p.keep, .bool p.hasWill, .str p.wtopic, .sl (p.wpay.map u8), .int .i64 p.wqos, .bool p.wretain, .bool p.hasUser, .bool p.hasPass, .str p.user, .sl (p.pass.map u8), .bool p.present, .int .i64 p.code, .sl (p.subs.map encU), .sl (p.codes.map (V.int .i64))]/\G=F)/\SubP G H:=⟨_,_,h1,⟨⟨q_kind,q_dup,q_retain,q_qos,q_id,q_topic,q_payload,q_level,q_client,q_clean,q_keep,q_hasWill,q_wtopic,q_wpay,q_wqos,q_wretain,q_hasUser,q_hasPass,q_user,q_pass,q_present,q_code,q_subs,q_codes⟩,h2,rfl,rfl⟩,h3⟩
theorem z100:([]:YS).length<=100:=Nat.zero_le _
theorem u100:([117]:YS).length<=100:=by decide
theorem a100:([97,35]:YS).length<=100:=by decide
attribute [local irreducible] DW SeqD DV DOp DC DVX
theorem s_topY_dc {P Q:Prop} (q:Q) (h:Hid Q->P:=by (intro q;simp (maxSteps:=1000000) (disch:=omega) only [push_cast,↓reduceIte,reduceCtorEq,Nat.reduceAdd,Nat.reduceMul,Nat.reduceLT,Nat.reduceLeDiff,Nat.reduceEqDiff,Nat.reduceSub,Int.reduceToNat,Int.reduceLT,Int.reduceLE,Int.reduceAdd,Int.reduceSub,Int.reduceMul,Int.reduceNeg,Nat.reduceBEq,Int.reduceBEq,Int.reduceBNe,Nat.reduceBNe,Int.reduceEq,hkm];exact q.1)):P:=h ⟨q⟩
theorem topY_dc (k:Int) (F:Own):(0<=k/\k<=255)->DC Tryd.prog 18 [.int .u8 k] (([]:Own)++F) fun d G=>d = .str (topY k)/\G=[]++F:=by
 intro hA
 obtain ⟨h0,h1⟩:=hA
 refine DC.bodyS (n_:=8) (show Tryd.prog.funcs[18]? = some Tryd.f18 by kernel_rfl) rfl rfl (by rfl) ?_
 simp only [env0,List.cons_append,List.nil_append]
 have kw:=ksIs [0,2]
 have ow:=ownIs []
 have q0:=Int.tmod_nonneg 7 h0;have q1:=Int.tmod_lt_of_pos k (show (0:Int)<7 by decide)
 rcases (show k.tmod 7=0\/k.tmod 7=1\/k.tmod 7=2\/k.tmod 7=3\/k.tmod 7=4\/k.tmod 7=5\/k.tmod 7=6 by omega) with hkm | hkm | hkm | hkm | hkm | hkm | hkm
 repeat' (first
  | refine g_ ?_
  | ((with_reducible refine And.intro ?_ ?_);(exact sv))
  | (refine DW.cond (by rfl) ?_ ?_<;>(first | exact i0_ | (intro hb;(try simp only [↓reduceCtorEq,not_true_eq_false,not_false_eq_true,hbs,Int.reduceBEq,Int.reduceBNe,Int.reduceEq] at hb);(try refine s_topY_dc ?_))))
  | ((with_reducible refine FVg_cases ?_ ?_)<;>(intro hb;rw [hb];revert hb;(first | exact i0_ | (intro hb;(try simp only [↓reduceCtorEq,not_true_eq_false,not_false_eq_true,hbs,Int.reduceBEq,Int.reduceBNe,Int.reduceEq] at hb);(try refine s_topY_dc ?_)))))
  | ((first | refine rn_ ?_ | refine kn_ ?_)<;>(refine s_topY_dc ?_))
  | ((refine on_ ?_);refine s_topY_dc ?_)
  | refine f_ ?_
  | with_reducible intro b)
 all_goals (refine ⟨_,_,le.of_eq ?_,⟨rfl,rfl⟩,SubP.refl⟩;rw [topY,hkm];rfl)
theorem s_filY_dc {P Q:Prop} (q:Q) (h:Hid Q->P:=by (intro q;simp (maxSteps:=1000000) (disch:=omega) only [push_cast,↓reduceIte,reduceCtorEq,Nat.reduceAdd,Nat.reduceMul,Nat.reduceLT,Nat.reduceLeDiff,Nat.reduceEqDiff,Nat.reduceSub,Int.reduceToNat,Int.reduceLT,Int.reduceLE,Int.reduceAdd,Int.reduceSub,Int.reduceMul,Int.reduceNeg,Nat.reduceBEq,Int.reduceBEq,Int.reduceBNe,Nat.reduceBNe,Int.reduceEq,hkm];exact q.1)):P:=h ⟨q⟩
theorem filY_dc (k:Int) (F:Own):(0<=k/\k<=255)->DC Tryd.prog 7 [.int .u8 k] (([]:Own)++F) fun d G=>d = .str (filY k)/\G=[]++F:=by
 intro hA
 obtain ⟨h0,h1⟩:=hA
 refine DC.bodyS (n_:=8) (show Tryd.prog.funcs[7]? = some Tryd.f7 by kernel_rfl) rfl rfl (by rfl) ?_
 simp only [env0,List.cons_append,List.nil_append]
 have kw:=ksIs [0,2]
 have ow:=ownIs []
 have q0:=Int.tmod_nonneg 10 h0;have q1:=Int.tmod_lt_of_pos k (show (0:Int)<10 by decide)
 rcases (show k.tmod 10=0\/k.tmod 10=1\/k.tmod 10=2\/k.tmod 10=3\/k.tmod 10=4\/k.tmod 10=5\/k.tmod 10=6\/k.tmod 10=7\/k.tmod 10=8\/k.tmod 10=9 by omega) with hkm | hkm | hkm | hkm | hkm | hkm | hkm | hkm | hkm | hkm
 repeat' (first
  | refine g_ ?_
  | ((with_reducible refine And.intro ?_ ?_);(exact sv))
  | (refine DW.cond (by rfl) ?_ ?_<;>(first | exact i0_ | (intro hb;(try simp only [↓reduceCtorEq,not_true_eq_false,not_false_eq_true,hbs,Int.reduceBEq,Int.reduceBNe,Int.reduceEq] at hb);(try refine s_filY_dc ?_))))
  | ((with_reducible refine FVg_cases ?_ ?_)<;>(intro hb;rw [hb];revert hb;(first | exact i0_ | (intro hb;(try simp only [↓reduceCtorEq,not_true_eq_false,not_false_eq_true,hbs,Int.reduceBEq,Int.reduceBNe,Int.reduceEq] at hb);(try refine s_filY_dc ?_)))))
  | ((first | refine rn_ ?_ | refine kn_ ?_)<;>(refine s_filY_dc ?_))
  | ((refine on_ ?_);refine s_filY_dc ?_)
  | refine f_ ?_
  | with_reducible intro b)
 all_goals (refine ⟨_,_,le.of_eq ?_,⟨rfl,rfl⟩,SubP.refl⟩;rw [filY,hkm];rfl)
section
attribute [local push_cast 2000] cliY_at
theorem connY_dc (a b c:Int) (x:YS) (F:Own):(((0<=a/\a<=255)/\(0<=b/\b<=255)/\(0<=c/\c<=255))/\x.length<=40)->DC Tryd.prog 47 [.int .u8 a, .int .u8 b, .int .u8 c, .sl (x.map u8)] (([]:Own)++F) fun d G=>∃ p:Pk,PkB p/\d = .agg [.int .i64 p.kind, .bool p.dup, .bool p.retain, .int .i64 p.qos, .int .i64 p.id, .str p.topic, .sl (p.payload.map u8), .int .i64 p.level, .str p.client, .bool p.clean, .int .i64 p.keep, .bool p.hasWill, .str p.wtopic, .sl (p.wpay.map u8), .int .i64 p.wqos, .bool p.wretain, .bool p.hasUser, .bool p.hasPass, .str p.user, .sl (p.pass.map u8), .bool p.present, .int .i64 p.code, .sl (p.subs.map encU), .sl (p.codes.map (V.int .i64))]/\G=[]++F:=by
 intro hA
 obtain ⟨⟨ha,hb_,hc⟩,hx⟩:=hA
 refine DC.bodyS (n_:=57) (show Tryd.prog.funcs[47]? = some Tryd.f47 by kernel_rfl) rfl rfl (by rfl) ?_
 simp only [env0,List.cons_append,List.nil_append]
 have kw:=ksIs [0,1,2,3,8,9,24,31,46,50]
 have ow:=ownIs []
 have rw_:=rsIs [.cell 8 93]
 have ha0:=ha.1;have q0:=Int.tmod_nonneg 5 ha.1;have q1:=Int.tmod_lt_of_pos a (show (0:Int)<5 by decide)
 have rc5:=Int.tmod_nonneg 5 hc.1;have sc5:=Int.tmod_lt_of_pos c (show (0:Int)<5 by decide);have ra3:=Int.tmod_nonneg 3 ha.1;have sa3:=Int.tmod_lt_of_pos a (show (0:Int)<3 by decide);have rb2:=Int.tmod_nonneg 2 hb_.1;have sb2:=Int.tmod_lt_of_pos b (show (0:Int)<2 by decide);have rb9:=Int.tmod_nonneg 9 hb_.1;have sb9:=Int.tmod_lt_of_pos b (show (0:Int)<9 by decide);have rc3:=Int.tmod_nonneg 3 hc.1;have sc3:=Int.tmod_lt_of_pos c (show (0:Int)<3 by decide);have rb3:=Int.tmod_nonneg 3 hb_.1;have sb3:=Int.tmod_lt_of_pos b (show (0:Int)<3 by decide);have ra8:=Int.tmod_nonneg 8 ha.1;have sa8:=Int.tmod_lt_of_pos a (show (0:Int)<8 by decide);have rb10:=Int.tmod_nonneg 10 hb_.1;have sb10:=Int.tmod_lt_of_pos b (show (0:Int)<10 by decide)
 repeat' (first
  | refine g_ ?_
  | ((with_reducible refine And.intro ?_ ?_);(exact sv))
  | (refine DW.cond (by rfl) ?_ ?_<;>(first | exact i0_ | (refine ic_ ?_;intro hb)))
  | ((with_reducible refine FVg_cases ?_ ?_)<;>(intro hb;rw [hb];revert hb;(first | exact i0_ | (refine i_ ?_;intro hb))))
  | refine r_ ?_
  | refine k_ ?_
  | (refine q_ (topY_dc _ _) ?_)
  | refine o_ ?_
  | refine f_ ?_
  | with_reducible intro b)
 all_goals first
 | ((apply pk_fin (q_payload:=[]) (q_wpay:=[]) (q_pass:=[]) (q_subs:=[]) (q_codes:=[]));(focus (refine le.agg ?_;(repeat (first | exact Les.nil | refine Les.cons le.rfl_ ?_ | refine Les.cons (le.gs rfl) ?_ | refine Les.cons (le.gs List.map_nil.symm) ?_ | (refine Les.cons (le.of_eq ?_) ?_;(focus (simp [encU,List.map_take]<;>fail)))));done));(focus (refine ⟨?_,?_,?_,?_,?_,?_,?_,?_,?_,?_⟩<;>(first | exact z100 | exact u100 | exact a100 | exact cliY_len _ | exact topY_len _ | exact filY_len _ | (show List.length x<=100;omega) | exact Nat.zero_le _ | exact flt0 | exact Nat.le_of_ble_eq_true rfl | (refine lenT ?_ _;exact Nat.le_of_ble_eq_true rfl) | (refine fltT ?_ _;(repeat (first | exact flt0 | (refine fltC ?_ ?_;(focus (first | exact filY_len _ | exact a100)))))) | (repeat (first | exact flt0 | (refine fltC ?_ ?_;(focus (first | exact filY_len _ | exact a100))))));done));(exact sub_);done)
 | ((apply pk_fin (q_payload:=[]) (q_wpay:=[]) (q_pass:=x) (q_subs:=[]) (q_codes:=[]));(focus (refine le.agg ?_;(repeat (first | exact Les.nil | refine Les.cons le.rfl_ ?_ | refine Les.cons (le.gs rfl) ?_ | refine Les.cons (le.gs List.map_nil.symm) ?_ | (refine Les.cons (le.of_eq ?_) ?_;(focus (simp [encU,List.map_take]<;>fail)))));done));(focus (refine ⟨?_,?_,?_,?_,?_,?_,?_,?_,?_,?_⟩<;>(first | exact z100 | exact u100 | exact a100 | exact cliY_len _ | exact topY_len _ | exact filY_len _ | (show List.length x<=100;omega) | exact Nat.zero_le _ | exact flt0 | exact Nat.le_of_ble_eq_true rfl | (refine lenT ?_ _;exact Nat.le_of_ble_eq_true rfl) | (refine fltT ?_ _;(repeat (first | exact flt0 | (refine fltC ?_ ?_;(focus (first | exact filY_len _ | exact a100)))))) | (repeat (first | exact flt0 | (refine fltC ?_ ?_;(focus (first | exact filY_len _ | exact a100))))));done));(exact sub_);done)
 | ((apply pk_fin (q_payload:=[]) (q_wpay:=x) (q_pass:=[]) (q_subs:=[]) (q_codes:=[]));(focus (refine le.agg ?_;(repeat (first | exact Les.nil | refine Les.cons le.rfl_ ?_ | refine Les.cons (le.gs rfl) ?_ | refine Les.cons (le.gs List.map_nil.symm) ?_ | (refine Les.cons (le.of_eq ?_) ?_;(focus (simp [encU,List.map_take]<;>fail)))));done));(focus (refine ⟨?_,?_,?_,?_,?_,?_,?_,?_,?_,?_⟩<;>(first | exact z100 | exact u100 | exact a100 | exact cliY_len _ | exact topY_len _ | exact filY_len _ | (show List.length x<=100;omega) | exact Nat.zero_le _ | exact flt0 | exact Nat.le_of_ble_eq_true rfl | (refine lenT ?_ _;exact Nat.le_of_ble_eq_true rfl) | (refine fltT ?_ _;(repeat (first | exact flt0 | (refine fltC ?_ ?_;(focus (first | exact filY_len _ | exact a100)))))) | (repeat (first | exact flt0 | (refine fltC ?_ ?_;(focus (first | exact filY_len _ | exact a100))))));done));(exact sub_);done)
 | ((apply pk_fin (q_payload:=[]) (q_wpay:=x) (q_pass:=x) (q_subs:=[]) (q_codes:=[]));(focus (refine le.agg ?_;(repeat (first | exact Les.nil | refine Les.cons le.rfl_ ?_ | refine Les.cons (le.gs rfl) ?_ | refine Les.cons (le.gs List.map_nil.symm) ?_ | (refine Les.cons (le.of_eq ?_) ?_;(focus (simp [encU,List.map_take]<;>fail)))));done));(focus (refine ⟨?_,?_,?_,?_,?_,?_,?_,?_,?_,?_⟩<;>(first | exact z100 | exact u100 | exact a100 | exact cliY_len _ | exact topY_len _ | exact filY_len _ | (show List.length x<=100;omega) | exact Nat.zero_le _ | exact flt0 | exact Nat.le_of_ble_eq_true rfl | (refine lenT ?_ _;exact Nat.le_of_ble_eq_true rfl) | (refine fltT ?_ _;(repeat (first | exact flt0 | (refine fltC ?_ ?_;(focus (first | exact filY_len _ | exact a100)))))) | (repeat (first | exact flt0 | (refine fltC ?_ ?_;(focus (first | exact filY_len _ | exact a100))))));done));(exact sub_);done)
 | (trace_state;fail)
end
end
section
theorem fltT {l:List (YS×Int)} (h:∀ k,(l.getD k default).1.length<=100) (n:Nat):∀ k,((l.take n).getD k default).1.length<=100:=fun k=>by
 have e:=h k
 rw [List.getD_eq_getElem?_getD,List.getElem?_take]
 rw [List.getD_eq_getElem?_getD] at e
 split
 · exact e
 · exact flt0 0
theorem DW.frzO2 {P:Program} {n:Nat} {Q:Exit->Env->Own->Prop} {e e':Env} {H H':Own} (id:Nat) {ops:Array Oper} {d:Bool} (v:Value) {l:List V} (h:OnA H v fun sz cs C=>cs=cells l/\0<sz/\(∀ y∈l,y.n=sz)/\CvE v l e e'/\CvO v l (C (.tail sz v)) H'/\DW P n (.region id ops d) Q e' H'):DW P n (.region id ops d) Q e H:=by
 obtain ⟨sz,cs,L1,L2,h0,h1,h2,h3,h4,h5,h6⟩:=h
 exact DW.frzOR id v ⟨sz,cs,L1,L2,h0,h1,h2,h3,h4,H',h5,h6⟩
theorem lenT {l:List (YS×Int)} (h:l.length<=3) (n:Nat):(l.take n).length<=3:=by rw [List.length_take];omega
attribute [local irreducible] DW SeqD DV DOp DC DVX filY topY
theorem sv_packY_dc {p:Prop} (h:p:=by first | exact sv | exact ⟨⟨ha,hb_,hc⟩,hx⟩ | fail):p:=h
theorem packY_dc (k a bq c:Int) (x:YS) (F:Own):(((0<=k/\k<=255)/\(0<=a/\a<=255)/\(0<=bq/\bq<=255)/\(0<=c/\c<=255))/\x.length<=40)->DC Tryd.prog 48 [.int .u8 k, .int .u8 a, .int .u8 bq, .int .u8 c, .sl (x.map u8)] (([]:Own)++F) fun d G=>∃ p:Pk,PkB p/\d = .agg [.int .i64 p.kind, .bool p.dup, .bool p.retain, .int .i64 p.qos, .int .i64 p.id, .str p.topic, .sl (p.payload.map u8), .int .i64 p.level, .str p.client, .bool p.clean, .int .i64 p.keep, .bool p.hasWill, .str p.wtopic, .sl (p.wpay.map u8), .int .i64 p.wqos, .bool p.wretain, .bool p.hasUser, .bool p.hasPass, .str p.user, .sl (p.pass.map u8), .bool p.present, .int .i64 p.code, .sl (p.subs.map encU), .sl (p.codes.map (V.int .i64))]/\G=[]++F:=by
 intro hA
 obtain ⟨⟨hk,ha,hb_,hc⟩,hx⟩:=hA
 refine DC.bodyS (n_:=130) (show Tryd.prog.funcs[48]? = some Tryd.f48 by kernel_rfl) rfl rfl (by rfl) ?_
 simp only [env0,List.cons_append,List.nil_append]
 have kw:=ksIs [0,1,2,3,4,10,11,12,13,19,20,37,48,63,77,85,100,104,108,112,119,122]
 have ow:=ownIs [59]
 have dw16:=drIs 16 [9,11] [1,3]
 have rw_:=rsIs [.cell 10 93]
 have rk15:=Int.tmod_nonneg 15 hk.1;have sk15:=Int.tmod_lt_of_pos k (show (0:Int)<15 by decide);have rbq7:=Int.tmod_nonneg 7 hb_.1;have sbq7:=Int.tmod_lt_of_pos bq (show (0:Int)<7 by decide);have rbq3:=Int.tmod_nonneg 3 hb_.1;have sbq3:=Int.tmod_lt_of_pos bq (show (0:Int)<3 by decide);have rc2:=Int.tmod_nonneg 2 hc.1;have sc2:=Int.tmod_lt_of_pos c (show (0:Int)<2 by decide);have rc5:=Int.tmod_nonneg 5 hc.1;have sc5:=Int.tmod_lt_of_pos c (show (0:Int)<5 by decide);have rc7:=Int.tmod_nonneg 7 hc.1;have sc7:=Int.tmod_lt_of_pos c (show (0:Int)<7 by decide);have rc3:=Int.tmod_nonneg 3 hc.1;have sc3:=Int.tmod_lt_of_pos c (show (0:Int)<3 by decide);have rc11:=Int.tmod_nonneg 11 hc.1;have sc11:=Int.tmod_lt_of_pos c (show (0:Int)<11 by decide)
 repeat' (first
  | ((with_reducible apply DW.frzO2 15 v59 (l:=[V.agg [V.str (filY a),V.int .i64 (bq.tmod 3)]]));(repeat (with_reducible first | refine OnA.here ?_ | refine OnA.next ?_));refine ⟨rfl,by decide,(by intro y hy;rw [List.mem_singleton] at hy;subst hy;rfl),?_,?_,?_⟩;(focus (repeat (first | exact CvE.nil | apply CvE.cons (Cv.hit _) | apply CvE.cons (Cv.rfl _))));(focus ((repeat (first | apply CvO.blk _ (by repeat (first | exact CvL.nil | apply CvL.cons (Cv.hit _) | apply CvL.cons (Cv.rfl _))) | apply CvO.keep | exact CvO.rfl_ _ _ _)))))
  | refine g_ ?_
  | ((with_reducible refine And.intro ?_ ?_);(exact sv_packY_dc))
  | (refine DW.cond (by rfl) ?_ ?_<;>(first | exact i0_ | (refine ic_ ?_;intro hb)))
  | ((with_reducible first | refine FVg_cases ?_ ?_ | refine FDg_cases ?_ ?_)<;>(intro hb;rw [hb];revert hb;(first | exact i0_ | (refine i_ ?_;intro hb))))
  | refine r_ ?_
  | refine d_ ?_
  | refine k_ ?_
  | ((refine dm_ ?_);(first | ((first | refine v_ (topY_dc _ _) ?_ (ha:=by exact sv_packY_dc) | refine v_ (filY_dc _ _) ?_ (ha:=by exact sv_packY_dc)))))
  | refine vo_ ?_
  | ((first | (refine DOp.lista_ [59] rfl rfl ?_) | (refine DOp.makea_ [59] rfl rfl rfl rfl ?_))<;>(refine s_ ?_))
  | ((first | refine q_ (topY_dc _ _) ?_ (ha:=by exact sv_packY_dc) | refine q_ (filY_dc _ _) ?_ (ha:=by exact sv_packY_dc)))
  | (refine p_ (connY_dc _ _ _ _ _) ?_ (ha:=by exact sv_packY_dc);rintro d H1 ⟨pc,hpc,rfl,rfl⟩<;>refine s_ ?_)
  | refine o_ ?_
  | refine f_ ?_
  | refine vm_ ?_
  | ((fail_if_success (have zz:=b10));with_reducible intro b10)
  | ((fail_if_success (have zz:=v59));with_reducible intro v59)
  | ((fail_if_success (have zz:=b13));with_reducible intro b13)
  | with_reducible intro b)
 all_goals first
 | (refine ⟨_,_,le.rfl_,⟨pc,hpc,rfl,rfl⟩,?_⟩;(exact sub_);done)
 | ((apply pk_fin (q_payload:=x) (q_wpay:=[]) (q_pass:=[]) (q_subs:=[]) (q_codes:=[]));(focus (refine le.agg ?_;(repeat (first | exact Les.nil | refine Les.cons le.rfl_ ?_ | refine Les.cons (le.gs rfl) ?_ | refine Les.cons (le.gs List.map_nil.symm) ?_ | (refine Les.cons (le.of_eq ?_) ?_;(focus (simp [encU,List.map_take]<;>fail)))));done));(focus (refine ⟨?_,?_,?_,?_,?_,?_,?_,?_,?_,?_⟩<;>(first | exact z100 | exact u100 | exact a100 | exact cliY_len _ | exact topY_len _ | exact filY_len _ | (show List.length x<=100;omega) | exact Nat.zero_le _ | exact flt0 | exact Nat.le_of_ble_eq_true rfl | (refine lenT ?_ _;exact Nat.le_of_ble_eq_true rfl) | (refine fltT ?_ _;(repeat (first | exact flt0 | (refine fltC ?_ ?_;(focus (first | exact filY_len _ | exact a100)))))) | (repeat (first | exact flt0 | (refine fltC ?_ ?_;(focus (first | exact filY_len _ | exact a100))))));done));(exact sub_);done)
 | ((apply pk_fin (q_payload:=[]) (q_wpay:=[]) (q_pass:=[]) (q_subs:=[]) (q_codes:=[]));(focus (refine le.agg ?_;(repeat (first | exact Les.nil | refine Les.cons le.rfl_ ?_ | refine Les.cons (le.gs rfl) ?_ | refine Les.cons (le.gs List.map_nil.symm) ?_ | (refine Les.cons (le.of_eq ?_) ?_;(focus (simp [encU,List.map_take]<;>fail)))));done));(focus (refine ⟨?_,?_,?_,?_,?_,?_,?_,?_,?_,?_⟩<;>(first | exact z100 | exact u100 | exact a100 | exact cliY_len _ | exact topY_len _ | exact filY_len _ | (show List.length x<=100;omega) | exact Nat.zero_le _ | exact flt0 | exact Nat.le_of_ble_eq_true rfl | (refine lenT ?_ _;exact Nat.le_of_ble_eq_true rfl) | (refine fltT ?_ _;(repeat (first | exact flt0 | (refine fltC ?_ ?_;(focus (first | exact filY_len _ | exact a100)))))) | (repeat (first | exact flt0 | (refine fltC ?_ ?_;(focus (first | exact filY_len _ | exact a100))))));done));(exact sub_);done)
 | ((apply pk_fin (q_payload:=[]) (q_wpay:=[]) (q_pass:=[]) (q_subs:=[(filY a,bq.tmod 3)]) (q_codes:=[]));(focus (refine le.agg ?_;(repeat (first | exact Les.nil | refine Les.cons le.rfl_ ?_ | refine Les.cons (le.gs rfl) ?_ | refine Les.cons (le.gs List.map_nil.symm) ?_ | (refine Les.cons (le.of_eq ?_) ?_;(focus (simp [encU,List.map_take]<;>fail)))));done));(focus (refine ⟨?_,?_,?_,?_,?_,?_,?_,?_,?_,?_⟩<;>(first | exact z100 | exact u100 | exact a100 | exact cliY_len _ | exact topY_len _ | exact filY_len _ | (show List.length x<=100;omega) | exact Nat.zero_le _ | exact flt0 | exact Nat.le_of_ble_eq_true rfl | (refine lenT ?_ _;exact Nat.le_of_ble_eq_true rfl) | (refine fltT ?_ _;(repeat (first | exact flt0 | (refine fltC ?_ ?_;(focus (first | exact filY_len _ | exact a100)))))) | (repeat (first | exact flt0 | (refine fltC ?_ ?_;(focus (first | exact filY_len _ | exact a100))))));done));(exact sub_);done)
 | ((apply pk_fin (q_payload:=[]) (q_wpay:=[]) (q_pass:=[]) (q_subs:=[(filY a,bq.tmod 3),(filY c,c.tmod 2)]) (q_codes:=[]));(focus (refine le.agg ?_;(repeat (first | exact Les.nil | refine Les.cons le.rfl_ ?_ | refine Les.cons (le.gs rfl) ?_ | refine Les.cons (le.gs List.map_nil.symm) ?_ | (refine Les.cons (le.of_eq ?_) ?_;(focus (simp [encU,List.map_take]<;>fail)))));done));(focus (refine ⟨?_,?_,?_,?_,?_,?_,?_,?_,?_,?_⟩<;>(first | exact z100 | exact u100 | exact a100 | exact cliY_len _ | exact topY_len _ | exact filY_len _ | (show List.length x<=100;omega) | exact Nat.zero_le _ | exact flt0 | exact Nat.le_of_ble_eq_true rfl | (refine lenT ?_ _;exact Nat.le_of_ble_eq_true rfl) | (refine fltT ?_ _;(repeat (first | exact flt0 | (refine fltC ?_ ?_;(focus (first | exact filY_len _ | exact a100)))))) | (repeat (first | exact flt0 | (refine fltC ?_ ?_;(focus (first | exact filY_len _ | exact a100))))));done));(exact sub_);done)
 | ((apply pk_fin (q_payload:=[]) (q_wpay:=[]) (q_pass:=[]) (q_subs:=[(filY a,bq.tmod 3),(filY c,c.tmod 2),([97,35],1)]) (q_codes:=[]));(focus (refine le.agg ?_;(repeat (first | exact Les.nil | refine Les.cons le.rfl_ ?_ | refine Les.cons (le.gs rfl) ?_ | refine Les.cons (le.gs List.map_nil.symm) ?_ | (refine Les.cons (le.of_eq ?_) ?_;(focus (simp [encU,List.map_take]<;>fail)))));done));(focus (refine ⟨?_,?_,?_,?_,?_,?_,?_,?_,?_,?_⟩<;>(first | exact z100 | exact u100 | exact a100 | exact cliY_len _ | exact topY_len _ | exact filY_len _ | (show List.length x<=100;omega) | exact Nat.zero_le _ | exact flt0 | exact Nat.le_of_ble_eq_true rfl | (refine lenT ?_ _;exact Nat.le_of_ble_eq_true rfl) | (refine fltT ?_ _;(repeat (first | exact flt0 | (refine fltC ?_ ?_;(focus (first | exact filY_len _ | exact a100)))))) | (repeat (first | exact flt0 | (refine fltC ?_ ?_;(focus (first | exact filY_len _ | exact a100))))));done));(exact sub_);done)
 | ((apply pk_fin (q_payload:=[]) (q_wpay:=[]) (q_pass:=[]) (q_subs:=[(filY a,bq.tmod 3),([97,35],1)]) (q_codes:=[]));(focus (refine le.agg ?_;(repeat (first | exact Les.nil | refine Les.cons le.rfl_ ?_ | refine Les.cons (le.gs rfl) ?_ | refine Les.cons (le.gs List.map_nil.symm) ?_ | (refine Les.cons (le.of_eq ?_) ?_;(focus (simp [encU,List.map_take]<;>fail)))));done));(focus (refine ⟨?_,?_,?_,?_,?_,?_,?_,?_,?_,?_⟩<;>(first | exact z100 | exact u100 | exact a100 | exact cliY_len _ | exact topY_len _ | exact filY_len _ | (show List.length x<=100;omega) | exact Nat.zero_le _ | exact flt0 | exact Nat.le_of_ble_eq_true rfl | (refine lenT ?_ _;exact Nat.le_of_ble_eq_true rfl) | (refine fltT ?_ _;(repeat (first | exact flt0 | (refine fltC ?_ ?_;(focus (first | exact filY_len _ | exact a100)))))) | (repeat (first | exact flt0 | (refine fltC ?_ ?_;(focus (first | exact filY_len _ | exact a100))))));done));(exact sub_);done)
 | ((apply pk_fin (q_payload:=[]) (q_wpay:=[]) (q_pass:=[]) (q_subs:=(List.take (1+c.tmod 2).toNat [(filY a,0),(filY c,0)])) (q_codes:=[]));(focus (refine le.agg ?_;(repeat (first | exact Les.nil | refine Les.cons le.rfl_ ?_ | refine Les.cons (le.gs rfl) ?_ | refine Les.cons (le.gs List.map_nil.symm) ?_ | (refine Les.cons (le.of_eq ?_) ?_;(focus (simp [encU,List.map_take]<;>fail)))));done));(focus (refine ⟨?_,?_,?_,?_,?_,?_,?_,?_,?_,?_⟩<;>(first | exact z100 | exact u100 | exact a100 | exact cliY_len _ | exact topY_len _ | exact filY_len _ | (show List.length x<=100;omega) | exact Nat.zero_le _ | exact flt0 | exact Nat.le_of_ble_eq_true rfl | (refine lenT ?_ _;exact Nat.le_of_ble_eq_true rfl) | (refine fltT ?_ _;(repeat (first | exact flt0 | (refine fltC ?_ ?_;(focus (first | exact filY_len _ | exact a100)))))) | (repeat (first | exact flt0 | (refine fltC ?_ ?_;(focus (first | exact filY_len _ | exact a100))))));done));(exact sub_);done)
 | (trace_state;fail)
end
end Go.Proofs.YtphhijelneaedaaDoor
