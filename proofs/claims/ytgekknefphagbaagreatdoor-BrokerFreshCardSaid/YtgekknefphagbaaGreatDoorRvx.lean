/- Layer 20: greetings of numbers; who has not greeted, who greets twice. -/
import Derived.Test.YtgekknefphagbaaGreatDoorRcx
import Derived.Test.YtgekknefphagbaaGreatDoorQjx
import Derived.KernelRfl
import Derived.Test.YtgekknefphagbaaGreatDoorBdx
import Derived.Test.YtgekknefphagbaaGreatDoorLkx
import Derived.Test.YtgekknefphagbaaGreatDoorCards
import Derived.Test.YtgekknefphagbaaGreatDoorTie
import Derived.Lay
import Derived.PinnedBridge
import Derived.Shelf.Vars
import Derived.SevenTiedAt
import Derived.LaidMore
import Derived.OpenShut
import Derived.ChangeMaps5
namespace Go.Proofs.YtgekknefphagbaaGreatDoor
open Go.RowKit
set_option linter.unusedSimpArgs false
set_option linter.unusedVariables false
set_option linter.unusedSectionVars false
set_option maxHeartbeats 4000000
set_option maxRecDepth 100000
section
theorem zic {D:V} {F H:Own} {q_kind:Int} {q_dup:Bool} {q_retain:Bool} {q_qos:Int} {q_id:Int} {q_topic:YS} {q_payload:YS} {q_level:Int} {q_client:YS} {q_clean:Bool} {q_keep:Int} {q_hasWill:Bool} {q_wtopic:YS} {q_wpay:YS} {q_wqos:Int} {q_wretain:Bool} {q_hasUser:Bool} {q_hasPass:Bool} {q_user:YS} {q_pass:YS} {q_present:Bool} {q_code:Int} {q_subs:List (YS×Int)} {q_codes:List Int} (h1:le D (.agg [.int .i64 q_kind, .bool q_dup, .bool q_retain, .int .i64 q_qos, .int .i64 q_id, .str q_topic, .sl (q_payload.map u8), .int .i64 q_level, .str q_client, .bool q_clean, .int .i64 q_keep, .bool q_hasWill, .str q_wtopic, .sl (q_wpay.map u8), .int .i64 q_wqos, .bool q_wretain, .bool q_hasUser, .bool q_hasPass, .str q_user, .sl (q_pass.map u8), .bool q_present, .int .i64 q_code, .sl (q_subs.map encU), .sl (q_codes.map (V.int .i64))])) (h2:PkB ⟨q_kind,q_dup,q_retain,q_qos,q_id,q_topic,q_payload,q_level,q_client,q_clean,q_keep,q_hasWill,q_wtopic,q_wpay,q_wqos,q_wretain,q_hasUser,q_hasPass,q_user,q_pass,q_present,q_code,q_subs,q_codes⟩) (h4:q_kind=1) (h3:SubP F H):∃ d' G,le D d'/\(∃ p:Pk,(PkB p/\p.kind=1)/\d' = .agg [.int .i64 p.kind, .bool p.dup, .bool p.retain, .int .i64 p.qos, .int .i64 p.id, .str p.topic, .sl (p.payload.map u8), .int .i64 p.level, .str p.client, .bool p.clean, .int .i64 p.keep, .bool p.hasWill, .str p.wtopic, .sl (p.wpay.map u8), .int .i64 p.wqos, .bool p.wretain, .bool p.hasUser, .bool p.hasPass, .str p.user, .sl (p.pass.map u8), .bool p.present, .int .i64 p.code, .sl (p.subs.map encU), .sl (p.codes.map (V.int .i64))]/\G=F)/\SubP G H:=⟨_,_,h1,⟨⟨q_kind,q_dup,q_retain,q_qos,q_id,q_topic,q_payload,q_level,q_client,q_clean,q_keep,q_hasWill,q_wtopic,q_wpay,q_wqos,q_wretain,q_hasUser,q_hasPass,q_user,q_pass,q_present,q_code,q_subs,q_codes⟩,⟨h2,h4⟩,rfl,rfl⟩,h3⟩
attribute [local irreducible] topY filY cliY
attribute [local irreducible] DW SeqD DV DOp DC DVX DVJ idsF usI sortS putM zay onlyM
section
attribute [local push_cast 2000] zmL
theorem zpF (a b c:Int) (x:YS) (F:Own):(((0<=a/\a<=255)/\(0<=b/\b<=255)/\(0<=c/\c<=255))/\x.length<=40)->DC Tryz.prog 19 [.int .u8 a, .int .u8 b, .int .u8 c, .sl (x.map u8)] (([]:Own)++F) fun d G=>∃ p:Pk,(PkB p/\p.kind=1)/\d = .agg [.int .i64 p.kind, .bool p.dup, .bool p.retain, .int .i64 p.qos, .int .i64 p.id, .str p.topic, .sl (p.payload.map u8), .int .i64 p.level, .str p.client, .bool p.clean, .int .i64 p.keep, .bool p.hasWill, .str p.wtopic, .sl (p.wpay.map u8), .int .i64 p.wqos, .bool p.wretain, .bool p.hasUser, .bool p.hasPass, .str p.user, .sl (p.pass.map u8), .bool p.present, .int .i64 p.code, .sl (p.subs.map encU), .sl (p.codes.map (V.int .i64))]/\G=F:=by
 intro hA
 obtain ⟨⟨ha,hb_,hc⟩,hx⟩:=hA
 refine DC.bodyS (n_:=57) (show Tryz.prog.funcs[19]? = some Tryz.f19 by kernel_rfl) rfl rfl (by rfl) ?_
 simp only [env0,List.cons_append,List.nil_append]
 have kw:=ksIs [0,1,2,3,8,9,24,31,46,50]
 have ow:=zai []
 have rw_:=rsIs [.cell 8 29]
 have ha0:=ha.1;have q0:=Int.tmod_nonneg 5 ha.1;have q1:=Int.tmod_lt_of_pos a (show (0:Int)<5 by decide)
 have rc5:=Int.tmod_nonneg 5 hc.1;have sc5:=Int.tmod_lt_of_pos c (show (0:Int)<5 by decide);have ra3:=Int.tmod_nonneg 3 ha.1;have sa3:=Int.tmod_lt_of_pos a (show (0:Int)<3 by decide);have rb2:=Int.tmod_nonneg 2 hb_.1;have sb2:=Int.tmod_lt_of_pos b (show (0:Int)<2 by decide);have rb9:=Int.tmod_nonneg 9 hb_.1;have sb9:=Int.tmod_lt_of_pos b (show (0:Int)<9 by decide);have rc3:=Int.tmod_nonneg 3 hc.1;have sc3:=Int.tmod_lt_of_pos c (show (0:Int)<3 by decide);have rb3:=Int.tmod_nonneg 3 hb_.1;have sb3:=Int.tmod_lt_of_pos b (show (0:Int)<3 by decide);have ra8:=Int.tmod_nonneg 8 ha.1;have sa8:=Int.tmod_lt_of_pos a (show (0:Int)<8 by decide);have rb10:=Int.tmod_nonneg 10 hb_.1;have sb10:=Int.tmod_lt_of_pos b (show (0:Int)<10 by decide)
 repeat' (first
  | refine g_ ?_
  | ((with_reducible refine And.intro ?_ ?_);(exact sv))
  | (refine DW.cond (by rfl) ?_ ?_<;>(first | exact i0_ | (refine ic_ ?_;intro hb)))
  | ((with_reducible refine zaa ?_ ?_)<;>(intro hb;rw [hb];revert hb;(first | exact i0_ | (refine i_ ?_;intro hb))))
  | refine r_ ?_
  | refine k_ ?_
  | (refine q_ (zgo _ _) ?_)
  | refine o_ ?_
  | refine f_ ?_
  | with_reducible intro b)
 all_goals first
 | ((apply zic (q_payload:=[]) (q_wpay:=[]) (q_pass:=[]) (q_subs:=[]) (q_codes:=[]));(focus (refine le.agg ?_;(repeat (first | exact Les.nil | refine Les.cons le.rfl_ ?_ | refine Les.cons (le.gs rfl) ?_ | refine Les.cons (le.gs List.map_nil.symm) ?_ | (refine Les.cons (le.of_eq ?_) ?_;(focus (simp [encU,List.map_take]<;>fail)))));done));(focus (refine ⟨?_,?_,?_,?_,?_,?_,?_,?_,?_,?_⟩<;>(first | exact z100 | exact u100 | exact a100 | exact zbA _ | exact zbC _ | exact zao _ | (show List.length x<=100;omega) | exact Nat.zero_le _ | exact flt0 | exact Nat.le_of_ble_eq_true rfl | (refine lenT ?_ _;exact Nat.le_of_ble_eq_true rfl) | (refine fltT ?_ _;(repeat (first | exact flt0 | (refine fltC ?_ ?_;(focus (first | exact zao _ | exact a100)))))) | (repeat (first | exact flt0 | (refine fltC ?_ ?_;(focus (first | exact zao _ | exact a100))))));done));(focus (exact rfl));(exact sub_);done)
 | ((apply zic (q_payload:=[]) (q_wpay:=[]) (q_pass:=x) (q_subs:=[]) (q_codes:=[]));(focus (refine le.agg ?_;(repeat (first | exact Les.nil | refine Les.cons le.rfl_ ?_ | refine Les.cons (le.gs rfl) ?_ | refine Les.cons (le.gs List.map_nil.symm) ?_ | (refine Les.cons (le.of_eq ?_) ?_;(focus (simp [encU,List.map_take]<;>fail)))));done));(focus (refine ⟨?_,?_,?_,?_,?_,?_,?_,?_,?_,?_⟩<;>(first | exact z100 | exact u100 | exact a100 | exact zbA _ | exact zbC _ | exact zao _ | (show List.length x<=100;omega) | exact Nat.zero_le _ | exact flt0 | exact Nat.le_of_ble_eq_true rfl | (refine lenT ?_ _;exact Nat.le_of_ble_eq_true rfl) | (refine fltT ?_ _;(repeat (first | exact flt0 | (refine fltC ?_ ?_;(focus (first | exact zao _ | exact a100)))))) | (repeat (first | exact flt0 | (refine fltC ?_ ?_;(focus (first | exact zao _ | exact a100))))));done));(focus (exact rfl));(exact sub_);done)
 | ((apply zic (q_payload:=[]) (q_wpay:=x) (q_pass:=[]) (q_subs:=[]) (q_codes:=[]));(focus (refine le.agg ?_;(repeat (first | exact Les.nil | refine Les.cons le.rfl_ ?_ | refine Les.cons (le.gs rfl) ?_ | refine Les.cons (le.gs List.map_nil.symm) ?_ | (refine Les.cons (le.of_eq ?_) ?_;(focus (simp [encU,List.map_take]<;>fail)))));done));(focus (refine ⟨?_,?_,?_,?_,?_,?_,?_,?_,?_,?_⟩<;>(first | exact z100 | exact u100 | exact a100 | exact zbA _ | exact zbC _ | exact zao _ | (show List.length x<=100;omega) | exact Nat.zero_le _ | exact flt0 | exact Nat.le_of_ble_eq_true rfl | (refine lenT ?_ _;exact Nat.le_of_ble_eq_true rfl) | (refine fltT ?_ _;(repeat (first | exact flt0 | (refine fltC ?_ ?_;(focus (first | exact zao _ | exact a100)))))) | (repeat (first | exact flt0 | (refine fltC ?_ ?_;(focus (first | exact zao _ | exact a100))))));done));(focus (exact rfl));(exact sub_);done)
 | ((apply zic (q_payload:=[]) (q_wpay:=x) (q_pass:=x) (q_subs:=[]) (q_codes:=[]));(focus (refine le.agg ?_;(repeat (first | exact Les.nil | refine Les.cons le.rfl_ ?_ | refine Les.cons (le.gs rfl) ?_ | refine Les.cons (le.gs List.map_nil.symm) ?_ | (refine Les.cons (le.of_eq ?_) ?_;(focus (simp [encU,List.map_take]<;>fail)))));done));(focus (refine ⟨?_,?_,?_,?_,?_,?_,?_,?_,?_,?_⟩<;>(first | exact z100 | exact u100 | exact a100 | exact zbA _ | exact zbC _ | exact zao _ | (show List.length x<=100;omega) | exact Nat.zero_le _ | exact flt0 | exact Nat.le_of_ble_eq_true rfl | (refine lenT ?_ _;exact Nat.le_of_ble_eq_true rfl) | (refine fltT ?_ _;(repeat (first | exact flt0 | (refine fltC ?_ ?_;(focus (first | exact zao _ | exact a100)))))) | (repeat (first | exact flt0 | (refine fltC ?_ ?_;(focus (first | exact zao _ | exact a100))))));done));(focus (exact rfl));(exact sub_);done)
 | (trace_state;fail)
end
theorem zo8 (nm:YS):ziW nm true=newB:=by simp [ziW,newB]
theorem zmG (n:Int):newB.conn n=none:=rfl
theorem zoQ (n:Int):zc8 n newB=[]:=rfl
theorem zlr (n:Int):zae n (zb5 n)=(⟨[⟨n,[],true⟩],[],[],[]⟩,newB):=by
 unfold zae za8
 rw [zef]
 simp only [newC]
 unfold andM Br.off zb5 newC newB
 simp [zeh]
attribute [local irreducible] SN.own ownT ownC ownS ownB zae za8 zah zaR zbD outM zaT zeQ newB zb5 zbW ziW zem
theorem fX0_dc (bb:Nat) (m:Int) (s:BN) (n:Int) (p:Pk) (F:Own):(BOK s/\s.pl=zb5 n/\p.kind≠1)->DC Tryz.prog 14 [.raw (.pointer (some ⟨bb,0,none⟩)), .int .i64 n, .agg [.int .i64 p.kind, .bool p.dup, .bool p.retain, .int .i64 p.qos, .int .i64 p.id, .str p.topic, .sl (p.payload.map u8), .int .i64 p.level, .str p.client, .bool p.clean, .int .i64 p.keep, .bool p.hasWill, .str p.wtopic, .sl (p.wpay.map u8), .int .i64 p.wqos, .bool p.wretain, .bool p.hasUser, .bool p.hasPass, .str p.user, .sl (p.pass.map u8), .bool p.present, .int .i64 p.code, .sl (p.subs.map encU), .sl (p.codes.map (V.int .i64))], .int .i64 0, .agg [.gs (.slice none 0 0) [], .gs (.slice none 0 0) [], .gs (.slice none 0 0) [], .gs (.slice none 0 0) []]] ((loose::knF::knA::knM m::(ownB bb s++[]))++F) fun d G=>∃ s':BN,(BOK s'/\s'.pl=newB)/\d = .tup [zb8 ⟨[⟨n,[],true⟩],[],[],[]⟩, .int .i64 0]/\G=loose::knF::knA::knM m::(ownB bb s'++F):=fun ⟨h,hp,hk⟩=>by
 have h1:=zlB bb m s n 0 p [] [] [] [] F ⟨h,by rw [hp];exact zir ..,⟨_,by rw [hp];exact zef n,rfl⟩,hk⟩
 rw [hp,zfU,zlr] at h1
 exact DC.args (Les.cons le.rfl_ (Les.cons le.rfl_ (Les.cons le.rfl_ (Les.cons le.rfl_ (Les.cons (le.agg (Les.cons (le.gs rfl) (Les.cons (le.gs rfl) (Les.cons (le.gs rfl) (Les.cons (le.gs rfl) Les.nil))))) Les.nil))))) h1
theorem fX1_dc (bb:Nat) (m:Int) (s:BN) (n:Int) (nm:YS) (kp hd:Int) (p:Pk) (F:Own):(BOK s/\s.pl=zbW n nm kp true hd []/\p.kind=1)->DC Tryz.prog 14 [.raw (.pointer (some ⟨bb,0,none⟩)), .int .i64 n, .agg [.int .i64 p.kind, .bool p.dup, .bool p.retain, .int .i64 p.qos, .int .i64 p.id, .str p.topic, .sl (p.payload.map u8), .int .i64 p.level, .str p.client, .bool p.clean, .int .i64 p.keep, .bool p.hasWill, .str p.wtopic, .sl (p.wpay.map u8), .int .i64 p.wqos, .bool p.wretain, .bool p.hasUser, .bool p.hasPass, .str p.user, .sl (p.pass.map u8), .bool p.present, .int .i64 p.code, .sl (p.subs.map encU), .sl (p.codes.map (V.int .i64))], .int .i64 0, .agg [.gs (.slice none 0 0) [], .gs (.slice none 0 0) [], .gs (.slice none 0 0) [], .gs (.slice none 0 0) []]] ((loose::knF::knA::knM m::(ownB bb s++[]))++F) fun d G=>∃ s':BN,(BOK s'/\s'.pl=newB)/\d = .tup [zb8 ⟨[⟨n,[],true⟩],[],[],[]⟩, .int .i64 0]/\G=loose::knF::knA::knM m::(ownB bb s'++F):=fun ⟨h,hp,hk⟩=>by
 have h1:=zlk bb m s n 0 p [] [] [] [] F ⟨h,by rw [hp];exact zjf ..,⟨_,by rw [hp];exact zel ..,rfl⟩,hk⟩
 rw [hp,zfS,zl0,zo8] at h1
 exact DC.args (Les.cons le.rfl_ (Les.cons le.rfl_ (Les.cons le.rfl_ (Les.cons le.rfl_ (Les.cons (le.agg (Les.cons (le.gs rfl) (Les.cons (le.gs rfl) (Les.cons (le.gs rfl) (Les.cons (le.gs rfl) Les.nil))))) Les.nil))))) h1
theorem fN_dc (bb:Nat) (s:BN) (n:Int) (p:Pk) (F:Own):(BOK s/\s.pl=newB)->DC Tryz.prog 14 [.raw (.pointer (some ⟨bb,0,none⟩)), .int .i64 n, .agg [.int .i64 p.kind, .bool p.dup, .bool p.retain, .int .i64 p.qos, .int .i64 p.id, .str p.topic, .sl (p.payload.map u8), .int .i64 p.level, .str p.client, .bool p.clean, .int .i64 p.keep, .bool p.hasWill, .str p.wtopic, .sl (p.wpay.map u8), .int .i64 p.wqos, .bool p.wretain, .bool p.hasUser, .bool p.hasPass, .str p.user, .sl (p.pass.map u8), .bool p.present, .int .i64 p.code, .sl (p.subs.map encU), .sl (p.codes.map (V.int .i64))], .int .i64 0, .agg [.gs (.slice none 0 0) [], .gs (.slice none 0 0) [], .gs (.slice none 0 0) [], .gs (.slice none 0 0) []]] ((ownB bb s++[])++F) fun d G=>d = .tup [zb8 nilE, .int .i64 30]/\G=(ownB bb s++[])++F:=fun ⟨h,hp⟩ =>
 DC.args (Les.cons le.rfl_ (Les.cons le.rfl_ (Les.cons le.rfl_ (Les.cons le.rfl_ (Les.cons (le.agg (Les.cons (le.gs rfl) (Les.cons (le.gs rfl) (Les.cons (le.gs rfl) (Les.cons (le.gs rfl) Les.nil))))) Les.nil))))) (zne bb s n 0 p [] [] [] [] F (by rw [hp];exact zmG n))
theorem fCli_dc (bb:Nat) (s:BN) (n:Int) (F:Own):(BOK s/\s.pl=newB)->DC Tryz.prog 17 [.raw (.pointer (some ⟨bb,0,none⟩)), .int .i64 n] ((ownB bb s++[])++F) fun d G=>d = .str []/\G=(ownB bb s++[])++F:=fun ⟨h,hp⟩=>by
 have h1:=zhT bb s n F h
 rwa [hp,zoQ] at h1
theorem zav {p:Prop} (h:p:=by first | exact sv | exact ⟨hs0,hp0,by decide,by decide⟩ | exact ⟨hs1,hp1,⟨by decide,by decide⟩,by decide,by decide,by decide,by decide⟩ | exact ⟨hs1,hp1,by omega⟩ | exact ⟨hs2,hp2,hkd2⟩ | exact ⟨hs3,hp3⟩ | exact ⟨⟨hk,ha,hc,he⟩,by omega⟩ | exact ⟨⟨ha,hc,he⟩,by omega⟩ | fail):p:=h
theorem zet {P Q:Prop} (q:Q) (h:Hid Q->P:=by (intro q;simp (maxSteps:=1000000) (disch:=omega) only [push_cast,↓reduceIte,reduceCtorEq,Nat.reduceAdd,Nat.reduceMul,Nat.reduceLT,Nat.reduceLeDiff,Nat.reduceEqDiff,Nat.reduceSub,Int.reduceToNat,Int.reduceLT,Int.reduceLE,Int.reduceAdd,Int.reduceSub,Int.reduceMul,Int.reduceNeg,Nat.reduceBEq,Int.reduceBEq,Int.reduceBNe,Nat.reduceBNe,Int.reduceEq,hgr];exact q.1)):P:=h ⟨q⟩
section
attribute [local push_cast 2000] zb8 encOu List.map_cons List.map_nil zf7 zfA zf6 zfy
theorem zgO (k a c e:Int) (x:YS) (gr:Bool) (T5:TypeId) (fr5:Nat×Nat) (m:Int) (F:Own):((0<=k/\k<=255)/\(0<=a/\a<=255)/\(0<=c/\c<=255)/\(0<=e/\e<=255))->DC Tryz.prog 4 [.int .u8 k, .int .u8 a, .int .u8 c, .int .u8 e, .sl (x.map u8), .bool gr] ([loose,knP T5 fr5,knF,knA,knM m]++F) fun d G=>d = .bool true/\G=[loose,knP T5 fr5,knF,knA,knM m]++F:=by
 intro hA
 obtain ⟨hk,ha,hc,he⟩:=hA
 refine DC.bodyS (n_:=93) (show Tryz.prog.funcs[4]? = some Tryz.f4 by kernel_rfl) rfl rfl (by rfl) ?_
 simp only [env0,List.append_assoc,List.cons_append,List.nil_append]
 have kw:=ksIs [0,1,2,3,4,5,12,13,14,15,16,17,18,20,22,25,35,47]
 have ow:=zai []
 rcases hgr:gr with _ | _
 repeat' (first
  | refine g_ ?_
  | ((with_reducible refine And.intro ?_ ?_);(exact zav))
  | (refine DW.cond (by rfl) ?_ ?_<;>(first | exact i0_ | (intro hb;(try simp only [↓reduceCtorEq,not_true_eq_false,not_false_eq_true,hbs,Int.reduceBEq,Int.reduceBNe,Int.reduceEq] at hb);(try refine zet ?_))))
  | ((with_reducible refine zaa ?_ ?_)<;>(intro hb;rw [hb];revert hb;(first | exact i0_ | (intro hb;(try simp only [↓reduceCtorEq,not_true_eq_false,not_false_eq_true,hbs,Int.reduceBEq,Int.reduceBNe,Int.reduceEq] at hb);(try refine zet ?_)))))
  | ((first | refine rn_ ?_ | refine kn_ ?_)<;>(refine zet ?_))
  | ((first | refine q_ (zhq _ _ _ _) ?_ (ha:=by exact zav) (hk:=fun q=>q.1) | refine q_ (fCli_dc _ _ _ _) ?_ (ha:=by exact zav) (hk:=fun q=>q.1));refine zet ?_)
  | (refine p_ (zjs _) ?_ (ha:=by exact zav);rintro d H1 ⟨bb,s0,⟨hs0,hp0⟩,rfl,rfl⟩<;>refine zet ?_)
  | (refine p_ (zhU _ _ _ _) ?_ (ha:=by exact zav);rintro d H1 ⟨s1,⟨hs1,hp1⟩,rfl,rfl⟩<;>refine zet ?_)
  | (refine p_ (zqf _ _ _ _ _ _) ?_ (ha:=by exact zav);rintro d H1 ⟨pk,hpk,rfl,rfl⟩<;>refine zet ?_)
  | (refine p_ (zpF _ _ _ _ _) ?_ (ha:=by exact zav);rintro d H1 ⟨pk2,⟨hpk2,hkd2⟩,rfl,rfl⟩<;>refine zet ?_)
  | (refine p_ (zkm _ _ _ _ _ _ _ _ _ _) ?_ (ha:=by exact zav);rintro d H1 ⟨s2,⟨hs2,hp2⟩,rfl,rfl⟩<;>refine zet ?_)
  | (refine p_ (fX0_dc (p:=pk) _ _ _ _ _) ?_ (ha:=by exact zav);rintro d H1 ⟨s3,⟨hs3,hp3⟩,rfl,rfl⟩<;>refine zet ?_)
  | (refine p_ (fX1_dc (nm:=[107]) (kp:=0) (hd:=0) (p:=pk2) _ _ _ _ _) ?_ (ha:=by exact zav);rintro d H1 ⟨s3,⟨hs3,hp3⟩,rfl,rfl⟩<;>refine zet ?_)
  | (refine p_ (pkY_dc _ _) ?_ (ha:=by exact zav);rintro d H1 ⟨v9,rfl,rfl⟩<;>refine zet ?_)
  | (refine q_ (fN_dc (p:=pk) _ _ _ _) ?_ (ha:=by exact zav) (hk:=fun q=>q.1);refine zet ?_)
  | (refine q_ (fN_dc (p:=pk2) _ _ _ _) ?_ (ha:=by exact zav) (hk:=fun q=>q.1);refine zet ?_)
  | ((refine on_ ?_);refine zet ?_)
  | refine f_ ?_
  | ((fail_if_success (have zz:=pb));with_reducible intro pb)
  | ((fail_if_success (have zz:=eb));with_reducible intro eb)
  | ((fail_if_success (have zz:=gb));with_reducible intro gb)
  | with_reducible intro b)
 all_goals first
 | ((exact absurd rfl hb))
 | ((first | exact fin_ | refine finq_ ?_);done)
 | (trace_state;fail)
end
end
section
open Go.RowKit Go.ChangeMaps Go.ChangeShapes Go.WideShapes Go.ChangeAt Go.Joins Go.Deep
theorem zgL {x:Int} (h:(Lit.int .u8 x).wf=true):0<=x/\x<=255:=by simpa [Lit.wf,IntKind.min,IntKind.max,IntKind.bits,IntKind.signed] using h
theorem zkf:U8Extra Tryz.prog laySplit_ren:=⟨by kernel_rfl,by kernel_rfl,by kernel_rfl,by kernel_rfl,by kernel_rfl,by kernel_rfl,by kernel_rfl⟩
theorem zgE {w:World} (h:w.ShapedOpen Tryz.prog):∃ m,w.cell? ⟨3,0,none⟩=some (.int .i64 m):=cell_of_shapedOpen_int (P:=Tryz.prog) (g:=3) (t:=3) (zero:=#[.int .i64 0]) h (of_decide_eq_true (by kernel_rfl)) (by kernel_rfl) rfl (by kernel_rfl) (by kernel_rfl) Tryz.underlying3
theorem zjy {w:World} (h:laidMetH Tryz.prog Rows.brokerFreshRow.laid w):Go.Lib.Utf8Tabs 1 2 w:=by
 rw [MakeChecks.laidMetH_plain _ _ _ (by kernel_rfl)] at h
 have h1:=Go.Lib.laidMet.reads h (n := "unicode/utf8.first") (d:=Rows.laid_unicode_utf8_first) (by unfold Rows.brokerFreshRow;simp)
 have h2:=Go.Lib.laidMet.reads h (n := "unicode/utf8.acceptRanges") (d:=Rows.laid_unicode_utf8_acceptRanges) (by unfold Rows.brokerFreshRow;simp)
 rw [show Rows.laid_unicode_utf8_first=Go.Lib.firstData from Pinned.utf8First_eq] at h1
 rw [show (Rows.laid_unicode_utf8_acceptRanges:DataW Unit)=Go.Lib.acceptData from by kernel_rfl] at h2
 exact utf8Tabs_of_reads { zik with } zkf h1 h2
theorem zgs {w:World} (h:laidMetH Tryz.prog Rows.brokerFreshRow.laid w):Go.Lib.VarReads Tryz.prog w "internal/strconv.uint64pow10" (Go.Lib.tabData .u64 Go.Lib.pow10Tab):=by
 rw [MakeChecks.laidMetH_plain _ _ _ (by kernel_rfl)] at h
 have h1:=Go.Lib.laidMet.reads h (n := "internal/strconv.uint64pow10") (d:=Rows.laid_internal_strconv_uint64pow10) (by unfold Rows.brokerFreshRow;simp)
 rw [show (Rows.laid_internal_strconv_uint64pow10:DataW Unit)=Go.Lib.tabData .u64 Go.Lib.pow10Tab from by kernel_rfl] at h1
 exact h1
section
variable {H:Type} {enc:TypeId×Value->H} {W:World}
theorem zfs {x:Int} (h:0<=x/\x<=255):(((UInt8.ofNat x.toNat).toNat:Nat):Int)=x:=by simp;omega
theorem zfa:Opens Tryz.prog enc W 5 1 u8 (fun _=>True):=fun cs n y hl ht=>by
 obtain ⟨a,e,_,wf⟩:=DataW.trod_int Tryz.underlying5 ht
 subst e
 refine ⟨UInt8.ofNat a.toNat,trivial,fun o ho=>?_⟩
 have:o=0:=by omega
 subst this
 show R (stable W []) W (.int .u8 a) (.int .u8 (((UInt8.ofNat a.toNat).toNat:Nat):Int))
 rw [zfs (zgL wf)]
 exact .int _ _
end
theorem brokerFresh.walk {H:Type} {enc:TypeId×Value->H} (W:World) (base:Nat) {v0 v1 v2 v3 v4 v5:Value} {d0 d1 d2 d3 d4 d5:DataW H} {p0 p1 p2 p3 p4 p5:List MemPlace}
  (o0:Value.okWide Tryz.prog W .any base 5 v0) (h0:DataW.Trod enc Tryz.prog W 0 (fun _=>true) true 5 v0 d0 p0)
  (o1:Value.okWide Tryz.prog W .any base 5 v1) (h1:DataW.Trod enc Tryz.prog W 0 (fun _=>true) true 5 v1 d1 p1)
  (o2:Value.okWide Tryz.prog W .any base 5 v2) (h2:DataW.Trod enc Tryz.prog W 0 (fun _=>true) true 5 v2 d2 p2)
  (o3:Value.okWide Tryz.prog W .any base 5 v3) (h3:DataW.Trod enc Tryz.prog W 0 (fun _=>true) true 5 v3 d3 p3)
  (o4:Value.okWide Tryz.prog W .any base 23 v4) (h4:DataW.Trod enc Tryz.prog W 0 (fun _=>true) true 23 v4 d4 p4)
  (o5:Value.okWide Tryz.prog W .any base 4 v5) (h5:DataW.Trod enc Tryz.prog W 0 (fun _=>true) true 4 v5 d5 p5)
  (hL:laidMetH Tryz.prog Rows.brokerFreshRow.laid W) (hsh:W.ShapedOpen Tryz.prog) :
  Calls Tryz.prog 4 #[v0,v1,v2,v3,v4,v5] W fun e w'=>e = .returned (.bool true)/\Below W.heap.size W w':=by
 obtain ⟨x0,rfl,_,_,w0⟩:=open_int Tryz.underlying5 o0 h0
 obtain ⟨x1,rfl,_,_,w1⟩:=open_int Tryz.underlying5 o1 h1
 obtain ⟨x2,rfl,_,_,w2⟩:=open_int Tryz.underlying5 o2 h2
 obtain ⟨x3,rfl,_,_,w3⟩:=open_int Tryz.underlying5 o3 h3
 obtain ⟨A4,len4,cap4,rfl,hE4⟩:=zkR (C:=1) Tryz.underlying23 (by kernel_rfl) (by decide) o4 h4
 obtain ⟨x4,hl4,_,hr4⟩:=zhv (C:=1) (by decide) (fun a=>rfl) zfa hE4
 obtain ⟨x5,rfl,_,_⟩:=open_bool Tryz.underlying4 o5 h5
 obtain ⟨m,hm⟩:=zgE hsh
 obtain ⟨T5,fr,hp⟩:=zoi (zgs hL)
 have hw:=zgO x0 x1 x2 x3 x4 x5 T5 fr m [] ⟨zgL w0,zgL w1,zgL w2,zgL w3⟩
 refine DC.lawR (args:=[.int .u8 x0, .int .u8 x1, .int .u8 x2, .int .u8 x3, .sl (x4.map u8), .bool x5]) hw (zi9 (zjy hL) hm).1 zhg hp rfl fun k hk=>?_
 match k,hk with
 | 0,_=>exact .int _ _
 | 1,_=>exact .int _ _
 | 2,_=>exact .int _ _
 | 3,_=>exact .int _ _
 | 4,_=>exact hr4
 | 5,_=>exact .bool _
theorem zcp {H:Type} {enc:TypeId×Value->H} {a:Assume} {C:Checked} {os:Os} {f:FuncId} {fn:Func} {s:ChangeSpec} {conds:List PathCond} {apart fresh handsOn again:Bool} {X:World->Array Value->Prop}
  (hX:∀ (w w':World) (args:Array Value),w.heap=w'.heap->X w args->X w' args)
  (own:ownKnob C.prog.godebug=none) (started:os.Started) (noInit:C.prog.inits.idxOf? f=none) (hfn:C.prog.funcs[f]? = some fn)
  (witness:∃ (w:World) (tape:Tape) (i:Input),w.os=os/\(w.forCall tape i).Shaped C.prog/\i.vars=[]/\Input.okWide C.prog (w.forCall tape i) .any w.heap.size f i /\
    ((s.pre enc C.prog fn conds apart (w.forCall tape i).memory i.args/\X (w.forCall tape i).memory i.args)/\sizedMet enc C.prog fn (OpenSpec.ofChange s) apart (w.forCall tape i).memory i.args)/\a.holds C.prog (lone (Frame.enter C.prog f i.args .normal) [] (w.forCall tape i)))
  (contract:∀ (W:World) (base:Nat) (args:Array Value) (ds gs:List (DataW H)) (before:List MemPlace),
    (∀ (j:Nat) t v,fn.params[j]? = some t->args[j]? = some v->Value.okWide C.prog W .any base t v)->DataW.Whole enc C.prog fn.params.toList s.vars apart W args.toList ds gs before->X W args->W.ShapedOpen C.prog ->
    Calls C.prog f args W fun e W'=>∃ v,e = .returned v/\s.post enc C.prog fn apart fresh handsOn again W args v W') :
  ReturnsInHanded a C os f .any (fun w args=>(s.pre enc C.prog fn conds apart w args/\X w args)/\sizedMet enc C.prog fn (OpenSpec.ofChange s) apart w args) (s.post enc C.prog fn apart fresh handsOn again):=by
 refine returnsInHanded_of_calls own started noInit witness ?_
 intro w tape i _ hsh _ hok hpre _
 obtain ⟨_,_,_,fn',hfn',_,_,_,_,hval⟩:=hok
 obtain rfl:fn'=fn:=Option.some.inj (hfn'.symm.trans hfn)
 obtain ⟨⟨⟨ds,gs,before,hw,_⟩,hx⟩,_⟩:=hpre
 refine (contract (w.forCall tape i) w.heap.size i.args ds gs before hval (DataW.Whole.of_heap (w':=w.forCall tape i) (by rfl) hw) (hX _ _ _ (by rfl) hx) hsh).mono fun e W' ⟨v,he,hp⟩=>?_
 subst he
 exact ChangeSpec.post_blind hp
theorem brokerFresh.own:ownKnob Tryz.prog.godebug=none:=by kernel_rfl
theorem brokerFresh.laidOut:laidOutB Tryz.prog=true:=by kernel_rfl
set_option maxRecDepth 100000 in
theorem brokerFresh.lifted (os:Os) (started:os.Started) (H:Type) (enc:TypeId×Value->H) :
  ReturnsInHanded {} Tryz.checked os 4 .any (fun w args=>(Rows.brokerFreshSpec.pre enc Tryz.prog Tryz.f4 [] false w args/\laidMetH Tryz.prog Rows.brokerFreshRow.laid w)/\sizedMet enc Tryz.prog Tryz.f4 (OpenSpec.ofChange Rows.brokerFreshSpec) false w args)
   (Rows.brokerFreshSpec.post enc Tryz.prog Tryz.f4 false true false false):=by
 refine zcp (C:=Tryz.checked) (X:=fun w _=>laidMetH Tryz.prog Rows.brokerFreshRow.laid w) (fun _ _ _ hh h=>h.of_heap hh) brokerFresh.own started (by kernel_rfl) Tryz.func4
  (ChangeSpec.witness_shaped (enc:=enc) (C:=Tryz.checked) (os:=os) (X:=fun w _=>laidMetH Tryz.prog Rows.brokerFreshRow.laid w) false (World.laidAll Tryz.prog os Rows.brokerFreshRow.laid) #[.int .u8 0, .int .u8 0, .int .u8 0, .int .u8 0, .slice none 0 0, .bool false] 8 (World.laidAll_os _ _ _)
    (World.shaped_of_ZipB (by kernel_rfl) (by kernel_rfl)) (by kernel_rfl) (by kernel_rfl) (by kernel_rfl)
    (by rw [MakeChecks.laidMetH_plain _ _ _ (by kernel_rfl)];exact laidMet_laidAll _ (by kernel_rfl) (by kernel_rfl))) ?_
 intro W base args ds gs before hval0 hW hL hsh
 have hval:∀ (j:Nat) t v,Tryz.f4.params[j]? = some t->args[j]? = some v->Value.okWide Tryz.prog W .any base t v:=hval0
 have hW':=hW
 obtain ⟨p,q,hA0,hV,rfl,hfz,hnd⟩:=hW
 have hA:DataW.TrodAll enc Tryz.prog W 0 (fun _=>true) true Tryz.f4.params.toList args.toList ds p:=hA0
 rw [Tryz.params4] at hA hval
 obtain ⟨v0,vs0,d0,ds0,p0,q0,hargs,rfl,rfl,h0,r0⟩:=trodAll_cons hA
 obtain ⟨v1,vs1,d1,ds1,p1,q1,rfl,rfl,rfl,h1,r1⟩:=trodAll_cons r0
 obtain ⟨v2,vs2,d2,ds2,p2,q2,rfl,rfl,rfl,h2,r2⟩:=trodAll_cons r1
 obtain ⟨v3,vs3,d3,ds3,p3,q3,rfl,rfl,rfl,h3,r3⟩:=trodAll_cons r2
 obtain ⟨v4,vs4,d4,ds4,p4,q4,rfl,rfl,rfl,h4,r4⟩:=trodAll_cons r3
 obtain ⟨v5,vs5,d5,ds5,p5,q5,rfl,rfl,rfl,h5,r5⟩:=trodAll_cons r4
 obtain ⟨rfl,rfl,rfl⟩:=trodAll_nil r5
 obtain rfl:args = #[v0,v1,v2,v3,v4,v5]:=by cases args;simp_all
 obtain ⟨rfl,rfl⟩:=trodVars_none hV
 have k0:=h0
 have lt0:∀ x∈p0,x.block<W.heap.size:=by obtain ⟨m,hm⟩:=k0;exact DataW.trod_lt m _ _ _ hm
 have k1:=h1
 have lt1:∀ x∈p1,x.block<W.heap.size:=by obtain ⟨m,hm⟩:=k1;exact DataW.trod_lt m _ _ _ hm
 have k2:=h2
 have lt2:∀ x∈p2,x.block<W.heap.size:=by obtain ⟨m,hm⟩:=k2;exact DataW.trod_lt m _ _ _ hm
 have k3:=h3
 have lt3:∀ x∈p3,x.block<W.heap.size:=by obtain ⟨m,hm⟩:=k3;exact DataW.trod_lt m _ _ _ hm
 have k4:=h4
 have lt4:∀ x∈p4,x.block<W.heap.size:=by obtain ⟨m,hm⟩:=k4;exact DataW.trod_lt m _ _ _ hm
 have k5:=h5
 have lt5:∀ x∈p5,x.block<W.heap.size:=by obtain ⟨m,hm⟩:=k5;exact DataW.trod_lt m _ _ _ hm
 clear hA0 hval0
 refine (brokerFresh.walk W base (hval 0 5 v0 rfl rfl) h0 (hval 1 5 v1 rfl rfl) h1 (hval 2 5 v2 rfl rfl) h2 (hval 3 5 v3 rfl rfl) h3 (hval 4 23 v4 rfl rfl) h4 (hval 5 4 v5 rfl rfl) h5 hL hsh).mono fun e W' ⟨he,bel⟩=>?_
 subst he
 exact ⟨_,rfl,_,_,_,[],_,[],hW',trodAll_mk1 (shut_bool Tryz.underlying4 _),(trodAll_cons_mk (Below.trod brokerFresh.laidOut (by kernel_rfl) (of_decide_eq_true (by kernel_rfl)) k0 bel lt0) (trodAll_cons_mk (Below.trod brokerFresh.laidOut (by kernel_rfl) (of_decide_eq_true (by kernel_rfl)) k1 bel lt1) (trodAll_cons_mk (Below.trod brokerFresh.laidOut (by kernel_rfl) (of_decide_eq_true (by kernel_rfl)) k2 bel lt2) (trodAll_cons_mk (Below.trod brokerFresh.laidOut (by kernel_rfl) (of_decide_eq_true (by kernel_rfl)) k3 bel lt3) (trodAll_cons_mk (Below.trod brokerFresh.laidOut (by kernel_rfl) (of_decide_eq_true (by kernel_rfl)) k4 bel lt4) (trodAll_cons_mk (Below.trod brokerFresh.laidOut (by kernel_rfl) (of_decide_eq_true (by kernel_rfl)) k5 bel lt5) trodAll_mk0)))))),rfl,bel.frame _,fun h=>by cases h⟩
theorem and_t {a b:Bool} (h1:a=true) (h2:b=true):(a&&b)=true:=by rw [h1,h2];rfl
set_option maxHeartbeats 40000000 in
theorem brokerFresh.closed:joinedFacts Tryz.prog 4 Tryz.f4 Rows.brokerFreshSpec Rows.brokerFreshRow=true:=by
 unfold joinedFacts
 repeat' (with_reducible apply and_t)
 all_goals (as_aux_lemma=>kernel_rfl)
theorem brokerFresh.over:Rows.brokerFreshRow.holds Tryz.pinned (OpenSpec.ofChange Rows.brokerFreshSpec) :=
 OpenClaim.holds_of_wide 4 Tryz.f4 rfl rfl rfl rfl rfl rfl rfl ⟨rfl,rfl,rfl,rfl,rfl⟩ rfl rfl rfl rfl rfl (by kernel_rfl) Tryz.func4 brokerFresh.closed
  (of_decide_eq_true (by kernel_rfl)) (by unfold Func.isWrapper;first | (rw [if_pos (by decide +kernel)];kernel_rfl) | (rw [if_neg (by decide +kernel)];exact ⟨rfl,rfl⟩))
  (fun os started H enc _=>brokerFresh.lifted os started H enc)
theorem brokerFresh.plain (f:FuncId) (fn:Func) (hf:Tryz.pinned.checked.prog.funcNamed "hubbub/hubbublaw20.BrokerFresh" = some f) (hfn:Tryz.pinned.checked.prog.funcs[f]? = some fn) :
  false=Tryz.pinned.checked.prog.looks []/\∀ (j:Nat) t,fn.params[j]? = some t->Tryz.pinned.checked.prog.wantsStandIn t=false:=by
 obtain rfl:f=4:=Option.some.inj ((show Tryz.prog.funcNamed "hubbub/hubbublaw20.BrokerFresh" = some 4 by kernel_rfl).symm.trans hf) |>.symm
 obtain rfl:fn=Tryz.f4:=(Option.some.inj (Tryz.func4.symm.trans hfn)).symm
 refine ⟨by kernel_rfl,fun j t ht=>?_⟩
 rw [Tryz.params4] at ht
 have hm:t∈[5,5,5,5,23,4]:=by simpa using Array.mem_of_getElem? ht
 have hall:([5,5,5,5,23,4].all fun u=>!Tryz.prog.wantsStandIn u)=true:=by kernel_rfl
 exact (show Tryz.prog.wantsStandIn t=false by simpa using List.all_eq_true.1 hall t hm)
theorem brokerFresh.proved:Rows.BrokerFreshCardSaid :=
 Claim7.holds_tied_plain_at .later [] _ _ _ _ brokerFresh.over (fun _ h=>by cases h) (by as_aux_lemma=>kernel_rfl) (fun _ h=>by cases h) brokerFresh_row_tie rfl ⟨rfl,rfl⟩ (by as_aux_lemma=>kernel_rfl) rfl brokerFresh.plain (by as_aux_lemma=>kernel_rfl)
#print axioms brokerFresh.proved
end
end Go.Proofs.YtgekknefphagbaaGreatDoor
