/- The program's packets: the bytes behind the length; rows put together. -/
import Derived.Test.YtgekknefphagbaaGreatDoorWdx
import Derived.Test.YtgekknefphagbaaGreatDoorFxx
import Derived.Test.YtgekknefphagbaaGreatDoorJax
import Derived.KernelRfl
import Derived.Test.YtgekknefphagbaaGreatDoorItx
import Derived.Test.YtgekknefphagbaaGreatDoorSkx
import Derived.Test.YtgekknefphagbaaGreatDoorPv2x
namespace Go.Proofs.YtgekknefphagbaaGreatDoor
open Go.RowKit
set_option linter.unusedSimpArgs false
set_option linter.unusedVariables false
set_option linter.unusedSectionVars false
set_option maxHeartbeats 4000000
set_option maxRecDepth 100000
section
theorem zfH (p:Pk) (F:Own):(p.kind=3)->DC Tryz.prog 203 [.agg [.int .i64 3, .bool p.dup, .bool p.retain, .int .i64 p.qos, .int .i64 p.id, .str p.topic, .sl (p.payload.map u8), .int .i64 p.level, .str p.client, .bool p.clean, .int .i64 p.keep, .bool p.hasWill, .str p.wtopic, .sl (p.wpay.map u8), .int .i64 p.wqos, .bool p.wretain, .bool p.hasUser, .bool p.hasPass, .str p.user, .sl (p.pass.map u8), .bool p.present, .int .i64 p.code, .sl (p.subs.map encU), .sl (p.codes.map (V.int .i64))]] (([]:Own)++F) fun d G=>d = .bool (numM p)/\G=[]++F:=fun h=>by
 have:=ze1 p F trivial
 rwa [h] at this
attribute [local irreducible] DW SeqD DV DOp DC DVX
theorem zdE {p:Prop} (h:p:=by first | exact sv | (refine ⟨?_,?_⟩<;>((try simp only [List.length_append,List.length_cons,List.length_nil,zbj,zbx,List.length_map])<;>omega)) | (refine ⟨?_,?_,?_⟩<;>((try simp only [List.length_append,List.length_cons,List.length_nil,zbj,zbx,List.length_map])<;>omega)) | (simp [u8,V.one,V.n];omega) | (simp [u8,V.one,V.n]<;>fail) | fail):p:=h
theorem zdC {P Q:Prop} (q:Q) (h:Hid Q->P:=by (intro q;simp (maxSteps:=1000000) (disch:=omega) only [push_cast,↓reduceIte,reduceCtorEq,Nat.reduceAdd,Nat.reduceMul,Nat.reduceLT,Nat.reduceLeDiff,Nat.reduceEqDiff,Nat.reduceSub,Int.reduceToNat,Int.reduceLT,Int.reduceLE,Int.reduceAdd,Int.reduceSub,Int.reduceMul,Int.reduceNeg,Nat.reduceBEq,Int.reduceBEq,Int.reduceBNe,Nat.reduceBNe,Int.reduceEq,hnum,hkd,hsub,hcod];exact q.1)):P:=h ⟨q⟩
section
attribute [local push_cast 2000] zjc ziu zaS zby zbk zbj zbx
theorem wbQ_dc (p:Pk) (F:Own):(PkN p/\p.kind=3/\p.subs.length=0/\p.codes.length=0/\numM p=true)->DC Tryz.prog 151 [.agg [.int .i64 p.kind, .bool p.dup, .bool p.retain, .int .i64 p.qos, .int .i64 p.id, .str p.topic, .sl (p.payload.map u8), .int .i64 p.level, .str p.client, .bool p.clean, .int .i64 p.keep, .bool p.hasWill, .str p.wtopic, .sl (p.wpay.map u8), .int .i64 p.wqos, .bool p.wretain, .bool p.hasUser, .bool p.hasPass, .str p.user, .sl (p.pass.map u8), .bool p.present, .int .i64 p.code, .sl (p.subs.map encU), .sl (p.codes.map (V.int .i64))]] (([]:Own)++F) fun d G=>∃ v':Value,d = .ar v' ((zc0 p.topic++twoM p.id++p.payload)).length/\G = .arr 1 v' (((zc0 p.topic++twoM p.id++p.payload)).map u8)::F:=by
 intro hA
 obtain ⟨hp,hkd,hsub,hcod,hnum⟩:=hA
 refine DC.bodyS (n_:=73) (show Tryz.prog.funcs[151]? = some Tryz.f151 by kernel_rfl) rfl rfl (by rfl) ?_
 simp only [env0,List.cons_append,List.nil_append]
 have kw:=ksIs [0,1,2,3,5,7,9,10,14,24,30,36,37,38,39,48,57,58,59,60]
 have ow:=zai []
 have dw6:=drIs 6 [] [1,2,5]
 have h1:=hp.topic;have h2:=hp.payload
 repeat' (first
  | ((with_reducible refine DW.loopB 1 (X:=Nat) (fun x=>x<=0) (fun x=>[(1, .sp [.int .i64 3, .bool p.dup, .bool p.retain, .int .i64 p.qos, .int .i64 p.id, .str p.topic, .sl (p.payload.map u8), .int .i64 p.level, .str p.client, .bool p.clean, .int .i64 p.keep, .bool p.hasWill, .str p.wtopic, .sl (p.wpay.map u8), .int .i64 p.wqos, .bool p.wretain, .bool p.hasUser, .bool p.hasPass, .str p.user, .sl (p.pass.map u8), .bool p.present, .int .i64 p.code, .sl (p.subs.map encU), .sl (p.codes.map (V.int .i64))]),(3, .ar v2 (zc0 p.topic++twoM p.id).length),(36, .sl (p.subs.map encU)),(37, .int .i64 0),(38, .int .i64 x)]) (fun x=>.arr 1 v2 ((zc0 p.topic++twoM p.id).map u8)::([]:Own)) (fun x=>0) (0) ?_ ?_ ?_);exact (Nat.zero_le _);(simp [Sub,get,zbu]<;>fail);(try simp only [List.cons_append,List.nil_append]);refine pl_ ?_;intro k hk;(try simp only [List.cons_append,List.nil_append]);(try simp only at hk))
  | ((with_reducible refine DW.loopB 3 (X:=Nat) (fun x=>x<=0) (fun x=>[(1, .sp [.int .i64 3, .bool p.dup, .bool p.retain, .int .i64 p.qos, .int .i64 p.id, .str p.topic, .sl (p.payload.map u8), .int .i64 p.level, .str p.client, .bool p.clean, .int .i64 p.keep, .bool p.hasWill, .str p.wtopic, .sl (p.wpay.map u8), .int .i64 p.wqos, .bool p.wretain, .bool p.hasUser, .bool p.hasPass, .str p.user, .sl (p.pass.map u8), .bool p.present, .int .i64 p.code, .sl (p.subs.map encU), .sl (p.codes.map (V.int .i64))]),(3, .ar v2 (zc0 p.topic++twoM p.id).length),(57, .sl (p.codes.map (V.int .i64))),(58, .int .i64 0),(59, .int .i64 x)]) (fun x=>.arr 1 v2 ((zc0 p.topic++twoM p.id).map u8)::([]:Own)) (fun x=>0) (0) ?_ ?_ ?_);exact (Nat.zero_le _);(simp [Sub,get,zbu]<;>fail);(try simp only [List.cons_append,List.nil_append]);refine pl_ ?_;intro i hi;(try simp only [List.cons_append,List.nil_append]);(try simp only at hi))
  | refine g_ ?_
  | ((with_reducible refine And.intro ?_ ?_);(exact zdE))
  | (refine DW.cond (by rfl) ?_ ?_<;>(first | exact i0_ | (intro hb;(try simp only [↓reduceCtorEq,not_true_eq_false,not_false_eq_true,hbs,Int.reduceBEq,Int.reduceBNe,Int.reduceEq] at hb);(try refine zdC ?_))))
  | ((with_reducible first | refine zaa ?_ ?_ | refine zak ?_ ?_)<;>(intro hb;rw [hb];revert hb;(first | exact i0_ | (intro hb;(try simp only [↓reduceCtorEq,not_true_eq_false,not_false_eq_true,hbs,Int.reduceBEq,Int.reduceBNe,Int.reduceEq] at hb);(try refine zdC ?_)))))
  | ((first | refine rn_ ?_ | refine dn_ ?_ | refine kn_ ?_)<;>(refine zdC ?_))
  | ((refine dm_ ?_);(first | (refine v_ (zfH _ _) ?_ (ha:=by exact zdE) (hk:=fun q=>q.1);refine zdC ?_)))
  | ((refine von_ ?_);refine zdC ?_)
  | (refine q_ (zfH _ _) ?_ (ha:=by exact zdE) (hk:=fun q=>q.1);refine zdC ?_)
  | (refine p_ (ziv _ _) ?_ (ha:=by exact zdE);rintro d H1 ⟨v1,rfl,rfl⟩<;>refine zdC ?_)
  | (refine p_ (znU _ _ _ _ _) ?_ (ha:=by exact zdE);rintro d H1 ⟨v2,rfl,rfl⟩<;>refine zdC ?_)
  | ((refine on_ ?_);refine zdC ?_)
  | refine f_ ?_
  | refine vm_ ?_
  | with_reducible intro b)
 all_goals first
 | ((rw [<-List.map_append]);(try rw [List.append_assoc]);(refine ⟨_,_,le.of_eq ?_,⟨b,rfl,rfl⟩,?_⟩);(focus (congr 1;omega));(exact sub_);done)
 | ((rw [<-List.map_append]);(try rw [List.append_assoc]);(refine ⟨_,_,le.of_eq ?_,⟨b,rfl,rfl⟩,?_⟩);(focus rfl);(exact sub_);done)
 | (trace_state;fail)
end
theorem zdQ {p:Prop} (h:p:=by first | exact sv | (refine ⟨?_,?_⟩<;>((try simp only [List.length_append,List.length_cons,List.length_nil,zbj,zbx,List.length_map])<;>omega)) | (refine ⟨?_,?_,?_⟩<;>((try simp only [List.length_append,List.length_cons,List.length_nil,zbj,zbx,List.length_map])<;>omega)) | (simp [u8,V.one,V.n];omega) | (simp [u8,V.one,V.n]<;>fail) | fail):p:=h
section
attribute [local push_cast 2000] zjc ziu zaS zby zbk zbj zbx
theorem wbZ_dc (p:Pk) (F:Own):(PkN p/\p.kind=3/\p.subs.length=0/\p.codes.length=0/\numM p=false)->DC Tryz.prog 151 [.agg [.int .i64 p.kind, .bool p.dup, .bool p.retain, .int .i64 p.qos, .int .i64 p.id, .str p.topic, .sl (p.payload.map u8), .int .i64 p.level, .str p.client, .bool p.clean, .int .i64 p.keep, .bool p.hasWill, .str p.wtopic, .sl (p.wpay.map u8), .int .i64 p.wqos, .bool p.wretain, .bool p.hasUser, .bool p.hasPass, .str p.user, .sl (p.pass.map u8), .bool p.present, .int .i64 p.code, .sl (p.subs.map encU), .sl (p.codes.map (V.int .i64))]] (([]:Own)++F) fun d G=>∃ v':Value,d = .ar v' ((zc0 p.topic++p.payload)).length/\G = .arr 1 v' (((zc0 p.topic++p.payload)).map u8)::F:=by
 intro hA
 obtain ⟨hp,hkd,hsub,hcod,hnum⟩:=hA
 refine DC.bodyS (n_:=73) (show Tryz.prog.funcs[151]? = some Tryz.f151 by kernel_rfl) rfl rfl (by rfl) ?_
 simp only [env0,List.cons_append,List.nil_append]
 have kw:=ksIs [0,1,2,3,5,7,9,10,14,24,30,36,37,38,39,48,57,58,59,60]
 have ow:=zai []
 have dw6:=drIs 6 [] [1,2,5]
 have h1:=hp.topic;have h2:=hp.payload
 repeat' (first
  | ((with_reducible refine DW.loopB 1 (X:=Nat) (fun x=>x<=0) (fun x=>[(1, .sp [.int .i64 3, .bool p.dup, .bool p.retain, .int .i64 p.qos, .int .i64 p.id, .str p.topic, .sl (p.payload.map u8), .int .i64 p.level, .str p.client, .bool p.clean, .int .i64 p.keep, .bool p.hasWill, .str p.wtopic, .sl (p.wpay.map u8), .int .i64 p.wqos, .bool p.wretain, .bool p.hasUser, .bool p.hasPass, .str p.user, .sl (p.pass.map u8), .bool p.present, .int .i64 p.code, .sl (p.subs.map encU), .sl (p.codes.map (V.int .i64))]),(3, .ar v1 (zc0 p.topic).length),(36, .sl (p.subs.map encU)),(37, .int .i64 0),(38, .int .i64 x)]) (fun x=>.arr 1 v1 ((zc0 p.topic).map u8)::([]:Own)) (fun x=>0) (0) ?_ ?_ ?_);exact (Nat.zero_le _);(simp [Sub,get,zbu]<;>fail);(try simp only [List.cons_append,List.nil_append]);refine pl_ ?_;intro k hk;(try simp only [List.cons_append,List.nil_append]);(try simp only at hk))
  | ((with_reducible refine DW.loopB 3 (X:=Nat) (fun x=>x<=0) (fun x=>[(1, .sp [.int .i64 3, .bool p.dup, .bool p.retain, .int .i64 p.qos, .int .i64 p.id, .str p.topic, .sl (p.payload.map u8), .int .i64 p.level, .str p.client, .bool p.clean, .int .i64 p.keep, .bool p.hasWill, .str p.wtopic, .sl (p.wpay.map u8), .int .i64 p.wqos, .bool p.wretain, .bool p.hasUser, .bool p.hasPass, .str p.user, .sl (p.pass.map u8), .bool p.present, .int .i64 p.code, .sl (p.subs.map encU), .sl (p.codes.map (V.int .i64))]),(3, .ar v1 (zc0 p.topic).length),(57, .sl (p.codes.map (V.int .i64))),(58, .int .i64 0),(59, .int .i64 x)]) (fun x=>.arr 1 v1 ((zc0 p.topic).map u8)::([]:Own)) (fun x=>0) (0) ?_ ?_ ?_);exact (Nat.zero_le _);(simp [Sub,get,zbu]<;>fail);(try simp only [List.cons_append,List.nil_append]);refine pl_ ?_;intro i hi;(try simp only [List.cons_append,List.nil_append]);(try simp only at hi))
  | refine g_ ?_
  | ((with_reducible refine And.intro ?_ ?_);(exact zdQ))
  | (refine DW.cond (by rfl) ?_ ?_<;>(first | exact i0_ | (intro hb;(try simp only [↓reduceCtorEq,not_true_eq_false,not_false_eq_true,hbs,Int.reduceBEq,Int.reduceBNe,Int.reduceEq] at hb);(try refine zdC ?_))))
  | ((with_reducible first | refine zaa ?_ ?_ | refine zak ?_ ?_)<;>(intro hb;rw [hb];revert hb;(first | exact i0_ | (intro hb;(try simp only [↓reduceCtorEq,not_true_eq_false,not_false_eq_true,hbs,Int.reduceBEq,Int.reduceBNe,Int.reduceEq] at hb);(try refine zdC ?_)))))
  | ((first | refine rn_ ?_ | refine dn_ ?_ | refine kn_ ?_)<;>(refine zdC ?_))
  | ((refine dm_ ?_);(first | (refine v_ (zfH _ _) ?_ (ha:=by exact zdQ) (hk:=fun q=>q.1);refine zdC ?_)))
  | ((refine von_ ?_);refine zdC ?_)
  | (refine q_ (zfH _ _) ?_ (ha:=by exact zdQ) (hk:=fun q=>q.1);refine zdC ?_)
  | (refine p_ (ziv _ _) ?_ (ha:=by exact zdQ);rintro d H1 ⟨v1,rfl,rfl⟩<;>refine zdC ?_)
  | (refine p_ (znU _ _ _ _ _) ?_ (ha:=by exact zdQ);rintro d H1 ⟨v2,rfl,rfl⟩<;>refine zdC ?_)
  | ((refine on_ ?_);refine zdC ?_)
  | refine f_ ?_
  | refine vm_ ?_
  | with_reducible intro b)
 all_goals first
 | ((rw [<-List.map_append]);(try rw [List.append_assoc]);(refine ⟨_,_,le.of_eq ?_,⟨b,rfl,rfl⟩,?_⟩);(focus (congr 1;omega));(exact sub_);done)
 | ((rw [<-List.map_append]);(try rw [List.append_assoc]);(refine ⟨_,_,le.of_eq ?_,⟨b,rfl,rfl⟩,?_⟩);(focus rfl);(exact sub_);done)
 | (trace_state;fail)
end
theorem zeK {p:Prop} (h:p:=by first | exact sv | (refine ⟨?_,?_⟩<;>((try simp only [List.length_append,List.length_cons,List.length_nil,zbj,zbx,List.length_map])<;>omega)) | (refine ⟨?_,?_,?_⟩<;>((try simp only [List.length_append,List.length_cons,List.length_nil,zbj,zbx,List.length_map])<;>omega)) | (simp [u8,V.one,V.n];omega) | (simp [u8,V.one,V.n]<;>fail) | fail):p:=h
theorem zeu {P Q:Prop} (q:Q) (h:Hid Q->P:=by (intro q;simp (maxSteps:=1000000) (disch:=omega) only [push_cast,↓reduceIte,reduceCtorEq,Nat.reduceAdd,Nat.reduceMul,Nat.reduceLT,Nat.reduceLeDiff,Nat.reduceEqDiff,Nat.reduceSub,Int.reduceToNat,Int.reduceLT,Int.reduceLE,Int.reduceAdd,Int.reduceSub,Int.reduceMul,Int.reduceNeg,Nat.reduceBEq,Int.reduceBEq,Int.reduceBNe,Nat.reduceBNe,Int.reduceEq,hnum,hkd,hsub];exact q.1)):P:=h ⟨q⟩
section
attribute [local push_cast 2000] zjc ziu zaS zby zbk zbj zbx
theorem wbA_dc (p:Pk) (F:Own):(PkN p/\(p.kind=4\/p.kind=5\/p.kind=6\/p.kind=7\/p.kind=9\/p.kind=11)/\p.subs.length=0/\p.payload.length=0/\numM p=true)->DC Tryz.prog 151 [.agg [.int .i64 p.kind, .bool p.dup, .bool p.retain, .int .i64 p.qos, .int .i64 p.id, .str p.topic, .sl (p.payload.map u8), .int .i64 p.level, .str p.client, .bool p.clean, .int .i64 p.keep, .bool p.hasWill, .str p.wtopic, .sl (p.wpay.map u8), .int .i64 p.wqos, .bool p.wretain, .bool p.hasUser, .bool p.hasPass, .str p.user, .sl (p.pass.map u8), .bool p.present, .int .i64 p.code, .sl (p.subs.map encU), .sl (p.codes.map (V.int .i64))]] (([]:Own)++F) fun d G=>∃ v':Value,d = .ar v' ((twoM p.id++p.codes.map zb0)).length/\G = .arr 1 v' (((twoM p.id++p.codes.map zb0)).map u8)::F:=by
 intro hA
 obtain ⟨hp,hkk,hsub,hpl,hnum⟩:=hA
 refine DC.bodyS (n_:=73) (show Tryz.prog.funcs[151]? = some Tryz.f151 by kernel_rfl) rfl rfl (by rfl) ?_
 simp only [env0,List.cons_append,List.nil_append]
 have kw:=ksIs [0,1,2,3,5,7,9,10,14,24,30,36,37,38,39,48,57,58,59,60]
 have ow:=zai []
 have dw6:=drIs 6 [] [1,2,5]
 have s2:=hp.codes
 have hkd:True:=trivial
 repeat' (first
  | ((with_reducible refine DW.loopB 1 (X:=Nat) (fun x=>x<=0) (fun x=>[(1, .sp [.int .i64 p.kind, .bool p.dup, .bool p.retain, .int .i64 p.qos, .int .i64 p.id, .str p.topic, .sl (p.payload.map u8), .int .i64 p.level, .str p.client, .bool p.clean, .int .i64 p.keep, .bool p.hasWill, .str p.wtopic, .sl (p.wpay.map u8), .int .i64 p.wqos, .bool p.wretain, .bool p.hasUser, .bool p.hasPass, .str p.user, .sl (p.pass.map u8), .bool p.present, .int .i64 p.code, .sl (p.subs.map encU), .sl (p.codes.map (V.int .i64))]),(3, .ar v1 (twoM p.id).length),(36, .sl (p.subs.map encU)),(37, .int .i64 0),(38, .int .i64 x)]) (fun x=>.arr 1 v1 ((twoM p.id).map u8)::([]:Own)) (fun x=>0) (0) ?_ ?_ ?_);exact (Nat.zero_le _);(simp [Sub,get,zbu]<;>fail);(try simp only [List.cons_append,List.nil_append]);refine pl_ ?_;intro k hk;(try simp only [List.cons_append,List.nil_append]);(try simp only at hk))
  | ((with_reducible refine DW.loopB 3 (X:=Nat×Value×YSw) (fun x=>x.1<=p.codes.length/\x.2.2=twoM p.id++(p.codes.take x.1).map zb0/\x.2.2.length<=2+x.1) (fun x=>[(1, .sp [.int .i64 p.kind, .bool p.dup, .bool p.retain, .int .i64 p.qos, .int .i64 p.id, .str p.topic, .sl (p.payload.map u8), .int .i64 p.level, .str p.client, .bool p.clean, .int .i64 p.keep, .bool p.hasWill, .str p.wtopic, .sl (p.wpay.map u8), .int .i64 p.wqos, .bool p.wretain, .bool p.hasUser, .bool p.hasPass, .str p.user, .sl (p.pass.map u8), .bool p.present, .int .i64 p.code, .sl (p.subs.map encU), .sl (p.codes.map (V.int .i64))]),(3, .ar x.2.1 x.2.2.length),(57, .sl (p.codes.map (V.int .i64))),(58, .int .i64 p.codes.length),(59, .int .i64 x.1)]) (fun x=>.arr 1 x.2.1 (x.2.2.map u8)::([]:Own)) (fun x=>p.codes.length - x.1) ((0,v1,twoM p.id)) ?_ ?_ ?_);exact (⟨Nat.zero_le _,by simp,by simp [zbj]⟩);(simp [Sub,get,zbu]<;>fail);(try simp only [List.cons_append,List.nil_append]);refine pl_ ?_;intro ⟨i,z,m⟩ ⟨hi,hme,hmi⟩;(try simp only [List.cons_append,List.nil_append]);(try simp only at hi hme hmi))
  | refine g_ ?_
  | ((with_reducible refine And.intro ?_ ?_);(exact zeK))
  | (refine DW.cond (by rfl) ?_ ?_<;>(first | exact i0_ | (intro hb;(try simp only [↓reduceCtorEq,not_true_eq_false,not_false_eq_true,hbs,Int.reduceBEq,Int.reduceBNe,Int.reduceEq] at hb);(try refine zeu ?_))))
  | ((with_reducible first | refine zaa ?_ ?_ | refine zak ?_ ?_)<;>(intro hb;rw [hb];revert hb;(first | exact i0_ | (intro hb;(try simp only [↓reduceCtorEq,not_true_eq_false,not_false_eq_true,hbs,Int.reduceBEq,Int.reduceBNe,Int.reduceEq] at hb);(try refine zeu ?_)))))
  | ((first | refine rn_ ?_ | refine dn_ ?_ | refine kn_ ?_)<;>(refine zeu ?_))
  | ((refine dm_ ?_);(first | (refine v_ (ze1 _ _) ?_ (ha:=by exact zeK) (hk:=fun q=>q.1);refine zeu ?_)))
  | ((refine von_ ?_);refine zeu ?_)
  | (refine q_ (ze1 _ _) ?_ (ha:=by exact zeK) (hk:=fun q=>q.1);refine zeu ?_)
  | (refine p_ (zkX _ _) ?_ (ha:=by exact zeK);rintro d H1 ⟨v1,rfl,rfl⟩<;>refine zeu ?_)
  | ((refine on_ ?_);refine zeu ?_)
  | refine f_ ?_
  | refine vm_ ?_
  | with_reducible intro b)
 all_goals first
 | ((have hii:i=p.codes.length:=by omega);(subst hii);(rw [List.take_of_length_le (Nat.le_refl _)] at hme);(rw [List.length_eq_zero_iff.1 hpl]);(simp only [List.map_nil,List.append_nil,List.length_nil,Nat.add_zero]);(rw [hme]);(refine ⟨_,_,le.of_eq ?_,⟨b,rfl,rfl⟩,?_⟩);(focus (congr 1;simp [zbj]));(exact sub_);done)
 | (refine ⟨(i+1,b,m++[zb0 (p.codes.getD i default)]),⟨by (try simp only);omega,by (rw [codes_s (by omega),hme];simp),by ((try simp only [List.length_append,List.length_cons,List.length_nil,zbj,zbx,List.length_map])<;>omega)⟩,by (try simp only);omega,by simp [Sub,get],?_⟩;((try dsimp only);(exact sub_));done)
 | (trace_state;fail)
end
theorem zgc {p:Prop} (h:p:=by first | exact sv | (refine ⟨?_,?_⟩<;>((try simp only [List.length_append,List.length_cons,List.length_nil,zbj,zbx,List.length_map])<;>omega)) | (refine ⟨?_,?_,?_⟩<;>((try simp only [List.length_append,List.length_cons,List.length_nil,zbj,zbx,List.length_map])<;>omega)) | (simp [u8,V.one,V.n];omega) | (simp [u8,V.one,V.n]<;>fail) | fail):p:=h
section
attribute [local push_cast 2000] zjc ziu zaS zby zbk zbj zbx
theorem wb2_dc (p:Pk) (F:Own):(p.kind=2)->DC Tryz.prog 151 [.agg [.int .i64 p.kind, .bool p.dup, .bool p.retain, .int .i64 p.qos, .int .i64 p.id, .str p.topic, .sl (p.payload.map u8), .int .i64 p.level, .str p.client, .bool p.clean, .int .i64 p.keep, .bool p.hasWill, .str p.wtopic, .sl (p.wpay.map u8), .int .i64 p.wqos, .bool p.wretain, .bool p.hasUser, .bool p.hasPass, .str p.user, .sl (p.pass.map u8), .bool p.present, .int .i64 p.code, .sl (p.subs.map encU), .sl (p.codes.map (V.int .i64))]] (([]:Own)++F) fun d G=>d = .sl ([zb0 (if p.present=true then 1 else 0),zb0 p.code].map u8)/\G=[]++F:=by
 intro hA
 have hkd:=hA
 refine DC.bodyS (n_:=73) (show Tryz.prog.funcs[151]? = some Tryz.f151 by kernel_rfl) rfl rfl (by rfl) ?_
 simp only [env0,List.cons_append,List.nil_append]
 have kw:=ksIs [0,1,2,3,5,7,9,10,14,24,30,36,37,38,39,48,57,58,59,60]
 have ow:=zai []
 have dw6:=drIs 6 [] [1,2,5]
 have hnum:True:=trivial
 have hsub:True:=trivial
 repeat' (first
  | refine g_ ?_
  | ((with_reducible refine And.intro ?_ ?_);(exact zgc))
  | (refine DW.cond (by rfl) ?_ ?_<;>(first | exact i0_ | (intro hb;(try simp only [↓reduceCtorEq,not_true_eq_false,not_false_eq_true,hbs,Int.reduceBEq,Int.reduceBNe,Int.reduceEq] at hb);(try refine zeu ?_))))
  | ((with_reducible first | refine zaa ?_ ?_ | refine zak ?_ ?_)<;>(intro hb;rw [hb];revert hb;(first | exact i0_ | (intro hb;(try simp only [↓reduceCtorEq,not_true_eq_false,not_false_eq_true,hbs,Int.reduceBEq,Int.reduceBNe,Int.reduceEq] at hb);(try refine zeu ?_)))))
  | ((first | refine rn_ ?_ | refine dn_ ?_ | refine kn_ ?_)<;>(refine zeu ?_))
  | ((refine dm_ ?_);(first | (refine v_ (zfJ _ _ _) ?_ (ha:=by exact zgc) (hk:=fun q=>q.1);refine zeu ?_)))
  | ((refine von_ ?_);refine zeu ?_)
  | (refine q_ (zfJ _ _ _) ?_ (ha:=by exact zgc) (hk:=fun q=>q.1);refine zeu ?_)
  | ((refine on_ ?_);refine zeu ?_)
  | refine f_ ?_
  | refine vm_ ?_
  | with_reducible intro b)
 all_goals first
 | ((rw [show V.int .u8 (if p.present=true then 1 else 0)=u8 (zb0 (if p.present=true then 1 else 0)) from u8_bW (by split<;>omega),zdy]);(first | exact fin_ | refine finq_ ?_);done)
 | (trace_state;fail)
end
theorem zkk (F:Own):True->DC Tryz.prog 203 [.agg [.int .i64 13, .bool false, .bool false, .int .i64 0, .int .i64 0, .str [], .sl [], .int .i64 0, .str [], .bool false, .int .i64 0, .bool false, .str [], .sl [], .int .i64 0, .bool false, .bool false, .bool false, .str [], .sl [], .bool false, .int .i64 0, .sl [], .sl []]] (([]:Own)++F) fun d G=>d = .bool false/\G=[]++F:=fun _=>ze1 (ackP 13 0) F trivial
theorem wb13_dc  (F:Own):(True)->DC Tryz.prog 151 [.agg [.int .i64 13, .bool false, .bool false, .int .i64 0, .int .i64 0, .str [], .sl [], .int .i64 0, .str [], .bool false, .int .i64 0, .bool false, .str [], .sl [], .int .i64 0, .bool false, .bool false, .bool false, .str [], .sl [], .bool false, .int .i64 0, .sl [], .sl []]] (([]:Own)++F) fun d G=>d = .sl []/\G=[]++F:=by
 intro hA
 refine DC.bodyS (n_:=73) (show Tryz.prog.funcs[151]? = some Tryz.f151 by kernel_rfl) rfl rfl (by rfl) ?_
 simp only [env0,List.cons_append,List.nil_append]
 have kw:=ksIs [0,1,2,3,5,7,9,10,14,24,30,36,37,38,39,48,57,58,59,60]
 have ow:=zai []
 have dw6:=drIs 6 [] [1,2,5]
 repeat' (first
  | ((with_reducible refine DW.loopB 1 (X:=Nat) (fun x=>x<=0) (fun x=>[(1, .sp [.int .i64 13, .bool false, .bool false, .int .i64 0, .int .i64 0, .str [], .sl [], .int .i64 0, .str [], .bool false, .int .i64 0, .bool false, .str [], .sl [], .int .i64 0, .bool false, .bool false, .bool false, .str [], .sl [], .bool false, .int .i64 0, .sl [], .sl []]),(3, .gs (.slice none 0 0) []),(36, .sl []),(37, .int .i64 0),(38, .int .i64 x)]) (fun x=>([]:Own)) (fun x=>0) (0) ?_ ?_ ?_);exact (Nat.zero_le _);(simp [Sub,get,zbu]<;>fail);(try simp only [List.cons_append,List.nil_append]);refine pl_ ?_;intro k hk;(try simp only [List.cons_append,List.nil_append]);(try simp only at hk))
  | ((with_reducible refine DW.loopB 3 (X:=Nat) (fun x=>x<=0) (fun x=>[(1, .sp [.int .i64 13, .bool false, .bool false, .int .i64 0, .int .i64 0, .str [], .sl [], .int .i64 0, .str [], .bool false, .int .i64 0, .bool false, .str [], .sl [], .int .i64 0, .bool false, .bool false, .bool false, .str [], .sl [], .bool false, .int .i64 0, .sl [], .sl []]),(3, .gs (.slice none 0 0) []),(57, .sl []),(58, .int .i64 0),(59, .int .i64 x)]) (fun x=>([]:Own)) (fun x=>0) (0) ?_ ?_ ?_);exact (Nat.zero_le _);(simp [Sub,get,zbu]<;>fail);(try simp only [List.cons_append,List.nil_append]);refine pl_ ?_;intro k hk;(try simp only [List.cons_append,List.nil_append]);(try simp only at hk))
  | refine g_ ?_
  | ((with_reducible refine And.intro ?_ ?_);(exact sv))
  | (refine DW.cond (by rfl) ?_ ?_<;>(first | exact i0_ | (refine ic_ ?_;intro hb)))
  | ((with_reducible first | refine zaa ?_ ?_ | refine zak ?_ ?_)<;>(intro hb;rw [hb];revert hb;(first | exact i0_ | (refine i_ ?_;intro hb))))
  | refine r_ ?_
  | refine d_ ?_
  | refine k_ ?_
  | ((refine dm_ ?_);(first | (refine v_ (zkk _) ?_)))
  | refine vo_ ?_
  | (refine q_ (zkk _) ?_)
  | refine o_ ?_
  | refine f_ ?_
  | refine vm_ ?_
  | with_reducible intro b)
 (first | exact fin_ | refine finq_ ?_)
 all_goals rfl
end
section
theorem DC.mkeysI (he:zdA Tryz.prog 51=true) (mk:Nat) (F:Own):True ->
  DC Tryz.prog 51 [.raw (.map (some mk))] (([]:Own)++F) fun d G=>∃ nb,d = .fn (.func (layKeysI_ren.f 10)) [] [.raw (.pointer (some ⟨nb,0,none⟩))]/\G = .row nb (.cells #[.map (some mk)] (layKeysI_ren.t 23))::F:=fun _=>by
 refine ⟨he,fun xs w hs hsz hr=>?_⟩
 have h0:=hr 0 (by simp)
 obtain ⟨x0,rfl⟩:=zfw hsz
 have h0:R (stable w (([]:Own)++F)) w x0 (.raw (.map (some mk))):=h0
 cases h0
 refine (callsIn_wide.1 (AnyZI.keys_in layKeysI Fence.wide 5 trivial rfl (some mk) w)).mono ?_
 rintro e w' ⟨rfl,rfl⟩
 have sw:=hs.add (w':=w.alloc (.cells #[.map (some mk)] (layKeysI_ren.t 23))) (e1:=.row w.heap.size (.cells #[.map (some mk)] (layKeysI_ren.t 23))) rfl rfl rfl (by simp) (fun b hb=>Below.heap_alloc w _ b hb) (fun b h=>Nat.le_of_eq h.symm) (fun _=>heap_alloc_new w _)
 refine ⟨_, .fn (.func (layKeysI_ren.f 10)) [] [.raw (.pointer (some ⟨w.heap.size,0,none⟩))],_,rfl,sw.1,sw.2,?_,w.heap.size,rfl,rfl⟩
 exact .fn _ _ _ _ _ rfl (fun _ h=>absurd h (Nat.not_lt_zero _)) rfl (fun k hk=>by
  match k,hk with
  | 0,_=>exact .raw _)
theorem zn3 {w:World} {S:Addr->Prop} {mk:Nat} {l:List (Int×Nat)} {ty_:TypeId} (hu:Tryz.prog.underlying ty_=some (.int .i64)) (h:(Ent.map mk (entM (V.int .i64) pv l)).holds S w) (hn:(l.map (·.1)).Nodup) (hz:l.length<=1000000000) (hk:∀ x∈l,-9223372036854775808<=x.1/\x.1<=9223372036854775807) :
  ∃ D:DataW Unit,w.ownsMap Tryz.prog ty_ RU mk l.length D/\Maps.size D=l.length/\(intKeys D).Perm (l.map (·.1)):=by
 obtain ⟨es,clock,h1,h2,h3,h4,h5⟩:=h
 rw [za7] at h2 h3
 have hkey:∀ k,(hk:k<l.length)->(es.getD k default).key=encZ l[k].1:=fun k hk=>by
  have:=(h3 k hk).1
  have e:((entM (V.int .i64) pv l).getD k (.any, .any)).1 = .int .i64 l[k].1:=by simp [entM,List.getD_eq_getElem?_getD,hk]
  rw [e] at this
  generalize (es.getD k default).key=u at this
  cases this;rfl
 have hkeys:es.toList.map (·.key)=l.map fun x=>encZ x.1:=by
  apply List.ext_getElem
  · simp [h2]
  · intro i h1' h2'
    have hi:i<l.length:=by simpa using h2'
    have:=hkey i hi
    have hi':i<es.size:=by omega
    simp only [List.getElem_map,Array.getElem_toList]
    rw [<-this]
    simp [Array.getD_eq_getD_getElem?,hi']
 have hrd:∀ x∈es.toList,∃ y,y∈l/\x.key=encZ y.1:=fun x hx=>by
  have:x.key∈es.toList.map (·.key):=List.mem_map.2 ⟨x,hx,rfl⟩
  rw [hkeys] at this
  obtain ⟨y,hy,e⟩:=List.mem_map.1 this
  exact ⟨y,hy,e.symm⟩
 have hko:∀ y∈l,keyOf Tryz.prog ty_ (encZ y.1)=some (.int .i64 y.1):=fun y hy=>by
  have hb:=hk y hy
  have hw:(Lit.int .i64 y.1).wf=true:=by
   simp only [Lit.wf,IntKind.min,IntKind.max,IntKind.bits,IntKind.signed]
   simp
   omega
  simp [keyOf,hu,mapKey,encZ,hw]
 have hrg:∀ x∈es.toList,∃ y∈l,Go.WideElems.rd Tryz.prog ty_ RU x=some (.int .i64 y.1, .lit (.bool true))/\x.key=encZ y.1:=fun x hx=>by
  obtain ⟨y,hy,e⟩:=hrd x hx
  refine ⟨y,hy,?_,e⟩
  unfold Go.WideElems.rd
  rw [e,hko y hy];rfl
 refine ⟨_,⟨es,clock,h1,⟨?_,⟨fun x hx=>?_,?_,?_⟩,fun x hx=>?_⟩,by omega,rfl⟩,?_,?_⟩
 · unfold maxLen;omega
 · obtain ⟨i,hi,rfl⟩:=List.getElem_of_mem hx
   have hi':i<es.size:=by simpa using hi
   have:=h5 i hi'
   simpa [Array.getD_eq_getD_getElem?,hi'] using this
 · rw [List.Nodup,List.pairwise_map]
   exact (zee h4).imp fun h=>by omega
 · rw [hkeys]
   rw [List.Nodup,List.pairwise_map] at hn ⊢
   exact hn.imp fun hne e=>hne (encZ_inj e)
 · obtain ⟨y,_,e,_⟩:=hrg x hx
   exact ⟨_,e⟩
 · show ((es.toList.map (Go.WideElems.rg Tryz.prog ty_ RU)).foldr DataW.insert []).length=l.length
   rw [(Go.WideShapes.sorted_perm _).length_eq];simp [h2]
 · show (((es.toList.map (Go.WideElems.rg Tryz.prog ty_ RU)).foldr DataW.insert []).map fun p=>Go.intOf p.1).Perm (l.map (·.1))
   refine ((Go.WideShapes.sorted_perm _).map _).trans (List.Perm.of_eq ?_)
   rw [List.map_map]
   have e1:es.toList.map ((fun p:Lit×DataW Unit=>Go.intOf p.1) ∘ Go.WideElems.rg Tryz.prog ty_ RU)=(es.toList.map (·.key)).map fun v=>match v with | .int _ a=>a | _=>0:=by
    rw [List.map_map]
    refine List.map_congr_left fun x hx=>?_
    obtain ⟨y,_,e,ek⟩:=hrg x hx
    simp only [Function.comp]
    unfold Go.WideElems.rg
    rw [e,ek]
    simp [Go.intOf,encZ]
   rw [e1,hkeys,List.map_map]
   refine List.map_congr_left fun x _=>?_
   simp [encZ]
theorem zmM {w w':World} {H:Own} {T:TypeId} {v:Value} {l:List Int} (hs:Sim w H) (ho:w'.ownsRow w.heap.size T 1 v l.length (l.map encZ)):R (stable w' H) w' v (.sl (l.map (V.int .i64))):=by
 obtain ⟨_,⟨rfl,hz⟩ | ⟨g,cap,cur,rfl,hb,hg,hc,_,hsz,htk⟩⟩:=ho
 · obtain rfl:l=[]:=List.length_eq_zero_iff.1 hz
   exact .sl none 0 0 [] 1 rfl (Nat.le_refl _) (fun _=>rfl) (fun _ h=>(nomatch h)) (fun _ h=>absurd h (Nat.not_lt_zero _)) (fun _ _ _ h=>nomatch h) (fun _ _ _ h=>nomatch h)
 · have hcell:∀ i,(hi:i<l.length)->zaP w' ⟨g,i,none⟩=encZ l[i]/\(w'.cell? ⟨g,i,none⟩).isSome=true:=fun i hi=>by
    have hi2:i<cur.size:=by omega
    have e:cur[i]=encZ l[i]:=by
     have:(cur.toList.take (l.length * 1))[i]? = (l.map encZ)[i]?:=by rw [htk]
     rw [List.getElem?_take,if_pos (by omega),List.getElem?_map,List.getElem?_eq_getElem hi] at this
     simpa [hi2] using this
    have ec:w'.cell? ⟨g,i,none⟩=some (encZ l[i]):=by simp [World.cell?,hg,hi2,e]
    exact ⟨by unfold zaP;rw [ec];rfl,by rw [ec];rfl⟩
   refine .sl (some ⟨g,0,none⟩) l.length cap (l.map (V.int .i64)) 1 (by simp) hc (fun h=>nomatch h) (fun b hb _=>by cases hb;rfl) (fun i hi=>?_) (fun b i k hbb hi hk=>?_) (fun b i k hbb hi hk=>?_)
   · have hi':i<l.length:=by simpa using hi
     simp [List.getD_eq_getElem?_getD,hi',V.n]
   · cases hbb
     have hi':i<l.length:=by simpa using hi
     obtain rfl:k=0:=by omega
     refine ⟨by simpa using (hcell i hi').2,fun e he ha=>?_⟩
     have:=zhE hs he ha
     simp only at this
     omega
   · cases hbb
     have hi':i<l.length:=by simpa using hi
     obtain rfl:k=0:=by omega
     have e2:(l.map (V.int .i64)).getD i .any = .int .i64 l[i]:=by rw [List.getD_eq_getElem?_getD,List.getElem?_map,List.getElem?_eq_getElem hi'];rfl
     rw [e2]
     show R _ _ (zaP w' ⟨g,0+i * 1+0,none⟩) (.int .i64 l[i])
     rw [show 0+i * 1+0=i by omega,(hcell i hi').1]
     exact .int _ _
theorem zok (m:Nat):AnyZI.SortsIn Tryz.prog laySortedI_ren Fence.wide m :=
 ⟨fun blk off cap ss W hH hblk hsz=>callsIn_wide.2 (Any.slices_Sort_int laySi blk off cap ss W hH hblk hsz),
  fun p cap W=>callsIn_wide.2 (Any.slices_Sort_int_none laySi p cap W)⟩
theorem DC.sortedKeysI (he:zdA Tryz.prog 50=true) (he1:∀ args w,(callFunc (laySortedI_ren.f 9) args).run Tryz.prog w = .ok (.enter (laySortedI_ren.f 9) args) w) (he2:∀ args w,(callFunc (layKeysI_ren.f 10) args).run Tryz.prog w = .ok (.enter (layKeysI_ren.f 10) args) w)
  (mk nb:Nat) (l:List (Int×Nat)) (F:Own):(l.map (·.1)).Nodup/\l.length<=1000000000/\(∀ x∈l,-9223372036854775808<=x.1/\x.1<=9223372036854775807) ->
  DC Tryz.prog 50 [.fn (.func (layKeysI_ren.f 10)) [] [.raw (.pointer (some ⟨nb,0,none⟩))]] ([loose, .row nb (.cells #[.map (some mk)] (layKeysI_ren.t 23)), .map mk (entM (V.int .i64) pv l)]++F) fun d G=>d = .sl ((Go.Proofs.YtgekknefphagbaaGreatDoor.sortedI (l.map (·.1))).map (V.int .i64))/\G=[loose, .row nb (.cells #[.map (some mk)] (layKeysI_ren.t 23)), .map mk (entM (V.int .i64) pv l)]++F:=fun ⟨hn,hz,hk⟩=>by
 refine ⟨he,fun xs w hs hsz hr=>?_⟩
 have h0:=hr 0 (by simp)
 obtain ⟨x0,rfl⟩:=zfw hsz
 have h0:R (stable w _) w x0 (.fn (.func (layKeysI_ren.f 10)) [] [.raw (.pointer (some ⟨nb,0,none⟩))]):=h0
 obtain ⟨ys,rfl,hy⟩:∃ ys:Array Value,x0 = .func (.func (layKeysI_ren.f 10)) #[] ys/\ys = #[.pointer (some ⟨nb,0,none⟩)]:=by
  cases h0 with
  | fn f xs ys cs ds e1 e2 e3 e4 =>
   have hxs:xs = #[]:=Array.eq_empty_of_size_eq_zero e1
   obtain ⟨y,rfl⟩:=zfw e3
   have:=e4 0 (by simp)
   have:R (stable w _) w y (.raw (.pointer (some ⟨nb,0,none⟩))):=this
   subst hxs
   have e:y = .pointer (some ⟨nb,0,none⟩):=by cases this;rfl
   exact ⟨_,rfl,by rw [e]⟩
 subst hy
 have hrow:w.heap[nb]? = some (.cells #[.map (some mk)] (layKeysI_ren.t 23)):=hs.holds (.row nb (.cells #[.map (some mk)] (layKeysI_ren.t 23))) (by simp)
 have hmap:=hs.holds (.map mk (entM (V.int .i64) pv l)) (by simp)
 obtain ⟨D,hown,hsD,hpD⟩:=zn3 (ty_:=layKeysI_ren.t 26) layKeysI.t26 hmap hn hz hk
 have hnb:nb<w.heap.size:=by
  rcases Nat.lt_or_ge nb w.heap.size with h | h
  · exact h
  · rw [Array.getElem?_eq_none h] at hrow;cases hrow
 have hseq:SeqGives Fence.wide 2 Tryz.prog (layKeysI_ren.f 10) #[.pointer (some ⟨nb,0,none⟩)] encZ (fun ss=>ss.Perm (intKeys D)) (Maps.size D) w :=
  AnyZI.keys_gives (ρ:=layKeysI_ren) { layKeysI with } Fence.wide _ trivial rfl (by omega) nb mk l.length D _ hnb (by simp [World.cell?,hrow]) hown
 have c:=AnyZI.sorted_in zlI Fence.wide 5 trivial trivial trivial trivial rfl (by omega) (zok _) he1 (layKeysI_ren.f 10) #[.pointer (some ⟨nb,0,none⟩)] trivial he2 _ _ (by rw [hsD];unfold maxLen;omega) (by rw [hsD];omega) w hseq
 refine (callsIn_wide.1 c).mono ?_
 rintro e w' ⟨v,ss,rfl,hS,hrow',_,hb⟩
 obtain ⟨k1,k2⟩:=hs.moreL (by simp) hb
 have hso:ss.mergeSort (fun x y=>decide (x<=y))=Go.Proofs.YtgekknefphagbaaGreatDoor.sortedI (l.map (·.1)):=mergeSort_of_perm_i (hS.trans hpD)
 rw [hso] at hrow'
 have hlen:ss.length=(Go.Proofs.YtgekknefphagbaaGreatDoor.sortedI (l.map (·.1))).length:=by rw [<-hso];exact (List.length_mergeSort ss).symm
 rw [hlen] at hrow'
 exact ⟨v,_,_,rfl,k1,k2,zmM hs hrow',rfl,rfl⟩
end
end Go.Proofs.YtgekknefphagbaaGreatDoor
