/- The program's packets: numbers, texts; a packet is as itself; its own kind's fields. -/
import Derived.Test.YtgekknefphagbaaGreatDoorYox
import Derived.Test.YtgekknefphagbaaGreatDoorPv2x
import Derived.Test.YtgekknefphagbaaGreatDoorEqx
import Derived.KernelRfl
import Derived.Test.YtgekknefphagbaaGreatDoorMpx
import Derived.Test.YtgekknefphagbaaGreatDoorJax
namespace Go.Proofs.YtgekknefphagbaaGreatDoor
open Go.RowKit
set_option linter.unusedSimpArgs false
set_option linter.unusedVariables false
set_option linter.unusedSectionVars false
set_option maxHeartbeats 4000000
set_option maxRecDepth 100000
section
theorem zfu (p:List UInt8):(p==p)=true:=by simp
theorem zfe (p:Int):(p==p)=true:=by simp
theorem zfv (p:Int):(p != p)=false:=by simp
theorem zfc (p:List UInt8):(p != p)=false:=by simp
theorem zrg {p:Pk} (h:numM p=true):(p.kind=3/\0<p.qos)\/(p.kind≠3/\4<=p.kind/\p.kind<=11):=by
 unfold numM at h;split at h
 · exact .inl ⟨by assumption,by simpa using h⟩
 · exact .inr ⟨by assumption,by simpa using h⟩
theorem zqW {p:Pk} (h:numM p=false):(p.kind=3/\¬ 0<p.qos)\/(p.kind≠3/\(p.kind<4\/11<p.kind)):=by
 unfold numM at h;split at h
 · exact .inl ⟨by assumption,by simpa using h⟩
 · refine .inr ⟨by assumption,?_⟩
   simp only [decide_eq_false_iff_not] at h
   omega
attribute [local irreducible] DW SeqD DV DOp DC DVX chkB
theorem zkk (v a b:Int) (F:Own):(True)->DC Tryz.prog 196 [.int .i64 v, .int .i64 a, .int .i64 b] (([]:Own)++F) fun d G=>d = .bool (inM v a b)/\G=[]++F:=by
 intro hA
 refine DC.bodyS (n_:=15) (show Tryz.prog.funcs[196]? = some Tryz.f196 by kernel_rfl) rfl rfl (by rfl) ?_
 simp only [env0,List.cons_append,List.nil_append]
 have kw:=ksIs [0,1,2,6]
 have ow:=zaf []
 repeat' (first
  | refine g_ ?_
  | ((with_reducible refine And.intro ?_ ?_);(exact sv))
  | (refine DW.cond (by rfl) ?_ ?_<;>(first | exact i0_ | (refine ic_ ?_;intro hb)))
  | ((with_reducible refine zaa ?_ ?_)<;>(intro hb;rw [hb];revert hb;(first | exact i0_ | (refine i_ ?_;intro hb))))
  | refine r_ ?_
  | refine k_ ?_
  | refine o_ ?_
  | refine f_ ?_
  | with_reducible intro b)
 all_goals first
 | ((refine ⟨_,_,le.of_eq ?_,⟨rfl,rfl⟩,SubP.refl⟩);congr 1;rw [Bool.eq_iff_iff];(simp [inM]<;>omega);done)
 | (trace_state;fail)
section
attribute [local push_cast 2000] zbv zbg
theorem zpi (l:YS) (F:Own):(l.length<=1000000000)->DC Tryz.prog 249 [.str l] ([knF,knA]++F) fun d G=>d = .bool (zen l)/\G=[knF,knA]++F:=by
 intro hA
 have hl:=hA
 refine DC.bodyS (n_:=12) (show Tryz.prog.funcs[249]? = some Tryz.f249 by kernel_rfl) rfl rfl (by rfl) ?_
 simp only [env0,List.cons_append,List.nil_append]
 have kw:=ksIs [0,2]
 have ow:=zaf []
 repeat' (first
  | refine g_ ?_
  | ((with_reducible refine And.intro ?_ ?_);(exact sv))
  | (refine DW.cond (by rfl) ?_ ?_<;>(first | exact i0_ | (refine ic_ ?_;intro hb)))
  | ((with_reducible refine zaa ?_ ?_)<;>(intro hb;rw [hb];revert hb;(first | exact i0_ | (refine i_ ?_;intro hb))))
  | refine r_ ?_
  | refine k_ ?_
  | (refine p_ (zrh _ _) ?_;rintro d H1 ⟨i1,rfl,hi1,rfl⟩<;>refine s_ ?_)
  | refine o_ ?_
  | refine f_ ?_
  | with_reducible intro b)
 all_goals first
 | ((refine ⟨_,_,le.of_eq ?_,⟨rfl,rfl⟩,?_⟩);rotate_left;(exact sub_);congr 1;unfold zen;(try rw [<-hi1]);rw [Bool.eq_iff_iff];(simp_all<;>omega);done)
 | (trace_state;fail)
end
theorem zfU (b:Bool) (n:Int) (F:Own):(True)->DC Tryz.prog 201 [.bool b, .int .i64 n] (([]:Own)++F) fun d G=>d = .int .i64 (if b=true then n else 0)/\G=[]++F:=by
 intro hA
 refine DC.bodyS (n_:=7) (show Tryz.prog.funcs[201]? = some Tryz.f201 by kernel_rfl) rfl rfl (by rfl) ?_
 simp only [env0,List.cons_append,List.nil_append]
 have kw:=ksIs [0,1,4,5]
 have ow:=zaf []
 repeat' (first
  | refine g_ ?_
  | ((with_reducible refine And.intro ?_ ?_);(exact sv))
  | (refine DW.cond (by rfl) ?_ ?_<;>(first | exact i0_ | (refine ic_ ?_;intro hb)))
  | ((with_reducible refine zaa ?_ ?_)<;>(intro hb;rw [hb];revert hb;(first | exact i0_ | (refine i_ ?_;intro hb))))
  | refine r_ ?_
  | refine k_ ?_
  | refine o_ ?_
  | refine f_ ?_
  | with_reducible intro b)
 all_goals first
 | ((simp only [hb,↓reduceIte,Bool.false_eq_true];(first | exact fin_ | refine finq_ ?_);done))
 | (trace_state;fail)
theorem zlO {p:Prop} (h:p:=by first | exact sv | (exact kxcn) | (exact kxch) | fail):p:=h
section
attribute [local push_cast 2000] zaU
theorem zm9 (v:Value) (n:Nat) (l:YS) (z:Int) (F:Own):(n=l.length/\l.length<=2000000000)->DC Tryz.prog 204 [.ar v n, .int .i64 z] (.arr 1 v (l.map u8)::([]:Own)++F) fun d G=>∃ v':Value,d = .ar v' (l++twoM z).length/\G = .arr 1 v' ((l++twoM z).map u8)::F:=by
 intro hA
 obtain ⟨hn,hl⟩:=hA
 refine DC.bodyS (n_:=13) (show Tryz.prog.funcs[204]? = some Tryz.f204 by kernel_rfl) rfl rfl (by rfl) ?_
 simp only [env0,List.cons_append,List.nil_append]
 have kw:=ksIs [0,1,4]
 have ow:=zaf []
 repeat' (first
  | refine g_ ?_
  | ((with_reducible refine And.intro ?_ ?_);(exact zlO))
  | (refine DW.cond (by rfl) ?_ ?_<;>(first | exact i0_ | (refine ic_ ?_;intro hb)))
  | ((with_reducible refine zaa ?_ ?_)<;>(intro hb;rw [hb];revert hb;(first | exact i0_ | (refine i_ ?_;intro hb))))
  | refine r_ ?_
  | refine k_ ?_
  | refine o_ ?_
  | refine f_ ?_
  | with_reducible intro b)
 all_goals first
 | ((rw [<-zhw]);refine ⟨_,_,le.of_eq ?_,⟨b,rfl,rfl⟩,?_⟩;(rw [hn];simp [za1]);(exact sub_);done)
 | (trace_state;fail)
end
section
attribute [local push_cast 2000] zaU zbc zao
theorem zkE (z:Int) (F:Own):(True)->DC Tryz.prog 204 [.gs (.slice none 0 0) [], .int .i64 z] (([]:Own)++F) fun d G=>∃ v':Value,d = .ar v' (twoM z).length/\G = .arr 1 v' ((twoM z).map u8)::F:=by
 intro hA
 refine DC.bodyS (n_:=13) (show Tryz.prog.funcs[204]? = some Tryz.f204 by kernel_rfl) rfl rfl (by rfl) ?_
 simp only [env0,List.cons_append,List.nil_append]
 have kw:=ksIs [0,1,4]
 have ow:=zaf []
 repeat' (first
  | refine g_ ?_
  | ((with_reducible refine And.intro ?_ ?_);(exact sv_twoNW_dc))
  | (refine DW.cond (by rfl) ?_ ?_<;>(first | exact i0_ | (refine ic_ ?_;intro hb)))
  | ((with_reducible refine zaa ?_ ?_)<;>(intro hb;rw [hb];revert hb;(first | exact i0_ | (refine i_ ?_;intro hb))))
  | refine r_ ?_
  | refine k_ ?_
  | ((first | (refine DOp.app0a_ [12] rfl rfl rfl rfl (by intro h;cases h) ?_))<;>(refine s_ ?_))
  | refine o_ ?_
  | refine f_ ?_
  | with_reducible intro b)
 all_goals first
 | (exact kxbh)
 | (trace_state;fail)
end
section
attribute [local push_cast 2000] zaU za1
end
theorem zfz {p:Prop} (h:p:=by first | exact sv | (exact kxcn) | (exact kxch) | fail):p:=h
section
attribute [local push_cast 2000] zaU za1
theorem zi1 (t:YS) (F:Own):(t.length<=1000000000)->DC Tryz.prog 202 [.gs (.slice none 0 0) [], .str t] (([]:Own)++F) fun d G=>∃ v':Value,d = .ar v' (zbC t).length/\G = .arr 1 v' ((zbC t).map u8)::F:=by
 intro hA
 have ht:=hA
 refine DC.bodyS (n_:=11) (show Tryz.prog.funcs[202]? = some Tryz.f202 by kernel_rfl) rfl rfl (by rfl) ?_
 simp only [env0,List.cons_append,List.nil_append]
 have kw:=ksIs [0,1,4]
 have ow:=zaf []
 repeat' (first
  | refine g_ ?_
  | ((with_reducible refine And.intro ?_ ?_);(exact zfz))
  | (refine DW.cond (by rfl) ?_ ?_<;>(first | exact i0_ | (refine ic_ ?_;intro hb)))
  | ((with_reducible refine zaa ?_ ?_)<;>(intro hb;rw [hb];revert hb;(first | exact i0_ | (refine i_ ?_;intro hb))))
  | refine r_ ?_
  | refine k_ ?_
  | (refine p_ (zkE _ _) ?_ (ha:=by exact zfz);rintro d H1 ⟨v1,rfl,rfl⟩<;>refine s_ ?_)
  | refine o_ ?_
  | refine f_ ?_
  | with_reducible intro b)
 all_goals first
 | ((rw [ziQ]);refine ⟨_,_,le.of_eq ?_,⟨b,rfl,rfl⟩,?_⟩;(rw [zaA]);(exact sub_);done)
 | (trace_state;fail)
end
theorem zer (p:Pk) (F:Own):(True)->DC Tryz.prog 203 [.agg [.int .i64 p.kind, .bool p.dup, .bool p.retain, .int .i64 p.qos, .int .i64 p.id, .str p.topic, .sl (p.payload.map u8), .int .i64 p.level, .str p.client, .bool p.clean, .int .i64 p.keep, .bool p.hasWill, .str p.wtopic, .sl (p.wpay.map u8), .int .i64 p.wqos, .bool p.wretain, .bool p.hasUser, .bool p.hasPass, .str p.user, .sl (p.pass.map u8), .bool p.present, .int .i64 p.code, .sl (p.subs.map encU), .sl (p.codes.map (V.int .i64))]] (([]:Own)++F) fun d G=>d = .bool (numM p)/\G=[]++F:=by
 intro hA
 refine DC.bodyS (n_:=19) (show Tryz.prog.funcs[203]? = some Tryz.f203 by kernel_rfl) rfl rfl (by rfl) ?_
 simp only [env0,List.cons_append,List.nil_append]
 have kw:=ksIs [0,1,2,4,5,10]
 have ow:=zaf []
 repeat' (first
  | refine g_ ?_
  | ((with_reducible refine And.intro ?_ ?_);(exact sv))
  | (refine DW.cond (by rfl) ?_ ?_<;>(first | exact i0_ | (refine ic_ ?_;intro hb)))
  | ((with_reducible refine zaa ?_ ?_)<;>(intro hb;rw [hb];revert hb;(first | exact i0_ | (refine i_ ?_;intro hb))))
  | refine r_ ?_
  | refine k_ ?_
  | refine o_ ?_
  | refine f_ ?_
  | with_reducible intro b)
 all_goals first
 | ((refine ⟨_,_,le.of_eq ?_,⟨rfl,rfl⟩,?_⟩);rotate_left;(exact sub_);congr 1;unfold numM;(simp_all<;>omega);done)
 | ((refine ⟨_,_,le.of_eq ?_,⟨rfl,rfl⟩,?_⟩);rotate_left;(exact sub_);congr 1;unfold numM;rw [Bool.eq_iff_iff];(simp_all<;>omega);done)
 | (trace_state;fail)
section
attribute [local push_cast 2000] zbv zbg zfu zfe zfv zfc
theorem zjG (l:YS) (F:Own):(True)->DC Tryz.prog 244 [.sl (l.map u8), .sl (l.map u8)] (([]:Own)++F) fun d G=>d = .bool true/\G=[]++F:=by
 intro hA
 refine DC.bodyS (n_:=10) (show Tryz.prog.funcs[244]? = some Tryz.f244 by kernel_rfl) rfl rfl (by rfl) ?_
 simp only [env0,List.cons_append,List.nil_append]
 have kw:=ksIs [0,1,4]
 have ow:=zaf []
 repeat' (first
  | refine g_ ?_
  | ((with_reducible refine And.intro ?_ ?_);(exact sv))
  | (refine DW.cond (by rfl) ?_ ?_<;>(first | exact i0_ | (refine ic_ ?_;intro hb)))
  | ((with_reducible refine zaa ?_ ?_)<;>(intro hb;rw [hb];revert hb;(first | exact i0_ | (refine i_ ?_;intro hb))))
  | refine r_ ?_
  | refine k_ ?_
  | refine o_ ?_
  | refine f_ ?_
  | with_reducible intro b)
 (first | exact fin_ | refine finq_ ?_)
 all_goals rfl
end
section
attribute [local push_cast 2000] zbv zbg zfu zfe zfv zfc
theorem eqsI_dc (l:List Int) (F:Own):(l.length<=1000000)->DC Tryz.prog 248 [.sl (l.map (V.int .i64)), .sl (l.map (V.int .i64))] (([]:Own)++F) fun d G=>d = .bool true/\G=[]++F:=by
 intro hA
 have hl:=hA
 refine DC.bodyS (n_:=26) (show Tryz.prog.funcs[248]? = some Tryz.f248 by kernel_rfl) rfl rfl (by rfl) ?_
 simp only [env0,List.cons_append,List.nil_append]
 have kw:=ksIs [0,1,4,5,10,12,13,14,24]
 have ow:=zaf []
 have dw6:=drIs 6 [] [3,7]
 repeat' (first
  | ((with_reducible refine DW.loopB 0 (X:=Nat) (fun x=>x<=l.length) (fun x=>[(0, .sl (l.map (V.int .i64))),(1, .sl (l.map (V.int .i64))),(12, .int .i64 l.length),(13, .int .i64 x)]) (fun x=>([]:Own)) (fun x=>l.length - x) (0) ?_ ?_ ?_);exact (Nat.zero_le _);(exact kxcm);(try simp only [List.cons_append,List.nil_append]);refine pl_ ?_;intro k hk;(try simp only [List.cons_append,List.nil_append]);(try simp only at hk))
  | refine g_ ?_
  | ((with_reducible refine And.intro ?_ ?_);(exact sv))
  | (refine DW.cond (by rfl) ?_ ?_<;>(first | exact i0_ | (refine ic_ ?_;intro hb)))
  | ((with_reducible first | refine zaa ?_ ?_ | refine zak ?_ ?_)<;>(intro hb;rw [hb];revert hb;(first | exact i0_ | (refine i_ ?_;intro hb))))
  | refine r_ ?_
  | refine d_ ?_
  | refine k_ ?_
  | refine vo_ ?_
  | refine o_ ?_
  | refine f_ ?_
  | refine vm_ ?_
  | with_reducible intro b)
 all_goals first
 | (exact kxb5)
 | (exact kxbk)
 | (trace_state;fail)
end
section
attribute [local push_cast 2000] zbv zbg zfu zfe zfv zfc encU
theorem eqsU_dc (l:List (YS×Int)) (F:Own):(l.length<=1000000)->DC Tryz.prog 247 [.sl (l.map encU), .sl (l.map encU)] (([]:Own)++F) fun d G=>d = .bool true/\G=[]++F:=by
 intro hA
 have hl:=hA
 refine DC.bodyS (n_:=26) (show Tryz.prog.funcs[247]? = some Tryz.f247 by kernel_rfl) rfl rfl (by rfl) ?_
 simp only [env0,List.cons_append,List.nil_append]
 have kw:=ksIs [0,1,4,5,10,12,13,14,24]
 have ow:=zaf []
 have dw6:=drIs 6 [] [3,7]
 repeat' (first
  | ((with_reducible refine DW.loopB 0 (X:=Nat) (fun x=>x<=l.length) (fun x=>[(0, .sl (l.map encU)),(1, .sl (l.map encU)),(12, .int .i64 l.length),(13, .int .i64 x)]) (fun x=>([]:Own)) (fun x=>l.length - x) (0) ?_ ?_ ?_);exact (Nat.zero_le _);(exact kxcm);(try simp only [List.cons_append,List.nil_append]);refine pl_ ?_;intro k hk;(try simp only [List.cons_append,List.nil_append]);(try simp only at hk))
  | refine g_ ?_
  | ((with_reducible refine And.intro ?_ ?_);(exact sv))
  | (refine DW.cond (by rfl) ?_ ?_<;>(first | exact i0_ | (refine ic_ ?_;intro hb)))
  | ((with_reducible first | refine zaa ?_ ?_ | refine zak ?_ ?_)<;>(intro hb;rw [hb];revert hb;(first | exact i0_ | (refine i_ ?_;intro hb))))
  | refine r_ ?_
  | refine d_ ?_
  | refine k_ ?_
  | refine vo_ ?_
  | refine o_ ?_
  | refine f_ ?_
  | refine vm_ ?_
  | with_reducible intro b)
 all_goals first
 | (exact kxb5)
 | (exact kxbk)
 | (trace_state;fail)
end
section
attribute [local push_cast 2000] zbv zbg zfu zfe zfv zfc
theorem zmK (a1 a2:YS) (a3:Int) (a4:Bool) (F:Own):(True)->DC Tryz.prog 246 [.agg [.str a1, .sl (a2.map u8), .int .i64 a3, .bool a4], .agg [.str a1, .sl (a2.map u8), .int .i64 a3, .bool a4]] (([]:Own)++F) fun d G=>d = .bool true/\G=[]++F:=by
 intro hA
 refine DC.bodyS (n_:=31) (show Tryz.prog.funcs[246]? = some Tryz.f246 by kernel_rfl) rfl rfl (by rfl) ?_
 simp only [env0,List.cons_append,List.nil_append]
 have kw:=ksIs [0,1,2,3,4]
 have ow:=zaf []
 repeat' (first
  | refine g_ ?_
  | ((with_reducible refine And.intro ?_ ?_);(exact sv))
  | (refine DW.cond (by rfl) ?_ ?_<;>(first | exact i0_ | (refine ic_ ?_;intro hb)))
  | ((with_reducible refine zaa ?_ ?_)<;>(intro hb;rw [hb];revert hb;(first | exact i0_ | (refine i_ ?_;intro hb))))
  | refine r_ ?_
  | refine k_ ?_
  | (refine q_ (zjG _ _) ?_)
  | refine o_ ?_
  | refine f_ ?_
  | with_reducible intro b)
 (first | exact fin_ | refine finq_ ?_)
 all_goals rfl
end
section
attribute [local push_cast 2000] List.append_eq List.cons_append List.nil_append zbv zbg zfu zfe zfv zfc
theorem zlu (p:Pk) (F:Own):(True)->DC Tryz.prog 245 [.agg [.int .i64 p.kind, .bool p.dup, .bool p.retain, .int .i64 p.qos, .int .i64 p.id, .str p.topic, .sl (p.payload.map u8), .int .i64 p.level, .str p.client, .bool p.clean, .int .i64 p.keep, .bool p.hasWill, .str p.wtopic, .sl (p.wpay.map u8), .int .i64 p.wqos, .bool p.wretain, .bool p.hasUser, .bool p.hasPass, .str p.user, .sl (p.pass.map u8), .bool p.present, .int .i64 p.code, .sl (p.subs.map encU), .sl (p.codes.map (V.int .i64))], .agg [.int .i64 p.kind, .bool p.dup, .bool p.retain, .int .i64 p.qos, .int .i64 p.id, .str p.topic, .sl (p.payload.map u8), .int .i64 p.level, .str p.client, .bool p.clean, .int .i64 p.keep, .bool p.hasWill, .str p.wtopic, .sl (p.wpay.map u8), .int .i64 p.wqos, .bool p.wretain, .bool p.hasUser, .bool p.hasPass, .str p.user, .sl (p.pass.map u8), .bool p.present, .int .i64 p.code, .sl (p.subs.map encU), .sl (p.codes.map (V.int .i64))]] (([]:Own)++F) fun d G=>d = .bool true/\G=[]++F:=by
 intro hA
 refine DC.bodyS (n_:=80) (show Tryz.prog.funcs[245]? = some Tryz.f245 by kernel_rfl) rfl rfl (by rfl) ?_
 simp only [env0,List.cons_append,List.nil_append]
 have kw:=ksIs [0,1,2,3,4]
 have ow:=zaf []
 repeat' (first
  | refine g_ ?_
  | ((with_reducible refine And.intro ?_ ?_);(exact sv))
  | (refine DW.cond (by rfl) ?_ ?_<;>(first | exact i0_ | (refine ic_ ?_;intro hb)))
  | ((with_reducible refine zaa ?_ ?_)<;>(intro hb;rw [hb];revert hb;(first | exact i0_ | (refine i_ ?_;intro hb))))
  | refine r_ ?_
  | refine k_ ?_
  | (refine q_ (zjG _ _) ?_)
  | refine o_ ?_
  | refine f_ ?_
  | with_reducible intro b)
 (first | exact fin_ | refine finq_ ?_)
 all_goals rfl
end
section
attribute [local push_cast 2000] List.append_eq List.cons_append List.nil_append zbv zbg zfu zfe zfv zfc
theorem zkN (p:Pk) (F:Own):(PkN p)->DC Tryz.prog 197 [.agg [.int .i64 p.kind, .bool p.dup, .bool p.retain, .int .i64 p.qos, .int .i64 p.id, .str p.topic, .sl (p.payload.map u8), .int .i64 p.level, .str p.client, .bool p.clean, .int .i64 p.keep, .bool p.hasWill, .str p.wtopic, .sl (p.wpay.map u8), .int .i64 p.wqos, .bool p.wretain, .bool p.hasUser, .bool p.hasPass, .str p.user, .sl (p.pass.map u8), .bool p.present, .int .i64 p.code, .sl (p.subs.map encU), .sl (p.codes.map (V.int .i64))], .agg [.int .i64 p.kind, .bool p.dup, .bool p.retain, .int .i64 p.qos, .int .i64 p.id, .str p.topic, .sl (p.payload.map u8), .int .i64 p.level, .str p.client, .bool p.clean, .int .i64 p.keep, .bool p.hasWill, .str p.wtopic, .sl (p.wpay.map u8), .int .i64 p.wqos, .bool p.wretain, .bool p.hasUser, .bool p.hasPass, .str p.user, .sl (p.pass.map u8), .bool p.present, .int .i64 p.code, .sl (p.subs.map encU), .sl (p.codes.map (V.int .i64))]] (([]:Own)++F) fun d G=>d = .bool true/\G=[]++F:=by
 intro hA
 have hp:=hA
 refine DC.bodyS (n_:=78) (show Tryz.prog.funcs[197]? = some Tryz.f197 by kernel_rfl) rfl rfl (by rfl) ?_
 simp only [env0,List.cons_append,List.nil_append]
 have kw:=ksIs [0,1,2,3,4]
 have ow:=zaf []
 have s1:=hp.subs;have s2:=hp.codes
 repeat' (first
  | refine g_ ?_
  | ((with_reducible refine And.intro ?_ ?_);(exact sv))
  | (refine DW.cond (by rfl) ?_ ?_<;>(first | exact i0_ | (refine ic_ ?_;intro hb)))
  | ((with_reducible refine zaa ?_ ?_)<;>(intro hb;rw [hb];revert hb;(first | exact i0_ | (refine i_ ?_;intro hb))))
  | refine r_ ?_
  | refine k_ ?_
  | (refine q_ (zjG _ _) ?_)
  | (refine q_ (zlu _ _) ?_)
  | (refine q_ (zmK _ _ _ _ _) ?_)
  | (refine q_ (eqsU_dc _ _) ?_)
  | (refine q_ (eqsI_dc _ _) ?_)
  | refine o_ ?_
  | refine f_ ?_
  | with_reducible intro b)
 (first | exact fin_ | refine finq_ ?_)
 all_goals rfl
end
theorem zfr {P Q:Prop} (q:Q) (h:Hid Q->P:=by (intro q;simp (maxSteps:=1000000) (disch:=omega) only [push_cast,↓reduceIte,reduceCtorEq,Nat.reduceAdd,Nat.reduceMul,Nat.reduceLT,Nat.reduceLeDiff,Nat.reduceEqDiff,Nat.reduceSub,Int.reduceToNat,Int.reduceLT,Int.reduceLE,Int.reduceAdd,Int.reduceSub,Int.reduceMul,Int.reduceNeg,Nat.reduceBEq,Int.reduceBEq,Int.reduceBNe,Nat.reduceBNe,Int.reduceEq,hnum];exact q.1)):P:=h ⟨q⟩
theorem zql (p:Pk) (F:Own):(True)->DC Tryz.prog 198 [.agg [.int .i64 p.kind, .bool p.dup, .bool p.retain, .int .i64 p.qos, .int .i64 p.id, .str p.topic, .sl (p.payload.map u8), .int .i64 p.level, .str p.client, .bool p.clean, .int .i64 p.keep, .bool p.hasWill, .str p.wtopic, .sl (p.wpay.map u8), .int .i64 p.wqos, .bool p.wretain, .bool p.hasUser, .bool p.hasPass, .str p.user, .sl (p.pass.map u8), .bool p.present, .int .i64 p.code, .sl (p.subs.map encU), .sl (p.codes.map (V.int .i64))]] (([]:Own)++F) fun d G=>d = .agg [.int .i64 (onlyM p).kind, .bool (onlyM p).dup, .bool (onlyM p).retain, .int .i64 (onlyM p).qos, .int .i64 (onlyM p).id, .str (onlyM p).topic, .sl ((onlyM p).payload.map u8), .int .i64 (onlyM p).level, .str (onlyM p).client, .bool (onlyM p).clean, .int .i64 (onlyM p).keep, .bool (onlyM p).hasWill, .str (onlyM p).wtopic, .sl ((onlyM p).wpay.map u8), .int .i64 (onlyM p).wqos, .bool (onlyM p).wretain, .bool (onlyM p).hasUser, .bool (onlyM p).hasPass, .str (onlyM p).user, .sl ((onlyM p).pass.map u8), .bool (onlyM p).present, .int .i64 (onlyM p).code, .sl ((onlyM p).subs.map encU), .sl ((onlyM p).codes.map (V.int .i64))]/\G=[]++F:=by
 intro hA
 refine DC.bodyS (n_:=94) (show Tryz.prog.funcs[198]? = some Tryz.f198 by kernel_rfl) rfl rfl (by rfl) ?_
 simp only [env0,List.cons_append,List.nil_append]
 have kw:=ksIs [0,1,2,3,8,13,14,38,43,48,52,60,82,88]
 have ow:=zaf []
 have dw6:=drIs 6 [15,17,19,21,23,25,27] [1]
 have dw14:=drIs 14 [5,7] [1]
 have dw16:=drIs 16 [16,18,20,22,24] [1,4]
 have rw_:=rsIs [.cell 2 29]
 have hnum:True:=trivial
 clear hnum
 rcases hnum:numM p with _ | _
 have hnm:=zqW hnum
 rotate_left
 have hnm:=zrg hnum
 all_goals skip
 repeat' (first
  | refine g_ ?_
  | ((with_reducible refine And.intro ?_ ?_);(exact sv))
  | (refine DW.cond (by rfl) ?_ ?_<;>(first | exact i0_ | (intro hb;(try simp only [↓reduceCtorEq,not_true_eq_false,not_false_eq_true,hbs,Int.reduceBEq,Int.reduceBNe,Int.reduceEq] at hb);(try refine zfr ?_))))
  | ((with_reducible first | refine zaa ?_ ?_ | refine zak ?_ ?_)<;>(intro hb;rw [hb];revert hb;(first | exact i0_ | (intro hb;(try simp only [↓reduceCtorEq,not_true_eq_false,not_false_eq_true,hbs,Int.reduceBEq,Int.reduceBNe,Int.reduceEq] at hb);(try refine zfr ?_)))))
  | ((first | refine rn_ ?_ | refine dn_ ?_ | refine kn_ ?_)<;>(refine zfr ?_))
  | ((refine dm_ ?_);(first | (refine v_ (zer _ _) ?_ (hk:=fun q=>q.1);refine zfr ?_)))
  | ((refine von_ ?_);refine zfr ?_)
  | (refine q_ (zer _ _) ?_ (hk:=fun q=>q.1);refine zfr ?_)
  | ((refine on_ ?_);refine zfr ?_)
  | refine f_ ?_
  | refine vm_ ?_
  | with_reducible intro b)
 all_goals first
 | ((have hq0:¬ (0<p.qos):=by omega);(refine ⟨_,_,?_,⟨rfl,rfl⟩,?_⟩);rotate_left;(exact sub_);(clear hnm hnum);(unfold onlyM);(simp only [*,↓reduceIte,Bool.false_eq_true,reduceCtorEq,or_true,true_or,or_self,Int.reduceEq,if_true,if_false,Bool.and_true,Bool.and_false,decide_true,decide_false]);(refine le.agg ?_);(repeat (first | exact Les.nil | refine Les.cons le.rfl_ ?_ | refine Les.cons (le.gs rfl) ?_));done)
 | ((have hq0:0<p.qos:=by omega);(refine ⟨_,_,?_,⟨rfl,rfl⟩,?_⟩);rotate_left;(exact sub_);(clear hnm hnum);(unfold onlyM);(simp only [*,↓reduceIte,Bool.false_eq_true,reduceCtorEq,or_true,true_or,or_self,Int.reduceEq,if_true,if_false,Bool.and_true,Bool.and_false,decide_true,decide_false]);(refine le.agg ?_);(repeat (first | exact Les.nil | refine Les.cons le.rfl_ ?_ | refine Les.cons (le.gs rfl) ?_));done)
 | ((have hk5:p.kind=4\/p.kind=5\/p.kind=6\/p.kind=7\/p.kind=11:=by omega);(refine ⟨_,_,?_,⟨rfl,rfl⟩,?_⟩);rotate_left;(exact sub_);(clear hnm hnum);(unfold onlyM);(simp only [*,↓reduceIte,Bool.false_eq_true,reduceCtorEq,or_true,true_or,or_self,Int.reduceEq,if_true,if_false,Bool.and_true,Bool.and_false,decide_true,decide_false]);(refine le.agg ?_);(repeat (first | exact Les.nil | refine Les.cons le.rfl_ ?_ | refine Les.cons (le.gs rfl) ?_));done)
 | ((have hk5:¬ (p.kind=4\/p.kind=5\/p.kind=6\/p.kind=7\/p.kind=11):=by omega);(refine ⟨_,_,?_,⟨rfl,rfl⟩,?_⟩);rotate_left;(exact sub_);(clear hnm hnum);(unfold onlyM);(simp only [*,↓reduceIte,Bool.false_eq_true,reduceCtorEq,or_true,true_or,or_self,Int.reduceEq,if_true,if_false,Bool.and_true,Bool.and_false,decide_true,decide_false]);(refine le.agg ?_);(repeat (first | exact Les.nil | refine Les.cons le.rfl_ ?_ | refine Les.cons (le.gs rfl) ?_));done)
 | ((refine ⟨_,_,?_,⟨rfl,rfl⟩,?_⟩);rotate_left;(exact sub_);(clear hnm hnum);(unfold onlyM);(simp only [*,↓reduceIte,Bool.false_eq_true,reduceCtorEq,or_true,true_or,or_self,Int.reduceEq,if_true,if_false,Bool.and_true,Bool.and_false,decide_true,decide_false]);(refine le.agg ?_);(repeat (first | exact Les.nil | refine Les.cons le.rfl_ ?_ | refine Les.cons (le.gs rfl) ?_));done)
 | (trace_state;fail)
end
section
def valM (p:Pk):Bool:=(!numM p||inM p.id 1 65535)&&(if p.kind=2 then inM p.code 0 5&&(decide (p.code=0) || !p.present) else if p.kind=3 then inM p.qos 0 2&&zen p.topic else if p.kind=9 then decide (0<p.codes.length)&&p.codes.all zcr else true)
theorem low7W:∀ r:Fin 256,IntKind.u8.wrap ((BitVec.ofInt IntKind.u8.bits ((r.val:Nat):Int) &&& ~~~ BitVec.ofInt IntKind.u8.bits 128).toNat:Int)=((r.val%128:Nat):Int):=by decide
theorem hi7W:∀ r:Fin 128,IntKind.u8.wrap ((BitVec.ofInt IntKind.u8.bits ((r.val:Nat):Int)|||BitVec.ofInt IntKind.u8.bits 128).toNat:Int)=((r.val+128:Nat):Int):=by decide
theorem sh7W (n:Int) (k:Nat) (h0:0<=n) (h1:n<268435456) (hk:k<=3):IntKind.u8.wrap ((BitVec.ofInt IntKind.u8.bits (IntKind.u8.wrap (n.fdiv (2 ^ min (7 * (k:Int)).toNat IntKind.i64.bits))) &&& ~~~ BitVec.ofInt IntKind.u8.bits 128).toNat:Int)=((n.toNat / 128 ^ k%128:Nat):Int):=by
 have e:=fdiv7 n.toNat k hk
 rw [Int.toNat_of_nonneg h0] at e
 rw [e]
 have e2:IntKind.u8.wrap ((n.toNat / 128 ^ k:Nat):Int)=((n.toNat / 128 ^ k%256:Nat):Int):=by simp [IntKind.wrap,IntKind.bits,IntKind.signed]
 rw [e2]
 have:=low7W ⟨n.toNat / 128 ^ k%256,Nat.mod_lt _ (by decide)⟩
 simp only at this
 rw [this,Nat.mod_mod_of_dvd _ (by decide)]
theorem or7W (r:Nat) (h:r<128):IntKind.u8.wrap ((BitVec.ofInt IntKind.u8.bits ((r:Nat):Int)|||BitVec.ofInt IntKind.u8.bits 128).toNat:Int)=((r+128:Nat):Int):=hi7W ⟨r,h⟩
theorem u8_of (r:Nat) (h:r<256):V.int .u8 ((r:Nat):Int)=u8 (zbr ((r:Nat):Int)):=zqr (by omega)
attribute [local irreducible] DW SeqD DV DOp DC DVX numM inM zen zcr zcp varM
theorem wv1_dc (c:Int) (F:Own):(True)->DC Tryz.prog 252 [.int .i64 c] (([]:Own)++F) fun d G=>d = .bool (!zcr c)/\G=[]++F:=by
 intro hA
 refine DC.bodyS (n_:=10) (show Tryz.prog.funcs[252]? = some Tryz.f252 by kernel_rfl) rfl rfl (by rfl) ?_
 simp only [env0,List.cons_append,List.nil_append]
 have kw:=ksIs [0,2]
 have ow:=zaf []
 repeat' (first
  | refine g_ ?_
  | ((with_reducible refine And.intro ?_ ?_);(exact sv))
  | (refine DW.cond (by rfl) ?_ ?_<;>(first | exact i0_ | (refine ic_ ?_;intro hb)))
  | ((with_reducible refine zaa ?_ ?_)<;>(intro hb;rw [hb];revert hb;(first | exact i0_ | (refine i_ ?_;intro hb))))
  | refine r_ ?_
  | refine k_ ?_
  | (refine q_ (zkk _ _ _ _) ?_)
  | refine o_ ?_
  | refine f_ ?_
  | with_reducible intro b)
 all_goals first
 | ((refine ⟨_,_,le.of_eq ?_,⟨rfl,rfl⟩,?_⟩);rotate_left;(exact sub_);congr 1;unfold zcr;rw [hb];rw [Bool.eq_iff_iff];(simp<;>done);done)
 | (trace_state;fail)
theorem wif_dc (l:List Int) (F:Own):(l.length<=1000000)->DC Tryz.prog 281 [.sl (l.map (V.int .i64)), .fn (.func 252) [] []] (([]:Own)++F) fun d G=>∃ i:Int,decide (i ≥ 0) = !l.all zcr/\d = .int .i64 i/\G=[]++F:=by
 intro hA
 have hl:=hA
 refine DC.bodyS (n_:=19) (show Tryz.prog.funcs[281]? = some Tryz.f281 by kernel_rfl) rfl rfl (by rfl) ?_
 simp only [env0,List.cons_append,List.nil_append]
 have kw:=ksIs [0,1,4,5,7,8,9,16]
 have ow:=zaf []
 repeat' (first
  | ((with_reducible refine DW.loopB 0 (X:=Nat) (fun x=>x<=l.length/\(l.take x).all zcr=true) (fun x=>[(0, .sl (l.map (V.int .i64))),(1, .fn (.func 252) [] []),(7, .int .i64 l.length),(8, .int .i64 x)]) (fun x=>([]:Own)) (fun x=>l.length - x) (0) ?_ ?_ ?_);exact (⟨Nat.zero_le _,rfl⟩);(exact kxcm);(try simp only [List.cons_append,List.nil_append]);refine pl_ ?_;intro k ⟨hk,hks⟩;(try simp only [List.cons_append,List.nil_append]);(try simp only at hk hks))
  | refine g_ ?_
  | ((with_reducible refine And.intro ?_ ?_);(exact sv))
  | (refine DW.cond (by rfl) ?_ ?_<;>(first | exact i0_ | (refine ic_ ?_;intro hb)))
  | ((with_reducible refine zaa ?_ ?_)<;>(intro hb;rw [hb];revert hb;(first | exact i0_ | (refine i_ ?_;intro hb))))
  | refine r_ ?_
  | refine k_ ?_
  | (refine q_ (wv1_dc _ _) ?_)
  | refine o_ ?_
  | refine f_ ?_
  | with_reducible intro b)
 all_goals first
 | ((have hc:zcr (l.getD k default)=false:=by simpa using hb)
    refine ⟨_,_,le.rfl_,⟨(k:Int),?_,rfl,rfl⟩,SubP.refl⟩;(rw [zfb (f:=zcr) (k:=k) (by omega) hc];simp;done))
 | ((have hc:zcr (l.getD k default)=true:=by simpa using hb)
    refine ⟨k+1,⟨by (try simp only);omega,zfa hks (by omega) hc⟩,by (try simp only);omega,by simp [Sub,get],?_⟩;(exact kxce);done)
 | ((have e:l.all zcr=true:=by rwa [List.take_of_length_le (by omega)] at hks)
    refine ⟨_,_,le.rfl_,⟨-1,?_,rfl,rfl⟩,SubP.refl⟩;(rw [e];rfl))
 | (trace_state;fail)
theorem wcf_dc (l:List Int) (F:Own):(l.length<=1000000)->DC Tryz.prog 251 [.sl (l.map (V.int .i64)), .fn (.func 252) [] []] (([]:Own)++F) fun d G=>d = .bool (!l.all zcr)/\G=[]++F:=by
 intro hA
 have hl:=hA
 refine DC.bodyS (n_:=9) (show Tryz.prog.funcs[251]? = some Tryz.f251 by kernel_rfl) rfl rfl (by rfl) ?_
 simp only [env0,List.cons_append,List.nil_append]
 have kw:=ksIs [0,1,4]
 have ow:=zaf []
 repeat' (first
  | refine g_ ?_
  | ((with_reducible refine And.intro ?_ ?_);(exact sv))
  | (refine DW.cond (by rfl) ?_ ?_<;>(first | exact i0_ | (refine ic_ ?_;intro hb)))
  | ((with_reducible refine zaa ?_ ?_)<;>(intro hb;rw [hb];revert hb;(first | exact i0_ | (refine i_ ?_;intro hb))))
  | refine r_ ?_
  | refine k_ ?_
  | (refine p_ (wif_dc _ _) ?_;rintro d H1 ⟨i,hi,rfl,rfl⟩<;>refine s_ ?_)
  | refine o_ ?_
  | refine f_ ?_
  | with_reducible intro b)
 all_goals first
 | ((rw [<-hi]);(first | exact fin_ | refine finq_ ?_);done)
 | ((refine ⟨_,_,le.of_eq ?_,⟨rfl,rfl⟩,?_⟩);rotate_left;(exact sub_);(rw [<-hi]);done)
 | (trace_state;fail)
section
attribute [local push_cast 2000] List.append_eq List.cons_append List.nil_append
theorem zoy (p:Pk) (F:Own):(PkN p/\(p.kind≠1/\p.kind≠8/\p.kind≠10))->DC Tryz.prog 199 [.agg [.int .i64 p.kind, .bool p.dup, .bool p.retain, .int .i64 p.qos, .int .i64 p.id, .str p.topic, .sl (p.payload.map u8), .int .i64 p.level, .str p.client, .bool p.clean, .int .i64 p.keep, .bool p.hasWill, .str p.wtopic, .sl (p.wpay.map u8), .int .i64 p.wqos, .bool p.wretain, .bool p.hasUser, .bool p.hasPass, .str p.user, .sl (p.pass.map u8), .bool p.present, .int .i64 p.code, .sl (p.subs.map encU), .sl (p.codes.map (V.int .i64))]] ([knF,knA]++F) fun d G=>d = .bool (valM p)/\G=[knF,knA]++F:=by
 intro hA
 obtain ⟨hp,hk1,hk8,hk10⟩:=hA
 refine DC.bodyS (n_:=114) (show Tryz.prog.funcs[199]? = some Tryz.f199 by kernel_rfl) rfl rfl (by rfl) ?_
 simp only [env0,List.cons_append,List.nil_append]
 have kw:=ksIs [0,1,2,10,12,13,67,82,92,97,102]
 have ow:=zaf []
 have s2:=hp.codes;have h1:=hp.topic
 have hnum:True:=trivial
 clear hnum
 rcases hnum:numM p with _ | _
 all_goals skip
 repeat' (first
  | refine g_ ?_
  | ((with_reducible refine And.intro ?_ ?_);(exact sv))
  | (refine DW.cond (by rfl) ?_ ?_<;>(first | exact i0_ | (intro hb;(try simp only [↓reduceCtorEq,not_true_eq_false,not_false_eq_true,hbs,Int.reduceBEq,Int.reduceBNe,Int.reduceEq] at hb);(try refine zfr ?_))))
  | ((with_reducible refine zaa ?_ ?_)<;>(intro hb;rw [hb];revert hb;(first | exact i0_ | (intro hb;(try simp only [↓reduceCtorEq,not_true_eq_false,not_false_eq_true,hbs,Int.reduceBEq,Int.reduceBNe,Int.reduceEq] at hb);(try refine zfr ?_)))))
  | ((first | refine rn_ ?_ | refine kn_ ?_)<;>(refine zfr ?_))
  | ((first | refine q_ (zer _ _) ?_ (hk:=fun q=>q.1) | refine q_ (zkk _ _ _ _) ?_ (hk:=fun q=>q.1) | refine q_ (zpi _ _) ?_ (hk:=fun q=>q.1));refine zfr ?_)
  | (refine q_ (wcf_dc _ _) ?_ (hk:=fun q=>q.1);refine zfr ?_)
  | ((refine on_ ?_);refine zfr ?_)
  | refine f_ ?_
  | with_reducible intro b)
 all_goals first
 | ((refine ⟨_,_,le.of_eq ?_,⟨rfl,rfl⟩,?_⟩);rotate_left;(exact sub_);congr 1;unfold valM;rw [Bool.eq_iff_iff];(simp_all<;>omega);done)
 | ((refine ⟨_,_,le.of_eq ?_,⟨rfl,rfl⟩,?_⟩);rotate_left;(exact sub_);congr 1;unfold valM;(simp_all<;>omega);done)
 | (trace_state;fail)
end
theorem zot (p:Pk) (F:Own):(True)->DC Tryz.prog 154 [.agg [.int .i64 p.kind, .bool p.dup, .bool p.retain, .int .i64 p.qos, .int .i64 p.id, .str p.topic, .sl (p.payload.map u8), .int .i64 p.level, .str p.client, .bool p.clean, .int .i64 p.keep, .bool p.hasWill, .str p.wtopic, .sl (p.wpay.map u8), .int .i64 p.wqos, .bool p.wretain, .bool p.hasUser, .bool p.hasPass, .str p.user, .sl (p.pass.map u8), .bool p.present, .int .i64 p.code, .sl (p.subs.map encU), .sl (p.codes.map (V.int .i64))]] (([]:Own)++F) fun d G=>d=u8 (zeD p)/\G=[]++F:=by
 intro hA
 refine DC.bodyS (n_:=29) (show Tryz.prog.funcs[154]? = some Tryz.f154 by kernel_rfl) rfl rfl (by rfl) ?_
 simp only [env0,List.cons_append,List.nil_append]
 have kw:=ksIs [0,1,2,3,5,6,10]
 have ow:=zaf []
 have dw8:=drIs 8 [] [1,2,4,8,9]
 repeat' (first
  | refine g_ ?_
  | ((with_reducible refine And.intro ?_ ?_);(exact sv))
  | (refine DW.cond (by rfl) ?_ ?_<;>(first | exact i0_ | (refine ic_ ?_;intro hb)))
  | ((with_reducible first | refine zaa ?_ ?_ | refine zak ?_ ?_)<;>(intro hb;rw [hb];revert hb;(first | exact i0_ | (refine i_ ?_;intro hb))))
  | refine r_ ?_
  | refine d_ ?_
  | refine k_ ?_
  | ((refine dm_ ?_);(first | (refine v_ (zfU _ _ _) ?_)))
  | refine vo_ ?_
  | (refine q_ (zfU _ _ _) ?_)
  | refine o_ ?_
  | refine f_ ?_
  | refine vm_ ?_
  | with_reducible intro b)
 all_goals first
 | ((refine ⟨_,_,le.of_eq ?_,⟨rfl,rfl⟩,?_⟩);rotate_left;(exact sub_);(rw [zcn]);congr 1;unfold zeD zkh;(simp only [*,↓reduceIte,Int.reduceEq,or_self,or_true,true_or,or_false,false_or,if_true,if_false]);(apply zg2);(simp [IntKind.wrap,IntKind.bits,IntKind.signed]<;>omega);done)
 | (trace_state;fail)
theorem zpk (n:Int) (F:Own):(True)->DC Tryz.prog 205 [.int .i64 n] (([]:Own)++F) fun d G=>d = .int .i64 (zcp n)/\G=[]++F:=by
 intro hA
 refine DC.bodyS (n_:=19) (show Tryz.prog.funcs[205]? = some Tryz.f205 by kernel_rfl) rfl rfl (by rfl) ?_
 simp only [env0,List.cons_append,List.nil_append]
 have kw:=ksIs [0,2,3,10,13,16]
 have ow:=zaf []
 repeat' (first
  | refine g_ ?_
  | ((with_reducible refine And.intro ?_ ?_);(exact sv))
  | (refine DW.cond (by rfl) ?_ ?_<;>(first | exact i0_ | (refine ic_ ?_;intro hb)))
  | ((with_reducible refine zaa ?_ ?_)<;>(intro hb;rw [hb];revert hb;(first | exact i0_ | (refine i_ ?_;intro hb))))
  | refine r_ ?_
  | refine k_ ?_
  | refine o_ ?_
  | refine f_ ?_
  | with_reducible intro b)
 all_goals first
 | ((refine ⟨_,_,le.of_eq ?_,⟨rfl,rfl⟩,?_⟩);rotate_left;(exact sub_);congr 1;unfold zcp;(repeat' split)<;>(first | rfl | omega))
 | (trace_state;fail)
theorem zgd {p:Prop} (h:p:=by first | exact sv | (refine ⟨?_,?_,fun _ _=>rfl⟩<;>omega) | fail):p:=h
theorem zpw (n:Int) (F:Own):(True)->DC Tryz.prog 152 [.int .i64 n] (([]:Own)++F) fun d G=>∃ e:Int,(zcp n≠0->e=0)/\d = .tup [.sl ((varM n).map u8), .int .i64 e]/\G=[]++F:=by
 intro hA
 refine DC.bodyS (n_:=34) (show Tryz.prog.funcs[152]? = some Tryz.f152 by kernel_rfl) rfl rfl (by rfl) ?_
 simp only [env0,List.cons_append,List.nil_append]
 have kw:=ksIs [0,2,3,4,5,6,7,11,12,13,14,25]
 have ow:=zaf []
 have hz4:=zfR n
 refine DW.tail0 1 ?_
 repeat' (first
  | ((with_reducible refine DW.loopB 0 (X:=Nat×Value×YSx) (fun x=>x.1<=zcp n/\x.2.2=(varM n).take x.1/\x.2.2.length=x.1) (fun x=>[(0, .int .i64 n),(4, .int .i64 (zcp n)),(5, .gs x.2.1 (x.2.2.map u8)),(12, .int .i64 (zcp n)),(13, .int .i64 x.1)]) (fun x=>.tail 1 x.2.1::([]:Own)) (fun x=>zcp n - x.1) ((0, .slice none 0 0,[])) ?_ ?_ ?_);exact (⟨Nat.zero_le _,rfl,rfl⟩);(exact kxcm);(try simp only [List.cons_append,List.nil_append]);refine pl_ ?_;intro ⟨k,v,x⟩ ⟨hk,hxe,hx⟩;(try simp only [List.cons_append,List.nil_append]);(try simp only at hk hxe hx))
  | refine g_ ?_
  | ((with_reducible refine And.intro ?_ ?_);(exact zgd))
  | (refine DW.cond (by rfl) ?_ ?_<;>(first | exact i0_ | (refine ic_ ?_;intro hb)))
  | ((with_reducible refine zaa ?_ ?_)<;>(intro hb;rw [hb];revert hb;(first | exact i0_ | (refine i_ ?_;intro hb))))
  | refine r_ ?_
  | refine k_ ?_
  | (refine q_ (zpk _ _) ?_ (ha:=by exact zgd))
  | refine o_ ?_
  | refine f_ ?_
  | with_reducible intro b)
 all_goals first
 | (exact kxa5)
 | (exact kxba)
 | ((obtain ⟨n0,n1⟩:=zfT (n:=n) (by omega));(rw [sh7W n k n0 n1 (by omega),or7W _ (Nat.mod_lt _ (by decide)),u8_of _ (by have:=Nat.mod_lt (n.toNat / 128 ^ k) (show 0<128 by decide);omega)]);refine ⟨(k+1,b,x++[zbr ((n.toNat / 128 ^ k%128+128:Nat):Int)]),⟨by (try simp only);omega,by (rw [zqC (by omega),<-hxe]),by simp [hx]⟩,by (try simp only);omega,by simp [Sub,get],?_⟩;(exact kxce);done)
 | ((obtain ⟨n0,n1⟩:=zfT (n:=n) (by omega));(rw [sh7W n k n0 n1 (by omega),u8_of _ (by have:=Nat.mod_lt (n.toNat / 128 ^ k) (show 0<128 by decide);omega)]);refine ⟨(k+1,b,x++[zbr ((n.toNat / 128 ^ k%128:Nat):Int)]),⟨by (try simp only);omega,by (rw [zqR (by omega) (by omega),<-hxe]),by simp [hx]⟩,by (try simp only);omega,by simp [Sub,get],?_⟩;(exact kxce);done)
 | (trace_state;fail)
end
section
theorem zfH (p:Pk) (F:Own):(p.kind=3)->DC Tryz.prog 203 [.agg [.int .i64 3, .bool p.dup, .bool p.retain, .int .i64 p.qos, .int .i64 p.id, .str p.topic, .sl (p.payload.map u8), .int .i64 p.level, .str p.client, .bool p.clean, .int .i64 p.keep, .bool p.hasWill, .str p.wtopic, .sl (p.wpay.map u8), .int .i64 p.wqos, .bool p.wretain, .bool p.hasUser, .bool p.hasPass, .str p.user, .sl (p.pass.map u8), .bool p.present, .int .i64 p.code, .sl (p.subs.map encU), .sl (p.codes.map (V.int .i64))]] (([]:Own)++F) fun d G=>d = .bool (numM p)/\G=[]++F:=fun h=>by
 have:=zer p F trivial
 rwa [h] at this
attribute [local irreducible] DW SeqD DV DOp DC DVX
theorem zdW {p:Prop} (h:p:=by first | exact sv | (exact kxbo) | (exact kxbn) | (exact kxcn) | (exact kxch) | fail):p:=h
theorem zdH {P Q:Prop} (q:Q) (h:Hid Q->P:=by (intro q;simp (maxSteps:=1000000) (disch:=omega) only [push_cast,↓reduceIte,reduceCtorEq,Nat.reduceAdd,Nat.reduceMul,Nat.reduceLT,Nat.reduceLeDiff,Nat.reduceEqDiff,Nat.reduceSub,Int.reduceToNat,Int.reduceLT,Int.reduceLE,Int.reduceAdd,Int.reduceSub,Int.reduceMul,Int.reduceNeg,Nat.reduceBEq,Int.reduceBEq,Int.reduceBNe,Nat.reduceBNe,Int.reduceEq,hnum,hkd,hsub,hcod];exact q.1)):P:=h ⟨q⟩
section
attribute [local push_cast 2000] zih ziy zaU zbv zbg za1 zaA
theorem wbQ_dc (p:Pk) (F:Own):(PkN p/\p.kind=3/\p.subs.length=0/\p.codes.length=0/\numM p=true)->DC Tryz.prog 151 [.agg [.int .i64 p.kind, .bool p.dup, .bool p.retain, .int .i64 p.qos, .int .i64 p.id, .str p.topic, .sl (p.payload.map u8), .int .i64 p.level, .str p.client, .bool p.clean, .int .i64 p.keep, .bool p.hasWill, .str p.wtopic, .sl (p.wpay.map u8), .int .i64 p.wqos, .bool p.wretain, .bool p.hasUser, .bool p.hasPass, .str p.user, .sl (p.pass.map u8), .bool p.present, .int .i64 p.code, .sl (p.subs.map encU), .sl (p.codes.map (V.int .i64))]] (([]:Own)++F) fun d G=>∃ v':Value,d = .ar v' ((zbC p.topic++twoM p.id++p.payload)).length/\G = .arr 1 v' (((zbC p.topic++twoM p.id++p.payload)).map u8)::F:=by
 intro hA
 obtain ⟨hp,hkd,hsub,hcod,hnum⟩:=hA
 refine DC.bodyS (n_:=73) (show Tryz.prog.funcs[151]? = some Tryz.f151 by kernel_rfl) rfl rfl (by rfl) ?_
 simp only [env0,List.cons_append,List.nil_append]
 have kw:=ksIs [0,1,2,3,5,7,9,10,14,24,30,36,37,38,39,48,57,58,59,60]
 have ow:=zaf []
 have dw6:=drIs 6 [] [1,2,5]
 have h1:=hp.topic;have h2:=hp.payload
 repeat' (first
  | ((with_reducible refine DW.loopB 1 (X:=Nat) (fun x=>x<=0) (fun x=>[(1, .sp [.int .i64 3, .bool p.dup, .bool p.retain, .int .i64 p.qos, .int .i64 p.id, .str p.topic, .sl (p.payload.map u8), .int .i64 p.level, .str p.client, .bool p.clean, .int .i64 p.keep, .bool p.hasWill, .str p.wtopic, .sl (p.wpay.map u8), .int .i64 p.wqos, .bool p.wretain, .bool p.hasUser, .bool p.hasPass, .str p.user, .sl (p.pass.map u8), .bool p.present, .int .i64 p.code, .sl (p.subs.map encU), .sl (p.codes.map (V.int .i64))]),(3, .ar v2 (zbC p.topic++twoM p.id).length),(36, .sl (p.subs.map encU)),(37, .int .i64 0),(38, .int .i64 x)]) (fun x=>.arr 1 v2 ((zbC p.topic++twoM p.id).map u8)::([]:Own)) (fun x=>0) (0) ?_ ?_ ?_);exact (Nat.zero_le _);(exact kxcm);(try simp only [List.cons_append,List.nil_append]);refine pl_ ?_;intro k hk;(try simp only [List.cons_append,List.nil_append]);(try simp only at hk))
  | ((with_reducible refine DW.loopB 3 (X:=Nat) (fun x=>x<=0) (fun x=>[(1, .sp [.int .i64 3, .bool p.dup, .bool p.retain, .int .i64 p.qos, .int .i64 p.id, .str p.topic, .sl (p.payload.map u8), .int .i64 p.level, .str p.client, .bool p.clean, .int .i64 p.keep, .bool p.hasWill, .str p.wtopic, .sl (p.wpay.map u8), .int .i64 p.wqos, .bool p.wretain, .bool p.hasUser, .bool p.hasPass, .str p.user, .sl (p.pass.map u8), .bool p.present, .int .i64 p.code, .sl (p.subs.map encU), .sl (p.codes.map (V.int .i64))]),(3, .ar v2 (zbC p.topic++twoM p.id).length),(57, .sl (p.codes.map (V.int .i64))),(58, .int .i64 0),(59, .int .i64 x)]) (fun x=>.arr 1 v2 ((zbC p.topic++twoM p.id).map u8)::([]:Own)) (fun x=>0) (0) ?_ ?_ ?_);exact (Nat.zero_le _);(exact kxcm);(try simp only [List.cons_append,List.nil_append]);refine pl_ ?_;intro i hi;(try simp only [List.cons_append,List.nil_append]);(try simp only at hi))
  | refine g_ ?_
  | ((with_reducible refine And.intro ?_ ?_);(exact zdW))
  | (refine DW.cond (by rfl) ?_ ?_<;>(first | exact i0_ | (intro hb;(try simp only [↓reduceCtorEq,not_true_eq_false,not_false_eq_true,hbs,Int.reduceBEq,Int.reduceBNe,Int.reduceEq] at hb);(try refine zdH ?_))))
  | ((with_reducible first | refine zaa ?_ ?_ | refine zak ?_ ?_)<;>(intro hb;rw [hb];revert hb;(first | exact i0_ | (intro hb;(try simp only [↓reduceCtorEq,not_true_eq_false,not_false_eq_true,hbs,Int.reduceBEq,Int.reduceBNe,Int.reduceEq] at hb);(try refine zdH ?_)))))
  | ((first | refine rn_ ?_ | refine dn_ ?_ | refine kn_ ?_)<;>(refine zdH ?_))
  | ((refine dm_ ?_);(first | (refine v_ (zfH _ _) ?_ (ha:=by exact zdW) (hk:=fun q=>q.1);refine zdH ?_)))
  | ((refine von_ ?_);refine zdH ?_)
  | (refine q_ (zfH _ _) ?_ (ha:=by exact zdW) (hk:=fun q=>q.1);refine zdH ?_)
  | (refine p_ (zi1 _ _) ?_ (ha:=by exact zdW);rintro d H1 ⟨v1,rfl,rfl⟩<;>refine zdH ?_)
  | (refine p_ (zm9 _ _ _ _ _) ?_ (ha:=by exact zdW);rintro d H1 ⟨v2,rfl,rfl⟩<;>refine zdH ?_)
  | ((refine on_ ?_);refine zdH ?_)
  | refine f_ ?_
  | refine vm_ ?_
  | with_reducible intro b)
 all_goals first
 | (exact kxbl)
 | (exact kxbm)
 | (trace_state;fail)
end
theorem zdR {p:Prop} (h:p:=by first | exact sv | (exact kxbo) | (exact kxbn) | (exact kxcn) | (exact kxch) | fail):p:=h
section
attribute [local push_cast 2000] zih ziy zaU zbv zbg za1 zaA
theorem wbZ_dc (p:Pk) (F:Own):(PkN p/\p.kind=3/\p.subs.length=0/\p.codes.length=0/\numM p=false)->DC Tryz.prog 151 [.agg [.int .i64 p.kind, .bool p.dup, .bool p.retain, .int .i64 p.qos, .int .i64 p.id, .str p.topic, .sl (p.payload.map u8), .int .i64 p.level, .str p.client, .bool p.clean, .int .i64 p.keep, .bool p.hasWill, .str p.wtopic, .sl (p.wpay.map u8), .int .i64 p.wqos, .bool p.wretain, .bool p.hasUser, .bool p.hasPass, .str p.user, .sl (p.pass.map u8), .bool p.present, .int .i64 p.code, .sl (p.subs.map encU), .sl (p.codes.map (V.int .i64))]] (([]:Own)++F) fun d G=>∃ v':Value,d = .ar v' ((zbC p.topic++p.payload)).length/\G = .arr 1 v' (((zbC p.topic++p.payload)).map u8)::F:=by
 intro hA
 obtain ⟨hp,hkd,hsub,hcod,hnum⟩:=hA
 refine DC.bodyS (n_:=73) (show Tryz.prog.funcs[151]? = some Tryz.f151 by kernel_rfl) rfl rfl (by rfl) ?_
 simp only [env0,List.cons_append,List.nil_append]
 have kw:=ksIs [0,1,2,3,5,7,9,10,14,24,30,36,37,38,39,48,57,58,59,60]
 have ow:=zaf []
 have dw6:=drIs 6 [] [1,2,5]
 have h1:=hp.topic;have h2:=hp.payload
 repeat' (first
  | ((with_reducible refine DW.loopB 1 (X:=Nat) (fun x=>x<=0) (fun x=>[(1, .sp [.int .i64 3, .bool p.dup, .bool p.retain, .int .i64 p.qos, .int .i64 p.id, .str p.topic, .sl (p.payload.map u8), .int .i64 p.level, .str p.client, .bool p.clean, .int .i64 p.keep, .bool p.hasWill, .str p.wtopic, .sl (p.wpay.map u8), .int .i64 p.wqos, .bool p.wretain, .bool p.hasUser, .bool p.hasPass, .str p.user, .sl (p.pass.map u8), .bool p.present, .int .i64 p.code, .sl (p.subs.map encU), .sl (p.codes.map (V.int .i64))]),(3, .ar v1 (zbC p.topic).length),(36, .sl (p.subs.map encU)),(37, .int .i64 0),(38, .int .i64 x)]) (fun x=>.arr 1 v1 ((zbC p.topic).map u8)::([]:Own)) (fun x=>0) (0) ?_ ?_ ?_);exact (Nat.zero_le _);(exact kxcm);(try simp only [List.cons_append,List.nil_append]);refine pl_ ?_;intro k hk;(try simp only [List.cons_append,List.nil_append]);(try simp only at hk))
  | ((with_reducible refine DW.loopB 3 (X:=Nat) (fun x=>x<=0) (fun x=>[(1, .sp [.int .i64 3, .bool p.dup, .bool p.retain, .int .i64 p.qos, .int .i64 p.id, .str p.topic, .sl (p.payload.map u8), .int .i64 p.level, .str p.client, .bool p.clean, .int .i64 p.keep, .bool p.hasWill, .str p.wtopic, .sl (p.wpay.map u8), .int .i64 p.wqos, .bool p.wretain, .bool p.hasUser, .bool p.hasPass, .str p.user, .sl (p.pass.map u8), .bool p.present, .int .i64 p.code, .sl (p.subs.map encU), .sl (p.codes.map (V.int .i64))]),(3, .ar v1 (zbC p.topic).length),(57, .sl (p.codes.map (V.int .i64))),(58, .int .i64 0),(59, .int .i64 x)]) (fun x=>.arr 1 v1 ((zbC p.topic).map u8)::([]:Own)) (fun x=>0) (0) ?_ ?_ ?_);exact (Nat.zero_le _);(exact kxcm);(try simp only [List.cons_append,List.nil_append]);refine pl_ ?_;intro i hi;(try simp only [List.cons_append,List.nil_append]);(try simp only at hi))
  | refine g_ ?_
  | ((with_reducible refine And.intro ?_ ?_);(exact zdR))
  | (refine DW.cond (by rfl) ?_ ?_<;>(first | exact i0_ | (intro hb;(try simp only [↓reduceCtorEq,not_true_eq_false,not_false_eq_true,hbs,Int.reduceBEq,Int.reduceBNe,Int.reduceEq] at hb);(try refine zdH ?_))))
  | ((with_reducible first | refine zaa ?_ ?_ | refine zak ?_ ?_)<;>(intro hb;rw [hb];revert hb;(first | exact i0_ | (intro hb;(try simp only [↓reduceCtorEq,not_true_eq_false,not_false_eq_true,hbs,Int.reduceBEq,Int.reduceBNe,Int.reduceEq] at hb);(try refine zdH ?_)))))
  | ((first | refine rn_ ?_ | refine dn_ ?_ | refine kn_ ?_)<;>(refine zdH ?_))
  | ((refine dm_ ?_);(first | (refine v_ (zfH _ _) ?_ (ha:=by exact zdR) (hk:=fun q=>q.1);refine zdH ?_)))
  | ((refine von_ ?_);refine zdH ?_)
  | (refine q_ (zfH _ _) ?_ (ha:=by exact zdR) (hk:=fun q=>q.1);refine zdH ?_)
  | (refine p_ (zi1 _ _) ?_ (ha:=by exact zdR);rintro d H1 ⟨v1,rfl,rfl⟩<;>refine zdH ?_)
  | (refine p_ (zm9 _ _ _ _ _) ?_ (ha:=by exact zdR);rintro d H1 ⟨v2,rfl,rfl⟩<;>refine zdH ?_)
  | ((refine on_ ?_);refine zdH ?_)
  | refine f_ ?_
  | refine vm_ ?_
  | with_reducible intro b)
 all_goals first
 | (exact kxbl)
 | (exact kxbm)
 | (trace_state;fail)
end
theorem zeU {p:Prop} (h:p:=by first | exact sv | (exact kxbo) | (exact kxbn) | (exact kxcn) | (exact kxch) | fail):p:=h
theorem zev {P Q:Prop} (q:Q) (h:Hid Q->P:=by (intro q;simp (maxSteps:=1000000) (disch:=omega) only [push_cast,↓reduceIte,reduceCtorEq,Nat.reduceAdd,Nat.reduceMul,Nat.reduceLT,Nat.reduceLeDiff,Nat.reduceEqDiff,Nat.reduceSub,Int.reduceToNat,Int.reduceLT,Int.reduceLE,Int.reduceAdd,Int.reduceSub,Int.reduceMul,Int.reduceNeg,Nat.reduceBEq,Int.reduceBEq,Int.reduceBNe,Nat.reduceBNe,Int.reduceEq,hnum,hkd,hsub];exact q.1)):P:=h ⟨q⟩
section
attribute [local push_cast 2000] zih ziy zaU zbv zbg za1 zaA
theorem wbA_dc (p:Pk) (F:Own):(PkN p/\(p.kind=4\/p.kind=5\/p.kind=6\/p.kind=7\/p.kind=9\/p.kind=11)/\p.subs.length=0/\p.payload.length=0/\numM p=true)->DC Tryz.prog 151 [.agg [.int .i64 p.kind, .bool p.dup, .bool p.retain, .int .i64 p.qos, .int .i64 p.id, .str p.topic, .sl (p.payload.map u8), .int .i64 p.level, .str p.client, .bool p.clean, .int .i64 p.keep, .bool p.hasWill, .str p.wtopic, .sl (p.wpay.map u8), .int .i64 p.wqos, .bool p.wretain, .bool p.hasUser, .bool p.hasPass, .str p.user, .sl (p.pass.map u8), .bool p.present, .int .i64 p.code, .sl (p.subs.map encU), .sl (p.codes.map (V.int .i64))]] (([]:Own)++F) fun d G=>∃ v':Value,d = .ar v' ((twoM p.id++p.codes.map zbr)).length/\G = .arr 1 v' (((twoM p.id++p.codes.map zbr)).map u8)::F:=by
 intro hA
 obtain ⟨hp,hkk,hsub,hpl,hnum⟩:=hA
 refine DC.bodyS (n_:=73) (show Tryz.prog.funcs[151]? = some Tryz.f151 by kernel_rfl) rfl rfl (by rfl) ?_
 simp only [env0,List.cons_append,List.nil_append]
 have kw:=ksIs [0,1,2,3,5,7,9,10,14,24,30,36,37,38,39,48,57,58,59,60]
 have ow:=zaf []
 have dw6:=drIs 6 [] [1,2,5]
 have s2:=hp.codes
 have hkd:True:=trivial
 repeat' (first
  | ((with_reducible refine DW.loopB 1 (X:=Nat) (fun x=>x<=0) (fun x=>[(1, .sp [.int .i64 p.kind, .bool p.dup, .bool p.retain, .int .i64 p.qos, .int .i64 p.id, .str p.topic, .sl (p.payload.map u8), .int .i64 p.level, .str p.client, .bool p.clean, .int .i64 p.keep, .bool p.hasWill, .str p.wtopic, .sl (p.wpay.map u8), .int .i64 p.wqos, .bool p.wretain, .bool p.hasUser, .bool p.hasPass, .str p.user, .sl (p.pass.map u8), .bool p.present, .int .i64 p.code, .sl (p.subs.map encU), .sl (p.codes.map (V.int .i64))]),(3, .ar v1 (twoM p.id).length),(36, .sl (p.subs.map encU)),(37, .int .i64 0),(38, .int .i64 x)]) (fun x=>.arr 1 v1 ((twoM p.id).map u8)::([]:Own)) (fun x=>0) (0) ?_ ?_ ?_);exact (Nat.zero_le _);(exact kxcm);(try simp only [List.cons_append,List.nil_append]);refine pl_ ?_;intro k hk;(try simp only [List.cons_append,List.nil_append]);(try simp only at hk))
  | ((with_reducible refine DW.loopB 3 (X:=Nat×Value×YSw) (fun x=>x.1<=p.codes.length/\x.2.2=twoM p.id++(p.codes.take x.1).map zbr/\x.2.2.length<=2+x.1) (fun x=>[(1, .sp [.int .i64 p.kind, .bool p.dup, .bool p.retain, .int .i64 p.qos, .int .i64 p.id, .str p.topic, .sl (p.payload.map u8), .int .i64 p.level, .str p.client, .bool p.clean, .int .i64 p.keep, .bool p.hasWill, .str p.wtopic, .sl (p.wpay.map u8), .int .i64 p.wqos, .bool p.wretain, .bool p.hasUser, .bool p.hasPass, .str p.user, .sl (p.pass.map u8), .bool p.present, .int .i64 p.code, .sl (p.subs.map encU), .sl (p.codes.map (V.int .i64))]),(3, .ar x.2.1 x.2.2.length),(57, .sl (p.codes.map (V.int .i64))),(58, .int .i64 p.codes.length),(59, .int .i64 x.1)]) (fun x=>.arr 1 x.2.1 (x.2.2.map u8)::([]:Own)) (fun x=>p.codes.length - x.1) ((0,v1,twoM p.id)) ?_ ?_ ?_);exact (⟨Nat.zero_le _,by simp,by simp [za1]⟩);(exact kxcm);(try simp only [List.cons_append,List.nil_append]);refine pl_ ?_;intro ⟨i,z,m⟩ ⟨hi,hme,hmi⟩;(try simp only [List.cons_append,List.nil_append]);(try simp only at hi hme hmi))
  | refine g_ ?_
  | ((with_reducible refine And.intro ?_ ?_);(exact zeU))
  | (refine DW.cond (by rfl) ?_ ?_<;>(first | exact i0_ | (intro hb;(try simp only [↓reduceCtorEq,not_true_eq_false,not_false_eq_true,hbs,Int.reduceBEq,Int.reduceBNe,Int.reduceEq] at hb);(try refine zev ?_))))
  | ((with_reducible first | refine zaa ?_ ?_ | refine zak ?_ ?_)<;>(intro hb;rw [hb];revert hb;(first | exact i0_ | (intro hb;(try simp only [↓reduceCtorEq,not_true_eq_false,not_false_eq_true,hbs,Int.reduceBEq,Int.reduceBNe,Int.reduceEq] at hb);(try refine zev ?_)))))
  | ((first | refine rn_ ?_ | refine dn_ ?_ | refine kn_ ?_)<;>(refine zev ?_))
  | ((refine dm_ ?_);(first | (refine v_ (zer _ _) ?_ (ha:=by exact zeU) (hk:=fun q=>q.1);refine zev ?_)))
  | ((refine von_ ?_);refine zev ?_)
  | (refine q_ (zer _ _) ?_ (ha:=by exact zeU) (hk:=fun q=>q.1);refine zev ?_)
  | (refine p_ (zkE _ _) ?_ (ha:=by exact zeU);rintro d H1 ⟨v1,rfl,rfl⟩<;>refine zev ?_)
  | ((refine on_ ?_);refine zev ?_)
  | refine f_ ?_
  | refine vm_ ?_
  | with_reducible intro b)
 all_goals first
 | ((have hii:i=p.codes.length:=by omega);(subst hii);(rw [List.take_of_length_le (Nat.le_refl _)] at hme);(rw [List.length_eq_zero_iff.1 hpl]);(simp only [List.map_nil,List.append_nil,List.length_nil,Nat.add_zero]);(rw [hme]);(refine ⟨_,_,le.of_eq ?_,⟨b,rfl,rfl⟩,?_⟩);(focus (congr 1;simp [za1]));(exact sub_);done)
 | (refine ⟨(i+1,b,m++[zbr (p.codes.getD i default)]),⟨by (try simp only);omega,by (rw [zmV (by omega),hme];simp),by ((try simp only [List.length_append,List.length_cons,List.length_nil,za1,zaA,List.length_map])<;>omega)⟩,by (try simp only);omega,by simp [Sub,get],?_⟩;(exact kxce);done)
 | (trace_state;fail)
end
theorem zgk {p:Prop} (h:p:=by first | exact sv | (exact kxbo) | (exact kxbn) | (exact kxcn) | (exact kxch) | fail):p:=h
section
attribute [local push_cast 2000] zih ziy zaU zbv zbg za1 zaA
theorem wb2_dc (p:Pk) (F:Own):(p.kind=2)->DC Tryz.prog 151 [.agg [.int .i64 p.kind, .bool p.dup, .bool p.retain, .int .i64 p.qos, .int .i64 p.id, .str p.topic, .sl (p.payload.map u8), .int .i64 p.level, .str p.client, .bool p.clean, .int .i64 p.keep, .bool p.hasWill, .str p.wtopic, .sl (p.wpay.map u8), .int .i64 p.wqos, .bool p.wretain, .bool p.hasUser, .bool p.hasPass, .str p.user, .sl (p.pass.map u8), .bool p.present, .int .i64 p.code, .sl (p.subs.map encU), .sl (p.codes.map (V.int .i64))]] (([]:Own)++F) fun d G=>d = .sl ([zbr (if p.present=true then 1 else 0),zbr p.code].map u8)/\G=[]++F:=by
 intro hA
 have hkd:=hA
 refine DC.bodyS (n_:=73) (show Tryz.prog.funcs[151]? = some Tryz.f151 by kernel_rfl) rfl rfl (by rfl) ?_
 simp only [env0,List.cons_append,List.nil_append]
 have kw:=ksIs [0,1,2,3,5,7,9,10,14,24,30,36,37,38,39,48,57,58,59,60]
 have ow:=zaf []
 have dw6:=drIs 6 [] [1,2,5]
 have hnum:True:=trivial
 have hsub:True:=trivial
 repeat' (first
  | refine g_ ?_
  | ((with_reducible refine And.intro ?_ ?_);(exact zgk))
  | (refine DW.cond (by rfl) ?_ ?_<;>(first | exact i0_ | (intro hb;(try simp only [↓reduceCtorEq,not_true_eq_false,not_false_eq_true,hbs,Int.reduceBEq,Int.reduceBNe,Int.reduceEq] at hb);(try refine zev ?_))))
  | ((with_reducible first | refine zaa ?_ ?_ | refine zak ?_ ?_)<;>(intro hb;rw [hb];revert hb;(first | exact i0_ | (intro hb;(try simp only [↓reduceCtorEq,not_true_eq_false,not_false_eq_true,hbs,Int.reduceBEq,Int.reduceBNe,Int.reduceEq] at hb);(try refine zev ?_)))))
  | ((first | refine rn_ ?_ | refine dn_ ?_ | refine kn_ ?_)<;>(refine zev ?_))
  | ((refine dm_ ?_);(first | (refine v_ (zfU _ _ _) ?_ (ha:=by exact zgk) (hk:=fun q=>q.1);refine zev ?_)))
  | ((refine von_ ?_);refine zev ?_)
  | (refine q_ (zfU _ _ _) ?_ (ha:=by exact zgk) (hk:=fun q=>q.1);refine zev ?_)
  | ((refine on_ ?_);refine zev ?_)
  | refine f_ ?_
  | refine vm_ ?_
  | with_reducible intro b)
 all_goals first
 | ((rw [show V.int .u8 (if p.present=true then 1 else 0)=u8 (zbr (if p.present=true then 1 else 0)) from zqr (by split<;>omega),zcn]);(first | exact fin_ | refine finq_ ?_);done)
 | (trace_state;fail)
end
theorem zkJ (F:Own):True->DC Tryz.prog 203 [.agg [.int .i64 13, .bool false, .bool false, .int .i64 0, .int .i64 0, .str [], .sl [], .int .i64 0, .str [], .bool false, .int .i64 0, .bool false, .str [], .sl [], .int .i64 0, .bool false, .bool false, .bool false, .str [], .sl [], .bool false, .int .i64 0, .sl [], .sl []]] (([]:Own)++F) fun d G=>d = .bool false/\G=[]++F:=fun _=>zer (ackP 13 0) F trivial
theorem wb13_dc  (F:Own):(True)->DC Tryz.prog 151 [.agg [.int .i64 13, .bool false, .bool false, .int .i64 0, .int .i64 0, .str [], .sl [], .int .i64 0, .str [], .bool false, .int .i64 0, .bool false, .str [], .sl [], .int .i64 0, .bool false, .bool false, .bool false, .str [], .sl [], .bool false, .int .i64 0, .sl [], .sl []]] (([]:Own)++F) fun d G=>d = .sl []/\G=[]++F:=by
 intro hA
 refine DC.bodyS (n_:=73) (show Tryz.prog.funcs[151]? = some Tryz.f151 by kernel_rfl) rfl rfl (by rfl) ?_
 simp only [env0,List.cons_append,List.nil_append]
 have kw:=ksIs [0,1,2,3,5,7,9,10,14,24,30,36,37,38,39,48,57,58,59,60]
 have ow:=zaf []
 have dw6:=drIs 6 [] [1,2,5]
 repeat' (first
  | ((with_reducible refine DW.loopB 1 (X:=Nat) (fun x=>x<=0) (fun x=>[(1, .sp [.int .i64 13, .bool false, .bool false, .int .i64 0, .int .i64 0, .str [], .sl [], .int .i64 0, .str [], .bool false, .int .i64 0, .bool false, .str [], .sl [], .int .i64 0, .bool false, .bool false, .bool false, .str [], .sl [], .bool false, .int .i64 0, .sl [], .sl []]),(3, .gs (.slice none 0 0) []),(36, .sl []),(37, .int .i64 0),(38, .int .i64 x)]) (fun x=>([]:Own)) (fun x=>0) (0) ?_ ?_ ?_);exact (Nat.zero_le _);(exact kxcm);(try simp only [List.cons_append,List.nil_append]);refine pl_ ?_;intro k hk;(try simp only [List.cons_append,List.nil_append]);(try simp only at hk))
  | ((with_reducible refine DW.loopB 3 (X:=Nat) (fun x=>x<=0) (fun x=>[(1, .sp [.int .i64 13, .bool false, .bool false, .int .i64 0, .int .i64 0, .str [], .sl [], .int .i64 0, .str [], .bool false, .int .i64 0, .bool false, .str [], .sl [], .int .i64 0, .bool false, .bool false, .bool false, .str [], .sl [], .bool false, .int .i64 0, .sl [], .sl []]),(3, .gs (.slice none 0 0) []),(57, .sl []),(58, .int .i64 0),(59, .int .i64 x)]) (fun x=>([]:Own)) (fun x=>0) (0) ?_ ?_ ?_);exact (Nat.zero_le _);(exact kxcm);(try simp only [List.cons_append,List.nil_append]);refine pl_ ?_;intro k hk;(try simp only [List.cons_append,List.nil_append]);(try simp only at hk))
  | refine g_ ?_
  | ((with_reducible refine And.intro ?_ ?_);(exact sv))
  | (refine DW.cond (by rfl) ?_ ?_<;>(first | exact i0_ | (refine ic_ ?_;intro hb)))
  | ((with_reducible first | refine zaa ?_ ?_ | refine zak ?_ ?_)<;>(intro hb;rw [hb];revert hb;(first | exact i0_ | (refine i_ ?_;intro hb))))
  | refine r_ ?_
  | refine d_ ?_
  | refine k_ ?_
  | ((refine dm_ ?_);(first | (refine v_ (zkJ _) ?_)))
  | refine vo_ ?_
  | (refine q_ (zkJ _) ?_)
  | refine o_ ?_
  | refine f_ ?_
  | refine vm_ ?_
  | with_reducible intro b)
 (first | exact fin_ | refine finq_ ?_)
 all_goals rfl
end
section
theorem zpb:capI (.slice none 0 0)=0:=rfl
def encB (l:YS):V:=.sl (l.map u8)
def sumN (ls:List YS):Nat:=ls.flatten.length
theorem zrf {ls:List YS} {k:Nat} (h:k<ls.length):sumN (ls.take (k+1))=sumN (ls.take k)+(ls.getD k default).length:=by
 unfold sumN;rw [zex h,List.flatten_append,List.length_append];simp
theorem zqP {ls:List YS} {k:Nat} (h:k<ls.length):(ls.take (k+1)).flatten=(ls.take k).flatten++ls.getD k default:=by
 rw [zex h,List.flatten_append];simp
theorem zhE {ls:List YS} (k:Nat):sumN (ls.take k)<=sumN ls:=by
 unfold sumN
 conv=>rhs;rw [<-List.take_append_drop k ls,List.flatten_append,List.length_append]
 omega
theorem sumN_or {ls:List YS} {k:Nat} (h:k<=ls.length):k<ls.length\/sumN (ls.take k)=sumN ls:=by
 rcases Nat.lt_or_ge k ls.length with h1 | h1
 · exact .inl h1
 · exact .inr (by rw [List.take_of_length_le h1])
theorem znS {ls:List YS} (k:Nat):(ls.getD k default).length<=sumN ls:=by
 rcases Nat.lt_or_ge k ls.length with h | h
 · have:=zrf h;have:=zhE (ls:=ls) (k+1);omega
 · rw [List.getD_eq_getElem?_getD,List.getElem?_eq_none h];exact Nat.zero_le _
theorem sumN_0 (ls:List YS):sumN (ls.take 0)=0:=rfl
theorem sumN_00:sumN []=0:=rfl
attribute [local irreducible] DW SeqD DV DOp DC DVX DVJ sumN
section
attribute [local push_cast 2000] zpb AppZ Int.sub_zero Int.zero_add Nat.zero_add zhx zjF zh0 zjX Nat.sub_zero List.drop_zero List.take_zero
theorem grow_dc (n:Int) (F:Own):(0<n/\n<=1000000)->DC Tryz.prog 206 [.gs (.slice none 0 0) [], .int .i64 n] (([]:Own)++F) fun d G=>∃ v,d = .ar v 0/\G = .arr 1 v []::F:=by
 intro hA
 obtain ⟨hn0,hn1⟩:=hA
 refine DC.bodyS (n_:=27) (show Tryz.prog.funcs[206]? = some Tryz.f206 by kernel_rfl) rfl rfl (by rfl) ?_
 simp only [env0,List.cons_append,List.nil_append]
 have kw:=ksIs [0,1,4,6,16]
 have ow:=zaf []
 repeat' (first
  | ((fail_if_success (have zz:=hown));(refine DW.own0 1 0 (by rfl) ?_);(simp only [zc1,zdn,Nat.reduceEqDiff,↓reduceIte,if_true,if_false,reduceCtorEq]);(have hown:True:=trivial))
  | ((with_reducible apply DW.preR 6 0);(focus (exact rfl));(repeat (with_reducible first | refine OnA.here ?_ | refine OnA.next ?_));(refine ⟨⟨rfl,by simp⟩,?_⟩);(with_reducible intro v2);(simp only [zc1,zdn,Nat.reduceEqDiff,↓reduceIte,if_true,if_false,reduceCtorEq,Nat.zero_mul,List.take_zero]))
  | refine g_ ?_
  | ((with_reducible refine And.intro ?_ ?_);(exact sv))
  | (refine DW.cond (by rfl) ?_ ?_<;>(first | exact i0_ | (refine ic_ ?_;intro hb)))
  | ((with_reducible refine zaa ?_ ?_)<;>(intro hb;rw [hb];revert hb;(first | exact i0_ | (refine i_ ?_;intro hb))))
  | refine k_ ?_
  | ((with_reducible refine DW.regK [0,1,4,6,16] (by kernel_rfl) ?_)<;>(refine s_ ?_))
  | ((first | ((with_reducible refine SeqD.op rfl ?_);(first | (refine DOp.slicea_ rfl rfl ?_) | (refine DOp.capa_ rfl rfl ?_) | (refine DOp.lensub_ rfl rfl ?_) | (refine DOp.copyaa2_ rfl rfl rfl ?_;(repeat (with_reducible first | refine OnA.here ?_ | refine OnA.next ?_));(repeat (with_reducible first | refine OnA.here ?_ | refine OnA.next ?_))) | (refine DOp.copyas2_ rfl rfl rfl ?_;(repeat (with_reducible first | refine OnA.here ?_ | refine OnA.next ?_))) | (refine DOp.cleara2_ rfl rfl ?_;(repeat (with_reducible first | refine OnA.here ?_ | refine OnA.next ?_))) | (refine DOp.appsubz_ rfl rfl rfl ?_;(repeat (with_reducible first | refine OnA.here ?_ | refine OnA.next ?_))) | (refine DOp.appsub_ rfl rfl rfl ?_;(repeat (with_reducible first | refine OnA.here ?_ | refine OnA.next ?_))) | (refine on_ ?_))) | (refine SeqD.opP rfl ?_) | (refine DOp.slicea_ rfl rfl ?_) | (refine DOp.capa_ rfl rfl ?_) | (refine DOp.lensub_ rfl rfl ?_) | (refine DOp.copyaa2_ rfl rfl rfl ?_;(repeat (with_reducible first | refine OnA.here ?_ | refine OnA.next ?_));(repeat (with_reducible first | refine OnA.here ?_ | refine OnA.next ?_))) | (refine DOp.copyas2_ rfl rfl rfl ?_;(repeat (with_reducible first | refine OnA.here ?_ | refine OnA.next ?_))) | (refine DOp.cleara2_ rfl rfl ?_;(repeat (with_reducible first | refine OnA.here ?_ | refine OnA.next ?_))) | (refine DOp.appsubz_ rfl rfl rfl ?_;(repeat (with_reducible first | refine OnA.here ?_ | refine OnA.next ?_))) | (refine DOp.appsub_ rfl rfl rfl ?_;(repeat (with_reducible first | refine OnA.here ?_ | refine OnA.next ?_))))<;>(refine s_ ?_))
  | refine o_ ?_
  | refine f_ ?_
  | with_reducible intro b)
 all_goals first
 | (exact kxb2)
 | (trace_state;fail)
end
theorem zf3 {p:Prop} (h:p:=by first | exact sv | (refine ⟨?_,?_,fun j _=>⟨rfl,rfl⟩⟩<;>omega) | (exact kxcn) | (exact kxch) | fail):p:=h
section
attribute [local push_cast 2000] encB zaU
theorem znF (ls:List YS) (F:Own):(ls.length<=100/\0<sumN ls/\sumN ls<=1000000)->DC Tryz.prog 153 [.sl (ls.map encB)] (([]:Own)++F) fun d G=>∃ v':Value,d = .ar v' (ls.flatten).length/\G = .arr 1 v' ((ls.flatten).map u8)::F:=by
 intro hA
 obtain ⟨hl,hs0,hs1⟩:=hA
 refine DC.bodyS (n_:=36) (show Tryz.prog.funcs[153]? = some Tryz.f153 by kernel_rfl) rfl rfl (by rfl) ?_
 simp only [env0,List.map_nil,List.cons_append,List.nil_append]
 have kw:=ksIs [0,2,3,5,6,8,9,10,11,12,20,25,26,27,28]
 have ow:=zaf []
 repeat' (first
  | ((with_reducible refine DW.loopB 0 (X:=Nat) (fun x=>x<=ls.length) (fun x=>[(0, .sl (ls.map encB)),(3, .int .i64 (sumN (ls.take x))),(9, .sl (ls.map encB)),(10, .int .i64 ls.length),(11, .int .i64 x)]) (fun x=>([]:Own)) (fun x=>ls.length - x) (0) ?_ ?_ ?_);exact (Nat.zero_le _);(simp [Sub,get,zaP,sumN_0,sumN_00]<;>fail);(try simp only [List.map_nil,List.cons_append,List.nil_append]);refine pl_ ?_;intro k hk;(try simp only [List.map_nil,List.cons_append,List.nil_append]);(try simp only at hk);have hsk:=zhE (ls:=ls) k;have hsk1:=zhE (ls:=ls) (k+1);have hgk:=znS (ls:=ls) k;have hor:=sumN_or hk)
  | ((with_reducible refine DW.loopB 2 (X:=Nat×Value×YSw) (fun x=>x.1<=ls.length/\x.2.2=(ls.take x.1).flatten/\x.2.2.length<=sumN ls) (fun x=>[(6, .ar x.2.1 x.2.2.length),(25, .sl (ls.map encB)),(26, .int .i64 ls.length),(27, .int .i64 x.1)]) (fun x=>.arr 1 x.2.1 (x.2.2.map u8)::([]:Own)) (fun x=>ls.length - x.1) ((0,v1,[])) ?_ ?_ ?_);exact (⟨Nat.zero_le _,rfl,Nat.zero_le _⟩);(exact kxcm);(try simp only [List.map_nil,List.cons_append,List.nil_append]);refine pl_ ?_;intro ⟨i,v,x⟩ ⟨hi,hxe,hxl⟩;(try simp only [List.map_nil,List.cons_append,List.nil_append]);(try simp only at hi hxe hxl);have hsi:=zhE (ls:=ls) (i+1);have hgi:=znS (ls:=ls) i)
  | refine g_ ?_
  | ((with_reducible refine And.intro ?_ ?_);(exact zf3))
  | (refine DW.cond (by rfl) ?_ ?_<;>(first | exact i0_ | (refine ic_ ?_;intro hb)))
  | ((with_reducible refine zaa ?_ ?_)<;>(intro hb;rw [hb];revert hb;(first | exact i0_ | (refine i_ ?_;intro hb))))
  | refine r_ ?_
  | refine k_ ?_
  | (refine p_ (grow_dc _ _) ?_ (ha:=by exact zf3);rintro d H1 ⟨v1,rfl,rfl⟩<;>refine s_ ?_)
  | refine o_ ?_
  | refine f_ ?_
  | with_reducible intro b)
 all_goals first
 | ((have e:=zrf (ls:=ls) (k:=k) (by omega));refine ⟨k+1,by (try simp only);omega,by (try simp only);omega,by simp [Sub,get,e],?_⟩;(exact sub_);done)
 | (refine ⟨(i+1,b,x++ls.getD i default),⟨by (try simp only);omega,?_,?_⟩,by (try simp only);omega,by simp [Sub,get],?_⟩;(focus ((try dsimp only);rw [zqP (by omega),<-hxe]));(focus ((try dsimp only);rw [hxe,<-zqP (by omega)];unfold sumN at hsi ⊢;exact hsi));((try dsimp only);(try rw [List.map_append]);(exact sub_));done)
 | ((have hii:i=ls.length:=by omega);(subst hii);(rw [List.take_length] at hxe);(subst hxe);refine ⟨_,_,le.rfl_,⟨_,rfl,rfl⟩,?_⟩;(exact sub_);done)
 | (trace_state;fail)
end
end
section
structure SendK (p:Pk):Prop where
 n:PkN p
 kind:p.kind=2\/p.kind=3\/p.kind=4\/p.kind=5\/p.kind=6\/p.kind=7\/p.kind=9\/p.kind=11\/p.kind=13
 only:onlyM p=p
theorem SendK.not {p:Pk} (h:SendK p):p.kind≠1/\p.kind≠8/\p.kind≠10:=by have:=h.kind;omega
theorem zeq {p:Pk} (h:SendK p):p.subs=[]/\p.client=[]/\p.wtopic=[]/\p.wpay=[]/\p.user=[]/\p.pass=[]/\p.level=0/\p.keep=0/\p.wqos=0/\p.hasPass=false/\p.hasUser=false/\(p.kind≠3->p.topic=[]/\p.payload=[]/\p.qos=0)/\(p.kind≠2->p.present=false/\p.code=0)/\(p.kind≠9->p.codes=[]):=by
 have e:=h.only
 have hk:=h.kind
 have hn:=h.not
 unfold onlyM at e
 rw [if_neg hn.1] at e
 cases p
 simp only at e hk hn
 (repeat' split at e)<;>simp only [Pk.mk.injEq] at e<;>(obtain ⟨e1,e2,e3,e4,e5,e6,e7,e8,e9,e10,e11,e12,e13,e14,e15,e16,e17,e18,e19,e20,e21,e22,e23,e24⟩:=e)<;>subst_vars<;>simp_all<;>(try omega)<;>(repeat' apply And.intro)<;>(try rfl)
theorem zlA {p:Pk} (h:SendK p):zaj p=(valM p&&decide ((zbl p).length<=8192)):=by
 obtain ⟨f1,f2,f3,f4,f5,f6,f7,f8,f9,f10,f11,f12,f13,f14⟩:=zeq h
 have hk:=h.kind
 have hn:=h.not
 have hs:zeT p (onlyM p)=true:=by rw [h.only];exact sameM_t rfl
 have t0:zen []=true:=by decide
 unfold zaj preM valM
 rw [hs,f1,f2,f3,f4,f5,f6,f7,f8,f9,f10,f11,t0]
 have key:∀ a b c d e:Bool,(a&&b&&c&&d&&e)=(a&&(b&&c&&d&&e)):=by intro a b c d e;cases a<;>rfl
 rcases hk with k | k | k | k | k | k | k | k | k
 case inr.inl =>
  obtain ⟨g4,g5⟩:=f13 (by omega)
  rw [f14 (by omega),g4,g5]
  simp only [k,numM]
  cases inM p.id 1 65535<;>cases inM p.qos 0 2<;>cases zen p.topic<;>cases decide ((zbl p).length<=8192)<;>by_cases hq:0<p.qos<;>simp [inM,hq]
 case inl =>
  obtain ⟨g1,g2,g3⟩:=f12 (by omega)
  rw [f14 (by omega),g1,g3,t0]
  simp only [k,numM]
  cases p.present<;>by_cases hc:p.code=0<;>by_cases h1:0<=p.code<;>by_cases h2:p.code<=5<;>simp [inM,hc,h1,h2]<;>omega
 all_goals
  obtain ⟨g1,g2,g3⟩:=f12 (by omega)
  obtain ⟨g4,g5⟩:=f13 (by omega)
  rw [g1,g3,g4,g5,t0]
 case inr.inr.inr.inr.inr.inr.inl =>
  simp only [k,numM]
  cases inM p.id 1 65535<;>cases p.codes.all zcr<;>cases decide ((zbl p).length<=8192)<;>by_cases hc:p.codes.length=0<;>simp [inM,hc]<;>omega
 all_goals
  rw [f14 (by omega)]
  simp only [k,numM]
  cases inM p.id 1 65535<;>cases decide ((zbl p).length<=8192)<;>simp [inM]
theorem send13 {p:Pk} (h:SendK p) (k:p.kind=13):p=ackP 13 0:=by
 have e:=h.only
 unfold onlyM at e
 rw [k] at e
 rw [<-e];rfl
theorem numA {p:Pk} (h:p.kind=4\/p.kind=5\/p.kind=6\/p.kind=7\/p.kind=9\/p.kind=11):numM p=true:=by
 unfold numM;rw [if_neg (by omega)];simp;omega
theorem bodyA {p:Pk} (hs:SendK p) (h:p.kind=4\/p.kind=5\/p.kind=6\/p.kind=7\/p.kind=9\/p.kind=11):zbl p=twoM p.id++p.codes.map zbr:=by
 unfold zbl
 rw [if_neg (by omega),if_neg (by omega),if_neg (by omega),if_neg (by omega),(zeq hs).1]
 simp [zin]
theorem zhD (p:Pk) (F:Own):SendK p->DC Tryz.prog 151 [.agg [.int .i64 p.kind, .bool p.dup, .bool p.retain, .int .i64 p.qos, .int .i64 p.id, .str p.topic, .sl (p.payload.map u8), .int .i64 p.level, .str p.client, .bool p.clean, .int .i64 p.keep, .bool p.hasWill, .str p.wtopic, .sl (p.wpay.map u8), .int .i64 p.wqos, .bool p.wretain, .bool p.hasUser, .bool p.hasPass, .str p.user, .sl (p.pass.map u8), .bool p.present, .int .i64 p.code, .sl (p.subs.map encU), .sl (p.codes.map (V.int .i64))]] (([]:Own)++F) fun d G=>d = .sl ((zbl p).map u8)/\G=[]++F:=fun hs=>by
 obtain ⟨f1,_,_,_,_,_,_,_,_,_,_,f12,f13,f14⟩:=zeq hs
 have frz:∀ {x:YS},x=zbl p->DC Tryz.prog 151 [.agg [.int .i64 p.kind, .bool p.dup, .bool p.retain, .int .i64 p.qos, .int .i64 p.id, .str p.topic, .sl (p.payload.map u8), .int .i64 p.level, .str p.client, .bool p.clean, .int .i64 p.keep, .bool p.hasWill, .str p.wtopic, .sl (p.wpay.map u8), .int .i64 p.wqos, .bool p.wretain, .bool p.hasUser, .bool p.hasPass, .str p.user, .sl (p.pass.map u8), .bool p.present, .int .i64 p.code, .sl (p.subs.map encU), .sl (p.codes.map (V.int .i64))]] (([]:Own)++F) (fun d G=>∃ v':Value,d = .ar v' x.length/\G = .arr 1 v' (x.map u8)::F)->DC Tryz.prog 151 [.agg [.int .i64 p.kind, .bool p.dup, .bool p.retain, .int .i64 p.qos, .int .i64 p.id, .str p.topic, .sl (p.payload.map u8), .int .i64 p.level, .str p.client, .bool p.clean, .int .i64 p.keep, .bool p.hasWill, .str p.wtopic, .sl (p.wpay.map u8), .int .i64 p.wqos, .bool p.wretain, .bool p.hasUser, .bool p.hasPass, .str p.user, .sl (p.pass.map u8), .bool p.present, .int .i64 p.code, .sl (p.subs.map encU), .sl (p.codes.map (V.int .i64))]] (([]:Own)++F) fun d G=>d = .sl ((zbl p).map u8)/\G=[]++F:=fun {x} hx h =>
  (DC.frz1 (Q:=fun y=>y=zbl p) (h.mono fun d G ⟨v,hd,hG⟩=>⟨v,x,hx,hd,hG⟩)).mono fun d G ⟨y,hy,hd,hG⟩=>by subst hy;exact ⟨hd,hG⟩
 rcases hs.kind with k | k | k | k | k | k | k | k | k
 case inl =>
  have e:zbl p=[zbr (if p.present=true then 1 else 0),zbr p.code]:=by unfold zbl;rw [if_neg (by omega),if_pos k]
  rw [e];exact wb2_dc p F k
 case inr.inl =>
  have g4:=f14 (by omega)
  cases hq:numM p with
  | true =>
   have hq0:=zrg hq
   exact frz (by unfold zbl;rw [if_neg (by omega),if_neg (by omega),if_pos k,if_pos (by omega)]) (wbQ_dc p F ⟨hs.n,k,by rw [f1];rfl,by rw [g4];rfl,hq⟩)
  | false =>
   have hq0:=zqW hq
   exact frz (by unfold zbl;rw [if_neg (by omega),if_neg (by omega),if_pos k,if_neg (by omega),List.append_nil]) (wbZ_dc p F ⟨hs.n,k,by rw [f1];rfl,by rw [g4];rfl,hq⟩)
 case inr.inr.inr.inr.inr.inr.inr.inr =>
  rw [send13 hs k]
  exact wb13_dc F trivial
 all_goals exact frz (bodyA hs (by omega)).symm (wbA_dc p F ⟨hs.n,by omega,by rw [f1];rfl,by rw [(f12 (by omega)).2.1];rfl,numA (by omega)⟩)
theorem ziG (p:Pk) (F:Own):SendK p->DC Tryz.prog 198 [.agg [.int .i64 p.kind, .bool p.dup, .bool p.retain, .int .i64 p.qos, .int .i64 p.id, .str p.topic, .sl (p.payload.map u8), .int .i64 p.level, .str p.client, .bool p.clean, .int .i64 p.keep, .bool p.hasWill, .str p.wtopic, .sl (p.wpay.map u8), .int .i64 p.wqos, .bool p.wretain, .bool p.hasUser, .bool p.hasPass, .str p.user, .sl (p.pass.map u8), .bool p.present, .int .i64 p.code, .sl (p.subs.map encU), .sl (p.codes.map (V.int .i64))]] (([]:Own)++F) fun d G=>d = .agg [.int .i64 p.kind, .bool p.dup, .bool p.retain, .int .i64 p.qos, .int .i64 p.id, .str p.topic, .sl (p.payload.map u8), .int .i64 p.level, .str p.client, .bool p.clean, .int .i64 p.keep, .bool p.hasWill, .str p.wtopic, .sl (p.wpay.map u8), .int .i64 p.wqos, .bool p.wretain, .bool p.hasUser, .bool p.hasPass, .str p.user, .sl (p.pass.map u8), .bool p.present, .int .i64 p.code, .sl (p.subs.map encU), .sl (p.codes.map (V.int .i64))]/\G=[]++F:=fun hs=>by
 have:=zql p F trivial
 rwa [hs.only] at this
theorem zl8 (p:Pk) (F:Own):True->DC Tryz.prog 154 [.agg [.int .i64 p.kind, .bool p.dup, .bool p.retain, .int .i64 p.qos, .int .i64 p.id, .str p.topic, .sl (p.payload.map u8), .int .i64 p.level, .str p.client, .bool p.clean, .int .i64 p.keep, .bool p.hasWill, .str p.wtopic, .sl (p.wpay.map u8), .int .i64 p.wqos, .bool p.wretain, .bool p.hasUser, .bool p.hasPass, .str p.user, .sl (p.pass.map u8), .bool p.present, .int .i64 p.code, .sl (p.subs.map encU), .sl (p.codes.map (V.int .i64))]] (([]:Own)++F) fun d G=>d = .int .u8 (((zeD p).toNat:Nat):Int)/\G=[]++F:=fun h=>zot p F h
theorem zlT (c:UInt8) (y z:YS) (F:Own):(y.length<=100000/\z.length<=100000)->DC Tryz.prog 153 [.sl [.sl [.int .u8 ((c.toNat:Nat):Int)], .sl (y.map u8), .sl (z.map u8)]] (([]:Own)++F) fun d G=>∃ v':Value,d = .ar v' (c::(y++z)).length/\G = .arr 1 v' ((c::(y++z)).map u8)::F:=fun ⟨hy,hz⟩=>by
 have e:([[c],y,z]:List YS).flatten=c::(y++z):=by simp
 have h:=znF [[c],y,z] F ⟨by simp,by unfold sumN;rw [e];simp,by unfold sumN;rw [e];simp;omega⟩
 rw [e] at h
 exact h
attribute [local irreducible] DW SeqD DV DOp DC DVX DVJ onlyM preM zaj valM zbl zeD varM putM
theorem zbu {p:Prop} (h:p:=by first | exact sv | exact hs | exact hs.n | exact ⟨hs.n,hs.not⟩ | fail):p:=h
theorem zg3 {P Q:Prop} (q:Q) (h:Hid Q->P:=by (intro q;simp (maxSteps:=1000000) (disch:=omega) only [push_cast,↓reduceIte,reduceCtorEq,Nat.reduceAdd,Nat.reduceMul,Nat.reduceLT,Nat.reduceLeDiff,Nat.reduceEqDiff,Nat.reduceSub,Int.reduceToNat,Int.reduceLT,Int.reduceLE,Int.reduceAdd,Int.reduceSub,Int.reduceMul,Int.reduceNeg,Nat.reduceBEq,Int.reduceBEq,Int.reduceBNe,Nat.reduceBNe,Int.reduceEq,hin,hval];exact q.1)):P:=h ⟨q⟩
theorem zod (p:Pk) (F:Own):(SendK p)->DC Tryz.prog 150 [.agg [.int .i64 p.kind, .bool p.dup, .bool p.retain, .int .i64 p.qos, .int .i64 p.id, .str p.topic, .sl (p.payload.map u8), .int .i64 p.level, .str p.client, .bool p.clean, .int .i64 p.keep, .bool p.hasWill, .str p.wtopic, .sl (p.wpay.map u8), .int .i64 p.wqos, .bool p.wretain, .bool p.hasUser, .bool p.hasPass, .str p.user, .sl (p.pass.map u8), .bool p.present, .int .i64 p.code, .sl (p.subs.map encU), .sl (p.codes.map (V.int .i64))]] ([knF,knA]++F) fun d G=>d = .bool (zaj p)/\G=[knF,knA]++F:=by
 intro hA
 have hs:=hA
 refine DC.bodyS (n_:=22) (show Tryz.prog.funcs[150]? = some Tryz.f150 by kernel_rfl) rfl rfl (by rfl) ?_
 simp only [env0,List.cons_append,List.nil_append]
 have kw:=ksIs [0,1,2]
 have ow:=zaf []
 have dw1:=drIs 1 [] [1,2,4,5,6,7,10,11,14,15]
 have hin:inM p.kind 1 14=true:=by have:=hs.kind;unfold inM;simp;omega
 have hval:True:=trivial
 clear hval
 have hrs:=zlA hs
 rcases hval:valM p with _ | _
 all_goals skip
 repeat' (first
  | refine g_ ?_
  | ((with_reducible refine And.intro ?_ ?_);(exact zbu))
  | (refine DW.cond (by rfl) ?_ ?_<;>(first | exact i0_ | (intro hb;(try simp only [↓reduceCtorEq,not_true_eq_false,not_false_eq_true,hbs,Int.reduceBEq,Int.reduceBNe,Int.reduceEq] at hb);(try refine zg3 ?_))))
  | ((with_reducible first | refine zaa ?_ ?_ | refine zak ?_ ?_)<;>(intro hb;rw [hb];revert hb;(first | exact i0_ | (intro hb;(try simp only [↓reduceCtorEq,not_true_eq_false,not_false_eq_true,hbs,Int.reduceBEq,Int.reduceBNe,Int.reduceEq] at hb);(try refine zg3 ?_)))))
  | ((first | refine rn_ ?_ | refine dn_ ?_ | refine kn_ ?_)<;>(refine zg3 ?_))
  | ((refine dm_ ?_);(first | ((first | refine v_ (zkk _ _ _ _) ?_ (ha:=by exact zbu) (hk:=fun q=>q.1) | refine v_ (zkN _ _) ?_ (ha:=by exact zbu) (hk:=fun q=>q.1) | refine v_ (zoy _ _) ?_ (ha:=by exact zbu) (hk:=fun q=>q.1));refine zg3 ?_) | (refine v_ (ziG _ _) ?_ (ha:=by exact zbu) (hk:=fun q=>q.1);refine zg3 ?_) | (refine v_ (zhD _ _) ?_ (ha:=by exact zbu) (hk:=fun q=>q.1);refine zg3 ?_)))
  | ((refine von_ ?_);refine zg3 ?_)
  | ((first | refine q_ (zkk _ _ _ _) ?_ (ha:=by exact zbu) (hk:=fun q=>q.1) | refine q_ (zkN _ _) ?_ (ha:=by exact zbu) (hk:=fun q=>q.1) | refine q_ (zoy _ _) ?_ (ha:=by exact zbu) (hk:=fun q=>q.1));refine zg3 ?_)
  | (refine q_ (ziG _ _) ?_ (ha:=by exact zbu) (hk:=fun q=>q.1);refine zg3 ?_)
  | (refine q_ (zhD _ _) ?_ (ha:=by exact zbu) (hk:=fun q=>q.1);refine zg3 ?_)
  | ((refine on_ ?_);refine zg3 ?_)
  | refine f_ ?_
  | refine vm_ ?_
  | with_reducible intro b)
 all_goals first
 | ((refine ⟨_,_,le.of_eq ?_,⟨rfl,rfl⟩,?_⟩);rotate_left;(exact sub_);(rw [hrs,hval]);(simp<;>done);done)
 | ((refine ⟨_,_,le.of_eq ?_,⟨rfl,rfl⟩,?_⟩);rotate_left;(exact sub_);(rw [hrs,hval]);congr 1;rw [Bool.eq_iff_iff];(simp<;>omega);done)
 | (trace_state;fail)
theorem zct {p:Prop} (h:p:=by first | exact sv | exact hs | (have hl8:=zjc (p:=p) (by assumption);have hv4:=zei (zbl p).length;have hz4:=zfR (zbl p).length;omega) | (simp [u8,layV,V.flat,V.n]<;>fail) | fail):p:=h
theorem zh2 {P Q:Prop} (q:Q) (h:Hid Q->P:=by (intro q;simp (maxSteps:=1000000) (disch:=omega) only [push_cast,↓reduceIte,reduceCtorEq,Nat.reduceAdd,Nat.reduceMul,Nat.reduceLT,Nat.reduceLeDiff,Nat.reduceEqDiff,Nat.reduceSub,Int.reduceToNat,Int.reduceLT,Int.reduceLE,Int.reduceAdd,Int.reduceSub,Int.reduceMul,Int.reduceNeg,Nat.reduceBEq,Int.reduceBEq,Int.reduceBNe,Nat.reduceBNe,Int.reduceEq,hrt];exact q.1)):P:=h ⟨q⟩
theorem zpO (p:Pk) (F:Own):(SendK p)->DC Tryz.prog 89 [.agg [.int .i64 p.kind, .bool p.dup, .bool p.retain, .int .i64 p.qos, .int .i64 p.id, .str p.topic, .sl (p.payload.map u8), .int .i64 p.level, .str p.client, .bool p.clean, .int .i64 p.keep, .bool p.hasWill, .str p.wtopic, .sl (p.wpay.map u8), .int .i64 p.wqos, .bool p.wretain, .bool p.hasUser, .bool p.hasPass, .str p.user, .sl (p.pass.map u8), .bool p.present, .int .i64 p.code, .sl (p.subs.map encU), .sl (p.codes.map (V.int .i64))]] ([knF,knA]++F) fun d G=>(∃ e:Int,(putM p=[]/\e=if zaj p=true then 0 else 26)/\d = .tup [.gs (.slice none 0 0) [], .int .i64 e]/\G=[knF,knA]++F)\/∃ (v:Value) (x:YS) (e:Int),(putM p=x/\e=if zaj p=true then 0 else 26)/\d = .tup [.ar v x.length, .int .i64 e]/\G = .arr 1 v (x.map u8)::([knF,knA]++F):=by
 intro hA
 have hs:=hA
 refine DC.bodyS (n_:=25) (show Tryz.prog.funcs[89]? = some Tryz.f89 by kernel_rfl) rfl rfl (by rfl) ?_
 simp only [env0,List.cons_append,List.nil_append]
 have kw:=ksIs [0,1,2,3,4,5,9]
 have ow:=zaf []
 have hrt:True:=trivial
 clear hrt
 rcases hrt:zaj p with _ | _
 all_goals skip
 repeat' (first
  | refine g_ ?_
  | ((with_reducible refine And.intro ?_ ?_);(exact zct))
  | (refine DW.cond (by rfl) ?_ ?_<;>(first | exact i0_ | (intro hb;(try simp only [↓reduceCtorEq,not_true_eq_false,not_false_eq_true,hbs,Int.reduceBEq,Int.reduceBNe,Int.reduceEq] at hb);(try refine zh2 ?_))))
  | ((with_reducible refine zaa ?_ ?_)<;>(intro hb;rw [hb];revert hb;(first | exact i0_ | (intro hb;(try simp only [↓reduceCtorEq,not_true_eq_false,not_false_eq_true,hbs,Int.reduceBEq,Int.reduceBNe,Int.reduceEq] at hb);(try refine zh2 ?_)))))
  | ((first | refine rn_ ?_ | refine kn_ ?_)<;>(refine zh2 ?_))
  | (refine q_ (zod _ _) ?_ (ha:=by exact zct) (hk:=fun q=>q.1);refine zh2 ?_)
  | (refine q_ (zhD _ _) ?_ (ha:=by exact zct) (hk:=fun q=>q.1);refine zh2 ?_)
  | (refine p_ (zpw _ _) ?_ (ha:=by exact zct);rintro d H1 ⟨e1,he1,rfl,rfl⟩<;>refine zh2 ?_)
  | (refine q_ (zl8 _ _) ?_ (ha:=by exact zct) (hk:=fun q=>q.1);refine zh2 ?_)
  | (refine p_ (zlT _ _ _ _) ?_ (ha:=by exact zct);rintro d H1 ⟨v3,rfl,rfl⟩<;>refine zh2 ?_)
  | ((refine on_ ?_);refine zh2 ?_)
  | refine f_ ?_
  | with_reducible intro b)
 all_goals first
 | (refine ⟨_,_,le.rfl_, .inl ⟨26,⟨by unfold putM;rw [if_neg (by rw [hrt];decide)],by (try rw [hrt]);rfl⟩,rfl,rfl⟩,?_⟩;(exact sub_);done)
 | ((have e0:putM p=zeD p::(varM (zbl p).length++zbl p):=by unfold putM;rw [if_pos hrt])
    refine ⟨_,_,le.of_eq ?_, .inr ⟨v3,zeD p::(varM (zbl p).length++zbl p),0,⟨e0,by (try rw [hrt]);rfl⟩,rfl,rfl⟩,?_⟩;(focus (congr 2;simp));(simp only [List.map_cons];(exact sub_));done)
 | (trace_state;fail)
theorem wput_dc (p:Pk) (F:Own):SendK p->DC Tryz.prog 89 [.agg [.int .i64 p.kind, .bool p.dup, .bool p.retain, .int .i64 p.qos, .int .i64 p.id, .str p.topic, .sl (p.payload.map u8), .int .i64 p.level, .str p.client, .bool p.clean, .int .i64 p.keep, .bool p.hasWill, .str p.wtopic, .sl (p.wpay.map u8), .int .i64 p.wqos, .bool p.wretain, .bool p.hasUser, .bool p.hasPass, .str p.user, .sl (p.pass.map u8), .bool p.present, .int .i64 p.code, .sl (p.subs.map encU), .sl (p.codes.map (V.int .i64))]] ([knF,knA]++F) fun d G=>d = .tup [.sl ((putM p).map u8), .int .i64 (if zaj p=true then 0 else 26)]/\G=[knF,knA]++F:=fun hs =>
by
 refine (DC.frzQ (F:=[knF,knA]++F) (Q:=fun x e=>putM p=x/\e=if zaj p=true then 0 else 26) (zpO p F hs)).mono fun d G h=>?_
 obtain ⟨x,e,⟨h1,h2⟩,hd,hG⟩:=h
 subst h1;subst h2;exact ⟨hd,hG⟩
end
end Go.Proofs.YtgekknefphagbaaGreatDoor
