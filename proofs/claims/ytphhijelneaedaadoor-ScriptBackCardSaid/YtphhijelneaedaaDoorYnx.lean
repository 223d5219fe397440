/- Packets that are alike; a packet with the fields of its kind. -/
import Derived.Test.YtphhijelneaedaaDoorYmx
import Derived.KernelRfl
namespace Go.Proofs.YtphhijelneaedaaDoor
open Go.RowKit
set_option linter.unusedSimpArgs false
set_option linter.unusedVariables false
set_option linter.unusedSectionVars false
set_option maxHeartbeats 4000000
set_option maxRecDepth 100000
section
attribute [local irreducible] DW SeqD DV DOp DC DVX
section
attribute [local push_cast 2000] bytes_are bytes_back
theorem samew_dc (a1 a2:YS) (a3:Int) (a4:Bool) (b1 b2:YS) (b3:Int) (b4:Bool) (F:Own):(True)->DC Tryd.prog 141 [.agg [.str a1, .sl (a2.map u8), .int .i64 a3, .bool a4], .agg [.str b1, .sl (b2.map u8), .int .i64 b3, .bool b4]] (([]:Own)++F) fun d G=>∃ r:Bool,d = .bool r/\G=([]:Own)++F:=by
 intro hA
 refine DC.bodyS (n_:=33) (show Tryd.prog.funcs[141]? = some Tryd.f141 by kernel_rfl) rfl rfl (by rfl) ?_
 simp only [env0,List.cons_append,List.nil_append]
 have kw:=ksIs [0,1,2,3,4]
 have ow:=ownIs []
 repeat' (first
  | refine g_ ?_
  | ((with_reducible refine And.intro ?_ ?_);(exact sv))
  | (refine DW.cond (by rfl) ?_ ?_<;>(first | exact i0_ | (refine ic_ ?_;intro hb)))
  | ((with_reducible refine FVg_cases ?_ ?_)<;>(intro hb;rw [hb];revert hb;(first | exact i0_ | (refine i_ ?_;intro hb))))
  | refine r_ ?_
  | refine k_ ?_
  | refine o_ ?_
  | refine f_ ?_
  | with_reducible intro b)
 all_goals first
 | (refine ⟨_,_,le.rfl_,⟨_,rfl,rfl⟩,?_⟩;(exact sub_);done)
 | (trace_state;fail)
end
section
attribute [local push_cast 2000] List.append_eq List.cons_append List.nil_append bytes_are bytes_back encU
theorem same3_dc (p q:Pk) (F:Own):(PkB p/\PkB q)->DC Tryd.prog 121 [.agg [.int .i64 p.kind, .bool p.dup, .bool p.retain, .int .i64 p.qos, .int .i64 p.id, .str p.topic, .sl (p.payload.map u8), .int .i64 p.level, .str p.client, .bool p.clean, .int .i64 p.keep, .bool p.hasWill, .str p.wtopic, .sl (p.wpay.map u8), .int .i64 p.wqos, .bool p.wretain, .bool p.hasUser, .bool p.hasPass, .str p.user, .sl (p.pass.map u8), .bool p.present, .int .i64 p.code, .sl (p.subs.map encU), .sl (p.codes.map (V.int .i64))], .agg [.int .i64 q.kind, .bool q.dup, .bool q.retain, .int .i64 q.qos, .int .i64 q.id, .str q.topic, .sl (q.payload.map u8), .int .i64 q.level, .str q.client, .bool q.clean, .int .i64 q.keep, .bool q.hasWill, .str q.wtopic, .sl (q.wpay.map u8), .int .i64 q.wqos, .bool q.wretain, .bool q.hasUser, .bool q.hasPass, .str q.user, .sl (q.pass.map u8), .bool q.present, .int .i64 q.code, .sl (q.subs.map encU), .sl (q.codes.map (V.int .i64))]] (([]:Own)++F) fun d G=>∃ r:Bool,d = .bool r/\G=([]:Own)++F:=by
 intro hA
 obtain ⟨hp,hq⟩:=hA
 refine DC.bodyS (n_:=195) (show Tryd.prog.funcs[121]? = some Tryd.f121 by kernel_rfl) rfl rfl (by rfl) ?_
 simp only [env0,List.cons_append,List.nil_append]
 have kw:=ksIs [0,1,2,3,4,5,6,48,53,66,71,84]
 have ow:=ownIs []
 have dw6:=drIs 6 [] [1,4,6,9]
 have dw11:=drIs 11 [] [1,4,6,9]
 have s1:=hp.subs;have s2:=hp.codes
 repeat' (first
  | ((with_reducible refine DW.loopB 0 (X:=Nat) (fun x=>x<=p.subs.length) (fun x=>[(2, .sp [.int .i64 p.kind, .bool p.dup, .bool p.retain, .int .i64 p.qos, .int .i64 p.id, .str p.topic, .sl (p.payload.map u8), .int .i64 p.level, .str p.client, .bool p.clean, .int .i64 p.keep, .bool p.hasWill, .str p.wtopic, .sl (p.wpay.map u8), .int .i64 p.wqos, .bool p.wretain, .bool p.hasUser, .bool p.hasPass, .str p.user, .sl (p.pass.map u8), .bool p.present, .int .i64 p.code, .sl (p.subs.map encU), .sl (p.codes.map (V.int .i64))]),(3, .sp [.int .i64 q.kind, .bool q.dup, .bool q.retain, .int .i64 q.qos, .int .i64 q.id, .str q.topic, .sl (q.payload.map u8), .int .i64 q.level, .str q.client, .bool q.clean, .int .i64 q.keep, .bool q.hasWill, .str q.wtopic, .sl (q.wpay.map u8), .int .i64 q.wqos, .bool q.wretain, .bool q.hasUser, .bool q.hasPass, .str q.user, .sl (q.pass.map u8), .bool q.present, .int .i64 q.code, .sl (q.subs.map encU), .sl (q.codes.map (V.int .i64))]),(5, .int .i64 x)]) (fun x=>([]:Own)) (fun x=>p.subs.length - x) (0) ?_ ?_ ?_);exact (Nat.zero_le _);(simp [Sub,get,keepL]<;>fail);(try simp only [List.cons_append,List.nil_append]);refine pl_ ?_;intro k hk;(try simp only [List.cons_append,List.nil_append]);(try simp only at hk))
  | ((with_reducible refine DW.loopB 2 (X:=Nat) (fun x=>x<=p.codes.length) (fun x=>[(2, .sp [.int .i64 p.kind, .bool p.dup, .bool p.retain, .int .i64 p.qos, .int .i64 p.id, .str p.topic, .sl (p.payload.map u8), .int .i64 p.level, .str p.client, .bool p.clean, .int .i64 p.keep, .bool p.hasWill, .str p.wtopic, .sl (p.wpay.map u8), .int .i64 p.wqos, .bool p.wretain, .bool p.hasUser, .bool p.hasPass, .str p.user, .sl (p.pass.map u8), .bool p.present, .int .i64 p.code, .sl (p.subs.map encU), .sl (p.codes.map (V.int .i64))]),(3, .sp [.int .i64 q.kind, .bool q.dup, .bool q.retain, .int .i64 q.qos, .int .i64 q.id, .str q.topic, .sl (q.payload.map u8), .int .i64 q.level, .str q.client, .bool q.clean, .int .i64 q.keep, .bool q.hasWill, .str q.wtopic, .sl (q.wpay.map u8), .int .i64 q.wqos, .bool q.wretain, .bool q.hasUser, .bool q.hasPass, .str q.user, .sl (q.pass.map u8), .bool q.present, .int .i64 q.code, .sl (q.subs.map encU), .sl (q.codes.map (V.int .i64))]),(6, .int .i64 x)]) (fun x=>([]:Own)) (fun x=>p.codes.length - x) (0) ?_ ?_ ?_);exact (Nat.zero_le _);(simp [Sub,get,keepL]<;>fail);(try simp only [List.cons_append,List.nil_append]);refine pl_ ?_;intro i hi;(try simp only [List.cons_append,List.nil_append]);(try simp only at hi))
  | refine g_ ?_
  | ((with_reducible refine And.intro ?_ ?_);(exact sv))
  | (refine DW.cond (by rfl) ?_ ?_<;>(first | exact i0_ | (refine ic_ ?_;intro hb)))
  | ((with_reducible first | refine FVg_cases ?_ ?_ | refine FDg_cases ?_ ?_)<;>(intro hb;rw [hb];revert hb;(first | exact i0_ | (refine i_ ?_;intro hb))))
  | refine r_ ?_
  | refine d_ ?_
  | refine k_ ?_
  | refine vo_ ?_
  | (refine p_ (samew_dc _ _ _ _ _ _ _ _ _) ?_;rintro d H1 ⟨r,rfl,rfl⟩<;>refine s_ ?_)
  | refine o_ ?_
  | refine f_ ?_
  | refine vm_ ?_
  | with_reducible intro b)
 all_goals first
 | (refine ⟨_,_,le.rfl_,⟨_,rfl,rfl⟩,?_⟩;(exact sub_);done)
 | (refine ⟨k+1,?_,?_,?_,?_⟩;(((try simp only);omega));(((try simp only);omega));(simp [Sub,get]<;>(fail));(try dsimp only);(exact sub_);done)
 | (refine ⟨i+1,?_,?_,?_,?_⟩;(((try simp only);omega));(((try simp only);omega));(simp [Sub,get]<;>(fail));(try dsimp only);(exact sub_);done)
 | (trace_state;fail)
end
end
end Go.Proofs.YtphhijelneaedaaDoor
