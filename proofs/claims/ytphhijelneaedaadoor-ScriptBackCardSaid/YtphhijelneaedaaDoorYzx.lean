/- May a packet be? -/
import Derived.Test.YtphhijelneaedaaDoorYmx
import Derived.Test.YtphhijelneaedaaDoorYox
import Derived.Test.YtphhijelneaedaaDoorFzx
import Derived.KernelRfl
namespace Go.Proofs.YtphhijelneaedaaDoor
open Go.RowKit
set_option linter.unusedSimpArgs false
set_option linter.unusedVariables false
set_option linter.unusedSectionVars false
set_option maxHeartbeats 4000000
set_option maxRecDepth 100000
section
theorem DC.frz1 {P:Program} {f:FuncId} {args:List V} {H F:Own} {Q:YS->Prop}
  (h:DC P f args H fun d G=>∃ (v:Value) (x:YS),Q x/\d = .ar v x.length/\G = .arr 1 v (x.map u8)::F):DC P f args H fun d G=>∃ x:YS,Q x/\d = .sl (x.map u8)/\G=F :=
 (DC.frzX (F:=F) (X:=YS) (Q:=Q) (sz:=1) (l:=fun x=>x.map u8) (by decide) (fun x y hy=>by obtain ⟨z,_,rfl⟩:=List.mem_map.1 hy;rfl) (h.mono fun d G ⟨v,x,hq,hd,hG⟩=>⟨v,x,by rw [List.length_map];exact hd,hq,by rw [cells_u8Y];exact hG⟩)).mono fun d G ⟨x,hq,hd,hG⟩=>⟨x,hq,hd,hG⟩
inductive Bx (T:Prop):Prop where
 | mk:T->Bx T
theorem Bx.out {T:Prop} (h:Bx T):T:=by cases h;assumption
theorem cut_ {T G:Prop} (h:Bx T->G) (t:T):G:=h ⟨t⟩
theorem DW.cutB {P:Program} {n:Nat} {Q:Exit->Env->Own->Prop} {e:Env} {H:Own} (id:Nat) (e':Env) {c:Code} (he:Sub e' e) (h:DW P n (.block id (.loop c)) Q e' H):DW P n (.block id (.loop c)) Q e H:=DW.sub e' he h
attribute [local irreducible] DW SeqD DV DOp DC DVX onlyM
theorem sv_right3_pre {p:Prop} (h:p:=by first | exact sv | exact ⟨hp,only_B hp⟩ | exact hp | (have h1:=hp.topic;omega) | (have h1:=hp.client;omega) | (have h1:=hp.user;omega) | (have h1:=hp.wtopic;omega) | (have h1:=hp.flt k;omega) | fail):p:=h
section
attribute [local push_cast 2000] List.append_eq List.cons_append List.nil_append encU
theorem right3_pre (same3_dc:∀ (p q:Pk) (F:Own),(PkB p/\PkB q)->DC Tryd.prog 121 [.agg [.int .i64 p.kind, .bool p.dup, .bool p.retain, .int .i64 p.qos, .int .i64 p.id, .str p.topic, .sl (p.payload.map u8), .int .i64 p.level, .str p.client, .bool p.clean, .int .i64 p.keep, .bool p.hasWill, .str p.wtopic, .sl (p.wpay.map u8), .int .i64 p.wqos, .bool p.wretain, .bool p.hasUser, .bool p.hasPass, .str p.user, .sl (p.pass.map u8), .bool p.present, .int .i64 p.code, .sl (p.subs.map encU), .sl (p.codes.map (V.int .i64))], .agg [.int .i64 q.kind, .bool q.dup, .bool q.retain, .int .i64 q.qos, .int .i64 q.id, .str q.topic, .sl (q.payload.map u8), .int .i64 q.level, .str q.client, .bool q.clean, .int .i64 q.keep, .bool q.hasWill, .str q.wtopic, .sl (q.wpay.map u8), .int .i64 q.wqos, .bool q.wretain, .bool q.hasUser, .bool q.hasPass, .str q.user, .sl (q.pass.map u8), .bool q.present, .int .i64 q.code, .sl (q.subs.map encU), .sl (q.codes.map (V.int .i64))]] (([]:Own)++F) fun d G=>∃ r:Bool,d = .bool r/\G=([]:Own)++F) (body_dc:∀ (p:Pk) (F:Own),PkB p->DC Tryd.prog 101 [.agg [.int .i64 p.kind, .bool p.dup, .bool p.retain, .int .i64 p.qos, .int .i64 p.id, .str p.topic, .sl (p.payload.map u8), .int .i64 p.level, .str p.client, .bool p.clean, .int .i64 p.keep, .bool p.hasWill, .str p.wtopic, .sl (p.wpay.map u8), .int .i64 p.wqos, .bool p.wretain, .bool p.hasUser, .bool p.hasPass, .str p.user, .sl (p.pass.map u8), .bool p.present, .int .i64 p.code, .sl (p.subs.map encU), .sl (p.codes.map (V.int .i64))]] (([]:Own)++F) fun d G=>∃ x:YS,x.length<=2000/\d = .sl (x.map u8)/\G=[]++F) (p:Pk) (F:Own):(PkB p)->DC Tryd.prog 99 [.agg [.int .i64 p.kind, .bool p.dup, .bool p.retain, .int .i64 p.qos, .int .i64 p.id, .str p.topic, .sl (p.payload.map u8), .int .i64 p.level, .str p.client, .bool p.clean, .int .i64 p.keep, .bool p.hasWill, .str p.wtopic, .sl (p.wpay.map u8), .int .i64 p.wqos, .bool p.wretain, .bool p.hasUser, .bool p.hasPass, .str p.user, .sl (p.pass.map u8), .bool p.present, .int .i64 p.code, .sl (p.subs.map encU), .sl (p.codes.map (V.int .i64))]] (([]:Own)++F) fun d G=>∃ r:Bool,d = .bool r/\G=([]:Own)++F:=by
 intro hA
 have hp:=hA
 refine DC.bodyS (n_:=201) (show Tryd.prog.funcs[99]? = some Tryd.f99 by kernel_rfl) rfl rfl (by rfl) ?_
 simp only [env0,List.cons_append,List.nil_append]
 have kw:=ksIs [0,1,2,3,4,76,110,115,149,154,171,196]
 have ow:=ownIs []
 have dw1:=drIs 1 [2,7,8,13,17,24,30,36,42,49,56] [1]
 have s1:=hp.subs;have s2:=hp.codes
 refine cut_ (T:=?T) ?m ?t
 case m =>
  intro tail
  repeat' (first
   | ((with_reducible refine DW.cutB 0 [(1, .sp [.int .i64 p.kind, .bool p.dup, .bool p.retain, .int .i64 p.qos, .int .i64 p.id, .str p.topic, .sl (p.payload.map u8), .int .i64 p.level, .str p.client, .bool p.clean, .int .i64 p.keep, .bool p.hasWill, .str p.wtopic, .sl (p.wpay.map u8), .int .i64 p.wqos, .bool p.wretain, .bool p.hasUser, .bool p.hasPass, .str p.user, .sl (p.pass.map u8), .bool p.present, .int .i64 p.code, .sl (p.subs.map encU), .sl (p.codes.map (V.int .i64))]),(3, .int .i64 0)] ?_ ?_);(simp [Sub,get,keepL, *]<;>fail);exact tail.out)
   | refine g_ ?_
   | ((with_reducible refine And.intro ?_ ?_);(exact sv_right3_pre))
   | (refine DW.cond (by rfl) ?_ ?_<;>(first | exact i0_ | (refine ic_ ?_;intro hb)))
   | ((with_reducible first | refine FVg_cases ?_ ?_ | refine FDg_cases ?_ ?_)<;>(intro hb;rw [hb];revert hb;(first | exact i0_ | (refine i_ ?_;intro hb))))
   | refine r_ ?_
   | refine d_ ?_
   | refine k_ ?_
   | ((refine dm_ ?_);(first | (refine v_ (only3_dc _ _) ?_ (ha:=by exact sv_right3_pre))))
   | refine vo_ ?_
   | ((first | refine p_ (in3_dc _ _ _ _) ?_ (ha:=by exact sv_right3_pre) | refine p_ (text3_dc _ _) ?_ (ha:=by exact sv_right3_pre) | refine p_ (same3_dc _ _ _) ?_ (ha:=by exact sv_right3_pre) | refine p_ (numb3_dc _ _) ?_ (ha:=by exact sv_right3_pre));rintro d H1 ⟨r,rfl,hG⟩<;>(have hG:F=H1:=hG.symm;subst hG;refine s_ ?_))
   | (refine q_ (only3_dc _ _) ?_ (ha:=by exact sv_right3_pre))
   | (refine p_ (body_dc _ _) ?_ (ha:=by exact sv_right3_pre);rintro d H1 ⟨lb,hlb,rfl,hG⟩<;>(have hG:F=H1:=hG.symm;subst hG;refine s_ ?_))
   | refine o_ ?_
   | refine f_ ?_
   | refine vm_ ?_
   | with_reducible intro b)
  all_goals first
  | (refine ⟨_,_,le.rfl_,⟨_,rfl,rfl⟩,?_⟩;(exact sub_);done)
  | (refine ⟨k+1,?_,?_,?_,?_⟩;(((try simp only);omega));(((try simp only);omega));(simp [Sub,get]<;>(fail));(try dsimp only);(exact sub_);done)
  | (refine ⟨i+1,?_,?_,?_,?_⟩;(((try simp only);omega));(((try simp only);omega));(simp [Sub,get]<;>(fail));(try dsimp only);(exact sub_);done)
  | (trace_state;fail)
 case t =>
  repeat' (first
   | ((with_reducible refine DW.loopB 0 (X:=Nat) (fun x=>x<=p.subs.length) (fun x=>[(1, .sp [.int .i64 p.kind, .bool p.dup, .bool p.retain, .int .i64 p.qos, .int .i64 p.id, .str p.topic, .sl (p.payload.map u8), .int .i64 p.level, .str p.client, .bool p.clean, .int .i64 p.keep, .bool p.hasWill, .str p.wtopic, .sl (p.wpay.map u8), .int .i64 p.wqos, .bool p.wretain, .bool p.hasUser, .bool p.hasPass, .str p.user, .sl (p.pass.map u8), .bool p.present, .int .i64 p.code, .sl (p.subs.map encU), .sl (p.codes.map (V.int .i64))]),(3, .int .i64 x)]) (fun x=>([]:Own)) (fun x=>p.subs.length - x) (0) ?_ ?_ ?_);exact (Nat.zero_le _);(simp [Sub,get,keepL, *]<;>fail);(try simp only [List.cons_append,List.nil_append]);refine pl_ ?_;intro k hk;(try simp only [List.cons_append,List.nil_append]);(try simp only at hk))
   | ((with_reducible refine DW.loopB 2 (X:=Nat) (fun x=>x<=p.codes.length) (fun x=>[(1, .sp [.int .i64 p.kind, .bool p.dup, .bool p.retain, .int .i64 p.qos, .int .i64 p.id, .str p.topic, .sl (p.payload.map u8), .int .i64 p.level, .str p.client, .bool p.clean, .int .i64 p.keep, .bool p.hasWill, .str p.wtopic, .sl (p.wpay.map u8), .int .i64 p.wqos, .bool p.wretain, .bool p.hasUser, .bool p.hasPass, .str p.user, .sl (p.pass.map u8), .bool p.present, .int .i64 p.code, .sl (p.subs.map encU), .sl (p.codes.map (V.int .i64))]),(4, .int .i64 x)]) (fun x=>([]:Own)) (fun x=>p.codes.length - x) (0) ?_ ?_ ?_);exact (Nat.zero_le _);(simp [Sub,get,keepL, *]<;>fail);(try simp only [List.cons_append,List.nil_append]);refine pl_ ?_;intro i hi;(try simp only [List.cons_append,List.nil_append]);(try simp only at hi))
   | refine g_ ?_
   | ((with_reducible refine And.intro ?_ ?_);(exact sv_right3_pre))
   | (refine DW.cond (by rfl) ?_ ?_<;>(first | exact i0_ | (refine ic_ ?_;intro hb)))
   | ((with_reducible first | refine FVg_cases ?_ ?_ | refine FDg_cases ?_ ?_)<;>(intro hb;rw [hb];revert hb;(first | exact i0_ | (refine i_ ?_;intro hb))))
   | refine r_ ?_
   | refine d_ ?_
   | refine k_ ?_
   | ((refine dm_ ?_);(first | (refine v_ (only3_dc _ _) ?_ (ha:=by exact sv_right3_pre))))
   | refine vo_ ?_
   | ((first | refine p_ (in3_dc _ _ _ _) ?_ (ha:=by exact sv_right3_pre) | refine p_ (text3_dc _ _) ?_ (ha:=by exact sv_right3_pre) | refine p_ (same3_dc _ _ _) ?_ (ha:=by exact sv_right3_pre) | refine p_ (numb3_dc _ _) ?_ (ha:=by exact sv_right3_pre));rintro d H1 ⟨r,rfl,hG⟩<;>(have hG:F=H1:=hG.symm;subst hG;refine s_ ?_))
   | (refine q_ (only3_dc _ _) ?_ (ha:=by exact sv_right3_pre))
   | (refine p_ (body_dc _ _) ?_ (ha:=by exact sv_right3_pre);rintro d H1 ⟨lb,hlb,rfl,hG⟩<;>(have hG:F=H1:=hG.symm;subst hG;refine s_ ?_))
   | refine o_ ?_
   | refine f_ ?_
   | refine vm_ ?_
   | with_reducible intro b)
  all_goals first
  | (refine ⟨_,_,le.rfl_,⟨_,rfl,rfl⟩,?_⟩;(exact sub_);done)
  | (refine ⟨k+1,?_,?_,?_,?_⟩;(((try simp only);omega));(((try simp only);omega));(simp [Sub,get]<;>(fail));(try dsimp only);(exact sub_);done)
  | (refine ⟨i+1,?_,?_,?_,?_⟩;(((try simp only);omega));(((try simp only);omega));(simp [Sub,get]<;>(fail));(try dsimp only);(exact sub_);done)
  | (trace_state;fail)
end
end
end Go.Proofs.YtphhijelneaedaaDoor
