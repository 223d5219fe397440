/- The bytes behind the length. -/
import Derived.Test.YtphhijelneaedaaDoorYmx
import Derived.KernelRfl
import Derived.Test.YtphhijelneaedaaDoorYix
namespace Go.Proofs.YtphhijelneaedaaDoor
open Go.RowKit
set_option linter.unusedSimpArgs false
set_option linter.unusedVariables false
set_option linter.unusedSectionVars false
set_option maxHeartbeats 4000000
set_option maxRecDepth 100000
section
theorem snocW1 (l:YS) (a:Int):l.map u8++[V.int .u8 (IntKind.u8.wrap a)]=(l++[byteW a]).map u8:=by rw [u8_byteW];simp
theorem snocW2 (l:YS) (a c:Int):l.map u8++[V.int .u8 (IntKind.u8.wrap a),V.int .u8 (IntKind.u8.wrap c)]=(l++[byteW a,byteW c]).map u8:=by rw [u8_byteW,u8_byteW];simp
theorem lump0_dc (v:Value) (n:Nat) (t:YS) (F:Own):(n=0/\t.length<=100000)->DC Tryd.prog 125 [.ar v n, .str t] ([.arr 1 v []]++F) fun d G=>∃ (v':Value) (l':YS),l'.length=2+t.length/\d = .ar v' l'.length/\G = .arr 1 v' (l'.map u8)::F:=fun ⟨h,ht⟩=>by
 subst h
 have:=lump_dc v 0 [] t F ⟨rfl,by decide,ht⟩
 simpa using this
theorem two0_dc (v:Value) (n:Nat) (z:Int) (F:Own):(n=0)->DC Tryd.prog 126 [.ar v n, .int .i64 z] ([.arr 1 v []]++F) fun d G=>∃ (v':Value) (l':YS),l'.length=2/\d = .ar v' l'.length/\G = .arr 1 v' (l'.map u8)::F:=fun h=>by
 subst h
 have:=two_dc v 0 [] z F ⟨rfl,by decide⟩
 simpa using this
theorem nil_ar:le (.gs (.slice none 0 0) []) (.ar (.slice none 0 0) 0):=fun S w u r=>by
 cases r with
 | gs v l r=>exact .ar none 0 0 (Nat.le_refl _) fun _=>rfl
abbrev YSv:=List UInt8
theorem lumpQ_dc (F:Own):True->DC Tryd.prog 125 [.gs (.slice none 0 0) [], .str [77,81,84,84]] ([]++F) fun d G=>∃ (v':Value) (l':YS),l'.length=6/\d = .ar v' l'.length/\G = .arr 1 v' (l'.map u8)::F:=fun _=>lumpN_dc [77,81,84,84] F (by decide)
attribute [local irreducible] DW SeqD DV DOp DC DVX
theorem sv_bodyA_dc {p:Prop} (h:p:=by first | exact sv | (refine ⟨?_,?_⟩<;>(simp only [List.length_append,List.length_cons,List.length_nil];omega)) | (refine ⟨?_,?_,?_⟩<;>(simp only [List.length_append,List.length_cons,List.length_nil];omega)) | (simp [u8,V.one,V.n];omega) | (simp [u8,V.one,V.n]<;>fail) | fail):p:=h
section
attribute [local push_cast 2000] snocW2 snocW1 cells_u8Y bytes_are bytes_back encU
theorem bodyA_dc (p:Pk) (F:Own):(PkB p)->DC Tryd.prog 101 [.agg [.int .i64 p.kind, .bool p.dup, .bool p.retain, .int .i64 p.qos, .int .i64 p.id, .str p.topic, .sl (p.payload.map u8), .int .i64 p.level, .str p.client, .bool p.clean, .int .i64 p.keep, .bool p.hasWill, .str p.wtopic, .sl (p.wpay.map u8), .int .i64 p.wqos, .bool p.wretain, .bool p.hasUser, .bool p.hasPass, .str p.user, .sl (p.pass.map u8), .bool p.present, .int .i64 p.code, .sl (p.subs.map encU), .sl (p.codes.map (V.int .i64))]] (([]:Own)++F) fun d G=>∃ (v:Value) (l:YS),l.length<=2000/\d = .ar v l.length/\G = .arr 1 v (l.map u8)::F:=by
 intro hA
 have hp:=hA
 refine DC.bodyS (n_:=157) (show Tryd.prog.funcs[101]? = some Tryd.f101 by kernel_rfl) rfl rfl (by rfl) ?_
 simp only [env0,List.cons_append,List.nil_append]
 have kw:=ksIs [0,1,2,3,4,5,7,8,50,62,68,75,87,95,104,116,129,144]
 have ow:=ownIs []
 have dw4:=drIs 4 [0,6,9,19,23,27,31] []
 have dw5:=drIs 5 [3,6] [2]
 have dw7:=drIs 7 [4,9] [3]
 have dw14:=drIs 14 [9] [2,3,6]
 have s1:=hp.subs;have s2:=hp.codes;have h1:=hp.topic;have h2:=hp.payload;have h3:=hp.client;have h4:=hp.wtopic;have h5:=hp.wpay;have h6:=hp.user;have h7:=hp.pass
 repeat' (first
  | ((refine DW.own0 1 3 (by rfl) ?_);(simp only [put_cons,put_nil,Nat.reduceEqDiff,↓reduceIte,if_true,if_false,reduceCtorEq]))
  | ((with_reducible refine DW.loopB 1 (X:=Nat×Value×YSv) (fun x=>x.1<=p.subs.length/\x.2.2.length<=2+103 * x.1) (fun x=>[(1, .sp [.int .i64 p.kind, .bool p.dup, .bool p.retain, .int .i64 p.qos, .int .i64 p.id, .str p.topic, .sl (p.payload.map u8), .int .i64 p.level, .str p.client, .bool p.clean, .int .i64 p.keep, .bool p.hasWill, .str p.wtopic, .sl (p.wpay.map u8), .int .i64 p.wqos, .bool p.wretain, .bool p.hasUser, .bool p.hasPass, .str p.user, .sl (p.pass.map u8), .bool p.present, .int .i64 p.code, .sl (p.subs.map encU), .sl (p.codes.map (V.int .i64))]),(3, .ar x.2.1 x.2.2.length),(4, .int .i64 x.1)]) (fun x=>.arr 1 x.2.1 (x.2.2.map u8)::([]:Own)) (fun x=>p.subs.length - x.1) ((0,v1,l1)) ?_ ?_ ?_);exact (⟨Nat.zero_le _,by (try simp only);omega⟩);(simp [Sub,get,keepL]<;>fail);(try simp only [List.cons_append,List.nil_append]);refine pl_ ?_;intro ⟨k,y,l⟩ ⟨hk,hlk⟩;(try simp only [List.cons_append,List.nil_append]);(try simp only at hk hlk);have hfl:=hp.flt k)
  | ((with_reducible refine DW.loopB 3 (X:=Nat×Value×YSv) (fun x=>x.1<=p.codes.length/\x.2.2.length<=400+x.1) (fun x=>[(1, .sp [.int .i64 p.kind, .bool p.dup, .bool p.retain, .int .i64 p.qos, .int .i64 p.id, .str p.topic, .sl (p.payload.map u8), .int .i64 p.level, .str p.client, .bool p.clean, .int .i64 p.keep, .bool p.hasWill, .str p.wtopic, .sl (p.wpay.map u8), .int .i64 p.wqos, .bool p.wretain, .bool p.hasUser, .bool p.hasPass, .str p.user, .sl (p.pass.map u8), .bool p.present, .int .i64 p.code, .sl (p.subs.map encU), .sl (p.codes.map (V.int .i64))]),(3, .ar x.2.1 x.2.2.length),(5, .int .i64 x.1)]) (fun x=>.arr 1 x.2.1 (x.2.2.map u8)::([]:Own)) (fun x=>p.codes.length - x.1) ((0,y,l)) ?_ ?_ ?_);exact (⟨Nat.zero_le _,by (try simp only);omega⟩);(simp [Sub,get,keepL]<;>fail);(try simp only [List.cons_append,List.nil_append]);refine pl_ ?_;intro ⟨i,z,m⟩ ⟨hi,hmi⟩;(try simp only [List.cons_append,List.nil_append]);(try simp only at hi hmi))
  | refine g_ ?_
  | ((with_reducible refine And.intro ?_ ?_);(exact sv_bodyA_dc))
  | (refine DW.cond (by rfl) ?_ ?_<;>(first | exact i0_ | (refine ic_ ?_;intro hb)))
  | ((with_reducible first | refine FVg_cases ?_ ?_ | refine FDg_cases ?_ ?_)<;>(intro hb;rw [hb];revert hb;(first | exact i0_ | (refine i_ ?_;intro hb))))
  | refine r_ ?_
  | refine d_ ?_
  | refine k_ ?_
  | ((refine dm_ ?_);(first | (refine v_ (bit_dc _ _ _) ?_ (ha:=by exact sv_bodyA_dc))))
  | refine vo_ ?_
  | (refine p_ (lump0_dc _ _ _ _) ?_ (ha:=by exact sv_bodyA_dc);rintro d H1 ⟨v1,l1,hl1,rfl,rfl⟩<;>refine s_ ?_)
  | (refine p_ (two0_dc _ _ _ _) ?_ (ha:=by exact sv_bodyA_dc);rintro d H1 ⟨v1,l1,hl1,rfl,rfl⟩<;>refine s_ ?_)
  | (refine p_ (lumpQ_dc _) ?_ (ha:=by exact sv_bodyA_dc);rintro d H1 ⟨v1,l1,hl1,rfl,rfl⟩<;>refine s_ ?_)
  | (refine p_ (lump_dc _ _ _ _ _) ?_ (ha:=by exact sv_bodyA_dc);rintro d H1 ⟨v1,l1,hl1,rfl,rfl⟩<;>refine s_ ?_)
  | (refine p_ (two_dc _ _ _ _ _) ?_ (ha:=by exact sv_bodyA_dc);rintro d H1 ⟨v1,l1,hl1,rfl,rfl⟩<;>refine s_ ?_)
  | (refine q_ (bit_dc _ _ _) ?_ (ha:=by exact sv_bodyA_dc))
  | refine o_ ?_
  | refine f_ ?_
  | refine vm_ ?_
  | with_reducible intro b)
 all_goals first
 | (refine ⟨_,_,le.rfl_,⟨_,_,?_,rfl,rfl⟩,?_⟩;omega;(exact sub_);done)
 | ((obtain ⟨c1,e1⟩:=any_u8 (n:=if p.present=true then 1 else 0) (by split<;>omega));(rw [e1,u8_byteW,one2]);refine ⟨_,_,le.of_eq ?_,⟨b,[c1,byteW p.code],by simp,rfl,rfl⟩,?_⟩;rfl;(exact sub_);done)
 | ((have e:List.map u8 l1++List.map u8 p.payload=List.map u8 (l1++p.payload):=by simp);(rw [e]);refine ⟨_,_,le.of_eq ?_,⟨b,l1++p.payload,?_,rfl,rfl⟩,?_⟩;simp;(simp only [List.length_append];omega);(exact sub_);done)
 | (refine ⟨_,_,nil_ar,⟨.slice none 0 0,[],by decide,rfl,rfl⟩,?_⟩;(simp only [List.map_nil]);(exact sub_);done)
 | (refine ⟨(k+1,b,l1++[byteW (p.subs.getD k default).2]),⟨by (try simp only);omega,by (simp only [List.length_append,List.length_cons,List.length_nil];omega)⟩,by (try simp only);omega,by simp [Sub,get],?_⟩;((try dsimp only);(exact sub_));done)
 | (refine ⟨(k+1,v1,l1),⟨by (try simp only);omega,by (try simp only);omega⟩,by (try simp only);omega,by simp [Sub,get],?_⟩;((try dsimp only);(exact sub_));done)
 | (refine ⟨(i+1,b,m++[byteW (p.codes.getD i default)]),⟨by (try simp only);omega,by (simp only [List.length_append,List.length_cons,List.length_nil];omega)⟩,by (try simp only);omega,by simp [Sub,get],?_⟩;((try dsimp only);(exact sub_));done)
 | (trace_state;fail)
end
end
section
theorem has_0_110:hasY 0 110=true:=by decide
theorem has_0_99:hasY 0 99=true:=by decide
theorem has_0_107:hasY 0 107=false:=by decide
theorem has_0_120:hasY 0 120=false:=by decide
theorem has_1_110:hasY 1 110=true:=by decide
theorem has_1_99:hasY 1 99=true:=by decide
theorem has_1_107:hasY 1 107=false:=by decide
theorem has_1_120:hasY 1 120=true:=by decide
theorem has_2_110:hasY 2 110=true:=by decide
theorem has_2_99:hasY 2 99=true:=by decide
theorem has_2_107:hasY 2 107=false:=by decide
theorem has_2_120:hasY 2 120=false:=by decide
theorem has_3_110:hasY 3 110=false:=by decide
theorem has_3_99:hasY 3 99=false:=by decide
theorem has_3_107:hasY 3 107=false:=by decide
theorem has_3_120:hasY 3 120=false:=by decide
theorem has_4_110:hasY 4 110=false:=by decide
theorem has_4_99:hasY 4 99=false:=by decide
theorem has_4_107:hasY 4 107=true:=by decide
theorem has_4_120:hasY 4 120=false:=by decide
theorem has_5_110:hasY 5 110=false:=by decide
theorem has_5_99:hasY 5 99=false:=by decide
theorem has_5_107:hasY 5 107=true:=by decide
theorem has_5_120:hasY 5 120=false:=by decide
theorem has_6_110:hasY 6 110=false:=by decide
theorem has_6_99:hasY 6 99=false:=by decide
theorem has_6_107:hasY 6 107=true:=by decide
theorem has_6_120:hasY 6 120=false:=by decide
theorem has_7_110:hasY 7 110=true:=by decide
theorem has_7_99:hasY 7 99=false:=by decide
theorem has_7_107:hasY 7 107=false:=by decide
theorem has_7_120:hasY 7 120=false:=by decide
theorem has_8_110:hasY 8 110=true:=by decide
theorem has_8_99:hasY 8 99=false:=by decide
theorem has_8_107:hasY 8 107=false:=by decide
theorem has_8_120:hasY 8 120=false:=by decide
theorem has_9_110:hasY 9 110=false:=by decide
theorem has_9_99:hasY 9 99=false:=by decide
theorem has_9_107:hasY 9 107=true:=by decide
theorem has_9_120:hasY 9 120=false:=by decide
theorem in_0:inY 0=true:=rfl
theorem len_0 (l:YS):((l.length:Int)==0)=decide (l=[]):=by
 rw [Bool.eq_iff_iff,beq_iff_eq,decide_eq_true_eq]
 constructor
 · intro h;exact List.length_eq_zero_iff.1 (by omega)
 · intro h;rw [h];rfl
theorem right_rngY {e:Ev} (h:rightY e=true):0<=e.kind/\e.kind<10:=by
 simp only [rightY,Bool.and_eq_true,decide_eq_true_eq] at h
 exact h.1.1
attribute [local irreducible] DW SeqD DV DOp DC DVX rightY
theorem in2_dc (n:Int) (F:Own):(True)->DC Tryd.prog 53 [.int .i64 n] (([]:Own)++F) fun d G=>d = .bool (inY n)/\G=[]++F:=by
 intro hA
 refine DC.bodyS (n_:=9) (show Tryd.prog.funcs[53]? = some Tryd.f53 by kernel_rfl) rfl rfl (by rfl) ?_
 simp only [env0,List.cons_append,List.nil_append]
 have kw:=ksIs [0,2]
 have ow:=ownIs []
 repeat' (first
  | refine g_ ?_
  | ((with_reducible refine And.intro ?_ ?_);(exact sv))
  | (refine DW.cond (by rfl) ?_ ?_<;>(first | exact i0_ | (refine ic_ ?_;intro hb)))
  | ((with_reducible refine FVg_cases ?_ ?_)<;>(intro hb;rw [hb];revert hb;(first | exact i0_ | (refine i_ ?_;intro hb))))
  | refine r_ ?_
  | refine k_ ?_
  | refine o_ ?_
  | refine f_ ?_
  | with_reducible intro b)
 all_goals first
 | ((refine ⟨_,_,le.of_eq ?_,⟨rfl,rfl⟩,SubP.refl⟩);congr 1;rw [Bool.eq_iff_iff];(simp [inY]<;>omega);done)
 | (trace_state;fail)
theorem right2_dc (e:Ev) (F:Own):(True)->DC Tryd.prog 25 [.agg [.int .i64 e.kind, .int .i64 e.node, .int .i64 e.conn, .int .i64 e.n, .sl (e.b.map u8)]] (([]:Own)++F) fun d G=>d = .bool (rightY e)/\G=[]++F:=by
 intro hA
 refine DC.bodyS (n_:=119) (show Tryd.prog.funcs[25]? = some Tryd.f25 by kernel_rfl) rfl rfl (by rfl) ?_
 simp only [env0,List.cons_append,List.nil_append]
 have kw:=ksIs [0,1,2,3,4,5,6,17,18,41,57,75,96]
 have ow:=ownIs []
 have dw2:=drIs 2 [] [1,4,7]
 repeat' (first
  | refine g_ ?_
  | ((with_reducible refine And.intro ?_ ?_);(exact sv))
  | (refine DW.cond (by rfl) ?_ ?_<;>(first | exact i0_ | (refine ic_ ?_;intro hb)))
  | ((with_reducible first | refine FVg_cases ?_ ?_ | refine FDg_cases ?_ ?_)<;>(intro hb;rw [hb];revert hb;(first | exact i0_ | (refine i_ ?_;intro hb))))
  | refine r_ ?_
  | refine d_ ?_
  | refine k_ ?_
  | ((refine dm_ ?_);(first | (refine v_ (in2_dc _ _) ?_)))
  | refine vo_ ?_
  | (refine q_ (in2_dc _ _) ?_)
  | refine o_ ?_
  | refine f_ ?_
  | refine vm_ ?_
  | with_reducible intro b)
 all_goals first
 | (refine ⟨_,_,le.of_eq ?_,⟨rfl,rfl⟩,?_⟩;rotate_left;(exact sub_);congr 1;rw [Bool.eq_iff_iff];unfold rightY;simp_all [in_0,len_0,has_0_110,has_0_99,has_0_107,has_0_120,has_1_110,has_1_99,has_1_107,has_1_120,has_2_110,has_2_99,has_2_107,has_2_120,has_3_110,has_3_99,has_3_107,has_3_120,has_4_110,has_4_99,has_4_107,has_4_120,has_5_110,has_5_99,has_5_107,has_5_120,has_6_110,has_6_99,has_6_107,has_6_120,has_7_110,has_7_99,has_7_107,has_7_120,has_8_110,has_8_99,has_8_107,has_8_120,has_9_110,has_9_99,has_9_107,has_9_120];done)
 | (refine ⟨_,_,le.of_eq ?_,⟨rfl,rfl⟩,?_⟩;rotate_left;(exact sub_);congr 1;rw [Bool.eq_iff_iff];unfold rightY;constructor<;>intro h<;>simp_all [in_0,len_0,has_0_110,has_0_99,has_0_107,has_0_120,has_1_110,has_1_99,has_1_107,has_1_120,has_2_110,has_2_99,has_2_107,has_2_120,has_3_110,has_3_99,has_3_107,has_3_120,has_4_110,has_4_99,has_4_107,has_4_120,has_5_110,has_5_99,has_5_107,has_5_120,has_6_110,has_6_99,has_6_107,has_6_120,has_7_110,has_7_99,has_7_107,has_7_120,has_8_110,has_8_99,has_8_107,has_8_120,has_9_110,has_9_99,has_9_107,has_9_120]<;>omega)
 | (rw [show rightY e=false from by (rcases hr:rightY e with _ | _;rfl;(have:=right_rngY hr);omega)];(first | exact fin_ | refine finq_ ?_);done)
 | (trace_state;fail)
section
attribute [local push_cast 2000] List.append_eq List.cons_append List.nil_append encE bytes_are bytes_back
theorem same_evs_dc (l:List Ev) (F:Own):(l.length<=1000000000)->DC Tryd.prog 28 [.sl (l.map encE), .sl (l.map encE)] (([]:Own)++F) fun d G=>d = .bool true/\G=[]++F:=by
 intro hA
 have hl:=hA
 refine DC.bodyS (n_:=82) (show Tryd.prog.funcs[28]? = some Tryd.f28 by kernel_rfl) rfl rfl (by rfl) ?_
 simp only [env0,List.cons_append,List.nil_append]
 have kw:=ksIs [0,1,4,5,10,14,81]
 have ow:=ownIs []
 have dw6:=drIs 6 [] [4,9,16,21,29,34,42,47,55,61]
 repeat' (first
  | ((with_reducible refine DW.loopB 0 (X:=Nat) (fun x=>x<=l.length) (fun x=>[(0, .sl (l.map encE)),(1, .sl (l.map encE)),(5, .int .i64 x)]) (fun x=>([]:Own)) (fun x=>l.length - x) (0) ?_ ?_ ?_);exact (Nat.zero_le _);(simp [Sub,get,keepL]<;>fail);(try simp only [List.cons_append,List.nil_append]);refine pl_ ?_;intro k hk;(try simp only [List.cons_append,List.nil_append]);(try simp only at hk))
  | refine g_ ?_
  | ((with_reducible refine And.intro ?_ ?_);(exact sv))
  | (refine DW.cond (by rfl) ?_ ?_<;>(first | exact i0_ | (refine ic_ ?_;intro hb)))
  | ((with_reducible first | refine FVg_cases ?_ ?_ | refine FDg_cases ?_ ?_)<;>(intro hb;rw [hb];revert hb;(first | exact i0_ | (refine i_ ?_;intro hb))))
  | refine r_ ?_
  | refine d_ ?_
  | refine k_ ?_
  | refine vo_ ?_
  | refine o_ ?_
  | refine f_ ?_
  | refine vm_ ?_
  | with_reducible intro b)
 all_goals first
 | ((first | exact fin_ | refine finq_ ?_);done)
 | (refine ⟨k+1,?_,?_,?_,?_⟩;(((try simp only);omega));(((try simp only);omega));(simp [Sub,get]<;>(fail));(try dsimp only);(exact sub_);done)
 | (exfalso;simp_all;done)
 | (trace_state;fail)
end
end
end Go.Proofs.YtphhijelneaedaaDoor
