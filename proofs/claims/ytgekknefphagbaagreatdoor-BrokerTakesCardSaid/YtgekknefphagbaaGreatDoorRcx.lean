/- Layer 20: packets of bytes that are none. -/
import Derived.Test.YtgekknefphagbaaGreatDoorQmx
import Derived.KernelRfl
import Derived.Test.YtgekknefphagbaaGreatDoorQjx
import Derived.Test.YtgekknefphagbaaGreatDoorFxx
namespace Go.Proofs.YtgekknefphagbaaGreatDoor
open Go.RowKit
set_option linter.unusedSimpArgs false
set_option linter.unusedVariables false
set_option linter.unusedSectionVars false
set_option maxHeartbeats 4000000
set_option maxRecDepth 100000
section
attribute [local irreducible] DW SeqD DV DOp DC DVX DVJ idsF usI sortS putM zaj onlyM
theorem ze5 (rv:V) (F:Own):((rv = .sl []\/∃ v,rv = .gs v []))->DC Tryz.prog 32 [rv] (([]:Own)++F) fun d G=>d = .tup [.agg [.int .i64 0, .bool false, .bool false, .int .i64 0, .int .i64 0, .str [], .gs (.slice none 0 0) [], .int .i64 0, .str [], .bool false, .int .i64 0, .bool false, .str [], .gs (.slice none 0 0) [], .int .i64 0, .bool false, .bool false, .bool false, .str [], .gs (.slice none 0 0) [], .bool false, .int .i64 0, .gs (.slice none 0 0) [], .gs (.slice none 0 0) []], .int .i64 0, .int .i64 20]/\G=[]++F:=by
 intro hA
 have hrv:=hA
 refine DC.bodyS (n_:=88) (show Tryz.prog.funcs[32]? = some Tryz.f32 by kernel_rfl) rfl rfl (by rfl) ?_
 simp only [env0,List.cons_append,List.nil_append]
 have kw:=ksIs [0,2,3,4,5,6,7,8,9,10,11,14,20,29,34,38,83]
 have ow:=zaf []
 have rw_:=rsIs [.cell 2 29, .tmp 3, .tmp 4]
 rcases hrv with rfl | ⟨v,rfl⟩
 repeat' (first
  | refine g_ ?_
  | ((with_reducible refine And.intro ?_ ?_);(exact sv))
  | (refine DW.cond (by rfl) ?_ ?_<;>(first | exact i0_ | (refine ic_ ?_;intro hb)))
  | ((with_reducible refine zaa ?_ ?_)<;>(intro hb;rw [hb];revert hb;(first | exact i0_ | (refine i_ ?_;intro hb))))
  | refine r_ ?_
  | refine k_ ?_
  | refine o_ ?_
  | refine f_ ?_
  | ((fail_if_success (have zz:=pb));with_reducible intro pb)
  | with_reducible intro b)
 all_goals first
 | (exact kxb5)
 | (trace_state;fail)
theorem zdK {p:Prop} (h:p:=by first | exact sv | exact .inl rfl | exact .inr ⟨_,rfl⟩ | fail):p:=h
theorem zi8 (sb:Nat) (rv:V) (F:Own):((rv = .sl []\/∃ v,rv = .gs v []))->DC Tryz.prog 46 [.raw (.pointer (some ⟨sb,0,none⟩)), .sl []] (.blk sb [rv, .int .i64 0]::([]:Own)++F) fun d G=>∃ rv',(rv' = .sl []\/∃ v,rv' = .gs v [])/\d = .tup [.gs (.slice none 0 0) [], .int .i64 0]/\G = .blk sb [rv', .int .i64 0]::F:=by
 intro hA
 have hrv:=hA
 refine DC.bodyS (n_:=65) (show Tryz.prog.funcs[46]? = some Tryz.f46 by kernel_rfl) rfl rfl (by rfl) ?_
 simp only [env0,List.cons_append,List.nil_append]
 have kw:=ksIs [0,1,4,5,6,7,8,9,14,39,42]
 have ow:=zaf []
 have dw2:=drIs 2 [] [3]
 rcases hrv with rfl | ⟨v,rfl⟩
 repeat' (first
  | ((with_reducible refine DW.loopB 0 (X:=Nat) (fun x=>x=0) (fun x=>[(0, .raw (.pointer (some ⟨sb,0,none⟩))),(4, .gs (.slice none 0 0) []),(5, .int .i64 0),(6, .gs (.slice none 0 0) [])]) (fun x=>.blk sb [.gs pb [], .int .i64 0]::([]:Own)) (fun x=>x) (0) ?_ ?_ ?_);exact (rfl);(exact kxcm);(try simp only [List.cons_append,List.nil_append]);refine pl_ ?_;intro k hk;(try simp only [List.cons_append,List.nil_append]);(try simp only at hk))
  | refine g_ ?_
  | ((with_reducible refine And.intro ?_ ?_);(exact zdK))
  | (refine DW.cond (by rfl) ?_ ?_<;>(first | exact i0_ | (refine ic_ ?_;intro hb)))
  | ((with_reducible first | refine zaa ?_ ?_ | refine zak ?_ ?_)<;>(intro hb;rw [hb];revert hb;(first | exact i0_ | (refine i_ ?_;intro hb))))
  | refine r_ ?_
  | refine d_ ?_
  | refine k_ ?_
  | ((refine dm_ ?_);(first | (refine v_ (ze5 _ _) ?_ (ha:=by exact zdK))))
  | refine vo_ ?_
  | (refine q_ (ze5 _ _) ?_ (ha:=by exact zdK))
  | refine o_ ?_
  | refine f_ ?_
  | refine vm_ ?_
  | ((fail_if_success (have zz:=v9));with_reducible intro v9)
  | ((fail_if_success (have zz:=pb));with_reducible intro pb)
  | with_reducible intro b)
 all_goals first
 | (((refine ⟨_,_,le.rfl_,⟨_, .inr ⟨pb,rfl⟩,rfl,rfl⟩,?_⟩);(exact sub_);done))
 | (trace_state;fail)
section
attribute [local push_cast 2000] encOu
end
end
section
attribute [local irreducible] SN.own ownT ownC ownS ownB zae zbj zah zaK zb5 outM zaS zdA newB zcc zcI
attribute [local irreducible] DW SeqD DV DOp DC DVX DVJ idsF usI sortS putM zaj onlyM
section
attribute [local push_cast 2000] zc5 encOu List.map_cons List.map_nil zqS zqH zqV zqX
end
end
section
attribute [local irreducible] DW SeqD DV DOp DC DVX DVJ idsF usI sortS putM zaj onlyM
theorem rput_dc (p:Pk) (F:Own):(PkN p/\zaj p=true)->DC Tryz.prog 78 [.agg [.int .i64 p.kind, .bool p.dup, .bool p.retain, .int .i64 p.qos, .int .i64 p.id, .str p.topic, .sl (p.payload.map u8), .int .i64 p.level, .str p.client, .bool p.clean, .int .i64 p.keep, .bool p.hasWill, .str p.wtopic, .sl (p.wpay.map u8), .int .i64 p.wqos, .bool p.wretain, .bool p.hasUser, .bool p.hasPass, .str p.user, .sl (p.pass.map u8), .bool p.present, .int .i64 p.code, .sl (p.subs.map encU), .sl (p.codes.map (V.int .i64))]] (([]:Own)++F) fun d G=>d = .tup [.sl ((putM p).map u8), .int .i64 0]/\G=[]++F:=by
 rintro ⟨hN,hr⟩
 have h1:=znj (zka zb6) p F hN
 have h2:DC Tryz.prog 78 [.agg [.int .i64 p.kind, .bool p.dup, .bool p.retain, .int .i64 p.qos, .int .i64 p.id, .str p.topic, .sl (p.payload.map u8), .int .i64 p.level, .str p.client, .bool p.clean, .int .i64 p.keep, .bool p.hasWill, .str p.wtopic, .sl (p.wpay.map u8), .int .i64 p.wqos, .bool p.wretain, .bool p.hasUser, .bool p.hasPass, .str p.user, .sl (p.pass.map u8), .bool p.present, .int .i64 p.code, .sl (p.subs.map encU), .sl (p.codes.map (V.int .i64))]] (([]:Own)++F) fun d G=>∃ v:Value,True/\d = .tup [.ar v ((putM p).map u8).length, .int .i64 0]/\G = .arr 1 v (cells ((putM p).map u8))::F:=h1.mono fun d G h=>by
  rcases h with ⟨e,⟨hp,he⟩,_⟩ | ⟨v,x,e,⟨hp,he⟩,hd,hG⟩
  · exfalso
    unfold putM at hp
    rw [if_pos hr] at hp
    cases hp
  · subst hp
    rw [if_pos hr] at he
    subst he
    exact ⟨v,trivial,by rw [List.length_map];exact hd,by rw [zaU];exact hG⟩
 have h3:=DC.frzZ (Y:=Value) (Q:=fun _=>True) (sz:=1) (l:=fun _=>(putM p).map u8) (v:=fun v=>v) (D:=fun v=>.tup [.ar v ((putM p).map u8).length, .int .i64 0]) (D':=fun v=>.tup [.gs v ((putM p).map u8), .int .i64 0]) (L:=fun _=>F) (by decide) (fun v x hx=>by obtain ⟨z,_,rfl⟩:=List.mem_map.1 hx;rfl) (fun v=>Cv.tupL (.cons (.hit _) (.cons (.rfl _) .nil))) h2
 refine DC.sub (h3.mono fun d G ⟨v,_,hd,hG⟩=>?_)
 subst hd;subst hG
 exact ⟨_,_,le.tup (Les.cons (le.gs rfl) (Les.cons le.rfl_ Les.nil)),⟨rfl,rfl⟩,SubP.refl⟩
theorem zoT (pr:Bool) (a b:Int) (F:Own):(((a=0/\(b=0\/b=1\/b=2))\/(a=1/\b=0))/\pr=decide (a=1))->DC Tryz.prog 78 [.agg [.int .i64 2, .bool false, .bool false, .int .i64 0, .int .i64 0, .str [], .gs (.slice none 0 0) [], .int .i64 0, .str [], .bool false, .int .i64 0, .bool false, .str [], .gs (.slice none 0 0) [], .int .i64 0, .bool false, .bool false, .bool false, .str [], .gs (.slice none 0 0) [], .bool pr, .int .i64 b, .gs (.slice none 0 0) [], .gs (.slice none 0 0) []]] (([]:Own)++F) fun d G=>d = .tup [.sl [.int .u8 32, .int .u8 2, .int .u8 a, .int .u8 b], .int .i64 0]/\G=[]++F:=by
 rintro ⟨hab,rfl⟩
 have h0:0<=b/\b<=5:=by omega
 have h1:decide (a=1)=true->b=0:=fun h=>by have:=of_decide_eq_true h;omega
 have h2:=rput_dc (zan 2 0 (decide (a=1)) b) F ⟨zh3 _ _ _ _,zfh h0 h1⟩
 rw [zkU h0 h1] at h2
 simp only [zan] at h2
 have h3:V.sl ((zdA (decide (a=1)) b).map u8) = .sl [.int .u8 32, .int .u8 2, .int .u8 a, .int .u8 b]:=by
  rcases hab with ⟨rfl,rfl | rfl | rfl⟩ | ⟨rfl,rfl⟩<;>rfl
 rw [h3] at h2
 exact DC.args (Les.cons (le.agg (Les.cons le.rfl_ (Les.cons le.rfl_ (Les.cons le.rfl_ (Les.cons le.rfl_ (Les.cons le.rfl_ (Les.cons le.rfl_ (Les.cons (le.gs rfl) (Les.cons le.rfl_ (Les.cons le.rfl_ (Les.cons le.rfl_ (Les.cons le.rfl_ (Les.cons le.rfl_ (Les.cons le.rfl_ (Les.cons (le.gs rfl) (Les.cons le.rfl_ (Les.cons le.rfl_ (Les.cons le.rfl_ (Les.cons le.rfl_ (Les.cons le.rfl_ (Les.cons (le.gs rfl) (Les.cons le.rfl_ (Les.cons le.rfl_ (Les.cons (le.gs rfl) (Les.cons (le.gs rfl) (Les.nil)))))))))))))))))))))))))) Les.nil) h2
theorem sh4_:IntKind.i64.wrap (Int.fdiv 32 (2 ^ min 4 IntKind.u8.bits))=2:=by kernel_rfl
theorem an15_:IntKind.i64.wrap (IntKind.u8.wrap ((BitVec.ofInt IntKind.u8.bits 32 &&& BitVec.ofInt IntKind.u8.bits 15).toNat:Int))=0:=by kernel_rfl
theorem rv2_:IntKind.i64.wrap ((BitVec.ofInt IntKind.i64.bits 0|||BitVec.ofInt IntKind.i64.bits (IntKind.i64.wrap (IntKind.i64.wrap (IntKind.u8.wrap ((BitVec.ofInt IntKind.u8.bits 2 &&& BitVec.ofInt IntKind.u8.bits 127).toNat:Int)) * 2 ^ min 0 IntKind.i64.bits))).toNat:Int)=2:=by kernel_rfl
section
attribute [local push_cast 2000] sh4_ an15_
theorem zpF  (F:Own):(True)->DC Tryz.prog 75 [.int .u8 32] (([]:Own)++F) fun d G=>d = .bool true/\G=[]++F:=by
 intro hA
 refine DC.bodyS (n_:=40) (show Tryz.prog.funcs[75]? = some Tryz.f75 by kernel_rfl) rfl rfl (by rfl) ?_
 simp only [env0,List.cons_append,List.nil_append]
 have kw:=ksIs [0,2,3,4,11,12,15,32]
 have ow:=zaf []
 repeat' (first
  | refine g_ ?_
  | ((with_reducible refine And.intro ?_ ?_);(exact sv))
  | (refine DW.cond (by rfl) ?_ ?_<;>(first | exact i0_ | (refine ic_ ?_;intro hb)))
  | ((with_reducible refine zaa ?_ ?_)<;>(intro hb;rw [hb];revert hb;(first | exact i0_ | (refine i_ ?_;intro hb))))
  | refine r_ ?_
  | refine k_ ?_
  | refine o_ ?_
  | refine f_ ?_
  | with_reducible intro b)
 all_goals first
 | (exact kxb5)
 | (trace_state;fail)
end
theorem sizeM_2:zcp 2=1:=by kernel_rfl
section
attribute [local push_cast 2000] sizeM_2 rv2_
theorem rvar_dc (a b:Int) (F:Own):(True)->DC Tryz.prog 76 [.sl [.int .u8 2, .int .u8 a, .int .u8 b]] (([]:Own)++F) fun d G=>d = .tup [.int .i64 2, .int .i64 1, .int .i64 0]/\G=[]++F:=by
 intro hA
 refine DC.bodyS (n_:=39) (show Tryz.prog.funcs[76]? = some Tryz.f76 by kernel_rfl) rfl rfl (by rfl) ?_
 simp only [env0,List.cons_append,List.nil_append]
 have kw:=ksIs [0,2,3,4,5,6,8,14,30,35]
 have ow:=zaf []
 repeat' (first
  | ((with_reducible refine DW.loopB 0 (X:=Nat) (fun x=>x=0) (fun x=>[(0, .sl [.int .u8 2, .int .u8 a, .int .u8 b]),(5, .int .i64 0),(6, .int .i64 x)]) (fun x=>([]:Own)) (fun x=>x) (0) ?_ ?_ ?_);exact (rfl);(exact kxcm);(try simp only [List.cons_append,List.nil_append]);refine pl_ ?_;intro k rfl;(try simp only [List.cons_append,List.nil_append]);(try simp only))
  | refine g_ ?_
  | ((with_reducible refine And.intro ?_ ?_);(exact sv))
  | (refine DW.cond (by rfl) ?_ ?_<;>(first | exact i0_ | (refine ic_ ?_;intro hb)))
  | ((with_reducible refine zaa ?_ ?_)<;>(intro hb;rw [hb];revert hb;(first | exact i0_ | (refine i_ ?_;intro hb))))
  | refine r_ ?_
  | refine k_ ?_
  | (refine q_ (zk1 _ _) ?_)
  | refine o_ ?_
  | refine f_ ?_
  | with_reducible intro b)
 all_goals first
 | (exact kxb5)
 | (trace_state;fail)
end
theorem znT (pb:Nat) (a b:Int) (F:Own):(True)->DC Tryz.prog 136 [.raw (.pointer (some ⟨pb,0,none⟩)), .int .i64 1] (.blk pb [.sl [.int .u8 a, .int .u8 b], .int .i64 0, .bool false]::([]:Own)++F) fun d G=>d = .sl [.int .u8 a]/\G = .blk pb [.sl [.int .u8 a, .int .u8 b], .int .i64 1, .bool false]::F:=by
 intro hA
 refine DC.bodyS (n_:=49) (show Tryz.prog.funcs[136]? = some Tryz.f136 by kernel_rfl) rfl rfl (by rfl) ?_
 simp only [env0,List.cons_append,List.nil_append]
 have kw:=ksIs [0,1,4,22]
 have ow:=zaf []
 have dw1:=drIs 1 [] [3,8,13]
 have dw5:=drIs 5 [] [3,7,13]
 repeat' (first
  | refine g_ ?_
  | ((with_reducible refine And.intro ?_ ?_);(exact sv))
  | (refine DW.cond (by rfl) ?_ ?_<;>(first | exact i0_ | (refine ic_ ?_;intro hb)))
  | ((with_reducible first | refine zaa ?_ ?_ | refine zak ?_ ?_)<;>(intro hb;rw [hb];revert hb;(first | exact i0_ | (refine i_ ?_;intro hb))))
  | refine r_ ?_
  | refine d_ ?_
  | refine k_ ?_
  | refine vo_ ?_
  | refine o_ ?_
  | refine f_ ?_
  | refine vm_ ?_
  | with_reducible intro b)
 all_goals first
 | (exact kxb5)
 | (trace_state;fail)
theorem zp6 (pb:Nat) (a b:Int) (F:Own):(a=0\/a=1\/a=2)->DC Tryz.prog 135 [.raw (.pointer (some ⟨pb,0,none⟩)), .int .i64 1] (.blk pb [.sl [.int .u8 a, .int .u8 b], .int .i64 0, .bool false]::([]:Own)++F) fun d G=>d = .int .i64 a/\G = .blk pb [.sl [.int .u8 a, .int .u8 b], .int .i64 1, .bool false]::F:=by
 intro hA
 have hab:=hA
 refine DC.bodyS (n_:=26) (show Tryz.prog.funcs[135]? = some Tryz.f135 by kernel_rfl) rfl rfl (by rfl) ?_
 simp only [env0,List.cons_append,List.nil_append]
 have kw:=ksIs [0,1,4,5,6,7,14]
 have ow:=zaf []
 repeat' (first
  | ((with_reducible refine DW.loopB 0 (X:=Nat) (fun x=>x=0\/x=1) (fun x=>[(5, .int .i64 (if x=0 then 0 else a)),(6, .sl [.int .u8 a]),(7, .int .i64 x)]) (fun x=>([]:Own)) (fun x=>1 - x) (0) ?_ ?_ ?_);exact (.inl rfl);(exact kxcm);(try simp only [List.cons_append,List.nil_append]);refine pl_ ?_;intro k hk;(try simp only [List.cons_append,List.nil_append]);(try simp only at hk);(rcases hk with rfl | rfl)<;>(try simp only [if_true,if_false,↓reduceIte,reduceCtorEq,Nat.reduceEqDiff,Nat.cast_zero,Nat.cast_one]))
  | refine g_ ?_
  | ((with_reducible refine And.intro ?_ ?_);(exact sv))
  | (refine DW.cond (by rfl) ?_ ?_<;>(first | exact i0_ | (refine ic_ ?_;intro hb)))
  | ((with_reducible refine zaa ?_ ?_)<;>(intro hb;rw [hb];revert hb;(first | exact i0_ | (refine i_ ?_;intro hb))))
  | refine r_ ?_
  | refine k_ ?_
  | (refine p_ (znT _ _ _ _) ?_;rintro d H1 ⟨rfl,rfl⟩<;>refine s_ ?_)
  | refine o_ ?_
  | refine f_ ?_
  | with_reducible intro b)
 all_goals first
 | (((refine ⟨1, .inr rfl,by decide,?_,?_⟩);(focus (rcases hab with rfl | rfl | rfl<;>(simp [Sub,get]<;>kernel_rfl)));exact sub_))
 | (exact kxb5)
 | (trace_state;fail)
theorem zm3 (pb:Nat) (a b:Int) (F:Own):(True)->DC Tryz.prog 136 [.raw (.pointer (some ⟨pb,0,none⟩)), .int .i64 1] (.blk pb [.sl [.int .u8 a, .int .u8 b], .int .i64 1, .bool false]::([]:Own)++F) fun d G=>d = .sl [.int .u8 b]/\G = .blk pb [.sl [.int .u8 a, .int .u8 b], .int .i64 2, .bool false]::F:=by
 intro hA
 refine DC.bodyS (n_:=49) (show Tryz.prog.funcs[136]? = some Tryz.f136 by kernel_rfl) rfl rfl (by rfl) ?_
 simp only [env0,List.cons_append,List.nil_append]
 have kw:=ksIs [0,1,4,22]
 have ow:=zaf []
 have dw1:=drIs 1 [] [3,8,13]
 have dw5:=drIs 5 [] [3,7,13]
 repeat' (first
  | refine g_ ?_
  | ((with_reducible refine And.intro ?_ ?_);(exact sv))
  | (refine DW.cond (by rfl) ?_ ?_<;>(first | exact i0_ | (refine ic_ ?_;intro hb)))
  | ((with_reducible first | refine zaa ?_ ?_ | refine zak ?_ ?_)<;>(intro hb;rw [hb];revert hb;(first | exact i0_ | (refine i_ ?_;intro hb))))
  | refine r_ ?_
  | refine d_ ?_
  | refine k_ ?_
  | refine vo_ ?_
  | refine o_ ?_
  | refine f_ ?_
  | refine vm_ ?_
  | with_reducible intro b)
 all_goals first
 | (exact kxb5)
 | (trace_state;fail)
theorem zqz (pb:Nat) (a b:Int) (F:Own):(b=0\/b=1\/b=2)->DC Tryz.prog 135 [.raw (.pointer (some ⟨pb,0,none⟩)), .int .i64 1] (.blk pb [.sl [.int .u8 a, .int .u8 b], .int .i64 1, .bool false]::([]:Own)++F) fun d G=>d = .int .i64 b/\G = .blk pb [.sl [.int .u8 a, .int .u8 b], .int .i64 2, .bool false]::F:=by
 intro hA
 have hab:=hA
 refine DC.bodyS (n_:=26) (show Tryz.prog.funcs[135]? = some Tryz.f135 by kernel_rfl) rfl rfl (by rfl) ?_
 simp only [env0,List.cons_append,List.nil_append]
 have kw:=ksIs [0,1,4,5,6,7,14]
 have ow:=zaf []
 repeat' (first
  | ((with_reducible refine DW.loopB 0 (X:=Nat) (fun x=>x=0\/x=1) (fun x=>[(5, .int .i64 (if x=0 then 0 else b)),(6, .sl [.int .u8 b]),(7, .int .i64 x)]) (fun x=>([]:Own)) (fun x=>1 - x) (0) ?_ ?_ ?_);exact (.inl rfl);(exact kxcm);(try simp only [List.cons_append,List.nil_append]);refine pl_ ?_;intro k hk;(try simp only [List.cons_append,List.nil_append]);(try simp only at hk);(rcases hk with rfl | rfl)<;>(try simp only [if_true,if_false,↓reduceIte,reduceCtorEq,Nat.reduceEqDiff,Nat.cast_zero,Nat.cast_one]))
  | refine g_ ?_
  | ((with_reducible refine And.intro ?_ ?_);(exact sv))
  | (refine DW.cond (by rfl) ?_ ?_<;>(first | exact i0_ | (refine ic_ ?_;intro hb)))
  | ((with_reducible refine zaa ?_ ?_)<;>(intro hb;rw [hb];revert hb;(first | exact i0_ | (refine i_ ?_;intro hb))))
  | refine r_ ?_
  | refine k_ ?_
  | (refine p_ (zm3 _ _ _ _) ?_;rintro d H1 ⟨rfl,rfl⟩<;>refine s_ ?_)
  | refine o_ ?_
  | refine f_ ?_
  | with_reducible intro b)
 all_goals first
 | (((refine ⟨1, .inr rfl,by decide,?_,?_⟩);(focus (rcases hab with rfl | rfl | rfl<;>(simp [Sub,get]<;>kernel_rfl)));exact sub_))
 | (exact kxb5)
 | (trace_state;fail)
end
section
attribute [local irreducible] DW SeqD DV DOp DC DVX DVJ idsF usI sortS putM zaj onlyM
theorem zd5 {p:Prop} (h:p:=by first | exact sv | exact ha | exact hb_ | fail):p:=h
section
attribute [local push_cast 2000] sh4_
theorem zln (pb:Nat) (a b:Int) (F:Own):((a=0\/a=1\/a=2)/\(b=0\/b=1\/b=2))->DC Tryz.prog 77 [.int .u8 32, .raw (.pointer (some ⟨pb,0,none⟩))] (.blk pb [.sl [.int .u8 a, .int .u8 b], .int .i64 0, .bool false]::([]:Own)++F) fun d G=>d = .agg [.int .i64 2, .bool false, .bool false, .int .i64 0, .int .i64 0, .str [], .gs (.slice none 0 0) [], .int .i64 0, .str [], .bool false, .int .i64 0, .bool false, .str [], .gs (.slice none 0 0) [], .int .i64 0, .bool false, .bool false, .bool false, .str [], .gs (.slice none 0 0) [], .bool (a==1), .int .i64 b, .gs (.slice none 0 0) [], .gs (.slice none 0 0) []]/\G = .blk pb [.sl [.int .u8 a, .int .u8 b], .int .i64 2, .bool false]::F:=by
 intro hA
 obtain ⟨ha,hb_⟩:=hA
 refine DC.bodyS (n_:=206) (show Tryz.prog.funcs[77]? = some Tryz.f77 by kernel_rfl) rfl rfl (by rfl) ?_
 simp only [env0,List.cons_append,List.nil_append]
 have kw:=ksIs [0,1,4,5,6,7,13,43,49,80,88,92,134,145,150,155,164,184,201]
 have ow:=zaf []
 have dw35:=drIs 35 [13] [4,9,11]
 have dw4:=drIs 4 [] [1,5,12,19,23]
 have dw9:=drIs 9 [] [1,7,14,18]
 have dw10:=drIs 10 [3,5,7] []
 have rw_:=rsIs [.cell 4 29]
 repeat' (first
  | refine g_ ?_
  | ((with_reducible refine And.intro ?_ ?_);(exact zd5))
  | (refine DW.cond (by rfl) ?_ ?_<;>(first | exact i0_ | (refine ic_ ?_;intro hb)))
  | ((with_reducible first | refine zaa ?_ ?_ | refine zak ?_ ?_)<;>(intro hb;rw [hb];revert hb;(first | exact i0_ | (refine i_ ?_;intro hb))))
  | refine r_ ?_
  | refine d_ ?_
  | refine k_ ?_
  | refine vo_ ?_
  | (refine p_ (zp6 _ _ _ _) ?_ (ha:=by exact zd5);rintro d H1 ⟨rfl,rfl⟩<;>refine s_ ?_)
  | (refine p_ (zqz _ _ _ _) ?_ (ha:=by exact zd5);rintro d H1 ⟨rfl,rfl⟩<;>refine s_ ?_)
  | refine o_ ?_
  | refine f_ ?_
  | refine vm_ ?_
  | ((fail_if_success (have zz:=qb));with_reducible intro qb)
  | with_reducible intro b)
 all_goals first
 | (exact kxb5)
 | (trace_state;fail)
end
theorem zc6 {p:Prop} (h:p:=by first | exact sv | exact ⟨by omega,by omega⟩ | exact ⟨hab,rfl⟩ | (rcases hab with ⟨rfl,rfl | rfl | rfl⟩ | ⟨rfl,rfl⟩<;>rfl) | fail):p:=h
theorem ziS (a b:Int) (F:Own):((a=0/\(b=0\/b=1\/b=2))\/(a=1/\b=0))->DC Tryz.prog 32 [.sl [.int .u8 32, .int .u8 2, .int .u8 a, .int .u8 b]] (([]:Own)++F) fun d G=>d = .tup [.agg [.int .i64 2, .bool false, .bool false, .int .i64 0, .int .i64 0, .str [], .gs (.slice none 0 0) [], .int .i64 0, .str [], .bool false, .int .i64 0, .bool false, .str [], .gs (.slice none 0 0) [], .int .i64 0, .bool false, .bool false, .bool false, .str [], .gs (.slice none 0 0) [], .bool (a==1), .int .i64 b, .gs (.slice none 0 0) [], .gs (.slice none 0 0) []], .int .i64 4, .int .i64 0]/\G=[]++F:=by
 intro hA
 have hab:=hA
 refine DC.bodyS (n_:=88) (show Tryz.prog.funcs[32]? = some Tryz.f32 by kernel_rfl) rfl rfl (by rfl) ?_
 simp only [env0,List.cons_append,List.nil_append]
 have kw:=ksIs [0,2,3,4,5,6,7,8,9,10,11,14,20,29,34,38,83]
 have ow:=zaf [58]
 have rw_:=rsIs [.cell 2 29, .tmp 3, .tmp 4]
 repeat' (first
  | refine g_ ?_
  | ((with_reducible refine And.intro ?_ ?_);(exact zc6))
  | (refine DW.cond (by rfl) ?_ ?_<;>(first | exact i0_ | (refine ic_ ?_;intro hb)))
  | ((with_reducible refine zaa ?_ ?_)<;>(intro hb;rw [hb];revert hb;(first | exact i0_ | (refine i_ ?_;intro hb))))
  | refine r_ ?_
  | refine k_ ?_
  | ((first | refine q_ (zpF _) ?_ (ha:=by exact zc6) | refine q_ (rvar_dc _ _ _) ?_ (ha:=by exact zc6) | refine q_ (zoT _ _ _ _) ?_ (ha:=by exact zc6)))
  | (refine p_ (zln _ _ _ _) ?_ (ha:=by exact zc6);rintro d H1 ⟨rfl,rfl⟩<;>refine s_ ?_)
  | refine o_ ?_
  | refine f_ ?_
  | ((fail_if_success (have zz:=rb));with_reducible intro rb)
  | ((fail_if_success (have zz:=xb));with_reducible intro xb)
  | ((fail_if_success (have zz:=qb));with_reducible intro qb)
  | with_reducible intro b)
 all_goals first
 | ((exact absurd rfl hb))
 | (exact kxb5)
 | (trace_state;fail)
end
section
attribute [local irreducible] DW SeqD DV DOp DC DVX DVJ idsF usI sortS putM zaj onlyM
abbrev Ce:=List V
theorem zc7 {p:Prop} (h:p:=by first | exact sv | exact hab | exact .inl rfl | exact .inr ⟨_,rfl⟩ | exact hw0 | fail):p:=h
theorem zmn (sb:Nat) (rv:V) (a b:Int) (F:Own):((rv = .sl []\/∃ v,rv = .gs v [])/\((a=0/\(b=0\/b=1\/b=2))\/(a=1/\b=0)))->DC Tryz.prog 46 [.raw (.pointer (some ⟨sb,0,none⟩)), .sl [.int .u8 32, .int .u8 2, .int .u8 a, .int .u8 b]] (.blk sb [rv, .int .i64 0]::([]:Own)++F) fun d G=>∃ (v:Value) (rv':V),(rv' = .sl []\/∃ v,rv' = .gs v [])/\d = .tup [.ar v 1, .int .i64 0]/\G = .arr 24 v [.int .i64 2, .bool false, .bool false, .int .i64 0, .int .i64 0, .str [], .gs (.slice none 0 0) [], .int .i64 0, .str [], .bool false, .int .i64 0, .bool false, .str [], .gs (.slice none 0 0) [], .int .i64 0, .bool false, .bool false, .bool false, .str [], .gs (.slice none 0 0) [], .bool (a==1), .int .i64 b, .gs (.slice none 0 0) [], .gs (.slice none 0 0) []] :: .blk sb [rv', .int .i64 0]::F:=by
 intro hA
 obtain ⟨hrv,hab⟩:=hA
 refine DC.bodyS (n_:=65) (show Tryz.prog.funcs[46]? = some Tryz.f46 by kernel_rfl) rfl rfl (by rfl) ?_
 simp only [env0,List.cons_append,List.nil_append]
 have kw:=ksIs [0,1,4,5,6,7,8,9,14,39,42]
 have ow:=zaf []
 have dw2:=drIs 2 [] [3]
 rcases hrv with rfl | ⟨vr,rfl⟩
 repeat' (first
  | ((refine DW.own0 24 6 (by rfl) ?_);(simp only [zc1,zdn,Nat.reduceEqDiff,↓reduceIte,if_true,if_false,reduceCtorEq]);((with_reducible refine DW.loopB 0 (X:=Nat×V×Ce×Value) (fun x=>(x.1=0/\x.2.1 = .gs v8 [.int .u8 32, .int .u8 2, .int .u8 a, .int .u8 b]/\x.2.2.1=[])\/(x.1=1/\(x.2.1 = .sl []\/∃ v,x.2.1 = .gs v [])/\x.2.2.1=[.int .i64 2, .bool false, .bool false, .int .i64 0, .int .i64 0, .str [], .gs (.slice none 0 0) [], .int .i64 0, .str [], .bool false, .int .i64 0, .bool false, .str [], .gs (.slice none 0 0) [], .int .i64 0, .bool false, .bool false, .bool false, .str [], .gs (.slice none 0 0) [], .bool (a==1), .int .i64 b, .gs (.slice none 0 0) [], .gs (.slice none 0 0) []])) (fun x=>[(0, .raw (.pointer (some ⟨sb,0,none⟩))),(4, .gs (.slice none 0 0) []),(5, .int .i64 0),(6, .ar x.2.2.2 x.1)]) (fun x=>.arr 24 x.2.2.2 x.2.2.1 :: .blk sb [x.2.1, .int .i64 0]::([]:Own)) (fun x=>2 - x.1) ((0, .gs v8 [.int .u8 32, .int .u8 2, .int .u8 a, .int .u8 b],[], .slice none 0 0)) ?_ ?_ ?_);exact (.inl ⟨rfl,rfl,rfl⟩);(exact kxcm);(try simp only [List.cons_append,List.nil_append]);refine pl_ ?_;intro ⟨k,w,l,v⟩ hk;(try simp only [List.cons_append,List.nil_append]);(try simp only at hk);(rcases hk with ⟨rfl,rfl,rfl⟩ | ⟨rfl,hw0,rfl⟩)))
  | refine g_ ?_
  | ((with_reducible refine And.intro ?_ ?_);(exact zc7))
  | (refine DW.cond (by rfl) ?_ ?_<;>(first | exact i0_ | (refine ic_ ?_;intro hb)))
  | ((with_reducible first | refine zaa ?_ ?_ | refine zak ?_ ?_)<;>(intro hb;rw [hb];revert hb;(first | exact i0_ | (refine i_ ?_;intro hb))))
  | refine r_ ?_
  | refine d_ ?_
  | refine k_ ?_
  | ((refine dm_ ?_);(first | (refine v_ (ziS _ _ _) ?_ (ha:=by exact zc7)) | (refine v_ (ze5 _ _) ?_ (ha:=by exact zc7))))
  | refine vo_ ?_
  | (refine q_ (ziS _ _ _) ?_ (ha:=by exact zc7))
  | (refine q_ (ze5 _ _) ?_ (ha:=by exact zc7))
  | refine o_ ?_
  | refine f_ ?_
  | refine vm_ ?_
  | ((fail_if_success (have zz:=v9));with_reducible intro v9)
  | ((fail_if_success (have zz:=v8));with_reducible intro v8)
  | ((fail_if_success (have zz:=pk));with_reducible intro pk)
  | ((fail_if_success (have zz:=v7));with_reducible intro v7)
  | with_reducible intro b)
 all_goals first
 | (((refine ⟨_,_,le.rfl_,⟨v,w,hw0,rfl,rfl⟩,?_⟩);exact sub_))
 | (((refine ⟨(1, .sl [],_,v7), .inr ⟨rfl, .inl rfl,rfl⟩,(by show 2 - 1<2;decide),?_,?_⟩);(focus (simp [Sub,get]));(exact kxcg)))
 | (trace_state;fail)
end
section
attribute [local irreducible] DW SeqD DV DOp DC DVX DVJ idsF usI sortS putM zaj onlyM
section
attribute [local push_cast 2000] zbv zbg
end
section
attribute [local push_cast 2000] encM
end
end
section
attribute [local irreducible] SN.own ownT ownC ownS ownB zae zbj zah zaK zb5 outM zaS zdA newB zcc zcI
attribute [local irreducible] DW SeqD DV DOp DC DVX DVJ idsF usI sortS putM zaj onlyM
section
attribute [local push_cast 2000] zc5 encOu encM List.map_cons List.map_nil zqS zqH zqV zqX
end
end
end Go.Proofs.YtgekknefphagbaaGreatDoor
