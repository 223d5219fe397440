/- Layer 20: packets of a Connack. -/
import Derived.Test.YtgekknefphagbaaGreatDoorRcx
import Derived.KernelRfl
namespace Go.Proofs.YtgekknefphagbaaGreatDoor
open Go.RowKit
set_option linter.unusedSimpArgs false
set_option linter.unusedVariables false
set_option linter.unusedSectionVars false
set_option maxHeartbeats 4000000
set_option maxRecDepth 100000
section
attribute [local irreducible] DW SeqD DV DOp DC DVX DVJ idsF usI sortS putM zaj onlyM
theorem zja (sb:Nat) (rv:V) (a b:Int) (F:Own):((rv = .sl []\/∃ v,rv = .gs v [])/\((a=0/\(b=0\/b=1\/b=2))\/(a=1/\b=0)))->DC Tryz.prog 46 [.raw (.pointer (some ⟨sb,0,none⟩)), .sl [.int .u8 32, .int .u8 2, .int .u8 a, .int .u8 b]] ((.blk sb [rv, .int .i64 0]::([]:Own))++F) fun d G=>∃ rv',(rv' = .sl []\/∃ v,rv' = .gs v [])/\d = .tup [.sl [.agg [.int .i64 2, .bool false, .bool false, .int .i64 0, .int .i64 0, .str [], .gs (.slice none 0 0) [], .int .i64 0, .str [], .bool false, .int .i64 0, .bool false, .str [], .gs (.slice none 0 0) [], .int .i64 0, .bool false, .bool false, .bool false, .str [], .gs (.slice none 0 0) [], .bool (a==1), .int .i64 b, .gs (.slice none 0 0) [], .gs (.slice none 0 0) []]], .int .i64 0]/\G = .blk sb [rv', .int .i64 0]::F:=fun h=>by
 have h1:=DC.frzZ (Y:=Value×V) (Q:=fun y=>(y.2 = .sl []\/∃ v,y.2 = .gs v [])) (sz:=24) (l:=fun _=>[.agg [.int .i64 2, .bool false, .bool false, .int .i64 0, .int .i64 0, .str [], .gs (.slice none 0 0) [], .int .i64 0, .str [], .bool false, .int .i64 0, .bool false, .str [], .gs (.slice none 0 0) [], .int .i64 0, .bool false, .bool false, .bool false, .str [], .gs (.slice none 0 0) [], .bool (a==1), .int .i64 b, .gs (.slice none 0 0) [], .gs (.slice none 0 0) []]]) (v:=fun y=>y.1) (D:=fun y=>.tup [.ar y.1 1, .int .i64 0]) (D':=fun y=>.tup [.gs y.1 [.agg [.int .i64 2, .bool false, .bool false, .int .i64 0, .int .i64 0, .str [], .gs (.slice none 0 0) [], .int .i64 0, .str [], .bool false, .int .i64 0, .bool false, .str [], .gs (.slice none 0 0) [], .int .i64 0, .bool false, .bool false, .bool false, .str [], .gs (.slice none 0 0) [], .bool (a==1), .int .i64 b, .gs (.slice none 0 0) [], .gs (.slice none 0 0) []]], .int .i64 0]) (L:=fun y=>.blk sb [y.2, .int .i64 0]::F) (by decide) (fun y x hx=>by rw [List.mem_singleton.1 hx];rfl) (fun y=>Cv.tupL (.cons (.hit _) (.cons (.rfl _) .nil)))
  ((zmn sb rv a b F h).mono fun d G ⟨v,rv',hq,hd,hG⟩=>⟨(v,rv'),hq,hd,hG⟩)
 refine DC.sub (h1.mono fun d G ⟨y,hq,hd,hG⟩=>?_)
 subst hd;subst hG
 exact ⟨_,_,le.tup (Les.cons (le.gs rfl) (Les.cons le.rfl_ Les.nil)),⟨y.2,hq,rfl,rfl⟩,SubP.refl⟩
end
section
attribute [local irreducible] DW SeqD DV DOp DC DVX DVJ idsF usI sortS putM zaj onlyM
theorem zg7 {p:Prop} (h:p:=by first | exact sv | exact ⟨hrv,hab⟩ | exact hrv | (refine ⟨by decide,by decide,?_⟩;(intro j hj;rw [List.mem_singleton.1 hj];exact ⟨rfl,rfl⟩)) | fail):p:=h
theorem pq0_dc (a b:Int) (F:Own):((a=0/\(b=0\/b=1\/b=2))\/(a=1/\b=0))->DC Tryz.prog 15 [.sl [.agg [.int .i64 0, .int .i64 0, .sl [], .bool true], .agg [.int .i64 0, .int .i64 7, .sl [.int .u8 32, .int .u8 2, .int .u8 a, .int .u8 b], .bool false]], .int .i64 0] (([]:Own)++F) fun d G=>∃ v,d = .tup [.ar v 0, .bool true]/\G = .arr 24 v []::F:=by
 intro hA
 have hab:=hA
 refine DC.bodyS (n_:=47) (show Tryz.prog.funcs[15]? = some Tryz.f15 by kernel_rfl) rfl rfl (by rfl) ?_
 simp only [env0,List.append_assoc,List.cons_append,List.nil_append]
 have kw:=ksIs [0,1,4,5,6,7,8,9,10,15,24]
 have ow:=zaf []
 repeat' (first
  | ((refine DW.own0 24 7 (by rfl) ?_);(simp only [zc1,zdn,Nat.reduceEqDiff,↓reduceIte,if_true,if_false,reduceCtorEq]);((with_reducible refine DW.loopB 0 (X:=Nat×Nat×Bool×V×Ce×Value) (fun x=>((x.1=0/\x.2.1=0/\x.2.2.1=false/\x.2.2.2.2.1=[])\/(x.1=1/\x.2.1=0/\x.2.2.1=true/\x.2.2.2.2.1=[])\/(x.1=2/\x.2.1=0/\x.2.2.1=true/\x.2.2.2.2.1=[]))/\(x.2.2.2.1 = .sl []\/∃ v,x.2.2.2.1 = .gs v [])) (fun x=>[(0, .sl [.agg [.int .i64 0, .int .i64 0, .sl [], .bool true], .agg [.int .i64 0, .int .i64 7, .sl [.int .u8 32, .int .u8 2, .int .u8 a, .int .u8 b], .bool false]]),(1, .int .i64 0),(6, .raw (.pointer (some ⟨sb,0,none⟩))),(7, .ar x.2.2.2.2.2 x.2.1),(8, .bool x.2.2.1),(9, .int .i64 x.1)]) (fun x=>.arr 24 x.2.2.2.2.2 x.2.2.2.2.1 :: .blk sb [x.2.2.2.1, .int .i64 0]::([]:Own)) (fun x=>2 - x.1) ((0,0,false, .gs (.slice none 0 0) [],[], .slice none 0 0)) ?_ ?_ ?_);exact (⟨.inl ⟨rfl,rfl,rfl,rfl⟩, .inr ⟨_,rfl⟩⟩);(exact kxcm);(try simp only [List.append_assoc,List.cons_append,List.nil_append]);refine pl_ ?_;intro ⟨k,nn,cc,rv,l,v⟩ ⟨hk,hrv⟩;(try simp only [List.append_assoc,List.cons_append,List.nil_append]);(try simp only at hk hrv);(rcases hk with ⟨rfl,rfl,rfl,rfl⟩ | ⟨rfl,rfl,rfl,rfl⟩ | ⟨rfl,rfl,rfl,rfl⟩)))
  | refine g_ ?_
  | ((with_reducible refine And.intro ?_ ?_);(exact zg7))
  | (refine DW.cond (by rfl) ?_ ?_<;>(first | exact i0_ | (refine ic_ ?_;intro hb)))
  | ((with_reducible refine zaa ?_ ?_)<;>(intro hb;rw [hb];revert hb;(first | exact i0_ | (refine i_ ?_;intro hb))))
  | refine r_ ?_
  | refine k_ ?_
  | (refine p_ (zja _ _ _ _ _) ?_ (ha:=by exact zg7);rintro d H1 ⟨rv2,hrv2,rfl,rfl⟩<;>refine s_ ?_)
  | (refine p_ (zi8 _ _ _) ?_ (ha:=by exact zg7);rintro d H1 ⟨rv2,hrv2,rfl,rfl⟩<;>refine s_ ?_)
  | refine o_ ?_
  | refine f_ ?_
  | ((fail_if_success (have zz:=sb));with_reducible intro sb)
  | ((fail_if_success (have zz:=v8));with_reducible intro v8)
  | with_reducible intro b)
 all_goals first
 | (((refine ⟨_,_,le.rfl_,⟨v,rfl,rfl⟩,?_⟩);exact sub_))
 | (((refine ⟨(1,0,true,rv2,_,v8),⟨.inr (.inl ⟨rfl,rfl,rfl,rfl⟩),by (try simp only);assumption⟩,kxci,?_,?_⟩);(focus (simp [Sub,get]));(exact kxcg)))
 | (((refine ⟨(2,0,true,rv2,_,v8),⟨.inr (.inr ⟨rfl,rfl,rfl,rfl⟩),by (try simp only);assumption⟩,kxcj,?_,?_⟩);(focus (simp [Sub,get]));(exact kxcg)))
 | (((refine ⟨(1,0,true,rv2,_,v),⟨.inr (.inl ⟨rfl,rfl,rfl,rfl⟩),by (try simp only);assumption⟩,kxci,?_,?_⟩);(focus (simp [Sub,get]));(exact kxcg)))
 | (((refine ⟨(2,0,true,rv2,_,v),⟨.inr (.inr ⟨rfl,rfl,rfl,rfl⟩),by (try simp only);assumption⟩,kxcj,?_,?_⟩);(focus (simp [Sub,get]));(exact kxcg)))
 | (((refine ⟨(1,0,true,rv,_,v8),⟨.inr (.inl ⟨rfl,rfl,rfl,rfl⟩),by (try simp only);assumption⟩,kxci,?_,?_⟩);(focus (simp [Sub,get]));(exact kxcg)))
 | (((refine ⟨(2,0,true,rv,_,v8),⟨.inr (.inr ⟨rfl,rfl,rfl,rfl⟩),by (try simp only);assumption⟩,kxcj,?_,?_⟩);(focus (simp [Sub,get]));(exact kxcg)))
 | (((refine ⟨(1,0,true,rv,_,v),⟨.inr (.inl ⟨rfl,rfl,rfl,rfl⟩),by (try simp only);assumption⟩,kxci,?_,?_⟩);(focus (simp [Sub,get]));(exact kxcg)))
 | (((refine ⟨(2,0,true,rv,_,v),⟨.inr (.inr ⟨rfl,rfl,rfl,rfl⟩),by (try simp only);assumption⟩,kxcj,?_,?_⟩);(focus (simp [Sub,get]));(exact kxcg)))
 | (trace_state;fail)
theorem zgm {p:Prop} (h:p:=by first | exact sv | exact ⟨hrv,hab⟩ | exact hrv | (refine ⟨by decide,by decide,?_⟩;(intro j hj;rw [List.mem_singleton.1 hj];exact ⟨rfl,rfl⟩)) | fail):p:=h
theorem pq7_dc (a b:Int) (F:Own):((a=0/\(b=0\/b=1\/b=2))\/(a=1/\b=0))->DC Tryz.prog 15 [.sl [.agg [.int .i64 0, .int .i64 0, .sl [], .bool true], .agg [.int .i64 0, .int .i64 7, .sl [.int .u8 32, .int .u8 2, .int .u8 a, .int .u8 b], .bool false]], .int .i64 7] (([]:Own)++F) fun d G=>∃ v,d = .tup [.ar v 1, .bool false]/\G = .arr 24 v [.int .i64 2, .bool false, .bool false, .int .i64 0, .int .i64 0, .str [], .gs (.slice none 0 0) [], .int .i64 0, .str [], .bool false, .int .i64 0, .bool false, .str [], .gs (.slice none 0 0) [], .int .i64 0, .bool false, .bool false, .bool false, .str [], .gs (.slice none 0 0) [], .bool (a==1), .int .i64 b, .gs (.slice none 0 0) [], .gs (.slice none 0 0) []]::F:=by
 intro hA
 have hab:=hA
 refine DC.bodyS (n_:=47) (show Tryz.prog.funcs[15]? = some Tryz.f15 by kernel_rfl) rfl rfl (by rfl) ?_
 simp only [env0,List.append_assoc,List.cons_append,List.nil_append]
 have kw:=ksIs [0,1,4,5,6,7,8,9,10,15,24]
 have ow:=zaf []
 repeat' (first
  | ((refine DW.own0 24 7 (by rfl) ?_);(simp only [zc1,zdn,Nat.reduceEqDiff,↓reduceIte,if_true,if_false,reduceCtorEq]);((with_reducible refine DW.loopB 0 (X:=Nat×Nat×Bool×V×Ce×Value) (fun x=>((x.1=0/\x.2.1=0/\x.2.2.1=false/\x.2.2.2.2.1=[])\/(x.1=1/\x.2.1=0/\x.2.2.1=false/\x.2.2.2.2.1=[])\/(x.1=2/\x.2.1=1/\x.2.2.1=false/\x.2.2.2.2.1=[.int .i64 2, .bool false, .bool false, .int .i64 0, .int .i64 0, .str [], .gs (.slice none 0 0) [], .int .i64 0, .str [], .bool false, .int .i64 0, .bool false, .str [], .gs (.slice none 0 0) [], .int .i64 0, .bool false, .bool false, .bool false, .str [], .gs (.slice none 0 0) [], .bool (a==1), .int .i64 b, .gs (.slice none 0 0) [], .gs (.slice none 0 0) []]))/\(x.2.2.2.1 = .sl []\/∃ v,x.2.2.2.1 = .gs v [])) (fun x=>[(0, .sl [.agg [.int .i64 0, .int .i64 0, .sl [], .bool true], .agg [.int .i64 0, .int .i64 7, .sl [.int .u8 32, .int .u8 2, .int .u8 a, .int .u8 b], .bool false]]),(1, .int .i64 7),(6, .raw (.pointer (some ⟨sb,0,none⟩))),(7, .ar x.2.2.2.2.2 x.2.1),(8, .bool x.2.2.1),(9, .int .i64 x.1)]) (fun x=>.arr 24 x.2.2.2.2.2 x.2.2.2.2.1 :: .blk sb [x.2.2.2.1, .int .i64 0]::([]:Own)) (fun x=>2 - x.1) ((0,0,false, .gs (.slice none 0 0) [],[], .slice none 0 0)) ?_ ?_ ?_);exact (⟨.inl ⟨rfl,rfl,rfl,rfl⟩, .inr ⟨_,rfl⟩⟩);(exact kxcm);(try simp only [List.append_assoc,List.cons_append,List.nil_append]);refine pl_ ?_;intro ⟨k,nn,cc,rv,l,v⟩ ⟨hk,hrv⟩;(try simp only [List.append_assoc,List.cons_append,List.nil_append]);(try simp only at hk hrv);(rcases hk with ⟨rfl,rfl,rfl,rfl⟩ | ⟨rfl,rfl,rfl,rfl⟩ | ⟨rfl,rfl,rfl,rfl⟩)))
  | refine g_ ?_
  | ((with_reducible refine And.intro ?_ ?_);(exact zgm))
  | (refine DW.cond (by rfl) ?_ ?_<;>(first | exact i0_ | (refine ic_ ?_;intro hb)))
  | ((with_reducible refine zaa ?_ ?_)<;>(intro hb;rw [hb];revert hb;(first | exact i0_ | (refine i_ ?_;intro hb))))
  | refine r_ ?_
  | refine k_ ?_
  | (refine p_ (zja _ _ _ _ _) ?_ (ha:=by exact zgm);rintro d H1 ⟨rv2,hrv2,rfl,rfl⟩<;>refine s_ ?_)
  | (refine p_ (zi8 _ _ _) ?_ (ha:=by exact zgm);rintro d H1 ⟨rv2,hrv2,rfl,rfl⟩<;>refine s_ ?_)
  | refine o_ ?_
  | refine f_ ?_
  | ((fail_if_success (have zz:=sb));with_reducible intro sb)
  | ((fail_if_success (have zz:=v8));with_reducible intro v8)
  | with_reducible intro b)
 all_goals first
 | (((refine ⟨_,_,le.rfl_,⟨v,rfl,rfl⟩,?_⟩);exact sub_))
 | (((refine ⟨(1,0,false,rv2,_,v8),⟨.inr (.inl ⟨rfl,rfl,rfl,rfl⟩),by (try simp only);assumption⟩,kxci,?_,?_⟩);(focus (simp [Sub,get]));(exact kxcg)))
 | (((refine ⟨(2,1,false,rv2,_,v8),⟨.inr (.inr ⟨rfl,rfl,rfl,rfl⟩),by (try simp only);assumption⟩,kxcj,?_,?_⟩);(focus (simp [Sub,get]));(exact kxcg)))
 | (((refine ⟨(1,0,false,rv2,_,v),⟨.inr (.inl ⟨rfl,rfl,rfl,rfl⟩),by (try simp only);assumption⟩,kxci,?_,?_⟩);(focus (simp [Sub,get]));(exact kxcg)))
 | (((refine ⟨(2,1,false,rv2,_,v),⟨.inr (.inr ⟨rfl,rfl,rfl,rfl⟩),by (try simp only);assumption⟩,kxcj,?_,?_⟩);(focus (simp [Sub,get]));(exact kxcg)))
 | (((refine ⟨(1,0,false,rv,_,v8),⟨.inr (.inl ⟨rfl,rfl,rfl,rfl⟩),by (try simp only);assumption⟩,kxci,?_,?_⟩);(focus (simp [Sub,get]));(exact kxcg)))
 | (((refine ⟨(2,1,false,rv,_,v8),⟨.inr (.inr ⟨rfl,rfl,rfl,rfl⟩),by (try simp only);assumption⟩,kxcj,?_,?_⟩);(focus (simp [Sub,get]));(exact kxcg)))
 | (((refine ⟨(1,0,false,rv,_,v),⟨.inr (.inl ⟨rfl,rfl,rfl,rfl⟩),by (try simp only);assumption⟩,kxci,?_,?_⟩);(focus (simp [Sub,get]));(exact kxcg)))
 | (((refine ⟨(2,1,false,rv,_,v),⟨.inr (.inr ⟨rfl,rfl,rfl,rfl⟩),by (try simp only);assumption⟩,kxcj,?_,?_⟩);(focus (simp [Sub,get]));(exact kxcg)))
 | (trace_state;fail)
end
end Go.Proofs.YtgekknefphagbaaGreatDoor
