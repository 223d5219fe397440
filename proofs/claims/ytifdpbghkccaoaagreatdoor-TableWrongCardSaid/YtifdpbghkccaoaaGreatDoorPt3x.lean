/- The last deed that was seen; how dots, routes stand. -/
import Derived.Test.YtifdpbghkccaoaaGreatDoorPt2x
import Derived.KernelRfl
import Derived.Test.YtifdpbghkccaoaaGreatDoorDd2x
namespace Go.Proofs.YtifdpbghkccaoaaGreatDoor
open Go.RowKit
set_option linter.unusedSimpArgs false
set_option linter.unusedVariables false
set_option linter.unusedSectionVars false
set_option maxHeartbeats 4000000
set_option maxRecDepth 100000
section
theorem found_lt {l:List TDot} {x:TDot} (h:foundB l x=true):placeD l x<l.length:=by
 simp only [foundB,Bool.and_eq_true,decide_eq_true_eq] at h;exact h.1
theorem bsd2_dc (l:List TDot) (x1 x2 x3:Int) (F:Own):(rightB l=true/\l.length<=1000000000)->DC Tryz.prog 116 [.sl (l.map encDot), .agg [.int .i64 x1, .int .i64 x2, .int .i64 x3], .fn (.func 92) [] []] (([]:Own)++F) fun d G=>(foundB l ⟨x1,x2,x3⟩=true/\placeD l ⟨x1,x2,x3⟩<l.length/\d = .tup [.int .i64 (placeD l ⟨x1,x2,x3⟩), .bool true]\/foundB l ⟨x1,x2,x3⟩=false/\d = .tup [.int .i64 (placeD l ⟨x1,x2,x3⟩), .bool false])/\G=[]++F:=fun h =>
 (bsd_dc l x1 x2 x3 F h).mono fun d G ⟨h1,h2⟩=>⟨by
   cases hf:foundB l ⟨x1,x2,x3⟩ with
   | true=>rw [hf] at h1;exact .inl ⟨rfl,found_lt hf,h1⟩
   | false=>rw [hf] at h1;exact .inr ⟨rfl,h1⟩,h2⟩
theorem top_wrong {l:List TDot} (h:rightB l=false) (n e:Int):topM l n e=0:=by rw [topM,if_neg (by rw [h];simp)]
theorem before_dec (a b:TDot):decide (orI (livesI a b) (cmpI a.n b.n)<0)=before a b:=by
 rw [Bool.eq_iff_iff,decide_eq_true_iff];exact before_lt a b
theorem order_dec (a b:TRoute):decide (orderI a b<0)=rbefore a b:=by
 rw [Bool.eq_iff_iff,decide_eq_true_iff];exact orderI_lt a b
attribute [local irreducible] DW SeqD DV DOp DC DVX
section
attribute [local push_cast 2000] encDot dot_eta
theorem topd_dc (l:List TDot) (x1 x2 x3:Int) (F:Own):(rightB l=true/\l.length<=1000000000)->DC Tryz.prog 141 [.sl (l.map encDot), .agg [.int .i64 x1, .int .i64 x2, .int .i64 x3]] (([]:Own)++F) fun d G=>d = .int .i64 (topM l x1 x2)/\G=[]++F:=by
 intro hA
 obtain ⟨hr,hl⟩:=hA
 refine DC.bodyS (n_:=19) (show Tryz.prog.funcs[141]? = some Tryz.f141 by kernel_rfl) rfl rfl (by rfl) ?_
 simp only [env0,List.cons_append,List.nil_append]
 have kw:=ksIs [0,1,3,4,5,6,13]
 have ow:=ownIs []
 have ht:=top_bs hr x1 x2 x3
 repeat' (first
  | refine g_ ?_
  | ((with_reducible refine And.intro ?_ ?_);(exact sv))
  | (refine DW.cond (by rfl) ?_ ?_<;>(first | exact i0_ | (refine ic_ ?_;intro hb)))
  | ((with_reducible refine FVg_cases ?_ ?_)<;>(intro hb;rw [hb];revert hb;(first | exact i0_ | (refine i_ ?_;intro hb))))
  | refine r_ ?_
  | refine k_ ?_
  | (refine p_ (bsd2_dc _ _ _ _ _) ?_;rintro d H1 ⟨⟨hf,hpl,rfl⟩ | ⟨hf,rfl⟩,rfl⟩<;>refine s_ ?_)
  | refine o_ ?_
  | refine f_ ?_
  | with_reducible intro b)
 all_goals first
 | (rw [ht,if_pos hf];(first | exact fin_ | refine finq_ ?_);done)
 | (rw [ht,if_neg (by rw [hf];simp)];(first | exact fin_ | refine finq_ ?_);done)
end
theorem ptop_dc (l:List TDot) (node epoch:Int) (F:Own):(l.length<=1000000000)->DC Tryz.prog 97 [.sl (l.map encDot), .int .i64 node, .int .i64 epoch] (([]:Own)++F) fun d G=>d = .int .i64 (topM l node epoch)/\G=[]++F:=by
 intro hA
 have hl:=hA
 refine DC.bodyS (n_:=15) (show Tryz.prog.funcs[97]? = some Tryz.f97 by kernel_rfl) rfl rfl (by rfl) ?_
 simp only [env0,List.cons_append,List.nil_append]
 have kw:=ksIs [0,1,2,6,9]
 have ow:=ownIs []
 repeat' (first
  | refine g_ ?_
  | ((with_reducible refine And.intro ?_ ?_);(exact sv))
  | (refine DW.cond (by rfl) ?_ ?_<;>(first | exact i0_ | (refine ic_ ?_;intro hb)))
  | ((with_reducible refine FVg_cases ?_ ?_)<;>(intro hb;rw [hb];revert hb;(first | exact i0_ | (refine i_ ?_;intro hb))))
  | refine r_ ?_
  | refine k_ ?_
  | (refine q_ (pright_dc _ _) ?_)
  | (refine q_ (topd_dc _ _ _ _ _) ?_)
  | refine o_ ?_
  | refine f_ ?_
  | with_reducible intro b)
 all_goals first
 | (rw [top_wrong (by assumption)];(first | exact fin_ | refine finq_ ?_);done)
 | ((first | exact fin_ | refine finq_ ?_);done)
theorem pbefore_dc (a1 a2 a3 b1 b2 b3:Int) (F:Own):(True)->DC Tryz.prog 119 [.agg [.int .i64 a1, .int .i64 a2, .int .i64 a3], .agg [.int .i64 b1, .int .i64 b2, .int .i64 b3]] (([]:Own)++F) fun d G=>d = .bool (before ⟨a1,a2,a3⟩ ⟨b1,b2,b3⟩)/\G=[]++F:=by
 intro hA
 refine DC.bodyS (n_:=16) (show Tryz.prog.funcs[119]? = some Tryz.f119 by kernel_rfl) rfl rfl (by rfl) ?_
 simp only [env0,List.cons_append,List.nil_append]
 have kw:=ksIs [0,1,2,3,4]
 have ow:=ownIs []
 have dw1:=drIs 1 [] [0,1,2,4,6,7,9]
 repeat' (first
  | refine g_ ?_
  | ((with_reducible refine And.intro ?_ ?_);(exact sv))
  | (refine DW.cond (by rfl) ?_ ?_<;>(first | exact i0_ | (refine ic_ ?_;intro hb)))
  | ((with_reducible first | refine FVg_cases ?_ ?_ | refine FDg_cases ?_ ?_)<;>(intro hb;rw [hb];revert hb;(first | exact i0_ | (refine i_ ?_;intro hb))))
  | refine r_ ?_
  | refine d_ ?_
  | refine k_ ?_
  | ((refine dm_ ?_);(first | ((first | refine v_ (cmpi_dc _ _ _) ?_ | refine v_ (or2_dc _ _ _) ?_ | refine v_ (lives_dc _ _ _ _ _ _ _) ?_))))
  | refine vo_ ?_
  | ((first | refine q_ (cmpi_dc _ _ _) ?_ | refine q_ (or2_dc _ _ _) ?_ | refine q_ (lives_dc _ _ _ _ _ _ _) ?_))
  | refine o_ ?_
  | refine f_ ?_
  | refine vm_ ?_
  | with_reducible intro b)
 all_goals
  refine ⟨_,_,le.of_eq ?_,⟨rfl,rfl⟩,SubP.refl⟩
  rw [<-before_dec]
theorem order_dc (a1 a2 a3:Int) (f1:Str) (b1 b2 b3:Int) (f2:Str) (F:Own):(True)->DC Tryz.prog 89 [.agg [.int .i64 a1, .int .i64 a2, .int .i64 a3, .str f1], .agg [.int .i64 b1, .int .i64 b2, .int .i64 b3, .str f2]] (([]:Own)++F) fun d G=>d = .int .i64 (orderI ⟨⟨a1,a2,a3⟩,f1⟩ ⟨⟨b1,b2,b3⟩,f2⟩)/\G=[]++F:=by
 intro hA
 refine DC.bodyS (n_:=26) (show Tryz.prog.funcs[89]? = some Tryz.f89 by kernel_rfl) rfl rfl (by rfl) ?_
 simp only [env0,List.cons_append,List.nil_append]
 have kw:=ksIs [0,1,2,3,4,5,12,14,20]
 have ow:=ownIs []
 repeat' (first
  | refine g_ ?_
  | ((with_reducible refine And.intro ?_ ?_);(exact sv))
  | (refine DW.cond (by rfl) ?_ ?_<;>(first | exact i0_ | (refine ic_ ?_;intro hb)))
  | ((with_reducible refine FVg_cases ?_ ?_)<;>(intro hb;rw [hb];revert hb;(first | exact i0_ | (refine i_ ?_;intro hb))))
  | refine r_ ?_
  | refine k_ ?_
  | (refine q_ (cmps_dc _ _ _) ?_)
  | (refine q_ (pbefore_dc _ _ _ _ _ _ _) ?_)
  | refine o_ ?_
  | refine f_ ?_
  | with_reducible intro b)
 all_goals
  refine ⟨_,_,le.of_eq ?_,⟨rfl,rfl⟩,SubP.refl⟩
  unfold orderI
  simp_all
theorem prbefore_dc (a1 a2 a3:Int) (f1:Str) (b1 b2 b3:Int) (f2:Str) (F:Own):(True)->DC Tryz.prog 35 [.agg [.int .i64 a1, .int .i64 a2, .int .i64 a3, .str f1], .agg [.int .i64 b1, .int .i64 b2, .int .i64 b3, .str f2]] (([]:Own)++F) fun d G=>d = .bool (rbefore ⟨⟨a1,a2,a3⟩,f1⟩ ⟨⟨b1,b2,b3⟩,f2⟩)/\G=[]++F:=by
 intro hA
 refine DC.bodyS (n_:=9) (show Tryz.prog.funcs[35]? = some Tryz.f35 by kernel_rfl) rfl rfl (by rfl) ?_
 simp only [env0,List.cons_append,List.nil_append]
 have kw:=ksIs [0,1,2,3,4]
 have ow:=ownIs []
 repeat' (first
  | refine g_ ?_
  | ((with_reducible refine And.intro ?_ ?_);(exact sv))
  | (refine DW.cond (by rfl) ?_ ?_<;>(first | exact i0_ | (refine ic_ ?_;intro hb)))
  | ((with_reducible refine FVg_cases ?_ ?_)<;>(intro hb;rw [hb];revert hb;(first | exact i0_ | (refine i_ ?_;intro hb))))
  | refine r_ ?_
  | refine k_ ?_
  | (refine q_ (order_dc _ _ _ _ _ _ _ _ _) ?_)
  | refine o_ ?_
  | refine f_ ?_
  | with_reducible intro b)
 all_goals
  refine ⟨_,_,le.of_eq ?_,⟨rfl,rfl⟩,SubP.refl⟩
  rw [<-order_dec]
end
section
attribute [local irreducible] DW SeqD DV DOp DC DVX DVJ
theorem sv_clodS_dc {p:Prop} (h:p:=by first | exact sv | (simp [encDot,V.one,u8]<;>omega) | fail):p:=h
section
attribute [local push_cast 2000] encDot
theorem clodS_dc (l:List TDot) (p:Addr) (n cap:Nat) (F:Own):(l.length<=1000000000)->DC Tryz.prog 69 [.gs (.slice (some p) n cap) (l.map encDot)] (([]:Own)++F) fun d G=>∃ v,d = .ar v l.length/\G = .arr 3 v (cells (l.map encDot))::F:=by
 intro hA
 have hl:=hA
 refine DC.bodyS (n_:=8) (show Tryz.prog.funcs[69]? = some Tryz.f69 by kernel_rfl) rfl rfl (by rfl) ?_
 simp only [env0,List.cons_append,List.nil_append]
 have kw:=ksIs [0,2,4]
 have ow:=ownIs [5]
 repeat' (first
  | refine g_ ?_
  | ((with_reducible refine And.intro ?_ ?_);(exact sv_clodS_dc))
  | (refine DW.cond (by rfl) ?_ ?_<;>(first | exact i0_ | (refine ic_ ?_;intro hb)))
  | ((with_reducible refine FVg_cases ?_ ?_)<;>(intro hb;rw [hb];revert hb;(first | exact i0_ | (refine i_ ?_;intro hb))))
  | refine r_ ?_
  | refine k_ ?_
  | ((first | (refine DOp.lista_ [5] rfl rfl ?_) | (refine DOp.makea_ [5] rfl rfl rfl rfl ?_))<;>(refine s_ ?_))
  | refine o_ ?_
  | refine f_ ?_
  | with_reducible intro b)
 all_goals first
 | (refine ⟨_,_,le.rfl_,⟨_,rfl,rfl⟩,?_⟩;(exact sub_);done)
end
theorem clodN_dc (n cap:Nat) (F:Own):(True)->DC Tryz.prog 69 [.gs (.slice none n cap) []] (([]:Own)++F) fun d G=>d = .gs (.slice none 0 0) []/\G=[]++F:=by
 intro hA
 refine DC.bodyS (n_:=8) (show Tryz.prog.funcs[69]? = some Tryz.f69 by kernel_rfl) rfl rfl (by rfl) ?_
 simp only [env0,List.cons_append,List.nil_append]
 have kw:=ksIs [0,2,4]
 have ow:=ownIs []
 repeat' (first
  | refine g_ ?_
  | ((with_reducible refine And.intro ?_ ?_);(exact sv))
  | (refine DW.cond (by rfl) ?_ ?_<;>(first | exact i0_ | (refine ic_ ?_;intro hb)))
  | ((with_reducible refine FVg_cases ?_ ?_)<;>(intro hb;rw [hb];revert hb;(first | exact i0_ | (refine i_ ?_;intro hb))))
  | refine r_ ?_
  | refine k_ ?_
  | ((first | (refine DOp.lista_ [5] rfl rfl ?_) | (refine DOp.makea_ [5] rfl rfl rfl rfl ?_))<;>(refine s_ ?_))
  | refine o_ ?_
  | refine f_ ?_
  | with_reducible intro b)
 (first | exact fin_ | refine finq_ ?_)
 all_goals rfl
theorem clod_dc (l:List TDot) (F:Own):l.length<=1000000000->DC Tryz.prog 69 [.sl (l.map encDot)] (([]:Own)++F) fun d G=>∃ v,d = .ar v l.length/\G = .arr 3 v (cells (l.map encDot))::F:=fun h=>DC.someV (by kernel_rfl) fun a cap ha=>by
 cases a with
 | none =>
  have e:=ha rfl
  have el:l=[]:=List.map_eq_nil_iff.1 e
  subst el
  exact (DC.own0 3 (clodN_dc _ _ F trivial)).mono fun d G ⟨h1,h2⟩=>⟨_,h1,h2⟩
 | some p=>exact clodS_dc l p _ _ F h
theorem sv_clofS_dc {p:Prop} (h:p:=by first | exact sv | (simp [encFence,V.one,u8]<;>omega) | fail):p:=h
section
attribute [local push_cast 2000] encFence
theorem clofS_dc (l:List TFence) (p:Addr) (n cap:Nat) (F:Own):(l.length<=1000000000)->DC Tryz.prog 28 [.gs (.slice (some p) n cap) (l.map encFence)] (([]:Own)++F) fun d G=>∃ v,d = .ar v l.length/\G = .arr 2 v (cells (l.map encFence))::F:=by
 intro hA
 have hl:=hA
 refine DC.bodyS (n_:=8) (show Tryz.prog.funcs[28]? = some Tryz.f28 by kernel_rfl) rfl rfl (by rfl) ?_
 simp only [env0,List.cons_append,List.nil_append]
 have kw:=ksIs [0,2,4]
 have ow:=ownIs [5]
 repeat' (first
  | refine g_ ?_
  | ((with_reducible refine And.intro ?_ ?_);(exact sv_clofS_dc))
  | (refine DW.cond (by rfl) ?_ ?_<;>(first | exact i0_ | (refine ic_ ?_;intro hb)))
  | ((with_reducible refine FVg_cases ?_ ?_)<;>(intro hb;rw [hb];revert hb;(first | exact i0_ | (refine i_ ?_;intro hb))))
  | refine r_ ?_
  | refine k_ ?_
  | ((first | (refine DOp.lista_ [5] rfl rfl ?_) | (refine DOp.makea_ [5] rfl rfl rfl rfl ?_))<;>(refine s_ ?_))
  | refine o_ ?_
  | refine f_ ?_
  | with_reducible intro b)
 all_goals first
 | (refine ⟨_,_,le.rfl_,⟨_,rfl,rfl⟩,?_⟩;(exact sub_);done)
end
theorem clofN_dc (n cap:Nat) (F:Own):(True)->DC Tryz.prog 28 [.gs (.slice none n cap) []] (([]:Own)++F) fun d G=>d = .gs (.slice none 0 0) []/\G=[]++F:=by
 intro hA
 refine DC.bodyS (n_:=8) (show Tryz.prog.funcs[28]? = some Tryz.f28 by kernel_rfl) rfl rfl (by rfl) ?_
 simp only [env0,List.cons_append,List.nil_append]
 have kw:=ksIs [0,2,4]
 have ow:=ownIs []
 repeat' (first
  | refine g_ ?_
  | ((with_reducible refine And.intro ?_ ?_);(exact sv))
  | (refine DW.cond (by rfl) ?_ ?_<;>(first | exact i0_ | (refine ic_ ?_;intro hb)))
  | ((with_reducible refine FVg_cases ?_ ?_)<;>(intro hb;rw [hb];revert hb;(first | exact i0_ | (refine i_ ?_;intro hb))))
  | refine r_ ?_
  | refine k_ ?_
  | ((first | (refine DOp.lista_ [5] rfl rfl ?_) | (refine DOp.makea_ [5] rfl rfl rfl rfl ?_))<;>(refine s_ ?_))
  | refine o_ ?_
  | refine f_ ?_
  | with_reducible intro b)
 (first | exact fin_ | refine finq_ ?_)
 all_goals rfl
theorem clof_dc (l:List TFence) (F:Own):l.length<=1000000000->DC Tryz.prog 28 [.sl (l.map encFence)] (([]:Own)++F) fun d G=>∃ v,d = .ar v l.length/\G = .arr 2 v (cells (l.map encFence))::F:=fun h=>DC.someV (by kernel_rfl) fun a cap ha=>by
 cases a with
 | none =>
  have e:=ha rfl
  have el:l=[]:=List.map_eq_nil_iff.1 e
  subst el
  exact (DC.own0 2 (clofN_dc _ _ F trivial)).mono fun d G ⟨h1,h2⟩=>⟨_,h1,h2⟩
 | some p=>exact clofS_dc l p _ _ F h
theorem sv_clorS_dc {p:Prop} (h:p:=by first | exact sv | (simp [encRoute,V.one,u8]<;>omega) | fail):p:=h
section
attribute [local push_cast 2000] encRoute
theorem clorS_dc (l:List TRoute) (p:Addr) (n cap:Nat) (F:Own):(l.length<=1000000000)->DC Tryz.prog 70 [.gs (.slice (some p) n cap) (l.map encRoute)] (([]:Own)++F) fun d G=>∃ v,d = .ar v l.length/\G = .arr 4 v (cells (l.map encRoute))::F:=by
 intro hA
 have hl:=hA
 refine DC.bodyS (n_:=8) (show Tryz.prog.funcs[70]? = some Tryz.f70 by kernel_rfl) rfl rfl (by rfl) ?_
 simp only [env0,List.cons_append,List.nil_append]
 have kw:=ksIs [0,2,4]
 have ow:=ownIs [5]
 repeat' (first
  | refine g_ ?_
  | ((with_reducible refine And.intro ?_ ?_);(exact sv_clorS_dc))
  | (refine DW.cond (by rfl) ?_ ?_<;>(first | exact i0_ | (refine ic_ ?_;intro hb)))
  | ((with_reducible refine FVg_cases ?_ ?_)<;>(intro hb;rw [hb];revert hb;(first | exact i0_ | (refine i_ ?_;intro hb))))
  | refine r_ ?_
  | refine k_ ?_
  | ((first | (refine DOp.lista_ [5] rfl rfl ?_) | (refine DOp.makea_ [5] rfl rfl rfl rfl ?_))<;>(refine s_ ?_))
  | refine o_ ?_
  | refine f_ ?_
  | with_reducible intro b)
 all_goals first
 | (refine ⟨_,_,le.rfl_,⟨_,rfl,rfl⟩,?_⟩;(exact sub_);done)
end
theorem clorN_dc (n cap:Nat) (F:Own):(True)->DC Tryz.prog 70 [.gs (.slice none n cap) []] (([]:Own)++F) fun d G=>d = .gs (.slice none 0 0) []/\G=[]++F:=by
 intro hA
 refine DC.bodyS (n_:=8) (show Tryz.prog.funcs[70]? = some Tryz.f70 by kernel_rfl) rfl rfl (by rfl) ?_
 simp only [env0,List.cons_append,List.nil_append]
 have kw:=ksIs [0,2,4]
 have ow:=ownIs []
 repeat' (first
  | refine g_ ?_
  | ((with_reducible refine And.intro ?_ ?_);(exact sv))
  | (refine DW.cond (by rfl) ?_ ?_<;>(first | exact i0_ | (refine ic_ ?_;intro hb)))
  | ((with_reducible refine FVg_cases ?_ ?_)<;>(intro hb;rw [hb];revert hb;(first | exact i0_ | (refine i_ ?_;intro hb))))
  | refine r_ ?_
  | refine k_ ?_
  | ((first | (refine DOp.lista_ [5] rfl rfl ?_) | (refine DOp.makea_ [5] rfl rfl rfl rfl ?_))<;>(refine s_ ?_))
  | refine o_ ?_
  | refine f_ ?_
  | with_reducible intro b)
 (first | exact fin_ | refine finq_ ?_)
 all_goals rfl
theorem clor_dc (l:List TRoute) (F:Own):l.length<=1000000000->DC Tryz.prog 70 [.sl (l.map encRoute)] (([]:Own)++F) fun d G=>∃ v,d = .ar v l.length/\G = .arr 4 v (cells (l.map encRoute))::F:=fun h=>DC.someV (by kernel_rfl) fun a cap ha=>by
 cases a with
 | none =>
  have e:=ha rfl
  have el:l=[]:=List.map_eq_nil_iff.1 e
  subst el
  exact (DC.own0 4 (clorN_dc _ _ F trivial)).mono fun d G ⟨h1,h2⟩=>⟨_,h1,h2⟩
 | some p=>exact clorS_dc l p _ _ F h
theorem sv_clocS_dc {p:Prop} (h:p:=by first | exact sv | (simp [encCell,V.one,u8]<;>omega) | fail):p:=h
section
attribute [local push_cast 2000] encCell
theorem clocS_dc (l:List TCell) (p:Addr) (n cap:Nat) (F:Own):(l.length<=1000000000)->DC Tryz.prog 71 [.gs (.slice (some p) n cap) (l.map encCell)] (([]:Own)++F) fun d G=>∃ v,d = .ar v l.length/\G = .arr 10 v (cells (l.map encCell))::F:=by
 intro hA
 have hl:=hA
 refine DC.bodyS (n_:=8) (show Tryz.prog.funcs[71]? = some Tryz.f71 by kernel_rfl) rfl rfl (by rfl) ?_
 simp only [env0,List.cons_append,List.nil_append]
 have kw:=ksIs [0,2,4]
 have ow:=ownIs [5]
 repeat' (first
  | refine g_ ?_
  | ((with_reducible refine And.intro ?_ ?_);(exact sv_clocS_dc))
  | (refine DW.cond (by rfl) ?_ ?_<;>(first | exact i0_ | (refine ic_ ?_;intro hb)))
  | ((with_reducible refine FVg_cases ?_ ?_)<;>(intro hb;rw [hb];revert hb;(first | exact i0_ | (refine i_ ?_;intro hb))))
  | refine r_ ?_
  | refine k_ ?_
  | ((first | (refine DOp.lista_ [5] rfl rfl ?_) | (refine DOp.makea_ [5] rfl rfl rfl rfl ?_))<;>(refine s_ ?_))
  | refine o_ ?_
  | refine f_ ?_
  | with_reducible intro b)
 all_goals first
 | (refine ⟨_,_,le.rfl_,⟨_,rfl,rfl⟩,?_⟩;(exact sub_);done)
end
theorem clocN_dc (n cap:Nat) (F:Own):(True)->DC Tryz.prog 71 [.gs (.slice none n cap) []] (([]:Own)++F) fun d G=>d = .gs (.slice none 0 0) []/\G=[]++F:=by
 intro hA
 refine DC.bodyS (n_:=8) (show Tryz.prog.funcs[71]? = some Tryz.f71 by kernel_rfl) rfl rfl (by rfl) ?_
 simp only [env0,List.cons_append,List.nil_append]
 have kw:=ksIs [0,2,4]
 have ow:=ownIs []
 repeat' (first
  | refine g_ ?_
  | ((with_reducible refine And.intro ?_ ?_);(exact sv))
  | (refine DW.cond (by rfl) ?_ ?_<;>(first | exact i0_ | (refine ic_ ?_;intro hb)))
  | ((with_reducible refine FVg_cases ?_ ?_)<;>(intro hb;rw [hb];revert hb;(first | exact i0_ | (refine i_ ?_;intro hb))))
  | refine r_ ?_
  | refine k_ ?_
  | ((first | (refine DOp.lista_ [5] rfl rfl ?_) | (refine DOp.makea_ [5] rfl rfl rfl rfl ?_))<;>(refine s_ ?_))
  | refine o_ ?_
  | refine f_ ?_
  | with_reducible intro b)
 (first | exact fin_ | refine finq_ ?_)
 all_goals rfl
theorem cloc_dc (l:List TCell) (F:Own):l.length<=1000000000->DC Tryz.prog 71 [.sl (l.map encCell)] (([]:Own)++F) fun d G=>∃ v,d = .ar v l.length/\G = .arr 10 v (cells (l.map encCell))::F:=fun h=>DC.someV (by kernel_rfl) fun a cap ha=>by
 cases a with
 | none =>
  have e:=ha rfl
  have el:l=[]:=List.map_eq_nil_iff.1 e
  subst el
  exact (DC.own0 10 (clocN_dc _ _ F trivial)).mono fun d G ⟨h1,h2⟩=>⟨_,h1,h2⟩
 | some p=>exact clocS_dc l p _ _ F h
theorem sv_clobS_dc {p:Prop} (h:p:=by first | exact sv | (simp [u8,V.one,u8]<;>omega) | fail):p:=h
section
attribute [local push_cast 2000] u8
theorem clobS_dc (l:List UInt8) (p:Addr) (n cap:Nat) (F:Own):(l.length<=1000000000)->DC Tryz.prog 72 [.gs (.slice (some p) n cap) (l.map u8)] (([]:Own)++F) fun d G=>∃ v,d = .ar v l.length/\G = .arr 1 v (cells (l.map u8))::F:=by
 intro hA
 have hl:=hA
 refine DC.bodyS (n_:=8) (show Tryz.prog.funcs[72]? = some Tryz.f72 by kernel_rfl) rfl rfl (by rfl) ?_
 simp only [env0,List.cons_append,List.nil_append]
 have kw:=ksIs [0,2,4]
 have ow:=ownIs [5]
 repeat' (first
  | refine g_ ?_
  | ((with_reducible refine And.intro ?_ ?_);(exact sv_clobS_dc))
  | (refine DW.cond (by rfl) ?_ ?_<;>(first | exact i0_ | (refine ic_ ?_;intro hb)))
  | ((with_reducible refine FVg_cases ?_ ?_)<;>(intro hb;rw [hb];revert hb;(first | exact i0_ | (refine i_ ?_;intro hb))))
  | refine r_ ?_
  | refine k_ ?_
  | ((first | (refine DOp.lista_ [5] rfl rfl ?_) | (refine DOp.makea_ [5] rfl rfl rfl rfl ?_))<;>(refine s_ ?_))
  | refine o_ ?_
  | refine f_ ?_
  | with_reducible intro b)
 all_goals first
 | (refine ⟨_,_,le.rfl_,⟨_,rfl,rfl⟩,?_⟩;(exact sub_);done)
end
theorem clobN_dc (n cap:Nat) (F:Own):(True)->DC Tryz.prog 72 [.gs (.slice none n cap) []] (([]:Own)++F) fun d G=>d = .gs (.slice none 0 0) []/\G=[]++F:=by
 intro hA
 refine DC.bodyS (n_:=8) (show Tryz.prog.funcs[72]? = some Tryz.f72 by kernel_rfl) rfl rfl (by rfl) ?_
 simp only [env0,List.cons_append,List.nil_append]
 have kw:=ksIs [0,2,4]
 have ow:=ownIs []
 repeat' (first
  | refine g_ ?_
  | ((with_reducible refine And.intro ?_ ?_);(exact sv))
  | (refine DW.cond (by rfl) ?_ ?_<;>(first | exact i0_ | (refine ic_ ?_;intro hb)))
  | ((with_reducible refine FVg_cases ?_ ?_)<;>(intro hb;rw [hb];revert hb;(first | exact i0_ | (refine i_ ?_;intro hb))))
  | refine r_ ?_
  | refine k_ ?_
  | ((first | (refine DOp.lista_ [5] rfl rfl ?_) | (refine DOp.makea_ [5] rfl rfl rfl rfl ?_))<;>(refine s_ ?_))
  | refine o_ ?_
  | refine f_ ?_
  | with_reducible intro b)
 (first | exact fin_ | refine finq_ ?_)
 all_goals rfl
theorem clob_dc (l:List UInt8) (F:Own):l.length<=1000000000->DC Tryz.prog 72 [.sl (l.map u8)] (([]:Own)++F) fun d G=>∃ v,d = .ar v l.length/\G = .arr 1 v (cells (l.map u8))::F:=fun h=>DC.someV (by kernel_rfl) fun a cap ha=>by
 cases a with
 | none =>
  have e:=ha rfl
  have el:l=[]:=List.map_eq_nil_iff.1 e
  subst el
  exact (DC.own0 1 (clobN_dc _ _ F trivial)).mono fun d G ⟨h1,h2⟩=>⟨_,h1,h2⟩
 | some p=>exact clobS_dc l p _ _ F h
theorem bclone_dc (l:List UInt8) (F:Own):l.length<=1000000000->DC Tryz.prog 72 [.sl (l.map u8)] (([]:Own)++F) fun d G=>d = .sl (l.map u8)/\G=[]++F:=fun h =>
 DC.le_ (fun v=>.gs v (l.map u8)) (fun v=>le.gs rfl) ((DC.frz (F:=F) (K:=fun _=>True) (D:=fun v=>.ar v l.length) (D':=fun v=>.gs v (l.map u8)) (sz:=1) (l:=l.map u8) (L:=fun _=>F) (by decide) (fun y hy=>by obtain ⟨x,_,rfl⟩:=List.mem_map.1 hy;rfl) (fun v=>.hit _)
  ((clob_dc l F h).mono fun d G ⟨v,h1,h2⟩=>⟨v,h1,h2,trivial⟩)).mono fun d G ⟨v,h1,h2,_⟩=>⟨v,h1,h2⟩)
end
section
theorem cells_enccell (l:List TCell):(cells (l.map encCell)).length=l.length * 10:=by rw [cells_len (sz:=10) _ (fun y hy=>by obtain ⟨x,_,rfl⟩:=List.mem_map.1 hy;rfl),List.length_map]
theorem lay_same {cs:List V} {k:Nat} {d:V} (hk:k<cs.length) (h:cs.getD k .any=d):layV cs k [d]=cs:=by
 unfold layV
 rw [<-h]
 apply List.ext_getElem?
 intro i
 rw [List.append_assoc]
 rcases Nat.lt_trichotomy i k with hi | hi | hi
 · rw [List.getElem?_append_left (by simp;omega),List.getElem?_take,if_pos hi]
 · subst hi
   rw [List.getElem?_append_right (by simp;omega),List.length_take,Nat.min_eq_left (by omega),Nat.sub_self]
   rw [List.getElem?_append_left (by simp),List.getD_eq_getElem?_getD,List.getElem?_eq_getElem hk];rfl
 · rw [List.getElem?_append_right (by simp;omega),List.length_take,Nat.min_eq_left (by omega),List.getElem?_append_right (by simp;omega),List.getElem?_drop]
   congr 1
   simp;omega
theorem cell_pay {ce:List TCell} {k:Nat} (hk:k<ce.length):(cells (ce.map encCell)).getD (k * 10+7) .any = .sl ((ce.getD k default).payload.map u8):=by
 rw [cells_at (sz:=10) _ k 7 (fun y hy=>by obtain ⟨x,_,rfl⟩:=List.mem_map.1 hy;rfl) (by simpa using hk) (by decide)]
 simp [List.getD_eq_getElem?_getD,hk,encCell,V.cell]
theorem cell_get {ce:List TCell} {k:Nat} (hk:k<ce.length):(List.drop (k * 10+7) (cells (ce.map encCell))).getD 0 .any = .sl ((ce.getD k default).payload.map u8):=by
 rw [<-cell_pay hk];simp [List.getD_eq_getElem?_getD,List.getElem?_drop]
theorem cell_lay {ce:List TCell} {k:Nat} (hk:k<ce.length):layV (cells (ce.map encCell)) (k * 10+7) [.sl ((ce.getD k default).payload.map u8)]=cells (ce.map encCell):=lay_same (by rw [cells_enccell];omega) (cell_pay hk)
attribute [local irreducible] DW SeqD DV DOp DC DVX DVJ
theorem sv_copy_dc {p:Prop} (h:p:=by first | exact sv | exact hp k (by omega) | fail):p:=h
section
attribute [local push_cast 2000] cell_lay cells_enccell cell_get
theorem copy_dc (se:List TDot) (fe:List TFence) (ro:List TRoute) (ce:List TCell) (F:Own):(se.length<=1000000000/\fe.length<=1000000000/\ro.length<=1000000000/\ce.length<=1000000000/\∀ k,k<ce.length->(ce.getD k default).payload.length<=1000000000)->DC Tryz.prog 26 [.agg [.sl (se.map encDot), .sl (fe.map encFence), .sl (ro.map encRoute), .sl (ce.map encCell)]] (([]:Own)++F) fun d G=>∃ v1 v2 v3 v4,d = .agg [.ar v1 se.length, .ar v2 fe.length, .ar v3 ro.length, .ar v4 ce.length]/\G = .arr 3 v1 (cells (se.map encDot)) :: .arr 2 v2 (cells (fe.map encFence)) :: .arr 4 v3 (cells (ro.map encRoute)) :: .arr 10 v4 (cells (ce.map encCell))::F:=by
 intro hA
 obtain ⟨hs,hf,hr,hc,hp⟩:=hA
 refine DC.bodyS (n_:=40) (show Tryz.prog.funcs[26]? = some Tryz.f26 by kernel_rfl) rfl rfl (by rfl) ?_
 simp only [env0,List.cons_append,List.nil_append]
 have kw:=ksIs [0,1,2,3,22,23,24]
 have ow:=ownIs [1]
 have dw5:=drIs 5 [12] [1,4,8,9]
 have rw_:=rsIs [.cell 2 32]
 repeat' (first
  | ((with_reducible refine DW.loopB 0 (X:=Nat) (fun x=>x<=ce.length) (fun x=>[(1, .raw (.pointer (some ⟨b1,0,none⟩))),(2, .raw (.pointer (some ⟨b2,0,none⟩))),(22, .int .i64 ce.length),(23, .int .i64 x)]) (fun x=>.blk b1 [.ar v1 se.length, .ar v2 fe.length, .ar v3 ro.length, .ar v4 ce.length] :: .arr 10 v4 (cells (ce.map encCell))::([]:Own)) (fun x=>ce.length - x) (0) ?_ ?_ ?_);exact (Nat.zero_le _);(simp [Sub,get,keepL]<;>fail);(try simp only [List.cons_append,List.nil_append]);refine pl_ ?_;intro k hk;(try simp only [List.cons_append,List.nil_append]))
  | refine g_ ?_
  | ((with_reducible refine And.intro ?_ ?_);(exact sv_copy_dc))
  | (refine DW.cond (by rfl) ?_ ?_<;>(first | exact i0_ | (refine ic_ ?_;intro hb)))
  | ((with_reducible first | refine FVg_cases ?_ ?_ | refine FDg_cases ?_ ?_)<;>(intro hb;rw [hb];revert hb;(first | exact i0_ | (refine i_ ?_;intro hb))))
  | refine r_ ?_
  | refine d_ ?_
  | refine k_ ?_
  | ((refine dm_ ?_);(first | (refine v_ (bclone_dc _ _) ?_ (ha:=by exact sv_copy_dc))))
  | refine vo_ ?_
  | ((first | ((with_reducible apply DW.drawJ (id:=1) 1 [0,1,2,3,22,23,24] [2,5,8,11,13,15,17,19] [1,4,7,10] [2,5,8] (hm:=by kernel_rfl) (hd:=by kernel_rfl) (hB:=by kernel_rfl) (hN:=by kernel_rfl));(focus (exact rfl));(repeat (with_reducible first | refine OnB.here ?_ | refine OnB.mid ?_ | refine OnB.next ?_))) | (refine DVJ.k_ rfl rfl rfl ?_) | (refine DVJ.f_ rfl rfl rfl ?_))<;>(simp (maxSteps:=1000000) (disch:=omega) only [push_cast,↓reduceIte,reduceCtorEq,Nat.reduceAdd,Nat.reduceMul,Nat.reduceLT,Nat.reduceLeDiff,Nat.reduceEqDiff,Nat.reduceSub,Int.reduceToNat,Int.reduceLT,Int.reduceLE,Int.reduceAdd,Int.reduceSub,Int.reduceMul,Int.reduceNeg,Nat.reduceBEq,Int.reduceBEq,Int.reduceBNe,Nat.reduceBNe,Int.reduceEq,cell_lay,cells_enccell,cell_get,klS,klV]))
  | (refine p_ (clod_dc _ _) ?_ (ha:=by exact sv_copy_dc);rintro d H1 ⟨v1,rfl,rfl⟩<;>refine s_ ?_)
  | (refine p_ (clof_dc _ _) ?_ (ha:=by exact sv_copy_dc);rintro d H1 ⟨v2,rfl,rfl⟩<;>refine s_ ?_)
  | (refine p_ (clor_dc _ _) ?_ (ha:=by exact sv_copy_dc);rintro d H1 ⟨v3,rfl,rfl⟩<;>refine s_ ?_)
  | (refine p_ (cloc_dc _ _) ?_ (ha:=by exact sv_copy_dc);rintro d H1 ⟨v4,rfl,rfl⟩<;>refine s_ ?_)
  | (refine q_ (bclone_dc _ _) ?_ (ha:=by exact sv_copy_dc))
  | refine o_ ?_
  | refine f_ ?_
  | (first | refine DVJ.ma_ rfl rfl rfl ?_ | refine DVJ.mb_ rfl rfl rfl ?_)
  | refine vm_ ?_
  | ((fail_if_success (have zz:=b1));with_reducible intro b1)
  | ((fail_if_success (have zz:=b2));with_reducible intro b2)
  | with_reducible intro b)
 all_goals first
 | (refine ⟨k+1,?_,?_,?_,?_⟩;(((try simp only);omega));(((try simp only);omega));(simp [Sub,get]<;>(fail));(try dsimp only);(exact sub_);done)
 | (refine ⟨_,_,le.rfl_,⟨_,_,_,_,rfl,rfl⟩,?_⟩;(exact sub_);done)
end
end
end Go.Proofs.YtifdpbghkccaoaaGreatDoor
