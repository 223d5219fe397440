/- What the laws on digests ask first. -/
import Derived.Test.YtbmbcjmgjdnlnaaGreatDoorDd7x
import Derived.Test.YtbmbcjmgjdnlnaaGreatDoorTc2x
import Derived.Test.YtbmbcjmgjdnlnaaGreatDoorPt3x
import Derived.KernelRfl
namespace Go.Proofs.YtbmbcjmgjdnlnaaGreatDoor
open Go.RowKit
set_option linter.unusedSimpArgs false
set_option linter.unusedVariables false
set_option linter.unusedSectionVars false
set_option maxHeartbeats 4000000
set_option maxRecDepth 100000
section
theorem sums0_d:sums0.getD 0 default=14695981039346656037:=rfl
theorem int_ext {la lb:List Int} {k:Nat} (e:eqK la lb k) (hk:la.length<=k) (hl:la.length=lb.length):decide (la=lb)=true:=decide_eq_true (eqK_all e hk hl)
attribute [local irreducible] DW SeqD DV DOp DC DVX DVJ fnvV bucketV sums0 sumsP diffT
section
attribute [local push_cast 2000] encDeed
theorem few13_dc (l:List TDeed) (F:Own):(True)->DC Tryz.prog 25 [.sl (l.map encDeed)] (([]:Own)++F) fun d G=>(d = .bool true/\(l.length<=20/\∀ k,(l.getD k default).x.length<=30)/\G=[]++F)\/(d = .bool false/\G=[]++F):=by
 intro hA
 refine DC.bodyS (n_:=20) (show Tryz.prog.funcs[25]? = some Tryz.f25 by kernel_rfl) rfl rfl (by rfl) ?_
 simp only [env0,List.cons_append,List.nil_append]
 have kw:=ksIs [0,2,3,6,10,19]
 have ow:=ownIs []
 repeat' (first
  | ((with_reducible refine DW.loopB 0 (X:=Nat) (fun x=>x<=l.length/\∀ j,j<x->(l.getD j default).x.length<=30) (fun x=>[(0, .sl (l.map encDeed)),(3, .int .i64 x)]) (fun x=>([]:Own)) (fun x=>l.length - x) (0) ?_ ?_ ?_);exact (⟨Nat.zero_le _,fun j h=>absurd h (Nat.not_lt_zero _)⟩);(simp [Sub,get,keepL]<;>fail);(try simp only [List.cons_append,List.nil_append]);refine pl_ ?_;intro k ⟨hk,hj⟩;(try simp only [List.cons_append,List.nil_append]);try simp only at hk hj)
  | refine g_ ?_
  | ((with_reducible refine And.intro ?_ ?_);(exact sv))
  | (refine DW.cond (by rfl) ?_ ?_<;>(first | exact i0_ | (refine ic_ ?_;intro hb)))
  | ((with_reducible refine FVg_cases ?_ ?_)<;>(intro hb;rw [hb];revert hb;(first | exact i0_ | (refine i_ ?_;intro hb))))
  | refine r_ ?_
  | refine k_ ?_
  | refine o_ ?_
  | refine f_ ?_
  | with_reducible intro b)
 all_goals first
 | (exfalso;omega)
 | (refine ⟨_,_,le.rfl_, .inr ⟨rfl,rfl⟩,?_⟩;(exact sub_);done)
 | (refine ⟨k+1,⟨by omega,fun j hj2=>?_⟩,?_,?_,?_⟩;(rcases Nat.lt_succ_iff_lt_or_eq.1 hj2 with h | rfl;(exact hj j h);(omega));(omega);(simp [Sub,get]<;>fail);(try dsimp only);(exact sub_);done)
 | (refine ⟨_,_,le.rfl_, .inl ⟨rfl,⟨by omega,fun j=>?_⟩,rfl⟩,?_⟩;rotate_left;(exact sub_);(by_cases h:j<k;(exact hj j h);(rw [List.getD_eq_getElem?_getD,List.getElem?_eq_none (by omega)];exact Nat.zero_le _));done)
end
theorem story13_dc (l:List TDeed) (F:Own):(l.length<=20/\∀ d∈l,deedOk d)->DC Tryz.prog 26 [.sl (l.map encDeed)] (([]:Own)++F) fun d G=>d = .sl ((tablesM l).map encTable)/\G=[]++F:=by
 intro hA
 have hA0:=hA
 refine DC.bodyS (n_:=5) (show Tryz.prog.funcs[26]? = some Tryz.f26 by kernel_rfl) rfl rfl (by rfl) ?_
 simp only [env0,List.cons_append,List.nil_append]
 have kw:=ksIs [0,2]
 have ow:=ownIs []
 repeat' (first
  | refine g_ ?_
  | ((with_reducible refine And.intro ?_ ?_);(exact sv))
  | (refine DW.cond (by rfl) ?_ ?_<;>(first | exact i0_ | (refine ic_ ?_;intro hb)))
  | ((with_reducible refine FVg_cases ?_ ?_)<;>(intro hb;rw [hb];revert hb;(first | exact i0_ | (refine i_ ?_;intro hb))))
  | refine r_ ?_
  | refine k_ ?_
  | (refine q_ (tables_dc _ _) ?_)
  | refine o_ ?_
  | refine f_ ?_
  | with_reducible intro b)
 (first | exact fin_ | refine finq_ ?_)
 all_goals rfl
section
attribute [local push_cast 2000] encU
theorem lsums_dc (la lb:List Int) (F:Own):(la.length<=1000000000/\lb.length<=1000000000)->DC Tryz.prog 34 [.sl (la.map encU), .sl (lb.map encU)] (([]:Own)++F) fun d G=>d = .bool (decide (la=lb))/\G=[]++F:=by
 intro hA
 obtain ⟨ha,hb0⟩:=hA
 refine DC.bodyS (n_:=26) (show Tryz.prog.funcs[34]? = some Tryz.f34 by kernel_rfl) rfl rfl (by rfl) ?_
 simp only [env0,List.cons_append,List.nil_append]
 have kw:=ksIs [0,1,4,5,10,14,25]
 have ow:=ownIs []
 have dw6:=drIs 6 [] [3,7]
 repeat' (first
  | ((with_reducible refine DW.loopB 0 (X:=Nat) (fun x=>x<=la.length/\eqK la lb x) (fun x=>[(0, .sl (la.map encU)),(1, .sl (lb.map encU)),(5, .int .i64 x)]) (fun x=>([]:Own)) (fun x=>la.length - x) (0) ?_ ?_ ?_);exact (⟨Nat.zero_le _,eqK_0 _ _⟩);(simp [Sub,get,keepL]<;>fail);(try simp only [List.cons_append,List.nil_append]);refine pl_ ?_;intro k ⟨hk,ek⟩;(try simp only [List.cons_append,List.nil_append]);try simp only at hk ek)
  | refine g_ ?_
  | ((with_reducible refine And.intro ?_ ?_);(exact sv))
  | (refine DW.cond (by rfl) ?_ ?_<;>(first | exact i0_ | (refine ic_ ?_;intro hb)))
  | ((with_reducible first | refine FVg_cases ?_ ?_ | refine FDg_cases ?_ ?_)<;>(intro hb;rw [hb];revert hb;(first | exact i0_ | (refine i_ ?_;intro hb))))
  | refine r_ ?_
  | refine d_ ?_
  | refine k_ ?_
  | refine vo_ ?_
  | refine o_ ?_
  | refine f_ ?_
  | refine vm_ ?_
  | with_reducible intro b)
 all_goals first
 | ((rw [int_ext ek (by omega) (by omega)];(first | exact fin_ | refine finq_ ?_);done))
 | (refine ⟨k+1,⟨by omega,eqK_s ek (by first | assumption | omega)⟩,by omega,by simp [Sub,get],?_⟩;(exact sub_);done)
 | ((rw [show decide (la=lb)=false from decide_eq_false (fun e=>by subst e;first | (exact absurd rfl hb) | (simp at hb;done) | omega)];(first | exact fin_ | refine finq_ ?_);done))
 | (trace_state;fail)
end
section
attribute [local push_cast 2000] fnv0 fnv_a sums0_len sums0_0 sums0_d encU
theorem known13_dc (T5:TypeId) (fr:Nat×Nat) (m:Int) (F:Own):(True)->DC Tryz.prog 24 [] ([loose,knP T5 fr,knF,knA,knM m]++F) fun d G=>d = .bool true/\G=[loose,knP T5 fr,knF,knA,knM m]++F:=by
 intro hA
 refine DC.bodyS (n_:=29) (show Tryz.prog.funcs[24]? = some Tryz.f24 by kernel_rfl) rfl rfl (by rfl) ?_
 simp only [env0,List.cons_append,List.nil_append]
 have kw:=ksIs [0,1]
 have ow:=ownIs []
 have dw2:=drIs 2 [] [0,3,14,15,21]
 have hs:=sums0_len
 repeat' (first
  | refine g_ ?_
  | ((with_reducible refine And.intro ?_ ?_);(exact sv))
  | (refine DW.cond (by rfl) ?_ ?_<;>(first | exact i0_ | (refine ic_ ?_;intro hb)))
  | ((with_reducible first | refine FVg_cases ?_ ?_ | refine FDg_cases ?_ ?_)<;>(intro hb;rw [hb];revert hb;(first | exact i0_ | (refine i_ ?_;intro hb))))
  | refine r_ ?_
  | refine d_ ?_
  | refine k_ ?_
  | ((refine dm_ ?_);(first | ((first | refine v_ (sumsE_dc _ _ _ _) ?_ | refine v_ (fnv_dc _ _) ?_ | refine v_ (differ0_dc _) ?_))))
  | refine vo_ ?_
  | ((first | refine q_ (sumsE_dc _ _ _ _) ?_ | refine q_ (fnv_dc _ _) ?_ | refine q_ (differ0_dc _) ?_))
  | refine o_ ?_
  | refine f_ ?_
  | refine vm_ ?_
  | with_reducible intro b)
 (first | exact fin_ | refine finq_ ?_)
 all_goals rfl
end
end
end Go.Proofs.YtbmbcjmgjdnlnaaGreatDoor
