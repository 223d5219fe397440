/- Stamps, which cell is newer, fences that are right. -/
import Derived.Test.YtifdpbghkccaoaaGreatDoorSsx
import Derived.KernelRfl
namespace Go.Proofs.YtifdpbghkccaoaaGreatDoor
open Go.RowKit
set_option linter.unusedSimpArgs false
set_option linter.unusedVariables false
set_option linter.unusedSectionVars false
set_option maxHeartbeats 4000000
set_option maxRecDepth 100000
section
attribute [local irreducible] DW SeqD DV DOp DC DVX
def heldM (n:Int):Int:=min (max n 0) 4611686018427387904
theorem held_fold (n:Int):min (max n 0) 4611686018427387904=heldM n:=rfl
def lessM (a b:TStamp):Bool:=if heldM a.l≠heldM b.l then decide (heldM a.l<heldM b.l) else if heldM a.c≠heldM b.c then decide (heldM a.c<heldM b.c) else decide (a.node<b.node)
def newerDS (ad:TDot) (sa:TStamp) (bd:TDot) (sb:TStamp):Bool:=lessM sb sa||(!lessM sa sb&&before bd ad)
def stampedM (s:TStamp):Bool:=decide (0<=s.l)&&decide (s.l<=4611686018427387904)&&decide (0<=s.c)&&decide (s.c<=4611686018427387904)&&decide (0<=s.node)&&decide (s.node<16)
def fenceOk (fe:List TFence) (i:Nat):Bool:=pairB (fe.getD i default).node (fe.getD i default).epoch&&(decide (i=0)||decide ((fe.getD (i - 1) default).node<(fe.getD i default).node))
def fencesB (fe:List TFence):Bool:=allK (fenceOk fe) fe.length
theorem toNat_pred1 {n:Nat} (h:1<=n):((n:Int) - 1).toNat=n - 1:=by omega
attribute [local irreducible] heldM
section
attribute [local push_cast 2000] held_fold
theorem held_dc (n:Int) (F:Own):(True)->DC Tryz.prog 178 [.int .i64 n] (([]:Own)++F) fun d G=>d = .int .i64 (heldM n)/\G=[]++F:=by
 intro hA
 refine DC.bodyS (n_:=6) (show Tryz.prog.funcs[178]? = some Tryz.f178 by kernel_rfl) rfl rfl (by rfl) ?_
 simp only [env0,List.cons_append,List.nil_append]
 have kw:=ksIs [0,2]
 have ow:=ownIs []
 repeat' (first
  | refine g_ ?_
  | ((with_reducible refine And.intro ?_ ?_);(exact sv))
  | (refine DW.cond (by rfl) ?_ ?_<;>(first | exact i0_ | (refine ic_ ?_;intro hb)))
  | ((with_reducible refine FVg_cases ?_ ?_)<;>(intro hb;rw [hb];revert hb;(first | exact i0_ | (refine i_ ?_;intro hb))))
  | refine r_ ?_
  | refine k_ ?_
  | refine o_ ?_
  | refine f_ ?_
  | with_reducible intro b)
 all_goals ((first | exact fin_ | refine finq_ ?_);done)
end
theorem less6_dc (a1 a2 a3 b1 b2 b3:Int) (F:Own):(True)->DC Tryz.prog 143 [.agg [.int .i64 a1, .int .i64 a2, .int .i64 a3], .agg [.int .i64 b1, .int .i64 b2, .int .i64 b3]] (([]:Own)++F) fun d G=>d = .bool (lessM ⟨a1,a2,a3⟩ ⟨b1,b2,b3⟩)/\G=[]++F:=by
 intro hA
 refine DC.bodyS (n_:=36) (show Tryz.prog.funcs[143]? = some Tryz.f143 by kernel_rfl) rfl rfl (by rfl) ?_
 simp only [env0,List.cons_append,List.nil_append]
 have kw:=ksIs [0,1,2,3,4,5,6,15,27]
 have ow:=ownIs []
 have dw1:=drIs 1 [] [1,2,4,5]
 have dw4:=drIs 4 [] [1,2,4,5]
 repeat' (first
  | refine g_ ?_
  | ((with_reducible refine And.intro ?_ ?_);(exact sv))
  | (refine DW.cond (by rfl) ?_ ?_<;>(first | exact i0_ | (refine ic_ ?_;intro hb)))
  | ((with_reducible first | refine FVg_cases ?_ ?_ | refine FDg_cases ?_ ?_)<;>(intro hb;rw [hb];revert hb;(first | exact i0_ | (refine i_ ?_;intro hb))))
  | refine r_ ?_
  | refine d_ ?_
  | refine k_ ?_
  | ((refine dm_ ?_);(first | (refine v_ (held_dc _ _) ?_)))
  | refine vo_ ?_
  | (refine q_ (held_dc _ _) ?_)
  | refine o_ ?_
  | refine f_ ?_
  | refine vm_ ?_
  | with_reducible intro b)
 all_goals
  refine ⟨_,_,le.of_eq ?_,⟨rfl,rfl⟩,SubP.refl⟩
  unfold lessM
  simp_all
theorem newer_dc (a1 a2 a3 a4 a5 a6:Int) (a7:Str) (a8:List V) (a9:Int) (a10:Bool) (b1 b2 b3 b4 b5 b6:Int) (b7:Str) (b8:List V) (b9:Int) (b10:Bool) (F:Own):(True)->DC Tryz.prog 105 [.agg [.int .i64 a1, .int .i64 a2, .int .i64 a3, .int .i64 a4, .int .i64 a5, .int .i64 a6, .str a7, .sl a8, .int .i64 a9, .bool a10], .agg [.int .i64 b1, .int .i64 b2, .int .i64 b3, .int .i64 b4, .int .i64 b5, .int .i64 b6, .str b7, .sl b8, .int .i64 b9, .bool b10]] (([]:Own)++F) fun d G=>d = .bool (newerDS ⟨a1,a2,a3⟩ ⟨a4,a5,a6⟩ ⟨b1,b2,b3⟩ ⟨b4,b5,b6⟩)/\G=[]++F:=by
 intro hA
 refine DC.bodyS (n_:=23) (show Tryz.prog.funcs[105]? = some Tryz.f105 by kernel_rfl) rfl rfl (by rfl) ?_
 simp only [env0,List.cons_append,List.nil_append]
 have kw:=ksIs [0,1,2,3,4,9]
 have ow:=ownIs []
 repeat' (first
  | refine g_ ?_
  | ((with_reducible refine And.intro ?_ ?_);(exact sv))
  | (refine DW.cond (by rfl) ?_ ?_<;>(first | exact i0_ | (refine ic_ ?_;intro hb)))
  | ((with_reducible refine FVg_cases ?_ ?_)<;>(intro hb;rw [hb];revert hb;(first | exact i0_ | (refine i_ ?_;intro hb))))
  | refine r_ ?_
  | refine k_ ?_
  | (refine q_ (less6_dc _ _ _ _ _ _ _) ?_)
  | (refine q_ (before_dc _ _ _ _ _ _ _) ?_)
  | refine o_ ?_
  | refine f_ ?_
  | with_reducible intro b)
 all_goals
  refine ⟨_,_,le.of_eq ?_,⟨rfl,rfl⟩,SubP.refl⟩
  unfold newerDS
  simp_all
theorem stamped_dc (a1 a2 a3:Int) (F:Own):(True)->DC Tryz.prog 55 [.agg [.int .i64 a1, .int .i64 a2, .int .i64 a3]] (([]:Own)++F) fun d G=>d = .bool (stampedM ⟨a1,a2,a3⟩)/\G=[]++F:=by
 intro hA
 refine DC.bodyS (n_:=31) (show Tryz.prog.funcs[55]? = some Tryz.f55 by kernel_rfl) rfl rfl (by rfl) ?_
 simp only [env0,List.cons_append,List.nil_append]
 have kw:=ksIs [0,1,2]
 have ow:=ownIs []
 repeat' (first
  | refine g_ ?_
  | ((with_reducible refine And.intro ?_ ?_);(exact sv))
  | (refine DW.cond (by rfl) ?_ ?_<;>(first | exact i0_ | (refine ic_ ?_;intro hb)))
  | ((with_reducible refine FVg_cases ?_ ?_)<;>(intro hb;rw [hb];revert hb;(first | exact i0_ | (refine i_ ?_;intro hb))))
  | refine r_ ?_
  | refine k_ ?_
  | refine o_ ?_
  | refine f_ ?_
  | with_reducible intro b)
 all_goals
  refine ⟨_,_,le.of_eq ?_,⟨rfl,rfl⟩,SubP.refl⟩
  unfold stampedM
  simp_all<;>omega
section
attribute [local push_cast 2000] encFence
theorem fencesright_dc (l:List TFence) (F:Own):(l.length<=1000000000)->DC Tryz.prog 57 [.sl (l.map encFence)] (([]:Own)++F) fun d G=>d = .bool (fencesB l)/\G=[]++F:=by
 intro hA
 have hl:=hA
 refine DC.bodyS (n_:=40) (show Tryz.prog.funcs[57]? = some Tryz.f57 by kernel_rfl) rfl rfl (by rfl) ?_
 simp only [env0,List.cons_append,List.nil_append]
 have kw:=ksIs [0,2,3,7,39]
 have ow:=ownIs []
 have dw4:=drIs 4 [] [4,9,10,21,26]
 repeat' (first
  | ((with_reducible refine DW.loopB 0 (X:=Nat) (fun x=>x<=l.length/\allK (fenceOk l) x=true) (fun x=>[(0, .sl (l.map encFence)),(3, .int .i64 x)]) (fun x=>([]:Own)) (fun x=>l.length - x) (0) ?_ ?_ ?_);exact (⟨Nat.zero_le _,rfl⟩);(simp [Sub,get,keepL]<;>fail);(try simp only [List.cons_append,List.nil_append]);refine pl_ ?_;intro k ⟨hk,ha⟩;(try simp only [List.cons_append,List.nil_append]))
  | refine g_ ?_
  | ((with_reducible refine And.intro ?_ ?_);(exact sv))
  | (refine DW.cond (by rfl) ?_ ?_<;>(first | exact i0_ | (refine ic_ ?_;intro hb)))
  | ((with_reducible first | refine FVg_cases ?_ ?_ | refine FDg_cases ?_ ?_)<;>(intro hb;rw [hb];revert hb;(first | exact i0_ | (refine i_ ?_;intro hb))))
  | refine r_ ?_
  | refine d_ ?_
  | refine k_ ?_
  | ((refine dm_ ?_);(first | (refine v_ (pair_dc _ _ _) ?_)))
  | refine vo_ ?_
  | (refine q_ (pair_dc _ _ _) ?_)
  | refine o_ ?_
  | refine f_ ?_
  | refine vm_ ?_
  | with_reducible intro b)
 all_goals first
 | (have hf:fenceOk l k=false:=by
     unfold fenceOk
     first | (simp_all;done) | (simp_all;omega) | (rw [toNat_pred1 (by omega)] at *;simp_all;omega)
    refine ⟨_,_,le.of_eq ?_,⟨rfl,rfl⟩,SubP.refl⟩;rw [fencesB,allK_not hf (by omega)])
 | (have hk0:k=l.length:=by omega
    subst hk0
    refine ⟨_,_,le.of_eq ?_,⟨rfl,rfl⟩,SubP.refl⟩;rw [fencesB,ha])
 | (have ht:fenceOk l k=true:=by
     unfold fenceOk
     first | (simp_all;done) | (simp_all;omega) | (rw [toNat_pred1 (by omega)] at *;simp_all;omega)
    refine ⟨k+1,⟨by omega,allK_next ha ht⟩,by omega,by simp [Sub,get],?_⟩;exact sub_)
end
end
end Go.Proofs.YtifdpbghkccaoaaGreatDoor
