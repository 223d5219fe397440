/- Which of two cells is newer, as the program tells. -/
import Derived.Test.YtifdpbghkccaoaaGreatDoorPt3x
import Derived.Test.YtifdpbghkccaoaaGreatDoorRd8x
import Derived.Test.YtifdpbghkccaoaaGreatDoorPv2x
import Derived.KernelRfl
namespace Go.Proofs.YtifdpbghkccaoaaGreatDoor
open Go.RowKit
set_option linter.unusedSimpArgs false
set_option linter.unusedVariables false
set_option linter.unusedSectionVars false
set_option maxHeartbeats 4000000
set_option maxRecDepth 100000
section
def or3I (a b c:Int):Int:=orI a (orI b c)
def lessP (a b:TStamp):Bool:=decide (or3I (cmpI (heldM a.l) (heldM b.l)) (cmpI (heldM a.c) (heldM b.c)) (cmpI a.node b.node)<0)
theorem lessP_eq (a b:TStamp):lessP a b=lessM a b:=by
 unfold lessP lessM or3I orI cmpI
 rw [Bool.eq_iff_iff]
 simp only [decide_eq_true_eq]
 repeat' split
 all_goals first | omega | (simp_all;done) | (simp_all<;>omega)
attribute [local irreducible] DW SeqD DV DOp DC DVX DVJ heldM
theorem nanl_dc (a:Int) (F:Own):(True)->DC Tryz.prog 185 [.int .i64 a] (([]:Own)++F) fun d G=>d = .bool false/\G=[]++F:=by
 intro hA
 refine DC.bodyS (n_:=6) (show Tryz.prog.funcs[185]? = some Tryz.f185 by kernel_rfl) rfl rfl (by rfl) ?_
 simp only [env0,List.cons_append,List.nil_append]
 have kw:=ksIs [0,2]
 have ow:=ownIs []
 repeat' (first
  | refine g_ ?_
  | ((with_reducible refine And.intro ?_ ?_);(exact sv))
  | (refine DW.cond (by rfl) ?_ ?_<;>(first | exact i0_ | (refine ic_ ?_;intro hb)))
  | ((with_reducible refine FVg_cases ?_ ?_)<;>(intro hb;rw [hb];revert hb;(first | exact i0_ | (refine i_ ?_;intro hb))))
  | refine r_ ?_
  | refine k_ ?_
  | refine o_ ?_
  | refine f_ ?_
  | with_reducible intro b)
 all_goals
  refine ⟨_,_,le.of_eq ?_,⟨rfl,rfl⟩,SubP.refl⟩
  first | rfl | simp
theorem cmpl_dc (a b:Int) (F:Own):(True)->DC Tryz.prog 158 [.int .i64 a, .int .i64 b] (([]:Own)++F) fun d G=>d = .int .i64 (cmpI a b)/\G=[]++F:=by
 intro hA
 refine DC.bodyS (n_:=20) (show Tryz.prog.funcs[158]? = some Tryz.f158 by kernel_rfl) rfl rfl (by rfl) ?_
 simp only [env0,List.cons_append,List.nil_append]
 have kw:=ksIs [0,1,4,5,6,11,12,13,16,19]
 have ow:=ownIs []
 repeat' (first
  | refine g_ ?_
  | ((with_reducible refine And.intro ?_ ?_);(exact sv))
  | (refine DW.cond (by rfl) ?_ ?_<;>(first | exact i0_ | (refine ic_ ?_;intro hb)))
  | ((with_reducible refine FVg_cases ?_ ?_)<;>(intro hb;rw [hb];revert hb;(first | exact i0_ | (refine i_ ?_;intro hb))))
  | refine r_ ?_
  | refine k_ ?_
  | (refine q_ (nanl_dc _ _) ?_)
  | refine o_ ?_
  | refine f_ ?_
  | with_reducible intro b)
 all_goals
  refine ⟨_,_,le.of_eq ?_,⟨rfl,rfl⟩,SubP.refl⟩
  unfold cmpI
  first | (simp_all;done) | (simp_all<;>omega) | (repeat' split)<;>first | rfl | omega
theorem or3_dc (a b c:Int) (F:Own):(True)->DC Tryz.prog 137 [.sl [.int .i64 a, .int .i64 b, .int .i64 c]] (([]:Own)++F) fun d G=>d = .int .i64 (or3I a b c)/\G=[]++F:=by
 intro hA
 refine DC.bodyS (n_:=18) (show Tryz.prog.funcs[137]? = some Tryz.f137 by kernel_rfl) rfl rfl (by rfl) ?_
 simp only [env0,List.cons_append,List.nil_append]
 have kw:=ksIs [0,2,3,5,6,7,8,9,14]
 have ow:=ownIs []
 repeat' (first
  | ((with_reducible refine DW.loopB 0 (X:=Nat) (fun x=>x<=3/\(1<=x->a=0)/\(2<=x->b=0)/\(3<=x->c=0)) (fun x=>[(3, .int .i64 0),(6, .sl [.int .i64 a, .int .i64 b, .int .i64 c]),(7, .int .i64 3),(8, .int .i64 x)]) (fun x=>([]:Own)) (fun x=>3 - x) (0) ?_ ?_ ?_);exact (⟨by omega,by omega,by omega,by omega⟩);(simp [Sub,get,keepL]<;>fail);(try simp only [List.cons_append,List.nil_append]);refine pl_ ?_;intro k ⟨hk,ha,hb0,hc0⟩;(try simp only [List.cons_append,List.nil_append]);rcases (show k=0\/k=1\/k=2\/k=3 by omega) with rfl | rfl | rfl | rfl)
  | refine g_ ?_
  | ((with_reducible refine And.intro ?_ ?_);(exact sv))
  | (refine DW.cond (by rfl) ?_ ?_<;>(first | exact i0_ | (refine ic_ ?_;intro hb)))
  | ((with_reducible refine FVg_cases ?_ ?_)<;>(intro hb;rw [hb];revert hb;(first | exact i0_ | (refine i_ ?_;intro hb))))
  | refine r_ ?_
  | refine k_ ?_
  | refine o_ ?_
  | refine f_ ?_
  | with_reducible intro b)
 all_goals first
 | (refine ⟨1,?_,?_,?_,?_⟩;(((try simp only);omega));(((try simp only);omega));(simp [Sub,get]<;>(fail));(try dsimp only);(exact sub_))
 | (refine ⟨2,?_,?_,?_,?_⟩;(((try simp only);omega));(((try simp only);omega));(simp [Sub,get]<;>(fail));(try dsimp only);(exact sub_))
 | (refine ⟨3,?_,?_,?_,?_⟩;(((try simp only);omega));(((try simp only);omega));(simp [Sub,get]<;>(fail));(try dsimp only);(exact sub_))
 | ((first | exact fin_ | refine finq_ ?_);unfold or3I orI;simp_all;done)
 | (trace_state;fail)
section
attribute [local push_cast 2000] held_fold
theorem near_dc (n:Int) (F:Own):(True)->DC Tryz.prog 159 [.int .i64 n] (([]:Own)++F) fun d G=>d = .int .i64 (heldM n)/\G=[]++F:=by
 intro hA
 refine DC.bodyS (n_:=6) (show Tryz.prog.funcs[159]? = some Tryz.f159 by kernel_rfl) rfl rfl (by rfl) ?_
 simp only [env0,List.cons_append,List.nil_append]
 have kw:=ksIs [0,2]
 have ow:=ownIs []
 repeat' (first
  | refine g_ ?_
  | ((with_reducible refine And.intro ?_ ?_);(exact sv))
  | (refine DW.cond (by rfl) ?_ ?_<;>(first | exact i0_ | (refine ic_ ?_;intro hb)))
  | ((with_reducible refine FVg_cases ?_ ?_)<;>(intro hb;rw [hb];revert hb;(first | exact i0_ | (refine i_ ?_;intro hb))))
  | refine r_ ?_
  | refine k_ ?_
  | refine o_ ?_
  | refine f_ ?_
  | with_reducible intro b)
 all_goals ((first | exact fin_ | refine finq_ ?_);done)
end
theorem lessP_dc (a1 a2 a3 b1 b2 b3:Int) (F:Own):(True)->DC Tryz.prog 118 [.agg [.int .i64 a1, .int .i64 a2, .int .i64 a3], .agg [.int .i64 b1, .int .i64 b2, .int .i64 b3]] (([]:Own)++F) fun d G=>d = .bool (lessP ⟨a1,a2,a3⟩ ⟨b1,b2,b3⟩)/\G=[]++F:=by
 intro hA
 refine DC.bodyS (n_:=27) (show Tryz.prog.funcs[118]? = some Tryz.f118 by kernel_rfl) rfl rfl (by rfl) ?_
 simp only [env0,List.cons_append,List.nil_append]
 have kw:=ksIs [0,1,2,3,4]
 have ow:=ownIs []
 have dw1:=drIs 1 [] [1,2,4,5,6,8,9,11,12,13,15,17,18,20]
 repeat' (first
  | refine g_ ?_
  | ((with_reducible refine And.intro ?_ ?_);(exact sv))
  | (refine DW.cond (by rfl) ?_ ?_<;>(first | exact i0_ | (refine ic_ ?_;intro hb)))
  | ((with_reducible first | refine FVg_cases ?_ ?_ | refine FDg_cases ?_ ?_)<;>(intro hb;rw [hb];revert hb;(first | exact i0_ | (refine i_ ?_;intro hb))))
  | refine r_ ?_
  | refine d_ ?_
  | refine k_ ?_
  | ((refine dm_ ?_);(first | (refine v_ (near_dc _ _) ?_) | (refine v_ (cmpl_dc _ _ _) ?_) | (refine v_ (cmpi_dc _ _ _) ?_) | (refine v_ (or3_dc _ _ _ _) ?_)))
  | refine vo_ ?_
  | (refine q_ (near_dc _ _) ?_)
  | (refine q_ (cmpl_dc _ _ _) ?_)
  | (refine q_ (cmpi_dc _ _ _) ?_)
  | (refine q_ (or3_dc _ _ _ _) ?_)
  | refine o_ ?_
  | refine f_ ?_
  | refine vm_ ?_
  | with_reducible intro b)
 (first | exact fin_ | refine finq_ ?_)
 all_goals rfl
theorem pless_dc (a1 a2 a3 b1 b2 b3:Int) (F:Own):True->DC Tryz.prog 118 [.agg [.int .i64 a1, .int .i64 a2, .int .i64 a3], .agg [.int .i64 b1, .int .i64 b2, .int .i64 b3]] (([]:Own)++F) fun d G=>d = .bool (lessM ⟨a1,a2,a3⟩ ⟨b1,b2,b3⟩)/\G=[]++F:=fun h=>by
 rw [<-lessP_eq];exact lessP_dc a1 a2 a3 b1 b2 b3 F h
theorem pnewer_dc (a1 a2 a3 a4 a5 a6:Int) (a7 a8:Str) (a9:Int) (a10:Bool) (b1 b2 b3 b4 b5 b6:Int) (b7 b8:Str) (b9:Int) (b10:Bool) (F:Own):(True)->DC Tryz.prog 74 [.agg [.int .i64 a1, .int .i64 a2, .int .i64 a3, .int .i64 a4, .int .i64 a5, .int .i64 a6, .str a7, .sl (a8.map u8), .int .i64 a9, .bool a10], .agg [.int .i64 b1, .int .i64 b2, .int .i64 b3, .int .i64 b4, .int .i64 b5, .int .i64 b6, .str b7, .sl (b8.map u8), .int .i64 b9, .bool b10]] (([]:Own)++F) fun d G=>d = .bool (newerM ⟨⟨a1,a2,a3⟩,⟨a4,a5,a6⟩,a7,a8,a9,a10⟩ ⟨⟨b1,b2,b3⟩,⟨b4,b5,b6⟩,b7,b8,b9,b10⟩)/\G=[]++F:=by
 intro hA
 refine DC.bodyS (n_:=22) (show Tryz.prog.funcs[74]? = some Tryz.f74 by kernel_rfl) rfl rfl (by rfl) ?_
 simp only [env0,List.cons_append,List.nil_append]
 have kw:=ksIs [0,1,2,3,4,5,11]
 have ow:=ownIs []
 repeat' (first
  | refine g_ ?_
  | ((with_reducible refine And.intro ?_ ?_);(exact sv))
  | (refine DW.cond (by rfl) ?_ ?_<;>(first | exact i0_ | (refine ic_ ?_;intro hb)))
  | ((with_reducible refine FVg_cases ?_ ?_)<;>(intro hb;rw [hb];revert hb;(first | exact i0_ | (refine i_ ?_;intro hb))))
  | refine r_ ?_
  | refine k_ ?_
  | (refine q_ (pless_dc _ _ _ _ _ _ _) ?_)
  | (refine q_ (pbefore_dc _ _ _ _ _ _ _) ?_)
  | refine o_ ?_
  | refine f_ ?_
  | with_reducible intro b)
 all_goals
  refine ⟨_,_,le.of_eq ?_,⟨rfl,rfl⟩,SubP.refl⟩
  unfold newerM newerDS
  simp_all
end
end Go.Proofs.YtifdpbghkccaoaaGreatDoor
