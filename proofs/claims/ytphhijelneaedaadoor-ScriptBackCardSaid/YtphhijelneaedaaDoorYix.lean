/- May a line say an event? -/
import Derived.Test.YtphhijelneaedaaDoorYgx
import Derived.KernelRfl
namespace Go.Proofs.YtphhijelneaedaaDoor
open Go.RowKit
set_option linter.unusedSimpArgs false
set_option linter.unusedVariables false
set_option linter.unusedSectionVars false
set_option maxHeartbeats 4000000
set_option maxRecDepth 100000
section
theorem kinds_atI {k:Int} (h0:0<=k) (h:k<10):(kindsY.map encK).getD k.toNat .any = .agg [.str (wdY k.toNat), .str (spY k.toNat)]:=kinds_at (by omega)
theorem has_is (k:Int) (c:UInt8):hasY k c=(spY k.toNat).contains c:=rfl
attribute [local irreducible] DW SeqD DV DOp DC DVX spY wdY
theorem has_dc (c:UInt8) (sp:YS) (F:Own):(True)->DC Tryd.prog 51 [.str [c], .sp [.str sp]] (([]:Own)++F) fun d G=>d = .bool (sp.contains c)/\G=[]++F:=by
 intro hA
 refine DC.bodyS (n_:=7) (show Tryd.prog.funcs[51]? = some Tryd.f51 by kernel_rfl) rfl rfl (by rfl) ?_
 simp only [env0,List.cons_append,List.nil_append]
 have kw:=ksIs [0,1,3]
 have ow:=ownIs []
 repeat' (first
  | refine g_ ?_
  | ((with_reducible refine And.intro ?_ ?_);(exact sv))
  | (refine DW.cond (by rfl) ?_ ?_<;>(first | exact i0_ | (refine ic_ ?_;intro hb)))
  | ((with_reducible refine FVg_cases ?_ ?_)<;>(intro hb;rw [hb];revert hb;(first | exact i0_ | (refine i_ ?_;intro hb))))
  | refine r_ ?_
  | refine k_ ?_
  | (refine q_ (cont_dc _ _ _) ?_)
  | refine o_ ?_
  | refine f_ ?_
  | with_reducible intro b)
 (first | exact fin_ | refine finq_ ?_)
 all_goals rfl
section
attribute [local push_cast 2000] kinds_atI
theorem right_dc (e:Ev) (F:Own):(True)->DC Tryd.prog 24 [.agg [.int .i64 e.kind, .int .i64 e.node, .int .i64 e.conn, .int .i64 e.n, .sl (e.b.map u8)]] (([]:Own)++F) fun d G=>d = .bool (rightY e)/\G=[]++F:=by
 intro hA
 refine DC.bodyS (n_:=75) (show Tryd.prog.funcs[24]? = some Tryd.f24 by kernel_rfl) rfl rfl (by rfl) ?_
 simp only [env0,List.cons_append,List.nil_append]
 have kw:=ksIs [0,1,2,3,4,32]
 have ow:=ownIs []
 have dw1:=drIs 1 [] [1,5,6,12,13,18,19,24,25]
 have hKL:kindsY.length=10:=rfl
 repeat' (first
  | ((with_reducible apply DW.frzB 4 3);(focus (exact rfl));(repeat (with_reducible first | refine Out.here ?_ | refine Out.next ?_));simp only [put_cons,put_nil,Nat.reduceEqDiff,↓reduceIte,if_true,if_false,reduceCtorEq])
  | refine g_ ?_
  | ((with_reducible refine And.intro ?_ ?_);(exact sv))
  | (refine DW.cond (by rfl) ?_ ?_<;>(first | exact i0_ | (refine ic_ ?_;intro hb)))
  | ((with_reducible first | refine FVg_cases ?_ ?_ | refine FDg_cases ?_ ?_)<;>(intro hb;rw [hb];revert hb;(first | exact i0_ | (refine i_ ?_;intro hb))))
  | refine r_ ?_
  | refine d_ ?_
  | refine k_ ?_
  | ((refine dm_ ?_);(first | ((first | refine v_ (kinds_dc _) ?_ | refine v_ (inY_dc _ _) ?_ | refine v_ (has_dc _ _ _) ?_))))
  | refine vo_ ?_
  | ((first | ((with_reducible refine DW.drawX (id:=3) [0,1,2,3,4,32] [0,7] 6 9 (some 3) (by kernel_rfl) (by kernel_rfl) (by kernel_rfl) (by kernel_rfl) rfl (by kernel_rfl) ?_ ?_)) | (refine DVX.fl_ rfl rfl rfl ?_) | (refine DVX.f_ rfl rfl (by decide) ?_) | ((refine DVX.mv_ rfl rfl (by decide) ?_);intro X;(try simp only [List.cons_append,List.nil_append]);(first | (refine qq_ (kinds_dc _) ?_;rintro d rfl) | (refine qq_ (inY_dc _ _) ?_;rintro d rfl) | (refine qq_ (has_dc _ _ _) ?_;rintro d rfl) | ((refine DOp.load_ rfl rfl ?_);(repeat (with_reducible first | refine OnB.here ?_ | refine OnB.mid ?_ | refine OnB.next ?_));(refine And.intro (by simp (maxSteps:=1000000) (disch:=omega) only [push_cast,↓reduceIte,reduceCtorEq,Nat.reduceAdd,Nat.reduceMul,Nat.reduceLT,Nat.reduceLeDiff,Nat.reduceEqDiff,Nat.reduceSub,Int.reduceToNat,Int.reduceLT,Int.reduceLE,Int.reduceAdd,Int.reduceSub,Int.reduceMul,Int.reduceNeg,Nat.reduceBEq,Int.reduceBEq,Int.reduceBNe,Nat.reduceBNe,Int.reduceEq,kinds_atI]) ?_)));(try simp only [List.cons_append,List.nil_append]);(repeat (with_reducible first | refine PXK.base ?_ | refine PXK.none ?_ | refine PXK.cons ?_))))<;>(simp (maxSteps:=1000000) (disch:=omega) only [push_cast,↓reduceIte,reduceCtorEq,Nat.reduceAdd,Nat.reduceMul,Nat.reduceLT,Nat.reduceLeDiff,Nat.reduceEqDiff,Nat.reduceSub,Int.reduceToNat,Int.reduceLT,Int.reduceLE,Int.reduceAdd,Int.reduceSub,Int.reduceMul,Int.reduceNeg,Nat.reduceBEq,Int.reduceBEq,Int.reduceBNe,Nat.reduceBNe,Int.reduceEq,kinds_atI]))
  | ((first | refine q_ (kinds_dc _) ?_ | refine q_ (inY_dc _ _) ?_ | refine q_ (has_dc _ _ _) ?_))
  | refine o_ ?_
  | refine f_ ?_
  | refine vm_ ?_
  | ((fail_if_success (have zz:=b3));with_reducible intro b3)
  | with_reducible intro b)
 all_goals first
 | (refine ⟨_,_,le.of_eq ?_,⟨rfl,rfl⟩,?_⟩;rotate_left;(exact sub_);congr 1;rw [Bool.eq_iff_iff];constructor<;>intro h<;>simp_all [rightY,has_is]<;>omega)
 | (refine ⟨_,_,le.of_eq ?_,⟨rfl,rfl⟩,?_⟩;rotate_left;(exact sub_);congr 1;rw [Bool.eq_iff_iff];simp_all [rightY,has_is];done)
 | (trace_state;fail)
end
end
end Go.Proofs.YtphhijelneaedaaDoor
