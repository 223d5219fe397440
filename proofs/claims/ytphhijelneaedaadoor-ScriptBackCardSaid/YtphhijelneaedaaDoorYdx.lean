/- Words of a line. -/
import Derived.Test.YtphhijelneaedaaDoorYcx
import Derived.KernelRfl
namespace Go.Proofs.YtphhijelneaedaaDoor
open Go.RowKit
set_option linter.unusedSimpArgs false
set_option linter.unusedVariables false
set_option linter.unusedSectionVars false
set_option maxHeartbeats 4000000
set_option maxRecDepth 100000
section
attribute [local irreducible] DW SeqD DV DOp DC DVX
theorem s_words_dc {P Q:Prop} (q:Q) (h:Hid Q->P:=by (intro q;simp (maxSteps:=1000000) (disch:=omega) only [push_cast,↓reduceIte,reduceCtorEq,Nat.reduceAdd,Nat.reduceMul,Nat.reduceLT,Nat.reduceLeDiff,Nat.reduceEqDiff,Nat.reduceSub,Int.reduceToNat,Int.reduceLT,Int.reduceLE,Int.reduceAdd,Int.reduceSub,Int.reduceMul,Int.reduceNeg,Nat.reduceBEq,Int.reduceBEq,Int.reduceBNe,Nat.reduceBNe,Int.reduceEq,hpr];exact q.1)):P:=h ⟨q⟩
theorem words_dc (l:YS) (F:Own):(l.length<=1000000000)->DC Tryd.prog 45 [.str l] (([]:Own)++F) fun d G=>d = .sl ((sw [] l).map V.str)/\G=[]++F:=by
 intro hA
 have hl:=hA
 refine DC.bodyS (n_:=45) (show Tryd.prog.funcs[45]? = some Tryd.f45 by kernel_rfl) rfl rfl (by rfl) ?_
 simp only [env0,List.cons_append,List.nil_append]
 have kw:=ksIs [0,2,3,4,5,6,8,9,10,13,21,37]
 have ow:=ownIs []
 have hpr:True:=trivial
 refine DW.tail0 1 ?_
 repeat' (first
  | ((with_reducible refine DW.loopB 0 (X:=Nat×LYS×Int×Value) (fun x=>WI l x.2.1 x.2.2.1 x.1) (fun x=>[(0, .str l),(3, .gs x.2.2.2 (x.2.1.map V.str)),(4, .int .i64 x.2.2.1),(8, .raw (.pointer (some ⟨b,0,none⟩)))]) (fun x=>.siter b l x.1 :: .tail 1 x.2.2.2::([]:Own)) (fun x=>l.length - x.1) ((0,[],-1, .slice none 0 0)) ?_ ?_ ?_);exact (WI.zero l);(simp [Sub,get,keepL]<;>fail);(try simp only [List.cons_append,List.nil_append]);refine pl_ ?_;intro ⟨k,out,fr,v⟩ hI;(try simp only [List.cons_append,List.nil_append]);(try simp only at hI);have hI1:=hI.lo;have hI2:=hI.hi;have hI3:=hI.le;have hI5:=hI.len;by_cases hkl:k<l.length;rcases hI.go hkl with ⟨hpr,hf,hJ⟩ | ⟨hpr,hf,hJ⟩ | ⟨hpr,hf,hJ⟩ | ⟨hpr,hf,hJ⟩)
  | refine g_ ?_
  | ((with_reducible refine And.intro ?_ ?_);(exact sv))
  | (refine DW.cond (by rfl) ?_ ?_<;>(first | exact i0_ | (intro hb;(try simp only [↓reduceCtorEq,not_true_eq_false,not_false_eq_true,hbs,Int.reduceBEq,Int.reduceBNe,Int.reduceEq] at hb);(try refine s_words_dc ?_))))
  | ((with_reducible refine FVg_cases ?_ ?_)<;>(intro hb;rw [hb];revert hb;(first | exact i0_ | (intro hb;(try simp only [↓reduceCtorEq,not_true_eq_false,not_false_eq_true,hbs,Int.reduceBEq,Int.reduceBNe,Int.reduceEq] at hb);(try refine s_words_dc ?_)))))
  | ((refine Both.imp ?_ ?_)<;>(first | exact i0_ | (intro hb;(try simp only [↓reduceCtorEq,not_true_eq_false,not_false_eq_true,hbs,Int.reduceBEq,Int.reduceBNe,Int.reduceEq] at hb);(try refine s_words_dc ?_))))
  | ((first | refine rn_ ?_ | refine kn_ ?_)<;>(refine s_words_dc ?_))
  | (refine q_ (part_dc _ _) ?_ (hk:=fun q=>q.1);refine s_words_dc ?_)
  | ((refine on_ ?_);refine s_words_dc ?_)
  | refine f_ ?_
  | ((refine Both.imp (fun hb=>?_) (fun hb=>?_))<;>(try (exfalso;omega)))
  | with_reducible intro b)
 all_goals first
 | ((have e:=hI.end_ hkl);(rw [if_neg (by omega)] at e);(rw [e,List.take_length,List.map_append]);(refine ⟨_,_,le.gs rfl,⟨rfl,rfl⟩,?_⟩);(exact sub_);done)
 | (rw [hI.end_ hkl,if_pos (by omega)];(first | exact fin_ | refine finq_ ?_);done)
 | (refine ⟨(k+wideAt l k,out,(k:Int),v),hJ,?_,?_,?_⟩;(have hJ1:=hJ.hi;have hJ2:=hJ.le;(try simp only);(have hw1:=wide_pos (l:=l) (k:=k) hkl);omega);(simp [Sub,get]<;>fail);((try simp only [List.map_append,List.map_cons,List.map_nil]);(exact sub_));done)
 | (refine ⟨(k+wideAt l k,out,fr,v),hJ,?_,?_,?_⟩;(have hJ1:=hJ.hi;have hJ2:=hJ.le;(try simp only);(have hw1:=wide_pos (l:=l) (k:=k) hkl);omega);(simp [Sub,get]<;>fail);((try simp only [List.map_append,List.map_cons,List.map_nil]);(exact sub_));done)
 | (refine ⟨(k+wideAt l k,out++[(l.take k).drop fr.toNat],(-1),b),hJ,?_,?_,?_⟩;(have hJ1:=hJ.hi;have hJ2:=hJ.le;(try simp only);(have hw1:=wide_pos (l:=l) (k:=k) hkl);omega);(simp [Sub,get]<;>fail);((try simp only [List.map_append,List.map_cons,List.map_nil]);(exact sub_));done)
 | (exfalso;omega)
 | (trace_state;fail)
end
end Go.Proofs.YtphhijelneaedaaDoor
