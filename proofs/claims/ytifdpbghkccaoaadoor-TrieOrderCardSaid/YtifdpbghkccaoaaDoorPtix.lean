/- Wild runes in texts of plain runes; names. -/
import Derived.Test.YtifdpbghkccaoaaDoorPthx
import Derived.KernelRfl
namespace Go.Proofs.YtifdpbghkccaoaaDoor
open Go.RowKit
set_option linter.unusedSimpArgs false
set_option linter.unusedVariables false
set_option linter.unusedSectionVars false
set_option maxHeartbeats 4000000
set_option maxRecDepth 100000
section
attribute [local irreducible] DW SeqD DV DOp DC DVX
def wildT (l:List UInt8):Bool:=l.any fun c=>c==43||c==35
theorem wildg_dc (r:Int) (F:Own):(True)->DC Tryd.prog 41 [.int .i32 r] (([]:Own)++F) fun d G=>d = .bool (r==43||r==35)/\G=[]++F:=by
 intro hA
 refine DC.bodyS (n_:=9) (show Tryd.prog.funcs[41]? = some Tryd.f41 by kernel_rfl) rfl rfl (by rfl) ?_
 simp only [env0,List.cons_append,List.nil_append]
 have kw:=ksIs [0,2]
 have ow:=ownIs []
 repeat' (first
  | refine g_ ?_
  | ((with_reducible refine And.intro ?_ ?_);(exact sv))
  | (refine DW.cond (by rfl) ?_ ?_<;>(first | exact i0_ | (refine ic_ ?_;intro hb)))
  | ((with_reducible refine FVg_cases ?_ ?_)<;>(intro hb;rw [hb];revert hb;(first | exact i0_ | (refine i_ ?_;intro hb))))
  | refine r_ ?_
  | refine k_ ?_
  | refine o_ ?_
  | refine f_ ?_
  | with_reducible intro b)
 all_goals
  refine ⟨_,_,le.of_eq ?_,⟨rfl,rfl⟩,SubP.refl⟩
  simp_all
end
section
attribute [local irreducible] DW SeqD DV DOp DC DVX
def okAt (ls:List (List UInt8)) (i:Nat):Bool:=ls.getD i default==[43]||(ls.getD i default==[35]&&decide ((i:Int)=(ls.length:Int) - 1)) || !wildT (ls.getD i default)
def okF (ls:List (List UInt8)):Bool:=(List.range ls.length).all (okAt ls)
theorem okF_t {ls:List (List UInt8)} (h:∀ i,i<ls.length->okAt ls i=true):okF ls=true:=by
 unfold okF;rw [List.all_eq_true];intro i hi;exact h i (List.mem_range.1 hi)
theorem okF_f {ls:List (List UInt8)} {k:Nat} (hk:k<ls.length) (h:okAt ls k=false):okF ls=false:=by
 cases e:okF ls with
 | false=>rfl
 | true=>unfold okF at e;rw [List.all_eq_true] at e;rw [e k (List.mem_range.2 hk)] at h;cases h
theorem ok_s {ls:List (List UInt8)} {k:Nat} (h:∀ i,i<k->okAt ls i=true) (hk:okAt ls k=true):∀ i,i<k+1->okAt ls i=true:=fun i hi=>by
 rcases Nat.lt_or_eq_of_le (Nat.le_of_lt_succ hi) with h1 | rfl
 · exact h i h1
 · exact hk
end
end Go.Proofs.YtifdpbghkccaoaaDoor
