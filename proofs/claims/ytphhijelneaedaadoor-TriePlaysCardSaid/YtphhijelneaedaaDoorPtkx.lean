/- Which topics a filter matches. -/
import Derived.Test.YtphhijelneaedaaDoorPthx
import Derived.KernelRfl
namespace Go.Proofs.YtphhijelneaedaaDoor
open Go.RowKit
set_option linter.unusedSimpArgs false
set_option linter.unusedVariables false
set_option linter.unusedSectionVars false
set_option maxHeartbeats 4000000
set_option maxRecDepth 100000
section
attribute [local irreducible] DW SeqD DV DOp DC DVX
def goesM:List (List UInt8)->List (List UInt8)->Bool
 | [],b=>b.isEmpty
 | x::a,b=>x==[35]||match b with
  | []=>false
  | y::b=>(x==[43]||x==y)&&goesM a b
theorem take_str (l:List (List UInt8)):List.take l.length (List.map V.str l)=List.map V.str l:=List.take_of_length_le (by simp)
def hidT (l:List UInt8):Bool:=l.take 1==[36]
def matchM (a b:List (List UInt8)):Bool:=!(hidT (b.getD 0 default)&&(a.getD 0 default==[43]||a.getD 0 default==[35]))&&goesM a b
theorem hasp_dc (l:List UInt8) (F:Own):(l.length<=1000000000)->DC Tryd.prog 73 [.str l, .str [36]] (([]:Own)++F) fun d G=>d = .bool (hidT l)/\G=[]++F:=by
 intro hA
 have hl:=hA
 refine DC.bodyS (n_:=18) (show Tryd.prog.funcs[73]? = some Tryd.f73 by kernel_rfl) rfl rfl (by rfl) ?_
 simp only [env0,List.cons_append,List.nil_append]
 have kw:=ksIs [0,1,4]
 have ow:=ownIs []
 repeat' (first
  | refine g_ ?_
  | ((with_reducible refine And.intro ?_ ?_);(exact sv))
  | (refine DW.cond (by rfl) ?_ ?_<;>(first | exact i0_ | (refine ic_ ?_;intro hb)))
  | ((with_reducible refine FVg_cases ?_ ?_)<;>(intro hb;rw [hb];revert hb;(first | exact i0_ | (refine i_ ?_;intro hb))))
  | refine r_ ?_
  | refine k_ ?_
  | refine o_ ?_
  | refine f_ ?_
  | with_reducible intro b)
 all_goals first
 | ((refine ⟨_,_,le.of_eq ?_,⟨rfl,rfl⟩,?_⟩);(unfold hidT;(first | rfl | (have:l=[]:=List.length_eq_zero_iff.1 (by omega);subst this;rfl) | (congr 1;simp_all)));(exact sub_))
theorem hasq_dc (l:List UInt8) (F:Own):(l.length<=1000000000)->DC Tryd.prog 43 [.str l, .str [36]] (([]:Own)++F) fun d G=>d = .bool (hidT l)/\G=[]++F:=by
 intro hA
 have hl:=hA
 refine DC.bodyS (n_:=8) (show Tryd.prog.funcs[43]? = some Tryd.f43 by kernel_rfl) rfl rfl (by rfl) ?_
 simp only [env0,List.cons_append,List.nil_append]
 have kw:=ksIs [0,1,4]
 have ow:=ownIs []
 repeat' (first
  | refine g_ ?_
  | ((with_reducible refine And.intro ?_ ?_);(exact sv))
  | (refine DW.cond (by rfl) ?_ ?_<;>(first | exact i0_ | (refine ic_ ?_;intro hb)))
  | ((with_reducible refine FVg_cases ?_ ?_)<;>(intro hb;rw [hb];revert hb;(first | exact i0_ | (refine i_ ?_;intro hb))))
  | refine r_ ?_
  | refine k_ ?_
  | (refine q_ (hasp_dc _ _) ?_)
  | refine o_ ?_
  | refine f_ ?_
  | with_reducible intro b)
 (first | exact fin_ | refine finq_ ?_)
 all_goals rfl
end
end Go.Proofs.YtphhijelneaedaaDoor
