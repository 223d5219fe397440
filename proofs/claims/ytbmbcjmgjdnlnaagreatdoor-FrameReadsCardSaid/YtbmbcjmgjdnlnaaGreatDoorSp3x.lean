/- Which frames are right: those of the laws. -/
import Derived.Test.YtbmbcjmgjdnlnaaGreatDoorGzx
import Derived.Test.YtbmbcjmgjdnlnaaGreatDoorTbx
import Derived.Test.YtbmbcjmgjdnlnaaGreatDoorEu
import Derived.Test.YtbmbcjmgjdnlnaaGreatDoorTc2x
import Derived.KernelRfl
namespace Go.Proofs.YtbmbcjmgjdnlnaaGreatDoor
open Go.RowKit
set_option linter.unusedSimpArgs false
set_option linter.unusedVariables false
set_option linter.unusedSectionVars false
set_option maxHeartbeats 4000000
set_option maxRecDepth 100000
section
attribute [local irreducible] DW SeqD DV DOp DC DVX
theorem toEmpty {t:TTable} (h:(t.seen.length=0/\t.fences.length=0)/\(t.routes.length=0/\t.cells.length=0)):t=emptyT:=by
 obtain ⟨⟨h1,h2⟩,h3,h4⟩:=h
 obtain ⟨a,b,c,d⟩:=t
 simp only at h1 h2 h3 h4
 rw [List.eq_nil_of_length_eq_zero h1,List.eq_nil_of_length_eq_zero h2,List.eq_nil_of_length_eq_zero h3,List.eq_nil_of_length_eq_zero h4];rfl
theorem emp_not (t:TTable) (h:¬ ((t.seen.length=0/\t.fences.length=0)/\(t.routes.length=0/\t.cells.length=0))):decide (t=emptyT)=false:=by
 refine decide_eq_false fun e=>h ?_
 subst e;exact ⟨⟨rfl,rfl⟩,rfl,rfl⟩
theorem rsame2_dc (t:TTable) (F:Own):(Lite 1000000000 t/\¬ ((t.seen.length=0/\t.fences.length=0)/\(t.routes.length=0/\t.cells.length=0)))->DC Tryz.prog 65 [.agg [.sl (t.seen.map encDot), .sl (t.fences.map encFence), .sl (t.routes.map encRoute), .sl (t.cells.map encCell)], .agg [.sl [], .sl [], .sl [], .sl []]] (([]:Own)++F) fun d G=>d = .bool false/\G=[]++F:=by
 intro hA
 obtain ⟨⟨hl1,hl2,hl3,hl4⟩,hne⟩:=hA
 refine DC.bodyS (n_:=116) (show Tryz.prog.funcs[65]? = some Tryz.f65 by kernel_rfl) rfl rfl (by rfl) ?_
 simp only [env0,List.cons_append,List.nil_append]
 have kw:=ksIs [0,1,2,3,4,5,6,7,8,42,47,60,65,78,83,96,101,115]
 have ow:=ownIs []
 have dw6:=drIs 6 [] [1,4,6,9]
 have dw11:=drIs 11 [] [1,4,6,9]
 have dw16:=drIs 16 [] [1,4,6,9]
 have dw21:=drIs 21 [] [1,4,6,9,10]
 repeat' (first
  | refine g_ ?_
  | ((with_reducible refine And.intro ?_ ?_);(exact sv))
  | (refine DW.cond (by rfl) ?_ ?_<;>(first | exact i0_ | (refine ic_ ?_;intro hb)))
  | ((with_reducible first | refine FVg_cases ?_ ?_ | refine FDg_cases ?_ ?_)<;>(intro hb;rw [hb];revert hb;(first | exact i0_ | (refine i_ ?_;intro hb))))
  | refine r_ ?_
  | refine d_ ?_
  | refine k_ ?_
  | refine vo_ ?_
  | refine o_ ?_
  | refine f_ ?_
  | refine vm_ ?_
  | with_reducible intro b)
 all_goals first
 | ((first | exact fin_ | refine finq_ ?_);done)
 | (exfalso;omega)
theorem rsameE_dc (t:TTable) (F:Own):Lite 1000000000 t->DC Tryz.prog 65 [.agg [.sl (t.seen.map encDot), .sl (t.fences.map encFence), .sl (t.routes.map encRoute), .sl (t.cells.map encCell)], .agg [.sl [], .sl [], .sl [], .sl []]] (([]:Own)++F) fun d G=>d = .bool (decide (t=emptyT))/\G=[]++F:=fun h=>by
 by_cases he:(t.seen.length=0/\t.fences.length=0)/\(t.routes.length=0/\t.cells.length=0)
 · obtain rfl:=toEmpty he
   exact rsame0_dc F trivial
 · rw [emp_not t he]
   exact rsame2_dc t F ⟨h,he⟩
end
section
attribute [local irreducible] DW SeqD DV DOp DC DVX
section
attribute [local push_cast 2000] cells_cons cells_nil bytes_are bytes_back encU isU8_map byteOf_map
end
section
attribute [local push_cast 2000] cells_cons cells_nil bytes_are bytes_back encU isU8_map byteOf_map
end
section
attribute [local push_cast 2000] cells_cons cells_nil bytes_are bytes_back encU isU8_map byteOf_map
end
end
end Go.Proofs.YtbmbcjmgjdnlnaaGreatDoor
