/- A fence. -/
import Derived.Test.YtbmbcjmgjdnlnaaGreatDoorPtbx
import Derived.KernelRfl
namespace Go.Proofs.YtbmbcjmgjdnlnaaGreatDoor
open Go.RowKit
set_option linter.unusedSimpArgs false
set_option linter.unusedVariables false
set_option linter.unusedSectionVars false
set_option maxHeartbeats 4000000
set_option maxRecDepth 100000
section
theorem cells_setf:∀ (l:List TFence) (k:Nat) (n:Int),k<l.length->layV (cells (l.map encFence)) (k * 2+1) [.int .i64 n]=cells ((l.set k ⟨(l.getD k default).node,n⟩).map encFence)
 | [],k,n,h=>absurd h (Nat.not_lt_zero _)
 | d::l,0,n,_=>rfl
 | d::l,k+1,n,h=>by
  have:=cells_setf l k n (by simpa using h)
  rw [List.getD_cons_succ,List.set_cons_succ,List.map_cons,List.map_cons,cells_cons,cells_cons,<-this]
  have e:(k+1) * 2+1=(encFence d).cs.length+(k * 2+1):=by show _=2+_;omega
  rw [e,lay_app]
attribute [local irreducible] DW SeqD DV DOp DC DVX DVJ
theorem ppair_dc (node epoch:Int) (F:Own):(True)->DC Tryz.prog 164 [.int .i64 node, .int .i64 epoch] (([]:Own)++F) fun d G=>d = .bool (pairB node epoch)/\G=[]++F:=by
 intro hA
 refine DC.bodyS (n_:=15) (show Tryz.prog.funcs[164]? = some Tryz.f164 by kernel_rfl) rfl rfl (by rfl) ?_
 simp only [env0,List.cons_append,List.nil_append]
 have kw:=ksIs [0,1,4]
 have ow:=ownIs []
 repeat' (first
  | refine g_ ?_
  | ((with_reducible refine And.intro ?_ ?_);(exact sv))
  | (refine DW.cond (by rfl) ?_ ?_<;>(first | exact i0_ | (refine ic_ ?_;intro hb)))
  | ((with_reducible refine FVg_cases ?_ ?_)<;>(intro hb;rw [hb];revert hb;(first | exact i0_ | (refine i_ ?_;intro hb))))
  | refine r_ ?_
  | refine k_ ?_
  | refine o_ ?_
  | refine f_ ?_
  | with_reducible intro b)
 all_goals
  refine ⟨_,_,le.of_eq ?_,⟨rfl,rfl⟩,SubP.refl⟩
  unfold pairB
  simp_all<;>omega
section
attribute [local push_cast 2000] encFence encFence_eta cells_setf
end
end
end Go.Proofs.YtbmbcjmgjdnlnaaGreatDoor
