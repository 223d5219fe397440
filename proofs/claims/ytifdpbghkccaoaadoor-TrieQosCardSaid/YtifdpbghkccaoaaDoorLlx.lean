/- A law in which draws are not counted. No statement of the program. -/
import Derived.Test.YtifdpbghkccaoaaDoorLkx
namespace Go.Proofs.YtifdpbghkccaoaaDoor
open Go.RowKit Go.ChangeShapes Go.WideShapes Go.Deep
set_option linter.unusedSimpArgs false
set_option linter.unusedVariables false
set_option linter.unusedSectionVars false
section
theorem loose_sim {w:World} {K:Own} (h:Sim w K):Sim w (loose::K):=by
 have st:∀ a,stable w K a->stable w (loose::K) a/\w.cell? a=w.cell? a:=fun a ha=>⟨⟨ha.1,fun e he=>by
  rcases List.mem_cons.1 he with rfl | he
  · exact fun h=>h
  · exact ha.2 e he⟩,rfl⟩
 refine ⟨fun e he=>?_,?_,?_⟩
 · rcases List.mem_cons.1 he with rfl | he
   · exact fun k hk=>absurd hk (Nat.not_lt_zero _)
   · exact Ent.holds_mono (h.holds e he) st fun _ _=>rfl
 · exact List.pairwise_cons.2 ⟨fun f hf a ha=>ha.elim,h.disj⟩
 · exact List.pairwise_cons.2 ⟨fun f hf a ha=>ha.elim,h.apart⟩
theorem DC.lawL {P:Program} {f:FuncId} {args:List V} {K:Own} {xs:Array Value} {w:World} (h:DC P f args (loose::K) fun d H'=>d = .bool true/\H'=loose::K) (hK:Sim w K) (hk:∀ e∈K,∃ b cs,e = .know b cs)
  (hn:xs.size=args.length) (hr:∀ k,k<args.length->R (stable w []) w (xs.getD k undef) (args.getD k .any)) :
  Calls P f xs w fun e w'=>e = .returned (.bool true)/\Below w.heap.size w w':=by
 have own:∀ e∈(loose::K:Own),∀ a,¬ e.owns a:=fun e he a=>by
  rcases List.mem_cons.1 he with rfl | he
  · exact fun h=>h
  · obtain ⟨b,cs,rfl⟩:=hk e he
    exact fun h=>h
 have st:∀ a,stable w [] a->stable w (loose::K) a/\w.cell? a=w.cell? a:=fun a ha=>⟨⟨ha.1,fun e he=>own e he a⟩,rfl⟩
 refine (h.2 xs w (loose_sim hK) hn fun k hk=>(hr k hk).mono st).mono fun e w' ⟨v,d,H',he,s,x,r,hd,hH⟩=>?_
 subst hd
 subst hH
 cases r
 refine ⟨he,x.os,x.tape,x.output,x.size,fun b hb=>?_⟩
 refine (x.full b hb fun e he ht=>?_).1
 rcases List.mem_cons.1 he with rfl | he
 · exact ht
 · obtain ⟨b,cs,rfl⟩:=hk e he
   exact ht
theorem known_kn {m:Int}:∀ e∈([knF,knA, .know 2 [.int .i64 m]]:Own),∃ b cs,e = .know b cs:=fun e he=>by
 simp only [List.mem_cons,List.not_mem_nil,or_false] at he
 rcases he with rfl | rfl | rfl<;>exact ⟨_,_,rfl⟩
end
end Go.Proofs.YtifdpbghkccaoaaDoor
