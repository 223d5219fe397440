/- Sums of a table. -/
import Derived.Test.YtbmbcjmgjdnlnaaGreatDoorSd2x
import Derived.Test.YtbmbcjmgjdnlnaaGreatDoorTbx
import Derived.KernelRfl
namespace Go.Proofs.YtbmbcjmgjdnlnaaGreatDoor
open Go.RowKit
set_option linter.unusedSimpArgs false
set_option linter.unusedVariables false
set_option linter.unusedSectionVars false
set_option maxHeartbeats 4000000
set_option maxRecDepth 100000
section
attribute [local irreducible] DW SeqD DV DOp DC DVX
abbrev Strs:=List (List UInt8)
def natIn (x:Int):Prop:=0<=x/\x<=9223372036854775807
def dotIn (d:TDot):Prop:=natIn d.node/\natIn d.epoch/\natIn d.n
structure Neat (t:TTable):Prop where
 ls:t.seen.length<=4000
 lf:t.fences.length<=4000
 lr:t.routes.length<=4000
 lc:t.cells.length<=4000
 d:∀ k,dotIn (t.seen.getD k default)
 f:∀ k,natIn (t.fences.getD k default).node/\natIn (t.fences.getD k default).epoch
 r:∀ k,dotIn (t.routes.getD k default).dot/\(t.routes.getD k default).filter.length<=1000
 c:∀ k,dotIn (t.cells.getD k default).dot/\(natIn (t.cells.getD k default).stamp.l/\natIn (t.cells.getD k default).stamp.c/\natIn (t.cells.getD k default).stamp.node)/\natIn (t.cells.getD k default).qos/\(t.cells.getD k default).topic.length<=1000/\(t.cells.getD k default).payload.length<=1000
theorem tens_set:∀ {ls:Strs} {k:Nat} {x:List UInt8},k<ls.length->layV (ls.map V.str) k [.str x]=(ls.set k x).map V.str
 | [],k,x,h=>absurd h (Nat.not_lt_zero _)
 | e::ls,0,x,_=>rfl
 | e::ls,k+1,x,h=>by rw [List.map_cons,lay_cons,tens_set (by simpa using h)];rfl
def shortS (m:Nat) (ls:Strs):Prop:=ls.length=10/\∀ x∈ls,x.length<=m
theorem shortS.at {m:Nat} {ls:Strs} (h:shortS m ls) (k:Nat):(ls.getD k []).length<=m:=by
 by_cases hk:k<ls.length
 · rw [List.getD_eq_getElem?_getD,List.getElem?_eq_getElem hk];exact h.2 _ (List.getElem_mem hk)
 · rw [List.getD_eq_getElem?_getD,List.getElem?_eq_none (by omega)];exact Nat.zero_le _
theorem shortS.set {m m':Nat} {ls:Strs} (h:shortS m ls) (hm:m<=m') {k:Nat} {x:List UInt8} (hx:x.length<=m'):shortS m' (ls.set k x):=by
 refine ⟨by rw [List.length_set];exact h.1,fun y hy=>?_⟩
 rcases List.mem_or_eq_of_mem_set hy with hy | rfl
 · exact Nat.le_trans (h.2 y hy) hm
 · exact hx
theorem shortS.mono {m m':Nat} {ls:Strs} (h:shortS m ls) (hm:m<=m'):shortS m' ls:=⟨h.1,fun y hy=>Nat.le_trans (h.2 y hy) hm⟩
section
attribute [local push_cast 2000] encU encDot encRoute encCell encFence tens_set bytes_are bytes_back
end
end
end Go.Proofs.YtbmbcjmgjdnlnaaGreatDoor
