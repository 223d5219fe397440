/- slices.SortFunc at elements that are owned: what it leaves is the same elements, one behind another as the comparison says. No statement of the program. -/
import Derived.Test.YtgekknefphagbaaGreatDoorEu
import Derived.Sort.Grow
import Derived.Deep.Draws
namespace Go.Proofs.YtgekknefphagbaaGreatDoor
open Go.RowKit
set_option linter.unusedSimpArgs false
set_option linter.unusedVariables false
set_option linter.unusedSectionVars false
structure Elm (S:Addr->Prop) (w:World) (k:Nat) {T:Type} (encV:T->V) (ok:T->Prop) where
 t:T
 vs:List Value
 len:vs.length=k
 one:∀ v∈vs,v.oneCell'=true
 rel:∀ j,j<k->R S w (vs.getD j undef) ((encV t).cell j)
 good:ok t
theorem zqP {xs:Array Value} (h:xs.size=2):∃ a b,xs = #[a,b]:=by
 obtain ⟨l⟩:=xs
 match l,h with
 | [a,b],_=>exact ⟨a,b,rfl⟩
theorem zns {xs:Array Value} (h:xs.size=0):xs = #[]:=by
 obtain ⟨l⟩:=xs
 match l,h with
 | [],_=>rfl
theorem sim_nil (w:World):Sim w []:=⟨(fun _ h=>nomatch h),List.Pairwise.nil,List.Pairwise.nil⟩
theorem zpc {w w':World} {H':Own} (h:Ext w [] w' H'):∃ q os',w'=Go.Sort.grow (w.drewN q) os':=by
 refine ⟨w'.drawn - w.drawn,w'.heap.extract w.heap.size w'.heap.size,?_⟩
 have hz:=h.size
 have hd:=(h.drawn (by simp)).2
 have hh:w'.heap=w.heap++w'.heap.extract w.heap.size w'.heap.size:=by
  apply Array.ext_getElem?
  intro i
  by_cases hi:i<w.heap.size
  · rw [Array.getElem?_append_left hi]
    exact (h.full i hi (by simp)).1
  · rw [Array.getElem?_append_right (by omega),Array.getElem?_extract]
    by_cases hi2:i<w'.heap.size
    · rw [if_pos (by omega)]
      congr 1;omega
    · rw [if_neg (by omega)]
      exact Array.getElem?_eq_none (by omega)
 obtain ⟨hp,tp,dr,o,ou⟩:=w'
 obtain ⟨hp0,tp0,dr0,o0,ou0⟩:=w
 have e1:=h.os;have e2:=h.tape;have e3:=h.output
 simp only at e1 e2 e3 hh hd
 subst e1 e2 e3
 unfold Go.Sort.grow World.drewN
 simp only [World.mk.injEq,true_and,and_true]
 exact ⟨hh,by omega⟩
end Go.Proofs.YtgekknefphagbaaGreatDoor
