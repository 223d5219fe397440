/- slices.SortFunc at elements that are owned: what it leaves is the same elements, one behind another as the comparison says. No statement of the program. -/
import Derived.Test.YtgekknefphagbaaGreatDoorEu
import Derived.Sort.Grow
import Derived.Deep.Draws
import Derived.Shelf.Strings.Split
import Derived.Test.YtgekknefphagbaaGreatDoorProg
namespace Go.Proofs.YtgekknefphagbaaGreatDoor
open Go.RowKit
set_option linter.unusedSimpArgs false
set_option linter.unusedVariables false
set_option linter.unusedSectionVars false
section
structure Elm (S:Addr->Prop) (w:World) (k:Nat) {T:Type} (encV:T->V) (ok:T->Prop) where
 t:T
 vs:List Value
 len:vs.length=k
 one:∀ v∈vs,v.oneCell'=true
 rel:∀ j,j<k->R S w (vs.getD j undef) ((encV t).cell j)
 good:ok t
theorem zqx {xs:Array Value} (h:xs.size=2):∃ a b,xs = #[a,b]:=by
 obtain ⟨l⟩:=xs
 match l,h with
 | [a,b],_=>exact ⟨a,b,rfl⟩
theorem zm9 {xs:Array Value} (h:xs.size=0):xs = #[]:=by
 obtain ⟨l⟩:=xs
 match l,h with
 | [],_=>rfl
theorem sim_nil (w:World):Sim w []:=⟨(fun _ h=>nomatch h),List.Pairwise.nil,List.Pairwise.nil⟩
theorem zpX {w w':World} {H':Own} (h:Ext w [] w' H'):∃ q os',w'=Go.Sort.grow (w.drewN q) os':=by
 refine ⟨w'.drawn - w.drawn,w'.heap.extract w.heap.size w'.heap.size,?_⟩
 have hz:=h.size
 have hd:=(h.drawn (by simp)).2
 have hh:w'.heap=w.heap++w'.heap.extract w.heap.size w'.heap.size:=by
  apply Array.ext_getElem?
  intro i
  by_cases hi:i<w.heap.size
  · rw [Array.getElem?_append_left hi]
    exact (h.full i hi (by simp)).1
  · rw [Array.getElem?_append_right (by omega),Array.getElem?_extract]
    by_cases hi2:i<w'.heap.size
    · rw [if_pos (by omega)]
      congr 1;omega
    · rw [if_neg (by omega)]
      exact Array.getElem?_eq_none (by omega)
 obtain ⟨hp,tp,dr,o,ou⟩:=w'
 obtain ⟨hp0,tp0,dr0,o0,ou0⟩:=w
 have e1:=h.os;have e2:=h.tape;have e3:=h.output
 simp only at e1 e2 e3 hh hd
 subst e1 e2 e3
 unfold Go.Sort.grow World.drewN
 simp only [World.mk.injEq,true_and,and_true]
 exact ⟨hh,by omega⟩
end
section
open Go.Shelf Go.RowKit
def laySplit_ren:Go.Shelf.Ren:=⟨fun | 146=>173 | 221=>231 | 268=>263 | 138=>264 | 143=>265 | 195=>284 | 197=>285 | 218=>286 | 219=>287 | 260=>295 | 217=>296 | 225=>297 | 224=>298 | 267=>299 | 266=>301 | 314=>302 | n=>n,fun | 9=>9 | 31=>36 | 3=>3 | 4=>4 | 0=>0 | 105=>302 | 21=>21 | 5=>5 | 46=>221 | 119=>342 | 139=>345 | 138=>344 | 146=>351 | 51=>281 | n=>n,fun | 1=>3 | 3=>1 | 4=>2 | n=>n⟩
theorem zhT:Go.Proofs.Lays.n146 Tryz.prog laySplit_ren:={
 mixed:=by kernel_rfl
 f138:=Tryz.func264.trans (congrArg some (by kernel_rfl))
 f143:=Tryz.func265.trans (congrArg some (by kernel_rfl))
 f146:=Tryz.func173.trans (congrArg some (by kernel_rfl))
 f195:=Tryz.func284.trans (congrArg some (by kernel_rfl))
 f197:=Tryz.func285.trans (congrArg some (by kernel_rfl))
 f217:=Tryz.func296.trans (congrArg some (by kernel_rfl))
 f218:=Tryz.func286.trans (congrArg some (by kernel_rfl))
 f219:=Tryz.func287.trans (congrArg some (by kernel_rfl))
 f221:=Tryz.func231.trans (congrArg some (by kernel_rfl))
 f224:=Tryz.func298.trans (congrArg some (by kernel_rfl))
 f225:=Tryz.func297.trans (congrArg some (by kernel_rfl))
 f260:=Tryz.func295.trans (congrArg some (by kernel_rfl))
 f266:=Tryz.func301.trans (congrArg some (by kernel_rfl))
 f267:=Tryz.func299.trans (congrArg some (by kernel_rfl))
 f268:=Tryz.func263.trans (congrArg some (by kernel_rfl))
 f314:=Tryz.func302.trans (congrArg some (by kernel_rfl))
 t0:=Tryz.underlying0
 a0:=Tryz.isAgg0
 z0:=Tryz.sizeOf0
 v0:=Tryz.zeroValue0
 t3:=Tryz.underlying3
 a3:=Tryz.isAgg3
 z3:=Tryz.sizeOf3
 v3:=Tryz.zeroValue3
 t4:=Tryz.underlying4
 a4:=Tryz.isAgg4
 z4:=Tryz.sizeOf4
 v4:=Tryz.zeroValue4
 t5:=Tryz.underlying5
 a5:=Tryz.isAgg5
 z5:=Tryz.sizeOf5
 v5:=Tryz.zeroValue5
 t9:=Tryz.underlying9
 a9:=Tryz.isAgg9
 z9:=Tryz.sizeOf9
 v9:=Tryz.zeroValue9
 t21:=Tryz.underlying21
 a21:=Tryz.isAgg21
 z21:=Tryz.sizeOf21
 v21:=Tryz.zeroValue21
 t31:=Tryz.underlying36
 a31:=Tryz.isAgg36
 z31:=Tryz.sizeOf36
 v31:=Tryz.zeroValue36
 t46:=Tryz.underlying221
 a46:=Tryz.isAgg221
 z46:=Tryz.sizeOf221
 v46:=Tryz.zeroValue221
 t51:=Tryz.underlying281
 a51:=Tryz.isAgg281
 z51:=Tryz.sizeOf281
 v51:=Tryz.zeroValue281
 t105:=Tryz.underlying302
 a105:=Tryz.isAgg302
 z105:=Tryz.sizeOf302
 v105:=Tryz.zeroValue302
 t119:=Tryz.underlying342
 a119:=Tryz.isAgg342
 z119:=Tryz.sizeOf342
 t138:=Tryz.underlying344
 a138:=Tryz.isAgg344
 z138:=Tryz.sizeOf344
 v138:=Tryz.zeroValue344
 t139:=Tryz.underlying345
 a139:=Tryz.isAgg345
 z139:=Tryz.sizeOf345
 v139:=Tryz.zeroValue345
 t146:=Tryz.underlying351
 a146:=Tryz.isAgg351
 z146:=Tryz.sizeOf351
 v146:=Tryz.zeroValue351
 g1:=by kernel_rfl
 g3:=by kernel_rfl
 g4:=by kernel_rfl }
end
end Go.Proofs.YtgekknefphagbaaGreatDoor
