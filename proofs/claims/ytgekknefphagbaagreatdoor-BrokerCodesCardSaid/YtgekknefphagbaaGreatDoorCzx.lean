/- A part of a part of a row that is owned. No statement of the program. -/
import Derived.Test.YtgekknefphagbaaGreatDoorNsx
import Derived.Test.YtgekknefphagbaaGreatDoorTex
import Derived.KernelRfl
import Derived.Shelf.Slices.CompactS
import Derived.Test.YtgekknefphagbaaGreatDoorProg
import Derived.Test.YtgekknefphagbaaGreatDoorEf
import Derived.Test.YtgekknefphagbaaGreatDoorLib
namespace Go.Proofs.YtgekknefphagbaaGreatDoor
open Go.RowKit
set_option linter.unusedSimpArgs false
set_option linter.unusedVariables false
set_option linter.unusedSectionVars false
section
section
variable {P:Program} {o:Oper} {f:Operand->V} {H:Own} {K:V->Own->Prop}
end
end
section
set_option maxHeartbeats 4000000
set_option maxRecDepth 100000
abbrev IM:=List (Str×Int)
abbrev zol (l:IM):Prop:=(l.map (·.1)).Nodup
section
variable {A C o:IM} {y:Str×Int} (hn:zol (A++y::C))
include hn
end
attribute [local irreducible] DW SeqD DV DOp DC DVX Nd.own ownH ownT
section
attribute [local push_cast 2000] za8 zbb zaE zaX zaF zaA zbe za9 za4 za7 zbd zaI zaC zba zaG zaw zaH zav zbc zaB zay zbf zaD zax zau zcQ zew
end
end
section
set_option maxHeartbeats 4000000
set_option maxRecDepth 100000
section
variable {h:List Nd} {r:Nat} {m:List Str->Str->Option Int} (t:Tri h r m)
include t
theorem Tri.fkid {p:List Str} {b:Nat} {x:Nd} (hp:fol h r p=some b) (hx:fnd h b=some x) (l:Str):fol h r (p++[l])=lookA l x.next:=by
 rw [zcU,hp];show kid h b l=_;unfold kid;rw [hx];rfl
theorem Tri.gone {p:List Str} (hp:fol h r p=none) (q:List Str) (k:Str):m (p++q) k=none:=t.all _ k (by rw [zeX,hp];rfl)
end
attribute [local irreducible] DW SeqD DV DOp DC DVX Nd.own ownH ownT vis zl8
attribute [local push_cast 2000] za8 zbb zaE zaX zaF zaA zbe za9 za4 za7 zbd zaI zaC zba zaG zaw zaH zav zbc zaB zay zbf zaD zax zau
section
end
section
attribute [local push_cast 2000] ze7
end
end
section
set_option maxHeartbeats 4000000
set_option maxRecDepth 100000
theorem zpJ {l:List Str} {k:Nat} (h:k<l.length):l.take (k+1)=l.take k++[l.getD k default]:=by
 rw [List.take_add_one];simp [List.getD_eq_getElem?_getD,h]
theorem zgd {f:Str} (h:filterB f=true):(spl f).length<=65536:=by
 have h1:=(ziX h).2
 have h2:=(zeN f).1
 rw [zgp] at h2
 omega
theorem nd_keys {s:TS} {h:List Nd} {f:Str} {c:Nat} {nd:Nd} (ht:Tri h s.r (mOf s.L)) (hf:fol h s.r (spl f)=some c) (hx:fnd h c=some nd) (k:Str):lookA k nd.keys=lookA (f,k) s.L:=by rw [ht.has _ _ _ hf hx,zgV]
theorem zj5 (m:Int) (f:Str) (F:Own):f.length<=1000000->DC Tryz.prog 120 [.str f] ([knM m]++F) fun d G=>d = .sl ((spl f).map V.str)/\G=[knM m]++F:=fun h=>by
 have:=zgM m f F (by omega)
 rwa [zgp] at this
attribute [local irreducible] DW SeqD DV DOp DC DVX Nd.own ownH filterB spl
section
attribute [local push_cast 2000] za8 zbb zaE zaX zaF zaA zbe za9 za4 za7 zbd zaI zaC zba zaG zaw zaH zav zbc zaB zay zbf zaD zax zau zaZ zcQ zaM zaP Option.getD_some Option.getD_none Option.isSome_some Option.isSome_none
end
end
section
open Go.Shelf Go.RowKit
def zmt:Go.Shelf.Ren:=⟨fun | 194=>106 | n=>n,fun | 31=>36 | 9=>9 | 3=>3 | 4=>4 | 0=>0 | n=>n,fun | n=>n⟩
theorem layCs:Go.Proofs.Lays.n194 Tryz.prog zmt:={
 mixed:=by kernel_rfl
 f194:=Tryz.func106.trans (congrArg some (by kernel_rfl))
 t0:=Tryz.underlying0
 a0:=Tryz.isAgg0
 z0:=Tryz.sizeOf0
 v0:=Tryz.zeroValue0
 t3:=Tryz.underlying3
 a3:=Tryz.isAgg3
 z3:=Tryz.sizeOf3
 v3:=Tryz.zeroValue3
 t4:=Tryz.underlying4
 a4:=Tryz.isAgg4
 z4:=Tryz.sizeOf4
 v4:=Tryz.zeroValue4
 t9:=Tryz.underlying9
 a9:=Tryz.isAgg9
 z9:=Tryz.sizeOf9
 v9:=Tryz.zeroValue9
 t31:=Tryz.underlying36
 a31:=Tryz.isAgg36
 z31:=Tryz.sizeOf36
 v31:=Tryz.zeroValue36 }
end
section
open Go.RowKit Go.ChangeShapes Go.WideShapes Go.Deep
theorem Sim.none (w:World):Sim w []:=⟨(fun _ h=>nomatch h),List.Pairwise.nil,List.Pairwise.nil⟩
section
variable {H:Type} {enc:TypeId×Value->H} {P:Program} {w:World}
end
end
end Go.Proofs.YtgekknefphagbaaGreatDoor
