/- The trie: all branches that match a name. -/
import Derived.Test.YtgekknefphagbaaGreatDoorJax
import Derived.KernelRfl
namespace Go.Proofs.YtgekknefphagbaaGreatDoor
open Go.RowKit
set_option linter.unusedSimpArgs false
set_option linter.unusedVariables false
set_option linter.unusedSectionVars false
set_option maxHeartbeats 4000000
set_option maxRecDepth 100000
section
section
variable {h:List Nd} {r:Nat} {m:List Str->Str->Option Int} (t:Tri h r m)
include t
theorem Tri.fkid {p:List Str} {b:Nat} {x:Nd} (hp:fol h r p=some b) (hx:fnd h b=some x) (l:Str):fol h r (p++[l])=lookA l x.next:=by
 rw [zcO,hp];show kid h b l=_;unfold kid;rw [hx];rfl
theorem Tri.gone {p:List Str} (hp:fol h r p=none) (q:List Str) (k:Str):m (p++q) k=none:=t.all _ k (by rw [zfl,hp];rfl)
end
attribute [local irreducible] DW SeqD DV DOp DC DVX Nd.own ownH ownT vis zlL
attribute [local push_cast 2000] zaM zbp zaN zbj zaQ zaL zbu zaT zaD zaJ zbr zaP zaU zbt zaO za9 zaS zaA zbq zaK zaB zbo zaR za8 za6
section
end
section
attribute [local push_cast 2000] ze7
end
end
section
theorem zqO {l:List Str} {k:Nat} (h:k<l.length):l.take (k+1)=l.take k++[l.getD k default]:=by
 rw [List.take_add_one];simp [List.getD_eq_getElem?_getD,h]
theorem zgF {f:Str} (h:filterB f=true):(spl f).length<=65536:=by
 have h1:=(zjq h).2
 have h2:=(zfe f).1
 rw [zgC] at h2
 omega
theorem nd_keys {s:TS} {h:List Nd} {f:Str} {c:Nat} {nd:Nd} (ht:Tri h s.r (mOf s.L)) (hf:fol h s.r (spl f)=some c) (hx:fnd h c=some nd) (k:Str):lookA k nd.keys=lookA (f,k) s.L:=by rw [ht.has _ _ _ hf hx,zhm]
theorem zj0 (m:Int) (f:Str) (F:Own):f.length<=1000000->DC Tryz.prog 120 [.str f] ([knM m]++F) fun d G=>d = .sl ((spl f).map V.str)/\G=[knM m]++F:=fun h=>by
 have:=zgR m f F (by omega)
 rwa [zgC] at this
attribute [local irreducible] DW SeqD DV DOp DC DVX Nd.own ownH filterB spl
section
attribute [local push_cast 2000] zb5 zeJ zbm zbl Option.getD_some Option.getD_none Option.isSome_some Option.isSome_none
end
end
end Go.Proofs.YtgekknefphagbaaGreatDoor
