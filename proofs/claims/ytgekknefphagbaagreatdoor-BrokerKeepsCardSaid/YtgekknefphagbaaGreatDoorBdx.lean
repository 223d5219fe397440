/- strings.Builder wherever it lies: what it holds, and what is written to it, over data. No statement of the program. -/
import Derived.Test.YtgekknefphagbaaGreatDoorEn
import Derived.Test.YtgekknefphagbaaGreatDoorSbx
import Derived.Shelf.Strings.BuilderK
import Derived.Shelf.Strings.OnBuilder
import Derived.Shelf.Strconv.Itoa4
import Derived.Test.YtgekknefphagbaaGreatDoorItx
import Derived.KernelRfl
namespace Go.Proofs.YtgekknefphagbaaGreatDoor
open Go.RowKit Go.Shelf
set_option linter.unusedSimpArgs false
set_option linter.unusedVariables false
set_option linter.unusedSectionVars false
section
section
variable {P:Program} {ρ : Go.Shelf.Ren}
end
theorem one_ofB {xs:Array Value} (h:xs.size=1):∃ a,xs = #[a]:=by
 obtain ⟨l⟩:=xs
 match l,h with
 | [a],_=>exact ⟨a,rfl⟩
def OnTb (H:Own) (b:Nat) (G:TypeId->List V->(Ent->Own)->Prop):Prop:=∃ T cs,On H (.tb T b cs) (G T cs)
theorem OnTb.here {H:Own} {T:TypeId} {b:Nat} {cs:List V} {G:TypeId->List V->(Ent->Own)->Prop} (h:G T cs fun x=>x::H):OnTb (.tb T b cs::H) b G:=⟨T,cs,On.here h⟩
theorem OnTb.next {H:Own} {b:Nat} {y:Ent} {G:TypeId->List V->(Ent->Own)->Prop} (h:OnTb H b fun T cs C=>G T cs fun x=>y::C x):OnTb (y::H) b G:=by
 obtain ⟨T,cs,h⟩:=h
 exact ⟨T,cs,On.next h⟩
def OnBa (H:Own) (v:Value) (G:TypeId->List UInt8->(Ent->Own)->Prop):Prop:=∃ T l,On H (.ba T v l) (G T l)
theorem OnBa.here {H:Own} {T:TypeId} {v:Value} {l:List UInt8} {G:TypeId->List UInt8->(Ent->Own)->Prop} (h:G T l fun x=>x::H):OnBa (.ba T v l::H) v G:=⟨T,l,On.here h⟩
theorem OnBa.next {H:Own} {v:Value} {y:Ent} {G:TypeId->List UInt8->(Ent->Own)->Prop} (h:OnBa H v fun T l C=>G T l fun x=>y::C x):OnBa (y::H) v G:=by
 obtain ⟨T,l,h⟩:=h
 exact ⟨T,l,On.next h⟩
section
variable {P:Program} {o:Oper} {f:Operand->V} {H:Own} {K:V->Own->Prop}
end
section
variable {P:Program} {ρ : Go.Shelf.Ren}
def pow10O (T:TypeId) (fr:Nat×Nat):Obj:=.cells ((Lib.pow10Tab.map fun z=>Value.int .u64 z).toArray) T fr
theorem DC.itoa (L:LaysM.n171 P ρ) (he:enterB P (ρ.f 171)=true) {g:Nat} (hg:P.globalNamed "internal/strconv.uint64pow10" = some g) (T:TypeId) (fr:Nat×Nat) (n:Int) (F:Own) (h : -9223372036854775808<=n/\n<=9223372036854775807) :
  DC P (ρ.f 171) [.int .i64 n] ([.row g (pow10O T fr)]++F) fun d G=>d = .str (Lib.itoa n)/\G=[.row g (pow10O T fr)]++F:=by
 refine ⟨he,fun xs w hs hz hr=>?_⟩
 have h0:=hr 0 (by simp)
 obtain ⟨x0,rfl⟩:=one_ofB hz
 have e0:x0 = .int .i64 n:=by
  have h0:R (stable w ([.row g (pow10O T fr)]++F)) w x0 (.int .i64 n):=h0
  cases h0;rfl
 subst e0
 have hh:w.heap[g]? = some (pow10O T fr):=hs.holds (.row g (pow10O T fr)) (by simp)
 have htab:Lib.TabIs P w "internal/strconv.uint64pow10" .u64 Lib.pow10Tab:=by
  unfold Lib.TabIs World.var?
  rw [hg]
  simp [hh,pow10O]
 refine (Any.strconv_Itoa L n h.1 h.2 w htab).mono ?_
 rintro e w' ⟨rfl,k,os,rfl⟩
 obtain ⟨k1,k2⟩:=hs.more (w':=Go.Sort.grow (w.drewN k) os) rfl rfl rfl (by simp [Go.Sort.grow,World.drewN]) (fun b hb=>by simp [Go.Sort.grow,World.drewN,Array.getElem?_append,hb]) (Nat.le_add_right _ _)
 exact ⟨_,_,_,rfl,k1,k2, .str _,rfl,rfl⟩
end
end
section
open Go.RowKit
set_option maxHeartbeats 4000000
set_option maxRecDepth 100000
theorem cells_str:∀ l:List Str,cells (l.map V.str)=l.map V.str
 | []=>rfl
 | x::l=>by rw [List.map_cons,cells_cons,cells_str l];rfl
attribute [local irreducible] DW SeqD DV DOp DC DVX
structure WI (m:List Str->Str->Option Int) (p:List Str) (Q0:List (List Str)) (Lf:List (Str×Nat)) (Q:List (List Str)):Prop where
 nl:(Lf.map (·.1)).Nodup
 nd:Q.Nodup
 mem:∀ q,q∈Q↔q∈Q0\/(p <+: q/\(∃ k,(m q k).isSome=true)/\∀ e∈Lf,¬ (p++[e.1]) <+: q)
structure WQ (m:List Str->Str->Option Int) (p:List Str) (Q:List (List Str)):Prop where
 nd:Q.Nodup
 has:∀ q∈Q,∃ k,(m q k).isSome=true
 off:∀ q∈Q,¬ p <+: q
section
variable {h:List Nd} {r b:Nat} {m:List Str->Str->Option Int} {p:List Str} {nd:Nd} {Q0 Q:List (List Str)} (ht:Tri h r m) (hp:fol h r p=some b) (hx:fnd h b=some nd)
include ht hp hx
end
structure WB (m:List Str->Str->Option Int):Prop where
 few:∀ Q:List (List Str),Q.Nodup->(∀ q∈Q,∃ k,(m q k).isSome=true)->Q.length<=1000000000
 small:∀ p k,(m p k).isSome=true->(joinS p).length<=65535
attribute [local irreducible] Nd.own ownH joinS
section
attribute [local push_cast 2000] look_nil upd_nil look_str upd_str drop_str opt_bool opt_int opt_some entM_nil entM_len keyS_89 keyS0_89 zeroD_96 keyS_90 keyS0_90 zeroD_100 keyS_145 keyS0_145 zeroD_4 keyS_172 keyS0_172 zeroD_3 keyS_229 keyS0_229 zeroD_162 upd_strP upd_strI some_mapC none_mapC Option.getD_some Option.getD_none Option.isSome_some Option.isSome_none entM_app
end
end
section
open Go.RowKit
set_option maxHeartbeats 4000000
set_option maxRecDepth 100000
attribute [local irreducible] DW SeqD DV DOp DC DVX Nd.own ownH sortS
section
attribute [local push_cast 2000] look_nil upd_nil look_str upd_str drop_str opt_bool opt_int opt_some entM_nil entM_len keyS_89 keyS0_89 zeroD_96 keyS_90 keyS0_90 zeroD_100 keyS_145 keyS0_145 zeroD_4 keyS_172 keyS0_172 zeroD_3 keyS_229 keyS0_229 zeroD_162 upd_strP upd_strI some_mapC none_mapC Option.getD_some Option.getD_none Option.isSome_some Option.isSome_none
end
end
end Go.Proofs.YtgekknefphagbaaGreatDoor
