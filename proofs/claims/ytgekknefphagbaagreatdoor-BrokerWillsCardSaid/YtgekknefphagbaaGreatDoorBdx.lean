/- strings.Builder wherever it lies: what it holds, and what is written to it, over data. No statement of the program. -/
import Derived.Test.YtgekknefphagbaaGreatDoorEn
import Derived.Test.YtgekknefphagbaaGreatDoorSbx
import Derived.Shelf.Strings.BuilderK
import Derived.Shelf.Strings.OnBuilder
import Derived.Shelf.Strconv.Itoa4
import Derived.Test.YtgekknefphagbaaGreatDoorTix
import Derived.KernelRfl
import Derived.Test.YtgekknefphagbaaGreatDoorLkx
namespace Go.Proofs.YtgekknefphagbaaGreatDoor
open Go.RowKit Go.Shelf
set_option linter.unusedSimpArgs false
set_option linter.unusedVariables false
set_option linter.unusedSectionVars false
section
section
variable {P:Program} {ρ : Go.Shelf.Ren}
end
theorem one_ofB {xs:Array Value} (h:xs.size=1):∃ a,xs = #[a]:=by
 obtain ⟨l⟩:=xs
 match l,h with
 | [a],_=>exact ⟨a,rfl⟩
def OnTb (H:Own) (b:Nat) (G:TypeId->List V->(Ent->Own)->Prop):Prop:=∃ T cs,On H (.tb T b cs) (G T cs)
theorem OnTb.here {H:Own} {T:TypeId} {b:Nat} {cs:List V} {G:TypeId->List V->(Ent->Own)->Prop} (h:G T cs fun x=>x::H):OnTb (.tb T b cs::H) b G:=⟨T,cs,On.here h⟩
theorem OnTb.next {H:Own} {b:Nat} {y:Ent} {G:TypeId->List V->(Ent->Own)->Prop} (h:OnTb H b fun T cs C=>G T cs fun x=>y::C x):OnTb (y::H) b G:=by
 obtain ⟨T,cs,h⟩:=h
 exact ⟨T,cs,On.next h⟩
def OnBa (H:Own) (v:Value) (G:TypeId->List UInt8->(Ent->Own)->Prop):Prop:=∃ T l,On H (.ba T v l) (G T l)
theorem OnBa.here {H:Own} {T:TypeId} {v:Value} {l:List UInt8} {G:TypeId->List UInt8->(Ent->Own)->Prop} (h:G T l fun x=>x::H):OnBa (.ba T v l::H) v G:=⟨T,l,On.here h⟩
theorem OnBa.next {H:Own} {v:Value} {y:Ent} {G:TypeId->List UInt8->(Ent->Own)->Prop} (h:OnBa H v fun T l C=>G T l fun x=>y::C x):OnBa (y::H) v G:=by
 obtain ⟨T,l,h⟩:=h
 exact ⟨T,l,On.next h⟩
section
variable {P:Program} {o:Oper} {f:Operand->V} {H:Own} {K:V->Own->Prop}
end
section
variable {P:Program} {ρ : Go.Shelf.Ren}
def zeI (T:TypeId) (fr:Nat×Nat):Obj:=.cells ((Lib.pow10Tab.map fun z=>Value.int .u64 z).toArray) T fr
theorem DC.itoa (L:LaysM.n171 P ρ) (he:zd6 P (ρ.f 171)=true) {g:Nat} (hg:P.globalNamed "internal/strconv.uint64pow10" = some g) (T:TypeId) (fr:Nat×Nat) (n:Int) (F:Own) (h : -9223372036854775808<=n/\n<=9223372036854775807) :
  DC P (ρ.f 171) [.int .i64 n] ([.row g (zeI T fr)]++F) fun d G=>d = .str (Lib.itoa n)/\G=[.row g (zeI T fr)]++F:=by
 refine ⟨he,fun xs w hs hz hr=>?_⟩
 have h0:=hr 0 (by simp)
 obtain ⟨x0,rfl⟩:=one_ofB hz
 have e0:x0 = .int .i64 n:=by
  have h0:R (stable w ([.row g (zeI T fr)]++F)) w x0 (.int .i64 n):=h0
  cases h0;rfl
 subst e0
 have hh:w.heap[g]? = some (zeI T fr):=hs.holds (.row g (zeI T fr)) (by simp)
 have htab:Lib.TabIs P w "internal/strconv.uint64pow10" .u64 Lib.pow10Tab:=by
  unfold Lib.TabIs World.var?
  rw [hg]
  simp [hh,zeI]
 refine (Any.strconv_Itoa L n h.1 h.2 w htab).mono ?_
 rintro e w' ⟨rfl,k,os,rfl⟩
 obtain ⟨k1,k2⟩:=hs.more (w':=Go.Sort.grow (w.drewN k) os) rfl rfl rfl (by simp [Go.Sort.grow,World.drewN]) (fun b hb=>by simp [Go.Sort.grow,World.drewN,Array.getElem?_append,hb]) (Nat.le_add_right _ _)
 exact ⟨_,_,_,rfl,k1,k2, .str _,rfl,rfl⟩
end
end
section
open Go.RowKit
set_option maxHeartbeats 4000000
set_option maxRecDepth 100000
theorem zb1:∀ l:List Str,cells (l.map V.str)=l.map V.str
 | []=>rfl
 | x::l=>by rw [List.map_cons,zaF,zb1 l];rfl
attribute [local irreducible] DW SeqD DV DOp DC DVX
structure WI (m:List Str->Str->Option Int) (p:List Str) (Q0:List (List Str)) (Lf:List (Str×Nat)) (Q:List (List Str)):Prop where
 nl:(Lf.map (·.1)).Nodup
 nd:Q.Nodup
 mem:∀ q,q∈Q↔q∈Q0\/(p <+: q/\(∃ k,(m q k).isSome=true)/\∀ e∈Lf,¬ (p++[e.1]) <+: q)
structure WQ (m:List Str->Str->Option Int) (p:List Str) (Q:List (List Str)):Prop where
 nd:Q.Nodup
 has:∀ q∈Q,∃ k,(m q k).isSome=true
 off:∀ q∈Q,¬ p <+: q
section
variable {h:List Nd} {r b:Nat} {m:List Str->Str->Option Int} {p:List Str} {nd:Nd} {Q0 Q:List (List Str)} (ht:Tri h r m) (hp:fol h r p=some b) (hx:fnd h b=some nd)
include ht hp hx
end
structure WB (m:List Str->Str->Option Int):Prop where
 few:∀ Q:List (List Str),Q.Nodup->(∀ q∈Q,∃ k,(m q k).isSome=true)->Q.length<=1000000000
 small:∀ p k,(m p k).isSome=true->(joinS p).length<=65535
attribute [local irreducible] Nd.own ownH joinS
attribute [local push_cast 2000] zaM zbp zaN zbj zaQ zaL zbu zaT zaD zaJ zbr zaP zaU zbt zaO za9 zaS zaA zbq zaK zaB zbo zaR za8 za6 zb5 zeJ zbm zbl Option.getD_some Option.getD_none Option.isSome_some Option.isSome_none
section
attribute [local push_cast 2000] ze8
end
end
section
open Go.RowKit
set_option maxHeartbeats 4000000
set_option maxRecDepth 100000
attribute [local irreducible] DW SeqD DV DOp DC DVX Nd.own ownH sortS
section
end
end
section
open Go.RowKit Go.ChangeShapes Go.WideShapes Go.Deep
theorem row_sim {w:World} {K:Own} {g:Nat} {o:Obj} (h:Sim w K) (hk:∀ e∈K,∃ b cs,e = .know b cs) (hg:w.heap[g]? = some o):Sim w (loose :: .row g o::K):=by
 have st:∀ a,stable w K a->stable w (loose :: .row g o::K) a/\w.cell? a=w.cell? a:=fun a ha=>⟨⟨ha.1,fun e he=>by
  rcases List.mem_cons.1 he with rfl | he
  · exact fun h=>h
  · rcases List.mem_cons.1 he with rfl | he
    · exact fun h=>h
    · exact ha.2 e he⟩,rfl⟩
 refine ⟨fun e he=>?_,?_,?_⟩
 · rcases List.mem_cons.1 he with rfl | he
   · exact fun k hk=>absurd hk (Nat.not_lt_zero _)
   · rcases List.mem_cons.1 he with rfl | he
     · exact hg
     · exact Ent.holds_mono (h.holds e he) st fun _ _=>rfl
 · exact List.pairwise_cons.2 ⟨fun f hf a ha=>ha.elim,List.pairwise_cons.2 ⟨fun f hf a ha=>ha.elim,h.disj⟩⟩
 · refine List.pairwise_cons.2 ⟨fun f hf a ha=>ha.elim,List.pairwise_cons.2 ⟨fun f hf a ha hb=>?_,h.apart⟩⟩
   obtain ⟨b,cs,rfl⟩:=hk f hf
   exact hb
theorem DC.lawR {P:Program} {f:FuncId} {args:List V} {K:Own} {g:Nat} {o:Obj} {xs:Array Value} {w:World} (h:DC P f args (loose :: .row g o::K) fun d H'=>d = .bool true/\H'=loose :: .row g o::K) (hK:Sim w K) (hk:∀ e∈K,∃ b cs,e = .know b cs) (hg:w.heap[g]? = some o)
  (hn:xs.size=args.length) (hr:∀ k,k<args.length->R (stable w []) w (xs.getD k undef) (args.getD k .any)) :
  Calls P f xs w fun e w'=>e = .returned (.bool true)/\Below w.heap.size w w':=by
 have own:∀ e∈(loose :: .row g o::K:Own),∀ a,¬ e.owns a:=fun e he a=>by
  rcases List.mem_cons.1 he with rfl | he
  · exact fun h=>h
  · rcases List.mem_cons.1 he with rfl | he
    · exact fun h=>h
    · obtain ⟨b,cs,rfl⟩:=hk e he
      exact fun h=>h
 have st:∀ a,stable w [] a->stable w (loose :: .row g o::K) a/\w.cell? a=w.cell? a:=fun a ha=>⟨⟨ha.1,fun e he=>own e he a⟩,rfl⟩
 refine (h.2 xs w (row_sim hK hk hg) hn fun k hk=>(hr k hk).mono st).mono fun e w' ⟨v,d,H',he,s,x,r,hd,hH⟩=>?_
 subst hd
 subst hH
 cases r
 refine ⟨he,x.os,x.tape,x.output,x.size,fun b hb=>?_⟩
 by_cases hbg:b=g
 · subst hbg
   have h1:w'.heap[b]? = some o:=s.holds (.row b o) (by simp)
   rw [h1,hg]
 · refine (x.full b hb fun e he ht=>?_).1
   rcases List.mem_cons.1 he with rfl | he
   · exact ht
   · rcases List.mem_cons.1 he with rfl | he
     · exact hbg ht
     · obtain ⟨b,cs,rfl⟩:=hk e he
       exact ht
theorem zha {m:Int}:∀ e∈([knF,knA, .know 3 [.int .i64 m]]:Own),∃ b cs,e = .know b cs:=fun e he=>by
 simp only [List.mem_cons,List.not_mem_nil,or_false] at he
 rcases he with rfl | rfl | rfl<;>exact ⟨_,_,rfl⟩
theorem zmV {w:World} (h:Go.Lib.VarReads Tryz.prog w "internal/strconv.uint64pow10" (Go.Lib.tabData .u64 Go.Lib.pow10Tab)):∃ T fr,w.heap[0]? = some (zeI T fr):=by
 obtain ⟨g,t,cs,fuel,p,h1,h2,h3,h4⟩:=h
 have e1:g=0:=Option.some.inj (h1.symm.trans (by kernel_rfl))
 subst e1
 have e2:t=326:=Option.some.inj (h2.symm.trans (by kernel_rfl))
 subst e2
 have e3:=Go.Lib.cells_of_tab (e:=283) (n:=20) Tryz.underlying326 Tryz.underlying283 (by kernel_rfl) (by kernel_rfl) h4
 unfold World.var? at h3
 rw [show Program.globalNamed Tryz.prog "internal/strconv.uint64pow10" = some 0 from by kernel_rfl] at h3
 simp only [Option.bind_some] at h3
 cases hh:w.heap[0]? with
 | none=>rw [hh] at h3;exact absurd h3 (by simp)
 | some o =>
  rw [hh] at h3
  cases o with
  | cells xs T fr =>
   simp only [Option.some.injEq] at h3
   subst h3
   refine ⟨T,fr,?_⟩
   unfold zeI
   rw [<-e3]
  | _=>exact absurd h3 (by simp)
end
end Go.Proofs.YtgekknefphagbaaGreatDoor
