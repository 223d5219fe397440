/- strings.Builder wherever it lies: what it holds, and what is written to it, over data. No statement of the program. -/
import Derived.Test.YtifdpbghkccaoaaDoorEn
import Derived.Test.YtifdpbghkccaoaaDoorSsx
import Derived.Shelf.Strings.BuilderK
import Derived.Shelf.Strings.OnBuilder
import Derived.Shelf.Strconv.Itoa4
namespace Go.Proofs.YtifdpbghkccaoaaDoor
open Go.RowKit Go.Shelf
set_option linter.unusedSimpArgs false
set_option linter.unusedVariables false
set_option linter.unusedSectionVars false
section
section
variable {P:Program} {ρ : Go.Shelf.Ren}
end
def OnTb (H:Own) (b:Nat) (G:TypeId->List V->(Ent->Own)->Prop):Prop:=∃ T cs,On H (.tb T b cs) (G T cs)
theorem OnTb.here {H:Own} {T:TypeId} {b:Nat} {cs:List V} {G:TypeId->List V->(Ent->Own)->Prop} (h:G T cs fun x=>x::H):OnTb (.tb T b cs::H) b G:=⟨T,cs,On.here h⟩
theorem OnTb.next {H:Own} {b:Nat} {y:Ent} {G:TypeId->List V->(Ent->Own)->Prop} (h:OnTb H b fun T cs C=>G T cs fun x=>y::C x):OnTb (y::H) b G:=by
 obtain ⟨T,cs,h⟩:=h
 exact ⟨T,cs,On.next h⟩
def OnBa (H:Own) (v:Value) (G:TypeId->List UInt8->(Ent->Own)->Prop):Prop:=∃ T l,On H (.ba T v l) (G T l)
theorem OnBa.here {H:Own} {T:TypeId} {v:Value} {l:List UInt8} {G:TypeId->List UInt8->(Ent->Own)->Prop} (h:G T l fun x=>x::H):OnBa (.ba T v l::H) v G:=⟨T,l,On.here h⟩
theorem OnBa.next {H:Own} {v:Value} {y:Ent} {G:TypeId->List UInt8->(Ent->Own)->Prop} (h:OnBa H v fun T l C=>G T l fun x=>y::C x):OnBa (y::H) v G:=by
 obtain ⟨T,l,h⟩:=h
 exact ⟨T,l,On.next h⟩
section
variable {P:Program} {o:Oper} {f:Operand->V} {H:Own} {K:V->Own->Prop}
end
section
variable {P:Program} {ρ : Go.Shelf.Ren}
theorem DC.join (L:Lays.n156 P ρ) (X:Builder.Extra P ρ) (he:enterB P (ρ.f 156)=true) (ws:List (List UInt8)) (sep:List UInt8) (F:Own) (h:ws.length<=1000000/\(Lib.join ws sep).length<=140737488355328) :
  DC P (ρ.f 156) [.sl (ws.map V.str), .str sep] ([loose]++F) fun d G=>d = .str (Lib.join ws sep)/\G=[loose]++F:=by
 obtain ⟨h1,h2⟩:=h
 refine ⟨he,fun xs w hs hz hr=>?_⟩
 have h0:=hr 0 (by simp)
 have h1':=hr 1 (by simp)
 obtain ⟨x0,x1,rfl⟩:∃ a b,xs = #[a,b]:=by
  obtain ⟨l⟩:=xs
  match l,hz with
  | [a,b],_=>exact ⟨a,b,rfl⟩
 have h0:R (stable w ([loose]++F)) w x0 (.sl (ws.map V.str)):=h0
 have e1:x1 = .string (bs sep):=by
  have h1':R (stable w ([loose]++F)) w x1 (.str sep):=h1'
  cases h1';rfl
 subst e1
 obtain ⟨a,cap,sz,rfl,hc,hn,b1,b2,b3,b4⟩:=h0.slc
 rw [List.length_map] at hc b2 b3 b4 ⊢
 have bsb:∀ x:List UInt8,(bs x).data.toList=x:=fun x=>by simp [bs]
 have fin:∀ (e:Ending) (w':World),(e = .returned (.string ⟨(Lib.join ws sep).toArray⟩)/\Below w.heap.size w w') ->
   ∃ v d H',e = .returned v/\Sim w' H'/\Ext w ([loose]++F) w' H'/\R (stable w' H') w' v d/\d = .str (Lib.join ws sep)/\H'=[loose]++F:=by
  rintro e w' ⟨rfl,hb⟩
  obtain ⟨k1,k2⟩:=hs.moreL (by simp) hb
  exact ⟨_,_,_,rfl,k1,k2, .str _,rfl,rfl⟩
 by_cases hw:ws=[]
 · subst hw
   refine (Any.strings_Join_none L X a cap (bs sep) w).mono ?_
   rintro e w' ⟨rfl,rfl⟩
   exact fin _ _ ⟨rfl,Below.refl _ _⟩
 · cases a with
   | none=>exact absurd (List.map_eq_nil_iff.1 (hn rfl)) hw
   | some p =>
    have hsp:=b1 p rfl (fun e=>hw (List.map_eq_nil_iff.1 e))
    obtain ⟨bk,o,ps⟩:=p
    simp only at hsp
    subst hsp
    have hsz:sz=1:=by
     have hpos:0<ws.length:=List.length_pos_iff.2 hw
     have:=b2 0 hpos
     rw [<-this]
     simp [List.getD_eq_getElem?_getD,hpos];rfl
    subst hsz
    have cel:∀ (j:Nat) x,(ws.map bs)[j]? = some x->w.cell? ⟨bk,o+j,none⟩=some (.string x):=fun j x hx=>by
     rw [List.getElem?_map] at hx
     cases hj:ws[j]? with
     | none=>rw [hj] at hx;simp at hx
     | some y =>
      rw [hj] at hx
      simp only [Option.map_some,Option.some.injEq] at hx
      subst hx
      have hlt:j<ws.length:=(List.getElem?_eq_some_iff.1 hj).1
      have s3:=(b3 ⟨bk,o,none⟩ j 0 rfl hlt (by decide)).1
      have s4:=b4 ⟨bk,o,none⟩ j 0 rfl hlt (by decide)
      simp only [Nat.mul_one,Nat.add_zero] at s3 s4
      have e2:((ws.map V.str).getD j .any).cell 0 = .str y:=by
       rw [List.getD_eq_getElem?_getD,List.getElem?_map,hj];rfl
      rw [e2] at s4
      unfold cellAt at s4
      cases hcc:w.cell? ⟨bk,o+j,none⟩ with
      | none=>rw [hcc] at s3;cases s3
      | some u =>
       rw [hcc] at s4
       have s4:R (stable w ([loose]++F)) w u (.str y):=s4
       cases s4;rfl
    have hbk:bk<w.heap.size:=(b3 ⟨bk,o,none⟩ 0 0 rfl (List.length_pos_iff.2 hw) (by decide)).lt
    have e3:(ws.map bs).map (·.data.toList)=ws:=by rw [List.map_map];exact (List.map_congr_left fun x _=>bsb x).trans (List.map_id ws)
    have:=Any.strings_Join L X bk o cap (ws.map bs) (bs sep) w cel hbk (by rw [List.length_map];omega) (by rw [List.length_map];exact hc) (by rw [e3,bsb];exact h2)
    rw [e3,bsb,List.length_map] at this
    exact this.mono fin
end
end
end Go.Proofs.YtifdpbghkccaoaaDoor
