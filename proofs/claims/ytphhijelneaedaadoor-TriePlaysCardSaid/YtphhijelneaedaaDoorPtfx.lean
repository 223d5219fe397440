/- Texts of plain runes are checked. -/
import Derived.Test.YtphhijelneaedaaDoorRf2x
import Derived.Test.YtphhijelneaedaaDoorEqx
import Derived.Test.YtphhijelneaedaaDoorFzx
import Derived.KernelRfl
import Derived.Shelf.Unicode.DecodeSlow
namespace Go.Proofs.YtphhijelneaedaaDoor
open Go.RowKit
set_option linter.unusedSimpArgs false
set_option linter.unusedVariables false
set_option linter.unusedSectionVars false
set_option maxHeartbeats 4000000
set_option maxRecDepth 100000
section
def OnK (H:Own) (b:Nat) (G:List V->Prop):Prop:=∃ cs,Ent.know b cs∈H/\G cs
theorem OnK.here {H:Own} {b:Nat} {cs:List V} {G:List V->Prop} (h:G cs):OnK (.know b cs::H) b G:=⟨cs,List.mem_cons_self ..,h⟩
theorem OnK.next {H:Own} {b:Nat} {e:Ent} {G:List V->Prop} (h:OnK H b G):OnK (e::H) b G:=let ⟨cs,h1,h2⟩:=h;⟨cs,List.mem_cons_of_mem _ h1,h2⟩
theorem OnK_id {H:Own} {b:Nat} {G:List V->Prop} (h:OnK H b G):OnK H b G:=h
theorem DOp.loadk_ {P:Program} {o:Oper} {f:Operand->V} {H:Own} {K:V->Own->Prop} {t:TypeId} {x:Operand} {b off:Nat} (hop:o.op = .load t x) (hx:f x = .raw (.pointer (some ⟨b,off,none⟩))) (h:OnK H b fun cs=>partS (ty P t) (cs.drop off) 0/\K (partV (ty P t) (cs.drop off) 0) H):DOp P o f H K:=by
 obtain ⟨cs,hm,hp,hk⟩:=h
 refine DOp.step fun a w hs hr=>?_
 have hv:=hr x (by simp [hop,Op.operands])
 rw [hx] at hv
 have hv:a.eval x = .pointer (some ⟨b,off,none⟩):=by generalize a.eval x=v at hv;cases hv;rfl
 have hh:=hs.holds _ hm
 obtain ⟨v,e1,e2⟩:=loadVar_run (P:=P) (S:=stable w H) (w:=w) (t:=t) (b:=⟨b,off,none⟩) (cs:=cs.drop off) rfl (fun k hk=>by
  rw [List.length_drop] at hk
  exact (hh (off+k) (by omega)).1.1) (fun k hk=>by
  rw [List.length_drop] at hk
  have:=(hh (off+k) (by omega)).2
  simpa [List.getD_eq_getElem?_getD,List.getElem?_drop] using this) hp
 refine ⟨v,w,_,_,?_,⟨hs, .refl _ _⟩,e2,hk⟩
 unfold execOp
 rw [hop]
 simp [Instr.loadAt,hv,Instr.sureAddr,e1]
def firstC:List V:=(List.range 256).map fun c=>.int .u8 (Go.Lib.firstT c)
def accC:List V:=((List.range 16).map fun i=>[V.int .u8 (Go.Lib.accLo i),V.int .u8 (Go.Lib.accHi i)]).flatten
abbrev knF:Ent:=.know 1 firstC
abbrev knA:Ent:=.know 2 accC
theorem first_195:(List.drop 195 firstC).getD 0 V.any = .int .u8 2:=by kernel_rfl
theorem first_len:firstC.length=256:=by kernel_rfl
theorem acc_0:List.take 2 (List.drop 0 accC)=[.int .u8 128, .int .u8 191]:=by kernel_rfl
theorem acc_0':List.take 2 accC=[.int .u8 128, .int .u8 191]:=by kernel_rfl
theorem acc_len:accC.length=32:=by kernel_rfl
attribute [local irreducible] DW SeqD DV DOp DC DVX DVJ
section
attribute [local push_cast 2000] u8 first_195 first_len acc_0 acc_0' acc_len
end
end
section
attribute [local irreducible] DW SeqD DV DOp DC DVX
section
attribute [local push_cast 2000] u8
end
section
attribute [local push_cast 2000] u8
end
section
attribute [local push_cast 2000] u8
end
end
end Go.Proofs.YtphhijelneaedaaDoor
