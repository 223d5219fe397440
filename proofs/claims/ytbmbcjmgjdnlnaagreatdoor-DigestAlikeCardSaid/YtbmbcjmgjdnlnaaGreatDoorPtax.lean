/- What is dropped of a row. -/
import Derived.Test.YtbmbcjmgjdnlnaaGreatDoorPt3x
import Derived.KernelRfl
namespace Go.Proofs.YtbmbcjmgjdnlnaaGreatDoor
open Go.RowKit
set_option linter.unusedSimpArgs false
set_option linter.unusedVariables false
set_option linter.unusedSectionVars false
set_option maxHeartbeats 4000000
set_option maxRecDepth 100000
section
theorem any_no {T:Type} [Inhabited T] {l:List T} {p:T->Bool} (h:∀ q,q<l.length->p (l.getD q default)=false):l.any p=false:=by
 rw [List.any_eq_false]
 intro x hx
 obtain ⟨q,hq,rfl⟩:=mem_getD hx
 rw [h q hq];simp
theorem any_yes {T:Type} [Inhabited T] {l:List T} {p:T->Bool} {k:Nat} (hk:k<l.length) (h:p (l.getD k default)=true):l.any p=true:=List.any_eq_true.2 ⟨_,getD_mem hk,h⟩
def cnt {T:Type} (p:T->Bool) (l:List T) (j:Nat):Nat:=((l.take j).filter (fun x=>!p x)).length
structure DI_ {T:Type} (p:T->Bool) (l:List T) (j:Nat) (m:List T):Prop where
 jle:j<=l.length
 len:m.length=l.length
 rest:m.drop j=l.drop j
 done_:m.take (cnt p l j)=(l.take j).filter (fun x=>!p x)
 lt:cnt p l j<j
section
variable {T:Type} [Inhabited T] {p:T->Bool} {l m:List T} {j k:Nat}
theorem take_next {l:List T} {j:Nat} (h:j<l.length):l.take (j+1)=l.take j++[l.getD j default]:=by
 rw [List.take_add_one,List.getD_eq_getElem?_getD,List.getElem?_eq_getElem h];rfl
theorem cnt_keep (h:j<l.length) (hp:p (l.getD j default)=false):cnt p l (j+1)=cnt p l j+1:=by
 unfold cnt;rw [take_next h,List.filter_append,List.length_append,List.filter_cons,hp];rfl
theorem cnt_drop (h:j<l.length) (hp:p (l.getD j default)=true):cnt p l (j+1)=cnt p l j:=by
 unfold cnt;rw [take_next h,List.filter_append,List.length_append,List.filter_cons,hp];rfl
theorem DI_.at_ (h:DI_ p l j m) (hj:j<l.length):m.getD j default=l.getD j default:=by
 have h1:=h.rest
 rw [List.drop_eq_getElem_cons (by rw [h.len];exact hj),List.drop_eq_getElem_cons hj] at h1
 injection h1 with h1 _
 rw [getD_get m j (by rw [h.len];exact hj),getD_get l j hj,h1]
theorem drop_more_ {l m:List T} {j:Nat} (h:m.drop j=l.drop j):m.drop (j+1)=l.drop (j+1):=by
 rw [<-List.drop_drop (i:=1) (j:=j) (l:=m),<-List.drop_drop (i:=1) (j:=j) (l:=l),h]
theorem DI_.drop (h:DI_ p l j m) (hj:j<l.length) (hp:p (m.getD j default)=true):DI_ p l (j+1) m:=by
 rw [h.at_ hj] at hp
 have e:=cnt_drop hj hp
 refine ⟨hj,h.len,drop_more_ h.rest,?_,by have:=h.lt;omega⟩
 rw [e,h.done_,take_next hj,List.filter_append,List.filter_cons,hp];simp
theorem DI_.keep (h:DI_ p l j m) (hj:j<l.length) (hp:p (m.getD j default)=false):DI_ p l (j+1) (m.set (cnt p l j) (m.getD j default)):=by
 have hat:=h.at_ hj
 rw [hat] at hp ⊢
 have e:=cnt_keep hj hp
 have hlt:=h.lt
 refine ⟨hj,by rw [List.length_set];exact h.len,?_,?_,by omega⟩
 · rw [List.drop_set_of_lt (by omega)];exact drop_more_ h.rest
 · rw [e,take_next (by rw [List.length_set,h.len];have:=h.jle;omega),List.take_set_of_le (Nat.le_refl _),h.done_,take_next hj,List.filter_append]
   congr 1
   rw [List.filter_cons,hp,List.getD_eq_getElem?_getD,List.getElem?_set_self (by rw [h.len];have:=h.jle;omega)]
   rfl
end
attribute [local irreducible] DW SeqD DV DOp DC DVX DVJ
section
attribute [local push_cast 2000] encRoute encRoute_eta Nat.sub_zero
end
end
end Go.Proofs.YtbmbcjmgjdnlnaaGreatDoor
