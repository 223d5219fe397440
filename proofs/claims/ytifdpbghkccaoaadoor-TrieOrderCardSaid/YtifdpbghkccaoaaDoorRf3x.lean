/- Levels of a filter; which texts are filters. -/
import Derived.Test.YtifdpbghkccaoaaDoorRf2x
import Derived.Test.YtifdpbghkccaoaaDoorEu
import Derived.KernelRfl
namespace Go.Proofs.YtifdpbghkccaoaaDoor
open Go.RowKit
set_option linter.unusedSimpArgs false
set_option linter.unusedVariables false
set_option linter.unusedSectionVars false
set_option maxHeartbeats 4000000
set_option maxRecDepth 100000
section
attribute [local irreducible] DW SeqD DV DOp DC DVX
def levStep (acc:List Str) (c:UInt8):List Str:=if (c.toNat:Int)=47 then acc++[[]] else acc.set (acc.length - 1) (acc.getD (acc.length - 1) []++[c])
def lev (t:Str) (k:Nat):List Str:=(t.take k).foldl levStep [[]]
theorem lev_0 (t:Str):lev t 0=[[]]:=rfl
theorem take_more0 (l:Str) (k:Nat) (h:k<l.length):l.take (k+1)=l.take k++[l.getD k 0]:=by rw [List.take_add_one];simp [List.getD_eq_getElem?_getD,h]
theorem lev_more {t:Str} {k:Nat} (h:k<t.length):lev t (k+1)=levStep (lev t k) (t.getD k 0):=by rw [lev,take_more0 t k h,List.foldl_append];rfl
theorem levStep_len (acc:List Str) (c:UInt8):acc.length<=(levStep acc c).length/\(levStep acc c).length<=acc.length+1:=by
 unfold levStep;split<;>simp
theorem lev_bound {t:Str} {k:Nat} (h:k<=t.length):∀ j,((lev t k).getD j []).length<=k:=by
 induction k with
 | zero=>intro j;rw [lev_0];cases j<;>simp
 | succ k ih =>
  intro j
  rw [lev_more (by omega),levStep]
  have h1:=ih (by omega)
  split
  · by_cases hj:j<(lev t k).length
    · have:=h1 j
      rw [List.getD_eq_getElem?_getD,List.getElem?_append_left hj,<-List.getD_eq_getElem?_getD];omega
    · rw [List.getD_eq_getElem?_getD,List.getElem?_append_right (by omega)]
      cases hq:j - (lev t k).length<;>simp
  · by_cases hj:j=(lev t k).length - 1
    · subst hj
      have:=h1 ((lev t k).length - 1)
      by_cases hl:(lev t k).length - 1<(lev t k).length
      · simp only [List.getD_eq_getElem?_getD,List.getElem?_set_self hl,Option.getD_some,List.length_append,List.length_singleton] at this ⊢;omega
      · rw [List.getD_eq_getElem?_getD,List.getElem?_eq_none (by simp;omega)];simp
    · have:=h1 j
      simp only [List.getD_eq_getElem?_getD,List.getElem?_set_ne (Ne.symm hj)] at this ⊢;omega
theorem lev_len {t:Str} {k:Nat} (h:k<=t.length):1<=(lev t k).length/\(lev t k).length<=k+1:=by
 induction k with
 | zero=>simp [lev_0]
 | succ k ih=>rw [lev_more (by omega)];have:=levStep_len (lev t k) (t.getD k 0);have:=ih (by omega);omega
theorem lay_app6 (a b d:List V) (m:Nat):layV (a++b) (a.length+m) d=a++layV b m d:=by
 unfold layV
 rw [List.take_append,List.take_of_length_le (by omega),List.drop_append,List.drop_of_length_le (by omega),List.nil_append,Nat.add_sub_cancel_left,show a.length+m+d.length - a.length=m+d.length from by omega]
 simp [List.append_assoc]
def strs (l:List Str):List V:=l.map .str
theorem strs_one:strs [[]]=[V.str []]:=rfl
theorem strs_set (l:List Str) (k:Nat) (s:Str) (h:k<l.length):layV (strs l) k [.str s]=strs (l.set k s):=by
 unfold strs
 induction l generalizing k with
 | nil=>cases h
 | cons a l ih =>
  cases k with
  | zero=>rfl
  | succ k =>
   have:=ih k (by simpa using h)
   rw [List.set_cons_succ,List.map_cons,List.map_cons,<-this]
   show layV ([V.str a]++_) (k+1) _=_
   rw [show k+1=([V.str a]:List V).length+k from by simp;omega,lay_app6];rfl
theorem levStep_1 {acc:List Str} {c:UInt8} (h:(c.toNat:Int)=47):levStep acc c=acc++[[]]:=by rw [levStep,if_pos h]
theorem levStep_2 {acc:List Str} {c:UInt8} (h:¬ (c.toNat:Int)=47):levStep acc c=acc.set (acc.length - 1) (acc.getD (acc.length - 1) []++[c]):=by rw [levStep,if_neg h]
section
attribute [local push_cast 2000] u8 strs_set lev_0 strs_one
end
def lvlOk (L:List Str) (i:Nat):Bool:=!(hasC (L.getD i []) 43&&L.getD i [] != [43]||hasC (L.getD i []) 35&&(L.getD i [] != [35]||decide (i+1<L.length)))
def filterB (t:Str):Bool:=textB t&&allK (lvlOk (lev t t.length)) (lev t t.length).length
theorem textB_len {t:Str} (h:textB t=true):1<=t.length/\t.length<=65535:=by
 unfold textB at h;simp only [Bool.and_eq_true,decide_eq_true_eq] at h;omega
def sNe (a b:Str):Bool:=a != b
theorem sNe_fold (a b:Str):(!(a==b))=sNe a b:=rfl
attribute [local irreducible] textB hasC lev lvlOk sNe
section
attribute [local push_cast 2000] sNe_fold
end
end
end Go.Proofs.YtifdpbghkccaoaaDoor
