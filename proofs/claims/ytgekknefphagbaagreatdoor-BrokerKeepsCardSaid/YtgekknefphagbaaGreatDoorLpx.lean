/- Loops as plain functions: all, the first, those that, folds; tables as data. No statement of the program. -/
import Derived.Test.YtgekknefphagbaaGreatDoorEn
import Derived.KernelRfl
import Derived.Test.YtgekknefphagbaaGreatDoorEu
namespace Go.Proofs.YtgekknefphagbaaGreatDoor
open Go.RowKit
set_option linter.unusedSimpArgs false
set_option linter.unusedVariables false
set_option linter.unusedSectionVars false
section
def allK (p:Nat->Bool) (k:Nat):Bool:=(List.range k).all p
def anyK (p:Nat->Bool) (k:Nat):Bool:=(List.range k).any p
section
variable {α:Type} [Inhabited α]
end
abbrev Str:=List UInt8
structure TDot where
 node:Int
 epoch:Int
 n:Int
 deriving DecidableEq,Inhabited
structure TFence where
 node:Int
 epoch:Int
 deriving DecidableEq,Inhabited
structure TRoute where
 dot:TDot
 filter:Str
 deriving DecidableEq,Inhabited
structure TStamp where
 l:Int
 c:Int
 node:Int
 deriving DecidableEq,Inhabited
structure TCell where
 dot:TDot
 stamp:TStamp
 topic:Str
 payload:Str
 qos:Int
 gone:Bool
 deriving DecidableEq,Inhabited
structure TTable where
 seen:List TDot
 fences:List TFence
 routes:List TRoute
 cells:List TCell
 deriving DecidableEq,Inhabited
end
section
set_option maxHeartbeats 4000000
set_option maxRecDepth 100000
attribute [local irreducible] DW SeqD DV DOp DC DVX
def hasAt (t:Str) (c:Int) (i:Nat):Bool:=decide (((t.getD i 0).toNat:Int)=c)
def hasC (t:Str) (c:Int):Bool:=anyK (hasAt t c) t.length
def andU (a m:Int):Int:=IntKind.u8.wrap ((BitVec.ofInt IntKind.u8.bits a &&& BitVec.ofInt IntKind.u8.bits m).toNat:Int)
theorem andU_fold (a m:Int):IntKind.u8.wrap ((BitVec.ofInt IntKind.u8.bits a &&& BitVec.ofInt IntKind.u8.bits m).toNat:Int)=andU a m:=rfl
def shI (r:Int):Int:=IntKind.i32.wrap (r * 2 ^ min 6 IntKind.i32.bits)
def rU (r x:Int):Int:=IntKind.i32.wrap ((BitVec.ofInt IntKind.i32.bits (shI r)|||BitVec.ofInt IntKind.i32.bits x).toNat:Int)
def loopR (l:Str) (r0:Int):Nat->Int
 | 0=>r0
 | j+1=>rU (loopR l r0 j) (IntKind.i32.wrap (andU ((l.getD (j+1) 0).toNat:Int) 63))
def contAt (l:Str) (j:Nat):Bool:=decide (j=0)||andU ((l.getD j 0).toNat:Int) 192==128
def clsM (c:Int):Nat×Int×Int :=
 if 192<=c/\c<224 then (2,128,IntKind.i32.wrap (andU c 31)) else if 224<=c/\c<240 then (3,2048,IntKind.i32.wrap (andU c 15)) else if 240<=c/\c<248 then (4,65536,IntKind.i32.wrap (andU c 7)) else (0,0,0)
def okR (r least:Int):Bool:=!(decide (r<least)||decide (1114111<r)||(decide (55296<=r)&&decide (r<57344)))
def runM (l:Str) (n:Nat) (least r0:Int):Int×Int×Bool :=
 if l.length<n then (0,1,false) else if allK (contAt l) n=true then (if okR (loopR l r0 (n - 1)) least=true then (loopR l r0 (n - 1),(n:Int),true) else (0,1,false)) else (0,1,false)
def stepM (l:Str):Int×Int×Bool :=
 if ((l.getD 0 0).toNat:Int)<128 then (((l.getD 0 0).toNat:Int),1,true)
 else if (clsM ((l.getD 0 0).toNat:Int)).1=0 then (0,1,false) else runM l (clsM ((l.getD 0 0).toNat:Int)).1 (clsM ((l.getD 0 0).toNat:Int)).2.1 (clsM ((l.getD 0 0).toNat:Int)).2.2
theorem runM_ok {l:Str} {n:Nat} {a b:Int} (h:(runM l n a b).2.2=true) (hn:1<=n):1<=(runM l n a b).2.1/\(runM l n a b).2.1<=l.length:=by
 unfold runM at h ⊢
 split at h
 · cases h
 · rename_i h1
   rw [if_neg h1]
   split at h
   · rename_i h2
     rw [if_pos h2]
     split at h
     · rename_i h3;rw [if_pos h3];constructor<;>simp only<;>omega
     · cases h
   · cases h
theorem stepM_ok {l:Str} (hl:l≠[]) (h:(stepM l).2.2=true):1<=(stepM l).2.1/\(stepM l).2.1<=l.length:=by
 have h0:1<=l.length:=List.length_pos_iff.2 hl
 unfold stepM at h ⊢
 split at h
 · rename_i h1;rw [if_pos h1];constructor<;>simp only<;>omega
 · rename_i h1
   rw [if_neg h1]
   split at h
   · cases h
   · rename_i h2
     rw [if_neg h2]
     exact runM_ok h (by omega)
theorem stepM_1 {l:Str} (h:((l.getD 0 0).toNat:Int)<128):stepM l=(((l.getD 0 0).toNat:Int),1,true):=by rw [stepM,if_pos h]
theorem stepM_0 {l:Str} (h:128<=((l.getD 0 0).toNat:Int)) (h2:((l.getD 0 0).toNat:Int)<192\/248<=((l.getD 0 0).toNat:Int)):stepM l=(0,1,false):=by
 have e:(clsM ((l.getD 0 0).toNat:Int)).1=0:=by unfold clsM;rw [if_neg (by omega),if_neg (by omega),if_neg (by omega)]
 rw [stepM,if_neg (by omega),if_pos e]
theorem stepM_n {l:Str} {n:Nat} {a b:Int} (h:128<=((l.getD 0 0).toNat:Int)) (h2:clsM ((l.getD 0 0).toNat:Int)=(n,a,b)) (h3:n≠0):stepM l=runM l n a b:=by
 rw [stepM,if_neg (by omega),h2,if_neg h3]
theorem clsM_2 {c:Int} (h1:192<=c) (h2:c<224):clsM c=(2,128,IntKind.i32.wrap (andU c 31)):=by rw [clsM,if_pos ⟨h1,h2⟩]
theorem clsM_3 {c:Int} (h1:224<=c) (h2:c<240):clsM c=(3,2048,IntKind.i32.wrap (andU c 15)):=by rw [clsM,if_neg (by omega),if_pos ⟨h1,h2⟩]
theorem clsM_4 {c:Int} (h1:240<=c) (h2:c<248):clsM c=(4,65536,IntKind.i32.wrap (andU c 7)):=by rw [clsM,if_neg (by omega),if_neg (by omega),if_pos ⟨h1,h2⟩]
theorem runM_yes {l:Str} {n:Nat} {a b:Int} (h1:n<=l.length) (h2:allK (contAt l) n=true) (h:okR (loopR l b (n - 1)) a=true):runM l n a b=(loopR l b (n - 1),(n:Int),true):=by
 rw [runM,if_neg (by omega),if_pos h2,if_pos h]
theorem getD0 (l:Str) (i:Nat):l.getD i default=l.getD i 0:=rfl
theorem u8_b (b:UInt8):0<=(b.toNat:Int)/\(b.toNat:Int)<=255:=by have:=b.toNat_lt;omega
theorem shI_fold (r:Int):IntKind.i32.wrap (r * 2 ^ min 6 IntKind.i32.bits)=shI r:=rfl
theorem rU_fold (r x:Int):IntKind.i32.wrap ((BitVec.ofInt IntKind.i32.bits (shI r)|||BitVec.ofInt IntKind.i32.bits x).toNat:Int)=rU r x:=rfl
section
attribute [local push_cast 2000] u8
end
section
attribute [local push_cast 2000] u8 andU_fold shI_fold rU_fold getD0
end
end
section
set_option maxHeartbeats 4000000
set_option maxRecDepth 100000
attribute [local irreducible] DW SeqD DV DOp DC DVX
def chkF:Nat->Str->Bool
 | 0,_=>true
 | f+1,l=>if l.length=0 then true else (stepM l).2.2&&(stepM l).1 != 0&&chkF f (l.drop (stepM l).2.1.toNat)
def chkB (l:Str):Bool:=chkF l.length l
theorem chkF_nil:∀ f,chkF f []=true
 | 0=>rfl
 | f+1=>by unfold chkF;simp
theorem chkF_more (f:Nat) {l:Str} (h:l.length≠0):chkF (f+1) l=((stepM l).2.2&&(stepM l).1 != 0&&chkF f (l.drop (stepM l).2.1.toNat)):=by
 conv=>lhs;unfold chkF
 rw [if_neg h]
theorem chk_bad {l:Str} {f k:Nat} (hk:k<l.length) (hf:l.length - k<=f) (h:(stepM (l.drop k)).2.2=false\/(stepM (l.drop k)).1=0):chkF f (l.drop k)=false:=by
 obtain ⟨g,rfl⟩:∃ g,f=g+1:=⟨f - 1,by omega⟩
 rw [chkF_more g (by rw [List.length_drop];omega)]
 rcases h with h | h<;>rw [h]<;>simp
theorem chk_go {l:Str} {f k:Nat} (hk:k<l.length) (hf:l.length - k<=f) (h1:(stepM (l.drop k)).2.2=true) (h2:¬ (stepM (l.drop k)).1=0):∃ m g:Nat,((stepM (l.drop k)).2.1=(m:Int))/\1<=m/\k+m<=l.length/\l.length - (k+m)<=g/\chkF f (l.drop k)=chkF g (l.drop (k+m)):=by
 obtain ⟨g,rfl⟩:∃ g,f=g+1:=⟨f - 1,by omega⟩
 have hne:l.drop k≠[]:=fun e=>by have:=congrArg List.length e;rw [List.length_drop] at this;simp at this;omega
 obtain ⟨a1,a2⟩:=stepM_ok hne h1
 rw [List.length_drop] at a2
 refine ⟨(stepM (l.drop k)).2.1.toNat,g,by omega,by omega,by omega,by omega,?_⟩
 rw [chkF_more g (by rw [List.length_drop];omega),h1,List.drop_drop]
 have:((stepM (l.drop k)).1 != 0)=true:=by simpa using h2
 rw [this]
 rfl
section
attribute [local push_cast 2000] List.length_drop
end
def textB (t:Str):Bool:=decide (1<=t.length)&&decide (t.length<=65535)&&chkB t
def nameB (t:Str):Bool:=textB t && !hasC t 43 && !hasC t 35
end
section
set_option maxHeartbeats 4000000
set_option maxRecDepth 100000
attribute [local irreducible] DW SeqD DV DOp DC DVX
def levStep (acc:List Str) (c:UInt8):List Str:=if (c.toNat:Int)=47 then acc++[[]] else acc.set (acc.length - 1) (acc.getD (acc.length - 1) []++[c])
def lev (t:Str) (k:Nat):List Str:=(t.take k).foldl levStep [[]]
theorem lev_0 (t:Str):lev t 0=[[]]:=rfl
theorem take_more0 (l:Str) (k:Nat) (h:k<l.length):l.take (k+1)=l.take k++[l.getD k 0]:=by rw [List.take_add_one];simp [List.getD_eq_getElem?_getD,h]
theorem lev_more {t:Str} {k:Nat} (h:k<t.length):lev t (k+1)=levStep (lev t k) (t.getD k 0):=by rw [lev,take_more0 t k h,List.foldl_append];rfl
theorem levStep_len (acc:List Str) (c:UInt8):acc.length<=(levStep acc c).length/\(levStep acc c).length<=acc.length+1:=by
 unfold levStep;split<;>simp
theorem lev_bound {t:Str} {k:Nat} (h:k<=t.length):∀ j,((lev t k).getD j []).length<=k:=by
 induction k with
 | zero=>intro j;rw [lev_0];cases j<;>simp
 | succ k ih =>
  intro j
  rw [lev_more (by omega),levStep]
  have h1:=ih (by omega)
  split
  · by_cases hj:j<(lev t k).length
    · have:=h1 j
      rw [List.getD_eq_getElem?_getD,List.getElem?_append_left hj,<-List.getD_eq_getElem?_getD];omega
    · rw [List.getD_eq_getElem?_getD,List.getElem?_append_right (by omega)]
      cases hq:j - (lev t k).length<;>simp
  · by_cases hj:j=(lev t k).length - 1
    · subst hj
      have:=h1 ((lev t k).length - 1)
      by_cases hl:(lev t k).length - 1<(lev t k).length
      · simp only [List.getD_eq_getElem?_getD,List.getElem?_set_self hl,Option.getD_some,List.length_append,List.length_singleton] at this ⊢;omega
      · rw [List.getD_eq_getElem?_getD,List.getElem?_eq_none (by simp;omega)];simp
    · have:=h1 j
      simp only [List.getD_eq_getElem?_getD,List.getElem?_set_ne (Ne.symm hj)] at this ⊢;omega
theorem lev_len {t:Str} {k:Nat} (h:k<=t.length):1<=(lev t k).length/\(lev t k).length<=k+1:=by
 induction k with
 | zero=>simp [lev_0]
 | succ k ih=>rw [lev_more (by omega)];have:=levStep_len (lev t k) (t.getD k 0);have:=ih (by omega);omega
theorem lay_app6 (a b d:List V) (m:Nat):layV (a++b) (a.length+m) d=a++layV b m d:=by
 unfold layV
 rw [List.take_append,List.take_of_length_le (by omega),List.drop_append,List.drop_of_length_le (by omega),List.nil_append,Nat.add_sub_cancel_left,show a.length+m+d.length - a.length=m+d.length from by omega]
 simp [List.append_assoc]
def strs (l:List Str):List V:=l.map .str
theorem strs_one:strs [[]]=[V.str []]:=rfl
theorem strs_set (l:List Str) (k:Nat) (s:Str) (h:k<l.length):layV (strs l) k [.str s]=strs (l.set k s):=by
 unfold strs
 induction l generalizing k with
 | nil=>cases h
 | cons a l ih =>
  cases k with
  | zero=>rfl
  | succ k =>
   have:=ih k (by simpa using h)
   rw [List.set_cons_succ,List.map_cons,List.map_cons,<-this]
   show layV ([V.str a]++_) (k+1) _=_
   rw [show k+1=([V.str a]:List V).length+k from by simp;omega,lay_app6];rfl
theorem levStep_1 {acc:List Str} {c:UInt8} (h:(c.toNat:Int)=47):levStep acc c=acc++[[]]:=by rw [levStep,if_pos h]
theorem levStep_2 {acc:List Str} {c:UInt8} (h:¬ (c.toNat:Int)=47):levStep acc c=acc.set (acc.length - 1) (acc.getD (acc.length - 1) []++[c]):=by rw [levStep,if_neg h]
section
attribute [local push_cast 2000] u8 strs_set lev_0 strs_one
end
def lvlOk (L:List Str) (i:Nat):Bool:=!(hasC (L.getD i []) 43&&L.getD i [] != [43]||hasC (L.getD i []) 35&&(L.getD i [] != [35]||decide (i+1<L.length)))
def filterB (t:Str):Bool:=textB t&&allK (lvlOk (lev t t.length)) (lev t t.length).length
theorem textB_len {t:Str} (h:textB t=true):1<=t.length/\t.length<=65535:=by
 unfold textB at h;simp only [Bool.and_eq_true,decide_eq_true_eq] at h;omega
def sNe (a b:Str):Bool:=a != b
theorem sNe_fold (a b:Str):(!(a==b))=sNe a b:=rfl
attribute [local irreducible] textB hasC lev lvlOk sNe
section
attribute [local push_cast 2000] sNe_fold
end
end
end Go.Proofs.YtgekknefphagbaaGreatDoor
