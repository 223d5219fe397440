/- Loops as plain functions: all, the first, those that, folds; tables as data. No statement of the program. -/
import Derived.Test.YtgekknefphagbaaGreatDoorEn
import Derived.KernelRfl
namespace Go.Proofs.YtgekknefphagbaaGreatDoor
open Go.RowKit
set_option linter.unusedSimpArgs false
set_option linter.unusedVariables false
set_option linter.unusedSectionVars false
section
def allK (p:Nat->Bool) (k:Nat):Bool:=(List.range k).all p
def anyK (p:Nat->Bool) (k:Nat):Bool:=(List.range k).any p
section
variable {α:Type} [Inhabited α]
end
abbrev Str:=List UInt8
structure TDot where
 node:Int
 epoch:Int
 n:Int
 deriving DecidableEq,Inhabited
structure TFence where
 node:Int
 epoch:Int
 deriving DecidableEq,Inhabited
structure TRoute where
 dot:TDot
 filter:Str
 deriving DecidableEq,Inhabited
structure TStamp where
 l:Int
 c:Int
 node:Int
 deriving DecidableEq,Inhabited
structure TCell where
 dot:TDot
 stamp:TStamp
 topic:Str
 payload:Str
 qos:Int
 gone:Bool
 deriving DecidableEq,Inhabited
structure TTable where
 seen:List TDot
 fences:List TFence
 routes:List TRoute
 cells:List TCell
 deriving DecidableEq,Inhabited
end
section
set_option maxHeartbeats 4000000
set_option maxRecDepth 100000
attribute [local irreducible] DW SeqD DV DOp DC DVX
def hasAt (t:Str) (c:Int) (i:Nat):Bool:=decide (((t.getD i 0).toNat:Int)=c)
def hasC (t:Str) (c:Int):Bool:=anyK (hasAt t c) t.length
def andU (a m:Int):Int:=IntKind.u8.wrap ((BitVec.ofInt IntKind.u8.bits a &&& BitVec.ofInt IntKind.u8.bits m).toNat:Int)
theorem znF (a m:Int):IntKind.u8.wrap ((BitVec.ofInt IntKind.u8.bits a &&& BitVec.ofInt IntKind.u8.bits m).toNat:Int)=andU a m:=rfl
def shI (r:Int):Int:=IntKind.i32.wrap (r * 2 ^ min 6 IntKind.i32.bits)
def rU (r x:Int):Int:=IntKind.i32.wrap ((BitVec.ofInt IntKind.i32.bits (shI r)|||BitVec.ofInt IntKind.i32.bits x).toNat:Int)
def zdc (l:Str) (r0:Int):Nat->Int
 | 0=>r0
 | j+1=>rU (zdc l r0 j) (IntKind.i32.wrap (andU ((l.getD (j+1) 0).toNat:Int) 63))
def zdR (l:Str) (j:Nat):Bool:=decide (j=0)||andU ((l.getD j 0).toNat:Int) 192==128
def clsM (c:Int):Nat×Int×Int :=
 if 192<=c/\c<224 then (2,128,IntKind.i32.wrap (andU c 31)) else if 224<=c/\c<240 then (3,2048,IntKind.i32.wrap (andU c 15)) else if 240<=c/\c<248 then (4,65536,IntKind.i32.wrap (andU c 7)) else (0,0,0)
def okR (r least:Int):Bool:=!(decide (r<least)||decide (1114111<r)||(decide (55296<=r)&&decide (r<57344)))
def runM (l:Str) (n:Nat) (least r0:Int):Int×Int×Bool :=
 if l.length<n then (0,1,false) else if allK (zdR l) n=true then (if okR (zdc l r0 (n - 1)) least=true then (zdc l r0 (n - 1),(n:Int),true) else (0,1,false)) else (0,1,false)
def za9 (l:Str):Int×Int×Bool :=
 if ((l.getD 0 0).toNat:Int)<128 then (((l.getD 0 0).toNat:Int),1,true)
 else if (clsM ((l.getD 0 0).toNat:Int)).1=0 then (0,1,false) else runM l (clsM ((l.getD 0 0).toNat:Int)).1 (clsM ((l.getD 0 0).toNat:Int)).2.1 (clsM ((l.getD 0 0).toNat:Int)).2.2
theorem runM_ok {l:Str} {n:Nat} {a b:Int} (h:(runM l n a b).2.2=true) (hn:1<=n):1<=(runM l n a b).2.1/\(runM l n a b).2.1<=l.length:=by
 unfold runM at h ⊢
 split at h
 · cases h
 · rename_i h1
   rw [if_neg h1]
   split at h
   · rename_i h2
     rw [if_pos h2]
     split at h
     · rename_i h3;rw [if_pos h3];constructor<;>simp only<;>omega
     · cases h
   · cases h
theorem zpN {l:Str} (hl:l≠[]) (h:(za9 l).2.2=true):1<=(za9 l).2.1/\(za9 l).2.1<=l.length:=by
 have h0:1<=l.length:=List.length_pos_iff.2 hl
 unfold za9 at h ⊢
 split at h
 · rename_i h1;rw [if_pos h1];constructor<;>simp only<;>omega
 · rename_i h1
   rw [if_neg h1]
   split at h
   · cases h
   · rename_i h2
     rw [if_neg h2]
     exact runM_ok h (by omega)
theorem stepM_1 {l:Str} (h:((l.getD 0 0).toNat:Int)<128):za9 l=(((l.getD 0 0).toNat:Int),1,true):=by rw [za9,if_pos h]
theorem znN {l:Str} (h:128<=((l.getD 0 0).toNat:Int)) (h2:((l.getD 0 0).toNat:Int)<192\/248<=((l.getD 0 0).toNat:Int)):za9 l=(0,1,false):=by
 have e:(clsM ((l.getD 0 0).toNat:Int)).1=0:=by unfold clsM;rw [if_neg (by omega),if_neg (by omega),if_neg (by omega)]
 rw [za9,if_neg (by omega),if_pos e]
theorem zhK {l:Str} {n:Nat} {a b:Int} (h:128<=((l.getD 0 0).toNat:Int)) (h2:clsM ((l.getD 0 0).toNat:Int)=(n,a,b)) (h3:n≠0):za9 l=runM l n a b:=by
 rw [za9,if_neg (by omega),h2,if_neg h3]
theorem clsM_2 {c:Int} (h1:192<=c) (h2:c<224):clsM c=(2,128,IntKind.i32.wrap (andU c 31)):=by rw [clsM,if_pos ⟨h1,h2⟩]
theorem clsM_3 {c:Int} (h1:224<=c) (h2:c<240):clsM c=(3,2048,IntKind.i32.wrap (andU c 15)):=by rw [clsM,if_neg (by omega),if_pos ⟨h1,h2⟩]
theorem clsM_4 {c:Int} (h1:240<=c) (h2:c<248):clsM c=(4,65536,IntKind.i32.wrap (andU c 7)):=by rw [clsM,if_neg (by omega),if_neg (by omega),if_pos ⟨h1,h2⟩]
theorem zql {l:Str} {n:Nat} {a b:Int} (h1:n<=l.length) (h2:allK (zdR l) n=true) (h:okR (zdc l b (n - 1)) a=true):runM l n a b=(zdc l b (n - 1),(n:Int),true):=by
 rw [runM,if_neg (by omega),if_pos h2,if_pos h]
theorem zgC (l:Str) (i:Nat):l.getD i default=l.getD i 0:=rfl
theorem u8_b (b:UInt8):0<=(b.toNat:Int)/\(b.toNat:Int)<=255:=by have:=b.toNat_lt;omega
theorem zou (r:Int):IntKind.i32.wrap (r * 2 ^ min 6 IntKind.i32.bits)=shI r:=rfl
theorem rU_fold (r x:Int):IntKind.i32.wrap ((BitVec.ofInt IntKind.i32.bits (shI r)|||BitVec.ofInt IntKind.i32.bits x).toNat:Int)=rU r x:=rfl
section
attribute [local push_cast 2000] u8
end
section
attribute [local push_cast 2000] u8 znF zou rU_fold zgC
end
end
section
set_option maxHeartbeats 4000000
set_option maxRecDepth 100000
attribute [local irreducible] DW SeqD DV DOp DC DVX
def chkF:Nat->Str->Bool
 | 0,_=>true
 | f+1,l=>if l.length=0 then true else (za9 l).2.2&&(za9 l).1 != 0&&chkF f (l.drop (za9 l).2.1.toNat)
def chkB (l:Str):Bool:=chkF l.length l
theorem zqj:∀ f,chkF f []=true
 | 0=>rfl
 | f+1=>by unfold chkF;simp
theorem ziU (f:Nat) {l:Str} (h:l.length≠0):chkF (f+1) l=((za9 l).2.2&&(za9 l).1 != 0&&chkF f (l.drop (za9 l).2.1.toNat)):=by
 conv=>lhs;unfold chkF
 rw [if_neg h]
theorem chk_bad {l:Str} {f k:Nat} (hk:k<l.length) (hf:l.length - k<=f) (h:(za9 (l.drop k)).2.2=false\/(za9 (l.drop k)).1=0):chkF f (l.drop k)=false:=by
 obtain ⟨g,rfl⟩:∃ g,f=g+1:=⟨f - 1,by omega⟩
 rw [ziU g (by rw [List.length_drop];omega)]
 rcases h with h | h<;>rw [h]<;>simp
theorem zqH {l:Str} {f k:Nat} (hk:k<l.length) (hf:l.length - k<=f) (h1:(za9 (l.drop k)).2.2=true) (h2:¬ (za9 (l.drop k)).1=0):∃ m g:Nat,((za9 (l.drop k)).2.1=(m:Int))/\1<=m/\k+m<=l.length/\l.length - (k+m)<=g/\chkF f (l.drop k)=chkF g (l.drop (k+m)):=by
 obtain ⟨g,rfl⟩:∃ g,f=g+1:=⟨f - 1,by omega⟩
 have hne:l.drop k≠[]:=fun e=>by have:=congrArg List.length e;rw [List.length_drop] at this;simp at this;omega
 obtain ⟨a1,a2⟩:=zpN hne h1
 rw [List.length_drop] at a2
 refine ⟨(za9 (l.drop k)).2.1.toNat,g,by omega,by omega,by omega,by omega,?_⟩
 rw [ziU g (by rw [List.length_drop];omega),h1,List.drop_drop]
 have:((za9 (l.drop k)).1 != 0)=true:=by simpa using h2
 rw [this]
 rfl
section
attribute [local push_cast 2000] List.length_drop
end
def zdD (t:Str):Bool:=decide (1<=t.length)&&decide (t.length<=65535)&&chkB t
def zbD (t:Str):Bool:=zdD t && !hasC t 43 && !hasC t 35
end
end Go.Proofs.YtgekknefphagbaaGreatDoor
