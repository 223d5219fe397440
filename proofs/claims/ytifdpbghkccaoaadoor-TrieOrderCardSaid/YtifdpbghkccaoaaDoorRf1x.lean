/- Which bytes are texts. -/
import Derived.Test.YtifdpbghkccaoaaDoorSsx
import Derived.KernelRfl
namespace Go.Proofs.YtifdpbghkccaoaaDoor
open Go.RowKit
set_option linter.unusedSimpArgs false
set_option linter.unusedVariables false
set_option linter.unusedSectionVars false
set_option maxHeartbeats 4000000
set_option maxRecDepth 100000
section
attribute [local irreducible] DW SeqD DV DOp DC DVX
def hasAt (t:Str) (c:Int) (i:Nat):Bool:=decide (((t.getD i 0).toNat:Int)=c)
def hasC (t:Str) (c:Int):Bool:=anyK (hasAt t c) t.length
def andU (a m:Int):Int:=IntKind.u8.wrap ((BitVec.ofInt IntKind.u8.bits a &&& BitVec.ofInt IntKind.u8.bits m).toNat:Int)
theorem andU_fold (a m:Int):IntKind.u8.wrap ((BitVec.ofInt IntKind.u8.bits a &&& BitVec.ofInt IntKind.u8.bits m).toNat:Int)=andU a m:=rfl
def shI (r:Int):Int:=IntKind.i32.wrap (r * 2 ^ min 6 IntKind.i32.bits)
def rU (r x:Int):Int:=IntKind.i32.wrap ((BitVec.ofInt IntKind.i32.bits (shI r)|||BitVec.ofInt IntKind.i32.bits x).toNat:Int)
def loopR (l:Str) (r0:Int):Nat->Int
 | 0=>r0
 | j+1=>rU (loopR l r0 j) (IntKind.i32.wrap (andU ((l.getD (j+1) 0).toNat:Int) 63))
def contAt (l:Str) (j:Nat):Bool:=decide (j=0)||andU ((l.getD j 0).toNat:Int) 192==128
def clsM (c:Int):Nat×Int×Int :=
 if 192<=c/\c<224 then (2,128,IntKind.i32.wrap (andU c 31)) else if 224<=c/\c<240 then (3,2048,IntKind.i32.wrap (andU c 15)) else if 240<=c/\c<248 then (4,65536,IntKind.i32.wrap (andU c 7)) else (0,0,0)
def okR (r least:Int):Bool:=!(decide (r<least)||decide (1114111<r)||(decide (55296<=r)&&decide (r<57344)))
def runM (l:Str) (n:Nat) (least r0:Int):Int×Int×Bool :=
 if l.length<n then (0,1,false) else if allK (contAt l) n=true then (if okR (loopR l r0 (n - 1)) least=true then (loopR l r0 (n - 1),(n:Int),true) else (0,1,false)) else (0,1,false)
def stepM (l:Str):Int×Int×Bool :=
 if ((l.getD 0 0).toNat:Int)<128 then (((l.getD 0 0).toNat:Int),1,true)
 else if (clsM ((l.getD 0 0).toNat:Int)).1=0 then (0,1,false) else runM l (clsM ((l.getD 0 0).toNat:Int)).1 (clsM ((l.getD 0 0).toNat:Int)).2.1 (clsM ((l.getD 0 0).toNat:Int)).2.2
theorem runM_ok {l:Str} {n:Nat} {a b:Int} (h:(runM l n a b).2.2=true) (hn:1<=n):1<=(runM l n a b).2.1/\(runM l n a b).2.1<=l.length:=by
 unfold runM at h ⊢
 split at h
 · cases h
 · rename_i h1
   rw [if_neg h1]
   split at h
   · rename_i h2
     rw [if_pos h2]
     split at h
     · rename_i h3;rw [if_pos h3];constructor<;>simp only<;>omega
     · cases h
   · cases h
theorem stepM_ok {l:Str} (hl:l≠[]) (h:(stepM l).2.2=true):1<=(stepM l).2.1/\(stepM l).2.1<=l.length:=by
 have h0:1<=l.length:=List.length_pos_iff.2 hl
 unfold stepM at h ⊢
 split at h
 · rename_i h1;rw [if_pos h1];constructor<;>simp only<;>omega
 · rename_i h1
   rw [if_neg h1]
   split at h
   · cases h
   · rename_i h2
     rw [if_neg h2]
     exact runM_ok h (by omega)
theorem stepM_1 {l:Str} (h:((l.getD 0 0).toNat:Int)<128):stepM l=(((l.getD 0 0).toNat:Int),1,true):=by rw [stepM,if_pos h]
theorem stepM_0 {l:Str} (h:128<=((l.getD 0 0).toNat:Int)) (h2:((l.getD 0 0).toNat:Int)<192\/248<=((l.getD 0 0).toNat:Int)):stepM l=(0,1,false):=by
 have e:(clsM ((l.getD 0 0).toNat:Int)).1=0:=by unfold clsM;rw [if_neg (by omega),if_neg (by omega),if_neg (by omega)]
 rw [stepM,if_neg (by omega),if_pos e]
theorem stepM_n {l:Str} {n:Nat} {a b:Int} (h:128<=((l.getD 0 0).toNat:Int)) (h2:clsM ((l.getD 0 0).toNat:Int)=(n,a,b)) (h3:n≠0):stepM l=runM l n a b:=by
 rw [stepM,if_neg (by omega),h2,if_neg h3]
theorem clsM_2 {c:Int} (h1:192<=c) (h2:c<224):clsM c=(2,128,IntKind.i32.wrap (andU c 31)):=by rw [clsM,if_pos ⟨h1,h2⟩]
theorem clsM_3 {c:Int} (h1:224<=c) (h2:c<240):clsM c=(3,2048,IntKind.i32.wrap (andU c 15)):=by rw [clsM,if_neg (by omega),if_pos ⟨h1,h2⟩]
theorem clsM_4 {c:Int} (h1:240<=c) (h2:c<248):clsM c=(4,65536,IntKind.i32.wrap (andU c 7)):=by rw [clsM,if_neg (by omega),if_neg (by omega),if_pos ⟨h1,h2⟩]
theorem runM_yes {l:Str} {n:Nat} {a b:Int} (h1:n<=l.length) (h2:allK (contAt l) n=true) (h:okR (loopR l b (n - 1)) a=true):runM l n a b=(loopR l b (n - 1),(n:Int),true):=by
 rw [runM,if_neg (by omega),if_pos h2,if_pos h]
theorem getD0 (l:Str) (i:Nat):l.getD i default=l.getD i 0:=rfl
theorem u8_b (b:UInt8):0<=(b.toNat:Int)/\(b.toNat:Int)<=255:=by have:=b.toNat_lt;omega
theorem shI_fold (r:Int):IntKind.i32.wrap (r * 2 ^ min 6 IntKind.i32.bits)=shI r:=rfl
theorem rU_fold (r x:Int):IntKind.i32.wrap ((BitVec.ofInt IntKind.i32.bits (shI r)|||BitVec.ofInt IntKind.i32.bits x).toNat:Int)=rU r x:=rfl
section
attribute [local push_cast 2000] u8
end
section
attribute [local push_cast 2000] u8 andU_fold shI_fold rU_fold getD0
end
end
end Go.Proofs.YtifdpbghkccaoaaDoor
