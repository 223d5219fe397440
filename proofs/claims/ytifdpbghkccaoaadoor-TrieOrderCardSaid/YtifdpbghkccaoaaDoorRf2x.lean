/- Which bytes are texts: from rune to rune. -/
import Derived.Test.YtifdpbghkccaoaaDoorRf1x
import Derived.KernelRfl
namespace Go.Proofs.YtifdpbghkccaoaaDoor
open Go.RowKit
set_option linter.unusedSimpArgs false
set_option linter.unusedVariables false
set_option linter.unusedSectionVars false
set_option maxHeartbeats 4000000
set_option maxRecDepth 100000
section
attribute [local irreducible] DW SeqD DV DOp DC DVX
def chkF:Nat->Str->Bool
 | 0,_=>true
 | f+1,l=>if l.length=0 then true else (stepM l).2.2&&(stepM l).1 != 0&&chkF f (l.drop (stepM l).2.1.toNat)
def chkB (l:Str):Bool:=chkF l.length l
theorem chkF_nil:∀ f,chkF f []=true
 | 0=>rfl
 | f+1=>by unfold chkF;simp
theorem chkF_more (f:Nat) {l:Str} (h:l.length≠0):chkF (f+1) l=((stepM l).2.2&&(stepM l).1 != 0&&chkF f (l.drop (stepM l).2.1.toNat)):=by
 conv=>lhs;unfold chkF
 rw [if_neg h]
theorem chk_bad {l:Str} {f k:Nat} (hk:k<l.length) (hf:l.length - k<=f) (h:(stepM (l.drop k)).2.2=false\/(stepM (l.drop k)).1=0):chkF f (l.drop k)=false:=by
 obtain ⟨g,rfl⟩:∃ g,f=g+1:=⟨f - 1,by omega⟩
 rw [chkF_more g (by rw [List.length_drop];omega)]
 rcases h with h | h<;>rw [h]<;>simp
theorem chk_go {l:Str} {f k:Nat} (hk:k<l.length) (hf:l.length - k<=f) (h1:(stepM (l.drop k)).2.2=true) (h2:¬ (stepM (l.drop k)).1=0):∃ m g:Nat,((stepM (l.drop k)).2.1=(m:Int))/\1<=m/\k+m<=l.length/\l.length - (k+m)<=g/\chkF f (l.drop k)=chkF g (l.drop (k+m)):=by
 obtain ⟨g,rfl⟩:∃ g,f=g+1:=⟨f - 1,by omega⟩
 have hne:l.drop k≠[]:=fun e=>by have:=congrArg List.length e;rw [List.length_drop] at this;simp at this;omega
 obtain ⟨a1,a2⟩:=stepM_ok hne h1
 rw [List.length_drop] at a2
 refine ⟨(stepM (l.drop k)).2.1.toNat,g,by omega,by omega,by omega,by omega,?_⟩
 rw [chkF_more g (by rw [List.length_drop];omega),h1,List.drop_drop]
 have:((stepM (l.drop k)).1 != 0)=true:=by simpa using h2
 rw [this]
 rfl
section
attribute [local push_cast 2000] List.length_drop
end
def textB (t:Str):Bool:=decide (1<=t.length)&&decide (t.length<=65535)&&chkB t
def nameB (t:Str):Bool:=textB t && !hasC t 43 && !hasC t 35
end
end Go.Proofs.YtifdpbghkccaoaaDoor
