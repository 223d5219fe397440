/- The document's packets, exactly: numbers, texts laid down. -/
import Derived.Test.YtgekknefphagbaaGreatDoorNsx
import Derived.KernelRfl
namespace Go.Proofs.YtgekknefphagbaaGreatDoor
open Go.RowKit
set_option linter.unusedSimpArgs false
set_option linter.unusedVariables false
set_option linter.unusedSectionVars false
set_option maxHeartbeats 4000000
set_option maxRecDepth 100000
section
def twoM (z:Int):YS:=[zbw (z.fdiv (2 ^ min 8 IntKind.i64.bits)),zbw z]
def zcw (t:YS):YS:=twoM t.length++t
def inM (v a b:Int):Bool:=decide (a<=v/\v<=b)
def zeE (l:YS):Bool:=decide (l.length<=65535)&&chkB l
theorem zhK {α:Type} [Inhabited α] {l:List α} {k:Nat} (h:k<l.length):l.take (k+1)=l.take k++[l.getD k default]:=by
 rw [List.take_add_one,List.getD_eq_getElem?_getD,List.getElem?_eq_getElem h];rfl
theorem u8_bW {n:Int} (h:0<=n/\n<=255):V.int .u8 n=u8 (zbw n):=by
 rw [<-zdz]
 have e:IntKind.u8.wrap n=n:=by simp [IntKind.wrap,IntKind.bits,IntKind.signed];omega
 rw [e]
@[simp] theorem zaZ (z:Int):(twoM z).length=2:=rfl
@[simp] theorem zbz (t:YS):(zcw t).length=2+t.length:=by simp [zcw,zaZ]
theorem zmj (l:YS) (z:Int):(l++twoM z).map u8=l.map u8++[V.int .u8 (IntKind.u8.wrap (z.fdiv (2 ^ min 8 IntKind.i64.bits))),V.int .u8 (IntKind.u8.wrap z)]:=by simp [twoM,zdz]
theorem zoc (t:YS):(twoM t.length).map u8++t.map u8=(zcw t).map u8:=by simp [zcw]
attribute [local irreducible] DW SeqD DV DOp DC DVX chkB
section
attribute [local push_cast 2000] zby zba
end
section
attribute [local push_cast 2000] zaE
end
section
attribute [local push_cast 2000] zaE zaF zaq
end
section
attribute [local push_cast 2000] zaE zaZ
end
section
attribute [local push_cast 2000] zaE zaZ
end
end
section
structure PkN (p:Pk):Prop where
 topic:p.topic.length<=100000
 payload:p.payload.length<=100000
 client:p.client.length<=100000
 wtopic:p.wtopic.length<=100000
 wpay:p.wpay.length<=100000
 user:p.user.length<=100000
 pass:p.pass.length<=100000
 subs:p.subs.length<=1000
 flt:∀ k,(p.subs.getD k default).1.length<=100000
 codes:p.codes.length<=100000
def subM (c:Int) (x:YS×Int):YS:=zcw x.1++(if c=8 then [zbw x.2] else [])
def subsM (c:Int) (l:List (YS×Int)):YS:=l.flatMap (subM c)
def flagM (p:Pk):Int:=(if p.clean=true then 2 else 0)+(if p.hasWill=true then 4 else 0)+8 * p.wqos+(if p.wretain=true then 32 else 0)+(if p.hasPass=true then 64 else 0)+(if p.hasUser=true then 128 else 0)
def zcl (p:Pk):YS :=
 if p.kind=1 then zcw [77,81,84,84]++[zbw p.level,zbw (flagM p)]++twoM p.keep++zcw p.client++(if p.hasWill=true then zcw p.wtopic++zcw p.wpay else [])++(if p.hasUser=true then zcw p.user else [])++(if p.hasPass=true then zcw p.pass else [])
 else if p.kind=2 then [zbw (if p.present=true then 1 else 0),zbw p.code]
 else if p.kind=3 then zcw p.topic++(if 0<p.qos then twoM p.id else [])++p.payload
 else if p.kind=12\/p.kind=13\/p.kind=14 then []
 else twoM p.id++subsM p.kind p.subs++p.codes.map zbw
theorem codes_s {l:List Int} {k:Nat} (h:k<l.length):(l.take (k+1)).map zbw=(l.take k).map zbw++[zbw (l.getD k default)]:=by
 rw [zhK h,List.map_append];rfl
theorem znC {a b:Int} (h:(a - b)%256=0):zbw a=zbw b:=by
 have e:IntKind.u8.wrap a=IntKind.u8.wrap b:=by simp [IntKind.wrap,IntKind.bits,IntKind.signed];omega
 unfold zbw;rw [e]
theorem zja (l:YS) (a:Int):l.map u8++[V.int .u8 (IntKind.u8.wrap a)]=(l++[zbw a]).map u8:=by rw [zdz];simp
theorem zip (l:YS) (a c:Int):l.map u8++[V.int .u8 (IntKind.u8.wrap a),V.int .u8 (IntKind.u8.wrap c)]=(l++[zbw a,zbw c]).map u8:=by rw [zdz,zdz];simp
abbrev YSw:=List UInt8
attribute [local irreducible] DW SeqD DV DOp DC DVX
section
attribute [local push_cast 2000] zip zja zaE zby zba encU zaZ zbz
end
end
end Go.Proofs.YtgekknefphagbaaGreatDoor
