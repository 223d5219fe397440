/- The document's packets: numbers, texts laid down. -/
import Derived.Test.YtgekknefphagbaaGreatDoorPtfx
import Derived.Test.YtgekknefphagbaaGreatDoorLpx
import Derived.Test.YtgekknefphagbaaGreatDoorEu
import Derived.Test.YtgekknefphagbaaGreatDoorFxx
import Derived.KernelRfl
namespace Go.Proofs.YtgekknefphagbaaGreatDoor
open Go.RowKit
set_option linter.unusedSimpArgs false
set_option linter.unusedVariables false
set_option linter.unusedSectionVars false
set_option maxHeartbeats 4000000
set_option maxRecDepth 100000
section
structure Pk where
 kind:Int
 dup:Bool
 retain:Bool
 qos:Int
 id:Int
 topic:YS
 payload:YS
 level:Int
 client:YS
 clean:Bool
 keep:Int
 hasWill:Bool
 wtopic:YS
 wpay:YS
 wqos:Int
 wretain:Bool
 hasUser:Bool
 hasPass:Bool
 user:YS
 pass:YS
 present:Bool
 code:Int
 subs:List (YS×Int)
 codes:List Int
 deriving Inhabited
def encU (x:YS×Int):V:=.agg [.str x.1, .int .i64 x.2]
structure PkB (p:Pk):Prop where
 topic:p.topic.length<=100
 payload:p.payload.length<=100
 client:p.client.length<=100
 wtopic:p.wtopic.length<=100
 wpay:p.wpay.length<=100
 user:p.user.length<=100
 pass:p.pass.length<=100
 subs:p.subs.length<=3
 flt:∀ k,(p.subs.getD k default).1.length<=100
 codes:p.codes.length<=3
def zb0 (z:Int):UInt8:=UInt8.ofNat (IntKind.u8.wrap z).toNat
theorem zdy (z:Int):V.int .u8 (IntKind.u8.wrap z)=u8 (zb0 z):=by
 have h:0<=IntKind.u8.wrap z/\IntKind.u8.wrap z<=255:=by simp [IntKind.wrap,IntKind.bits,IntKind.signed];omega
 unfold u8 zb0
 congr 1
 have:(UInt8.ofNat (IntKind.u8.wrap z).toNat).toNat=(IntKind.u8.wrap z).toNat:=by simp [UInt8.toNat_ofNat];omega
 rw [this];omega
theorem zaS:∀ l:YS,cells (l.map u8)=l.map u8
 | []=>rfl
 | a::l=>by
  have:=zaS l
  rw [List.map_cons,zaU,this];rfl
attribute [local irreducible] DW SeqD DV DOp DC DVX chkB
section
attribute [local push_cast 2000] zby zbk
end
section
attribute [local push_cast 2000] zaS
end
section
attribute [local push_cast 2000] zaS zaU zaq
end
section
attribute [local push_cast 2000] zaS
end
section
attribute [local push_cast 2000] zaS
end
end
section
def twoM (z:Int):YS:=[zb0 (z.fdiv (2 ^ min 8 IntKind.i64.bits)),zb0 z]
def zc0 (t:YS):YS:=twoM t.length++t
def inM (v a b:Int):Bool:=decide (a<=v/\v<=b)
def zeT (l:YS):Bool:=decide (l.length<=65535)&&chkB l
theorem zij {α:Type} [Inhabited α] {l:List α} {k:Nat} (h:k<l.length):l.take (k+1)=l.take k++[l.getD k default]:=by
 rw [List.take_add_one,List.getD_eq_getElem?_getD,List.getElem?_eq_getElem h];rfl
theorem u8_bW {n:Int} (h:0<=n/\n<=255):V.int .u8 n=u8 (zb0 n):=by
 rw [<-zdy]
 have e:IntKind.u8.wrap n=n:=by simp [IntKind.wrap,IntKind.bits,IntKind.signed];omega
 rw [e]
@[simp] theorem zbj (z:Int):(twoM z).length=2:=rfl
@[simp] theorem zbx (t:YS):(zc0 t).length=2+t.length:=by simp [zc0,zbj]
theorem zm4 (l:YS) (z:Int):(l++twoM z).map u8=l.map u8++[V.int .u8 (IntKind.u8.wrap (z.fdiv (2 ^ min 8 IntKind.i64.bits))),V.int .u8 (IntKind.u8.wrap z)]:=by simp [twoM,zdy]
theorem znR (t:YS):(twoM t.length).map u8++t.map u8=(zc0 t).map u8:=by simp [zc0]
attribute [local irreducible] DW SeqD DV DOp DC DVX chkB
section
attribute [local push_cast 2000] zby zbk
end
section
attribute [local push_cast 2000] zaS
end
section
attribute [local push_cast 2000] zaS zaU zaq
end
section
attribute [local push_cast 2000] zaS zbj
end
section
attribute [local push_cast 2000] zaS zbj
end
end
section
structure PkN (p:Pk):Prop where
 topic:p.topic.length<=100000
 payload:p.payload.length<=100000
 client:p.client.length<=100000
 wtopic:p.wtopic.length<=100000
 wpay:p.wpay.length<=100000
 user:p.user.length<=100000
 pass:p.pass.length<=100000
 subs:p.subs.length<=1000
 flt:∀ k,(p.subs.getD k default).1.length<=100000
 codes:p.codes.length<=100000
def subM (c:Int) (x:YS×Int):YS:=zc0 x.1++(if c=8 then [zb0 x.2] else [])
def subsM (c:Int) (l:List (YS×Int)):YS:=l.flatMap (subM c)
def flagM (p:Pk):Int:=(if p.clean=true then 2 else 0)+(if p.hasWill=true then 4 else 0)+8 * p.wqos+(if p.wretain=true then 32 else 0)+(if p.hasPass=true then 64 else 0)+(if p.hasUser=true then 128 else 0)
def zcl (p:Pk):YS :=
 if p.kind=1 then zc0 [77,81,84,84]++[zb0 p.level,zb0 (flagM p)]++twoM p.keep++zc0 p.client++(if p.hasWill=true then zc0 p.wtopic++zc0 p.wpay else [])++(if p.hasUser=true then zc0 p.user else [])++(if p.hasPass=true then zc0 p.pass else [])
 else if p.kind=2 then [zb0 (if p.present=true then 1 else 0),zb0 p.code]
 else if p.kind=3 then zc0 p.topic++(if 0<p.qos then twoM p.id else [])++p.payload
 else if p.kind=12\/p.kind=13\/p.kind=14 then []
 else twoM p.id++subsM p.kind p.subs++p.codes.map zb0
theorem codes_s {l:List Int} {k:Nat} (h:k<l.length):(l.take (k+1)).map zb0=(l.take k).map zb0++[zb0 (l.getD k default)]:=by
 rw [zij h,List.map_append];rfl
theorem zmn {a b:Int} (h:(a - b)%256=0):zb0 a=zb0 b:=by
 have e:IntKind.u8.wrap a=IntKind.u8.wrap b:=by simp [IntKind.wrap,IntKind.bits,IntKind.signed];omega
 unfold zb0;rw [e]
theorem ziu (l:YS) (a:Int):l.map u8++[V.int .u8 (IntKind.u8.wrap a)]=(l++[zb0 a]).map u8:=by rw [zdy];simp
theorem zjc (l:YS) (a c:Int):l.map u8++[V.int .u8 (IntKind.u8.wrap a),V.int .u8 (IntKind.u8.wrap c)]=(l++[zb0 a,zb0 c]).map u8:=by rw [zdy,zdy];simp
abbrev YSw:=List UInt8
attribute [local irreducible] DW SeqD DV DOp DC DVX
section
attribute [local push_cast 2000] zjc ziu zaS zby zbk encU zbj zbx
end
end
end Go.Proofs.YtgekknefphagbaaGreatDoor
