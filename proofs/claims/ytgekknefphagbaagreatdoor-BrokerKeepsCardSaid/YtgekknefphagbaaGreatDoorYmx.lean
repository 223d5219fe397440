/- The document's packets: numbers, texts laid down. -/
import Derived.Test.YtgekknefphagbaaGreatDoorPthx
import Derived.Test.YtgekknefphagbaaGreatDoorLpx
import Derived.Test.YtgekknefphagbaaGreatDoorEu
import Derived.Test.YtgekknefphagbaaGreatDoorFxx
import Derived.KernelRfl
namespace Go.Proofs.YtgekknefphagbaaGreatDoor
open Go.RowKit
set_option linter.unusedSimpArgs false
set_option linter.unusedVariables false
set_option linter.unusedSectionVars false
set_option maxHeartbeats 4000000
set_option maxRecDepth 100000
section
structure Pk where
 kind:Int
 dup:Bool
 retain:Bool
 qos:Int
 id:Int
 topic:YS
 payload:YS
 level:Int
 client:YS
 clean:Bool
 keep:Int
 hasWill:Bool
 wtopic:YS
 wpay:YS
 wqos:Int
 wretain:Bool
 hasUser:Bool
 hasPass:Bool
 user:YS
 pass:YS
 present:Bool
 code:Int
 subs:List (YS×Int)
 codes:List Int
 deriving Inhabited
def encU (x:YS×Int):V:=.agg [.str x.1, .int .i64 x.2]
structure PkB (p:Pk):Prop where
 topic:p.topic.length<=100
 payload:p.payload.length<=100
 client:p.client.length<=100
 wtopic:p.wtopic.length<=100
 wpay:p.wpay.length<=100
 user:p.user.length<=100
 pass:p.pass.length<=100
 subs:p.subs.length<=3
 flt:∀ k,(p.subs.getD k default).1.length<=100
 codes:p.codes.length<=3
def byteW (z:Int):UInt8:=UInt8.ofNat (IntKind.u8.wrap z).toNat
theorem u8_byteW (z:Int):V.int .u8 (IntKind.u8.wrap z)=u8 (byteW z):=by
 have h:0<=IntKind.u8.wrap z/\IntKind.u8.wrap z<=255:=by simp [IntKind.wrap,IntKind.bits,IntKind.signed];omega
 unfold u8 byteW
 congr 1
 have:(UInt8.ofNat (IntKind.u8.wrap z).toNat).toNat=(IntKind.u8.wrap z).toNat:=by simp [UInt8.toNat_ofNat];omega
 rw [this];omega
theorem cells_u8Y:∀ l:YS,cells (l.map u8)=l.map u8
 | []=>rfl
 | a::l=>by
  have:=cells_u8Y l
  rw [List.map_cons,cells_cons,this];rfl
attribute [local irreducible] DW SeqD DV DOp DC DVX chkB
section
attribute [local push_cast 2000] bytes_are bytes_back
end
section
attribute [local push_cast 2000] cells_u8Y
end
section
attribute [local push_cast 2000] cells_u8Y cells_cons cells_nil
end
section
attribute [local push_cast 2000] cells_u8Y
end
section
attribute [local push_cast 2000] cells_u8Y
end
end
section
def twoM (z:Int):YS:=[byteW (z.fdiv (2 ^ min 8 IntKind.i64.bits)),byteW z]
def lumpM (t:YS):YS:=twoM t.length++t
def inM (v a b:Int):Bool:=decide (a<=v/\v<=b)
def textM (l:YS):Bool:=decide (l.length<=65535)&&chkB l
theorem take_sG {α:Type} [Inhabited α] {l:List α} {k:Nat} (h:k<l.length):l.take (k+1)=l.take k++[l.getD k default]:=by
 rw [List.take_add_one,List.getD_eq_getElem?_getD,List.getElem?_eq_getElem h];rfl
theorem u8_bW {n:Int} (h:0<=n/\n<=255):V.int .u8 n=u8 (byteW n):=by
 rw [<-u8_byteW]
 have e:IntKind.u8.wrap n=n:=by simp [IntKind.wrap,IntKind.bits,IntKind.signed];omega
 rw [e]
@[simp] theorem twoM_len (z:Int):(twoM z).length=2:=rfl
@[simp] theorem lumpM_len (t:YS):(lumpM t).length=2+t.length:=by simp [lumpM,twoM_len]
theorem two_app (l:YS) (z:Int):(l++twoM z).map u8=l.map u8++[V.int .u8 (IntKind.u8.wrap (z.fdiv (2 ^ min 8 IntKind.i64.bits))),V.int .u8 (IntKind.u8.wrap z)]:=by simp [twoM,u8_byteW]
theorem lumpN_app (t:YS):(twoM t.length).map u8++t.map u8=(lumpM t).map u8:=by simp [lumpM]
attribute [local irreducible] DW SeqD DV DOp DC DVX chkB
section
attribute [local push_cast 2000] bytes_are bytes_back
end
section
attribute [local push_cast 2000] cells_u8Y
end
section
attribute [local push_cast 2000] cells_u8Y cells_cons cells_nil
end
section
attribute [local push_cast 2000] cells_u8Y twoM_len
end
section
attribute [local push_cast 2000] cells_u8Y twoM_len
end
end
section
structure PkN (p:Pk):Prop where
 topic:p.topic.length<=100000
 payload:p.payload.length<=100000
 client:p.client.length<=100000
 wtopic:p.wtopic.length<=100000
 wpay:p.wpay.length<=100000
 user:p.user.length<=100000
 pass:p.pass.length<=100000
 subs:p.subs.length<=1000
 flt:∀ k,(p.subs.getD k default).1.length<=100000
 codes:p.codes.length<=100000
def subM (c:Int) (x:YS×Int):YS:=lumpM x.1++(if c=8 then [byteW x.2] else [])
def subsM (c:Int) (l:List (YS×Int)):YS:=l.flatMap (subM c)
def flagM (p:Pk):Int:=(if p.clean=true then 2 else 0)+(if p.hasWill=true then 4 else 0)+8 * p.wqos+(if p.wretain=true then 32 else 0)+(if p.hasPass=true then 64 else 0)+(if p.hasUser=true then 128 else 0)
def bodyM (p:Pk):YS :=
 if p.kind=1 then lumpM [77,81,84,84]++[byteW p.level,byteW (flagM p)]++twoM p.keep++lumpM p.client++(if p.hasWill=true then lumpM p.wtopic++lumpM p.wpay else [])++(if p.hasUser=true then lumpM p.user else [])++(if p.hasPass=true then lumpM p.pass else [])
 else if p.kind=2 then [byteW (if p.present=true then 1 else 0),byteW p.code]
 else if p.kind=3 then lumpM p.topic++(if 0<p.qos then twoM p.id else [])++p.payload
 else if p.kind=12\/p.kind=13\/p.kind=14 then []
 else twoM p.id++subsM p.kind p.subs++p.codes.map byteW
theorem codes_s {l:List Int} {k:Nat} (h:k<l.length):(l.take (k+1)).map byteW=(l.take k).map byteW++[byteW (l.getD k default)]:=by
 rw [take_sG h,List.map_append];rfl
theorem byteW_mod {a b:Int} (h:(a - b)%256=0):byteW a=byteW b:=by
 have e:IntKind.u8.wrap a=IntKind.u8.wrap b:=by simp [IntKind.wrap,IntKind.bits,IntKind.signed];omega
 unfold byteW;rw [e]
theorem snocX1 (l:YS) (a:Int):l.map u8++[V.int .u8 (IntKind.u8.wrap a)]=(l++[byteW a]).map u8:=by rw [u8_byteW];simp
theorem snocX2 (l:YS) (a c:Int):l.map u8++[V.int .u8 (IntKind.u8.wrap a),V.int .u8 (IntKind.u8.wrap c)]=(l++[byteW a,byteW c]).map u8:=by rw [u8_byteW,u8_byteW];simp
abbrev YSw:=List UInt8
attribute [local irreducible] DW SeqD DV DOp DC DVX
section
attribute [local push_cast 2000] snocX2 snocX1 cells_u8Y bytes_are bytes_back encU twoM_len lumpM_len
end
end
end Go.Proofs.YtgekknefphagbaaGreatDoor
