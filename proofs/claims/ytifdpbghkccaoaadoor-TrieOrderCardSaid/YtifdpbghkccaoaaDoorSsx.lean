/- Loops as plain functions: all, the first, those that, folds; tables as data. No statement of the program. -/
import Derived.Test.YtifdpbghkccaoaaDoorEn
import Derived.Shelf.Strings.Split
import Derived.Test.YtifdpbghkccaoaaDoorProg
import Derived.Shelf.Strings.BuilderK
import Derived.Shelf.Strings.OnBuilder
import Derived.Shelf.Strconv.Itoa4
namespace Go.Proofs.YtifdpbghkccaoaaDoor
open Go.RowKit
set_option linter.unusedSimpArgs false
set_option linter.unusedVariables false
set_option linter.unusedSectionVars false
section
def allK (p:Nat->Bool) (k:Nat):Bool:=(List.range k).all p
def anyK (p:Nat->Bool) (k:Nat):Bool:=(List.range k).any p
section
variable {α:Type} [Inhabited α]
end
abbrev Str:=List UInt8
structure TDot where
 node:Int
 epoch:Int
 n:Int
 deriving DecidableEq,Inhabited
structure TFence where
 node:Int
 epoch:Int
 deriving DecidableEq,Inhabited
structure TRoute where
 dot:TDot
 filter:Str
 deriving DecidableEq,Inhabited
structure TStamp where
 l:Int
 c:Int
 node:Int
 deriving DecidableEq,Inhabited
structure TCell where
 dot:TDot
 stamp:TStamp
 topic:Str
 payload:Str
 qos:Int
 gone:Bool
 deriving DecidableEq,Inhabited
structure TTable where
 seen:List TDot
 fences:List TFence
 routes:List TRoute
 cells:List TCell
 deriving DecidableEq,Inhabited
end
section
open Go.Shelf Go.RowKit
def laySplit_ren:Go.Shelf.Ren:=⟨fun | 146=>42 | 221=>58 | 268=>77 | 138=>78 | 143=>79 | 195=>90 | 197=>91 | 218=>92 | 219=>93 | 260=>97 | 217=>98 | 225=>99 | 224=>100 | 267=>101 | 266=>102 | 314=>103 | n=>n,fun | 9=>9 | 31=>38 | 3=>3 | 4=>4 | 0=>0 | 105=>108 | 21=>21 | 5=>5 | 46=>81 | 119=>130 | 139=>133 | 138=>132 | 146=>135 | 51=>105 | n=>n,fun | 1=>2 | 3=>0 | 4=>1 | n=>n⟩
theorem laySplit:Go.Proofs.Lays.n146 Tryd.prog laySplit_ren:={
 mixed:=by kernel_rfl
 f138:=Tryd.func78.trans (congrArg some (by kernel_rfl))
 f143:=Tryd.func79.trans (congrArg some (by kernel_rfl))
 f146:=Tryd.func42.trans (congrArg some (by kernel_rfl))
 f195:=Tryd.func90.trans (congrArg some (by kernel_rfl))
 f197:=Tryd.func91.trans (congrArg some (by kernel_rfl))
 f217:=Tryd.func98.trans (congrArg some (by kernel_rfl))
 f218:=Tryd.func92.trans (congrArg some (by kernel_rfl))
 f219:=Tryd.func93.trans (congrArg some (by kernel_rfl))
 f221:=Tryd.func58.trans (congrArg some (by kernel_rfl))
 f224:=Tryd.func100.trans (congrArg some (by kernel_rfl))
 f225:=Tryd.func99.trans (congrArg some (by kernel_rfl))
 f260:=Tryd.func97.trans (congrArg some (by kernel_rfl))
 f266:=Tryd.func102.trans (congrArg some (by kernel_rfl))
 f267:=Tryd.func101.trans (congrArg some (by kernel_rfl))
 f268:=Tryd.func77.trans (congrArg some (by kernel_rfl))
 f314:=Tryd.func103.trans (congrArg some (by kernel_rfl))
 t0:=Tryd.underlying0
 a0:=Tryd.isAgg0
 z0:=Tryd.sizeOf0
 v0:=Tryd.zeroValue0
 t3:=Tryd.underlying3
 a3:=Tryd.isAgg3
 z3:=Tryd.sizeOf3
 v3:=Tryd.zeroValue3
 t4:=Tryd.underlying4
 a4:=Tryd.isAgg4
 z4:=Tryd.sizeOf4
 v4:=Tryd.zeroValue4
 t5:=Tryd.underlying5
 a5:=Tryd.isAgg5
 z5:=Tryd.sizeOf5
 v5:=Tryd.zeroValue5
 t9:=Tryd.underlying9
 a9:=Tryd.isAgg9
 z9:=Tryd.sizeOf9
 v9:=Tryd.zeroValue9
 t21:=Tryd.underlying21
 a21:=Tryd.isAgg21
 z21:=Tryd.sizeOf21
 v21:=Tryd.zeroValue21
 t31:=Tryd.underlying38
 a31:=Tryd.isAgg38
 z31:=Tryd.sizeOf38
 v31:=Tryd.zeroValue38
 t46:=Tryd.underlying81
 a46:=Tryd.isAgg81
 z46:=Tryd.sizeOf81
 v46:=Tryd.zeroValue81
 t51:=Tryd.underlying105
 a51:=Tryd.isAgg105
 z51:=Tryd.sizeOf105
 v51:=Tryd.zeroValue105
 t105:=Tryd.underlying108
 a105:=Tryd.isAgg108
 z105:=Tryd.sizeOf108
 v105:=Tryd.zeroValue108
 t119:=Tryd.underlying130
 a119:=Tryd.isAgg130
 z119:=Tryd.sizeOf130
 t138:=Tryd.underlying132
 a138:=Tryd.isAgg132
 z138:=Tryd.sizeOf132
 v138:=Tryd.zeroValue132
 t139:=Tryd.underlying133
 a139:=Tryd.isAgg133
 z139:=Tryd.sizeOf133
 v139:=Tryd.zeroValue133
 t146:=Tryd.underlying135
 a146:=Tryd.isAgg135
 z146:=Tryd.sizeOf135
 v146:=Tryd.zeroValue135
 g1:=by kernel_rfl
 g3:=by kernel_rfl
 g4:=by kernel_rfl }
end
section
open Go.Shelf Go.RowKit
def layJoin_ren:Go.Shelf.Ren:=⟨fun | 156=>47 | 165=>60 | 166=>61 | 169=>62 | 240=>80 | 241=>81 | 276=>94 | 277=>95 | n=>n,fun | 31=>38 | 9=>9 | 3=>3 | 4=>4 | 0=>0 | 20=>20 | 72=>90 | 76=>94 | 70=>88 | 37=>84 | 75=>93 | 127=>112 | 164=>124 | 5=>5 | 80=>96 | n=>n,fun | n=>n⟩
theorem layJoin:Go.Proofs.Lays.n156 Tryd.prog layJoin_ren:={
 mixed:=by kernel_rfl
 f156:=Tryd.func47.trans (congrArg some (by kernel_rfl))
 f165:=Tryd.func60.trans (congrArg some (by kernel_rfl))
 f166:=Tryd.func61.trans (congrArg some (by kernel_rfl))
 f169:=Tryd.func62.trans (congrArg some (by kernel_rfl))
 f240:=Tryd.func80.trans (congrArg some (by kernel_rfl))
 f241:=Tryd.func81.trans (congrArg some (by kernel_rfl))
 f276:=Tryd.func94.trans (congrArg some (by kernel_rfl))
 f277:=Tryd.func95.trans (congrArg some (by kernel_rfl))
 t0:=Tryd.underlying0
 a0:=Tryd.isAgg0
 z0:=Tryd.sizeOf0
 v0:=Tryd.zeroValue0
 t3:=Tryd.underlying3
 a3:=Tryd.isAgg3
 z3:=Tryd.sizeOf3
 v3:=Tryd.zeroValue3
 t4:=Tryd.underlying4
 a4:=Tryd.isAgg4
 z4:=Tryd.sizeOf4
 v4:=Tryd.zeroValue4
 t9:=Tryd.underlying9
 a9:=Tryd.isAgg9
 z9:=Tryd.sizeOf9
 v9:=Tryd.zeroValue9
 t20:=Tryd.underlying20
 a20:=Tryd.isAgg20
 z20:=Tryd.sizeOf20
 v20:=Tryd.zeroValue20
 t31:=Tryd.underlying38
 a31:=Tryd.isAgg38
 z31:=Tryd.sizeOf38
 v31:=Tryd.zeroValue38
 t37:=Tryd.underlying84
 a37:=Tryd.isAgg84
 z37:=Tryd.sizeOf84
 v37:=Tryd.zeroValue84
 t70:=Tryd.underlying88
 a70:=Tryd.isAgg88
 z70:=Tryd.sizeOf88
 v70:=Tryd.zeroValue88
 t72:=Tryd.underlying90
 a72:=Tryd.isAgg90
 z72:=Tryd.sizeOf90
 v72:=Tryd.zeroValue90
 t75:=Tryd.underlying93
 a75:=Tryd.isAgg93
 z75:=Tryd.sizeOf93
 v75:=Tryd.zeroValue93
 t76:=Tryd.underlying94
 a76:=Tryd.isAgg94
 z76:=Tryd.sizeOf94
 v76:=Tryd.zeroValue94
 t127:=Tryd.underlying112
 a127:=Tryd.isAgg112
 z127:=Tryd.sizeOf112
 v127:=Tryd.zeroValue112
 t164:=Tryd.underlying124
 a164:=Tryd.isAgg124
 z164:=Tryd.sizeOf124
 v164:=Tryd.zeroValue124 }
end
end Go.Proofs.YtifdpbghkccaoaaDoor
