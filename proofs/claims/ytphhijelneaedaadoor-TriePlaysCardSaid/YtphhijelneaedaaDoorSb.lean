/- strings.Builder, strings.Join, numbers as digits, as they lie in this program (printed by the kit). -/
import Derived.Shelf.Strings.BuilderK
import Derived.Shelf.Strings.OnBuilder
import Derived.Shelf.Strconv.Itoa4
import Derived.Test.YtphhijelneaedaaDoorProg
namespace Go.Proofs.YtphhijelneaedaaDoor
open Go.Shelf Go.RowKit
set_option linter.unusedVariables false
def layJoin_ren:Go.Shelf.Ren:=⟨fun | 156=>58 | 165=>83 | 166=>57 | 169=>60 | 240=>82 | 241=>110 | 276=>109 | 277=>138 | n=>n,fun | 31=>33 | 9=>9 | 3=>3 | 4=>4 | 0=>0 | 20=>20 | 72=>105 | 76=>109 | 70=>103 | 37=>52 | 75=>108 | 127=>131 | 164=>153 | 5=>5 | 80=>113 | n=>n,fun | n=>n⟩
theorem layJoin:Go.Proofs.Lays.n156 Tryd.prog layJoin_ren:={
 mixed:=by kernel_rfl
 f156:=Tryd.func58.trans (congrArg some (by kernel_rfl))
 f165:=Tryd.func83.trans (congrArg some (by kernel_rfl))
 f166:=Tryd.func57.trans (congrArg some (by kernel_rfl))
 f169:=Tryd.func60.trans (congrArg some (by kernel_rfl))
 f240:=Tryd.func82.trans (congrArg some (by kernel_rfl))
 f241:=Tryd.func110.trans (congrArg some (by kernel_rfl))
 f276:=Tryd.func109.trans (congrArg some (by kernel_rfl))
 f277:=Tryd.func138.trans (congrArg some (by kernel_rfl))
 t0:=Tryd.underlying0
 a0:=Tryd.isAgg0
 z0:=Tryd.sizeOf0
 v0:=Tryd.zeroValue0
 t3:=Tryd.underlying3
 a3:=Tryd.isAgg3
 z3:=Tryd.sizeOf3
 v3:=Tryd.zeroValue3
 t4:=Tryd.underlying4
 a4:=Tryd.isAgg4
 z4:=Tryd.sizeOf4
 v4:=Tryd.zeroValue4
 t9:=Tryd.underlying9
 a9:=Tryd.isAgg9
 z9:=Tryd.sizeOf9
 v9:=Tryd.zeroValue9
 t20:=Tryd.underlying20
 a20:=Tryd.isAgg20
 z20:=Tryd.sizeOf20
 v20:=Tryd.zeroValue20
 t31:=Tryd.underlying33
 a31:=Tryd.isAgg33
 z31:=Tryd.sizeOf33
 v31:=Tryd.zeroValue33
 t37:=Tryd.underlying52
 a37:=Tryd.isAgg52
 z37:=Tryd.sizeOf52
 v37:=Tryd.zeroValue52
 t70:=Tryd.underlying103
 a70:=Tryd.isAgg103
 z70:=Tryd.sizeOf103
 v70:=Tryd.zeroValue103
 t72:=Tryd.underlying105
 a72:=Tryd.isAgg105
 z72:=Tryd.sizeOf105
 v72:=Tryd.zeroValue105
 t75:=Tryd.underlying108
 a75:=Tryd.isAgg108
 z75:=Tryd.sizeOf108
 v75:=Tryd.zeroValue108
 t76:=Tryd.underlying109
 a76:=Tryd.isAgg109
 z76:=Tryd.sizeOf109
 v76:=Tryd.zeroValue109
 t127:=Tryd.underlying131
 a127:=Tryd.isAgg131
 z127:=Tryd.sizeOf131
 v127:=Tryd.zeroValue131
 t164:=Tryd.underlying153
 a164:=Tryd.isAgg153
 z164:=Tryd.sizeOf153
 v164:=Tryd.zeroValue153 }
end Go.Proofs.YtphhijelneaedaaDoor
