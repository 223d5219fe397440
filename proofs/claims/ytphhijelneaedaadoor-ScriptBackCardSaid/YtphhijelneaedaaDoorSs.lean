/- strings.Split, as it lies in this program (printed by the kit). -/
import Derived.Shelf.Strings.Split
import Derived.Test.YtphhijelneaedaaDoorProg
namespace Go.Proofs.YtphhijelneaedaaDoor
open Go.Shelf Go.RowKit
set_option linter.unusedVariables false
def laySplit_ren:Go.Shelf.Ren:=⟨fun | 146=>54 | 221=>79 | 268=>104 | 138=>105 | 143=>78 | 195=>132 | 197=>133 | 218=>134 | 219=>103 | 260=>144 | 217=>128 | 225=>129 | 224=>130 | 267=>131 | 266=>142 | 314=>143 | n=>n,fun | 9=>9 | 31=>33 | 3=>3 | 4=>4 | 0=>0 | 105=>155 | 21=>21 | 5=>5 | 46=>120 | 119=>189 | 139=>192 | 138=>191 | 146=>182 | 51=>143 | n=>n,fun | 1=>0 | 3=>1 | 4=>2 | n=>n⟩
theorem laySplit:Go.Proofs.Lays.n146 Tryd.prog laySplit_ren:={
 mixed:=by kernel_rfl
 f138:=Tryd.func105.trans (congrArg some (by kernel_rfl))
 f143:=Tryd.func78.trans (congrArg some (by kernel_rfl))
 f146:=Tryd.func54.trans (congrArg some (by kernel_rfl))
 f195:=Tryd.func132.trans (congrArg some (by kernel_rfl))
 f197:=Tryd.func133.trans (congrArg some (by kernel_rfl))
 f217:=Tryd.func128.trans (congrArg some (by kernel_rfl))
 f218:=Tryd.func134.trans (congrArg some (by kernel_rfl))
 f219:=Tryd.func103.trans (congrArg some (by kernel_rfl))
 f221:=Tryd.func79.trans (congrArg some (by kernel_rfl))
 f224:=Tryd.func130.trans (congrArg some (by kernel_rfl))
 f225:=Tryd.func129.trans (congrArg some (by kernel_rfl))
 f260:=Tryd.func144.trans (congrArg some (by kernel_rfl))
 f266:=Tryd.func142.trans (congrArg some (by kernel_rfl))
 f267:=Tryd.func131.trans (congrArg some (by kernel_rfl))
 f268:=Tryd.func104.trans (congrArg some (by kernel_rfl))
 f314:=Tryd.func143.trans (congrArg some (by kernel_rfl))
 t0:=Tryd.underlying0
 a0:=Tryd.isAgg0
 z0:=Tryd.sizeOf0
 v0:=Tryd.zeroValue0
 t3:=Tryd.underlying3
 a3:=Tryd.isAgg3
 z3:=Tryd.sizeOf3
 v3:=Tryd.zeroValue3
 t4:=Tryd.underlying4
 a4:=Tryd.isAgg4
 z4:=Tryd.sizeOf4
 v4:=Tryd.zeroValue4
 t5:=Tryd.underlying5
 a5:=Tryd.isAgg5
 z5:=Tryd.sizeOf5
 v5:=Tryd.zeroValue5
 t9:=Tryd.underlying9
 a9:=Tryd.isAgg9
 z9:=Tryd.sizeOf9
 v9:=Tryd.zeroValue9
 t21:=Tryd.underlying21
 a21:=Tryd.isAgg21
 z21:=Tryd.sizeOf21
 v21:=Tryd.zeroValue21
 t31:=Tryd.underlying33
 a31:=Tryd.isAgg33
 z31:=Tryd.sizeOf33
 v31:=Tryd.zeroValue33
 t46:=Tryd.underlying120
 a46:=Tryd.isAgg120
 z46:=Tryd.sizeOf120
 v46:=Tryd.zeroValue120
 t51:=Tryd.underlying143
 a51:=Tryd.isAgg143
 z51:=Tryd.sizeOf143
 v51:=Tryd.zeroValue143
 t105:=Tryd.underlying155
 a105:=Tryd.isAgg155
 z105:=Tryd.sizeOf155
 v105:=Tryd.zeroValue155
 t119:=Tryd.underlying189
 a119:=Tryd.isAgg189
 z119:=Tryd.sizeOf189
 t138:=Tryd.underlying191
 a138:=Tryd.isAgg191
 z138:=Tryd.sizeOf191
 v138:=Tryd.zeroValue191
 t139:=Tryd.underlying192
 a139:=Tryd.isAgg192
 z139:=Tryd.sizeOf192
 v139:=Tryd.zeroValue192
 t146:=Tryd.underlying182
 a146:=Tryd.isAgg182
 z146:=Tryd.sizeOf182
 v146:=Tryd.zeroValue182
 g1:=by kernel_rfl
 g3:=by kernel_rfl
 g4:=by kernel_rfl }
end Go.Proofs.YtphhijelneaedaaDoor
