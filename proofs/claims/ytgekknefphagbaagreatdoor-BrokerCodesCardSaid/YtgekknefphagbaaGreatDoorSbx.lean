/- strings.Builder, strings.Join, numbers as digits, as they lie in this program (printed by the kit). -/
import Derived.Shelf.Strings.BuilderK
import Derived.Shelf.Strings.OnBuilder
import Derived.Shelf.Strconv.Itoa4
import Derived.Test.YtgekknefphagbaaGreatDoorProg
import Derived.Shelf.SlIterI.Nil
namespace Go.Proofs.YtgekknefphagbaaGreatDoor
open Go.Shelf Go.RowKit
set_option linter.unusedVariables false
section
def znx:Go.Shelf.Ren:=⟨fun | 171=>83 | 243=>145 | 246=>191 | 283=>238 | 284=>239 | 285=>240 | 286=>241 | 129=>220 | 317=>269 | 318=>270 | 319=>271 | 320=>272 | 337=>290 | 338=>291 | n=>n,fun | 3=>3 | 9=>9 | 2=>2 | 4=>4 | 171=>304 | 0=>0 | 53=>283 | 37=>23 | 5=>5 | 173=>306 | 212=>326 | 51=>281 | 20=>20 | 213=>327 | 46=>221 | 232=>348 | 233=>349 | n=>n,fun | 17=>0 | 18=>4 | 19=>5 | n=>n⟩
theorem layIt:Go.Proofs.LaysM.n171 Tryz.prog znx:={
 mixed:=by kernel_rfl
 f129:=Tryz.func220.trans (congrArg some (by kernel_rfl))
 f171:=Tryz.func83.trans (congrArg some (by kernel_rfl))
 f243:=Tryz.func145.trans (congrArg some (by kernel_rfl))
 f246:=Tryz.func191.trans (congrArg some (by kernel_rfl))
 f283:=Tryz.func238.trans (congrArg some (by kernel_rfl))
 f284:=Tryz.func239.trans (congrArg some (by kernel_rfl))
 f285:=Tryz.func240.trans (congrArg some (by kernel_rfl))
 f286:=Tryz.func241.trans (congrArg some (by kernel_rfl))
 f317:=Tryz.func269.trans (congrArg some (by kernel_rfl))
 f318:=Tryz.func270.trans (congrArg some (by kernel_rfl))
 f319:=Tryz.func271.trans (congrArg some (by kernel_rfl))
 f320:=Tryz.func272.trans (congrArg some (by kernel_rfl))
 f337:=Tryz.func290.trans (congrArg some (by kernel_rfl))
 f338:=Tryz.func291.trans (congrArg some (by kernel_rfl))
 t0:=Tryz.underlying0
 a0:=Tryz.isAgg0
 z0:=Tryz.sizeOf0
 v0:=Tryz.zeroValue0
 t2:=Tryz.underlying2
 a2:=Tryz.isAgg2
 z2:=Tryz.sizeOf2
 v2:=Tryz.zeroValue2
 t3:=Tryz.underlying3
 a3:=Tryz.isAgg3
 z3:=Tryz.sizeOf3
 v3:=Tryz.zeroValue3
 t4:=Tryz.underlying4
 a4:=Tryz.isAgg4
 z4:=Tryz.sizeOf4
 v4:=Tryz.zeroValue4
 t5:=Tryz.underlying5
 a5:=Tryz.isAgg5
 z5:=Tryz.sizeOf5
 v5:=Tryz.zeroValue5
 t9:=Tryz.underlying9
 a9:=Tryz.isAgg9
 z9:=Tryz.sizeOf9
 v9:=Tryz.zeroValue9
 t20:=Tryz.underlying20
 a20:=Tryz.isAgg20
 z20:=Tryz.sizeOf20
 v20:=Tryz.zeroValue20
 t37:=Tryz.underlying23
 a37:=Tryz.isAgg23
 z37:=Tryz.sizeOf23
 v37:=Tryz.zeroValue23
 t46:=Tryz.underlying221
 a46:=Tryz.isAgg221
 z46:=Tryz.sizeOf221
 v46:=Tryz.zeroValue221
 t51:=Tryz.underlying281
 a51:=Tryz.isAgg281
 z51:=Tryz.sizeOf281
 v51:=Tryz.zeroValue281
 t53:=Tryz.underlying283
 a53:=Tryz.isAgg283
 z53:=Tryz.sizeOf283
 v53:=Tryz.zeroValue283
 t171:=Tryz.underlying304
 a171:=Tryz.isAgg304
 z171:=Tryz.sizeOf304
 v171:=Tryz.zeroValue304
 t173:=Tryz.underlying306
 a173:=Tryz.isAgg306
 z173:=Tryz.sizeOf306
 v173:=Tryz.zeroValue306
 t212:=Tryz.underlying326
 a212:=Tryz.isAgg326
 z212:=Tryz.sizeOf326
 v212:=Tryz.zeroValue326
 t213:=Tryz.underlying327
 a213:=Tryz.isAgg327
 z213:=Tryz.sizeOf327
 t232:=Tryz.underlying348
 a232:=Tryz.isAgg348
 z232:=Tryz.sizeOf348
 v232:=Tryz.zeroValue348
 t233:=Tryz.underlying349
 a233:=Tryz.isAgg349
 z233:=Tryz.sizeOf349
 v233:=Tryz.zeroValue349
 g17:=by kernel_rfl
 g18:=by kernel_rfl
 g19:=by kernel_rfl
 i0:=by kernel_rfl
 i2:=by kernel_rfl
 i3:=by kernel_rfl
 i4:=by kernel_rfl
 i5:=by kernel_rfl
 i9:=by kernel_rfl
 i20:=by kernel_rfl
 i37:=by kernel_rfl
 i46:=by kernel_rfl
 i51:=by kernel_rfl
 i53:=by kernel_rfl
 i171:=by kernel_rfl
 i173:=by kernel_rfl
 i212:=by kernel_rfl
 i232:=by kernel_rfl
 i233:=by kernel_rfl
 m17:=by kernel_rfl
 m18:=by kernel_rfl
 m19:=by kernel_rfl }
end
section
def zi2:Go.Shelf.Ren:=⟨fun | 7=>51 | 10=>104 | n=>n,fun | 23=>89 | 26=>3 | 3=>96 | 28=>118 | 0=>0 | 27=>117 | 33=>95 | 4=>4 | n=>n,fun | n=>n⟩
theorem layKeysI:Go.Proofs.SlLaysZI.n7 Tryz.prog zi2:={
 mixed:=by kernel_rfl
 f7:=⟨Tryz.f51.name,by decide,Tryz.func51.trans (congrArg some (by kernel_rfl))⟩
 f10:=⟨Tryz.f104.name,by decide,Tryz.func104.trans (congrArg some (by kernel_rfl))⟩
 t0:=Tryz.underlying0
 a0:=Tryz.isAgg0
 z0:=Tryz.sizeOf0
 v0:=Tryz.zeroValue0
 t4:=Tryz.underlying4
 a4:=Tryz.isAgg4
 z4:=Tryz.sizeOf4
 v4:=Tryz.zeroValue4
 t23:=Tryz.underlying89
 a23:=Tryz.isAgg89
 z23:=Tryz.sizeOf89
 v23:=Tryz.zeroValue89
 t26:=Tryz.underlying3
 a26:=Tryz.isAgg3
 z26:=Tryz.sizeOf3
 v26:=Tryz.zeroValue3
 t27:=Tryz.underlying117
 a27:=Tryz.isAgg117
 z27:=Tryz.sizeOf117
 v27:=Tryz.zeroValue117
 t28:=Tryz.underlying118
 a28:=Tryz.isAgg118
 z28:=Tryz.sizeOf118
 v28:=Tryz.zeroValue118
 t33:=Tryz.underlying95
 a33:=Tryz.isAgg95
 z33:=Tryz.sizeOf95
 v33:=Tryz.zeroValue95 }
def zg8:Go.Shelf.Ren:=⟨fun | 6=>50 | 8=>102 | 9=>103 | 11=>161 | 13=>163 | 12=>162 | 23=>219 | 24=>220 | 14=>210 | 15=>211 | 16=>212 | 17=>213 | 18=>214 | 19=>215 | 20=>216 | 21=>217 | 22=>218 | 25=>254 | 26=>255 | 27=>256 | 28=>257 | 29=>258 | 30=>259 | 31=>282 | n=>n,fun | 26=>3 | 28=>118 | 24=>27 | 0=>0 | 3=>3 | 37=>221 | 48=>281 | 50=>283 | 4=>4 | 40=>274 | 39=>273 | 45=>148 | 5=>5 | 9=>9 | 51=>315 | 55=>319 | 57=>334 | 58=>335 | 33=>95 | n=>n,fun | n=>n⟩
theorem laySortedI:Go.Proofs.SlLaysZI.n6 Tryz.prog zg8:={
 mixed:=by kernel_rfl
 f6:=⟨Tryz.f50.name,by decide,Tryz.func50.trans (congrArg some (by kernel_rfl))⟩
 f8:=⟨Tryz.f102.name,by decide,Tryz.func102.trans (congrArg some (by kernel_rfl))⟩
 f11:=⟨Tryz.f161.name,by decide,Tryz.func161.trans (congrArg some (by kernel_rfl))⟩
 t0:=Tryz.underlying0
 a0:=Tryz.isAgg0
 z0:=Tryz.sizeOf0
 v0:=Tryz.zeroValue0
 t24:=Tryz.underlying27
 a24:=Tryz.isAgg27
 z24:=Tryz.sizeOf27
 v24:=Tryz.zeroValue27
 t26:=Tryz.underlying3
 a26:=Tryz.isAgg3
 z26:=Tryz.sizeOf3
 v26:=Tryz.zeroValue3
 t28:=Tryz.underlying118
 a28:=Tryz.isAgg118
 z28:=Tryz.sizeOf118
 v28:=Tryz.zeroValue118
 i26:=by kernel_rfl }
end
end Go.Proofs.YtgekknefphagbaaGreatDoor
