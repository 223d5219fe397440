/- A packet with the fields of its kind. -/
import Derived.Test.YtgekknefphagbaaGreatDoorNsx
import Derived.KernelRfl
import Derived.Shelf.SlIter.Nil
import Derived.Shelf.SortM.Plain
import Derived.Shelf.SortM.SortNone
import Derived.Test.YtgekknefphagbaaGreatDoorProg
namespace Go.Proofs.YtgekknefphagbaaGreatDoor
open Go.RowKit
set_option linter.unusedSimpArgs false
set_option linter.unusedVariables false
set_option linter.unusedSectionVars false
set_option maxHeartbeats 4000000
set_option maxRecDepth 100000
section
def onlyM (p:Pk):Pk :=
 if p.kind=1 then { (default:Pk) with kind:=p.kind,level:=p.level,client:=p.client,clean:=p.clean,keep:=p.keep,hasWill:=p.hasWill,hasUser:=p.hasUser,hasPass:=p.hasPass,wtopic:=if p.hasWill=true then p.wtopic else [],wpay:=if p.hasWill=true then p.wpay else [],wqos:=if p.hasWill=true then p.wqos else 0,wretain:=if p.hasWill=true then p.wretain else false,user:=if p.hasUser=true then p.user else [],pass:=if p.hasPass=true then p.pass else [] }
 else if p.kind=2 then { (default:Pk) with kind:=p.kind,present:=p.present,code:=p.code }
 else if p.kind=3 then { (default:Pk) with kind:=p.kind,retain:=p.retain,qos:=p.qos,topic:=p.topic,payload:=p.payload,dup:=if 0<p.qos then p.dup else false,id:=if 0<p.qos then p.id else 0 }
 else if p.kind=8\/p.kind=10 then { (default:Pk) with kind:=p.kind,id:=p.id,subs:=p.subs }
 else if p.kind=9 then { (default:Pk) with kind:=p.kind,id:=p.id,codes:=p.codes }
 else if p.kind=4\/p.kind=5\/p.kind=6\/p.kind=7\/p.kind=11 then { (default:Pk) with kind:=p.kind,id:=p.id }
 else { (default:Pk) with kind:=p.kind }
attribute [local irreducible] DW SeqD DV DOp DC DVX
end
section
open Go.Shelf Go.RowKit
def layKeys_ren:Go.Shelf.Ren:=⟨fun | 7=>123 | 10=>176 | n=>n,fun | 23=>172 | 26=>9 | 3=>3 | 28=>209 | 0=>0 | 27=>208 | 33=>50 | 4=>4 | n=>n,fun | n=>n⟩
theorem layKeys:Go.Proofs.SlLaysZ.n7 Tryz.prog layKeys_ren:={
 mixed:=by kernel_rfl
 f7:=⟨Tryz.f123.name,by decide,Tryz.func123.trans (congrArg some (by kernel_rfl))⟩
 f10:=⟨Tryz.f176.name,by decide,Tryz.func176.trans (congrArg some (by kernel_rfl))⟩
 t0:=Tryz.underlying0
 a0:=Tryz.isAgg0
 z0:=Tryz.sizeOf0
 v0:=Tryz.zeroValue0
 t4:=Tryz.underlying4
 a4:=Tryz.isAgg4
 z4:=Tryz.sizeOf4
 v4:=Tryz.zeroValue4
 t23:=Tryz.underlying172
 a23:=Tryz.isAgg172
 z23:=Tryz.sizeOf172
 v23:=Tryz.zeroValue172
 t26:=Tryz.underlying9
 a26:=Tryz.isAgg9
 z26:=Tryz.sizeOf9
 v26:=Tryz.zeroValue9
 t27:=Tryz.underlying208
 a27:=Tryz.isAgg208
 z27:=Tryz.sizeOf208
 v27:=Tryz.zeroValue208
 t28:=Tryz.underlying209
 a28:=Tryz.isAgg209
 z28:=Tryz.sizeOf209
 v28:=Tryz.zeroValue209
 t33:=Tryz.underlying50
 a33:=Tryz.isAgg50
 z33:=Tryz.sizeOf50
 v33:=Tryz.zeroValue50 }
def laySorted_ren:Go.Shelf.Ren:=⟨fun | 6=>122 | 8=>175 | 9=>105 | 11=>232 | 13=>163 | 12=>164 | 23=>219 | 24=>220 | 14=>221 | 15=>222 | 16=>223 | 17=>224 | 18=>225 | 19=>226 | 20=>227 | 21=>228 | 22=>229 | 25=>260 | 26=>255 | 27=>256 | 28=>261 | 29=>262 | 30=>243 | 31=>283 | n=>n,fun | 26=>9 | 28=>209 | 24=>36 | 0=>0 | 3=>3 | 37=>221 | 48=>281 | 50=>283 | 4=>4 | 40=>274 | 39=>273 | 45=>148 | 5=>5 | 9=>9 | 51=>315 | 55=>319 | 57=>334 | 58=>335 | 33=>50 | n=>n,fun | n=>n⟩
theorem znN:Go.Proofs.SlLaysZ.n6 Tryz.prog laySorted_ren:={
 mixed:=by kernel_rfl
 f6:=⟨Tryz.f122.name,by decide,Tryz.func122.trans (congrArg some (by kernel_rfl))⟩
 f8:=⟨Tryz.f175.name,by decide,Tryz.func175.trans (congrArg some (by kernel_rfl))⟩
 f11:=⟨Tryz.f232.name,by decide,Tryz.func232.trans (congrArg some (by kernel_rfl))⟩
 t0:=Tryz.underlying0
 a0:=Tryz.isAgg0
 z0:=Tryz.sizeOf0
 v0:=Tryz.zeroValue0
 t24:=Tryz.underlying36
 a24:=Tryz.isAgg36
 z24:=Tryz.sizeOf36
 v24:=Tryz.zeroValue36
 t26:=Tryz.underlying9
 a26:=Tryz.isAgg9
 z26:=Tryz.sizeOf9
 v26:=Tryz.zeroValue9
 t28:=Tryz.underlying209
 a28:=Tryz.isAgg209
 z28:=Tryz.sizeOf209
 v28:=Tryz.zeroValue209
 i26:=by kernel_rfl }
def ziQ:Go.Shelf.Ren:=⟨fun | 6=>105 | 8=>163 | 9=>164 | 19=>219 | 20=>220 | 21=>221 | 22=>222 | 23=>223 | 24=>224 | 25=>225 | 26=>226 | 27=>227 | 28=>228 | 29=>229 | 36=>260 | 31=>255 | 32=>256 | 37=>261 | 38=>262 | 39=>243 | 41=>283 | n=>n,fun | 27=>36 | 29=>9 | 3=>3 | 32=>221 | 26=>36 | 0=>0 | 44=>281 | 46=>283 | 4=>4 | 36=>274 | 35=>273 | 41=>148 | 5=>5 | 9=>9 | 53=>315 | 57=>319 | 63=>334 | 64=>335 | n=>n,fun | n=>n⟩
theorem zfL:Go.Proofs.SlLaysM.n6 Tryz.prog ziQ:={
 mixed:=by kernel_rfl
 f6:=⟨Tryz.f105.name,by decide,Tryz.func105.trans (congrArg some (by kernel_rfl))⟩
 f8:=Tryz.func163.trans (congrArg some (by kernel_rfl))
 f9:=⟨Tryz.f164.name,by decide,Tryz.func164.trans (congrArg some (by kernel_rfl))⟩
 f19:=Tryz.func219.trans (congrArg some (by kernel_rfl))
 f20:=Tryz.func220.trans (congrArg some (by kernel_rfl))
 f21:=⟨Tryz.f221.name,by decide,Tryz.func221.trans (congrArg some (by kernel_rfl))⟩
 f22:=⟨Tryz.f222.name,by decide,Tryz.func222.trans (congrArg some (by kernel_rfl))⟩
 f23:=⟨Tryz.f223.name,by decide,Tryz.func223.trans (congrArg some (by kernel_rfl))⟩
 f24:=⟨Tryz.f224.name,by decide,Tryz.func224.trans (congrArg some (by kernel_rfl))⟩
 f25:=⟨Tryz.f225.name,by decide,Tryz.func225.trans (congrArg some (by kernel_rfl))⟩
 f26:=⟨Tryz.f226.name,by decide,Tryz.func226.trans (congrArg some (by kernel_rfl))⟩
 f27:=⟨Tryz.f227.name,by decide,Tryz.func227.trans (congrArg some (by kernel_rfl))⟩
 f28:=⟨Tryz.f228.name,by decide,Tryz.func228.trans (congrArg some (by kernel_rfl))⟩
 f29:=⟨Tryz.f229.name,by decide,Tryz.func229.trans (congrArg some (by kernel_rfl))⟩
 f31:=Tryz.func255.trans (congrArg some (by kernel_rfl))
 f32:=Tryz.func256.trans (congrArg some (by kernel_rfl))
 f36:=⟨Tryz.f260.name,by decide,Tryz.func260.trans (congrArg some (by kernel_rfl))⟩
 f37:=⟨Tryz.f261.name,by decide,Tryz.func261.trans (congrArg some (by kernel_rfl))⟩
 f38:=⟨Tryz.f262.name,by decide,Tryz.func262.trans (congrArg some (by kernel_rfl))⟩
 f39:=⟨Tryz.f243.name,by decide,Tryz.func243.trans (congrArg some (by kernel_rfl))⟩
 f41:=⟨Tryz.f283.name,by decide,Tryz.func283.trans (congrArg some (by kernel_rfl))⟩
 t0:=Tryz.underlying0
 a0:=Tryz.isAgg0
 z0:=Tryz.sizeOf0
 v0:=Tryz.zeroValue0
 t3:=Tryz.underlying3
 a3:=Tryz.isAgg3
 z3:=Tryz.sizeOf3
 v3:=Tryz.zeroValue3
 t4:=Tryz.underlying4
 a4:=Tryz.isAgg4
 z4:=Tryz.sizeOf4
 v4:=Tryz.zeroValue4
 t5:=Tryz.underlying5
 a5:=Tryz.isAgg5
 z5:=Tryz.sizeOf5
 v5:=Tryz.zeroValue5
 t9:=Tryz.underlying9
 a9:=Tryz.isAgg9
 z9:=Tryz.sizeOf9
 v9:=Tryz.zeroValue9
 t26:=Tryz.underlying36
 a26:=Tryz.isAgg36
 z26:=Tryz.sizeOf36
 v26:=Tryz.zeroValue36
 t27:=Tryz.underlying36
 a27:=Tryz.isAgg36
 z27:=Tryz.sizeOf36
 v27:=Tryz.zeroValue36
 t29:=Tryz.underlying9
 a29:=Tryz.isAgg9
 z29:=Tryz.sizeOf9
 v29:=Tryz.zeroValue9
 t32:=Tryz.underlying221
 a32:=Tryz.isAgg221
 z32:=Tryz.sizeOf221
 v32:=Tryz.zeroValue221
 t35:=Tryz.underlying273
 a35:=Tryz.isAgg273
 z35:=Tryz.sizeOf273
 v35:=Tryz.zeroValue273
 t36:=Tryz.underlying274
 a36:=Tryz.isAgg274
 z36:=Tryz.sizeOf274
 v36:=Tryz.zeroValue274
 t41:=Tryz.underlying148
 a41:=Tryz.isAgg148
 z41:=Tryz.sizeOf148
 v41:=Tryz.zeroValue148
 t44:=Tryz.underlying281
 a44:=Tryz.isAgg281
 z44:=Tryz.sizeOf281
 v44:=Tryz.zeroValue281
 t46:=Tryz.underlying283
 a46:=Tryz.isAgg283
 z46:=Tryz.sizeOf283
 v46:=Tryz.zeroValue283
 t53:=Tryz.underlying315
 a53:=Tryz.isAgg315
 z53:=Tryz.sizeOf315
 v53:=Tryz.zeroValue315
 t57:=Tryz.underlying319
 a57:=Tryz.isAgg319
 z57:=Tryz.sizeOf319
 v57:=Tryz.zeroValue319
 t63:=Tryz.underlying334
 a63:=Tryz.isAgg334
 z63:=Tryz.sizeOf334
 v63:=Tryz.zeroValue334
 t64:=Tryz.underlying335
 a64:=Tryz.isAgg335
 z64:=Tryz.sizeOf335
 v64:=Tryz.zeroValue335 }
end
end Go.Proofs.YtgekknefphagbaaGreatDoor
