/- A packet with the fields of its kind. -/
import Derived.Test.YtgekknefphagbaaGreatDoorYmx
import Derived.KernelRfl
namespace Go.Proofs.YtgekknefphagbaaGreatDoor
open Go.RowKit
set_option linter.unusedSimpArgs false
set_option linter.unusedVariables false
set_option linter.unusedSectionVars false
set_option maxHeartbeats 4000000
set_option maxRecDepth 100000
section
def onlyM (p:Pk):Pk :=
 if p.kind=1 then { (default:Pk) with kind:=p.kind,level:=p.level,client:=p.client,clean:=p.clean,keep:=p.keep,hasWill:=p.hasWill,hasUser:=p.hasUser,hasPass:=p.hasPass,wtopic:=if p.hasWill=true then p.wtopic else [],wpay:=if p.hasWill=true then p.wpay else [],wqos:=if p.hasWill=true then p.wqos else 0,wretain:=if p.hasWill=true then p.wretain else false,user:=if p.hasUser=true then p.user else [],pass:=if p.hasPass=true then p.pass else [] }
 else if p.kind=2 then { (default:Pk) with kind:=p.kind,present:=p.present,code:=p.code }
 else if p.kind=3 then { (default:Pk) with kind:=p.kind,retain:=p.retain,qos:=p.qos,topic:=p.topic,payload:=p.payload,dup:=if 0<p.qos then p.dup else false,id:=if 0<p.qos then p.id else 0 }
 else if p.kind=8\/p.kind=10 then { (default:Pk) with kind:=p.kind,id:=p.id,subs:=p.subs }
 else if p.kind=9 then { (default:Pk) with kind:=p.kind,id:=p.id,codes:=p.codes }
 else if p.kind=4\/p.kind=5\/p.kind=6\/p.kind=7\/p.kind=11 then { (default:Pk) with kind:=p.kind,id:=p.id }
 else { (default:Pk) with kind:=p.kind }
attribute [local irreducible] DW SeqD DV DOp DC DVX
end
end Go.Proofs.YtgekknefphagbaaGreatDoor
