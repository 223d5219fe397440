/- A packet with the fields of its kind. -/
import Derived.Test.YtgekknefphagbaaGreatDoorYmx
import Derived.KernelRfl
import Derived.Test.YtgekknefphagbaaGreatDoorFxx
import Derived.Test.YtgekknefphagbaaGreatDoorGzx
namespace Go.Proofs.YtgekknefphagbaaGreatDoor
open Go.RowKit
set_option linter.unusedSimpArgs false
set_option linter.unusedVariables false
set_option linter.unusedSectionVars false
set_option maxHeartbeats 4000000
set_option maxRecDepth 100000
section
def onlyM (p:Pk):Pk :=
 if p.kind=1 then { (default:Pk) with kind:=p.kind,level:=p.level,client:=p.client,clean:=p.clean,keep:=p.keep,hasWill:=p.hasWill,hasUser:=p.hasUser,hasPass:=p.hasPass,wtopic:=if p.hasWill=true then p.wtopic else [],wpay:=if p.hasWill=true then p.wpay else [],wqos:=if p.hasWill=true then p.wqos else 0,wretain:=if p.hasWill=true then p.wretain else false,user:=if p.hasUser=true then p.user else [],pass:=if p.hasPass=true then p.pass else [] }
 else if p.kind=2 then { (default:Pk) with kind:=p.kind,present:=p.present,code:=p.code }
 else if p.kind=3 then { (default:Pk) with kind:=p.kind,retain:=p.retain,qos:=p.qos,topic:=p.topic,payload:=p.payload,dup:=if 0<p.qos then p.dup else false,id:=if 0<p.qos then p.id else 0 }
 else if p.kind=8\/p.kind=10 then { (default:Pk) with kind:=p.kind,id:=p.id,subs:=p.subs }
 else if p.kind=9 then { (default:Pk) with kind:=p.kind,id:=p.id,codes:=p.codes }
 else if p.kind=4\/p.kind=5\/p.kind=6\/p.kind=7\/p.kind=11 then { (default:Pk) with kind:=p.kind,id:=p.id }
 else { (default:Pk) with kind:=p.kind }
attribute [local irreducible] DW SeqD DV DOp DC DVX
end
section
abbrev YSx:=List UInt8
def sizeM (n:Int):Nat:=if n<0\/268435455<n then 0 else if n<128 then 1 else if n<16384 then 2 else if n<2097152 then 3 else 4
theorem size_rng {n:Int} (h:sizeM n≠0):0<=n/\n<268435456:=by
 unfold sizeM at h
 split at h
 · exact absurd rfl h
 · omega
theorem fdiv7 (m k:Nat) (hk:k<=3):((m:Int)).fdiv (2 ^ min (7 * (k:Int)).toNat IntKind.i64.bits)=((m / 128 ^ k:Nat):Int):=by
 obtain rfl | rfl | rfl | rfl:k=0\/k=1\/k=2\/k=3:=by omega
 · rw [Int.fdiv_eq_ediv_of_nonneg _ (by decide)];simp
 · rw [Int.fdiv_eq_ediv_of_nonneg _ (by decide),show (2:Int) ^ min (7 * ((1:Nat):Int)).toNat IntKind.i64.bits=128 from by decide];omega
 · rw [Int.fdiv_eq_ediv_of_nonneg _ (by decide),show (2:Int) ^ min (7 * ((2:Nat):Int)).toNat IntKind.i64.bits=16384 from by decide];omega
 · rw [Int.fdiv_eq_ediv_of_nonneg _ (by decide),show (2:Int) ^ min (7 * ((3:Nat):Int)).toNat IntKind.i64.bits=2097152 from by decide];omega
def varM (n:Int):YS:=(List.range (sizeM n)).map fun k=>byteW ((if k+1<sizeM n then n.toNat / 128 ^ k%128+128 else n.toNat / 128 ^ k%128:Nat):Int)
theorem varM_len (n:Int):(varM n).length=sizeM n:=by simp [varM]
theorem varM_s {n:Int} {k:Nat} (h:k<sizeM n):(varM n).take (k+1)=(varM n).take k++[byteW ((if k+1<sizeM n then n.toNat / 128 ^ k%128+128 else n.toNat / 128 ^ k%128:Nat):Int)]:=by
 rw [List.take_add_one];congr 1;unfold varM;simp [h]
theorem var_hi {n:Int} {k:Nat} (h:k+1<sizeM n):(varM n).take (k+1)=(varM n).take k++[byteW ((n.toNat / 128 ^ k%128+128:Nat):Int)]:=by rw [varM_s (by omega),if_pos h]
theorem var_lo {n:Int} {k:Nat} (h:k<sizeM n) (h2:¬ k+1<sizeM n):(varM n).take (k+1)=(varM n).take k++[byteW ((n.toNat / 128 ^ k%128:Nat):Int)]:=by rw [varM_s h,if_neg h2]
theorem sizeM_le (n:Int):sizeM n<=4:=by unfold sizeM;(repeat' split)<;>decide
attribute [local irreducible] DW SeqD DV DOp DC DVX sizeM varM
end
end Go.Proofs.YtgekknefphagbaaGreatDoor
