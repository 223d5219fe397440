/- slices.SortFunc at subscriptions, as it lies in this program (printed by the kit). -/
import Derived.Shelf.SlSortCmp.WholeK
import Derived.Test.YtgekknefphagbaaGreatDoorProg
import Derived.Test.YtgekknefphagbaaGreatDoorYmx
import Derived.Test.YtgekknefphagbaaGreatDoorFxx
import Derived.Test.YtgekknefphagbaaGreatDoorRf3x
import Derived.KernelRfl
namespace Go.Proofs.YtgekknefphagbaaGreatDoor
open Go.Shelf Go.RowKit
set_option linter.unusedVariables false
section
def ziD:Go.Shelf.Ren:=⟨fun | 6=>192 | 15=>163 | 14=>242 | 28=>219 | 29=>220 | 20=>273 | 21=>274 | 22=>275 | 23=>276 | 24=>277 | 25=>278 | 26=>279 | 27=>280 | 46=>292 | 47=>255 | 48=>256 | 49=>293 | 50=>294 | 57=>300 | n=>n,fun | 22=>26 | 24=>77 | 25=>265 | 3=>3 | 39=>221 | 0=>0 | 53=>281 | 55=>283 | 4=>4 | 46=>274 | 45=>273 | 50=>148 | 5=>5 | 9=>9 | 66=>315 | 70=>319 | 76=>334 | 77=>335 | n=>n,fun | n=>n⟩
theorem zpP:Go.Proofs.SlLaysF0.n6 Tryz.prog ziD:={
 mixed:=by kernel_rfl
 f6:=⟨Tryz.f192.name,by decide,Tryz.func192.trans (congrArg some (by kernel_rfl))⟩
 f14:=⟨Tryz.f242.name,by decide,Tryz.func242.trans (congrArg some (by kernel_rfl))⟩
 f15:=Tryz.func163.trans (congrArg some (by kernel_rfl))
 f20:=⟨Tryz.f273.name,by decide,Tryz.func273.trans (congrArg some (by kernel_rfl))⟩
 f21:=⟨Tryz.f274.name,by decide,Tryz.func274.trans (congrArg some (by kernel_rfl))⟩
 f22:=⟨Tryz.f275.name,by decide,Tryz.func275.trans (congrArg some (by kernel_rfl))⟩
 f23:=⟨Tryz.f276.name,by decide,Tryz.func276.trans (congrArg some (by kernel_rfl))⟩
 f24:=⟨Tryz.f277.name,by decide,Tryz.func277.trans (congrArg some (by kernel_rfl))⟩
 f25:=⟨Tryz.f278.name,by decide,Tryz.func278.trans (congrArg some (by kernel_rfl))⟩
 f26:=⟨Tryz.f279.name,by decide,Tryz.func279.trans (congrArg some (by kernel_rfl))⟩
 f27:=⟨Tryz.f280.name,by decide,Tryz.func280.trans (congrArg some (by kernel_rfl))⟩
 f28:=Tryz.func219.trans (congrArg some (by kernel_rfl))
 f29:=Tryz.func220.trans (congrArg some (by kernel_rfl))
 f46:=⟨Tryz.f292.name,by decide,Tryz.func292.trans (congrArg some (by kernel_rfl))⟩
 f47:=Tryz.func255.trans (congrArg some (by kernel_rfl))
 f48:=Tryz.func256.trans (congrArg some (by kernel_rfl))
 f49:=⟨Tryz.f293.name,by decide,Tryz.func293.trans (congrArg some (by kernel_rfl))⟩
 f50:=⟨Tryz.f294.name,by decide,Tryz.func294.trans (congrArg some (by kernel_rfl))⟩
 f57:=⟨Tryz.f300.name,by decide,Tryz.func300.trans (congrArg some (by kernel_rfl))⟩
 t0:=Tryz.underlying0
 a0:=Tryz.isAgg0
 z0:=Tryz.sizeOf0
 v0:=Tryz.zeroValue0
 t3:=Tryz.underlying3
 a3:=Tryz.isAgg3
 z3:=Tryz.sizeOf3
 v3:=Tryz.zeroValue3
 t4:=Tryz.underlying4
 a4:=Tryz.isAgg4
 z4:=Tryz.sizeOf4
 v4:=Tryz.zeroValue4
 t5:=Tryz.underlying5
 a5:=Tryz.isAgg5
 z5:=Tryz.sizeOf5
 v5:=Tryz.zeroValue5
 t9:=Tryz.underlying9
 a9:=Tryz.isAgg9
 z9:=Tryz.sizeOf9
 v9:=Tryz.zeroValue9
 t22:=Tryz.underlying26
 a22:=Tryz.isAgg26
 z22:=Tryz.sizeOf26
 v22:=Tryz.zeroValue26
 t25:=Tryz.underlying265
 a25:=Tryz.isAgg265
 z25:=Tryz.sizeOf265
 v25:=Tryz.zeroValue265
 t39:=Tryz.underlying221
 a39:=Tryz.isAgg221
 z39:=Tryz.sizeOf221
 v39:=Tryz.zeroValue221
 t45:=Tryz.underlying273
 a45:=Tryz.isAgg273
 z45:=Tryz.sizeOf273
 v45:=Tryz.zeroValue273
 t46:=Tryz.underlying274
 a46:=Tryz.isAgg274
 z46:=Tryz.sizeOf274
 v46:=Tryz.zeroValue274
 t50:=Tryz.underlying148
 a50:=Tryz.isAgg148
 z50:=Tryz.sizeOf148
 v50:=Tryz.zeroValue148
 t53:=Tryz.underlying281
 a53:=Tryz.isAgg281
 z53:=Tryz.sizeOf281
 v53:=Tryz.zeroValue281
 t55:=Tryz.underlying283
 a55:=Tryz.isAgg283
 z55:=Tryz.sizeOf283
 v55:=Tryz.zeroValue283
 t66:=Tryz.underlying315
 a66:=Tryz.isAgg315
 z66:=Tryz.sizeOf315
 v66:=Tryz.zeroValue315
 t70:=Tryz.underlying319
 a70:=Tryz.isAgg319
 z70:=Tryz.sizeOf319
 v70:=Tryz.zeroValue319
 t76:=Tryz.underlying334
 a76:=Tryz.isAgg334
 z76:=Tryz.sizeOf334
 v76:=Tryz.zeroValue334
 t77:=Tryz.underlying335
 a77:=Tryz.isAgg335
 z77:=Tryz.sizeOf335
 v77:=Tryz.zeroValue335 }
end
section
open Go.RowKit
set_option linter.unusedSimpArgs false
set_option linter.unusedSectionVars false
set_option maxHeartbeats 4000000
set_option maxRecDepth 100000
abbrev YSx:=List UInt8
def zdf (n:Int):Nat:=if n<0\/268435455<n then 0 else if n<128 then 1 else if n<16384 then 2 else if n<2097152 then 3 else 4
theorem zks {n:Int} (h:zdf n≠0):0<=n/\n<268435456:=by
 unfold zdf at h
 split at h
 · exact absurd rfl h
 · omega
theorem fdiv7 (m k:Nat) (hk:k<=3):((m:Int)).fdiv (2 ^ min (7 * (k:Int)).toNat IntKind.i64.bits)=((m / 128 ^ k:Nat):Int):=by
 obtain rfl | rfl | rfl | rfl:k=0\/k=1\/k=2\/k=3:=by omega
 · rw [Int.fdiv_eq_ediv_of_nonneg _ (by decide)];simp
 · rw [Int.fdiv_eq_ediv_of_nonneg _ (by decide),show (2:Int) ^ min (7 * ((1:Nat):Int)).toNat IntKind.i64.bits=128 from by decide];omega
 · rw [Int.fdiv_eq_ediv_of_nonneg _ (by decide),show (2:Int) ^ min (7 * ((2:Nat):Int)).toNat IntKind.i64.bits=16384 from by decide];omega
 · rw [Int.fdiv_eq_ediv_of_nonneg _ (by decide),show (2:Int) ^ min (7 * ((3:Nat):Int)).toNat IntKind.i64.bits=2097152 from by decide];omega
def varM (n:Int):YS:=(List.range (zdf n)).map fun k=>zb0 ((if k+1<zdf n then n.toNat / 128 ^ k%128+128 else n.toNat / 128 ^ k%128:Nat):Int)
theorem zhR (n:Int):(varM n).length=zdf n:=by simp [varM]
theorem zqO {n:Int} {k:Nat} (h:k<zdf n):(varM n).take (k+1)=(varM n).take k++[zb0 ((if k+1<zdf n then n.toNat / 128 ^ k%128+128 else n.toNat / 128 ^ k%128:Nat):Int)]:=by
 rw [List.take_add_one];congr 1;unfold varM;simp [h]
theorem var_hi {n:Int} {k:Nat} (h:k+1<zdf n):(varM n).take (k+1)=(varM n).take k++[zb0 ((n.toNat / 128 ^ k%128+128:Nat):Int)]:=by rw [zqO (by omega),if_pos h]
theorem var_lo {n:Int} {k:Nat} (h:k<zdf n) (h2:¬ k+1<zdf n):(varM n).take (k+1)=(varM n).take k++[zb0 ((n.toNat / 128 ^ k%128:Nat):Int)]:=by rw [zqO h,if_neg h2]
theorem zk3 (n:Int):zdf n<=4:=by unfold zdf;(repeat' split)<;>decide
attribute [local irreducible] DW SeqD DV DOp DC DVX zdf varM
end
end Go.Proofs.YtgekknefphagbaaGreatDoor
