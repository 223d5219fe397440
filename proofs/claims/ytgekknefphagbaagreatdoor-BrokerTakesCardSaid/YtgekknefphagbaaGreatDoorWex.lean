/- A length laid down, exactly. -/
import Derived.Test.YtgekknefphagbaaGreatDoorFxx
import Derived.Test.YtgekknefphagbaaGreatDoorGzx
import Derived.KernelRfl
import Derived.Shelf.Sort.Plain
import Derived.Test.YtgekknefphagbaaGreatDoorProg
namespace Go.Proofs.YtgekknefphagbaaGreatDoor
open Go.RowKit
set_option linter.unusedSimpArgs false
set_option linter.unusedVariables false
set_option linter.unusedSectionVars false
set_option maxHeartbeats 4000000
set_option maxRecDepth 100000
section
abbrev YSx:=List UInt8
def zcp (n:Int):Nat:=if n<0\/268435455<n then 0 else if n<128 then 1 else if n<16384 then 2 else if n<2097152 then 3 else 4
theorem zfT {n:Int} (h:zcp n≠0):0<=n/\n<268435456:=by
 unfold zcp at h
 split at h
 · exact absurd rfl h
 · omega
theorem fdiv7 (m k:Nat) (hk:k<=3):((m:Int)).fdiv (2 ^ min (7 * (k:Int)).toNat IntKind.i64.bits)=((m / 128 ^ k:Nat):Int):=by
 obtain rfl | rfl | rfl | rfl:k=0\/k=1\/k=2\/k=3:=by omega
 · rw [Int.fdiv_eq_ediv_of_nonneg _ (by decide)];simp
 · rw [Int.fdiv_eq_ediv_of_nonneg _ (by decide),show (2:Int) ^ min (7 * ((1:Nat):Int)).toNat IntKind.i64.bits=128 from by decide];omega
 · rw [Int.fdiv_eq_ediv_of_nonneg _ (by decide),show (2:Int) ^ min (7 * ((2:Nat):Int)).toNat IntKind.i64.bits=16384 from by decide];omega
 · rw [Int.fdiv_eq_ediv_of_nonneg _ (by decide),show (2:Int) ^ min (7 * ((3:Nat):Int)).toNat IntKind.i64.bits=2097152 from by decide];omega
theorem and7 (y:Nat) (h:y<268435456):(BitVec.ofInt 64 (y:Int) &&& BitVec.ofInt 64 127).toNat=y%128:=by
 rw [BitVec.toNat_and]
 have e1:(BitVec.ofInt 64 (y:Int)).toNat=y:=by simp;omega
 have e2:(BitVec.ofInt 64 127).toNat=2 ^ 7 - 1:=by decide
 rw [e1,e2,Nat.and_two_pow_sub_one_eq_mod]
theorem low7 (m k:Nat) (hm:m<268435456) (hk:k<=3):IntKind.i64.wrap ((BitVec.ofInt IntKind.i64.bits ((m:Int).fdiv (2 ^ min (7 * (k:Int)).toNat IntKind.i64.bits)) &&& BitVec.ofInt IntKind.i64.bits 127).toNat:Int)=((m / 128 ^ k%128:Nat):Int):=by
 rw [fdiv7 m k hk]
 have e:=and7 (m / 128 ^ k) (Nat.lt_of_le_of_lt (Nat.div_le_self _ _) hm)
 rw [show IntKind.i64.bits=64 from rfl,e]
 have:m / 128 ^ k%128<128:=Nat.mod_lt _ (by decide)
 simp [IntKind.wrap,IntKind.bits,IntKind.signed];omega
theorem hi7:∀ r:Fin 128,(BitVec.ofInt IntKind.u8.bits (IntKind.u8.wrap ((r.val:Nat):Int))|||BitVec.ofInt IntKind.u8.bits 128).toNat=r.val+128:=by decide
theorem low7i (n:Int) (k:Nat) (h0:0<=n) (h1:n<268435456) (hk:k<=3):IntKind.i64.wrap ((BitVec.ofInt IntKind.i64.bits (n.fdiv (2 ^ min (7 * (k:Int)).toNat IntKind.i64.bits)) &&& BitVec.ofInt IntKind.i64.bits 127).toNat:Int)=((n.toNat / 128 ^ k%128:Nat):Int):=by
 have e:=low7 n.toNat k (by omega) hk
 rwa [Int.toNat_of_nonneg h0] at e
theorem hi7n (r:Nat) (h:r<128):(BitVec.ofInt IntKind.u8.bits (IntKind.u8.wrap (r:Int))|||BitVec.ofInt IntKind.u8.bits 128).toNat=r+128:=hi7 ⟨r,h⟩
def varM (n:Int):YS:=(List.range (zcp n)).map fun k=>zbr ((if k+1<zcp n then n.toNat / 128 ^ k%128+128 else n.toNat / 128 ^ k%128:Nat):Int)
theorem zei (n:Int):(varM n).length=zcp n:=by simp [varM]
theorem zra {n:Int} {k:Nat} (h:k<zcp n):(varM n).take (k+1)=(varM n).take k++[zbr ((if k+1<zcp n then n.toNat / 128 ^ k%128+128 else n.toNat / 128 ^ k%128:Nat):Int)]:=by
 rw [List.take_add_one];congr 1;unfold varM;simp [h]
theorem zqC {n:Int} {k:Nat} (h:k+1<zcp n):(varM n).take (k+1)=(varM n).take k++[zbr ((n.toNat / 128 ^ k%128+128:Nat):Int)]:=by rw [zra (by omega),if_pos h]
theorem zqR {n:Int} {k:Nat} (h:k<zcp n) (h2:¬ k+1<zcp n):(varM n).take (k+1)=(varM n).take k++[zbr ((n.toNat / 128 ^ k%128:Nat):Int)]:=by rw [zra h,if_neg h2]
theorem zfR (n:Int):zcp n<=4:=by unfold zcp;(repeat' split)<;>decide
attribute [local irreducible] DW SeqD DV DOp DC DVX zcp varM
theorem zk1 (n:Int) (F:Own):(True)->DC Tryz.prog 133 [.int .i64 n] (([]:Own)++F) fun d G=>d = .int .i64 (zcp n)/\G=[]++F:=by
 intro hA
 refine DC.bodyS (n_:=19) (show Tryz.prog.funcs[133]? = some Tryz.f133 by kernel_rfl) rfl rfl (by rfl) ?_
 simp only [env0,List.cons_append,List.nil_append]
 have kw:=ksIs [0,2,3,10,13,16]
 have ow:=zaf []
 repeat' (first
  | refine g_ ?_
  | ((with_reducible refine And.intro ?_ ?_);(exact sv))
  | (refine DW.cond (by rfl) ?_ ?_<;>(first | exact i0_ | (refine ic_ ?_;intro hb)))
  | ((with_reducible refine zaa ?_ ?_)<;>(intro hb;rw [hb];revert hb;(first | exact i0_ | (refine i_ ?_;intro hb))))
  | refine r_ ?_
  | refine k_ ?_
  | refine o_ ?_
  | refine f_ ?_
  | with_reducible intro b)
 all_goals first
 | ((refine ⟨_,_,le.of_eq ?_,⟨rfl,rfl⟩,?_⟩);rotate_left;(exact sub_);congr 1;unfold zcp;(repeat' split)<;>(first | rfl | omega))
 | (trace_state;fail)
theorem zho {p:Prop} (h:p:=by first | exact sv | (refine ⟨?_,?_,fun _ _=>rfl⟩<;>omega) | fail):p:=h
theorem putE_dc (n:Int) (F:Own):(True)->DC Tryz.prog 140 [.int .i64 n] (([]:Own)++F) fun d G=>∃ e:Int,(zcp n≠0->e=0)/\d = .tup [.sl ((varM n).map u8), .int .i64 e]/\G=[]++F:=by
 intro hA
 refine DC.bodyS (n_:=34) (show Tryz.prog.funcs[140]? = some Tryz.f140 by kernel_rfl) rfl rfl (by rfl) ?_
 simp only [env0,List.cons_append,List.nil_append]
 have kw:=ksIs [0,2,3,4,5,6,7,11,14,26]
 have ow:=zaf []
 have hz4:=zfR n
 refine DW.tail0 1 ?_
 repeat' (first
  | ((with_reducible refine DW.loopB 0 (X:=Nat×Value×YSx) (fun x=>x.1<=zcp n/\x.2.2=(varM n).take x.1/\x.2.2.length=x.1) (fun x=>[(0, .int .i64 n),(4, .int .i64 (zcp n)),(5, .gs x.2.1 (x.2.2.map u8)),(6, .int .i64 x.1)]) (fun x=>.tail 1 x.2.1::([]:Own)) (fun x=>zcp n - x.1) ((0, .slice none 0 0,[])) ?_ ?_ ?_);exact (⟨Nat.zero_le _,rfl,rfl⟩);(exact kxcm);(try simp only [List.cons_append,List.nil_append]);refine pl_ ?_;intro ⟨k,v,x⟩ ⟨hk,hxe,hx⟩;(try simp only [List.cons_append,List.nil_append]);(try simp only at hk hxe hx))
  | refine g_ ?_
  | ((with_reducible refine And.intro ?_ ?_);(exact zho))
  | (refine DW.cond (by rfl) ?_ ?_<;>(first | exact i0_ | (refine ic_ ?_;intro hb)))
  | ((with_reducible refine zaa ?_ ?_)<;>(intro hb;rw [hb];revert hb;(first | exact i0_ | (refine i_ ?_;intro hb))))
  | refine r_ ?_
  | refine k_ ?_
  | (refine q_ (zk1 _ _) ?_ (ha:=by exact zho))
  | refine o_ ?_
  | refine f_ ?_
  | with_reducible intro b)
 all_goals first
 | (exact kxa5)
 | (exact kxba)
 | ((obtain ⟨n0,n1⟩:=zfT (n:=n) (by omega));(rw [low7i n k n0 n1 (by omega),hi7n _ (Nat.mod_lt _ (by decide)),zcn]);refine ⟨(k+1,b,x++[zbr ((n.toNat / 128 ^ k%128+128:Nat):Int)]),⟨by (try simp only);omega,by (rw [zqC (by omega),<-hxe]),by simp [hx]⟩,by (try simp only);omega,by simp [Sub,get],?_⟩;(exact kxce);done)
 | ((obtain ⟨n0,n1⟩:=zfT (n:=n) (by omega));(rw [low7i n k n0 n1 (by omega),zcn]);refine ⟨(k+1,b,x++[zbr ((n.toNat / 128 ^ k%128:Nat):Int)]),⟨by (try simp only);omega,by (rw [zqR (by omega) (by omega),<-hxe]),by simp [hx]⟩,by (try simp only);omega,by simp [Sub,get],?_⟩;(exact kxce);done)
 | (trace_state;fail)
end
section
open Go.Shelf Go.RowKit
def zne:Go.Shelf.Ren:=⟨fun | 189=>103 | 125=>163 | 257=>162 | 128=>219 | 129=>220 | 294=>210 | 295=>211 | 296=>212 | 297=>213 | 298=>214 | 299=>215 | 216=>216 | 300=>217 | 301=>218 | 328=>254 | 329=>255 | 330=>256 | 331=>257 | 332=>258 | 215=>259 | 343=>282 | n=>n,fun | 28=>27 | 3=>3 | 46=>221 | 0=>0 | 51=>281 | 53=>283 | 4=>4 | 183=>274 | 182=>273 | 131=>148 | 5=>5 | 9=>9 | 218=>315 | 222=>319 | 228=>334 | 229=>335 | n=>n,fun | n=>n⟩
theorem laySi:Go.Proofs.Lays.n189 Tryz.prog zne:={
 mixed:=by kernel_rfl
 f125:=Tryz.func163.trans (congrArg some (by kernel_rfl))
 f128:=Tryz.func219.trans (congrArg some (by kernel_rfl))
 f129:=Tryz.func220.trans (congrArg some (by kernel_rfl))
 f189:=Tryz.func103.trans (congrArg some (by kernel_rfl))
 f215:=Tryz.func259.trans (congrArg some (by kernel_rfl))
 f216:=Tryz.func216.trans (congrArg some (by kernel_rfl))
 f257:=Tryz.func162.trans (congrArg some (by kernel_rfl))
 f294:=Tryz.func210.trans (congrArg some (by kernel_rfl))
 f295:=Tryz.func211.trans (congrArg some (by kernel_rfl))
 f296:=Tryz.func212.trans (congrArg some (by kernel_rfl))
 f297:=Tryz.func213.trans (congrArg some (by kernel_rfl))
 f298:=Tryz.func214.trans (congrArg some (by kernel_rfl))
 f299:=Tryz.func215.trans (congrArg some (by kernel_rfl))
 f300:=Tryz.func217.trans (congrArg some (by kernel_rfl))
 f301:=Tryz.func218.trans (congrArg some (by kernel_rfl))
 f328:=Tryz.func254.trans (congrArg some (by kernel_rfl))
 f329:=Tryz.func255.trans (congrArg some (by kernel_rfl))
 f330:=Tryz.func256.trans (congrArg some (by kernel_rfl))
 f331:=Tryz.func257.trans (congrArg some (by kernel_rfl))
 f332:=Tryz.func258.trans (congrArg some (by kernel_rfl))
 f343:=Tryz.func282.trans (congrArg some (by kernel_rfl))
 t0:=Tryz.underlying0
 a0:=Tryz.isAgg0
 z0:=Tryz.sizeOf0
 v0:=Tryz.zeroValue0
 t3:=Tryz.underlying3
 a3:=Tryz.isAgg3
 z3:=Tryz.sizeOf3
 v3:=Tryz.zeroValue3
 t4:=Tryz.underlying4
 a4:=Tryz.isAgg4
 z4:=Tryz.sizeOf4
 v4:=Tryz.zeroValue4
 t5:=Tryz.underlying5
 a5:=Tryz.isAgg5
 z5:=Tryz.sizeOf5
 v5:=Tryz.zeroValue5
 t9:=Tryz.underlying9
 a9:=Tryz.isAgg9
 z9:=Tryz.sizeOf9
 v9:=Tryz.zeroValue9
 t28:=Tryz.underlying27
 a28:=Tryz.isAgg27
 z28:=Tryz.sizeOf27
 v28:=Tryz.zeroValue27
 t46:=Tryz.underlying221
 a46:=Tryz.isAgg221
 z46:=Tryz.sizeOf221
 v46:=Tryz.zeroValue221
 t51:=Tryz.underlying281
 a51:=Tryz.isAgg281
 z51:=Tryz.sizeOf281
 v51:=Tryz.zeroValue281
 t53:=Tryz.underlying283
 a53:=Tryz.isAgg283
 z53:=Tryz.sizeOf283
 v53:=Tryz.zeroValue283
 t131:=Tryz.underlying148
 a131:=Tryz.isAgg148
 z131:=Tryz.sizeOf148
 v131:=Tryz.zeroValue148
 t182:=Tryz.underlying273
 a182:=Tryz.isAgg273
 z182:=Tryz.sizeOf273
 v182:=Tryz.zeroValue273
 t183:=Tryz.underlying274
 a183:=Tryz.isAgg274
 z183:=Tryz.sizeOf274
 v183:=Tryz.zeroValue274
 t218:=Tryz.underlying315
 a218:=Tryz.isAgg315
 z218:=Tryz.sizeOf315
 v218:=Tryz.zeroValue315
 t222:=Tryz.underlying319
 a222:=Tryz.isAgg319
 z222:=Tryz.sizeOf319
 v222:=Tryz.zeroValue319
 t228:=Tryz.underlying334
 a228:=Tryz.isAgg334
 z228:=Tryz.sizeOf334
 v228:=Tryz.zeroValue334
 t229:=Tryz.underlying335
 a229:=Tryz.isAgg335
 z229:=Tryz.sizeOf335
 v229:=Tryz.zeroValue335 }
end
end Go.Proofs.YtgekknefphagbaaGreatDoor
