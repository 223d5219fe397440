/- A route goes. -/
import Derived.Test.YtbmbcjmgjdnlnaaGreatDoorPtax
import Derived.KernelRfl
import Derived.Shelf.Strings.Split
import Derived.Test.YtbmbcjmgjdnlnaaGreatDoorProg
namespace Go.Proofs.YtbmbcjmgjdnlnaaGreatDoor
open Go.RowKit
set_option linter.unusedSimpArgs false
set_option linter.unusedVariables false
set_option linter.unusedSectionVars false
set_option maxHeartbeats 4000000
set_option maxRecDepth 100000
section
def fencedP (node epoch:Int) (x:TFence):Bool:=x.node==node&&decide (epoch<=x.epoch)
theorem any_fenced (fe:List TFence) (node epoch:Int):fe.any (fencedP node epoch)=fencedL fe node epoch:=by
 rw [Bool.eq_iff_iff,fenced_iff,List.any_eq_true]
 simp only [fencedP,Bool.and_eq_true,beq_iff_eq,decide_eq_true_eq]
attribute [local irreducible] DW SeqD DV DOp DC DVX DVJ
theorem sv_contf_dc {p:Prop} (h:p:=by first | exact sv | exact ⟨hcl,hl⟩ | fail):p:=h
theorem contf_dc (l:List TFence) (g:FuncId) (c1 c2:V) (p:TFence->Bool) (F:Own):((∀ (a b:Int) (F:Own),True->DC Tryz.prog g [.agg [.int .i64 a, .int .i64 b],c1,c2] (([]:Own)++F) fun d G=>d = .bool (p ⟨a,b⟩)/\G=[]++F)/\l.length<=1000000000)->DC Tryz.prog 171 [.sl (l.map encFence), .fn (.func g) [] [c1,c2]] (([]:Own)++F) fun d G=>d = .bool (l.any p)/\G=[]++F:=by
 intro hA
 obtain ⟨hcl,hl⟩:=hA
 refine DC.bodyS (n_:=9) (show Tryz.prog.funcs[171]? = some Tryz.f171 by kernel_rfl) rfl rfl (by rfl) ?_
 simp only [env0,List.cons_append,List.nil_append]
 have kw:=ksIs [0,1,4]
 have ow:=ownIs []
 repeat' (first
  | refine g_ ?_
  | ((with_reducible refine And.intro ?_ ?_);(exact sv_contf_dc))
  | (refine DW.cond (by rfl) ?_ ?_<;>(first | exact i0_ | (refine ic_ ?_;intro hb)))
  | ((with_reducible refine FVg_cases ?_ ?_)<;>(intro hb;rw [hb];revert hb;(first | exact i0_ | (refine i_ ?_;intro hb))))
  | refine r_ ?_
  | refine k_ ?_
  | (refine p_ (idxf_dc _ _ _ _ _ _) ?_ (ha:=by exact sv_contf_dc);rintro d H1 ⟨⟨hnn,rfl⟩ | ⟨k,hk,rfl⟩,rfl⟩<;>refine s_ ?_)
  | refine o_ ?_
  | refine f_ ?_
  | with_reducible intro b)
 all_goals first
 | (have e:=any_no hnn
    rw [e];(first | exact fin_ | refine finq_ ?_);done)
 | (have e:=any_yes (p:=p) hk.1 hk.2.1
    refine ⟨_,_,?_,⟨rfl,rfl⟩,?_⟩;rotate_left;(exact sub_);(exact le.of_eq (by rw [e];simp));done)
theorem fcl_dc (node epoch a b:Int) (F:Own):(True)->DC Tryz.prog 172 [.agg [.int .i64 a, .int .i64 b], .sp [.int .i64 node], .sp [.int .i64 epoch]] (([]:Own)++F) fun d G=>d = .bool (fencedP node epoch ⟨a,b⟩)/\G=[]++F:=by
 intro hA
 refine DC.bodyS (n_:=15) (show Tryz.prog.funcs[172]? = some Tryz.f172 by kernel_rfl) rfl rfl (by rfl) ?_
 simp only [env0,List.cons_append,List.nil_append]
 have kw:=ksIs [0,1,2,3,4]
 have ow:=ownIs []
 repeat' (first
  | refine g_ ?_
  | ((with_reducible refine And.intro ?_ ?_);(exact sv))
  | (refine DW.cond (by rfl) ?_ ?_<;>(first | exact i0_ | (refine ic_ ?_;intro hb)))
  | ((with_reducible refine FVg_cases ?_ ?_)<;>(intro hb;rw [hb];revert hb;(first | exact i0_ | (refine i_ ?_;intro hb))))
  | refine r_ ?_
  | refine k_ ?_
  | refine o_ ?_
  | refine f_ ?_
  | with_reducible intro b)
 all_goals
  refine ⟨_,_,le.of_eq ?_,⟨rfl,rfl⟩,SubP.refl⟩
  unfold fencedP
  simp_all
theorem contF_dc (l:List TFence) (node epoch:Int) (F:Own):l.length<=1000000000->DC Tryz.prog 171 [.sl (l.map encFence), .fn (.func 172) [] [.sp [.int .i64 node], .sp [.int .i64 epoch]]] (([]:Own)++F) fun d G=>d = .bool (fencedL l node epoch)/\G=[]++F:=fun h=>by
 rw [<-any_fenced]
 exact contf_dc l 172 _ _ (fencedP node epoch) F ⟨fun a b F _=>fcl_dc node epoch a b F trivial,h⟩
theorem pfenced_dc (se:List TDot) (fe:List TFence) (ro:List TRoute) (ce:List TCell) (node epoch:Int) (F:Own):(fe.length<=1000000000)->DC Tryz.prog 103 [.agg [.sl (se.map encDot), .sl (fe.map encFence), .sl (ro.map encRoute), .sl (ce.map encCell)], .int .i64 node, .int .i64 epoch] (([]:Own)++F) fun d G=>d = .bool (fencedL fe node epoch)/\G=[]++F:=by
 intro hA
 have hf:=hA
 refine DC.bodyS (n_:=11) (show Tryz.prog.funcs[103]? = some Tryz.f103 by kernel_rfl) rfl rfl (by rfl) ?_
 simp only [env0,List.cons_append,List.nil_append]
 have kw:=ksIs [0,1,2,3,4,5,6]
 have ow:=ownIs []
 repeat' (first
  | refine g_ ?_
  | ((with_reducible refine And.intro ?_ ?_);(exact sv))
  | (refine DW.cond (by rfl) ?_ ?_<;>(first | exact i0_ | (refine ic_ ?_;intro hb)))
  | ((with_reducible refine FVg_cases ?_ ?_)<;>(intro hb;rw [hb];revert hb;(first | exact i0_ | (refine i_ ?_;intro hb))))
  | refine r_ ?_
  | refine k_ ?_
  | (refine q_ (contF_dc _ _ _ _) ?_)
  | refine o_ ?_
  | refine f_ ?_
  | with_reducible intro b)
 (first | exact fin_ | refine finq_ ?_)
 all_goals rfl
end
section
attribute [local irreducible] DW SeqD DV DOp DC DVX DVJ
section
attribute [local push_cast 2000] encFence encFence_eta half_eq
end
section
attribute [local push_cast 2000] encRoute encRoute_eta
end
section
attribute [local push_cast 2000] encRoute encRoute_eta Nat.sub_zero
end
end
section
open Go.Shelf Go.RowKit
def laySplit_ren:Go.Shelf.Ren:=⟨fun | 146=>218 | 221=>258 | 268=>276 | 138=>277 | 143=>278 | 195=>284 | 197=>285 | 218=>286 | 219=>287 | 260=>288 | 217=>289 | 225=>290 | 224=>291 | 267=>292 | 266=>293 | 314=>294 | n=>n,fun | 9=>9 | 31=>121 | 3=>3 | 4=>4 | 0=>0 | 105=>229 | 21=>21 | 5=>5 | 46=>158 | 119=>274 | 139=>277 | 138=>276 | 146=>285 | 51=>224 | n=>n,fun | 1=>3 | 3=>1 | 4=>2 | n=>n⟩
theorem laySplit:Go.Proofs.Lays.n146 Tryz.prog laySplit_ren:={
 mixed:=by kernel_rfl
 f138:=Tryz.func277.trans (congrArg some (by kernel_rfl))
 f143:=Tryz.func278.trans (congrArg some (by kernel_rfl))
 f146:=Tryz.func218.trans (congrArg some (by kernel_rfl))
 f195:=Tryz.func284.trans (congrArg some (by kernel_rfl))
 f197:=Tryz.func285.trans (congrArg some (by kernel_rfl))
 f217:=Tryz.func289.trans (congrArg some (by kernel_rfl))
 f218:=Tryz.func286.trans (congrArg some (by kernel_rfl))
 f219:=Tryz.func287.trans (congrArg some (by kernel_rfl))
 f221:=Tryz.func258.trans (congrArg some (by kernel_rfl))
 f224:=Tryz.func291.trans (congrArg some (by kernel_rfl))
 f225:=Tryz.func290.trans (congrArg some (by kernel_rfl))
 f260:=Tryz.func288.trans (congrArg some (by kernel_rfl))
 f266:=Tryz.func293.trans (congrArg some (by kernel_rfl))
 f267:=Tryz.func292.trans (congrArg some (by kernel_rfl))
 f268:=Tryz.func276.trans (congrArg some (by kernel_rfl))
 f314:=Tryz.func294.trans (congrArg some (by kernel_rfl))
 t0:=Tryz.underlying0
 a0:=Tryz.isAgg0
 z0:=Tryz.sizeOf0
 v0:=Tryz.zeroValue0
 t3:=Tryz.underlying3
 a3:=Tryz.isAgg3
 z3:=Tryz.sizeOf3
 v3:=Tryz.zeroValue3
 t4:=Tryz.underlying4
 a4:=Tryz.isAgg4
 z4:=Tryz.sizeOf4
 v4:=Tryz.zeroValue4
 t5:=Tryz.underlying5
 a5:=Tryz.isAgg5
 z5:=Tryz.sizeOf5
 v5:=Tryz.zeroValue5
 t9:=Tryz.underlying9
 a9:=Tryz.isAgg9
 z9:=Tryz.sizeOf9
 v9:=Tryz.zeroValue9
 t21:=Tryz.underlying21
 a21:=Tryz.isAgg21
 z21:=Tryz.sizeOf21
 v21:=Tryz.zeroValue21
 t31:=Tryz.underlying121
 a31:=Tryz.isAgg121
 z31:=Tryz.sizeOf121
 v31:=Tryz.zeroValue121
 t46:=Tryz.underlying158
 a46:=Tryz.isAgg158
 z46:=Tryz.sizeOf158
 v46:=Tryz.zeroValue158
 t51:=Tryz.underlying224
 a51:=Tryz.isAgg224
 z51:=Tryz.sizeOf224
 v51:=Tryz.zeroValue224
 t105:=Tryz.underlying229
 a105:=Tryz.isAgg229
 z105:=Tryz.sizeOf229
 v105:=Tryz.zeroValue229
 t119:=Tryz.underlying274
 a119:=Tryz.isAgg274
 z119:=Tryz.sizeOf274
 t138:=Tryz.underlying276
 a138:=Tryz.isAgg276
 z138:=Tryz.sizeOf276
 v138:=Tryz.zeroValue276
 t139:=Tryz.underlying277
 a139:=Tryz.isAgg277
 z139:=Tryz.sizeOf277
 v139:=Tryz.zeroValue277
 t146:=Tryz.underlying285
 a146:=Tryz.isAgg285
 z146:=Tryz.sizeOf285
 v146:=Tryz.zeroValue285
 g1:=by kernel_rfl
 g3:=by kernel_rfl
 g4:=by kernel_rfl }
end
end Go.Proofs.YtbmbcjmgjdnlnaaGreatDoor
