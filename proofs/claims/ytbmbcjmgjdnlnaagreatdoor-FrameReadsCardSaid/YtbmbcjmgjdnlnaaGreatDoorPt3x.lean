/- The last deed that was seen; how dots, routes stand. -/
import Derived.Test.YtbmbcjmgjdnlnaaGreatDoorPt1x
import Derived.KernelRfl
import Derived.Shelf.Strings.Split
import Derived.Test.YtbmbcjmgjdnlnaaGreatDoorProg
namespace Go.Proofs.YtbmbcjmgjdnlnaaGreatDoor
open Go.RowKit
set_option linter.unusedSimpArgs false
set_option linter.unusedVariables false
set_option linter.unusedSectionVars false
set_option maxHeartbeats 4000000
set_option maxRecDepth 100000
section
theorem found_lt {l:List TDot} {x:TDot} (h:foundB l x=true):placeD l x<l.length:=by
 simp only [foundB,Bool.and_eq_true,decide_eq_true_eq] at h;exact h.1
theorem bsd2_dc (l:List TDot) (x1 x2 x3:Int) (F:Own):(rightB l=true/\l.length<=1000000000)->DC Tryz.prog 197 [.sl (l.map encDot), .agg [.int .i64 x1, .int .i64 x2, .int .i64 x3], .fn (.func 125) [] []] (([]:Own)++F) fun d G=>(foundB l ⟨x1,x2,x3⟩=true/\placeD l ⟨x1,x2,x3⟩<l.length/\d = .tup [.int .i64 (placeD l ⟨x1,x2,x3⟩), .bool true]\/foundB l ⟨x1,x2,x3⟩=false/\d = .tup [.int .i64 (placeD l ⟨x1,x2,x3⟩), .bool false])/\G=[]++F:=fun h =>
 (bsd_dc l x1 x2 x3 F h).mono fun d G ⟨h1,h2⟩=>⟨by
   cases hf:foundB l ⟨x1,x2,x3⟩ with
   | true=>rw [hf] at h1;exact .inl ⟨rfl,found_lt hf,h1⟩
   | false=>rw [hf] at h1;exact .inr ⟨rfl,h1⟩,h2⟩
theorem top_wrong {l:List TDot} (h:rightB l=false) (n e:Int):topM l n e=0:=by rw [topM,if_neg (by rw [h];simp)]
theorem before_dec (a b:TDot):decide (orI (livesI a b) (cmpI a.n b.n)<0)=before a b:=by
 rw [Bool.eq_iff_iff,decide_eq_true_iff];exact before_lt a b
theorem order_dec (a b:TRoute):decide (orderI a b<0)=rbefore a b:=by
 rw [Bool.eq_iff_iff,decide_eq_true_iff];exact orderI_lt a b
attribute [local irreducible] DW SeqD DV DOp DC DVX
section
attribute [local push_cast 2000] encDot dot_eta
theorem topd_dc (l:List TDot) (x1 x2 x3:Int) (F:Own):(rightB l=true/\l.length<=1000000000)->DC Tryz.prog 220 [.sl (l.map encDot), .agg [.int .i64 x1, .int .i64 x2, .int .i64 x3]] (([]:Own)++F) fun d G=>d = .int .i64 (topM l x1 x2)/\G=[]++F:=by
 intro hA
 obtain ⟨hr,hl⟩:=hA
 refine DC.bodyS (n_:=19) (show Tryz.prog.funcs[220]? = some Tryz.f220 by kernel_rfl) rfl rfl (by rfl) ?_
 simp only [env0,List.cons_append,List.nil_append]
 have kw:=ksIs [0,1,3,4,5,6,13]
 have ow:=ownIs []
 have ht:=top_bs hr x1 x2 x3
 repeat' (first
  | refine g_ ?_
  | ((with_reducible refine And.intro ?_ ?_);(exact sv))
  | (refine DW.cond (by rfl) ?_ ?_<;>(first | exact i0_ | (refine ic_ ?_;intro hb)))
  | ((with_reducible refine FVg_cases ?_ ?_)<;>(intro hb;rw [hb];revert hb;(first | exact i0_ | (refine i_ ?_;intro hb))))
  | refine r_ ?_
  | refine k_ ?_
  | (refine p_ (bsd2_dc _ _ _ _ _) ?_;rintro d H1 ⟨⟨hf,hpl,rfl⟩ | ⟨hf,rfl⟩,rfl⟩<;>refine s_ ?_)
  | refine o_ ?_
  | refine f_ ?_
  | with_reducible intro b)
 all_goals first
 | (rw [ht,if_pos hf];(first | exact fin_ | refine finq_ ?_);done)
 | (rw [ht,if_neg (by rw [hf];simp)];(first | exact fin_ | refine finq_ ?_);done)
end
theorem ptop_dc (l:List TDot) (node epoch:Int) (F:Own):(l.length<=1000000000)->DC Tryz.prog 178 [.sl (l.map encDot), .int .i64 node, .int .i64 epoch] (([]:Own)++F) fun d G=>d = .int .i64 (topM l node epoch)/\G=[]++F:=by
 intro hA
 have hl:=hA
 refine DC.bodyS (n_:=15) (show Tryz.prog.funcs[178]? = some Tryz.f178 by kernel_rfl) rfl rfl (by rfl) ?_
 simp only [env0,List.cons_append,List.nil_append]
 have kw:=ksIs [0,1,2,6,9]
 have ow:=ownIs []
 repeat' (first
  | refine g_ ?_
  | ((with_reducible refine And.intro ?_ ?_);(exact sv))
  | (refine DW.cond (by rfl) ?_ ?_<;>(first | exact i0_ | (refine ic_ ?_;intro hb)))
  | ((with_reducible refine FVg_cases ?_ ?_)<;>(intro hb;rw [hb];revert hb;(first | exact i0_ | (refine i_ ?_;intro hb))))
  | refine r_ ?_
  | refine k_ ?_
  | (refine q_ (pright_dc _ _) ?_)
  | (refine q_ (topd_dc _ _ _ _ _) ?_)
  | refine o_ ?_
  | refine f_ ?_
  | with_reducible intro b)
 all_goals first
 | (rw [top_wrong (by assumption)];(first | exact fin_ | refine finq_ ?_);done)
 | ((first | exact fin_ | refine finq_ ?_);done)
theorem pbefore_dc (a1 a2 a3 b1 b2 b3:Int) (F:Own):(True)->DC Tryz.prog 200 [.agg [.int .i64 a1, .int .i64 a2, .int .i64 a3], .agg [.int .i64 b1, .int .i64 b2, .int .i64 b3]] (([]:Own)++F) fun d G=>d = .bool (before ⟨a1,a2,a3⟩ ⟨b1,b2,b3⟩)/\G=[]++F:=by
 intro hA
 refine DC.bodyS (n_:=16) (show Tryz.prog.funcs[200]? = some Tryz.f200 by kernel_rfl) rfl rfl (by rfl) ?_
 simp only [env0,List.cons_append,List.nil_append]
 have kw:=ksIs [0,1,2,3,4]
 have ow:=ownIs []
 have dw1:=drIs 1 [] [0,1,2,4,6,7,9]
 repeat' (first
  | refine g_ ?_
  | ((with_reducible refine And.intro ?_ ?_);(exact sv))
  | (refine DW.cond (by rfl) ?_ ?_<;>(first | exact i0_ | (refine ic_ ?_;intro hb)))
  | ((with_reducible first | refine FVg_cases ?_ ?_ | refine FDg_cases ?_ ?_)<;>(intro hb;rw [hb];revert hb;(first | exact i0_ | (refine i_ ?_;intro hb))))
  | refine r_ ?_
  | refine d_ ?_
  | refine k_ ?_
  | ((refine dm_ ?_);(first | ((first | refine v_ (cmpi_dc _ _ _) ?_ | refine v_ (or2_dc _ _ _) ?_ | refine v_ (lives_dc _ _ _ _ _ _ _) ?_))))
  | refine vo_ ?_
  | ((first | refine q_ (cmpi_dc _ _ _) ?_ | refine q_ (or2_dc _ _ _) ?_ | refine q_ (lives_dc _ _ _ _ _ _ _) ?_))
  | refine o_ ?_
  | refine f_ ?_
  | refine vm_ ?_
  | with_reducible intro b)
 all_goals
  refine ⟨_,_,le.of_eq ?_,⟨rfl,rfl⟩,SubP.refl⟩
  rw [<-before_dec]
theorem order_dc (a1 a2 a3:Int) (f1:Str) (b1 b2 b3:Int) (f2:Str) (F:Own):(True)->DC Tryz.prog 175 [.agg [.int .i64 a1, .int .i64 a2, .int .i64 a3, .str f1], .agg [.int .i64 b1, .int .i64 b2, .int .i64 b3, .str f2]] (([]:Own)++F) fun d G=>d = .int .i64 (orderI ⟨⟨a1,a2,a3⟩,f1⟩ ⟨⟨b1,b2,b3⟩,f2⟩)/\G=[]++F:=by
 intro hA
 refine DC.bodyS (n_:=26) (show Tryz.prog.funcs[175]? = some Tryz.f175 by kernel_rfl) rfl rfl (by rfl) ?_
 simp only [env0,List.cons_append,List.nil_append]
 have kw:=ksIs [0,1,2,3,4,5,12,14,20]
 have ow:=ownIs []
 repeat' (first
  | refine g_ ?_
  | ((with_reducible refine And.intro ?_ ?_);(exact sv))
  | (refine DW.cond (by rfl) ?_ ?_<;>(first | exact i0_ | (refine ic_ ?_;intro hb)))
  | ((with_reducible refine FVg_cases ?_ ?_)<;>(intro hb;rw [hb];revert hb;(first | exact i0_ | (refine i_ ?_;intro hb))))
  | refine r_ ?_
  | refine k_ ?_
  | (refine q_ (cmps_dc _ _ _) ?_)
  | (refine q_ (pbefore_dc _ _ _ _ _ _ _) ?_)
  | refine o_ ?_
  | refine f_ ?_
  | with_reducible intro b)
 all_goals
  refine ⟨_,_,le.of_eq ?_,⟨rfl,rfl⟩,SubP.refl⟩
  unfold orderI
  simp_all
theorem prbefore_dc (a1 a2 a3:Int) (f1:Str) (b1 b2 b3:Int) (f2:Str) (F:Own):(True)->DC Tryz.prog 106 [.agg [.int .i64 a1, .int .i64 a2, .int .i64 a3, .str f1], .agg [.int .i64 b1, .int .i64 b2, .int .i64 b3, .str f2]] (([]:Own)++F) fun d G=>d = .bool (rbefore ⟨⟨a1,a2,a3⟩,f1⟩ ⟨⟨b1,b2,b3⟩,f2⟩)/\G=[]++F:=by
 intro hA
 refine DC.bodyS (n_:=9) (show Tryz.prog.funcs[106]? = some Tryz.f106 by kernel_rfl) rfl rfl (by rfl) ?_
 simp only [env0,List.cons_append,List.nil_append]
 have kw:=ksIs [0,1,2,3,4]
 have ow:=ownIs []
 repeat' (first
  | refine g_ ?_
  | ((with_reducible refine And.intro ?_ ?_);(exact sv))
  | (refine DW.cond (by rfl) ?_ ?_<;>(first | exact i0_ | (refine ic_ ?_;intro hb)))
  | ((with_reducible refine FVg_cases ?_ ?_)<;>(intro hb;rw [hb];revert hb;(first | exact i0_ | (refine i_ ?_;intro hb))))
  | refine r_ ?_
  | refine k_ ?_
  | (refine q_ (order_dc _ _ _ _ _ _ _ _ _) ?_)
  | refine o_ ?_
  | refine f_ ?_
  | with_reducible intro b)
 all_goals
  refine ⟨_,_,le.of_eq ?_,⟨rfl,rfl⟩,SubP.refl⟩
  rw [<-order_dec]
end
section
open Go.Shelf Go.RowKit
def laySplit_ren:Go.Shelf.Ren:=⟨fun | 146=>218 | 221=>258 | 268=>276 | 138=>277 | 143=>278 | 195=>284 | 197=>285 | 218=>286 | 219=>287 | 260=>288 | 217=>289 | 225=>290 | 224=>291 | 267=>292 | 266=>293 | 314=>294 | n=>n,fun | 9=>9 | 31=>121 | 3=>3 | 4=>4 | 0=>0 | 105=>229 | 21=>21 | 5=>5 | 46=>158 | 119=>274 | 139=>277 | 138=>276 | 146=>285 | 51=>224 | n=>n,fun | 1=>3 | 3=>1 | 4=>2 | n=>n⟩
theorem laySplit:Go.Proofs.Lays.n146 Tryz.prog laySplit_ren:={
 mixed:=by kernel_rfl
 f138:=Tryz.func277.trans (congrArg some (by kernel_rfl))
 f143:=Tryz.func278.trans (congrArg some (by kernel_rfl))
 f146:=Tryz.func218.trans (congrArg some (by kernel_rfl))
 f195:=Tryz.func284.trans (congrArg some (by kernel_rfl))
 f197:=Tryz.func285.trans (congrArg some (by kernel_rfl))
 f217:=Tryz.func289.trans (congrArg some (by kernel_rfl))
 f218:=Tryz.func286.trans (congrArg some (by kernel_rfl))
 f219:=Tryz.func287.trans (congrArg some (by kernel_rfl))
 f221:=Tryz.func258.trans (congrArg some (by kernel_rfl))
 f224:=Tryz.func291.trans (congrArg some (by kernel_rfl))
 f225:=Tryz.func290.trans (congrArg some (by kernel_rfl))
 f260:=Tryz.func288.trans (congrArg some (by kernel_rfl))
 f266:=Tryz.func293.trans (congrArg some (by kernel_rfl))
 f267:=Tryz.func292.trans (congrArg some (by kernel_rfl))
 f268:=Tryz.func276.trans (congrArg some (by kernel_rfl))
 f314:=Tryz.func294.trans (congrArg some (by kernel_rfl))
 t0:=Tryz.underlying0
 a0:=Tryz.isAgg0
 z0:=Tryz.sizeOf0
 v0:=Tryz.zeroValue0
 t3:=Tryz.underlying3
 a3:=Tryz.isAgg3
 z3:=Tryz.sizeOf3
 v3:=Tryz.zeroValue3
 t4:=Tryz.underlying4
 a4:=Tryz.isAgg4
 z4:=Tryz.sizeOf4
 v4:=Tryz.zeroValue4
 t5:=Tryz.underlying5
 a5:=Tryz.isAgg5
 z5:=Tryz.sizeOf5
 v5:=Tryz.zeroValue5
 t9:=Tryz.underlying9
 a9:=Tryz.isAgg9
 z9:=Tryz.sizeOf9
 v9:=Tryz.zeroValue9
 t21:=Tryz.underlying21
 a21:=Tryz.isAgg21
 z21:=Tryz.sizeOf21
 v21:=Tryz.zeroValue21
 t31:=Tryz.underlying121
 a31:=Tryz.isAgg121
 z31:=Tryz.sizeOf121
 v31:=Tryz.zeroValue121
 t46:=Tryz.underlying158
 a46:=Tryz.isAgg158
 z46:=Tryz.sizeOf158
 v46:=Tryz.zeroValue158
 t51:=Tryz.underlying224
 a51:=Tryz.isAgg224
 z51:=Tryz.sizeOf224
 v51:=Tryz.zeroValue224
 t105:=Tryz.underlying229
 a105:=Tryz.isAgg229
 z105:=Tryz.sizeOf229
 v105:=Tryz.zeroValue229
 t119:=Tryz.underlying274
 a119:=Tryz.isAgg274
 z119:=Tryz.sizeOf274
 t138:=Tryz.underlying276
 a138:=Tryz.isAgg276
 z138:=Tryz.sizeOf276
 v138:=Tryz.zeroValue276
 t139:=Tryz.underlying277
 a139:=Tryz.isAgg277
 z139:=Tryz.sizeOf277
 v139:=Tryz.zeroValue277
 t146:=Tryz.underlying285
 a146:=Tryz.isAgg285
 z146:=Tryz.sizeOf285
 v146:=Tryz.zeroValue285
 g1:=by kernel_rfl
 g3:=by kernel_rfl
 g4:=by kernel_rfl }
end
end Go.Proofs.YtbmbcjmgjdnlnaaGreatDoor
