/- slices.Compact at texts, as it lies in this program (printed by the kit). -/
import Derived.Shelf.Slices.CompactS
import Derived.Test.YtgekknefphagbaaGreatDoorProg
import Derived.Test.YtgekknefphagbaaGreatDoorOax
import Derived.KernelRfl
import Derived.Test.YtgekknefphagbaaGreatDoorBdx
namespace Go.Proofs.YtgekknefphagbaaGreatDoor
open Go.Shelf Go.RowKit
set_option linter.unusedVariables false
section
def znr:Go.Shelf.Ren:=⟨fun | 194=>106 | n=>n,fun | 31=>36 | 9=>9 | 3=>3 | 4=>4 | 0=>0 | n=>n,fun | n=>n⟩
theorem layCs:Go.Proofs.Lays.n194 Tryz.prog znr:={
 mixed:=by kernel_rfl
 f194:=Tryz.func106.trans (congrArg some (by kernel_rfl))
 t0:=Tryz.underlying0
 a0:=Tryz.isAgg0
 z0:=Tryz.sizeOf0
 v0:=Tryz.zeroValue0
 t3:=Tryz.underlying3
 a3:=Tryz.isAgg3
 z3:=Tryz.sizeOf3
 v3:=Tryz.zeroValue3
 t4:=Tryz.underlying4
 a4:=Tryz.isAgg4
 z4:=Tryz.sizeOf4
 v4:=Tryz.zeroValue4
 t9:=Tryz.underlying9
 a9:=Tryz.isAgg9
 z9:=Tryz.sizeOf9
 v9:=Tryz.zeroValue9
 t31:=Tryz.underlying36
 a31:=Tryz.isAgg36
 z31:=Tryz.sizeOf36
 v31:=Tryz.zeroValue36 }
end
section
open Go.RowKit
set_option linter.unusedSimpArgs false
set_option linter.unusedSectionVars false
set_option maxHeartbeats 4000000
set_option maxRecDepth 100000
attribute [local irreducible] DW SeqD DV DOp DC DVX DVJ idsF usI sortS putM zay onlyM
theorem zo7 (l:List Str) (v:Value) (n:Nat) (F:Own):(n=l.length/\l.length<=4000000000)->DC Tryz.prog 105 [.ar v n] ([.arr 1 v (l.map V.str)]++F) fun d G=>d = .tup []/\G=[.arr 1 v ((sortS l).map V.str)]++F:=fun h =>
 DC.sortS (by kernel_rfl) l v n F ⟨h.1,by omega⟩
theorem zpw (l:List Str) (v:Value) (n:Nat) (F:Own):(n=l.length/\l.length<=4000000000)->DC Tryz.prog 106 [.ar v n] ([.arr 1 v (l.map V.str)]++F) fun d G=>∃ v',d = .ar v' (Go.Lib.compact l).length/\G=[.arr 1 v' ((Go.Lib.compact l).map V.str)]++F:=fun h =>
 DC.compactS layCs (by kernel_rfl) l v n F ⟨h.1,by omega⟩
theorem zmp (a b:List YS):a.map V.str++b.map V.str=(a++b).map V.str:=(List.map_append).symm
section
attribute [local push_cast 2000] zb4 zmp
end
end
section
open Go.RowKit
set_option linter.unusedSimpArgs false
set_option linter.unusedSectionVars false
set_option maxHeartbeats 4000000
set_option maxRecDepth 100000
theorem zb1 (a:Int) (c:Nat) (l:List (Int×Nat)):updV (.int .i64 a) (.raw (.pointer (some ⟨c,0,none⟩))) (entM (V.int .i64) pv l)=entM (V.int .i64) pv (updA a c l):=zhH (ev:=pv) a c l
attribute [local irreducible] SN.own ownT ownC ownS
attribute [local irreducible] DW SeqD DV DOp DC DVX DVJ idsF usI sortS putM zay onlyM
theorem zpl (x:SN) (now:Int) (F:Own):(SAOK x.a)->DC Tryz.prog 87 [.raw (.pointer (some ⟨x.b,0,none⟩)), .int .i64 now] ((x.own++[])++F) fun d G=>∃ x':SN,(SAOK x'.a/\x'.a=zb7 now x.a/\x'.b=x.b)/\d = .sl ((zap now x.a).map zci)/\G=x'.own++F:=fun h=>by
 rw [List.append_nil];exact sresX x now F h
theorem sagC (x:SN) (now:Int) (F:Own):(SAOK x.a)->DC Tryz.prog 53 [.raw (.pointer (some ⟨x.b,0,none⟩)), .int .i64 now] ((x.own++[])++F) fun d G=>∃ x':SN,(SAOK x'.a/\x'.a=zcJ now 8 x.a/\x'.b=x.b)/\d = .sl ((zb6 now 8 x.a.fly).map zci)/\G=x'.own++F:=fun h=>by
 rw [List.append_nil];exact sagX x now F h
theorem scliC (x:SN) (F:Own):True->DC Tryz.prog 49 [.raw (.pointer (some ⟨x.b,0,none⟩))] ((x.own++[])++F) fun d G=>d = .str x.a.name/\G=(x.own++[])++F:=fun h=>by
 rw [List.append_nil];exact scliX x F h
theorem zq3 (x:SN) (F:Own):(SAOK x.a/\x.a.subs.length<=1000000000)->DC Tryz.prog 146 [.raw (.pointer (some ⟨x.b,0,none⟩))] ((x.own++[])++F) fun d G=>d = .sl ((zar x.a.subs).map encU)/\G=(x.own++[])++F:=fun h=>by
 rw [List.append_nil];exact ssubsX x F h
theorem zaj {P Q:Prop} (q:Q) (h:Hid Q->P:=by (intro q;simp (maxSteps:=1000000) (disch:=omega) only [push_cast,↓reduceIte,reduceCtorEq,Nat.reduceAdd,Nat.reduceMul,Nat.reduceLT,Nat.reduceLeDiff,Nat.reduceEqDiff,Nat.reduceSub,Int.reduceToNat,Int.reduceLT,Int.reduceLE,Int.reduceAdd,Int.reduceSub,Int.reduceMul,Int.reduceNeg,Nat.reduceBEq,Int.reduceBEq,Int.reduceBNe,Nat.reduceBNe,Int.reduceEq,hlk,hC];exact q.1)):P:=h ⟨q⟩
attribute [local push_cast 2000] zaK zbd zaI zaV zaA zaD zbe zaF za6 za7 zba zaH zaG zbb zaC za1 zaJ zaz zbc zaE za0 zaZ zaB zax za2 zbn zb1 zbl zaY zaM zaL Option.getD_some Option.getD_none Option.isSome_some Option.isSome_none
section
theorem zgk (bb cm sm t:Nat) (M:List (Int×Nat)) (n:Int) (cb:Nat) (F:Own):(lookA n M=some cb)->DC Tryz.prog 35 [.raw (.pointer (some ⟨bb,0,none⟩)), .int .i64 n] (.blk bb [.raw (.map (some cm)), .raw (.map (some sm)), .raw (.pointer (some ⟨t,0,none⟩))] :: .map cm (entM (V.int .i64) pv M)::([]:Own)++F) fun d G=>d = .bool true/\G=(.blk bb [.raw (.map (some cm)), .raw (.map (some sm)), .raw (.pointer (some ⟨t,0,none⟩))] :: .map cm (entM (V.int .i64) pv M)::([]:Own))++F:=by
 intro hA
 have hlk:=hA
 refine DC.bodyS (n_:=12) (show Tryz.prog.funcs[35]? = some Tryz.f35 by kernel_rfl) rfl rfl (by rfl) ?_
 simp only [env0,List.cons_append,List.nil_append]
 have kw:=ksIs [0,1,4]
 have ow:=zai []
 have hC:True:=trivial
 repeat' (first
  | refine g_ ?_
  | ((with_reducible refine And.intro ?_ ?_);(exact sv))
  | (refine DW.cond (by rfl) ?_ ?_<;>(first | exact i0_ | (intro hb;(try simp only [↓reduceCtorEq,not_true_eq_false,not_false_eq_true,hbs,Int.reduceBEq,Int.reduceBNe,Int.reduceEq] at hb);(try refine zaj ?_))))
  | ((with_reducible refine zaa ?_ ?_)<;>(intro hb;rw [hb];revert hb;(first | exact i0_ | (intro hb;(try simp only [↓reduceCtorEq,not_true_eq_false,not_false_eq_true,hbs,Int.reduceBEq,Int.reduceBNe,Int.reduceEq] at hb);(try refine zaj ?_)))))
  | ((first | refine rn_ ?_ | refine kn_ ?_)<;>(refine zaj ?_))
  | ((first | (refine DOp.look_ rfl rfl ?_;(repeat (with_reducible first | refine OnM.here ?_ | refine OnM.next ?_))))<;>(refine zaj ?_))
  | ((refine on_ ?_);refine zaj ?_)
  | refine f_ ?_
  | with_reducible intro b)
 all_goals first
 | ((first | exact fin_ | refine finq_ ?_);done)
 | (trace_state;fail)
end
section
theorem zje (bb cm sm t:Nat) (M:List (Int×Nat)) (n:Int) (F:Own):(lookA n M=none)->DC Tryz.prog 35 [.raw (.pointer (some ⟨bb,0,none⟩)), .int .i64 n] (.blk bb [.raw (.map (some cm)), .raw (.map (some sm)), .raw (.pointer (some ⟨t,0,none⟩))] :: .map cm (entM (V.int .i64) pv M)::([]:Own)++F) fun d G=>d = .bool false/\G=(.blk bb [.raw (.map (some cm)), .raw (.map (some sm)), .raw (.pointer (some ⟨t,0,none⟩))] :: .map cm (entM (V.int .i64) pv M)::([]:Own))++F:=by
 intro hA
 have hlk:=hA
 refine DC.bodyS (n_:=12) (show Tryz.prog.funcs[35]? = some Tryz.f35 by kernel_rfl) rfl rfl (by rfl) ?_
 simp only [env0,List.cons_append,List.nil_append]
 have kw:=ksIs [0,1,4]
 have ow:=zai []
 have hC:True:=trivial
 repeat' (first
  | refine g_ ?_
  | ((with_reducible refine And.intro ?_ ?_);(exact sv))
  | (refine DW.cond (by rfl) ?_ ?_<;>(first | exact i0_ | (intro hb;(try simp only [↓reduceCtorEq,not_true_eq_false,not_false_eq_true,hbs,Int.reduceBEq,Int.reduceBNe,Int.reduceEq] at hb);(try refine zaj ?_))))
  | ((with_reducible refine zaa ?_ ?_)<;>(intro hb;rw [hb];revert hb;(first | exact i0_ | (intro hb;(try simp only [↓reduceCtorEq,not_true_eq_false,not_false_eq_true,hbs,Int.reduceBEq,Int.reduceBNe,Int.reduceEq] at hb);(try refine zaj ?_)))))
  | ((first | refine rn_ ?_ | refine kn_ ?_)<;>(refine zaj ?_))
  | ((first | (refine DOp.look_ rfl rfl ?_;(repeat (with_reducible first | refine OnM.here ?_ | refine OnM.next ?_))))<;>(refine zaj ?_))
  | ((refine on_ ?_);refine zaj ?_)
  | refine f_ ?_
  | with_reducible intro b)
 all_goals first
 | ((first | exact fin_ | refine finq_ ?_);done)
 | (trace_state;fail)
end
theorem zoE (bb cm sm t:Nat) (M:List (Int×Nat)) (n:Int) (F:Own):True->DC Tryz.prog 35 [.raw (.pointer (some ⟨bb,0,none⟩)), .int .i64 n] ((.blk bb [.raw (.map (some cm)), .raw (.map (some sm)), .raw (.pointer (some ⟨t,0,none⟩))] :: .map cm (entM (V.int .i64) pv M)::([]:Own))++F) fun d G=>d = .bool (lookA n M).isSome/\G=(.blk bb [.raw (.map (some cm)), .raw (.map (some sm)), .raw (.pointer (some ⟨t,0,none⟩))] :: .map cm (entM (V.int .i64) pv M)::([]:Own))++F:=fun _=>by
 cases h:lookA n M with
 | none=>exact zje bb cm sm t M n F h
 | some cb=>exact zgk bb cm sm t M n cb F h
theorem zn7  (F:Own):(True)->DC Tryz.prog 36 [] (([]:Own)++F) fun d G=>∃ b,d = .raw (.pointer (some ⟨b,0,none⟩))/\G = .blk b [.gs (.slice none 0 0) [], .int .i64 0]::F:=by
 intro hA
 refine DC.bodyS (n_:=3) (show Tryz.prog.funcs[36]? = some Tryz.f36 by kernel_rfl) rfl rfl (by rfl) ?_
 simp only [env0,List.cons_append,List.nil_append]
 have kw:=ksIs [0]
 have ow:=zai [2]
 repeat' (first
  | refine g_ ?_
  | ((with_reducible refine And.intro ?_ ?_);(exact sv))
  | (refine DW.cond (by rfl) ?_ ?_<;>(first | exact i0_ | (refine ic_ ?_;intro hb)))
  | ((with_reducible refine zaa ?_ ?_)<;>(intro hb;rw [hb];revert hb;(first | exact i0_ | (refine i_ ?_;intro hb))))
  | refine r_ ?_
  | refine k_ ?_
  | refine o_ ?_
  | refine f_ ?_
  | ((fail_if_success (have zz:=b1));with_reducible intro b1)
  | with_reducible intro b)
 all_goals first
 | ((refine ⟨_,_,le.rfl_,⟨b1,rfl,rfl⟩,?_⟩);(exact sub_);done)
 | (trace_state;fail)
section
end
section
theorem zoU (bb cm sm t:Nat) (M:List (Int×Nat)) (n now:Int) (cb:Nat) (F:Own):(lookA n M=some cb/\0<=n/\n<16)->DC Tryz.prog 13 [.raw (.pointer (some ⟨bb,0,none⟩)), .int .i64 n, .int .i64 now] (.blk bb [.raw (.map (some cm)), .raw (.map (some sm)), .raw (.pointer (some ⟨t,0,none⟩))] :: .map cm (entM (V.int .i64) pv M)::([]:Own)++F) fun d G=>d = .int .i64 30/\G=(.blk bb [.raw (.map (some cm)), .raw (.map (some sm)), .raw (.pointer (some ⟨t,0,none⟩))] :: .map cm (entM (V.int .i64) pv M)::([]:Own))++F:=by
 intro hA
 obtain ⟨hlk,hn0,hn1⟩:=hA
 refine DC.bodyS (n_:=28) (show Tryz.prog.funcs[13]? = some Tryz.f13 by kernel_rfl) rfl rfl (by rfl) ?_
 simp only [env0,List.cons_append,List.nil_append]
 have kw:=ksIs [0,1,2,6,17]
 have ow:=zai []
 have dw3:=drIs 3 [10] [3,5,7]
 have hC:True:=trivial
 repeat' (first
  | refine g_ ?_
  | ((with_reducible refine And.intro ?_ ?_);(exact sv))
  | (refine DW.cond (by rfl) ?_ ?_<;>(first | exact i0_ | (intro hb;(try simp only [↓reduceCtorEq,not_true_eq_false,not_false_eq_true,hbs,Int.reduceBEq,Int.reduceBNe,Int.reduceEq] at hb);(try refine zaj ?_))))
  | ((with_reducible first | refine zaa ?_ ?_ | refine zak ?_ ?_)<;>(intro hb;rw [hb];revert hb;(first | exact i0_ | (intro hb;(try simp only [↓reduceCtorEq,not_true_eq_false,not_false_eq_true,hbs,Int.reduceBEq,Int.reduceBNe,Int.reduceEq] at hb);(try refine zaj ?_)))))
  | ((first | refine rn_ ?_ | refine dn_ ?_ | refine kn_ ?_)<;>(refine zaj ?_))
  | ((refine dm_ ?_);(first | (refine v_ (zgk _ _ _ _ _ _ _ _) ?_ (hk:=fun q=>q.1);refine zaj ?_)))
  | ((refine von_ ?_);refine zaj ?_)
  | ((first | (refine DOp.upd_ rfl rfl ?_;(repeat (with_reducible first | refine OnM.here ?_ | refine OnM.next ?_))))<;>(refine zaj ?_))
  | (refine q_ (zgk _ _ _ _ _ _ _ _) ?_ (hk:=fun q=>q.1);refine zaj ?_)
  | ((refine on_ ?_);refine zaj ?_)
  | refine f_ ?_
  | refine vm_ ?_
  | with_reducible intro b)
 all_goals first
 | ((first | exact fin_ | refine finq_ ?_);done)
 | (trace_state;fail)
end
theorem zj9 {P Q:Prop} (q:Q) (h:Hid Q->P:=by (intro q;simp (maxSteps:=1000000) (disch:=omega) only [push_cast,↓reduceIte,reduceCtorEq,Nat.reduceAdd,Nat.reduceMul,Nat.reduceLT,Nat.reduceLeDiff,Nat.reduceEqDiff,Nat.reduceSub,Int.reduceToNat,Int.reduceLT,Int.reduceLE,Int.reduceAdd,Int.reduceSub,Int.reduceMul,Int.reduceNeg,Nat.reduceBEq,Int.reduceBEq,Int.reduceBNe,Nat.reduceBNe,Int.reduceEq,hlk,hC,klS,klV];exact q.1)):P:=h ⟨q⟩
section
theorem zoS (bb cm sm t:Nat) (M:List (Int×Nat)) (n now:Int) (F:Own):(lookA n M=none/\0<=n/\n<16)->DC Tryz.prog 13 [.raw (.pointer (some ⟨bb,0,none⟩)), .int .i64 n, .int .i64 now] (.blk bb [.raw (.map (some cm)), .raw (.map (some sm)), .raw (.pointer (some ⟨t,0,none⟩))] :: .map cm (entM (V.int .i64) pv M)::([]:Own)++F) fun d G=>∃ cb st:Nat,d = .int .i64 0/\G = .blk bb [.raw (.map (some cm)), .raw (.map (some sm)), .raw (.pointer (some ⟨t,0,none⟩))] :: .map cm (entM (V.int .i64) pv (updA n cb M)) :: .blk cb [.raw (.pointer (some ⟨st,0,none⟩)), .int .i64 (zal now), .raw (.pointer none), .int .i64 0, .bool false, .gs (.slice none 0 0) []] :: .blk st [.gs (.slice none 0 0) [], .int .i64 0]::F:=by
 intro hA
 obtain ⟨hlk,hn0,hn1⟩:=hA
 refine DC.bodyS (n_:=28) (show Tryz.prog.funcs[13]? = some Tryz.f13 by kernel_rfl) rfl rfl (by rfl) ?_
 simp only [env0,List.cons_append,List.nil_append]
 have kw:=ksIs [0,1,2,6,17]
 have ow:=zai [27]
 have hC:True:=trivial
 repeat' (first
  | refine g_ ?_
  | ((with_reducible refine And.intro ?_ ?_);(exact sv))
  | (refine DW.cond (by rfl) ?_ ?_<;>(first | exact i0_ | (intro hb;(try simp only [↓reduceCtorEq,not_true_eq_false,not_false_eq_true,hbs,Int.reduceBEq,Int.reduceBNe,Int.reduceEq] at hb);(try refine zj9 ?_))))
  | ((with_reducible refine zaa ?_ ?_)<;>(intro hb;rw [hb];revert hb;(first | exact i0_ | (intro hb;(try simp only [↓reduceCtorEq,not_true_eq_false,not_false_eq_true,hbs,Int.reduceBEq,Int.reduceBNe,Int.reduceEq] at hb);(try refine zj9 ?_)))))
  | ((first | refine rn_ ?_ | refine kn_ ?_)<;>(refine zj9 ?_))
  | ((first | ((with_reducible apply DW.drawJ (id:=3) 0 [0,1,2,6,17] [5,7,9,10] [3] [5,7,9] (hm:=by kernel_rfl) (hd:=by kernel_rfl) (hB:=by kernel_rfl) (hN:=by kernel_rfl));(focus (exact rfl));(repeat (with_reducible first | refine OnB.here ?_ | refine OnB.mid ?_ | refine OnB.next ?_))) | (refine DVJ.k_ rfl rfl rfl ?_) | (refine DVJ.f_ rfl rfl rfl ?_) | (refine DOp.upd_ rfl rfl ?_;(repeat (with_reducible first | refine OnM.here ?_ | refine OnM.next ?_))))<;>(simp (maxSteps:=1000000) (disch:=omega) only [push_cast,↓reduceIte,reduceCtorEq,Nat.reduceAdd,Nat.reduceMul,Nat.reduceLT,Nat.reduceLeDiff,Nat.reduceEqDiff,Nat.reduceSub,Int.reduceToNat,Int.reduceLT,Int.reduceLE,Int.reduceAdd,Int.reduceSub,Int.reduceMul,Int.reduceNeg,Nat.reduceBEq,Int.reduceBEq,Int.reduceBNe,Nat.reduceBNe,Int.reduceEq,hlk,hC,zaK,zbd,zaI,zaV,zaA,zaD,zbe,zaF,za6,za7,zba,zaH,zaG,zbb,zaC,za1,zaJ,zaz,zbc,zaE,za0,zaZ,zaB,zax,za2,zbn,zb1,zbl,zaY,zaM,zaL,Option.getD_some,Option.getD_none,Option.isSome_some,Option.isSome_none,klS,klV]))
  | (refine q_ (zje _ _ _ _ _ _ _) ?_ (hk:=fun q=>q.1);refine zj9 ?_)
  | (refine p_ (zn7 _) ?_;rintro d H1 ⟨st,rfl,rfl⟩<;>refine zj9 ?_)
  | (refine q_ (zbB _ _) ?_ (hk:=fun q=>q.1);refine zj9 ?_)
  | ((refine on_ ?_);refine zj9 ?_)
  | refine f_ ?_
  | (first | refine DVJ.ma_ rfl rfl rfl ?_ | refine DVJ.mb_ rfl rfl rfl ?_)
  | ((fail_if_success (have zz:=cb));with_reducible intro cb)
  | with_reducible intro b)
 all_goals first
 | ((refine ⟨_,_,le.rfl_,⟨cb,st,rfl,rfl⟩,?_⟩);(exact sub_);done)
 | (trace_state;fail)
end
section
theorem cliN_dc (bb cm sm t:Nat) (M:List (Int×Nat)) (n:Int) (F:Own):(lookA n M=none)->DC Tryz.prog 17 [.raw (.pointer (some ⟨bb,0,none⟩)), .int .i64 n] (.blk bb [.raw (.map (some cm)), .raw (.map (some sm)), .raw (.pointer (some ⟨t,0,none⟩))] :: .map cm (entM (V.int .i64) pv M)::([]:Own)++F) fun d G=>d = .str []/\G=(.blk bb [.raw (.map (some cm)), .raw (.map (some sm)), .raw (.pointer (some ⟨t,0,none⟩))] :: .map cm (entM (V.int .i64) pv M)::([]:Own))++F:=by
 intro hA
 have hlk:=hA
 refine DC.bodyS (n_:=26) (show Tryz.prog.funcs[17]? = some Tryz.f17 by kernel_rfl) rfl rfl (by rfl) ?_
 simp only [env0,List.cons_append,List.nil_append]
 have kw:=ksIs [0,1,4,5,20]
 have ow:=zai []
 have hC:True:=trivial
 repeat' (first
  | refine g_ ?_
  | ((with_reducible refine And.intro ?_ ?_);(exact sv))
  | (refine DW.cond (by rfl) ?_ ?_<;>(first | exact i0_ | (intro hb;(try simp only [↓reduceCtorEq,not_true_eq_false,not_false_eq_true,hbs,Int.reduceBEq,Int.reduceBNe,Int.reduceEq] at hb);(try refine zaj ?_))))
  | ((with_reducible refine zaa ?_ ?_)<;>(intro hb;rw [hb];revert hb;(first | exact i0_ | (intro hb;(try simp only [↓reduceCtorEq,not_true_eq_false,not_false_eq_true,hbs,Int.reduceBEq,Int.reduceBNe,Int.reduceEq] at hb);(try refine zaj ?_)))))
  | ((first | refine rn_ ?_ | refine kn_ ?_)<;>(refine zaj ?_))
  | ((first | (refine DOp.look_ rfl rfl ?_;(repeat (with_reducible first | refine OnM.here ?_ | refine OnM.next ?_))))<;>(refine zaj ?_))
  | ((refine on_ ?_);refine zaj ?_)
  | refine f_ ?_
  | with_reducible intro b)
 all_goals first
 | ((first | exact fin_ | refine finq_ ?_);done)
 | (trace_state;fail)
end
section
theorem cli0_dc (bb cm sm t:Nat) (M:List (Int×Nat)) (n:Int) (cb st:Nat) (hd:Int) (kp:Int) (cl:Bool) (wv:V) (F:Own):(lookA n M=some cb)->DC Tryz.prog 17 [.raw (.pointer (some ⟨bb,0,none⟩)), .int .i64 n] (.blk bb [.raw (.map (some cm)), .raw (.map (some sm)), .raw (.pointer (some ⟨t,0,none⟩))] :: .map cm (entM (V.int .i64) pv M) :: .blk cb [.raw (.pointer (some ⟨st,0,none⟩)), .int .i64 hd, .raw (.pointer none), .int .i64 kp, .bool cl,wv]::([]:Own)++F) fun d G=>d = .str []/\G=(.blk bb [.raw (.map (some cm)), .raw (.map (some sm)), .raw (.pointer (some ⟨t,0,none⟩))] :: .map cm (entM (V.int .i64) pv M) :: .blk cb [.raw (.pointer (some ⟨st,0,none⟩)), .int .i64 hd, .raw (.pointer none), .int .i64 kp, .bool cl,wv]::([]:Own))++F:=by
 intro hA
 have hlk:=hA
 refine DC.bodyS (n_:=26) (show Tryz.prog.funcs[17]? = some Tryz.f17 by kernel_rfl) rfl rfl (by rfl) ?_
 simp only [env0,List.cons_append,List.nil_append]
 have kw:=ksIs [0,1,4,5,20]
 have ow:=zai []
 have hC:True:=trivial
 repeat' (first
  | refine g_ ?_
  | ((with_reducible refine And.intro ?_ ?_);(exact sv))
  | (refine DW.cond (by rfl) ?_ ?_<;>(first | exact i0_ | (intro hb;(try simp only [↓reduceCtorEq,not_true_eq_false,not_false_eq_true,hbs,Int.reduceBEq,Int.reduceBNe,Int.reduceEq] at hb);(try refine zaj ?_))))
  | ((with_reducible refine zaa ?_ ?_)<;>(intro hb;rw [hb];revert hb;(first | exact i0_ | (intro hb;(try simp only [↓reduceCtorEq,not_true_eq_false,not_false_eq_true,hbs,Int.reduceBEq,Int.reduceBNe,Int.reduceEq] at hb);(try refine zaj ?_)))))
  | ((first | refine rn_ ?_ | refine kn_ ?_)<;>(refine zaj ?_))
  | ((first | (refine DOp.look_ rfl rfl ?_;(repeat (with_reducible first | refine OnM.here ?_ | refine OnM.next ?_))))<;>(refine zaj ?_))
  | ((refine on_ ?_);refine zaj ?_)
  | refine f_ ?_
  | with_reducible intro b)
 all_goals first
 | ((first | exact fin_ | refine finq_ ?_);done)
 | (trace_state;fail)
end
section
theorem cliS_dc (bb cm sm t:Nat) (M:List (Int×Nat)) (n:Int) (cb st:Nat) (hd:Int) (kp:Int) (cl:Bool) (wv:V) (x:SN) (F:Own):(lookA n M=some cb)->DC Tryz.prog 17 [.raw (.pointer (some ⟨bb,0,none⟩)), .int .i64 n] (.blk bb [.raw (.map (some cm)), .raw (.map (some sm)), .raw (.pointer (some ⟨t,0,none⟩))] :: .map cm (entM (V.int .i64) pv M) :: .blk cb [.raw (.pointer (some ⟨st,0,none⟩)), .int .i64 hd, .raw (.pointer (some ⟨x.b,0,none⟩)), .int .i64 kp, .bool cl,wv]::(x.own++[])++F) fun d G=>d = .str x.a.name/\G=(.blk bb [.raw (.map (some cm)), .raw (.map (some sm)), .raw (.pointer (some ⟨t,0,none⟩))] :: .map cm (entM (V.int .i64) pv M) :: .blk cb [.raw (.pointer (some ⟨st,0,none⟩)), .int .i64 hd, .raw (.pointer (some ⟨x.b,0,none⟩)), .int .i64 kp, .bool cl,wv]::(x.own++[]))++F:=by
 intro hA
 have hlk:=hA
 refine DC.bodyS (n_:=26) (show Tryz.prog.funcs[17]? = some Tryz.f17 by kernel_rfl) rfl rfl (by rfl) ?_
 simp only [env0,List.cons_append,List.nil_append]
 have kw:=ksIs [0,1,4,5,20]
 have ow:=zai []
 have hC:True:=trivial
 repeat' (first
  | refine g_ ?_
  | ((with_reducible refine And.intro ?_ ?_);(exact sv))
  | (refine DW.cond (by rfl) ?_ ?_<;>(first | exact i0_ | (intro hb;(try simp only [↓reduceCtorEq,not_true_eq_false,not_false_eq_true,hbs,Int.reduceBEq,Int.reduceBNe,Int.reduceEq] at hb);(try refine zaj ?_))))
  | ((with_reducible refine zaa ?_ ?_)<;>(intro hb;rw [hb];revert hb;(first | exact i0_ | (intro hb;(try simp only [↓reduceCtorEq,not_true_eq_false,not_false_eq_true,hbs,Int.reduceBEq,Int.reduceBNe,Int.reduceEq] at hb);(try refine zaj ?_)))))
  | ((first | refine rn_ ?_ | refine kn_ ?_)<;>(refine zaj ?_))
  | ((first | (refine DOp.look_ rfl rfl ?_;(repeat (with_reducible first | refine OnM.here ?_ | refine OnM.next ?_))))<;>(refine zaj ?_))
  | (refine q_ (scliC _ _) ?_ (hk:=fun q=>q.1);refine zaj ?_)
  | ((refine on_ ?_);refine zaj ?_)
  | refine f_ ?_
  | with_reducible intro b)
 all_goals first
 | ((first | exact fin_ | refine finq_ ?_);done)
 | (trace_state;fail)
end
section
theorem zjs  (F:Own):(True)->DC Tryz.prog 12 [] (([]:Own)++F) fun d G=>∃ (bb:Nat) (s:BN),(BOK s/\s.pl=newB)/\d = .raw (.pointer (some ⟨bb,0,none⟩))/\G=ownB bb s++F:=by
 intro hA
 refine DC.bodyS (n_:=6) (show Tryz.prog.funcs[12]? = some Tryz.f12 by kernel_rfl) rfl rfl (by rfl) ?_
 simp only [env0,List.cons_append,List.nil_append]
 have kw:=ksIs [0]
 have ow:=zai [4,5]
 repeat' (first
  | refine g_ ?_
  | ((with_reducible refine And.intro ?_ ?_);(exact sv))
  | (refine DW.cond (by rfl) ?_ ?_<;>(first | exact i0_ | (refine ic_ ?_;intro hb)))
  | ((with_reducible refine zaa ?_ ?_)<;>(intro hb;rw [hb];revert hb;(first | exact i0_ | (refine i_ ?_;intro hb))))
  | refine r_ ?_
  | refine k_ ?_
  | (refine p_ (new_dc _) ?_;rintro d H1 ⟨t,ts,rfl,⟨ht,hL⟩,rfl⟩<;>refine s_ ?_)
  | refine o_ ?_
  | refine f_ ?_
  | ((fail_if_success (have zz:=cm));with_reducible intro cm)
  | ((fail_if_success (have zz:=sm));with_reducible intro sm)
  | ((fail_if_success (have zz:=bb));with_reducible intro bb)
  | with_reducible intro b)
 all_goals first
 | (((refine ⟨_,_,le.rfl_,⟨bb,(⟨cm,sm,t,ts,[],[]⟩:BN),⟨⟨ht,List.nodup_nil,(fun _ h=>nomatch h),List.nodup_nil,(fun _ h=>nomatch h),(fun _ h=>nomatch h),(fun _ h=>nomatch h)⟩,(by unfold BN.pl newB;rw [hL];rfl)⟩,rfl,rfl⟩,?_⟩);(simp only [ownB,BN.maps,ownC,ownS,kvC,kvS,List.map_nil,za6,List.cons_append,List.nil_append]);(exact ⟨_,List.Perm.cons _ ((List.perm_append_comm_assoc (ownT t ts) [Ent.map sm [],Ent.map cm []] F).trans (List.Perm.swap _ _ _)),List.Sublist.refl _⟩)))
 | (trace_state;fail)
end
end
section
open Go.RowKit
set_option linter.unusedSimpArgs false
set_option linter.unusedSectionVars false
set_option maxHeartbeats 4000000
set_option maxRecDepth 100000
attribute [local irreducible] SN.own ownT ownC ownS zag zcN za4 zar
attribute [local irreducible] DW SeqD DV DOp DC DVX DVJ idsF usI sortS putM zay onlyM
theorem fg_y {nm:YS} {l:List (YS×Int)} {L L1:TL} {k:Nat} (hk:k<l.length) (e1:L1=za4 ((l.getD k default).1,nm) (zag nm (l.take k) L).2) (h:(zcN L1 (l.getD k default).1).length=0):zag nm (l.take (k+1)) L=((zag nm (l.take k) L).1++[(l.getD k default).1],L1):=by
 rw [ziB hk];unfold fgS;rw [<-e1,if_pos h]
theorem fg_n {nm:YS} {l:List (YS×Int)} {L L1:TL} {k:Nat} (hk:k<l.length) (e1:L1=za4 ((l.getD k default).1,nm) (zag nm (l.take k) L).2) (h:¬ (zcN L1 (l.getD k default).1).length=0):zag nm (l.take (k+1)) L=((zag nm (l.take k) L).1,L1):=by
 rw [ziB hk];unfold fgS;rw [<-e1,if_neg h]
theorem ziw (nm:YS) (l:List (YS×Int)) (L:TL):zag nm (l.take 0) L=([],L):=by rw [List.take_zero];unfold zag;rfl
theorem zl3 (nm:YS) (L:TL):(zag nm [] L).1=[]:=by unfold zag;rfl
theorem zdY (nm:YS) (l:List (YS×Int)) (L:TL):(zag nm (l.take 0) L).1=[]:=by rw [ziw]
attribute [local push_cast 2000] zaK zbd zaI zaV zaA zaD zbe zaF za6 za7 zba zaH zaG zbb zaC za1 zaJ zaz zbc zaE za0 zaZ zaB zax za2 zbn zb1 zbl zaY zaM zaL Option.getD_some Option.getD_none Option.isSome_some Option.isSome_none
section
theorem zlh (bb cm sm t:Nat) (SS:List (YS×Nat)) (nm:YS) (F:Own):(lookA nm SS=none)->DC Tryz.prog 84 [.raw (.pointer (some ⟨bb,0,none⟩)), .str nm] (.blk bb [.raw (.map (some cm)), .raw (.map (some sm)), .raw (.pointer (some ⟨t,0,none⟩))] :: .map sm (entM V.str pv SS)::([]:Own)++F) fun d G=>d = .gs (.slice none 0 0) []/\G=(.blk bb [.raw (.map (some cm)), .raw (.map (some sm)), .raw (.pointer (some ⟨t,0,none⟩))] :: .map sm (entM V.str pv SS)::([]:Own))++F:=by
 intro hA
 have hlk:=hA
 refine DC.bodyS (n_:=53) (show Tryz.prog.funcs[84]? = some Tryz.f84 by kernel_rfl) rfl rfl (by rfl) ?_
 simp only [env0,List.cons_append,List.nil_append]
 have kw:=ksIs [0,1,4,5,6,8,16,18,19,20,21,40]
 have ow:=zai []
 have dw8:=drIs 8 [] [3,5,7]
 have dw9:=drIs 9 [] [3,5,6]
 have hC:True:=trivial
 repeat' (first
  | refine g_ ?_
  | ((with_reducible refine And.intro ?_ ?_);(exact sv))
  | (refine DW.cond (by rfl) ?_ ?_<;>(first | exact i0_ | (intro hb;(try simp only [↓reduceCtorEq,not_true_eq_false,not_false_eq_true,hbs,Int.reduceBEq,Int.reduceBNe,Int.reduceEq] at hb);(try refine zaj ?_))))
  | ((with_reducible first | refine zaa ?_ ?_ | refine zak ?_ ?_)<;>(intro hb;rw [hb];revert hb;(first | exact i0_ | (intro hb;(try simp only [↓reduceCtorEq,not_true_eq_false,not_false_eq_true,hbs,Int.reduceBEq,Int.reduceBNe,Int.reduceEq] at hb);(try refine zaj ?_)))))
  | ((first | refine rn_ ?_ | refine dn_ ?_ | refine kn_ ?_)<;>(refine zaj ?_))
  | ((refine dm_ ?_);(first | (refine DVop.look_ rfl rfl rfl rfl ?_;(repeat (with_reducible first | refine OnM.here ?_ | refine OnM.next ?_));refine zaj ?_)))
  | ((refine von_ ?_);refine zaj ?_)
  | ((first | (refine DOp.look_ rfl rfl ?_;(repeat (with_reducible first | refine OnM.here ?_ | refine OnM.next ?_))) | (refine DOp.lenm_ rfl rfl ?_;(repeat (with_reducible first | refine OnM.here ?_ | refine OnM.next ?_))) | (refine DOp.delm_ rfl rfl ?_;(repeat (with_reducible first | refine OnM.here ?_ | refine OnM.next ?_))))<;>(refine zaj ?_))
  | ((refine on_ ?_);refine zaj ?_)
  | refine f_ ?_
  | refine vm_ ?_
  | with_reducible intro b)
 all_goals first
 | ((first | exact fin_ | refine finq_ ?_);done)
 | (trace_state;fail)
end
theorem zbP {p:Prop} (h:p:=by first | exact sv | exact ⟨hx,hxl⟩ | exact ⟨hT,hU _ (by omega),by omega⟩ | exact ⟨hs2,hU _ (by omega),by rw [hL2];exact Nat.le_trans (zh4 ..) hTl⟩ | fail):p:=h
section
attribute [local push_cast 2000] encU
theorem zlp (bb cm sm t:Nat) (m:Int) (SS:List (YS×Nat)) (y:SN) (ts:TS) (F:Own):(lookA y.a.name SS=some y.b/\SAOK y.a/\TOK ts/\y.a.subs.length<=1000000000/\ts.L.length<=1000000000/\(zar y.a.subs).length<=1000000000/\∀ k,k<(zar y.a.subs).length->((zar y.a.subs).getD k default).1.length<=1000000)->DC Tryz.prog 84 [.raw (.pointer (some ⟨bb,0,none⟩)), .str y.a.name] (loose::knF::knA::knM m :: .blk bb [.raw (.map (some cm)), .raw (.map (some sm)), .raw (.pointer (some ⟨t,0,none⟩))] :: .map sm (entM V.str pv SS)::(y.own++(ownT t ts++[]))++F) fun d G=>∃ (v:Value) (ts':TS),(TOK ts'/\ts'.L=(zag y.a.name (zar y.a.subs) ts.L).2)/\d = .ar v (zag y.a.name (zar y.a.subs) ts.L).1.length/\G = .arr 1 v ((zag y.a.name (zar y.a.subs) ts.L).1.map V.str)::loose::knF::knA::knM m :: .blk bb [.raw (.map (some cm)), .raw (.map (some sm)), .raw (.pointer (some ⟨t,0,none⟩))] :: .map sm (entM V.str pv (za4 y.a.name SS))::(ownT t ts'++F):=by
 intro hA
 obtain ⟨hlk,hx,hts,hxl,hLl,hUl,hU⟩:=hA
 refine DC.bodyS (n_:=53) (show Tryz.prog.funcs[84]? = some Tryz.f84 by kernel_rfl) rfl rfl (by rfl) ?_
 simp only [env0,List.append_assoc,zdY,List.map_nil,zaq,List.cons_append,List.nil_append]
 have kw:=ksIs [0,1,4,5,6,8,16,18,19,20,21,40]
 have ow:=zai []
 have dw8:=drIs 8 [7] [3,5]
 have dw9:=drIs 9 [] [3,5,6]
 have hC:True:=trivial
 repeat' (first
  | ((refine DOp.delm_ rfl rfl ?_);(repeat (with_reducible first | refine OnM.here ?_ | refine OnM.next ?_ | (refine OnM.inN (by assumption) ?_;with_reducible intro C hC) | (refine OnM.inK (by assumption) ?_;with_reducible intro C hC) | refine OnM.skip ?_));refine zaj ?_)
  | ((refine DOp.look_ rfl rfl ?_);(repeat (with_reducible first | refine OnM.here ?_ | refine OnM.next ?_ | (refine OnM.inN (by assumption) ?_;with_reducible intro C hC) | (refine OnM.inK (by assumption) ?_;with_reducible intro C hC) | refine OnM.skip ?_));refine zaj ?_)
  | ((refine DOp.load_ rfl rfl ?_);(repeat (with_reducible first | refine OnB.here ?_ | refine OnB.next ?_ | (refine OnB.inH (by assumption) ?_;with_reducible intro C) | refine OnB.skip ?_));refine zaj ?_)
  | ((refine DW.own0 1 6 (by rfl) ?_);(simp only [zdz,zew,Nat.reduceEqDiff,↓reduceIte,if_true,if_false,reduceCtorEq]);((with_reducible refine DW.loopB 0 (X:=Nat×Value×TS) (fun x=>x.1<=(zar y.a.subs).length/\TOK x.2.2/\x.2.2.L=(zag y.a.name ((zar y.a.subs).take x.1) ts.L).2) (fun x=>[(0, .raw (.pointer (some ⟨bb,0,none⟩))),(1, .str y.a.name),(6, .ar x.2.1 (zag y.a.name ((zar y.a.subs).take x.1) ts.L).1.length),(18, .sl ((zar y.a.subs).map encU)),(19, .int .i64 (zar y.a.subs).length),(20, .int .i64 x.1)]) (fun x=>.arr 1 x.2.1 ((zag y.a.name ((zar y.a.subs).take x.1) ts.L).1.map V.str)::loose::knF::knA::knM m :: .blk bb [.raw (.map (some cm)), .raw (.map (some sm)), .raw (.pointer (some ⟨t,0,none⟩))]::(ownT t x.2.2++[])) (fun x=>(zar y.a.subs).length - x.1) ((0, .slice none 0 0,ts)) ?_ ?_ ?_);exact (⟨Nat.zero_le _,hts,by rw [ziw]⟩);(simp [Sub,get,zbu,zdY,zl3]<;>fail);(try simp only [List.append_assoc,zdY,List.map_nil,zaq,List.cons_append,List.nil_append]);refine pl_ ?_;intro ⟨k,v,T⟩ ⟨hk,hT,hTL⟩;(try simp only [List.append_assoc,zdY,List.map_nil,zaq,List.cons_append,List.nil_append]);(try simp only at hk hT hTL);have hTl:T.L.length<=1000000000:=Nat.le_trans (Nat.le_of_eq (congrArg List.length hTL)) (Nat.le_trans (zfv ..) hLl);have hDl:=Nat.le_trans (zc1 y.a.name ts.L ((zar y.a.subs).take k)) (List.length_take_le ..)))
  | refine g_ ?_
  | ((with_reducible refine And.intro ?_ ?_);(exact zbP))
  | (refine DW.cond (by rfl) ?_ ?_<;>(first | exact i0_ | (intro hb;(try simp only [↓reduceCtorEq,not_true_eq_false,not_false_eq_true,hbs,Int.reduceBEq,Int.reduceBNe,Int.reduceEq] at hb);(try refine zaj ?_))))
  | ((with_reducible first | refine zaa ?_ ?_ | refine zak ?_ ?_)<;>(intro hb;rw [hb];revert hb;(first | exact i0_ | (intro hb;(try simp only [↓reduceCtorEq,not_true_eq_false,not_false_eq_true,hbs,Int.reduceBEq,Int.reduceBNe,Int.reduceEq] at hb);(try refine zaj ?_)))))
  | ((first | refine rn_ ?_ | refine dn_ ?_ | refine kn_ ?_)<;>(refine zaj ?_))
  | ((refine dm_ ?_);(first | ((first | refine v_ (zq3 _ _) ?_ (ha:=by exact zbP) (hk:=fun q=>q.1) | refine v_ (zlb _ _ _ _ _) ?_ (ha:=by exact zbP) (hk:=fun q=>q.1));refine zaj ?_) | (refine DVop.look_ rfl rfl rfl rfl ?_;(repeat (with_reducible first | refine OnM.here ?_ | refine OnM.next ?_));refine zaj ?_)))
  | ((refine von_ ?_);refine zaj ?_)
  | ((first | (refine DOp.look_ rfl rfl ?_;(repeat (with_reducible first | refine OnM.here ?_ | refine OnM.next ?_))) | (refine DOp.lenm_ rfl rfl ?_;(repeat (with_reducible first | refine OnM.here ?_ | refine OnM.next ?_))) | (refine DOp.delm_ rfl rfl ?_;(repeat (with_reducible first | refine OnM.here ?_ | refine OnM.next ?_))))<;>(refine zaj ?_))
  | ((first | refine q_ (zq3 _ _) ?_ (ha:=by exact zbP) (hk:=fun q=>q.1) | refine q_ (zlb _ _ _ _ _) ?_ (ha:=by exact zbP) (hk:=fun q=>q.1));refine zaj ?_)
  | (refine p_ (zlf _ _ _ _ _ _) ?_ (ha:=by exact zbP);rintro d H1 ⟨ts2,⟨hs2,hL2⟩,rfl,rfl⟩<;>refine zaj ?_)
  | ((refine on_ ?_);refine zaj ?_)
  | refine f_ ?_
  | refine vm_ ?_
  | ((fail_if_success (have zz:=bx));with_reducible intro bx)
  | ((fail_if_success (have zz:=v2));with_reducible intro v2)
  | with_reducible intro b)
 all_goals first
 | (((have e:=fg_y (nm:=y.a.name) (L:=ts.L) (L1:=ts2.L) (show k<(zar y.a.subs).length by omega) (by rw [hL2,hTL]) (by omega));(refine ⟨(k+1,v2,ts2),⟨by (try simp only);omega,hs2,by (try simp only);rw [e]⟩,by (try simp only);omega,?_,?_⟩);(focus ((try dsimp only);rw [e];simp [Sub,get]));((try dsimp only);rw [e];simp only [List.map_append,List.map_cons,List.map_nil]);(exact sub_);done))
 | (((have e:=fg_n (nm:=y.a.name) (L:=ts.L) (L1:=ts2.L) (show k<(zar y.a.subs).length by omega) (by rw [hL2,hTL]) (by omega));(refine ⟨(k+1,v,ts2),⟨by (try simp only);omega,hs2,by (try simp only);rw [e]⟩,by (try simp only);omega,?_,?_⟩);(focus ((try dsimp only);rw [e];simp [Sub,get]));((try dsimp only);rw [e]);(exact sub_);done))
 | (((have hkl:k=(zar y.a.subs).length:=by omega);(subst hkl);(rw [List.take_length] at hTL ⊢);(refine ⟨_,_,le.rfl_,⟨v,T,⟨hT,hTL⟩,rfl,rfl⟩,?_⟩);(exact sub_);done))
 | (trace_state;fail)
end
end
section
open Go.RowKit
set_option linter.unusedSimpArgs false
set_option linter.unusedSectionVars false
set_option maxHeartbeats 4000000
set_option maxRecDepth 100000
attribute [local irreducible] SN.own ownT ownC ownS zag zcN za4 zar zaR
attribute [local irreducible] DW SeqD DV DOp DC DVX DVJ idsF usI sortS putM zay onlyM
theorem zna (l:List YS):Go.Lib.compact (sortS l)=zaR l:=by unfold zaR;rfl
theorem zeZ {p:Prop} (h:p:=by first | exact sv | exact ⟨by omega,by omega,hl1⟩ | exact ⟨by omega,by omega,hl2⟩ | exact ⟨by omega,by omega,hl3⟩ | (refine ⟨?_,?_⟩<;>(simp only [zeR,List.length_append]<;>omega)) | fail):p:=h
attribute [local push_cast 2000] zaK zbd zaI zaV zaA zaD zbe zaF za6 za7 zba zaH zaG zbb zaC za1 zaJ zaz zbc zaE za0 zaZ zaB zax za2 zbn zb1 zbl zaY zaM zaL Option.getD_some Option.getD_none Option.isSome_some Option.isSome_none
section
attribute [local push_cast 2000] zb4 zmp zna
theorem andV_dc (D1 D2:List YS) (eb:Nat) (v1 v2 v3 v4:Value) (n1 n2 n3 n4:Nat) (c1 c2 c3 l1 l2 l3:List V) (F:Own):((n1<=1000000000/\n2<=1000000000/\n3<=1000000000/\n4=D1.length/\D1.length<=1000000000)/\(l1.length<=1000000000/\l2.length<=1000000000/\l3.length<=1000000000/\D2.length<=1000000000)/\(∀ j∈l1,j.n=4/\j.cs.all V.one=true)/\(∀ j∈l2,j.n=4/\j.cs.all V.one=true)/\(∀ j∈l3,j.n=1/\j.cs.all V.one=true))->DC Tryz.prog 52 [.raw (.pointer (some ⟨eb,0,none⟩)), .agg [.sl l1, .sl l2, .sl l3, .sl (D2.map V.str)]] (.blk eb [.ar v1 n1, .ar v2 n2, .ar v3 n3, .ar v4 n4] :: .arr 4 v1 c1 :: .arr 4 v2 c2 :: .arr 1 v3 c3 :: .arr 1 v4 (D1.map V.str)::([]:Own)++F) fun d G=>∃ (w1 w2 w3 w4:Value),d = .tup []/\G = .blk eb [.ar w1 (n1+l1.length), .ar w2 (n2+l2.length), .ar w3 (n3+l3.length), .ar w4 (zaR (D1++D2)).length] :: .arr 4 w1 (c1++cells l1) :: .arr 4 w2 (c2++cells l2) :: .arr 1 w3 (c3++cells l3) :: .arr 1 w4 ((zaR (D1++D2)).map V.str)::F:=by
 intro hA
 obtain ⟨⟨hn1,hn2,hn3,hn4,hD1⟩,⟨hb1,hb2,hb3,hb4⟩,hl1,hl2,hl3⟩:=hA
 refine DC.bodyS (n_:=57) (show Tryz.prog.funcs[52]? = some Tryz.f52 by kernel_rfl) rfl rfl (by rfl) ?_
 simp only [env0,List.cons_append,List.nil_append]
 have kw:=ksIs [0,1,3]
 have ow:=zai []
 have dw2:=drIs 2 [7,10] [4,6]
 repeat' (first
  | refine g_ ?_
  | ((with_reducible refine And.intro ?_ ?_);(exact zeZ))
  | (refine DW.cond (by rfl) ?_ ?_<;>(first | exact i0_ | (refine ic_ ?_;intro hb)))
  | ((with_reducible first | refine zaa ?_ ?_ | refine zak ?_ ?_)<;>(intro hb;rw [hb];revert hb;(first | exact i0_ | (refine i_ ?_;intro hb))))
  | refine r_ ?_
  | refine d_ ?_
  | refine k_ ?_
  | refine vo_ ?_
  | ((first | ((with_reducible apply DW.drawJ (id:=1) 0 [0,1,3] [9,16,23,26,29,32] [6,13,20] [9,16] (hm:=by kernel_rfl) (hd:=by kernel_rfl) (hB:=by kernel_rfl) (hN:=by kernel_rfl));(focus (exact rfl));(repeat (with_reducible first | refine OnB.here ?_ | refine OnB.mid ?_ | refine OnB.next ?_))) | (refine DVJ.k_ rfl rfl rfl ?_) | (refine DVJ.f_ rfl rfl rfl ?_))<;>(simp (maxSteps:=1000000) (disch:=omega) only [push_cast,↓reduceIte,reduceCtorEq,Nat.reduceAdd,Nat.reduceMul,Nat.reduceLT,Nat.reduceLeDiff,Nat.reduceEqDiff,Nat.reduceSub,Int.reduceToNat,Int.reduceLT,Int.reduceLE,Int.reduceAdd,Int.reduceSub,Int.reduceMul,Int.reduceNeg,Nat.reduceBEq,Int.reduceBEq,Int.reduceBNe,Nat.reduceBNe,Int.reduceEq,zb4,zmp,zna,klS,klV]))
  | (refine p_ (zo7 _ _ _ _) ?_ (ha:=by exact zeZ);rintro d H1 ⟨rfl,rfl⟩<;>refine s_ ?_)
  | (refine p_ (zpw _ _ _ _) ?_ (ha:=by exact zeZ);rintro d H1 ⟨w4,rfl,rfl⟩<;>refine s_ ?_)
  | refine o_ ?_
  | refine f_ ?_
  | (first | refine DVJ.ma_ rfl rfl rfl ?_ | refine DVJ.mb_ rfl rfl rfl ?_)
  | refine vm_ ?_
  | ((fail_if_success (have zz:=x1));with_reducible intro x1)
  | ((fail_if_success (have zz:=x2));with_reducible intro x2)
  | ((fail_if_success (have zz:=x3));with_reducible intro x3)
  | ((fail_if_success (have zz:=x4));with_reducible intro x4)
  | with_reducible intro b)
 all_goals first
 | (((refine ⟨_,_,le.rfl_,⟨x1,x2,x3,w4,rfl,rfl⟩,?_⟩);(exact sub_);done))
 | (trace_state;fail)
end
theorem zgF (bb cm sm t:Nat) (m:Int) (SS:List (YS×Nat)) (y:SN) (ts:TS) (F:Own):(lookA y.a.name SS=some y.b/\SAOK y.a/\TOK ts/\y.a.subs.length<=1000000000/\ts.L.length<=1000000000/\(zar y.a.subs).length<=1000000000/\∀ k,k<(zar y.a.subs).length->((zar y.a.subs).getD k default).1.length<=1000000)->DC Tryz.prog 84 [.raw (.pointer (some ⟨bb,0,none⟩)), .str y.a.name] ((loose::knF::knA::knM m :: .blk bb [.raw (.map (some cm)), .raw (.map (some sm)), .raw (.pointer (some ⟨t,0,none⟩))] :: .map sm (entM V.str pv SS)::(y.own++(ownT t ts++[])))++F) fun d G=>∃ ts':TS,(TOK ts'/\ts'.L=(zag y.a.name (zar y.a.subs) ts.L).2)/\d = .sl ((zag y.a.name (zar y.a.subs) ts.L).1.map V.str)/\G=loose::knF::knA::knM m :: .blk bb [.raw (.map (some cm)), .raw (.map (some sm)), .raw (.pointer (some ⟨t,0,none⟩))] :: .map sm (entM V.str pv (za4 y.a.name SS))::(ownT t ts'++F):=fun h =>
 DC.frzY (X:=TS) (Q:=fun ts'=>TOK ts'/\ts'.L=(zag y.a.name (zar y.a.subs) ts.L).2) (sz:=1) (l:=fun _=>(zag y.a.name (zar y.a.subs) ts.L).1.map V.str) (L:=fun ts'=>loose::knF::knA::knM m :: .blk bb [.raw (.map (some cm)), .raw (.map (some sm)), .raw (.pointer (some ⟨t,0,none⟩))] :: .map sm (entM V.str pv (za4 y.a.name SS))::(ownT t ts'++F)) (by decide) (fun x y hy=>by obtain ⟨z,_,rfl⟩:=List.mem_map.1 hy;rfl)
  ((zlp bb cm sm t m SS y ts F h).mono fun d G hd=>by
    obtain ⟨v,ts',h1,h2,h3⟩:=hd
    exact ⟨v,ts',by rw [List.length_map];exact h2,h1,by rw [zb4];exact h3⟩)
section
theorem zhe (bb cm sm t:Nat) (M:List (Int×Nat)) (n:Int) (cb st:Nat) (hd:Int) (kp:Int) (cl:Bool) (F:Own):(lookA n M=some cb)->DC Tryz.prog 54 [.raw (.pointer (some ⟨bb,0,none⟩)), .int .i64 n] (.blk bb [.raw (.map (some cm)), .raw (.map (some sm)), .raw (.pointer (some ⟨t,0,none⟩))] :: .map cm (entM (V.int .i64) pv M) :: .blk cb [.raw (.pointer (some ⟨st,0,none⟩)), .int .i64 hd, .raw (.pointer none), .int .i64 kp, .bool cl, .gs (.slice none 0 0) []]::([]:Own)++F) fun d G=>d = .agg [.sl [], .sl [], .sl [], .sl []]/\G = .blk bb [.raw (.map (some cm)), .raw (.map (some sm)), .raw (.pointer (some ⟨t,0,none⟩))] :: .map cm (entM (V.int .i64) pv (za4 n M))::F:=by
 intro hA
 have hlk:=hA
 refine DC.bodyS (n_:=43) (show Tryz.prog.funcs[54]? = some Tryz.f54 by kernel_rfl) rfl rfl (by rfl) ?_
 simp only [env0,List.cons_append,List.nil_append]
 have kw:=ksIs [0,1,4,5,6,33]
 have ow:=zai [6]
 have rw_:=rsIs [.cell 4 38]
 have hC:True:=trivial
 repeat' (first
  | refine g_ ?_
  | ((with_reducible refine And.intro ?_ ?_);(exact sv))
  | (refine DW.cond (by rfl) ?_ ?_<;>(first | exact i0_ | (intro hb;(try simp only [↓reduceCtorEq,not_true_eq_false,not_false_eq_true,hbs,Int.reduceBEq,Int.reduceBNe,Int.reduceEq] at hb);(try refine zaj ?_))))
  | ((with_reducible refine zaa ?_ ?_)<;>(intro hb;rw [hb];revert hb;(first | exact i0_ | (intro hb;(try simp only [↓reduceCtorEq,not_true_eq_false,not_false_eq_true,hbs,Int.reduceBEq,Int.reduceBNe,Int.reduceEq] at hb);(try refine zaj ?_)))))
  | ((first | refine rn_ ?_ | refine kn_ ?_)<;>(refine zaj ?_))
  | ((first | (refine DOp.look_ rfl rfl ?_;(repeat (with_reducible first | refine OnM.here ?_ | refine OnM.next ?_))) | (refine DOp.delm_ rfl rfl ?_;(repeat (with_reducible first | refine OnM.here ?_ | refine OnM.next ?_))))<;>(refine zaj ?_))
  | ((refine on_ ?_);refine zaj ?_)
  | refine f_ ?_
  | with_reducible intro b)
 all_goals first
 | (((refine ⟨_,_,le.agg (Les.cons (le.gs rfl) (Les.cons (le.gs rfl) (Les.cons (le.gs rfl) (Les.cons (le.gs rfl) Les.nil)))),⟨rfl,rfl⟩,?_⟩);(exact sub_);done))
 | (trace_state;fail)
end
section
theorem zhj (bb cm sm t:Nat) (M:List (Int×Nat)) (n:Int) (cb st:Nat) (hd:Int) (kp:Int) (cl:Bool) (wl:List Mg) (F:Own):(lookA n M=some cb)->DC Tryz.prog 54 [.raw (.pointer (some ⟨bb,0,none⟩)), .int .i64 n] (.blk bb [.raw (.map (some cm)), .raw (.map (some sm)), .raw (.pointer (some ⟨t,0,none⟩))] :: .map cm (entM (V.int .i64) pv M) :: .blk cb [.raw (.pointer (some ⟨st,0,none⟩)), .int .i64 hd, .raw (.pointer none), .int .i64 kp, .bool cl, .sl (wl.map encM)]::([]:Own)++F) fun d G=>d = .agg [.sl [], .sl (wl.map encM), .sl [], .sl []]/\G = .blk bb [.raw (.map (some cm)), .raw (.map (some sm)), .raw (.pointer (some ⟨t,0,none⟩))] :: .map cm (entM (V.int .i64) pv (za4 n M))::F:=by
 intro hA
 have hlk:=hA
 refine DC.bodyS (n_:=43) (show Tryz.prog.funcs[54]? = some Tryz.f54 by kernel_rfl) rfl rfl (by rfl) ?_
 simp only [env0,List.cons_append,List.nil_append]
 have kw:=ksIs [0,1,4,5,6,33]
 have ow:=zai [6]
 have rw_:=rsIs [.cell 4 38]
 have hC:True:=trivial
 repeat' (first
  | refine g_ ?_
  | ((with_reducible refine And.intro ?_ ?_);(exact sv))
  | (refine DW.cond (by rfl) ?_ ?_<;>(first | exact i0_ | (intro hb;(try simp only [↓reduceCtorEq,not_true_eq_false,not_false_eq_true,hbs,Int.reduceBEq,Int.reduceBNe,Int.reduceEq] at hb);(try refine zaj ?_))))
  | ((with_reducible refine zaa ?_ ?_)<;>(intro hb;rw [hb];revert hb;(first | exact i0_ | (intro hb;(try simp only [↓reduceCtorEq,not_true_eq_false,not_false_eq_true,hbs,Int.reduceBEq,Int.reduceBNe,Int.reduceEq] at hb);(try refine zaj ?_)))))
  | ((first | refine rn_ ?_ | refine kn_ ?_)<;>(refine zaj ?_))
  | ((first | (refine DOp.look_ rfl rfl ?_;(repeat (with_reducible first | refine OnM.here ?_ | refine OnM.next ?_))) | (refine DOp.delm_ rfl rfl ?_;(repeat (with_reducible first | refine OnM.here ?_ | refine OnM.next ?_))))<;>(refine zaj ?_))
  | ((refine on_ ?_);refine zaj ?_)
  | refine f_ ?_
  | with_reducible intro b)
 all_goals first
 | (((refine ⟨_,_,le.agg (Les.cons (le.gs rfl) (Les.cons le.rfl_ (Les.cons (le.gs rfl) (Les.cons (le.gs rfl) Les.nil)))),⟨rfl,rfl⟩,?_⟩);(exact sub_);done))
 | (trace_state;fail)
end
section
theorem zgZ (bb cm sm t:Nat) (M:List (Int×Nat)) (n:Int) (cb st:Nat) (hd:Int) (kp:Int) (xb:Nat) (F:Own):(lookA n M=some cb)->DC Tryz.prog 54 [.raw (.pointer (some ⟨bb,0,none⟩)), .int .i64 n] (.blk bb [.raw (.map (some cm)), .raw (.map (some sm)), .raw (.pointer (some ⟨t,0,none⟩))] :: .map cm (entM (V.int .i64) pv M) :: .blk cb [.raw (.pointer (some ⟨st,0,none⟩)), .int .i64 hd, .raw (.pointer (some ⟨xb,0,none⟩)), .int .i64 kp, .bool false, .gs (.slice none 0 0) []]::([]:Own)++F) fun d G=>d = .agg [.sl [], .sl [], .sl [], .sl []]/\G = .blk bb [.raw (.map (some cm)), .raw (.map (some sm)), .raw (.pointer (some ⟨t,0,none⟩))] :: .map cm (entM (V.int .i64) pv (za4 n M))::F:=by
 intro hA
 have hlk:=hA
 refine DC.bodyS (n_:=43) (show Tryz.prog.funcs[54]? = some Tryz.f54 by kernel_rfl) rfl rfl (by rfl) ?_
 simp only [env0,List.cons_append,List.nil_append]
 have kw:=ksIs [0,1,4,5,6,33]
 have ow:=zai [6]
 have rw_:=rsIs [.cell 4 38]
 have hC:True:=trivial
 repeat' (first
  | refine g_ ?_
  | ((with_reducible refine And.intro ?_ ?_);(exact sv))
  | (refine DW.cond (by rfl) ?_ ?_<;>(first | exact i0_ | (intro hb;(try simp only [↓reduceCtorEq,not_true_eq_false,not_false_eq_true,hbs,Int.reduceBEq,Int.reduceBNe,Int.reduceEq] at hb);(try refine zaj ?_))))
  | ((with_reducible refine zaa ?_ ?_)<;>(intro hb;rw [hb];revert hb;(first | exact i0_ | (intro hb;(try simp only [↓reduceCtorEq,not_true_eq_false,not_false_eq_true,hbs,Int.reduceBEq,Int.reduceBNe,Int.reduceEq] at hb);(try refine zaj ?_)))))
  | ((first | refine rn_ ?_ | refine kn_ ?_)<;>(refine zaj ?_))
  | ((first | (refine DOp.look_ rfl rfl ?_;(repeat (with_reducible first | refine OnM.here ?_ | refine OnM.next ?_))) | (refine DOp.delm_ rfl rfl ?_;(repeat (with_reducible first | refine OnM.here ?_ | refine OnM.next ?_))))<;>(refine zaj ?_))
  | ((refine on_ ?_);refine zaj ?_)
  | refine f_ ?_
  | with_reducible intro b)
 all_goals first
 | (((refine ⟨_,_,le.agg (Les.cons (le.gs rfl) (Les.cons (le.gs rfl) (Les.cons (le.gs rfl) (Les.cons (le.gs rfl) Les.nil)))),⟨rfl,rfl⟩,?_⟩);(exact sub_);done))
 | (trace_state;fail)
end
section
theorem zhr (bb cm sm t:Nat) (M:List (Int×Nat)) (n:Int) (cb st:Nat) (hd:Int) (kp:Int) (xb:Nat) (wl:List Mg) (F:Own):(lookA n M=some cb)->DC Tryz.prog 54 [.raw (.pointer (some ⟨bb,0,none⟩)), .int .i64 n] (.blk bb [.raw (.map (some cm)), .raw (.map (some sm)), .raw (.pointer (some ⟨t,0,none⟩))] :: .map cm (entM (V.int .i64) pv M) :: .blk cb [.raw (.pointer (some ⟨st,0,none⟩)), .int .i64 hd, .raw (.pointer (some ⟨xb,0,none⟩)), .int .i64 kp, .bool false, .sl (wl.map encM)]::([]:Own)++F) fun d G=>d = .agg [.sl [], .sl (wl.map encM), .sl [], .sl []]/\G = .blk bb [.raw (.map (some cm)), .raw (.map (some sm)), .raw (.pointer (some ⟨t,0,none⟩))] :: .map cm (entM (V.int .i64) pv (za4 n M))::F:=by
 intro hA
 have hlk:=hA
 refine DC.bodyS (n_:=43) (show Tryz.prog.funcs[54]? = some Tryz.f54 by kernel_rfl) rfl rfl (by rfl) ?_
 simp only [env0,List.cons_append,List.nil_append]
 have kw:=ksIs [0,1,4,5,6,33]
 have ow:=zai [6]
 have rw_:=rsIs [.cell 4 38]
 have hC:True:=trivial
 repeat' (first
  | refine g_ ?_
  | ((with_reducible refine And.intro ?_ ?_);(exact sv))
  | (refine DW.cond (by rfl) ?_ ?_<;>(first | exact i0_ | (intro hb;(try simp only [↓reduceCtorEq,not_true_eq_false,not_false_eq_true,hbs,Int.reduceBEq,Int.reduceBNe,Int.reduceEq] at hb);(try refine zaj ?_))))
  | ((with_reducible refine zaa ?_ ?_)<;>(intro hb;rw [hb];revert hb;(first | exact i0_ | (intro hb;(try simp only [↓reduceCtorEq,not_true_eq_false,not_false_eq_true,hbs,Int.reduceBEq,Int.reduceBNe,Int.reduceEq] at hb);(try refine zaj ?_)))))
  | ((first | refine rn_ ?_ | refine kn_ ?_)<;>(refine zaj ?_))
  | ((first | (refine DOp.look_ rfl rfl ?_;(repeat (with_reducible first | refine OnM.here ?_ | refine OnM.next ?_))) | (refine DOp.delm_ rfl rfl ?_;(repeat (with_reducible first | refine OnM.here ?_ | refine OnM.next ?_))))<;>(refine zaj ?_))
  | ((refine on_ ?_);refine zaj ?_)
  | refine f_ ?_
  | with_reducible intro b)
 all_goals first
 | (((refine ⟨_,_,le.agg (Les.cons (le.gs rfl) (Les.cons le.rfl_ (Les.cons (le.gs rfl) (Les.cons (le.gs rfl) Les.nil)))),⟨rfl,rfl⟩,?_⟩);(exact sub_);done))
 | (trace_state;fail)
end
section
theorem zgR (bb cm sm t:Nat) (m:Int) (M:List (Int×Nat)) (SS:List (YS×Nat)) (n:Int) (cb st:Nat) (hd:Int) (kp:Int) (y:SN) (ts:TS) (F:Own):(lookA n M=some cb/\(lookA y.a.name SS=some y.b/\SAOK y.a/\TOK ts/\y.a.subs.length<=1000000000/\ts.L.length<=1000000000/\(zar y.a.subs).length<=1000000000/\∀ k,k<(zar y.a.subs).length->((zar y.a.subs).getD k default).1.length<=1000000))->DC Tryz.prog 54 [.raw (.pointer (some ⟨bb,0,none⟩)), .int .i64 n] (loose::knF::knA::knM m :: .blk bb [.raw (.map (some cm)), .raw (.map (some sm)), .raw (.pointer (some ⟨t,0,none⟩))] :: .map cm (entM (V.int .i64) pv M) :: .map sm (entM V.str pv SS) :: .blk cb [.raw (.pointer (some ⟨st,0,none⟩)), .int .i64 hd, .raw (.pointer (some ⟨y.b,0,none⟩)), .int .i64 kp, .bool true, .gs (.slice none 0 0) []]::(y.own++(ownT t ts++[]))++F) fun d G=>∃ ts':TS,(TOK ts'/\ts'.L=(zag y.a.name (zar y.a.subs) ts.L).2)/\d = .agg [.sl [], .sl [], .sl [], .sl ((zag y.a.name (zar y.a.subs) ts.L).1.map V.str)]/\G=loose::knF::knA::knM m :: .blk bb [.raw (.map (some cm)), .raw (.map (some sm)), .raw (.pointer (some ⟨t,0,none⟩))] :: .map cm (entM (V.int .i64) pv (za4 n M)) :: .map sm (entM V.str pv (za4 y.a.name SS))::(ownT t ts'++F):=by
 intro hA
 obtain ⟨hlk,hF⟩:=hA
 refine DC.bodyS (n_:=43) (show Tryz.prog.funcs[54]? = some Tryz.f54 by kernel_rfl) rfl rfl (by rfl) ?_
 simp only [env0,List.append_assoc,List.cons_append,List.nil_append]
 have kw:=ksIs [0,1,4,5,6,33]
 have ow:=zai [6]
 have rw_:=rsIs [.cell 4 38]
 have hC:True:=trivial
 repeat' (first
  | refine g_ ?_
  | ((with_reducible refine And.intro ?_ ?_);(exact sv))
  | (refine DW.cond (by rfl) ?_ ?_<;>(first | exact i0_ | (intro hb;(try simp only [↓reduceCtorEq,not_true_eq_false,not_false_eq_true,hbs,Int.reduceBEq,Int.reduceBNe,Int.reduceEq] at hb);(try refine zaj ?_))))
  | ((with_reducible refine zaa ?_ ?_)<;>(intro hb;rw [hb];revert hb;(first | exact i0_ | (intro hb;(try simp only [↓reduceCtorEq,not_true_eq_false,not_false_eq_true,hbs,Int.reduceBEq,Int.reduceBNe,Int.reduceEq] at hb);(try refine zaj ?_)))))
  | ((first | refine rn_ ?_ | refine kn_ ?_)<;>(refine zaj ?_))
  | ((first | (refine DOp.look_ rfl rfl ?_;(repeat (with_reducible first | refine OnM.here ?_ | refine OnM.next ?_))) | (refine DOp.delm_ rfl rfl ?_;(repeat (with_reducible first | refine OnM.here ?_ | refine OnM.next ?_))))<;>(refine zaj ?_))
  | (refine q_ (scliC _ _) ?_ (hk:=fun q=>q.1);refine zaj ?_)
  | (refine p_ (zgF _ _ _ _ _ _ _ _ _) ?_;rintro d H1 ⟨ts2,⟨hs2,hL2⟩,rfl,rfl⟩<;>refine zaj ?_)
  | ((refine on_ ?_);refine zaj ?_)
  | refine f_ ?_
  | with_reducible intro b)
 all_goals first
 | (((refine ⟨_,_,le.agg (Les.cons (le.gs rfl) (Les.cons (le.gs rfl) (Les.cons (le.gs rfl) (Les.cons le.rfl_ Les.nil)))),⟨ts2,⟨hs2,hL2⟩,rfl,rfl⟩,?_⟩);(exact sub_);done))
 | (trace_state;fail)
end
section
theorem zhx (bb cm sm t:Nat) (m:Int) (M:List (Int×Nat)) (SS:List (YS×Nat)) (n:Int) (cb st:Nat) (hd:Int) (kp:Int) (y:SN) (ts:TS) (wl:List Mg) (F:Own):(lookA n M=some cb/\(lookA y.a.name SS=some y.b/\SAOK y.a/\TOK ts/\y.a.subs.length<=1000000000/\ts.L.length<=1000000000/\(zar y.a.subs).length<=1000000000/\∀ k,k<(zar y.a.subs).length->((zar y.a.subs).getD k default).1.length<=1000000))->DC Tryz.prog 54 [.raw (.pointer (some ⟨bb,0,none⟩)), .int .i64 n] (loose::knF::knA::knM m :: .blk bb [.raw (.map (some cm)), .raw (.map (some sm)), .raw (.pointer (some ⟨t,0,none⟩))] :: .map cm (entM (V.int .i64) pv M) :: .map sm (entM V.str pv SS) :: .blk cb [.raw (.pointer (some ⟨st,0,none⟩)), .int .i64 hd, .raw (.pointer (some ⟨y.b,0,none⟩)), .int .i64 kp, .bool true, .sl (wl.map encM)]::(y.own++(ownT t ts++[]))++F) fun d G=>∃ ts':TS,(TOK ts'/\ts'.L=(zag y.a.name (zar y.a.subs) ts.L).2)/\d = .agg [.sl [], .sl (wl.map encM), .sl [], .sl ((zag y.a.name (zar y.a.subs) ts.L).1.map V.str)]/\G=loose::knF::knA::knM m :: .blk bb [.raw (.map (some cm)), .raw (.map (some sm)), .raw (.pointer (some ⟨t,0,none⟩))] :: .map cm (entM (V.int .i64) pv (za4 n M)) :: .map sm (entM V.str pv (za4 y.a.name SS))::(ownT t ts'++F):=by
 intro hA
 obtain ⟨hlk,hF⟩:=hA
 refine DC.bodyS (n_:=43) (show Tryz.prog.funcs[54]? = some Tryz.f54 by kernel_rfl) rfl rfl (by rfl) ?_
 simp only [env0,List.append_assoc,List.cons_append,List.nil_append]
 have kw:=ksIs [0,1,4,5,6,33]
 have ow:=zai [6]
 have rw_:=rsIs [.cell 4 38]
 have hC:True:=trivial
 repeat' (first
  | refine g_ ?_
  | ((with_reducible refine And.intro ?_ ?_);(exact sv))
  | (refine DW.cond (by rfl) ?_ ?_<;>(first | exact i0_ | (intro hb;(try simp only [↓reduceCtorEq,not_true_eq_false,not_false_eq_true,hbs,Int.reduceBEq,Int.reduceBNe,Int.reduceEq] at hb);(try refine zaj ?_))))
  | ((with_reducible refine zaa ?_ ?_)<;>(intro hb;rw [hb];revert hb;(first | exact i0_ | (intro hb;(try simp only [↓reduceCtorEq,not_true_eq_false,not_false_eq_true,hbs,Int.reduceBEq,Int.reduceBNe,Int.reduceEq] at hb);(try refine zaj ?_)))))
  | ((first | refine rn_ ?_ | refine kn_ ?_)<;>(refine zaj ?_))
  | ((first | (refine DOp.look_ rfl rfl ?_;(repeat (with_reducible first | refine OnM.here ?_ | refine OnM.next ?_))) | (refine DOp.delm_ rfl rfl ?_;(repeat (with_reducible first | refine OnM.here ?_ | refine OnM.next ?_))))<;>(refine zaj ?_))
  | (refine q_ (scliC _ _) ?_ (hk:=fun q=>q.1);refine zaj ?_)
  | (refine p_ (zgF _ _ _ _ _ _ _ _ _) ?_;rintro d H1 ⟨ts2,⟨hs2,hL2⟩,rfl,rfl⟩<;>refine zaj ?_)
  | ((refine on_ ?_);refine zaj ?_)
  | refine f_ ?_
  | with_reducible intro b)
 all_goals first
 | (((refine ⟨_,_,le.agg (Les.cons (le.gs rfl) (Les.cons le.rfl_ (Les.cons (le.gs rfl) (Les.cons le.rfl_ Les.nil)))),⟨ts2,⟨hs2,hL2⟩,rfl,rfl⟩,?_⟩);(exact sub_);done))
 | (trace_state;fail)
end
end
section
open Go.RowKit
set_option linter.unusedSimpArgs false
set_option linter.unusedSectionVars false
set_option maxHeartbeats 4000000
set_option maxRecDepth 100000
attribute [local irreducible] SN.own ownT ownC ownS zag zcN za4 zar zaR
attribute [local irreducible] DW SeqD DV DOp DC DVX DVJ idsF usI sortS putM zay onlyM
theorem zbY (D1 D2:List YS) (eb:Nat) (v1 v2 v3 v4:Value) (n1 n2 n3 n4:Nat) (c1 c2 c3 c4 l1 l2 l3 l4:List V) (F:Own):((c4=D1.map V.str/\l4=D2.map V.str)/\(n1<=1000000000/\n2<=1000000000/\n3<=1000000000/\n4=D1.length/\D1.length<=1000000000)/\(l1.length<=1000000000/\l2.length<=1000000000/\l3.length<=1000000000/\D2.length<=1000000000)/\(∀ j∈l1,j.n=4/\j.cs.all V.one=true)/\(∀ j∈l2,j.n=4/\j.cs.all V.one=true)/\(∀ j∈l3,j.n=1/\j.cs.all V.one=true))->DC Tryz.prog 52 [.raw (.pointer (some ⟨eb,0,none⟩)), .agg [.sl l1, .sl l2, .sl l3, .sl l4]] ((.blk eb [.ar v1 n1, .ar v2 n2, .ar v3 n3, .ar v4 n4] :: .arr 4 v1 c1 :: .arr 4 v2 c2 :: .arr 1 v3 c3 :: .arr 1 v4 c4::([]:Own))++F) fun d G=>∃ (w1 w2 w3 w4:Value),d = .tup []/\G = .blk eb [.ar w1 (n1+l1.length), .ar w2 (n2+l2.length), .ar w3 (n3+l3.length), .ar w4 (zaR (D1++D2)).length] :: .arr 4 w1 (c1++cells l1) :: .arr 4 w2 (c2++cells l2) :: .arr 1 w3 (c3++cells l3) :: .arr 1 w4 ((zaR (D1++D2)).map V.str)::F:=by
 rintro ⟨⟨rfl,rfl⟩,h⟩
 exact andV_dc D1 D2 eb v1 v2 v3 v4 n1 n2 n3 n4 c1 c2 c3 l1 l2 l3 F h
theorem zeC (l:List Mg):∀ j∈l.map encM,j.n=4/\j.cs.all V.one=true:=fun j hj=>by obtain ⟨x,_,rfl⟩:=List.mem_map.1 hj;exact ⟨rfl,rfl⟩
theorem mg_n (l:List Mg):∀ j∈l.map encM,j.n=4:=fun j hj=>(zeC l j hj).1
theorem st_n (l:List YS):∀ j∈l.map V.str,j.n=1:=fun j hj=>by obtain ⟨x,_,rfl⟩:=List.mem_map.1 hj;rfl
theorem zd8 {p:Prop} (h:p:=by first | exact sv | exact ⟨⟨rfl,rfl⟩,⟨by omega,by omega,by omega,rfl,by simp⟩,⟨by simp,by simp,by simp,by simp⟩,(fun _ h=>nomatch h),(fun _ h=>nomatch h),(fun _ h=>nomatch h)⟩ | fail):p:=h
attribute [local push_cast 2000] zaK zbd zaI zaV zaA zaD zbe zaF za6 za7 zba zaH zaG zbb zaC za1 zaJ zaz zbc zaE za0 zaZ zaB zax za2 zbn zb1 zbl zaY zaM zaL Option.getD_some Option.getD_none Option.isSome_some Option.isSome_none
section
theorem zl7 (bb cm sm t:Nat) (M:List (Int×Nat)) (n:Int) (cb st:Nat) (hd:Int) (kp:Int) (cl:Bool) (F:Own):(lookA n M=some cb)->DC Tryz.prog 38 [.raw (.pointer (some ⟨bb,0,none⟩)), .int .i64 n] (.blk bb [.raw (.map (some cm)), .raw (.map (some sm)), .raw (.pointer (some ⟨t,0,none⟩))] :: .map cm (entM (V.int .i64) pv M) :: .blk cb [.raw (.pointer (some ⟨st,0,none⟩)), .int .i64 hd, .raw (.pointer none), .int .i64 kp, .bool cl, .gs (.slice none 0 0) []]::([]:Own)++F) fun d G=>∃ (w1 w2 w3 w4:Value),d = .agg [.ar w1 1, .ar w2 0, .ar w3 0, .ar w4 (zaR ([]++[])).length]/\G = .arr 4 w1 [.int .i64 0, .int .i64 n, .gs (.slice none 0 0) [], .bool true] :: .arr 4 w2 (cells []) :: .arr 1 w3 [] :: .arr 1 w4 ((zaR ([]++[])).map V.str) :: .blk bb [.raw (.map (some cm)), .raw (.map (some sm)), .raw (.pointer (some ⟨t,0,none⟩))] :: .map cm (entM (V.int .i64) pv (za4 n M))::F:=by
 intro hA
 have hlk:=hA
 refine DC.bodyS (n_:=15) (show Tryz.prog.funcs[38]? = some Tryz.f38 by kernel_rfl) rfl rfl (by rfl) ?_
 simp only [env0,List.cons_append,List.nil_append]
 have kw:=ksIs [0,1,4,5]
 have ow:=zai [5,8]
 have rw_:=rsIs [.cell 4 38]
 have hC:True:=trivial
 repeat' (first
  | ((fail_if_success (have zz:=hown));(with_reducible show DW _ _ (Code.region 2 _ _) _ _ _);(refine DW.own0P 4 eb 1 (by ((with_reducible repeat (first | exact Pulled.nil | apply Pulled.cons | exact Took.here | apply Took.next | apply Took.skip | fail))<;>fail)) rfl ?_);(simp only [List.set_cons_succ,List.set_cons_zero]);(refine DW.own0P 1 eb 2 (by ((with_reducible repeat (first | exact Pulled.nil | apply Pulled.cons | exact Took.here | apply Took.next | apply Took.skip | fail))<;>fail)) rfl ?_);(simp only [List.set_cons_succ,List.set_cons_zero]);(refine DW.own0P 1 eb 3 (by ((with_reducible repeat (first | exact Pulled.nil | apply Pulled.cons | exact Took.here | apply Took.next | apply Took.skip | fail))<;>fail)) rfl ?_);(simp only [List.set_cons_succ,List.set_cons_zero]);(have hown:True:=trivial))
  | refine g_ ?_
  | ((with_reducible refine And.intro ?_ ?_);(exact zd8))
  | (refine DW.cond (by rfl) ?_ ?_<;>(first | exact i0_ | (intro hb;(try simp only [↓reduceCtorEq,not_true_eq_false,not_false_eq_true,hbs,Int.reduceBEq,Int.reduceBNe,Int.reduceEq] at hb);(try refine zaj ?_))))
  | ((with_reducible refine zaa ?_ ?_)<;>(intro hb;rw [hb];revert hb;(first | exact i0_ | (intro hb;(try simp only [↓reduceCtorEq,not_true_eq_false,not_false_eq_true,hbs,Int.reduceBEq,Int.reduceBNe,Int.reduceEq] at hb);(try refine zaj ?_)))))
  | ((first | refine rn_ ?_ | refine kn_ ?_)<;>(refine zaj ?_))
  | ((first | (refine DOp.lista_ [8] rfl rfl ?_) | (refine DOp.makea_ [8] rfl rfl rfl rfl ?_))<;>(refine zaj ?_))
  | (refine p_ (zhe _ _ _ _ _ _ _ _ _ _ _ _) ?_ (ha:=by exact zd8);rintro d H1 ⟨rfl,rfl⟩<;>refine zaj ?_)
  | (refine p_ (zbY (D1:=[]) (D2:=[]) _ _ _ _ _ _ _ _ _ _ _ _ _ _ _ _ _ _) ?_ (ha:=by exact zd8);rintro d H1 ⟨w1,w2,w3,w4,rfl,rfl⟩<;>refine zaj ?_)
  | ((refine on_ ?_);refine zaj ?_)
  | refine f_ ?_
  | ((fail_if_success (have zz:=rb));with_reducible intro rb)
  | ((fail_if_success (have zz:=lv));with_reducible intro lv)
  | ((fail_if_success (have zz:=eb));with_reducible intro eb)
  | with_reducible intro b)
 all_goals first
 | (((refine ⟨_,_,le.rfl_,⟨w1,w2,w3,w4,rfl,rfl⟩,?_⟩);(exact sub_);done))
 | (trace_state;fail)
end
theorem zdw {p:Prop} (h:p:=by first | exact sv | exact ⟨⟨rfl,rfl⟩,⟨by omega,by omega,by omega,rfl,by simp⟩,⟨by simp,by (rw [List.length_map];omega),by simp,by simp⟩,(fun _ h=>nomatch h),zeC wl,(fun _ h=>nomatch h)⟩ | fail):p:=h
section
theorem zlK (bb cm sm t:Nat) (M:List (Int×Nat)) (n:Int) (cb st:Nat) (hd:Int) (kp:Int) (cl:Bool) (wl:List Mg) (F:Own):(lookA n M=some cb/\wl.length<=100)->DC Tryz.prog 38 [.raw (.pointer (some ⟨bb,0,none⟩)), .int .i64 n] (.blk bb [.raw (.map (some cm)), .raw (.map (some sm)), .raw (.pointer (some ⟨t,0,none⟩))] :: .map cm (entM (V.int .i64) pv M) :: .blk cb [.raw (.pointer (some ⟨st,0,none⟩)), .int .i64 hd, .raw (.pointer none), .int .i64 kp, .bool cl, .sl (wl.map encM)]::([]:Own)++F) fun d G=>∃ (w1 w2 w3 w4:Value),d = .agg [.ar w1 1, .ar w2 wl.length, .ar w3 0, .ar w4 (zaR ([]++[])).length]/\G = .arr 4 w1 [.int .i64 0, .int .i64 n, .gs (.slice none 0 0) [], .bool true] :: .arr 4 w2 (cells (wl.map encM)) :: .arr 1 w3 [] :: .arr 1 w4 ((zaR ([]++[])).map V.str) :: .blk bb [.raw (.map (some cm)), .raw (.map (some sm)), .raw (.pointer (some ⟨t,0,none⟩))] :: .map cm (entM (V.int .i64) pv (za4 n M))::F:=by
 intro hA
 obtain ⟨hlk,hwl⟩:=hA
 refine DC.bodyS (n_:=15) (show Tryz.prog.funcs[38]? = some Tryz.f38 by kernel_rfl) rfl rfl (by rfl) ?_
 simp only [env0,List.cons_append,List.nil_append]
 have kw:=ksIs [0,1,4,5]
 have ow:=zai [5,8]
 have rw_:=rsIs [.cell 4 38]
 have hC:True:=trivial
 repeat' (first
  | ((fail_if_success (have zz:=hown));(with_reducible show DW _ _ (Code.region 2 _ _) _ _ _);(refine DW.own0P 4 eb 1 (by ((with_reducible repeat (first | exact Pulled.nil | apply Pulled.cons | exact Took.here | apply Took.next | apply Took.skip | fail))<;>fail)) rfl ?_);(simp only [List.set_cons_succ,List.set_cons_zero]);(refine DW.own0P 1 eb 2 (by ((with_reducible repeat (first | exact Pulled.nil | apply Pulled.cons | exact Took.here | apply Took.next | apply Took.skip | fail))<;>fail)) rfl ?_);(simp only [List.set_cons_succ,List.set_cons_zero]);(refine DW.own0P 1 eb 3 (by ((with_reducible repeat (first | exact Pulled.nil | apply Pulled.cons | exact Took.here | apply Took.next | apply Took.skip | fail))<;>fail)) rfl ?_);(simp only [List.set_cons_succ,List.set_cons_zero]);(have hown:True:=trivial))
  | refine g_ ?_
  | ((with_reducible refine And.intro ?_ ?_);(exact zdw))
  | (refine DW.cond (by rfl) ?_ ?_<;>(first | exact i0_ | (intro hb;(try simp only [↓reduceCtorEq,not_true_eq_false,not_false_eq_true,hbs,Int.reduceBEq,Int.reduceBNe,Int.reduceEq] at hb);(try refine zaj ?_))))
  | ((with_reducible refine zaa ?_ ?_)<;>(intro hb;rw [hb];revert hb;(first | exact i0_ | (intro hb;(try simp only [↓reduceCtorEq,not_true_eq_false,not_false_eq_true,hbs,Int.reduceBEq,Int.reduceBNe,Int.reduceEq] at hb);(try refine zaj ?_)))))
  | ((first | refine rn_ ?_ | refine kn_ ?_)<;>(refine zaj ?_))
  | ((first | (refine DOp.lista_ [8] rfl rfl ?_) | (refine DOp.makea_ [8] rfl rfl rfl rfl ?_))<;>(refine zaj ?_))
  | (refine p_ (zhj _ _ _ _ _ _ _ _ _ _ _ _ _) ?_ (ha:=by exact zdw);rintro d H1 ⟨rfl,rfl⟩<;>refine zaj ?_)
  | (refine p_ (zbY (D1:=[]) (D2:=[]) _ _ _ _ _ _ _ _ _ _ _ _ _ _ _ _ _ _) ?_ (ha:=by exact zdw);rintro d H1 ⟨w1,w2,w3,w4,rfl,rfl⟩<;>refine zaj ?_)
  | ((refine on_ ?_);refine zaj ?_)
  | refine f_ ?_
  | ((fail_if_success (have zz:=rb));with_reducible intro rb)
  | ((fail_if_success (have zz:=lv));with_reducible intro lv)
  | ((fail_if_success (have zz:=eb));with_reducible intro eb)
  | with_reducible intro b)
 all_goals first
 | (((refine ⟨_,_,le.rfl_,⟨w1,w2,w3,w4,rfl,rfl⟩,?_⟩);(exact sub_);done))
 | (trace_state;fail)
end
theorem zdx {p:Prop} (h:p:=by first | exact sv | exact ⟨⟨rfl,rfl⟩,⟨by omega,by omega,by omega,rfl,by simp⟩,⟨by simp,by simp,by simp,by simp⟩,(fun _ h=>nomatch h),(fun _ h=>nomatch h),(fun _ h=>nomatch h)⟩ | fail):p:=h
section
theorem zlN (bb cm sm t:Nat) (M:List (Int×Nat)) (n:Int) (cb st:Nat) (hd:Int) (kp:Int) (xb:Nat) (F:Own):(lookA n M=some cb)->DC Tryz.prog 38 [.raw (.pointer (some ⟨bb,0,none⟩)), .int .i64 n] (.blk bb [.raw (.map (some cm)), .raw (.map (some sm)), .raw (.pointer (some ⟨t,0,none⟩))] :: .map cm (entM (V.int .i64) pv M) :: .blk cb [.raw (.pointer (some ⟨st,0,none⟩)), .int .i64 hd, .raw (.pointer (some ⟨xb,0,none⟩)), .int .i64 kp, .bool false, .gs (.slice none 0 0) []]::([]:Own)++F) fun d G=>∃ (w1 w2 w3 w4:Value),d = .agg [.ar w1 1, .ar w2 0, .ar w3 0, .ar w4 (zaR ([]++[])).length]/\G = .arr 4 w1 [.int .i64 0, .int .i64 n, .gs (.slice none 0 0) [], .bool true] :: .arr 4 w2 (cells []) :: .arr 1 w3 [] :: .arr 1 w4 ((zaR ([]++[])).map V.str) :: .blk bb [.raw (.map (some cm)), .raw (.map (some sm)), .raw (.pointer (some ⟨t,0,none⟩))] :: .map cm (entM (V.int .i64) pv (za4 n M))::F:=by
 intro hA
 have hlk:=hA
 refine DC.bodyS (n_:=15) (show Tryz.prog.funcs[38]? = some Tryz.f38 by kernel_rfl) rfl rfl (by rfl) ?_
 simp only [env0,List.cons_append,List.nil_append]
 have kw:=ksIs [0,1,4,5]
 have ow:=zai [5,8]
 have rw_:=rsIs [.cell 4 38]
 have hC:True:=trivial
 repeat' (first
  | ((fail_if_success (have zz:=hown));(with_reducible show DW _ _ (Code.region 2 _ _) _ _ _);(refine DW.own0P 4 eb 1 (by ((with_reducible repeat (first | exact Pulled.nil | apply Pulled.cons | exact Took.here | apply Took.next | apply Took.skip | fail))<;>fail)) rfl ?_);(simp only [List.set_cons_succ,List.set_cons_zero]);(refine DW.own0P 1 eb 2 (by ((with_reducible repeat (first | exact Pulled.nil | apply Pulled.cons | exact Took.here | apply Took.next | apply Took.skip | fail))<;>fail)) rfl ?_);(simp only [List.set_cons_succ,List.set_cons_zero]);(refine DW.own0P 1 eb 3 (by ((with_reducible repeat (first | exact Pulled.nil | apply Pulled.cons | exact Took.here | apply Took.next | apply Took.skip | fail))<;>fail)) rfl ?_);(simp only [List.set_cons_succ,List.set_cons_zero]);(have hown:True:=trivial))
  | refine g_ ?_
  | ((with_reducible refine And.intro ?_ ?_);(exact zdx))
  | (refine DW.cond (by rfl) ?_ ?_<;>(first | exact i0_ | (intro hb;(try simp only [↓reduceCtorEq,not_true_eq_false,not_false_eq_true,hbs,Int.reduceBEq,Int.reduceBNe,Int.reduceEq] at hb);(try refine zaj ?_))))
  | ((with_reducible refine zaa ?_ ?_)<;>(intro hb;rw [hb];revert hb;(first | exact i0_ | (intro hb;(try simp only [↓reduceCtorEq,not_true_eq_false,not_false_eq_true,hbs,Int.reduceBEq,Int.reduceBNe,Int.reduceEq] at hb);(try refine zaj ?_)))))
  | ((first | refine rn_ ?_ | refine kn_ ?_)<;>(refine zaj ?_))
  | ((first | (refine DOp.lista_ [8] rfl rfl ?_) | (refine DOp.makea_ [8] rfl rfl rfl rfl ?_))<;>(refine zaj ?_))
  | (refine p_ (zgZ _ _ _ _ _ _ _ _ _ _ _ _) ?_ (ha:=by exact zdx);rintro d H1 ⟨rfl,rfl⟩<;>refine zaj ?_)
  | (refine p_ (zbY (D1:=[]) (D2:=[]) _ _ _ _ _ _ _ _ _ _ _ _ _ _ _ _ _ _) ?_ (ha:=by exact zdx);rintro d H1 ⟨w1,w2,w3,w4,rfl,rfl⟩<;>refine zaj ?_)
  | ((refine on_ ?_);refine zaj ?_)
  | refine f_ ?_
  | ((fail_if_success (have zz:=rb));with_reducible intro rb)
  | ((fail_if_success (have zz:=lv));with_reducible intro lv)
  | ((fail_if_success (have zz:=eb));with_reducible intro eb)
  | with_reducible intro b)
 all_goals first
 | (((refine ⟨_,_,le.rfl_,⟨w1,w2,w3,w4,rfl,rfl⟩,?_⟩);(exact sub_);done))
 | (trace_state;fail)
end
theorem zds {p:Prop} (h:p:=by first | exact sv | exact ⟨⟨rfl,rfl⟩,⟨by omega,by omega,by omega,rfl,by simp⟩,⟨by simp,by (rw [List.length_map];omega),by simp,by simp⟩,(fun _ h=>nomatch h),zeC wl,(fun _ h=>nomatch h)⟩ | fail):p:=h
section
theorem zle (bb cm sm t:Nat) (M:List (Int×Nat)) (n:Int) (cb st:Nat) (hd:Int) (kp:Int) (xb:Nat) (wl:List Mg) (F:Own):(lookA n M=some cb/\wl.length<=100)->DC Tryz.prog 38 [.raw (.pointer (some ⟨bb,0,none⟩)), .int .i64 n] (.blk bb [.raw (.map (some cm)), .raw (.map (some sm)), .raw (.pointer (some ⟨t,0,none⟩))] :: .map cm (entM (V.int .i64) pv M) :: .blk cb [.raw (.pointer (some ⟨st,0,none⟩)), .int .i64 hd, .raw (.pointer (some ⟨xb,0,none⟩)), .int .i64 kp, .bool false, .sl (wl.map encM)]::([]:Own)++F) fun d G=>∃ (w1 w2 w3 w4:Value),d = .agg [.ar w1 1, .ar w2 wl.length, .ar w3 0, .ar w4 (zaR ([]++[])).length]/\G = .arr 4 w1 [.int .i64 0, .int .i64 n, .gs (.slice none 0 0) [], .bool true] :: .arr 4 w2 (cells (wl.map encM)) :: .arr 1 w3 [] :: .arr 1 w4 ((zaR ([]++[])).map V.str) :: .blk bb [.raw (.map (some cm)), .raw (.map (some sm)), .raw (.pointer (some ⟨t,0,none⟩))] :: .map cm (entM (V.int .i64) pv (za4 n M))::F:=by
 intro hA
 obtain ⟨hlk,hwl⟩:=hA
 refine DC.bodyS (n_:=15) (show Tryz.prog.funcs[38]? = some Tryz.f38 by kernel_rfl) rfl rfl (by rfl) ?_
 simp only [env0,List.cons_append,List.nil_append]
 have kw:=ksIs [0,1,4,5]
 have ow:=zai [5,8]
 have rw_:=rsIs [.cell 4 38]
 have hC:True:=trivial
 repeat' (first
  | ((fail_if_success (have zz:=hown));(with_reducible show DW _ _ (Code.region 2 _ _) _ _ _);(refine DW.own0P 4 eb 1 (by ((with_reducible repeat (first | exact Pulled.nil | apply Pulled.cons | exact Took.here | apply Took.next | apply Took.skip | fail))<;>fail)) rfl ?_);(simp only [List.set_cons_succ,List.set_cons_zero]);(refine DW.own0P 1 eb 2 (by ((with_reducible repeat (first | exact Pulled.nil | apply Pulled.cons | exact Took.here | apply Took.next | apply Took.skip | fail))<;>fail)) rfl ?_);(simp only [List.set_cons_succ,List.set_cons_zero]);(refine DW.own0P 1 eb 3 (by ((with_reducible repeat (first | exact Pulled.nil | apply Pulled.cons | exact Took.here | apply Took.next | apply Took.skip | fail))<;>fail)) rfl ?_);(simp only [List.set_cons_succ,List.set_cons_zero]);(have hown:True:=trivial))
  | refine g_ ?_
  | ((with_reducible refine And.intro ?_ ?_);(exact zds))
  | (refine DW.cond (by rfl) ?_ ?_<;>(first | exact i0_ | (intro hb;(try simp only [↓reduceCtorEq,not_true_eq_false,not_false_eq_true,hbs,Int.reduceBEq,Int.reduceBNe,Int.reduceEq] at hb);(try refine zaj ?_))))
  | ((with_reducible refine zaa ?_ ?_)<;>(intro hb;rw [hb];revert hb;(first | exact i0_ | (intro hb;(try simp only [↓reduceCtorEq,not_true_eq_false,not_false_eq_true,hbs,Int.reduceBEq,Int.reduceBNe,Int.reduceEq] at hb);(try refine zaj ?_)))))
  | ((first | refine rn_ ?_ | refine kn_ ?_)<;>(refine zaj ?_))
  | ((first | (refine DOp.lista_ [8] rfl rfl ?_) | (refine DOp.makea_ [8] rfl rfl rfl rfl ?_))<;>(refine zaj ?_))
  | (refine p_ (zhr _ _ _ _ _ _ _ _ _ _ _ _ _) ?_ (ha:=by exact zds);rintro d H1 ⟨rfl,rfl⟩<;>refine zaj ?_)
  | (refine p_ (zbY (D1:=[]) (D2:=[]) _ _ _ _ _ _ _ _ _ _ _ _ _ _ _ _ _ _) ?_ (ha:=by exact zds);rintro d H1 ⟨w1,w2,w3,w4,rfl,rfl⟩<;>refine zaj ?_)
  | ((refine on_ ?_);refine zaj ?_)
  | refine f_ ?_
  | ((fail_if_success (have zz:=rb));with_reducible intro rb)
  | ((fail_if_success (have zz:=lv));with_reducible intro lv)
  | ((fail_if_success (have zz:=eb));with_reducible intro eb)
  | with_reducible intro b)
 all_goals first
 | (((refine ⟨_,_,le.rfl_,⟨w1,w2,w3,w4,rfl,rfl⟩,?_⟩);(exact sub_);done))
 | (trace_state;fail)
end
theorem zd0 {p:Prop} (h:p:=by first | exact sv | exact ⟨hlk,hF⟩ | exact ⟨⟨rfl,rfl⟩,⟨by omega,by omega,by omega,rfl,by simp⟩,⟨by simp,by ((try rw [List.length_map]);first | omega | simp),by simp,hDn⟩,(fun _ h=>nomatch h),(fun _ h=>nomatch h),(fun _ h=>nomatch h)⟩ | fail):p:=h
section
theorem zl2 (bb cm sm t:Nat) (m:Int) (M:List (Int×Nat)) (SS:List (YS×Nat)) (n:Int) (cb st:Nat) (hd:Int) (kp:Int) (y:SN) (ts:TS) (F:Own):(lookA n M=some cb/\(lookA y.a.name SS=some y.b/\SAOK y.a/\TOK ts/\y.a.subs.length<=1000000000/\ts.L.length<=1000000000/\(zar y.a.subs).length<=1000000000/\∀ k,k<(zar y.a.subs).length->((zar y.a.subs).getD k default).1.length<=1000000))->DC Tryz.prog 38 [.raw (.pointer (some ⟨bb,0,none⟩)), .int .i64 n] (loose::knF::knA::knM m :: .blk bb [.raw (.map (some cm)), .raw (.map (some sm)), .raw (.pointer (some ⟨t,0,none⟩))] :: .map cm (entM (V.int .i64) pv M) :: .map sm (entM V.str pv SS) :: .blk cb [.raw (.pointer (some ⟨st,0,none⟩)), .int .i64 hd, .raw (.pointer (some ⟨y.b,0,none⟩)), .int .i64 kp, .bool true, .gs (.slice none 0 0) []]::(y.own++(ownT t ts++[]))++F) fun d G=>∃ (w1 w2 w3 w4:Value) (ts':TS),(TOK ts'/\ts'.L=(zag y.a.name (zar y.a.subs) ts.L).2)/\d = .agg [.ar w1 1, .ar w2 0, .ar w3 0, .ar w4 (zaR ([]++(zag y.a.name (zar y.a.subs) ts.L).1)).length]/\G = .arr 4 w1 [.int .i64 0, .int .i64 n, .gs (.slice none 0 0) [], .bool true] :: .arr 4 w2 (cells []) :: .arr 1 w3 [] :: .arr 1 w4 ((zaR ([]++(zag y.a.name (zar y.a.subs) ts.L).1)).map V.str)::loose::knF::knA::knM m :: .blk bb [.raw (.map (some cm)), .raw (.map (some sm)), .raw (.pointer (some ⟨t,0,none⟩))] :: .map cm (entM (V.int .i64) pv (za4 n M)) :: .map sm (entM V.str pv (za4 y.a.name SS))::(ownT t ts'++F):=by
 intro hA
 obtain ⟨hlk,hF⟩:=hA
 refine DC.bodyS (n_:=15) (show Tryz.prog.funcs[38]? = some Tryz.f38 by kernel_rfl) rfl rfl (by rfl) ?_
 simp only [env0,List.append_assoc,List.cons_append,List.nil_append]
 have kw:=ksIs [0,1,4,5]
 have ow:=zai [5,8]
 have rw_:=rsIs [.cell 4 38]
 have hC:True:=trivial
 have hDn:(zag y.a.name (zar y.a.subs) ts.L).1.length<=1000000000:=Nat.le_trans (zc1 ..) hF.2.2.2.2.2.1
 repeat' (first
  | ((fail_if_success (have zz:=hown));(with_reducible show DW _ _ (Code.region 2 _ _) _ _ _);(refine DW.own0P 4 eb 1 (by ((with_reducible repeat (first | exact Pulled.nil | apply Pulled.cons | exact Took.here | apply Took.next | apply Took.skip | fail))<;>fail)) rfl ?_);(simp only [List.set_cons_succ,List.set_cons_zero]);(refine DW.own0P 1 eb 2 (by ((with_reducible repeat (first | exact Pulled.nil | apply Pulled.cons | exact Took.here | apply Took.next | apply Took.skip | fail))<;>fail)) rfl ?_);(simp only [List.set_cons_succ,List.set_cons_zero]);(refine DW.own0P 1 eb 3 (by ((with_reducible repeat (first | exact Pulled.nil | apply Pulled.cons | exact Took.here | apply Took.next | apply Took.skip | fail))<;>fail)) rfl ?_);(simp only [List.set_cons_succ,List.set_cons_zero]);(have hown:True:=trivial))
  | refine g_ ?_
  | ((with_reducible refine And.intro ?_ ?_);(exact zd0))
  | (refine DW.cond (by rfl) ?_ ?_<;>(first | exact i0_ | (intro hb;(try simp only [↓reduceCtorEq,not_true_eq_false,not_false_eq_true,hbs,Int.reduceBEq,Int.reduceBNe,Int.reduceEq] at hb);(try refine zaj ?_))))
  | ((with_reducible refine zaa ?_ ?_)<;>(intro hb;rw [hb];revert hb;(first | exact i0_ | (intro hb;(try simp only [↓reduceCtorEq,not_true_eq_false,not_false_eq_true,hbs,Int.reduceBEq,Int.reduceBNe,Int.reduceEq] at hb);(try refine zaj ?_)))))
  | ((first | refine rn_ ?_ | refine kn_ ?_)<;>(refine zaj ?_))
  | ((first | (refine DOp.lista_ [8] rfl rfl ?_) | (refine DOp.makea_ [8] rfl rfl rfl rfl ?_))<;>(refine zaj ?_))
  | (refine p_ (zgR _ _ _ _ _ _ _ _ _ _ _ _ _ _ _) ?_ (ha:=by exact zd0);rintro d H1 ⟨ts2,⟨hs2,hL2⟩,rfl,rfl⟩<;>refine zaj ?_)
  | (refine p_ (zbY (D1:=[]) (D2:=(zag y.a.name (zar y.a.subs) ts.L).1) _ _ _ _ _ _ _ _ _ _ _ _ _ _ _ _ _ _) ?_ (ha:=by exact zd0);rintro d H1 ⟨w1,w2,w3,w4,rfl,rfl⟩<;>refine zaj ?_)
  | ((refine on_ ?_);refine zaj ?_)
  | refine f_ ?_
  | ((fail_if_success (have zz:=rb));with_reducible intro rb)
  | ((fail_if_success (have zz:=lv));with_reducible intro lv)
  | ((fail_if_success (have zz:=eb));with_reducible intro eb)
  | with_reducible intro b)
 all_goals first
 | (((refine ⟨_,_,le.rfl_,⟨w1,w2,w3,w4,ts2,⟨hs2,hL2⟩,rfl,rfl⟩,?_⟩);(exact sub_);done))
 | (trace_state;fail)
end
theorem zd5 {p:Prop} (h:p:=by first | exact sv | exact ⟨hlk,hF⟩ | exact ⟨⟨rfl,rfl⟩,⟨by omega,by omega,by omega,rfl,by simp⟩,⟨by simp,by ((try rw [List.length_map]);first | omega | simp),by simp,hDn⟩,(fun _ h=>nomatch h),zeC wl,(fun _ h=>nomatch h)⟩ | fail):p:=h
section
theorem zl1 (bb cm sm t:Nat) (m:Int) (M:List (Int×Nat)) (SS:List (YS×Nat)) (n:Int) (cb st:Nat) (hd:Int) (kp:Int) (y:SN) (ts:TS) (wl:List Mg) (F:Own):(lookA n M=some cb/\(lookA y.a.name SS=some y.b/\SAOK y.a/\TOK ts/\y.a.subs.length<=1000000000/\ts.L.length<=1000000000/\(zar y.a.subs).length<=1000000000/\∀ k,k<(zar y.a.subs).length->((zar y.a.subs).getD k default).1.length<=1000000)/\wl.length<=100)->DC Tryz.prog 38 [.raw (.pointer (some ⟨bb,0,none⟩)), .int .i64 n] (loose::knF::knA::knM m :: .blk bb [.raw (.map (some cm)), .raw (.map (some sm)), .raw (.pointer (some ⟨t,0,none⟩))] :: .map cm (entM (V.int .i64) pv M) :: .map sm (entM V.str pv SS) :: .blk cb [.raw (.pointer (some ⟨st,0,none⟩)), .int .i64 hd, .raw (.pointer (some ⟨y.b,0,none⟩)), .int .i64 kp, .bool true, .sl (wl.map encM)]::(y.own++(ownT t ts++[]))++F) fun d G=>∃ (w1 w2 w3 w4:Value) (ts':TS),(TOK ts'/\ts'.L=(zag y.a.name (zar y.a.subs) ts.L).2)/\d = .agg [.ar w1 1, .ar w2 wl.length, .ar w3 0, .ar w4 (zaR ([]++(zag y.a.name (zar y.a.subs) ts.L).1)).length]/\G = .arr 4 w1 [.int .i64 0, .int .i64 n, .gs (.slice none 0 0) [], .bool true] :: .arr 4 w2 (cells (wl.map encM)) :: .arr 1 w3 [] :: .arr 1 w4 ((zaR ([]++(zag y.a.name (zar y.a.subs) ts.L).1)).map V.str)::loose::knF::knA::knM m :: .blk bb [.raw (.map (some cm)), .raw (.map (some sm)), .raw (.pointer (some ⟨t,0,none⟩))] :: .map cm (entM (V.int .i64) pv (za4 n M)) :: .map sm (entM V.str pv (za4 y.a.name SS))::(ownT t ts'++F):=by
 intro hA
 obtain ⟨hlk,hF,hwl⟩:=hA
 refine DC.bodyS (n_:=15) (show Tryz.prog.funcs[38]? = some Tryz.f38 by kernel_rfl) rfl rfl (by rfl) ?_
 simp only [env0,List.append_assoc,List.cons_append,List.nil_append]
 have kw:=ksIs [0,1,4,5]
 have ow:=zai [5,8]
 have rw_:=rsIs [.cell 4 38]
 have hC:True:=trivial
 have hDn:(zag y.a.name (zar y.a.subs) ts.L).1.length<=1000000000:=Nat.le_trans (zc1 ..) hF.2.2.2.2.2.1
 repeat' (first
  | ((fail_if_success (have zz:=hown));(with_reducible show DW _ _ (Code.region 2 _ _) _ _ _);(refine DW.own0P 4 eb 1 (by ((with_reducible repeat (first | exact Pulled.nil | apply Pulled.cons | exact Took.here | apply Took.next | apply Took.skip | fail))<;>fail)) rfl ?_);(simp only [List.set_cons_succ,List.set_cons_zero]);(refine DW.own0P 1 eb 2 (by ((with_reducible repeat (first | exact Pulled.nil | apply Pulled.cons | exact Took.here | apply Took.next | apply Took.skip | fail))<;>fail)) rfl ?_);(simp only [List.set_cons_succ,List.set_cons_zero]);(refine DW.own0P 1 eb 3 (by ((with_reducible repeat (first | exact Pulled.nil | apply Pulled.cons | exact Took.here | apply Took.next | apply Took.skip | fail))<;>fail)) rfl ?_);(simp only [List.set_cons_succ,List.set_cons_zero]);(have hown:True:=trivial))
  | refine g_ ?_
  | ((with_reducible refine And.intro ?_ ?_);(exact zd5))
  | (refine DW.cond (by rfl) ?_ ?_<;>(first | exact i0_ | (intro hb;(try simp only [↓reduceCtorEq,not_true_eq_false,not_false_eq_true,hbs,Int.reduceBEq,Int.reduceBNe,Int.reduceEq] at hb);(try refine zaj ?_))))
  | ((with_reducible refine zaa ?_ ?_)<;>(intro hb;rw [hb];revert hb;(first | exact i0_ | (intro hb;(try simp only [↓reduceCtorEq,not_true_eq_false,not_false_eq_true,hbs,Int.reduceBEq,Int.reduceBNe,Int.reduceEq] at hb);(try refine zaj ?_)))))
  | ((first | refine rn_ ?_ | refine kn_ ?_)<;>(refine zaj ?_))
  | ((first | (refine DOp.lista_ [8] rfl rfl ?_) | (refine DOp.makea_ [8] rfl rfl rfl rfl ?_))<;>(refine zaj ?_))
  | (refine p_ (zhx _ _ _ _ _ _ _ _ _ _ _ _ _ _ _ _) ?_ (ha:=by exact zd5);rintro d H1 ⟨ts2,⟨hs2,hL2⟩,rfl,rfl⟩<;>refine zaj ?_)
  | (refine p_ (zbY (D1:=[]) (D2:=(zag y.a.name (zar y.a.subs) ts.L).1) _ _ _ _ _ _ _ _ _ _ _ _ _ _ _ _ _ _) ?_ (ha:=by exact zd5);rintro d H1 ⟨w1,w2,w3,w4,rfl,rfl⟩<;>refine zaj ?_)
  | ((refine on_ ?_);refine zaj ?_)
  | refine f_ ?_
  | ((fail_if_success (have zz:=rb));with_reducible intro rb)
  | ((fail_if_success (have zz:=lv));with_reducible intro lv)
  | ((fail_if_success (have zz:=eb));with_reducible intro eb)
  | with_reducible intro b)
 all_goals first
 | (((refine ⟨_,_,le.rfl_,⟨w1,w2,w3,w4,ts2,⟨hs2,hL2⟩,rfl,rfl⟩,?_⟩);(exact sub_);done))
 | (trace_state;fail)
end
end
end Go.Proofs.YtgekknefphagbaaGreatDoor
