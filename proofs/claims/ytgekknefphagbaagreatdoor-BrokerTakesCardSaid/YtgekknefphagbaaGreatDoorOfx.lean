/- The broker: effects in rows of cells; a connection goes. -/
import Derived.Test.YtgekknefphagbaaGreatDoorOax
import Derived.KernelRfl
namespace Go.Proofs.YtgekknefphagbaaGreatDoor
open Go.RowKit
set_option linter.unusedSimpArgs false
set_option linter.unusedVariables false
set_option linter.unusedSectionVars false
set_option maxHeartbeats 4000000
set_option maxRecDepth 100000
section
attribute [local irreducible] SN.own ownT ownC ownS zal zcl za0 zav zaK
attribute [local irreducible] DW SeqD DV DOp DC DVX DVJ idsF usI sortS putM zaj onlyM
theorem zmL (l:List YS):Go.Lib.compact (sortS l)=zaK l:=by unfold zaK;rfl
theorem zft {p:Prop} (h:p:=by first | exact sv | exact ⟨by omega,by omega,hl1⟩ | exact ⟨by omega,by omega,hl2⟩ | exact ⟨by omega,by omega,hl3⟩ | (refine ⟨?_,?_⟩<;>(simp only [zeb,List.length_append]<;>omega)) | fail):p:=h
attribute [local push_cast 2000] za9 zaW za8 zaL za3 zaG zaV za7 zax za2 zaX zaB zaC zaY zaE zaq za6 zat zaZ za5 zas zba zaD zar zap zbh zbt zbi zaR zaH zaF Option.getD_some Option.getD_none Option.isSome_some Option.isSome_none
section
attribute [local push_cast 2000] zb3 zoh zmL
theorem andV_dc (D1 D2:List YS) (eb:Nat) (v1 v2 v3 v4:Value) (n1 n2 n3 n4:Nat) (c1 c2 c3 l1 l2 l3:List V) (F:Own):((n1<=1000000000/\n2<=1000000000/\n3<=1000000000/\n4=D1.length/\D1.length<=1000000000)/\(l1.length<=1000000000/\l2.length<=1000000000/\l3.length<=1000000000/\D2.length<=1000000000)/\(∀ j∈l1,j.n=4/\j.cs.all V.one=true)/\(∀ j∈l2,j.n=4/\j.cs.all V.one=true)/\(∀ j∈l3,j.n=1/\j.cs.all V.one=true))->DC Tryz.prog 52 [.raw (.pointer (some ⟨eb,0,none⟩)), .agg [.sl l1, .sl l2, .sl l3, .sl (D2.map V.str)]] (.blk eb [.ar v1 n1, .ar v2 n2, .ar v3 n3, .ar v4 n4] :: .arr 4 v1 c1 :: .arr 4 v2 c2 :: .arr 1 v3 c3 :: .arr 1 v4 (D1.map V.str)::([]:Own)++F) fun d G=>∃ (w1 w2 w3 w4:Value),d = .tup []/\G = .blk eb [.ar w1 (n1+l1.length), .ar w2 (n2+l2.length), .ar w3 (n3+l3.length), .ar w4 (zaK (D1++D2)).length] :: .arr 4 w1 (c1++cells l1) :: .arr 4 w2 (c2++cells l2) :: .arr 1 w3 (c3++cells l3) :: .arr 1 w4 ((zaK (D1++D2)).map V.str)::F:=by
 intro hA
 obtain ⟨⟨hn1,hn2,hn3,hn4,hD1⟩,⟨hb1,hb2,hb3,hb4⟩,hl1,hl2,hl3⟩:=hA
 refine DC.bodyS (n_:=57) (show Tryz.prog.funcs[52]? = some Tryz.f52 by kernel_rfl) rfl rfl (by rfl) ?_
 simp only [env0,List.cons_append,List.nil_append]
 have kw:=ksIs [0,1,3]
 have ow:=zaf []
 have dw2:=drIs 2 [7,10] [4,6]
 repeat' (first
  | refine g_ ?_
  | ((with_reducible refine And.intro ?_ ?_);(exact zft))
  | (refine DW.cond (by rfl) ?_ ?_<;>(first | exact i0_ | (refine ic_ ?_;intro hb)))
  | ((with_reducible first | refine zaa ?_ ?_ | refine zak ?_ ?_)<;>(intro hb;rw [hb];revert hb;(first | exact i0_ | (refine i_ ?_;intro hb))))
  | refine r_ ?_
  | refine d_ ?_
  | refine k_ ?_
  | refine vo_ ?_
  | ((first | ((with_reducible apply DW.drawJ (id:=1) 0 [0,1,3] [9,16,23,26,29,32] [6,13,20] [9,16] (hm:=by kernel_rfl) (hd:=by kernel_rfl) (hB:=by kernel_rfl) (hN:=by kernel_rfl));(focus (exact rfl));(repeat (with_reducible first | refine OnB.here ?_ | refine OnB.mid ?_ | refine OnB.next ?_))) | (refine DVJ.k_ rfl rfl rfl ?_) | (refine DVJ.f_ rfl rfl rfl ?_))<;>(simp (maxSteps:=1000000) (disch:=omega) only [push_cast,↓reduceIte,reduceCtorEq,Nat.reduceAdd,Nat.reduceMul,Nat.reduceLT,Nat.reduceLeDiff,Nat.reduceEqDiff,Nat.reduceSub,Int.reduceToNat,Int.reduceLT,Int.reduceLE,Int.reduceAdd,Int.reduceSub,Int.reduceMul,Int.reduceNeg,Nat.reduceBEq,Int.reduceBEq,Int.reduceBNe,Nat.reduceBNe,Int.reduceEq,zb3,zoh,zmL,klS,klV]))
  | (refine p_ (zpA _ _ _ _) ?_ (ha:=by exact zft);rintro d H1 ⟨rfl,rfl⟩<;>refine s_ ?_)
  | (refine p_ (zqh _ _ _ _) ?_ (ha:=by exact zft);rintro d H1 ⟨w4,rfl,rfl⟩<;>refine s_ ?_)
  | refine o_ ?_
  | refine f_ ?_
  | (first | refine DVJ.ma_ rfl rfl rfl ?_ | refine DVJ.mb_ rfl rfl rfl ?_)
  | refine vm_ ?_
  | ((fail_if_success (have zz:=x1));with_reducible intro x1)
  | ((fail_if_success (have zz:=x2));with_reducible intro x2)
  | ((fail_if_success (have zz:=x3));with_reducible intro x3)
  | ((fail_if_success (have zz:=x4));with_reducible intro x4)
  | with_reducible intro b)
 all_goals first
 | (((refine ⟨_,_,le.rfl_,⟨x1,x2,x3,w4,rfl,rfl⟩,?_⟩);(exact sub_);done))
 | (trace_state;fail)
end
theorem zgw (bb cm sm t:Nat) (m:Int) (SS:List (YS×Nat)) (y:SN) (ts:TS) (F:Own):(lookA y.a.name SS=some y.b/\SAOK y.a/\TOK ts/\y.a.subs.length<=1000000000/\ts.L.length<=1000000000/\(zav y.a.subs).length<=1000000000/\∀ k,k<(zav y.a.subs).length->((zav y.a.subs).getD k default).1.length<=1000000)->DC Tryz.prog 84 [.raw (.pointer (some ⟨bb,0,none⟩)), .str y.a.name] ((loose::knF::knA::knM m :: .blk bb [.raw (.map (some cm)), .raw (.map (some sm)), .raw (.pointer (some ⟨t,0,none⟩))] :: .map sm (entM V.str pv SS)::(y.own++(ownT t ts++[])))++F) fun d G=>∃ ts':TS,(TOK ts'/\ts'.L=(zal y.a.name (zav y.a.subs) ts.L).2)/\d = .sl ((zal y.a.name (zav y.a.subs) ts.L).1.map V.str)/\G=loose::knF::knA::knM m :: .blk bb [.raw (.map (some cm)), .raw (.map (some sm)), .raw (.pointer (some ⟨t,0,none⟩))] :: .map sm (entM V.str pv (za0 y.a.name SS))::(ownT t ts'++F):=fun h =>
 DC.frzY (X:=TS) (Q:=fun ts'=>TOK ts'/\ts'.L=(zal y.a.name (zav y.a.subs) ts.L).2) (sz:=1) (l:=fun _=>(zal y.a.name (zav y.a.subs) ts.L).1.map V.str) (L:=fun ts'=>loose::knF::knA::knM m :: .blk bb [.raw (.map (some cm)), .raw (.map (some sm)), .raw (.pointer (some ⟨t,0,none⟩))] :: .map sm (entM V.str pv (za0 y.a.name SS))::(ownT t ts'++F)) (by decide) (fun x y hy=>by obtain ⟨z,_,rfl⟩:=List.mem_map.1 hy;rfl)
  ((zlt bb cm sm t m SS y ts F h).mono fun d G hd=>by
    obtain ⟨v,ts',h1,h2,h3⟩:=hd
    exact ⟨v,ts',by rw [List.length_map];exact h2,h1,by rw [zb3];exact h3⟩)
theorem zaN {P Q:Prop} (q:Q) (h:Hid Q->P:=by (intro q;simp (maxSteps:=1000000) (disch:=omega) only [push_cast,↓reduceIte,reduceCtorEq,Nat.reduceAdd,Nat.reduceMul,Nat.reduceLT,Nat.reduceLeDiff,Nat.reduceEqDiff,Nat.reduceSub,Int.reduceToNat,Int.reduceLT,Int.reduceLE,Int.reduceAdd,Int.reduceSub,Int.reduceMul,Int.reduceNeg,Nat.reduceBEq,Int.reduceBEq,Int.reduceBNe,Nat.reduceBNe,Int.reduceEq,hlk,hC];exact q.1)):P:=h ⟨q⟩
section
theorem zme (bb cm sm t:Nat) (M:List (Int×Nat)) (n:Int) (cb st:Nat) (hd:Int) (kp:Int) (cl:Bool) (F:Own):(lookA n M=some cb)->DC Tryz.prog 54 [.raw (.pointer (some ⟨bb,0,none⟩)), .int .i64 n] (.blk bb [.raw (.map (some cm)), .raw (.map (some sm)), .raw (.pointer (some ⟨t,0,none⟩))] :: .map cm (entM (V.int .i64) pv M) :: .blk cb [.raw (.pointer (some ⟨st,0,none⟩)), .int .i64 hd, .raw (.pointer none), .int .i64 kp, .bool cl, .gs (.slice none 0 0) []]::([]:Own)++F) fun d G=>d = .agg [.sl [], .sl [], .sl [], .sl []]/\G = .blk bb [.raw (.map (some cm)), .raw (.map (some sm)), .raw (.pointer (some ⟨t,0,none⟩))] :: .map cm (entM (V.int .i64) pv (za0 n M))::F:=by
 intro hA
 have hlk:=hA
 refine DC.bodyS (n_:=43) (show Tryz.prog.funcs[54]? = some Tryz.f54 by kernel_rfl) rfl rfl (by rfl) ?_
 simp only [env0,List.cons_append,List.nil_append]
 have kw:=ksIs [0,1,4,5,6,33]
 have ow:=zaf [6]
 have rw_:=rsIs [.cell 4 38]
 have hC:True:=trivial
 repeat' (first
  | refine g_ ?_
  | ((with_reducible refine And.intro ?_ ?_);(exact sv))
  | (refine DW.cond (by rfl) ?_ ?_<;>(first | exact i0_ | (intro hb;(try simp only [↓reduceCtorEq,not_true_eq_false,not_false_eq_true,hbs,Int.reduceBEq,Int.reduceBNe,Int.reduceEq] at hb);(try refine zaN ?_))))
  | ((with_reducible refine zaa ?_ ?_)<;>(intro hb;rw [hb];revert hb;(first | exact i0_ | (intro hb;(try simp only [↓reduceCtorEq,not_true_eq_false,not_false_eq_true,hbs,Int.reduceBEq,Int.reduceBNe,Int.reduceEq] at hb);(try refine zaN ?_)))))
  | ((first | refine rn_ ?_ | refine kn_ ?_)<;>(refine zaN ?_))
  | ((first | (refine DOp.look_ rfl rfl ?_;(repeat (with_reducible first | refine OnM.here ?_ | refine OnM.next ?_))) | (refine DOp.delm_ rfl rfl ?_;(repeat (with_reducible first | refine OnM.here ?_ | refine OnM.next ?_))))<;>(refine zaN ?_))
  | ((refine on_ ?_);refine zaN ?_)
  | refine f_ ?_
  | with_reducible intro b)
 all_goals first
 | (exact kxbd)
 | (trace_state;fail)
end
section
theorem zlo (bb cm sm t:Nat) (M:List (Int×Nat)) (n:Int) (cb st:Nat) (hd:Int) (kp:Int) (cl:Bool) (wl:List Mg) (F:Own):(lookA n M=some cb)->DC Tryz.prog 54 [.raw (.pointer (some ⟨bb,0,none⟩)), .int .i64 n] (.blk bb [.raw (.map (some cm)), .raw (.map (some sm)), .raw (.pointer (some ⟨t,0,none⟩))] :: .map cm (entM (V.int .i64) pv M) :: .blk cb [.raw (.pointer (some ⟨st,0,none⟩)), .int .i64 hd, .raw (.pointer none), .int .i64 kp, .bool cl, .sl (wl.map encM)]::([]:Own)++F) fun d G=>d = .agg [.sl [], .sl (wl.map encM), .sl [], .sl []]/\G = .blk bb [.raw (.map (some cm)), .raw (.map (some sm)), .raw (.pointer (some ⟨t,0,none⟩))] :: .map cm (entM (V.int .i64) pv (za0 n M))::F:=by
 intro hA
 have hlk:=hA
 refine DC.bodyS (n_:=43) (show Tryz.prog.funcs[54]? = some Tryz.f54 by kernel_rfl) rfl rfl (by rfl) ?_
 simp only [env0,List.cons_append,List.nil_append]
 have kw:=ksIs [0,1,4,5,6,33]
 have ow:=zaf [6]
 have rw_:=rsIs [.cell 4 38]
 have hC:True:=trivial
 repeat' (first
  | refine g_ ?_
  | ((with_reducible refine And.intro ?_ ?_);(exact sv))
  | (refine DW.cond (by rfl) ?_ ?_<;>(first | exact i0_ | (intro hb;(try simp only [↓reduceCtorEq,not_true_eq_false,not_false_eq_true,hbs,Int.reduceBEq,Int.reduceBNe,Int.reduceEq] at hb);(try refine zaN ?_))))
  | ((with_reducible refine zaa ?_ ?_)<;>(intro hb;rw [hb];revert hb;(first | exact i0_ | (intro hb;(try simp only [↓reduceCtorEq,not_true_eq_false,not_false_eq_true,hbs,Int.reduceBEq,Int.reduceBNe,Int.reduceEq] at hb);(try refine zaN ?_)))))
  | ((first | refine rn_ ?_ | refine kn_ ?_)<;>(refine zaN ?_))
  | ((first | (refine DOp.look_ rfl rfl ?_;(repeat (with_reducible first | refine OnM.here ?_ | refine OnM.next ?_))) | (refine DOp.delm_ rfl rfl ?_;(repeat (with_reducible first | refine OnM.here ?_ | refine OnM.next ?_))))<;>(refine zaN ?_))
  | ((refine on_ ?_);refine zaN ?_)
  | refine f_ ?_
  | with_reducible intro b)
 all_goals first
 | (exact kxbe)
 | (trace_state;fail)
end
section
theorem zlz (bb cm sm t:Nat) (M:List (Int×Nat)) (n:Int) (cb st:Nat) (hd:Int) (kp:Int) (xb:Nat) (F:Own):(lookA n M=some cb)->DC Tryz.prog 54 [.raw (.pointer (some ⟨bb,0,none⟩)), .int .i64 n] (.blk bb [.raw (.map (some cm)), .raw (.map (some sm)), .raw (.pointer (some ⟨t,0,none⟩))] :: .map cm (entM (V.int .i64) pv M) :: .blk cb [.raw (.pointer (some ⟨st,0,none⟩)), .int .i64 hd, .raw (.pointer (some ⟨xb,0,none⟩)), .int .i64 kp, .bool false, .gs (.slice none 0 0) []]::([]:Own)++F) fun d G=>d = .agg [.sl [], .sl [], .sl [], .sl []]/\G = .blk bb [.raw (.map (some cm)), .raw (.map (some sm)), .raw (.pointer (some ⟨t,0,none⟩))] :: .map cm (entM (V.int .i64) pv (za0 n M))::F:=by
 intro hA
 have hlk:=hA
 refine DC.bodyS (n_:=43) (show Tryz.prog.funcs[54]? = some Tryz.f54 by kernel_rfl) rfl rfl (by rfl) ?_
 simp only [env0,List.cons_append,List.nil_append]
 have kw:=ksIs [0,1,4,5,6,33]
 have ow:=zaf [6]
 have rw_:=rsIs [.cell 4 38]
 have hC:True:=trivial
 repeat' (first
  | refine g_ ?_
  | ((with_reducible refine And.intro ?_ ?_);(exact sv))
  | (refine DW.cond (by rfl) ?_ ?_<;>(first | exact i0_ | (intro hb;(try simp only [↓reduceCtorEq,not_true_eq_false,not_false_eq_true,hbs,Int.reduceBEq,Int.reduceBNe,Int.reduceEq] at hb);(try refine zaN ?_))))
  | ((with_reducible refine zaa ?_ ?_)<;>(intro hb;rw [hb];revert hb;(first | exact i0_ | (intro hb;(try simp only [↓reduceCtorEq,not_true_eq_false,not_false_eq_true,hbs,Int.reduceBEq,Int.reduceBNe,Int.reduceEq] at hb);(try refine zaN ?_)))))
  | ((first | refine rn_ ?_ | refine kn_ ?_)<;>(refine zaN ?_))
  | ((first | (refine DOp.look_ rfl rfl ?_;(repeat (with_reducible first | refine OnM.here ?_ | refine OnM.next ?_))) | (refine DOp.delm_ rfl rfl ?_;(repeat (with_reducible first | refine OnM.here ?_ | refine OnM.next ?_))))<;>(refine zaN ?_))
  | ((refine on_ ?_);refine zaN ?_)
  | refine f_ ?_
  | with_reducible intro b)
 all_goals first
 | (exact kxbd)
 | (trace_state;fail)
end
section
theorem zlr (bb cm sm t:Nat) (M:List (Int×Nat)) (n:Int) (cb st:Nat) (hd:Int) (kp:Int) (xb:Nat) (wl:List Mg) (F:Own):(lookA n M=some cb)->DC Tryz.prog 54 [.raw (.pointer (some ⟨bb,0,none⟩)), .int .i64 n] (.blk bb [.raw (.map (some cm)), .raw (.map (some sm)), .raw (.pointer (some ⟨t,0,none⟩))] :: .map cm (entM (V.int .i64) pv M) :: .blk cb [.raw (.pointer (some ⟨st,0,none⟩)), .int .i64 hd, .raw (.pointer (some ⟨xb,0,none⟩)), .int .i64 kp, .bool false, .sl (wl.map encM)]::([]:Own)++F) fun d G=>d = .agg [.sl [], .sl (wl.map encM), .sl [], .sl []]/\G = .blk bb [.raw (.map (some cm)), .raw (.map (some sm)), .raw (.pointer (some ⟨t,0,none⟩))] :: .map cm (entM (V.int .i64) pv (za0 n M))::F:=by
 intro hA
 have hlk:=hA
 refine DC.bodyS (n_:=43) (show Tryz.prog.funcs[54]? = some Tryz.f54 by kernel_rfl) rfl rfl (by rfl) ?_
 simp only [env0,List.cons_append,List.nil_append]
 have kw:=ksIs [0,1,4,5,6,33]
 have ow:=zaf [6]
 have rw_:=rsIs [.cell 4 38]
 have hC:True:=trivial
 repeat' (first
  | refine g_ ?_
  | ((with_reducible refine And.intro ?_ ?_);(exact sv))
  | (refine DW.cond (by rfl) ?_ ?_<;>(first | exact i0_ | (intro hb;(try simp only [↓reduceCtorEq,not_true_eq_false,not_false_eq_true,hbs,Int.reduceBEq,Int.reduceBNe,Int.reduceEq] at hb);(try refine zaN ?_))))
  | ((with_reducible refine zaa ?_ ?_)<;>(intro hb;rw [hb];revert hb;(first | exact i0_ | (intro hb;(try simp only [↓reduceCtorEq,not_true_eq_false,not_false_eq_true,hbs,Int.reduceBEq,Int.reduceBNe,Int.reduceEq] at hb);(try refine zaN ?_)))))
  | ((first | refine rn_ ?_ | refine kn_ ?_)<;>(refine zaN ?_))
  | ((first | (refine DOp.look_ rfl rfl ?_;(repeat (with_reducible first | refine OnM.here ?_ | refine OnM.next ?_))) | (refine DOp.delm_ rfl rfl ?_;(repeat (with_reducible first | refine OnM.here ?_ | refine OnM.next ?_))))<;>(refine zaN ?_))
  | ((refine on_ ?_);refine zaN ?_)
  | refine f_ ?_
  | with_reducible intro b)
 all_goals first
 | (exact kxbe)
 | (trace_state;fail)
end
section
theorem zl5 (bb cm sm t:Nat) (m:Int) (M:List (Int×Nat)) (SS:List (YS×Nat)) (n:Int) (cb st:Nat) (hd:Int) (kp:Int) (y:SN) (ts:TS) (F:Own):(lookA n M=some cb/\(lookA y.a.name SS=some y.b/\SAOK y.a/\TOK ts/\y.a.subs.length<=1000000000/\ts.L.length<=1000000000/\(zav y.a.subs).length<=1000000000/\∀ k,k<(zav y.a.subs).length->((zav y.a.subs).getD k default).1.length<=1000000))->DC Tryz.prog 54 [.raw (.pointer (some ⟨bb,0,none⟩)), .int .i64 n] (loose::knF::knA::knM m :: .blk bb [.raw (.map (some cm)), .raw (.map (some sm)), .raw (.pointer (some ⟨t,0,none⟩))] :: .map cm (entM (V.int .i64) pv M) :: .map sm (entM V.str pv SS) :: .blk cb [.raw (.pointer (some ⟨st,0,none⟩)), .int .i64 hd, .raw (.pointer (some ⟨y.b,0,none⟩)), .int .i64 kp, .bool true, .gs (.slice none 0 0) []]::(y.own++(ownT t ts++[]))++F) fun d G=>∃ ts':TS,(TOK ts'/\ts'.L=(zal y.a.name (zav y.a.subs) ts.L).2)/\d = .agg [.sl [], .sl [], .sl [], .sl ((zal y.a.name (zav y.a.subs) ts.L).1.map V.str)]/\G=loose::knF::knA::knM m :: .blk bb [.raw (.map (some cm)), .raw (.map (some sm)), .raw (.pointer (some ⟨t,0,none⟩))] :: .map cm (entM (V.int .i64) pv (za0 n M)) :: .map sm (entM V.str pv (za0 y.a.name SS))::(ownT t ts'++F):=by
 intro hA
 obtain ⟨hlk,hF⟩:=hA
 refine DC.bodyS (n_:=43) (show Tryz.prog.funcs[54]? = some Tryz.f54 by kernel_rfl) rfl rfl (by rfl) ?_
 simp only [env0,List.append_assoc,List.cons_append,List.nil_append]
 have kw:=ksIs [0,1,4,5,6,33]
 have ow:=zaf [6]
 have rw_:=rsIs [.cell 4 38]
 have hC:True:=trivial
 repeat' (first
  | refine g_ ?_
  | ((with_reducible refine And.intro ?_ ?_);(exact sv))
  | (refine DW.cond (by rfl) ?_ ?_<;>(first | exact i0_ | (intro hb;(try simp only [↓reduceCtorEq,not_true_eq_false,not_false_eq_true,hbs,Int.reduceBEq,Int.reduceBNe,Int.reduceEq] at hb);(try refine zaN ?_))))
  | ((with_reducible refine zaa ?_ ?_)<;>(intro hb;rw [hb];revert hb;(first | exact i0_ | (intro hb;(try simp only [↓reduceCtorEq,not_true_eq_false,not_false_eq_true,hbs,Int.reduceBEq,Int.reduceBNe,Int.reduceEq] at hb);(try refine zaN ?_)))))
  | ((first | refine rn_ ?_ | refine kn_ ?_)<;>(refine zaN ?_))
  | ((first | (refine DOp.look_ rfl rfl ?_;(repeat (with_reducible first | refine OnM.here ?_ | refine OnM.next ?_))) | (refine DOp.delm_ rfl rfl ?_;(repeat (with_reducible first | refine OnM.here ?_ | refine OnM.next ?_))))<;>(refine zaN ?_))
  | (refine q_ (zmJ _ _) ?_ (hk:=fun q=>q.1);refine zaN ?_)
  | (refine p_ (zgw _ _ _ _ _ _ _ _ _) ?_;rintro d H1 ⟨ts2,⟨hs2,hL2⟩,rfl,rfl⟩<;>refine zaN ?_)
  | ((refine on_ ?_);refine zaN ?_)
  | refine f_ ?_
  | with_reducible intro b)
 all_goals first
 | (((refine ⟨_,_,le.agg (Les.cons (le.gs rfl) (Les.cons (le.gs rfl) (Les.cons (le.gs rfl) (Les.cons le.rfl_ Les.nil)))),⟨ts2,⟨hs2,hL2⟩,rfl,rfl⟩,?_⟩);(exact sub_);done))
 | (trace_state;fail)
end
section
theorem zlW (bb cm sm t:Nat) (m:Int) (M:List (Int×Nat)) (SS:List (YS×Nat)) (n:Int) (cb st:Nat) (hd:Int) (kp:Int) (y:SN) (ts:TS) (wl:List Mg) (F:Own):(lookA n M=some cb/\(lookA y.a.name SS=some y.b/\SAOK y.a/\TOK ts/\y.a.subs.length<=1000000000/\ts.L.length<=1000000000/\(zav y.a.subs).length<=1000000000/\∀ k,k<(zav y.a.subs).length->((zav y.a.subs).getD k default).1.length<=1000000))->DC Tryz.prog 54 [.raw (.pointer (some ⟨bb,0,none⟩)), .int .i64 n] (loose::knF::knA::knM m :: .blk bb [.raw (.map (some cm)), .raw (.map (some sm)), .raw (.pointer (some ⟨t,0,none⟩))] :: .map cm (entM (V.int .i64) pv M) :: .map sm (entM V.str pv SS) :: .blk cb [.raw (.pointer (some ⟨st,0,none⟩)), .int .i64 hd, .raw (.pointer (some ⟨y.b,0,none⟩)), .int .i64 kp, .bool true, .sl (wl.map encM)]::(y.own++(ownT t ts++[]))++F) fun d G=>∃ ts':TS,(TOK ts'/\ts'.L=(zal y.a.name (zav y.a.subs) ts.L).2)/\d = .agg [.sl [], .sl (wl.map encM), .sl [], .sl ((zal y.a.name (zav y.a.subs) ts.L).1.map V.str)]/\G=loose::knF::knA::knM m :: .blk bb [.raw (.map (some cm)), .raw (.map (some sm)), .raw (.pointer (some ⟨t,0,none⟩))] :: .map cm (entM (V.int .i64) pv (za0 n M)) :: .map sm (entM V.str pv (za0 y.a.name SS))::(ownT t ts'++F):=by
 intro hA
 obtain ⟨hlk,hF⟩:=hA
 refine DC.bodyS (n_:=43) (show Tryz.prog.funcs[54]? = some Tryz.f54 by kernel_rfl) rfl rfl (by rfl) ?_
 simp only [env0,List.append_assoc,List.cons_append,List.nil_append]
 have kw:=ksIs [0,1,4,5,6,33]
 have ow:=zaf [6]
 have rw_:=rsIs [.cell 4 38]
 have hC:True:=trivial
 repeat' (first
  | refine g_ ?_
  | ((with_reducible refine And.intro ?_ ?_);(exact sv))
  | (refine DW.cond (by rfl) ?_ ?_<;>(first | exact i0_ | (intro hb;(try simp only [↓reduceCtorEq,not_true_eq_false,not_false_eq_true,hbs,Int.reduceBEq,Int.reduceBNe,Int.reduceEq] at hb);(try refine zaN ?_))))
  | ((with_reducible refine zaa ?_ ?_)<;>(intro hb;rw [hb];revert hb;(first | exact i0_ | (intro hb;(try simp only [↓reduceCtorEq,not_true_eq_false,not_false_eq_true,hbs,Int.reduceBEq,Int.reduceBNe,Int.reduceEq] at hb);(try refine zaN ?_)))))
  | ((first | refine rn_ ?_ | refine kn_ ?_)<;>(refine zaN ?_))
  | ((first | (refine DOp.look_ rfl rfl ?_;(repeat (with_reducible first | refine OnM.here ?_ | refine OnM.next ?_))) | (refine DOp.delm_ rfl rfl ?_;(repeat (with_reducible first | refine OnM.here ?_ | refine OnM.next ?_))))<;>(refine zaN ?_))
  | (refine q_ (zmJ _ _) ?_ (hk:=fun q=>q.1);refine zaN ?_)
  | (refine p_ (zgw _ _ _ _ _ _ _ _ _) ?_;rintro d H1 ⟨ts2,⟨hs2,hL2⟩,rfl,rfl⟩<;>refine zaN ?_)
  | ((refine on_ ?_);refine zaN ?_)
  | refine f_ ?_
  | with_reducible intro b)
 all_goals first
 | (((refine ⟨_,_,le.agg (Les.cons (le.gs rfl) (Les.cons le.rfl_ (Les.cons (le.gs rfl) (Les.cons le.rfl_ Les.nil)))),⟨ts2,⟨hs2,hL2⟩,rfl,rfl⟩,?_⟩);(exact sub_);done))
 | (trace_state;fail)
end
end
section
attribute [local irreducible] SN.own ownT ownC ownS zal zcl za0 zav zaK
attribute [local irreducible] DW SeqD DV DOp DC DVX DVJ idsF usI sortS putM zaj onlyM
theorem zcb (D1 D2:List YS) (eb:Nat) (v1 v2 v3 v4:Value) (n1 n2 n3 n4:Nat) (c1 c2 c3 c4 l1 l2 l3 l4:List V) (F:Own):((c4=D1.map V.str/\l4=D2.map V.str)/\(n1<=1000000000/\n2<=1000000000/\n3<=1000000000/\n4=D1.length/\D1.length<=1000000000)/\(l1.length<=1000000000/\l2.length<=1000000000/\l3.length<=1000000000/\D2.length<=1000000000)/\(∀ j∈l1,j.n=4/\j.cs.all V.one=true)/\(∀ j∈l2,j.n=4/\j.cs.all V.one=true)/\(∀ j∈l3,j.n=1/\j.cs.all V.one=true))->DC Tryz.prog 52 [.raw (.pointer (some ⟨eb,0,none⟩)), .agg [.sl l1, .sl l2, .sl l3, .sl l4]] ((.blk eb [.ar v1 n1, .ar v2 n2, .ar v3 n3, .ar v4 n4] :: .arr 4 v1 c1 :: .arr 4 v2 c2 :: .arr 1 v3 c3 :: .arr 1 v4 c4::([]:Own))++F) fun d G=>∃ (w1 w2 w3 w4:Value),d = .tup []/\G = .blk eb [.ar w1 (n1+l1.length), .ar w2 (n2+l2.length), .ar w3 (n3+l3.length), .ar w4 (zaK (D1++D2)).length] :: .arr 4 w1 (c1++cells l1) :: .arr 4 w2 (c2++cells l2) :: .arr 1 w3 (c3++cells l3) :: .arr 1 w4 ((zaK (D1++D2)).map V.str)::F:=by
 rintro ⟨⟨rfl,rfl⟩,h⟩
 exact andV_dc D1 D2 eb v1 v2 v3 v4 n1 n2 n3 n4 c1 c2 c3 l1 l2 l3 F h
theorem zfl (l:List Mg):∀ j∈l.map encM,j.n=4/\j.cs.all V.one=true:=fun j hj=>by obtain ⟨x,_,rfl⟩:=List.mem_map.1 hj;exact ⟨rfl,rfl⟩
theorem mg_n (l:List Mg):∀ j∈l.map encM,j.n=4:=fun j hj=>(zfl l j hj).1
theorem st_n (l:List YS):∀ j∈l.map V.str,j.n=1:=fun j hj=>by obtain ⟨x,_,rfl⟩:=List.mem_map.1 hj;rfl
theorem zd0 {p:Prop} (h:p:=by first | exact sv | exact ⟨⟨rfl,rfl⟩,⟨by omega,by omega,by omega,rfl,by simp⟩,⟨by simp,by simp,by simp,by simp⟩,(fun _ h=>nomatch h),(fun _ h=>nomatch h),(fun _ h=>nomatch h)⟩ | fail):p:=h
attribute [local push_cast 2000] za9 zaW za8 zaL za3 zaG zaV za7 zax za2 zaX zaB zaC zaY zaE zaq za6 zat zaZ za5 zas zba zaD zar zap zbh zbt zbi zaR zaH zaF Option.getD_some Option.getD_none Option.isSome_some Option.isSome_none
section
theorem zlx (bb cm sm t:Nat) (M:List (Int×Nat)) (n:Int) (cb st:Nat) (hd:Int) (kp:Int) (cl:Bool) (F:Own):(lookA n M=some cb)->DC Tryz.prog 38 [.raw (.pointer (some ⟨bb,0,none⟩)), .int .i64 n] (.blk bb [.raw (.map (some cm)), .raw (.map (some sm)), .raw (.pointer (some ⟨t,0,none⟩))] :: .map cm (entM (V.int .i64) pv M) :: .blk cb [.raw (.pointer (some ⟨st,0,none⟩)), .int .i64 hd, .raw (.pointer none), .int .i64 kp, .bool cl, .gs (.slice none 0 0) []]::([]:Own)++F) fun d G=>∃ (w1 w2 w3 w4:Value),d = .agg [.ar w1 1, .ar w2 0, .ar w3 0, .ar w4 (zaK ([]++[])).length]/\G = .arr 4 w1 [.int .i64 0, .int .i64 n, .gs (.slice none 0 0) [], .bool true] :: .arr 4 w2 (cells []) :: .arr 1 w3 [] :: .arr 1 w4 ((zaK ([]++[])).map V.str) :: .blk bb [.raw (.map (some cm)), .raw (.map (some sm)), .raw (.pointer (some ⟨t,0,none⟩))] :: .map cm (entM (V.int .i64) pv (za0 n M))::F:=by
 intro hA
 have hlk:=hA
 refine DC.bodyS (n_:=15) (show Tryz.prog.funcs[38]? = some Tryz.f38 by kernel_rfl) rfl rfl (by rfl) ?_
 simp only [env0,List.cons_append,List.nil_append]
 have kw:=ksIs [0,1,4,5]
 have ow:=zaf [5,8]
 have rw_:=rsIs [.cell 4 38]
 have hC:True:=trivial
 repeat' (first
  | ((fail_if_success (have zz:=hown));(with_reducible show DW _ _ (Code.region 2 _ _) _ _ _);(refine DW.own0P 4 eb 1 kxbg rfl ?_);(simp only [List.set_cons_succ,List.set_cons_zero]);(refine DW.own0P 1 eb 2 kxbg rfl ?_);(simp only [List.set_cons_succ,List.set_cons_zero]);(refine DW.own0P 1 eb 3 kxbg rfl ?_);(simp only [List.set_cons_succ,List.set_cons_zero]);(have hown:True:=trivial))
  | refine g_ ?_
  | ((with_reducible refine And.intro ?_ ?_);(exact zd0))
  | (refine DW.cond (by rfl) ?_ ?_<;>(first | exact i0_ | (intro hb;(try simp only [↓reduceCtorEq,not_true_eq_false,not_false_eq_true,hbs,Int.reduceBEq,Int.reduceBNe,Int.reduceEq] at hb);(try refine zaN ?_))))
  | ((with_reducible refine zaa ?_ ?_)<;>(intro hb;rw [hb];revert hb;(first | exact i0_ | (intro hb;(try simp only [↓reduceCtorEq,not_true_eq_false,not_false_eq_true,hbs,Int.reduceBEq,Int.reduceBNe,Int.reduceEq] at hb);(try refine zaN ?_)))))
  | ((first | refine rn_ ?_ | refine kn_ ?_)<;>(refine zaN ?_))
  | ((first | (refine DOp.lista_ [8] rfl rfl ?_) | (refine DOp.makea_ [8] rfl rfl rfl rfl ?_))<;>(refine zaN ?_))
  | (refine p_ (zme _ _ _ _ _ _ _ _ _ _ _ _) ?_ (ha:=by exact zd0);rintro d H1 ⟨rfl,rfl⟩<;>refine zaN ?_)
  | (refine p_ (zcb (D1:=[]) (D2:=[]) _ _ _ _ _ _ _ _ _ _ _ _ _ _ _ _ _ _) ?_ (ha:=by exact zd0);rintro d H1 ⟨w1,w2,w3,w4,rfl,rfl⟩<;>refine zaN ?_)
  | ((refine on_ ?_);refine zaN ?_)
  | refine f_ ?_
  | ((fail_if_success (have zz:=rb));with_reducible intro rb)
  | ((fail_if_success (have zz:=lv));with_reducible intro lv)
  | ((fail_if_success (have zz:=eb));with_reducible intro eb)
  | with_reducible intro b)
 all_goals first
 | (exact kxbx)
 | (trace_state;fail)
end
theorem zdu {p:Prop} (h:p:=by first | exact sv | exact ⟨⟨rfl,rfl⟩,⟨by omega,by omega,by omega,rfl,by simp⟩,⟨by simp,by (rw [List.length_map];omega),by simp,by simp⟩,(fun _ h=>nomatch h),zfl wl,(fun _ h=>nomatch h)⟩ | fail):p:=h
section
theorem zl9 (bb cm sm t:Nat) (M:List (Int×Nat)) (n:Int) (cb st:Nat) (hd:Int) (kp:Int) (cl:Bool) (wl:List Mg) (F:Own):(lookA n M=some cb/\wl.length<=100)->DC Tryz.prog 38 [.raw (.pointer (some ⟨bb,0,none⟩)), .int .i64 n] (.blk bb [.raw (.map (some cm)), .raw (.map (some sm)), .raw (.pointer (some ⟨t,0,none⟩))] :: .map cm (entM (V.int .i64) pv M) :: .blk cb [.raw (.pointer (some ⟨st,0,none⟩)), .int .i64 hd, .raw (.pointer none), .int .i64 kp, .bool cl, .sl (wl.map encM)]::([]:Own)++F) fun d G=>∃ (w1 w2 w3 w4:Value),d = .agg [.ar w1 1, .ar w2 wl.length, .ar w3 0, .ar w4 (zaK ([]++[])).length]/\G = .arr 4 w1 [.int .i64 0, .int .i64 n, .gs (.slice none 0 0) [], .bool true] :: .arr 4 w2 (cells (wl.map encM)) :: .arr 1 w3 [] :: .arr 1 w4 ((zaK ([]++[])).map V.str) :: .blk bb [.raw (.map (some cm)), .raw (.map (some sm)), .raw (.pointer (some ⟨t,0,none⟩))] :: .map cm (entM (V.int .i64) pv (za0 n M))::F:=by
 intro hA
 obtain ⟨hlk,hwl⟩:=hA
 refine DC.bodyS (n_:=15) (show Tryz.prog.funcs[38]? = some Tryz.f38 by kernel_rfl) rfl rfl (by rfl) ?_
 simp only [env0,List.cons_append,List.nil_append]
 have kw:=ksIs [0,1,4,5]
 have ow:=zaf [5,8]
 have rw_:=rsIs [.cell 4 38]
 have hC:True:=trivial
 repeat' (first
  | ((fail_if_success (have zz:=hown));(with_reducible show DW _ _ (Code.region 2 _ _) _ _ _);(refine DW.own0P 4 eb 1 kxbg rfl ?_);(simp only [List.set_cons_succ,List.set_cons_zero]);(refine DW.own0P 1 eb 2 kxbg rfl ?_);(simp only [List.set_cons_succ,List.set_cons_zero]);(refine DW.own0P 1 eb 3 kxbg rfl ?_);(simp only [List.set_cons_succ,List.set_cons_zero]);(have hown:True:=trivial))
  | refine g_ ?_
  | ((with_reducible refine And.intro ?_ ?_);(exact zdu))
  | (refine DW.cond (by rfl) ?_ ?_<;>(first | exact i0_ | (intro hb;(try simp only [↓reduceCtorEq,not_true_eq_false,not_false_eq_true,hbs,Int.reduceBEq,Int.reduceBNe,Int.reduceEq] at hb);(try refine zaN ?_))))
  | ((with_reducible refine zaa ?_ ?_)<;>(intro hb;rw [hb];revert hb;(first | exact i0_ | (intro hb;(try simp only [↓reduceCtorEq,not_true_eq_false,not_false_eq_true,hbs,Int.reduceBEq,Int.reduceBNe,Int.reduceEq] at hb);(try refine zaN ?_)))))
  | ((first | refine rn_ ?_ | refine kn_ ?_)<;>(refine zaN ?_))
  | ((first | (refine DOp.lista_ [8] rfl rfl ?_) | (refine DOp.makea_ [8] rfl rfl rfl rfl ?_))<;>(refine zaN ?_))
  | (refine p_ (zlo _ _ _ _ _ _ _ _ _ _ _ _ _) ?_ (ha:=by exact zdu);rintro d H1 ⟨rfl,rfl⟩<;>refine zaN ?_)
  | (refine p_ (zcb (D1:=[]) (D2:=[]) _ _ _ _ _ _ _ _ _ _ _ _ _ _ _ _ _ _) ?_ (ha:=by exact zdu);rintro d H1 ⟨w1,w2,w3,w4,rfl,rfl⟩<;>refine zaN ?_)
  | ((refine on_ ?_);refine zaN ?_)
  | refine f_ ?_
  | ((fail_if_success (have zz:=rb));with_reducible intro rb)
  | ((fail_if_success (have zz:=lv));with_reducible intro lv)
  | ((fail_if_success (have zz:=eb));with_reducible intro eb)
  | with_reducible intro b)
 all_goals first
 | (exact kxbx)
 | (trace_state;fail)
end
theorem zd3 {p:Prop} (h:p:=by first | exact sv | exact ⟨⟨rfl,rfl⟩,⟨by omega,by omega,by omega,rfl,by simp⟩,⟨by simp,by simp,by simp,by simp⟩,(fun _ h=>nomatch h),(fun _ h=>nomatch h),(fun _ h=>nomatch h)⟩ | fail):p:=h
section
theorem zlQ (bb cm sm t:Nat) (M:List (Int×Nat)) (n:Int) (cb st:Nat) (hd:Int) (kp:Int) (xb:Nat) (F:Own):(lookA n M=some cb)->DC Tryz.prog 38 [.raw (.pointer (some ⟨bb,0,none⟩)), .int .i64 n] (.blk bb [.raw (.map (some cm)), .raw (.map (some sm)), .raw (.pointer (some ⟨t,0,none⟩))] :: .map cm (entM (V.int .i64) pv M) :: .blk cb [.raw (.pointer (some ⟨st,0,none⟩)), .int .i64 hd, .raw (.pointer (some ⟨xb,0,none⟩)), .int .i64 kp, .bool false, .gs (.slice none 0 0) []]::([]:Own)++F) fun d G=>∃ (w1 w2 w3 w4:Value),d = .agg [.ar w1 1, .ar w2 0, .ar w3 0, .ar w4 (zaK ([]++[])).length]/\G = .arr 4 w1 [.int .i64 0, .int .i64 n, .gs (.slice none 0 0) [], .bool true] :: .arr 4 w2 (cells []) :: .arr 1 w3 [] :: .arr 1 w4 ((zaK ([]++[])).map V.str) :: .blk bb [.raw (.map (some cm)), .raw (.map (some sm)), .raw (.pointer (some ⟨t,0,none⟩))] :: .map cm (entM (V.int .i64) pv (za0 n M))::F:=by
 intro hA
 have hlk:=hA
 refine DC.bodyS (n_:=15) (show Tryz.prog.funcs[38]? = some Tryz.f38 by kernel_rfl) rfl rfl (by rfl) ?_
 simp only [env0,List.cons_append,List.nil_append]
 have kw:=ksIs [0,1,4,5]
 have ow:=zaf [5,8]
 have rw_:=rsIs [.cell 4 38]
 have hC:True:=trivial
 repeat' (first
  | ((fail_if_success (have zz:=hown));(with_reducible show DW _ _ (Code.region 2 _ _) _ _ _);(refine DW.own0P 4 eb 1 kxbg rfl ?_);(simp only [List.set_cons_succ,List.set_cons_zero]);(refine DW.own0P 1 eb 2 kxbg rfl ?_);(simp only [List.set_cons_succ,List.set_cons_zero]);(refine DW.own0P 1 eb 3 kxbg rfl ?_);(simp only [List.set_cons_succ,List.set_cons_zero]);(have hown:True:=trivial))
  | refine g_ ?_
  | ((with_reducible refine And.intro ?_ ?_);(exact zd3))
  | (refine DW.cond (by rfl) ?_ ?_<;>(first | exact i0_ | (intro hb;(try simp only [↓reduceCtorEq,not_true_eq_false,not_false_eq_true,hbs,Int.reduceBEq,Int.reduceBNe,Int.reduceEq] at hb);(try refine zaN ?_))))
  | ((with_reducible refine zaa ?_ ?_)<;>(intro hb;rw [hb];revert hb;(first | exact i0_ | (intro hb;(try simp only [↓reduceCtorEq,not_true_eq_false,not_false_eq_true,hbs,Int.reduceBEq,Int.reduceBNe,Int.reduceEq] at hb);(try refine zaN ?_)))))
  | ((first | refine rn_ ?_ | refine kn_ ?_)<;>(refine zaN ?_))
  | ((first | (refine DOp.lista_ [8] rfl rfl ?_) | (refine DOp.makea_ [8] rfl rfl rfl rfl ?_))<;>(refine zaN ?_))
  | (refine p_ (zlz _ _ _ _ _ _ _ _ _ _ _ _) ?_ (ha:=by exact zd3);rintro d H1 ⟨rfl,rfl⟩<;>refine zaN ?_)
  | (refine p_ (zcb (D1:=[]) (D2:=[]) _ _ _ _ _ _ _ _ _ _ _ _ _ _ _ _ _ _) ?_ (ha:=by exact zd3);rintro d H1 ⟨w1,w2,w3,w4,rfl,rfl⟩<;>refine zaN ?_)
  | ((refine on_ ?_);refine zaN ?_)
  | refine f_ ?_
  | ((fail_if_success (have zz:=rb));with_reducible intro rb)
  | ((fail_if_success (have zz:=lv));with_reducible intro lv)
  | ((fail_if_success (have zz:=eb));with_reducible intro eb)
  | with_reducible intro b)
 all_goals first
 | (exact kxbx)
 | (trace_state;fail)
end
theorem zdz {p:Prop} (h:p:=by first | exact sv | exact ⟨⟨rfl,rfl⟩,⟨by omega,by omega,by omega,rfl,by simp⟩,⟨by simp,by (rw [List.length_map];omega),by simp,by simp⟩,(fun _ h=>nomatch h),zfl wl,(fun _ h=>nomatch h)⟩ | fail):p:=h
section
theorem zlK (bb cm sm t:Nat) (M:List (Int×Nat)) (n:Int) (cb st:Nat) (hd:Int) (kp:Int) (xb:Nat) (wl:List Mg) (F:Own):(lookA n M=some cb/\wl.length<=100)->DC Tryz.prog 38 [.raw (.pointer (some ⟨bb,0,none⟩)), .int .i64 n] (.blk bb [.raw (.map (some cm)), .raw (.map (some sm)), .raw (.pointer (some ⟨t,0,none⟩))] :: .map cm (entM (V.int .i64) pv M) :: .blk cb [.raw (.pointer (some ⟨st,0,none⟩)), .int .i64 hd, .raw (.pointer (some ⟨xb,0,none⟩)), .int .i64 kp, .bool false, .sl (wl.map encM)]::([]:Own)++F) fun d G=>∃ (w1 w2 w3 w4:Value),d = .agg [.ar w1 1, .ar w2 wl.length, .ar w3 0, .ar w4 (zaK ([]++[])).length]/\G = .arr 4 w1 [.int .i64 0, .int .i64 n, .gs (.slice none 0 0) [], .bool true] :: .arr 4 w2 (cells (wl.map encM)) :: .arr 1 w3 [] :: .arr 1 w4 ((zaK ([]++[])).map V.str) :: .blk bb [.raw (.map (some cm)), .raw (.map (some sm)), .raw (.pointer (some ⟨t,0,none⟩))] :: .map cm (entM (V.int .i64) pv (za0 n M))::F:=by
 intro hA
 obtain ⟨hlk,hwl⟩:=hA
 refine DC.bodyS (n_:=15) (show Tryz.prog.funcs[38]? = some Tryz.f38 by kernel_rfl) rfl rfl (by rfl) ?_
 simp only [env0,List.cons_append,List.nil_append]
 have kw:=ksIs [0,1,4,5]
 have ow:=zaf [5,8]
 have rw_:=rsIs [.cell 4 38]
 have hC:True:=trivial
 repeat' (first
  | ((fail_if_success (have zz:=hown));(with_reducible show DW _ _ (Code.region 2 _ _) _ _ _);(refine DW.own0P 4 eb 1 kxbg rfl ?_);(simp only [List.set_cons_succ,List.set_cons_zero]);(refine DW.own0P 1 eb 2 kxbg rfl ?_);(simp only [List.set_cons_succ,List.set_cons_zero]);(refine DW.own0P 1 eb 3 kxbg rfl ?_);(simp only [List.set_cons_succ,List.set_cons_zero]);(have hown:True:=trivial))
  | refine g_ ?_
  | ((with_reducible refine And.intro ?_ ?_);(exact zdz))
  | (refine DW.cond (by rfl) ?_ ?_<;>(first | exact i0_ | (intro hb;(try simp only [↓reduceCtorEq,not_true_eq_false,not_false_eq_true,hbs,Int.reduceBEq,Int.reduceBNe,Int.reduceEq] at hb);(try refine zaN ?_))))
  | ((with_reducible refine zaa ?_ ?_)<;>(intro hb;rw [hb];revert hb;(first | exact i0_ | (intro hb;(try simp only [↓reduceCtorEq,not_true_eq_false,not_false_eq_true,hbs,Int.reduceBEq,Int.reduceBNe,Int.reduceEq] at hb);(try refine zaN ?_)))))
  | ((first | refine rn_ ?_ | refine kn_ ?_)<;>(refine zaN ?_))
  | ((first | (refine DOp.lista_ [8] rfl rfl ?_) | (refine DOp.makea_ [8] rfl rfl rfl rfl ?_))<;>(refine zaN ?_))
  | (refine p_ (zlr _ _ _ _ _ _ _ _ _ _ _ _ _) ?_ (ha:=by exact zdz);rintro d H1 ⟨rfl,rfl⟩<;>refine zaN ?_)
  | (refine p_ (zcb (D1:=[]) (D2:=[]) _ _ _ _ _ _ _ _ _ _ _ _ _ _ _ _ _ _) ?_ (ha:=by exact zdz);rintro d H1 ⟨w1,w2,w3,w4,rfl,rfl⟩<;>refine zaN ?_)
  | ((refine on_ ?_);refine zaN ?_)
  | refine f_ ?_
  | ((fail_if_success (have zz:=rb));with_reducible intro rb)
  | ((fail_if_success (have zz:=lv));with_reducible intro lv)
  | ((fail_if_success (have zz:=eb));with_reducible intro eb)
  | with_reducible intro b)
 all_goals first
 | (exact kxbx)
 | (trace_state;fail)
end
theorem zd9 {p:Prop} (h:p:=by first | exact sv | exact ⟨hlk,hF⟩ | exact ⟨⟨rfl,rfl⟩,⟨by omega,by omega,by omega,rfl,by simp⟩,⟨by simp,by ((try rw [List.length_map]);first | omega | simp),by simp,hDn⟩,(fun _ h=>nomatch h),(fun _ h=>nomatch h),(fun _ h=>nomatch h)⟩ | fail):p:=h
section
theorem zlb (bb cm sm t:Nat) (m:Int) (M:List (Int×Nat)) (SS:List (YS×Nat)) (n:Int) (cb st:Nat) (hd:Int) (kp:Int) (y:SN) (ts:TS) (F:Own):(lookA n M=some cb/\(lookA y.a.name SS=some y.b/\SAOK y.a/\TOK ts/\y.a.subs.length<=1000000000/\ts.L.length<=1000000000/\(zav y.a.subs).length<=1000000000/\∀ k,k<(zav y.a.subs).length->((zav y.a.subs).getD k default).1.length<=1000000))->DC Tryz.prog 38 [.raw (.pointer (some ⟨bb,0,none⟩)), .int .i64 n] (loose::knF::knA::knM m :: .blk bb [.raw (.map (some cm)), .raw (.map (some sm)), .raw (.pointer (some ⟨t,0,none⟩))] :: .map cm (entM (V.int .i64) pv M) :: .map sm (entM V.str pv SS) :: .blk cb [.raw (.pointer (some ⟨st,0,none⟩)), .int .i64 hd, .raw (.pointer (some ⟨y.b,0,none⟩)), .int .i64 kp, .bool true, .gs (.slice none 0 0) []]::(y.own++(ownT t ts++[]))++F) fun d G=>∃ (w1 w2 w3 w4:Value) (ts':TS),(TOK ts'/\ts'.L=(zal y.a.name (zav y.a.subs) ts.L).2)/\d = .agg [.ar w1 1, .ar w2 0, .ar w3 0, .ar w4 (zaK ([]++(zal y.a.name (zav y.a.subs) ts.L).1)).length]/\G = .arr 4 w1 [.int .i64 0, .int .i64 n, .gs (.slice none 0 0) [], .bool true] :: .arr 4 w2 (cells []) :: .arr 1 w3 [] :: .arr 1 w4 ((zaK ([]++(zal y.a.name (zav y.a.subs) ts.L).1)).map V.str)::loose::knF::knA::knM m :: .blk bb [.raw (.map (some cm)), .raw (.map (some sm)), .raw (.pointer (some ⟨t,0,none⟩))] :: .map cm (entM (V.int .i64) pv (za0 n M)) :: .map sm (entM V.str pv (za0 y.a.name SS))::(ownT t ts'++F):=by
 intro hA
 obtain ⟨hlk,hF⟩:=hA
 refine DC.bodyS (n_:=15) (show Tryz.prog.funcs[38]? = some Tryz.f38 by kernel_rfl) rfl rfl (by rfl) ?_
 simp only [env0,List.append_assoc,List.cons_append,List.nil_append]
 have kw:=ksIs [0,1,4,5]
 have ow:=zaf [5,8]
 have rw_:=rsIs [.cell 4 38]
 have hC:True:=trivial
 have hDn:(zal y.a.name (zav y.a.subs) ts.L).1.length<=1000000000:=Nat.le_trans (zc9 ..) hF.2.2.2.2.2.1
 repeat' (first
  | ((fail_if_success (have zz:=hown));(with_reducible show DW _ _ (Code.region 2 _ _) _ _ _);(refine DW.own0P 4 eb 1 kxbg rfl ?_);(simp only [List.set_cons_succ,List.set_cons_zero]);(refine DW.own0P 1 eb 2 kxbg rfl ?_);(simp only [List.set_cons_succ,List.set_cons_zero]);(refine DW.own0P 1 eb 3 kxbg rfl ?_);(simp only [List.set_cons_succ,List.set_cons_zero]);(have hown:True:=trivial))
  | refine g_ ?_
  | ((with_reducible refine And.intro ?_ ?_);(exact zd9))
  | (refine DW.cond (by rfl) ?_ ?_<;>(first | exact i0_ | (intro hb;(try simp only [↓reduceCtorEq,not_true_eq_false,not_false_eq_true,hbs,Int.reduceBEq,Int.reduceBNe,Int.reduceEq] at hb);(try refine zaN ?_))))
  | ((with_reducible refine zaa ?_ ?_)<;>(intro hb;rw [hb];revert hb;(first | exact i0_ | (intro hb;(try simp only [↓reduceCtorEq,not_true_eq_false,not_false_eq_true,hbs,Int.reduceBEq,Int.reduceBNe,Int.reduceEq] at hb);(try refine zaN ?_)))))
  | ((first | refine rn_ ?_ | refine kn_ ?_)<;>(refine zaN ?_))
  | ((first | (refine DOp.lista_ [8] rfl rfl ?_) | (refine DOp.makea_ [8] rfl rfl rfl rfl ?_))<;>(refine zaN ?_))
  | (refine p_ (zl5 _ _ _ _ _ _ _ _ _ _ _ _ _ _ _) ?_ (ha:=by exact zd9);rintro d H1 ⟨ts2,⟨hs2,hL2⟩,rfl,rfl⟩<;>refine zaN ?_)
  | (refine p_ (zcb (D1:=[]) (D2:=(zal y.a.name (zav y.a.subs) ts.L).1) _ _ _ _ _ _ _ _ _ _ _ _ _ _ _ _ _ _) ?_ (ha:=by exact zd9);rintro d H1 ⟨w1,w2,w3,w4,rfl,rfl⟩<;>refine zaN ?_)
  | ((refine on_ ?_);refine zaN ?_)
  | refine f_ ?_
  | ((fail_if_success (have zz:=rb));with_reducible intro rb)
  | ((fail_if_success (have zz:=lv));with_reducible intro lv)
  | ((fail_if_success (have zz:=eb));with_reducible intro eb)
  | with_reducible intro b)
 all_goals first
 | (((refine ⟨_,_,le.rfl_,⟨w1,w2,w3,w4,ts2,⟨hs2,hL2⟩,rfl,rfl⟩,?_⟩);(exact sub_);done))
 | (trace_state;fail)
end
theorem zdC {p:Prop} (h:p:=by first | exact sv | exact ⟨hlk,hF⟩ | exact ⟨⟨rfl,rfl⟩,⟨by omega,by omega,by omega,rfl,by simp⟩,⟨by simp,by ((try rw [List.length_map]);first | omega | simp),by simp,hDn⟩,(fun _ h=>nomatch h),zfl wl,(fun _ h=>nomatch h)⟩ | fail):p:=h
section
theorem zld (bb cm sm t:Nat) (m:Int) (M:List (Int×Nat)) (SS:List (YS×Nat)) (n:Int) (cb st:Nat) (hd:Int) (kp:Int) (y:SN) (ts:TS) (wl:List Mg) (F:Own):(lookA n M=some cb/\(lookA y.a.name SS=some y.b/\SAOK y.a/\TOK ts/\y.a.subs.length<=1000000000/\ts.L.length<=1000000000/\(zav y.a.subs).length<=1000000000/\∀ k,k<(zav y.a.subs).length->((zav y.a.subs).getD k default).1.length<=1000000)/\wl.length<=100)->DC Tryz.prog 38 [.raw (.pointer (some ⟨bb,0,none⟩)), .int .i64 n] (loose::knF::knA::knM m :: .blk bb [.raw (.map (some cm)), .raw (.map (some sm)), .raw (.pointer (some ⟨t,0,none⟩))] :: .map cm (entM (V.int .i64) pv M) :: .map sm (entM V.str pv SS) :: .blk cb [.raw (.pointer (some ⟨st,0,none⟩)), .int .i64 hd, .raw (.pointer (some ⟨y.b,0,none⟩)), .int .i64 kp, .bool true, .sl (wl.map encM)]::(y.own++(ownT t ts++[]))++F) fun d G=>∃ (w1 w2 w3 w4:Value) (ts':TS),(TOK ts'/\ts'.L=(zal y.a.name (zav y.a.subs) ts.L).2)/\d = .agg [.ar w1 1, .ar w2 wl.length, .ar w3 0, .ar w4 (zaK ([]++(zal y.a.name (zav y.a.subs) ts.L).1)).length]/\G = .arr 4 w1 [.int .i64 0, .int .i64 n, .gs (.slice none 0 0) [], .bool true] :: .arr 4 w2 (cells (wl.map encM)) :: .arr 1 w3 [] :: .arr 1 w4 ((zaK ([]++(zal y.a.name (zav y.a.subs) ts.L).1)).map V.str)::loose::knF::knA::knM m :: .blk bb [.raw (.map (some cm)), .raw (.map (some sm)), .raw (.pointer (some ⟨t,0,none⟩))] :: .map cm (entM (V.int .i64) pv (za0 n M)) :: .map sm (entM V.str pv (za0 y.a.name SS))::(ownT t ts'++F):=by
 intro hA
 obtain ⟨hlk,hF,hwl⟩:=hA
 refine DC.bodyS (n_:=15) (show Tryz.prog.funcs[38]? = some Tryz.f38 by kernel_rfl) rfl rfl (by rfl) ?_
 simp only [env0,List.append_assoc,List.cons_append,List.nil_append]
 have kw:=ksIs [0,1,4,5]
 have ow:=zaf [5,8]
 have rw_:=rsIs [.cell 4 38]
 have hC:True:=trivial
 have hDn:(zal y.a.name (zav y.a.subs) ts.L).1.length<=1000000000:=Nat.le_trans (zc9 ..) hF.2.2.2.2.2.1
 repeat' (first
  | ((fail_if_success (have zz:=hown));(with_reducible show DW _ _ (Code.region 2 _ _) _ _ _);(refine DW.own0P 4 eb 1 kxbg rfl ?_);(simp only [List.set_cons_succ,List.set_cons_zero]);(refine DW.own0P 1 eb 2 kxbg rfl ?_);(simp only [List.set_cons_succ,List.set_cons_zero]);(refine DW.own0P 1 eb 3 kxbg rfl ?_);(simp only [List.set_cons_succ,List.set_cons_zero]);(have hown:True:=trivial))
  | refine g_ ?_
  | ((with_reducible refine And.intro ?_ ?_);(exact zdC))
  | (refine DW.cond (by rfl) ?_ ?_<;>(first | exact i0_ | (intro hb;(try simp only [↓reduceCtorEq,not_true_eq_false,not_false_eq_true,hbs,Int.reduceBEq,Int.reduceBNe,Int.reduceEq] at hb);(try refine zaN ?_))))
  | ((with_reducible refine zaa ?_ ?_)<;>(intro hb;rw [hb];revert hb;(first | exact i0_ | (intro hb;(try simp only [↓reduceCtorEq,not_true_eq_false,not_false_eq_true,hbs,Int.reduceBEq,Int.reduceBNe,Int.reduceEq] at hb);(try refine zaN ?_)))))
  | ((first | refine rn_ ?_ | refine kn_ ?_)<;>(refine zaN ?_))
  | ((first | (refine DOp.lista_ [8] rfl rfl ?_) | (refine DOp.makea_ [8] rfl rfl rfl rfl ?_))<;>(refine zaN ?_))
  | (refine p_ (zlW _ _ _ _ _ _ _ _ _ _ _ _ _ _ _ _) ?_ (ha:=by exact zdC);rintro d H1 ⟨ts2,⟨hs2,hL2⟩,rfl,rfl⟩<;>refine zaN ?_)
  | (refine p_ (zcb (D1:=[]) (D2:=(zal y.a.name (zav y.a.subs) ts.L).1) _ _ _ _ _ _ _ _ _ _ _ _ _ _ _ _ _ _) ?_ (ha:=by exact zdC);rintro d H1 ⟨w1,w2,w3,w4,rfl,rfl⟩<;>refine zaN ?_)
  | ((refine on_ ?_);refine zaN ?_)
  | refine f_ ?_
  | ((fail_if_success (have zz:=rb));with_reducible intro rb)
  | ((fail_if_success (have zz:=lv));with_reducible intro lv)
  | ((fail_if_success (have zz:=eb));with_reducible intro eb)
  | with_reducible intro b)
 all_goals first
 | (((refine ⟨_,_,le.rfl_,⟨w1,w2,w3,w4,ts2,⟨hs2,hL2⟩,rfl,rfl⟩,?_⟩);(exact sub_);done))
 | (trace_state;fail)
end
end
section
attribute [local irreducible] SN.own ownT ownC ownS zal zcl za0 zav zaK
attribute [local irreducible] DW SeqD DV DOp DC DVX DVJ idsF usI sortS putM zaj onlyM
theorem zlv (bb cm sm t:Nat) (M:List (Int×Nat)) (n:Int) (cb st:Nat) (hd:Int) (kp:Int) (cl:Bool) (F:Own):(lookA n M=some cb)->DC Tryz.prog 38 [.raw (.pointer (some ⟨bb,0,none⟩)), .int .i64 n] ((.blk bb [.raw (.map (some cm)), .raw (.map (some sm)), .raw (.pointer (some ⟨t,0,none⟩))] :: .map cm (entM (V.int .i64) pv M) :: .blk cb [.raw (.pointer (some ⟨st,0,none⟩)), .int .i64 hd, .raw (.pointer none), .int .i64 kp, .bool cl, .gs (.slice none 0 0) []]::([]:Own))++F) fun d G=>d=zc5 (⟨[⟨n,[],true⟩],[],[],zaK ([]++[])⟩:Ef)/\G = .blk bb [.raw (.map (some cm)), .raw (.map (some sm)), .raw (.pointer (some ⟨t,0,none⟩))] :: .map cm (entM (V.int .i64) pv (za0 n M))::F:=fun h=>by
 refine DC.sub ((DC.frzE (X:=Unit) (Q:=fun _=>True) (l1:=fun _=>[.agg [.int .i64 0, .int .i64 n, .gs (.slice none 0 0) [], .bool true]]) (l2:=fun _=>[]) (l3:=fun _=>[]) (l4:=fun _=>(zaK ([]++[])).map V.str) (L:=fun _=>.blk bb [.raw (.map (some cm)), .raw (.map (some sm)), .raw (.pointer (some ⟨t,0,none⟩))] :: .map cm (entM (V.int .i64) pv (za0 n M))::F) (fun _ x hx=>by rw [List.mem_singleton.1 hx];rfl) (fun _=>(fun _ h=>nomatch h)) (fun _ _ h=>nomatch h) (fun _=>st_n _) ((zlx bb cm sm t M n cb st hd kp cl F h).mono fun d G ⟨w1,w2,w3,w4,hd,hG⟩=>⟨w1,w2,w3,w4,(),trivial,by rw [hd];simp only [List.length_map,List.length_cons,List.length_nil];try rfl,by rw [hG,zb3];rfl⟩)).mono fun d G ⟨_,_,hd,hG⟩=>?_)
 subst hd;subst hG
 exact ⟨_,_,le.agg (Les.cons (le.sl1 (Les.cons le.rfl_ (Les.cons le.rfl_ (Les.cons (le.gs rfl) (Les.cons le.rfl_ Les.nil))))) (Les.cons le.rfl_ (Les.cons le.rfl_ (Les.cons le.rfl_ Les.nil)))),⟨rfl,rfl⟩,SubP.refl⟩
theorem zlp (bb cm sm t:Nat) (M:List (Int×Nat)) (n:Int) (cb st:Nat) (hd:Int) (kp:Int) (cl:Bool) (wl:List Mg) (F:Own):(lookA n M=some cb/\wl.length<=100)->DC Tryz.prog 38 [.raw (.pointer (some ⟨bb,0,none⟩)), .int .i64 n] ((.blk bb [.raw (.map (some cm)), .raw (.map (some sm)), .raw (.pointer (some ⟨t,0,none⟩))] :: .map cm (entM (V.int .i64) pv M) :: .blk cb [.raw (.pointer (some ⟨st,0,none⟩)), .int .i64 hd, .raw (.pointer none), .int .i64 kp, .bool cl, .sl (wl.map encM)]::([]:Own))++F) fun d G=>d=zc5 (⟨[⟨n,[],true⟩],wl,[],zaK ([]++[])⟩:Ef)/\G = .blk bb [.raw (.map (some cm)), .raw (.map (some sm)), .raw (.pointer (some ⟨t,0,none⟩))] :: .map cm (entM (V.int .i64) pv (za0 n M))::F:=fun h=>by
 refine DC.sub ((DC.frzE (X:=Unit) (Q:=fun _=>True) (l1:=fun _=>[.agg [.int .i64 0, .int .i64 n, .gs (.slice none 0 0) [], .bool true]]) (l2:=fun _=>(wl.map encM)) (l3:=fun _=>[]) (l4:=fun _=>(zaK ([]++[])).map V.str) (L:=fun _=>.blk bb [.raw (.map (some cm)), .raw (.map (some sm)), .raw (.pointer (some ⟨t,0,none⟩))] :: .map cm (entM (V.int .i64) pv (za0 n M))::F) (fun _ x hx=>by rw [List.mem_singleton.1 hx];rfl) (fun _=>mg_n _) (fun _ _ h=>nomatch h) (fun _=>st_n _) ((zl9 bb cm sm t M n cb st hd kp cl wl F h).mono fun d G ⟨w1,w2,w3,w4,hd,hG⟩=>⟨w1,w2,w3,w4,(),trivial,by rw [hd];simp only [List.length_map,List.length_cons,List.length_nil];try rfl,by rw [hG,zb3];rfl⟩)).mono fun d G ⟨_,_,hd,hG⟩=>?_)
 subst hd;subst hG
 exact ⟨_,_,le.agg (Les.cons (le.sl1 (Les.cons le.rfl_ (Les.cons le.rfl_ (Les.cons (le.gs rfl) (Les.cons le.rfl_ Les.nil))))) (Les.cons le.rfl_ (Les.cons le.rfl_ (Les.cons le.rfl_ Les.nil)))),⟨rfl,rfl⟩,SubP.refl⟩
theorem zlL (bb cm sm t:Nat) (M:List (Int×Nat)) (n:Int) (cb st:Nat) (hd:Int) (kp:Int) (xb:Nat) (F:Own):(lookA n M=some cb)->DC Tryz.prog 38 [.raw (.pointer (some ⟨bb,0,none⟩)), .int .i64 n] ((.blk bb [.raw (.map (some cm)), .raw (.map (some sm)), .raw (.pointer (some ⟨t,0,none⟩))] :: .map cm (entM (V.int .i64) pv M) :: .blk cb [.raw (.pointer (some ⟨st,0,none⟩)), .int .i64 hd, .raw (.pointer (some ⟨xb,0,none⟩)), .int .i64 kp, .bool false, .gs (.slice none 0 0) []]::([]:Own))++F) fun d G=>d=zc5 (⟨[⟨n,[],true⟩],[],[],zaK ([]++[])⟩:Ef)/\G = .blk bb [.raw (.map (some cm)), .raw (.map (some sm)), .raw (.pointer (some ⟨t,0,none⟩))] :: .map cm (entM (V.int .i64) pv (za0 n M))::F:=fun h=>by
 refine DC.sub ((DC.frzE (X:=Unit) (Q:=fun _=>True) (l1:=fun _=>[.agg [.int .i64 0, .int .i64 n, .gs (.slice none 0 0) [], .bool true]]) (l2:=fun _=>[]) (l3:=fun _=>[]) (l4:=fun _=>(zaK ([]++[])).map V.str) (L:=fun _=>.blk bb [.raw (.map (some cm)), .raw (.map (some sm)), .raw (.pointer (some ⟨t,0,none⟩))] :: .map cm (entM (V.int .i64) pv (za0 n M))::F) (fun _ x hx=>by rw [List.mem_singleton.1 hx];rfl) (fun _=>(fun _ h=>nomatch h)) (fun _ _ h=>nomatch h) (fun _=>st_n _) ((zlQ bb cm sm t M n cb st hd kp xb F h).mono fun d G ⟨w1,w2,w3,w4,hd,hG⟩=>⟨w1,w2,w3,w4,(),trivial,by rw [hd];simp only [List.length_map,List.length_cons,List.length_nil];try rfl,by rw [hG,zb3];rfl⟩)).mono fun d G ⟨_,_,hd,hG⟩=>?_)
 subst hd;subst hG
 exact ⟨_,_,le.agg (Les.cons (le.sl1 (Les.cons le.rfl_ (Les.cons le.rfl_ (Les.cons (le.gs rfl) (Les.cons le.rfl_ Les.nil))))) (Les.cons le.rfl_ (Les.cons le.rfl_ (Les.cons le.rfl_ Les.nil)))),⟨rfl,rfl⟩,SubP.refl⟩
theorem zlV (bb cm sm t:Nat) (M:List (Int×Nat)) (n:Int) (cb st:Nat) (hd:Int) (kp:Int) (xb:Nat) (wl:List Mg) (F:Own):(lookA n M=some cb/\wl.length<=100)->DC Tryz.prog 38 [.raw (.pointer (some ⟨bb,0,none⟩)), .int .i64 n] ((.blk bb [.raw (.map (some cm)), .raw (.map (some sm)), .raw (.pointer (some ⟨t,0,none⟩))] :: .map cm (entM (V.int .i64) pv M) :: .blk cb [.raw (.pointer (some ⟨st,0,none⟩)), .int .i64 hd, .raw (.pointer (some ⟨xb,0,none⟩)), .int .i64 kp, .bool false, .sl (wl.map encM)]::([]:Own))++F) fun d G=>d=zc5 (⟨[⟨n,[],true⟩],wl,[],zaK ([]++[])⟩:Ef)/\G = .blk bb [.raw (.map (some cm)), .raw (.map (some sm)), .raw (.pointer (some ⟨t,0,none⟩))] :: .map cm (entM (V.int .i64) pv (za0 n M))::F:=fun h=>by
 refine DC.sub ((DC.frzE (X:=Unit) (Q:=fun _=>True) (l1:=fun _=>[.agg [.int .i64 0, .int .i64 n, .gs (.slice none 0 0) [], .bool true]]) (l2:=fun _=>(wl.map encM)) (l3:=fun _=>[]) (l4:=fun _=>(zaK ([]++[])).map V.str) (L:=fun _=>.blk bb [.raw (.map (some cm)), .raw (.map (some sm)), .raw (.pointer (some ⟨t,0,none⟩))] :: .map cm (entM (V.int .i64) pv (za0 n M))::F) (fun _ x hx=>by rw [List.mem_singleton.1 hx];rfl) (fun _=>mg_n _) (fun _ _ h=>nomatch h) (fun _=>st_n _) ((zlK bb cm sm t M n cb st hd kp xb wl F h).mono fun d G ⟨w1,w2,w3,w4,hd,hG⟩=>⟨w1,w2,w3,w4,(),trivial,by rw [hd];simp only [List.length_map,List.length_cons,List.length_nil];try rfl,by rw [hG,zb3];rfl⟩)).mono fun d G ⟨_,_,hd,hG⟩=>?_)
 subst hd;subst hG
 exact ⟨_,_,le.agg (Les.cons (le.sl1 (Les.cons le.rfl_ (Les.cons le.rfl_ (Les.cons (le.gs rfl) (Les.cons le.rfl_ Les.nil))))) (Les.cons le.rfl_ (Les.cons le.rfl_ (Les.cons le.rfl_ Les.nil)))),⟨rfl,rfl⟩,SubP.refl⟩
theorem zlf (bb cm sm t:Nat) (m:Int) (M:List (Int×Nat)) (SS:List (YS×Nat)) (n:Int) (cb st:Nat) (hd:Int) (kp:Int) (y:SN) (ts:TS) (F:Own):(lookA n M=some cb/\(lookA y.a.name SS=some y.b/\SAOK y.a/\TOK ts/\y.a.subs.length<=1000000000/\ts.L.length<=1000000000/\(zav y.a.subs).length<=1000000000/\∀ k,k<(zav y.a.subs).length->((zav y.a.subs).getD k default).1.length<=1000000))->DC Tryz.prog 38 [.raw (.pointer (some ⟨bb,0,none⟩)), .int .i64 n] ((loose::knF::knA::knM m :: .blk bb [.raw (.map (some cm)), .raw (.map (some sm)), .raw (.pointer (some ⟨t,0,none⟩))] :: .map cm (entM (V.int .i64) pv M) :: .map sm (entM V.str pv SS) :: .blk cb [.raw (.pointer (some ⟨st,0,none⟩)), .int .i64 hd, .raw (.pointer (some ⟨y.b,0,none⟩)), .int .i64 kp, .bool true, .gs (.slice none 0 0) []]::(y.own++(ownT t ts++[])))++F) fun d G=>∃ ts':TS,(TOK ts'/\ts'.L=(zal y.a.name (zav y.a.subs) ts.L).2)/\d=zc5 (⟨[⟨n,[],true⟩],[],[],zaK ([]++(zal y.a.name (zav y.a.subs) ts.L).1)⟩:Ef)/\G=loose::knF::knA::knM m :: .blk bb [.raw (.map (some cm)), .raw (.map (some sm)), .raw (.pointer (some ⟨t,0,none⟩))] :: .map cm (entM (V.int .i64) pv (za0 n M)) :: .map sm (entM V.str pv (za0 y.a.name SS))::(ownT t ts'++F):=fun h=>by
 refine DC.sub ((DC.frzE (X:=TS) (Q:=fun ts'=>TOK ts'/\ts'.L=(zal y.a.name (zav y.a.subs) ts.L).2) (l1:=fun _=>[.agg [.int .i64 0, .int .i64 n, .gs (.slice none 0 0) [], .bool true]]) (l2:=fun _=>[]) (l3:=fun _=>[]) (l4:=fun _=>(zaK ([]++(zal y.a.name (zav y.a.subs) ts.L).1)).map V.str) (L:=fun ts'=>loose::knF::knA::knM m :: .blk bb [.raw (.map (some cm)), .raw (.map (some sm)), .raw (.pointer (some ⟨t,0,none⟩))] :: .map cm (entM (V.int .i64) pv (za0 n M)) :: .map sm (entM V.str pv (za0 y.a.name SS))::(ownT t ts'++F)) (fun _ x hx=>by rw [List.mem_singleton.1 hx];rfl) (fun _=>(fun _ h=>nomatch h)) (fun _ _ h=>nomatch h) (fun _=>st_n _) ((zlb bb cm sm t m M SS n cb st hd kp y ts F h).mono fun d G ⟨w1,w2,w3,w4,ts',hq,hd,hG⟩=>⟨w1,w2,w3,w4,ts',hq,by rw [hd];simp only [List.length_map,List.length_cons,List.length_nil];try rfl,by rw [hG,zb3];rfl⟩)).mono fun d G ⟨ts',hq,hd,hG⟩=>?_)
 subst hd;subst hG
 exact ⟨_,_,le.agg (Les.cons (le.sl1 (Les.cons le.rfl_ (Les.cons le.rfl_ (Les.cons (le.gs rfl) (Les.cons le.rfl_ Les.nil))))) (Les.cons le.rfl_ (Les.cons le.rfl_ (Les.cons le.rfl_ Les.nil)))),⟨ts',hq,rfl,rfl⟩,SubP.refl⟩
theorem zlR (bb cm sm t:Nat) (m:Int) (M:List (Int×Nat)) (SS:List (YS×Nat)) (n:Int) (cb st:Nat) (hd:Int) (kp:Int) (y:SN) (ts:TS) (wl:List Mg) (F:Own):(lookA n M=some cb/\(lookA y.a.name SS=some y.b/\SAOK y.a/\TOK ts/\y.a.subs.length<=1000000000/\ts.L.length<=1000000000/\(zav y.a.subs).length<=1000000000/\∀ k,k<(zav y.a.subs).length->((zav y.a.subs).getD k default).1.length<=1000000)/\wl.length<=100)->DC Tryz.prog 38 [.raw (.pointer (some ⟨bb,0,none⟩)), .int .i64 n] ((loose::knF::knA::knM m :: .blk bb [.raw (.map (some cm)), .raw (.map (some sm)), .raw (.pointer (some ⟨t,0,none⟩))] :: .map cm (entM (V.int .i64) pv M) :: .map sm (entM V.str pv SS) :: .blk cb [.raw (.pointer (some ⟨st,0,none⟩)), .int .i64 hd, .raw (.pointer (some ⟨y.b,0,none⟩)), .int .i64 kp, .bool true, .sl (wl.map encM)]::(y.own++(ownT t ts++[])))++F) fun d G=>∃ ts':TS,(TOK ts'/\ts'.L=(zal y.a.name (zav y.a.subs) ts.L).2)/\d=zc5 (⟨[⟨n,[],true⟩],wl,[],zaK ([]++(zal y.a.name (zav y.a.subs) ts.L).1)⟩:Ef)/\G=loose::knF::knA::knM m :: .blk bb [.raw (.map (some cm)), .raw (.map (some sm)), .raw (.pointer (some ⟨t,0,none⟩))] :: .map cm (entM (V.int .i64) pv (za0 n M)) :: .map sm (entM V.str pv (za0 y.a.name SS))::(ownT t ts'++F):=fun h=>by
 refine DC.sub ((DC.frzE (X:=TS) (Q:=fun ts'=>TOK ts'/\ts'.L=(zal y.a.name (zav y.a.subs) ts.L).2) (l1:=fun _=>[.agg [.int .i64 0, .int .i64 n, .gs (.slice none 0 0) [], .bool true]]) (l2:=fun _=>(wl.map encM)) (l3:=fun _=>[]) (l4:=fun _=>(zaK ([]++(zal y.a.name (zav y.a.subs) ts.L).1)).map V.str) (L:=fun ts'=>loose::knF::knA::knM m :: .blk bb [.raw (.map (some cm)), .raw (.map (some sm)), .raw (.pointer (some ⟨t,0,none⟩))] :: .map cm (entM (V.int .i64) pv (za0 n M)) :: .map sm (entM V.str pv (za0 y.a.name SS))::(ownT t ts'++F)) (fun _ x hx=>by rw [List.mem_singleton.1 hx];rfl) (fun _=>mg_n _) (fun _ _ h=>nomatch h) (fun _=>st_n _) ((zld bb cm sm t m M SS n cb st hd kp y ts wl F h).mono fun d G ⟨w1,w2,w3,w4,ts',hq,hd,hG⟩=>⟨w1,w2,w3,w4,ts',hq,by rw [hd];simp only [List.length_map,List.length_cons,List.length_nil];try rfl,by rw [hG,zb3];rfl⟩)).mono fun d G ⟨ts',hq,hd,hG⟩=>?_)
 subst hd;subst hG
 exact ⟨_,_,le.agg (Les.cons (le.sl1 (Les.cons le.rfl_ (Les.cons le.rfl_ (Les.cons (le.gs rfl) (Les.cons le.rfl_ Les.nil))))) (Les.cons le.rfl_ (Les.cons le.rfl_ (Les.cons le.rfl_ Les.nil)))),⟨ts',hq,rfl,rfl⟩,SubP.refl⟩
end
section
theorem zeA (l:List (YS×Int)):(zav l).length=l.length:=by unfold zav;rw [List.length_map,zeb,List.length_map]
theorem zkD {l:List (YS×Int)} {k:Nat} (hk:k<(zav l).length):∃ e∈l,((zav l).getD k default).1=e.1:=by
 have h1:(zav l).getD k default∈zav l:=by rw [List.getD_eq_getElem?_getD,List.getElem?_eq_getElem hk];exact List.getElem_mem hk
 unfold zav at h1 ⊢
 obtain ⟨x,hx,he⟩:=List.mem_map.1 h1
 obtain ⟨e,he1,he2⟩:=List.mem_map.1 (ziR.1 hx)
 exact ⟨e,he1,by rw [<-he];exact he2.symm⟩
attribute [local irreducible] SN.own ownT ownC ownS zal zcl za0 zav zaK
attribute [local irreducible] DW SeqD DV DOp DC DVX DVJ idsF usI sortS putM zaj onlyM
theorem zoQ (bb:Nat) (m:Int) (s:BN) (c:Cn) (F:Own):(BOK s/\c∈s.cs/\BSz s.pl)->DC Tryz.prog 38 [.raw (.pointer (some ⟨bb,0,none⟩)), .int .i64 c.n] ((loose::knF::knA::knM m::(ownB bb s++[]))++F) fun d G=>∃ s':BN,(BOK s'/\s'.pl=(zae c.n s.pl).2)/\d=zc5 (zae c.n s.pl).1/\G=loose::knF::knA::knM m::(ownB bb s'++F):=by
 rintro ⟨h,hc,hz⟩
 obtain ⟨l1,l2,hs,h1,h2⟩:=zc0 h.cn hc
 have ho:=h.co c hc
 have hpc:=zmu hs h1
 have hpo:=pl_off hs h1 h2
 obtain ⟨n,b,st,left,bad,hd,sv,kp,cl,will,lv,wv⟩:=c
 obtain ⟨cm,sm,t,ts,cs,ss⟩:=s
 simp only at hs
 subst hs
 have hlk:=ze6 (l2:=l2) h1
 have hdr:=zq7 (l2:=l2) h1
 have hwn:=ho.will
 simp only at hlk hdr hwn hpc hpo ⊢
 cases sv with
 | none =>
  have e1:zae n (BN.pl ⟨cm,sm,t,ts,l1++(⟨n,b,st,left,bad,hd,none,kp,cl,will,lv,wv⟩:Cn)::l2,ss⟩)=(⟨[⟨n,[],true⟩],will,[],zaK ([]++[])⟩,BN.pl ⟨cm,sm,t,ts,l1++l2,ss⟩):=by
   unfold zae zbj
   rw [hpc,hpo];rfl
  rw [e1]
  rcases ho.wv with ⟨hw,hwl⟩ | hw
  · simp only at hw hwl
    subst hw;subst hwl
    refine DC.conv (zlv bb cm sm t (kvC (l1++(⟨n,b,st,left,bad,hd,none,kp,cl,[],lv, .gs (.slice none 0 0) []⟩:Cn)::l2)) n b st hd kp cl (loose::knF::knA::knM m :: .map sm (entM V.str pv (kvS ss)) :: .blk st [lv, .int .i64 bad]::(ownC l1++(ownC l2++(ownS ss++(ownT t ts++F))))) hlk) kxbb ?_
    rintro d G ⟨rfl,rfl⟩
    rw [hdr]
    exact ⟨_,_,le.rfl_,⟨(⟨cm,sm,t,ts,l1++l2,ss⟩:BN),⟨h.off rfl,rfl⟩,rfl,rfl⟩,by (simp only [ownB,BN.maps,zdd,zbA,Cn.own,Cn.cells,Cn.sv,Option.map_none,Option.map_some,List.append_assoc,List.cons_append,List.nil_append,List.append_nil]);exact sub_⟩
  · simp only at hw
    subst hw
    refine DC.conv (zlp bb cm sm t (kvC (l1++(⟨n,b,st,left,bad,hd,none,kp,cl,will,lv,(.sl (will.map encM))⟩:Cn)::l2)) n b st hd kp cl will (loose::knF::knA::knM m :: .map sm (entM V.str pv (kvS ss)) :: .blk st [lv, .int .i64 bad]::(ownC l1++(ownC l2++(ownS ss++(ownT t ts++F))))) ⟨hlk,by omega⟩) kxbb ?_
    rintro d G ⟨rfl,rfl⟩
    rw [hdr]
    exact ⟨_,_,le.rfl_,⟨(⟨cm,sm,t,ts,l1++l2,ss⟩:BN),⟨h.off rfl,rfl⟩,rfl,rfl⟩,by (simp only [ownB,BN.maps,zdd,zbA,Cn.own,Cn.cells,Cn.sv,Option.map_none,Option.map_some,List.append_assoc,List.cons_append,List.nil_append,List.append_nil]);exact sub_⟩
 | some e =>
 cases cl with
 | false =>
  have e1:zae n (BN.pl ⟨cm,sm,t,ts,l1++(⟨n,b,st,left,bad,hd,some e,kp,false,will,lv,wv⟩:Cn)::l2,ss⟩)=(⟨[⟨n,[],true⟩],will,[],zaK ([]++[])⟩,BN.pl ⟨cm,sm,t,ts,l1++l2,ss⟩):=by
   unfold zae zbj
   rw [hpc,hpo];rfl
  rw [e1]
  rcases ho.wv with ⟨hw,hwl⟩ | hw
  · simp only at hw hwl
    subst hw;subst hwl
    refine DC.conv (zlL bb cm sm t (kvC (l1++(⟨n,b,st,left,bad,hd,some e,kp,false,[],lv, .gs (.slice none 0 0) []⟩:Cn)::l2)) n b st hd kp e.2 (loose::knF::knA::knM m :: .map sm (entM V.str pv (kvS ss)) :: .blk st [lv, .int .i64 bad]::(ownC l1++(ownC l2++(ownS ss++(ownT t ts++F))))) hlk) kxbb ?_
    rintro d G ⟨rfl,rfl⟩
    rw [hdr]
    exact ⟨_,_,le.rfl_,⟨(⟨cm,sm,t,ts,l1++l2,ss⟩:BN),⟨h.off rfl,rfl⟩,rfl,rfl⟩,by (simp only [ownB,BN.maps,zdd,zbA,Cn.own,Cn.cells,Cn.sv,Option.map_none,Option.map_some,List.append_assoc,List.cons_append,List.nil_append,List.append_nil]);exact sub_⟩
  · simp only at hw
    subst hw
    refine DC.conv (zlV bb cm sm t (kvC (l1++(⟨n,b,st,left,bad,hd,some e,kp,false,will,lv,(.sl (will.map encM))⟩:Cn)::l2)) n b st hd kp e.2 will (loose::knF::knA::knM m :: .map sm (entM V.str pv (kvS ss)) :: .blk st [lv, .int .i64 bad]::(ownC l1++(ownC l2++(ownS ss++(ownT t ts++F))))) ⟨hlk,by omega⟩) kxbb ?_
    rintro d G ⟨rfl,rfl⟩
    rw [hdr]
    exact ⟨_,_,le.rfl_,⟨(⟨cm,sm,t,ts,l1++l2,ss⟩:BN),⟨h.off rfl,rfl⟩,rfl,rfl⟩,by (simp only [ownB,BN.maps,zdd,zbA,Cn.own,Cn.cells,Cn.sv,Option.map_none,Option.map_some,List.append_assoc,List.cons_append,List.nil_append,List.append_nil]);exact sub_⟩
 | true =>
  obtain ⟨y,hy,hy1,hy2⟩:=ho.s e rfl
  obtain ⟨e1,e2⟩:=e
  simp only at hy1 hy2
  subst hy1;subst hy2
  have hyo:=h.so y hy
  obtain ⟨m1,m2,hss,k1,k2⟩:=zc0 h.sn hy
  simp only at hss
  subst hss
  have hsk:=zqK (l2:=m2) k1
  have hsr:=zk8 (l2:=m2) k1
  have hzy0:=hz.sub y.a (List.mem_map.2 ⟨y,hy,rfl⟩)
  have hzy:y.a.subs.length<=1000000000/\∀ e∈y.a.subs,e.1.length<=1000000:=⟨Nat.le_trans hzy0.1 (by decide),hzy0.2⟩
  have hF:lookA y.a.name (kvS (m1++y::m2))=some y.b/\SAOK y.a/\TOK ts/\y.a.subs.length<=1000000000/\ts.L.length<=1000000000/\(zav y.a.subs).length<=1000000000/\∀ k,k<(zav y.a.subs).length->((zav y.a.subs).getD k default).1.length<=1000000 :=
   ⟨hsk,hyo,h.t,hzy.1,hz.L,by rw [zeA];exact hzy.1,fun k hk=>by obtain ⟨x,hx,hxe⟩:=zkD hk;rw [hxe];exact hzy.2 x hx⟩
  have hps:=zdE (s:=⟨cm,sm,t,ts,l1++l2,m1++y::m2⟩) rfl k1
  have e1:zae n (BN.pl ⟨cm,sm,t,ts,l1++(⟨n,b,st,left,bad,hd,some (y.a.name,y.b),kp,true,will,lv,wv⟩:Cn)::l2,m1++y::m2⟩)=(⟨[⟨n,[],true⟩],will,[],zaK ([]++(zal y.a.name (zav y.a.subs) ts.L).1)⟩,⟨(l1++l2).map Cn.pl,(m1++m2).map (·.a),(zal y.a.name (zav y.a.subs) ts.L).2⟩):=by
   unfold zae zbj
   rw [hpc,hpo]
   simp only [Cn.pl,Option.map_some,if_true]
   unfold zah
   rw [hps]
   simp only [andM,BN.pl,zm7 k1 k2,List.append_nil,List.nil_append]
  rw [e1]
  rcases ho.wv with ⟨hw,hwl⟩ | hw
  · simp only at hw hwl
    subst hw;subst hwl
    refine DC.conv (zlf bb cm sm t m (kvC (l1++(⟨n,b,st,left,bad,hd,some (y.a.name,y.b),kp,true,[],lv, .gs (.slice none 0 0) []⟩:Cn)::l2)) (kvS (m1++y::m2)) n b st hd kp y ts (.blk st [lv, .int .i64 bad]::(ownC l1++(ownC l2++(ownS m1++(ownS m2++F))))) ⟨hlk,hF⟩) kxbb ?_
    rintro d G ⟨ts',⟨ht',hL'⟩,rfl,rfl⟩
    rw [hdr,hsr]
    exact ⟨_,_,le.rfl_,⟨(⟨cm,sm,t,ts',l1++l2,m1++m2⟩:BN),⟨h.off2 rfl rfl rfl h1 h2 ht',by unfold BN.pl;simp only;rw [hL']⟩,rfl,rfl⟩,by (simp only [ownB,BN.maps,zdd,zbA,Cn.own,Cn.cells,Cn.sv,Option.map_none,Option.map_some,List.append_assoc,List.cons_append,List.nil_append,List.append_nil]);exact sub_⟩
  · simp only at hw
    subst hw
    refine DC.conv (zlR bb cm sm t m (kvC (l1++(⟨n,b,st,left,bad,hd,some (y.a.name,y.b),kp,true,will,lv,(.sl (will.map encM))⟩:Cn)::l2)) (kvS (m1++y::m2)) n b st hd kp y ts will (.blk st [lv, .int .i64 bad]::(ownC l1++(ownC l2++(ownS m1++(ownS m2++F))))) ⟨hlk,hF,by omega⟩) kxbb ?_
    rintro d G ⟨ts',⟨ht',hL'⟩,rfl,rfl⟩
    rw [hdr,hsr]
    exact ⟨_,_,le.rfl_,⟨(⟨cm,sm,t,ts',l1++l2,m1++m2⟩:BN),⟨h.off2 rfl rfl rfl h1 h2 ht',by unfold BN.pl;simp only;rw [hL']⟩,rfl,rfl⟩,by (simp only [ownB,BN.maps,zdd,zbA,Cn.own,Cn.cells,Cn.sv,Option.map_none,Option.map_some,List.append_assoc,List.cons_append,List.nil_append,List.append_nil]);exact sub_⟩
end
end Go.Proofs.YtgekknefphagbaaGreatDoor
