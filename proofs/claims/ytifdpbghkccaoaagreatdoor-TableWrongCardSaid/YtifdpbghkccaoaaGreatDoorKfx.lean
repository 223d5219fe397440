/- Of two tables that are not both right the right one counts. -/
import Derived.Test.YtifdpbghkccaoaaGreatDoorMwx
import Derived.KernelRfl
namespace Go.Proofs.YtifdpbghkccaoaaGreatDoor
open Go.RowKit
set_option linter.unusedSimpArgs false
set_option linter.unusedVariables false
set_option linter.unusedSectionVars false
set_option maxHeartbeats 4000000
set_option maxRecDepth 100000
section
abbrev Lgt (t:TTable):Prop:=(t.seen.length<=20/\t.fences.length<=20/\t.routes.length<=20/\t.cells.length<=20)/\(∀ j,j<t.routes.length->(t.routes.getD j default).filter.length<=60)/\(∀ j,j<t.cells.length->(t.cells.getD j default).topic.length<=60/\(t.cells.getD j default).payload.length<=60)
theorem Lgt.lite {t:TTable} (h:Lgt t):Lite 3072 t:=by
 obtain ⟨⟨h1,h2,h3,h4⟩,h5,h6⟩:=h
 refine ⟨by omega,by omega,by omega,by omega,fun r hr=>?_,fun c hc=>?_,fun c hc=>?_⟩
 · obtain ⟨k,hk,rfl⟩:=mem_getD hr
   exact Nat.le_trans (h5 k hk) (by decide)
 · obtain ⟨k,hk,rfl⟩:=mem_getD hc
   exact Nat.le_trans (h6 k hk).1 (by decide)
 · obtain ⟨k,hk,rfl⟩:=mem_getD hc
   exact Nat.le_trans (h6 k hk).2 (by decide)
def badT:TTable:=⟨[⟨99,1,1⟩],[],[],[]⟩
theorem bad_no:tabB badT=false:=by decide +kernel
theorem bad_lite:Lite 100000000 badT:=⟨by decide,by decide,by decide,by decide,by decide,by decide,by decide⟩
theorem mergeWR_dc (a:TTable) (m:Int) (F:Own):(Lite 3072 a/\tabB a=true)->DC Tryz.prog 10 [.agg [.sl (a.seen.map encDot), .sl (a.fences.map encFence), .sl (a.routes.map encRoute), .sl (a.cells.map encCell)], .agg [.sl [.agg [.int .i64 99, .int .i64 1, .int .i64 1]], .sl [], .sl [], .sl []]] ([knF,knA,knM m]++F) fun d G=>d = .agg [.sl (a.seen.map encDot), .sl (a.fences.map encFence), .sl (a.routes.map encRoute), .sl (a.cells.map encCell)]/\G=[knF,knA,knM m]++F:=fun h=>pmergeR_dc a badT m F ⟨h.1.mono (by decide),bad_lite,h.2,bad_no⟩
theorem mergeWL_dc (a:TTable) (m:Int) (F:Own):(Lite 3072 a/\tabB a=true)->DC Tryz.prog 10 [.agg [.sl [.agg [.int .i64 99, .int .i64 1, .int .i64 1]], .sl [], .sl [], .sl []], .agg [.sl (a.seen.map encDot), .sl (a.fences.map encFence), .sl (a.routes.map encRoute), .sl (a.cells.map encCell)]] ([knF,knA,knM m]++F) fun d G=>d = .agg [.sl (a.seen.map encDot), .sl (a.fences.map encFence), .sl (a.routes.map encRoute), .sl (a.cells.map encCell)]/\G=[knF,knA,knM m]++F:=fun h=>pmergeL_dc badT a m F ⟨bad_lite,h.1.mono (by decide),bad_no,h.2⟩
theorem mergeWB_dc (a:TTable) (m:Int) (F:Own):(Lite 3072 a/\tabB a=false)->DC Tryz.prog 10 [.agg [.sl (a.seen.map encDot), .sl (a.fences.map encFence), .sl (a.routes.map encRoute), .sl (a.cells.map encCell)], .agg [.sl [.agg [.int .i64 99, .int .i64 1, .int .i64 1]], .sl [], .sl [], .sl []]] ([knF,knA,knM m]++F) fun d G=>d = .agg [.gs (.slice none 0 0) [], .gs (.slice none 0 0) [], .gs (.slice none 0 0) [], .gs (.slice none 0 0) []]/\G=[knF,knA,knM m]++F:=fun h=>pmergeB_dc a badT m F ⟨h.1.mono (by decide),bad_lite,h.2,bad_no⟩
theorem mergeLW_dc (a b:TTable) (m:Int) (F:Own):(Lite 3072 a/\Lite 3072 b/\tabB a=false/\tabB b=true)->DC Tryz.prog 10 [.agg [.sl (a.seen.map encDot), .sl (a.fences.map encFence), .sl (a.routes.map encRoute), .sl (a.cells.map encCell)], .agg [.sl (b.seen.map encDot), .sl (b.fences.map encFence), .sl (b.routes.map encRoute), .sl (b.cells.map encCell)]] ([knF,knA,knM m]++F) fun d G=>d = .agg [.sl (b.seen.map encDot), .sl (b.fences.map encFence), .sl (b.routes.map encRoute), .sl (b.cells.map encCell)]/\G=[knF,knA,knM m]++F:=fun h=>pmergeL_dc a b m F ⟨h.1.mono (by decide),h.2.1.mono (by decide),h.2.2⟩
theorem mergeRW_dc (a b:TTable) (m:Int) (F:Own):(Lite 3072 a/\Lite 3072 b/\tabB a=false/\tabB b=true)->DC Tryz.prog 10 [.agg [.sl (b.seen.map encDot), .sl (b.fences.map encFence), .sl (b.routes.map encRoute), .sl (b.cells.map encCell)], .agg [.sl (a.seen.map encDot), .sl (a.fences.map encFence), .sl (a.routes.map encRoute), .sl (a.cells.map encCell)]] ([knF,knA,knM m]++F) fun d G=>d = .agg [.sl (b.seen.map encDot), .sl (b.fences.map encFence), .sl (b.routes.map encRoute), .sl (b.cells.map encCell)]/\G=[knF,knA,knM m]++F:=fun h=>pmergeR_dc b a m F ⟨h.2.1.mono (by decide),h.1.mono (by decide),h.2.2.2,h.2.2.1⟩
theorem same0_dc (F:Own):True->DC Tryz.prog 11 [.agg [.sl [], .sl [], .sl [], .sl []], .agg [.sl [], .sl [], .sl [], .sl []]] (([]:Own)++F) fun d G=>d = .bool true/\G=[]++F:=fun _=>by
 have:=psame_dc emptyT emptyT F ⟨⟨by decide,by decide,by decide,by decide⟩,⟨by decide,by decide,by decide,by decide⟩⟩
 rw [decide_eq_true rfl] at this;exact this
theorem few3 {t:TTable} (h:Lite 3072 t):Few 1000000000 t:=⟨Nat.le_trans h.s (by decide),Nat.le_trans h.f (by decide),Nat.le_trans h.r (by decide),Nat.le_trans h.c (by decide)⟩
attribute [local irreducible] DW SeqD DV DOp DC DVX mergeM tablesM tabB
section
attribute [local push_cast 2000] encRoute encCell
theorem lightW_dc (t:TTable) (F:Own):(True)->DC Tryz.prog 21 [.agg [.sl (t.seen.map encDot), .sl (t.fences.map encFence), .sl (t.routes.map encRoute), .sl (t.cells.map encCell)]] (([]:Own)++F) fun d G=>(d = .bool true/\Lgt t/\G=[]++F)\/(d = .bool false/\G=[]++F):=by
 intro hA
 refine DC.bodyS (n_:=67) (show Tryz.prog.funcs[21]? = some Tryz.f21 by kernel_rfl) rfl rfl (by rfl) ?_
 simp only [env0,List.cons_append,List.nil_append]
 have kw:=ksIs [0,1,2,3,4,26,31,41,46,66]
 have ow:=ownIs []
 repeat' (first
  | ((with_reducible refine DW.loopB 0 (X:=Nat) (fun x=>x<=t.routes.length/\∀ j,j<x->(t.routes.getD j default).filter.length<=60) (fun x=>[(1, .sp [.sl (t.seen.map encDot), .sl (t.fences.map encFence), .sl (t.routes.map encRoute), .sl (t.cells.map encCell)]),(3, .int .i64 x)]) (fun x=>([]:Own)) (fun x=>t.routes.length - x) (0) ?_ ?_ ?_);exact (⟨Nat.zero_le _,fun j h=>absurd h (Nat.not_lt_zero _)⟩);(simp [Sub,get,keepL]<;>fail);(try simp only [List.cons_append,List.nil_append]);refine pl_ ?_;intro i ⟨hi,hr⟩;(try simp only [List.cons_append,List.nil_append]);try simp only at hi hr)
  | ((with_reducible refine DW.loopB 2 (X:=Nat) (fun x=>x<=t.cells.length/\∀ j,j<x->(t.cells.getD j default).topic.length<=60/\(t.cells.getD j default).payload.length<=60) (fun x=>[(1, .sp [.sl (t.seen.map encDot), .sl (t.fences.map encFence), .sl (t.routes.map encRoute), .sl (t.cells.map encCell)]),(4, .int .i64 x)]) (fun x=>([]:Own)) (fun x=>t.cells.length - x) (0) ?_ ?_ ?_);exact (⟨Nat.zero_le _,fun j h=>absurd h (Nat.not_lt_zero _)⟩);(simp [Sub,get,keepL]<;>fail);(try simp only [List.cons_append,List.nil_append]);refine pl_ ?_;intro i2 ⟨hi2,hc⟩;(try simp only [List.cons_append,List.nil_append]);try simp only at hi2 hc)
  | refine g_ ?_
  | ((with_reducible refine And.intro ?_ ?_);(exact sv))
  | (refine DW.cond (by rfl) ?_ ?_<;>(first | exact i0_ | (refine ic_ ?_;intro hb)))
  | ((with_reducible refine FVg_cases ?_ ?_)<;>(intro hb;rw [hb];revert hb;(first | exact i0_ | (refine i_ ?_;intro hb))))
  | refine r_ ?_
  | refine k_ ?_
  | refine o_ ?_
  | refine f_ ?_
  | with_reducible intro b)
 all_goals first
 | (refine ⟨i2+1,⟨by omega,fun j hj=>?_⟩,by omega,by (simp [Sub,get]<;>fail),?_⟩;(rcases Nat.lt_succ_iff_lt_or_eq.1 hj with h | rfl;(exact hc j h);(exact ⟨by omega,by omega⟩));(exact sub_);done)
 | (refine ⟨i+1,⟨by omega,fun j hj=>?_⟩,by omega,by (simp [Sub,get]<;>fail),?_⟩;(rcases Nat.lt_succ_iff_lt_or_eq.1 hj with h | rfl;(exact hr j h);(omega));(exact sub_);done)
 | (refine ⟨_,_,le.rfl_, .inl ⟨rfl,⟨⟨by omega,by omega,by omega,by omega⟩,(fun j hj=>hr j (by omega)),(fun j hj=>hc j (by omega))⟩,rfl⟩,?_⟩;(exact sub_);done)
 | (refine ⟨_,_,le.rfl_, .inr ⟨rfl,rfl⟩,?_⟩;(exact sub_);done)
 | (exfalso;omega)
 | (trace_state;fail)
end
theorem sv_tableWrong_dc {p:Prop} (h:p:=by first | exact sv | exact ⟨hn20,deeds12 hl hx30⟩ | exact hlt.lite.mono (by decide) | exact ⟨hlt.lite,hb⟩ | exact ⟨hlt.lite,hLb,hb,hTb⟩ | exact ⟨rfl,few3 hlt.lite⟩ | exact ⟨rfl,few3 hLb⟩ | fail):p:=h
section
attribute [local push_cast 2000] encTable
theorem tableWrong_dc (a:TTable) (l:List TDeed) (T5:TypeId) (fr:Nat×Nat) (m:Int) (F:Own):((∀ d∈l,deedR d))->DC Tryz.prog 6 [.agg [.sl (a.seen.map encDot), .sl (a.fences.map encFence), .sl (a.routes.map encRoute), .sl (a.cells.map encCell)], .sl (l.map encDeed)] ([loose,knP T5 fr,knF,knA,knM m]++F) fun d G=>d = .bool true/\G=[loose,knP T5 fr,knF,knA,knM m]++F:=by
 intro hA
 have hl:=hA
 refine DC.bodyS (n_:=57) (show Tryz.prog.funcs[6]? = some Tryz.f6 by kernel_rfl) rfl rfl (by rfl) ?_
 simp only [env0,List.cons_append,List.nil_append]
 have kw:=ksIs [0,1,2,4,5,6,8,16,25]
 have ow:=ownIs []
 have dw8:=drIs 8 [] [0,1,2,3,4,6,7,8,9,10]
 have dw9:=drIs 9 [] [0,1,2,3,4,6,7,8,9,10,13,14,15,17]
 repeat' (first
  | ((fail_if_success (have zz:=hG));(have hdo:=deeds12 hl hx30);(have htn:=st_len hdo);(obtain ⟨G,hG,hsm⟩:=sm_story hn20 hdo);(have sb:=hsm 1 (by decide));(have hLb:=sb.lite);(have hTb:=tr_iff.2 sb.can.tr))
  | ((with_reducible apply DW.frzB 8 6);(focus (exact rfl));(repeat (with_reducible first | refine Out.here ?_ | refine Out.next ?_));simp only [put_cons,put_nil,Nat.reduceEqDiff,↓reduceIte,if_true,if_false,reduceCtorEq])
  | ((with_reducible apply DW.frzB 9 5);(focus (exact rfl));(repeat (with_reducible first | refine Out.here ?_ | refine Out.next ?_));simp only [put_cons,put_nil,Nat.reduceEqDiff,↓reduceIte,if_true,if_false,reduceCtorEq])
  | ((with_reducible apply DW.frzB 9 6);(focus (exact rfl));(repeat (with_reducible first | refine Out.here ?_ | refine Out.next ?_));simp only [put_cons,put_nil,Nat.reduceEqDiff,↓reduceIte,if_true,if_false,reduceCtorEq])
  | refine g_ ?_
  | ((with_reducible refine And.intro ?_ ?_);(exact sv_tableWrong_dc))
  | (refine DW.cond (by rfl) ?_ ?_<;>(first | exact i0_ | (refine ic_ ?_;intro hb)))
  | ((with_reducible first | refine FVg_cases ?_ ?_ | refine FDg_cases ?_ ?_)<;>(intro hb;rw [hb];revert hb;(first | exact i0_ | (refine i_ ?_;intro hb))))
  | refine r_ ?_
  | refine d_ ?_
  | refine k_ ?_
  | ((refine dm_ ?_);(first | ((first | refine v_ (known12_dc _ _ _ _) ?_ (ha:=by exact sv_tableWrong_dc) | refine v_ (story12_dc _ _) ?_ (ha:=by exact sv_tableWrong_dc) | refine v_ (rightT_dc _ _) ?_ (ha:=by exact sv_tableWrong_dc))) | (refine v_ (mergeWR_dc _ _ _) ?_ (ha:=by exact sv_tableWrong_dc)) | (refine v_ (mergeWL_dc _ _ _) ?_ (ha:=by exact sv_tableWrong_dc)) | (refine v_ (mergeWB_dc _ _ _) ?_ (ha:=by exact sv_tableWrong_dc)) | (refine v_ (mergeLW_dc _ _ _ _) ?_ (ha:=by exact sv_tableWrong_dc)) | (refine v_ (mergeRW_dc _ _ _ _) ?_ (ha:=by exact sv_tableWrong_dc)) | (refine v_ (sameS_dc _ _ _) ?_ (ha:=by exact sv_tableWrong_dc)) | (refine v_ (same0_dc _) ?_ (ha:=by exact sv_tableWrong_dc))))
  | refine vo_ ?_
  | ((first | refine q_ (known12_dc _ _ _ _) ?_ (ha:=by exact sv_tableWrong_dc) | refine q_ (story12_dc _ _) ?_ (ha:=by exact sv_tableWrong_dc) | refine q_ (rightT_dc _ _) ?_ (ha:=by exact sv_tableWrong_dc)))
  | (refine p_ (lightW_dc _ _) ?_ (ha:=by exact sv_tableWrong_dc);rintro d H1 (⟨rfl,hlt,rfl⟩ | ⟨rfl,rfl⟩)<;>refine s_ ?_)
  | (refine p_ (few12_dc _ _) ?_ (ha:=by exact sv_tableWrong_dc);rintro d H1 (⟨rfl,⟨hn20,hx30⟩,rfl⟩ | ⟨rfl,rfl⟩)<;>refine s_ ?_)
  | (refine q_ (mergeWR_dc _ _ _) ?_ (ha:=by exact sv_tableWrong_dc))
  | (refine q_ (mergeWL_dc _ _ _) ?_ (ha:=by exact sv_tableWrong_dc))
  | (refine q_ (mergeWB_dc _ _ _) ?_ (ha:=by exact sv_tableWrong_dc))
  | (refine q_ (mergeLW_dc _ _ _ _) ?_ (ha:=by exact sv_tableWrong_dc))
  | (refine q_ (mergeRW_dc _ _ _ _) ?_ (ha:=by exact sv_tableWrong_dc))
  | (refine q_ (sameS_dc _ _ _) ?_ (ha:=by exact sv_tableWrong_dc))
  | (refine q_ (same0_dc _) ?_ (ha:=by exact sv_tableWrong_dc))
  | refine o_ ?_
  | refine f_ ?_
  | refine vm_ ?_
  | with_reducible intro b)
 all_goals first
 | ((first | exact fin_ | refine finq_ ?_);done)
 | (exfalso;omega)
 | (trace_state;fail)
end
end
end Go.Proofs.YtifdpbghkccaoaaGreatDoor
