/- The sums of a table that is not right, of an empty one. -/
import Derived.Test.YtbmbcjmgjdnlnaaGreatDoorDd6x
import Derived.KernelRfl
namespace Go.Proofs.YtbmbcjmgjdnlnaaGreatDoor
open Go.RowKit
set_option linter.unusedSimpArgs false
set_option linter.unusedVariables false
set_option linter.unusedSectionVars false
set_option maxHeartbeats 4000000
set_option maxRecDepth 100000
section
def sums0:List Int:=List.replicate 10 14695981039346656037
theorem sums0_len:sums0.length=10:=rfl
theorem sums0_0:(List.map encU sums0).getD 0 V.any = .int .u64 14695981039346656037:=rfl
theorem sumsP_e:sumsP emptyT=sums0:=rfl
theorem fnv_a:fnvV [97]=12638187200555641996:=by decide
theorem fresh_take {k:Nat} (h:k<10):(((byt fresh10).take (k+1)).map fnvV).map encU=(((byt fresh10).take k).map fnvV).map encU++[.int .u64 (fnvV ((byt fresh10).getD k []))]:=byt_take h
theorem fresh_at (k:Nat):((byt fresh10).getD k []).length<=1000000000000:=by
 have:(byt fresh10).getD k []=[]:=by
  rw [fresh_byt];unfold em10
  rw [List.getD_eq_getElem?_getD,List.getElem?_replicate];split<;>rfl
 rw [this];exact Nat.zero_le _
theorem fresh_end:((byt fresh10).take 10).map fnvV=sums0:=rfl
theorem empty_fit:Fit emptyT:=⟨neat_of All4.empty ⟨Nat.zero_le _,Nat.zero_le _,Nat.zero_le _,Nat.zero_le _,(fun _ h=>nomatch h),(fun _ h=>nomatch h),(fun _ h=>nomatch h)⟩,⟨Nat.zero_le _,Nat.zero_le _,Nat.zero_le _,Nat.zero_le _,(fun _ h=>nomatch h),(fun _ h=>nomatch h),(fun _ h=>nomatch h)⟩,tr_iff.2 tr_empty⟩
theorem sums_dc (t:TTable) (T5:TypeId) (fr:Nat×Nat) (m:Int) (F:Own):Fit t->DC Tryz.prog 32 [.agg [.sl (t.seen.map encDot), .sl (t.fences.map encFence), .sl (t.routes.map encRoute), .sl (t.cells.map encCell)]] ([loose,knP T5 fr,knF,knA,knM m]++F) fun d G=>d = .sl ((sumsP t).map encU)/\G=[loose,knP T5 fr,knF,knA,knM m]++F:=fun h=>psumsR_dc t T5 fr m F ⟨h.neat,h.lite,h.tab⟩
theorem sumsE_dc (T5:TypeId) (fr:Nat×Nat) (m:Int) (F:Own):True->DC Tryz.prog 32 [.agg [.sl [], .sl [], .sl [], .sl []]] ([loose,knP T5 fr,knF,knA,knM m]++F) fun d G=>d = .sl (sums0.map encU)/\G=[loose,knP T5 fr,knF,knA,knM m]++F:=fun _ =>
 (sums_dc emptyT T5 fr m F empty_fit).mono fun d G hd=>⟨by rw [<-sumsP_e];exact hd.1,hd.2⟩
theorem differT_dc (t u:TTable) (F:Own):True->DC Tryz.prog 31 [.sl ((sumsP t).map encU), .sl ((sumsP u).map encU)] (([]:Own)++F) fun d G=>d = .sl ((diffT t u).map encI)/\G=[]++F:=fun _=>by
 have:=differ_dc (sumsP t) (sumsP u) F ⟨by rw [sumsP_len];decide,by rw [sumsP_len];decide⟩
 rwa [sumsP_len,sumsP_len] at this
theorem differ0_dc (F:Own):True->DC Tryz.prog 31 [.sl (sums0.map encU), .sl (sums0.map encU)] (([]:Own)++F) fun d G=>d = .sl []/\G=[]++F:=fun _ =>
 (differT_dc emptyT emptyT F trivial).mono fun d G hd=>⟨by rw [hd.1,diff_self];rfl,hd.2⟩
attribute [local irreducible] DW SeqD DV DOp DC DVX bown barrs bcells lineZ dotP cellP fnvV hexM bucketV Lib.itoa sums0 sumsP diffT fresh10
theorem sv_psumsW_dc {p:Prop} (h:p:=by first | exact sv | exact hLi | exact ⟨by omega,fresh_BL.mono (by decide)⟩ | exact fresh_at _ | fail):p:=h
theorem s_psumsW_dc {P Q:Prop} (q:Q) (h:Hid Q->P:=by (intro q;simp (maxSteps:=1000000) (disch:=omega) only [push_cast,↓reduceIte,reduceCtorEq,Nat.reduceAdd,Nat.reduceMul,Nat.reduceLT,Nat.reduceLeDiff,Nat.reduceEqDiff,Nat.reduceSub,Int.reduceToNat,Int.reduceLT,Int.reduceLE,Int.reduceAdd,Int.reduceSub,Int.reduceMul,Int.reduceNeg,Nat.reduceBEq,Int.reduceBEq,Int.reduceBNe,Nat.reduceBNe,Int.reduceEq,encU,encDot,encRoute,encCell,encFence,bytes_are,bytes_back,htb];exact q.1)):P:=h ⟨q⟩
section
attribute [local push_cast 2000] encU encDot encRoute encCell encFence bytes_are bytes_back
theorem psumsW_dc (t:TTable) (T5:TypeId) (fr:Nat×Nat) (m:Int) (F:Own):(Lite 1000000000 t/\tabB t=false)->DC Tryz.prog 32 [.agg [.sl (t.seen.map encDot), .sl (t.fences.map encFence), .sl (t.routes.map encRoute), .sl (t.cells.map encCell)]] ([loose,knP T5 fr,knF,knA,knM m]++F) fun d G=>d = .sl (sums0.map encU)/\G=[loose,knP T5 fr,knF,knA,knM m]++F:=by
 intro hA
 obtain ⟨hLi,htb⟩:=hA
 refine DC.bodyS (n_:=94) (show Tryz.prog.funcs[32]? = some Tryz.f32 by kernel_rfl) rfl rfl (by rfl) ?_
 simp only [env0,List.cons_append,List.nil_append]
 have kw:=ksIs [0,1,2,3,5,7,9,11,12,13,16,19,20,21,22,39,40,41,42,53,54,55,56,66,67,68,69,82,83]
 have ow:=ownIs [1]
 have dw7:=drIs 7 [11] [1,2,5,6,8,9]
 have dw12:=drIs 12 [5] [1,2,4]
 have dw22:=drIs 22 [8] [2,3,5,6]
 refine DW.tail0 1 ?_
 repeat' (first
  | ((with_reducible apply DW.frzB 3 1);(focus (exact rfl));(repeat (with_reducible first | refine Out.here ?_ | refine Out.next ?_));simp only [put_cons,put_nil,Nat.reduceEqDiff,↓reduceIte,if_true,if_false,reduceCtorEq])
  | ((refine DOp.allocB_ [.tail 1 (.slice none 0 0),loose,knP T5 fr,knF,knA,knM m] F rfl rfl ?_);(with_reducible intro bB);(simp only [List.cons_append,List.nil_append]);refine s_psumsW_dc ?_)
  | ((with_reducible refine DW.loopB 0 (X:=Nat) (fun x=>x<=0) (fun x=>[(1, .sp [.gs (.slice none 0 0) [], .gs (.slice none 0 0) [], .gs (.slice none 0 0) [], .gs (.slice none 0 0) []]),(3, .raw (.pointer (some ⟨bB,0,none⟩))),(19, .gs (.slice none 0 0) []),(20, .int .i64 0),(21, .int .i64 x)]) (fun x=>.tail 1 (.slice none 0 0)::loose::knP T5 fr::knF::knA::knM m::bown 5 129 bB fresh10) (fun x=>0 - x) (0) ?_ ?_ ?_);exact (Nat.zero_le _);(simp [Sub,get,keepL]<;>fail);(try simp only [List.cons_append,List.nil_append]);refine Pull.tail_ (F:=F) rfl ?_;intro k hk;(try simp only [List.cons_append,List.nil_append]))
  | ((with_reducible refine DW.loopB 2 (X:=Nat) (fun x=>x<=0) (fun x=>[(1, .sp [.gs (.slice none 0 0) [], .gs (.slice none 0 0) [], .gs (.slice none 0 0) [], .gs (.slice none 0 0) []]),(3, .raw (.pointer (some ⟨bB,0,none⟩))),(39, .gs (.slice none 0 0) []),(40, .int .i64 0),(41, .int .i64 x)]) (fun x=>.tail 1 (.slice none 0 0)::loose::knP T5 fr::knF::knA::knM m::bown 5 129 bB fresh10) (fun x=>0 - x) (0) ?_ ?_ ?_);exact (Nat.zero_le _);(simp [Sub,get,keepL]<;>fail);(try simp only [List.cons_append,List.nil_append]);refine Pull.tail_ (F:=F) rfl ?_;intro k hk;(try simp only [List.cons_append,List.nil_append]))
  | ((with_reducible refine DW.loopB 4 (X:=Nat) (fun x=>x<=0) (fun x=>[(1, .sp [.gs (.slice none 0 0) [], .gs (.slice none 0 0) [], .gs (.slice none 0 0) [], .gs (.slice none 0 0) []]),(3, .raw (.pointer (some ⟨bB,0,none⟩))),(53, .gs (.slice none 0 0) []),(54, .int .i64 0),(55, .int .i64 x)]) (fun x=>.tail 1 (.slice none 0 0)::loose::knP T5 fr::knF::knA::knM m::bown 5 129 bB fresh10) (fun x=>0 - x) (0) ?_ ?_ ?_);exact (Nat.zero_le _);(simp [Sub,get,keepL]<;>fail);(try simp only [List.cons_append,List.nil_append]);refine Pull.tail_ (F:=F) rfl ?_;intro k hk;(try simp only [List.cons_append,List.nil_append]))
  | ((with_reducible refine DW.loopB 6 (X:=Nat) (fun x=>x<=0) (fun x=>[(3, .raw (.pointer (some ⟨bB,0,none⟩))),(66, .gs (.slice none 0 0) []),(67, .int .i64 0),(68, .int .i64 x)]) (fun x=>.tail 1 (.slice none 0 0)::loose::knP T5 fr::knF::knA::knM m::bown 5 129 bB fresh10) (fun x=>0 - x) (0) ?_ ?_ ?_);exact (Nat.zero_le _);(simp [Sub,get,keepL]<;>fail);(try simp only [List.cons_append,List.nil_append]);refine Pull.tail_ (F:=F) rfl ?_;intro k hk;(try simp only [List.cons_append,List.nil_append]))
  | ((with_reducible refine DW.loopB 8 (X:=Nat×Value) (fun x=>x.1<=10) (fun x=>[(3, .raw (.pointer (some ⟨bB,0,none⟩))),(12, .gs x.2 ((((byt fresh10).take x.1).map fnvV).map encU)),(82, .int .i64 x.1)]) (fun x=>.tail 1 x.2::loose::knP T5 fr::knF::knA::knM m :: .tb 129 bB (bcells bB 0 fresh10)::barrs 5 (fresh10.drop x.1)) (fun x=>10 - x.1) ((0, .slice none 0 0)) ?_ ?_ ?_);exact (Nat.zero_le _);(simp [Sub,get,keepL]<;>fail);(try simp only [List.cons_append,List.nil_append]);refine Pull.tail_ (F:=F) (by first | rfl | (rw [bown0];rfl)) ?_;intro ⟨k5,v⟩ hk;(try simp only [List.cons_append,List.nil_append]);(try simp only at hk))
  | refine g_ ?_
  | ((with_reducible refine And.intro ?_ ?_);(exact sv_psumsW_dc))
  | (refine DW.cond (by rfl) ?_ ?_<;>(first | exact i0_ | (intro hb;(try simp only [↓reduceCtorEq,not_true_eq_false,not_false_eq_true,hbs,Int.reduceBEq,Int.reduceBNe,Int.reduceEq] at hb);(try refine s_psumsW_dc ?_))))
  | ((with_reducible first | refine FVg_cases ?_ ?_ | refine FDg_cases ?_ ?_)<;>(intro hb;rw [hb];revert hb;(first | exact i0_ | (intro hb;(try simp only [↓reduceCtorEq,not_true_eq_false,not_false_eq_true,hbs,Int.reduceBEq,Int.reduceBNe,Int.reduceEq] at hb);(try refine s_psumsW_dc ?_)))))
  | ((first | refine rn_ ?_ | refine dn_ ?_ | refine kn_ ?_)<;>(refine s_psumsW_dc ?_))
  | ((refine dm_ ?_);(first | ((first | refine v_ (prT_dc _ _ _) ?_ (ha:=by exact sv_psumsW_dc) (hk:=fun q=>q.1) | refine v_ (fnv_dc _ _) ?_ (ha:=by exact sv_psumsW_dc) (hk:=fun q=>q.1));refine s_psumsW_dc ?_)))
  | ((refine von_ ?_);refine s_psumsW_dc ?_)
  | ((first | refine q_ (prT_dc _ _ _) ?_ (ha:=by exact sv_psumsW_dc) (hk:=fun q=>q.1) | refine q_ (fnv_dc _ _) ?_ (ha:=by exact sv_psumsW_dc) (hk:=fun q=>q.1));refine s_psumsW_dc ?_)
  | (refine p_ (strAt_dc _ _ _ _ _ _ _ _ _ _) ?_ (ha:=by exact sv_psumsW_dc);rintro d H1 ⟨rfl,rfl⟩<;>refine s_psumsW_dc ?_)
  | ((refine on_ ?_);refine s_psumsW_dc ?_)
  | refine f_ ?_
  | refine vm_ ?_
  | ((fail_if_success (have zz:=b1));with_reducible intro b1)
  | with_reducible intro b)
 all_goals first
 | (exfalso;omega)
 | (refine ⟨(k5+1,b),?_,?_,?_,?_⟩;((try simp only);omega);((try simp only);omega);((try dsimp only);rw [fresh_take (show k5<10 by omega)];simp [Sub,get,encU]);((try dsimp only);(exact sub_));done)
 | (have hk5:k5=10:=by omega
    subst hk5
    rw [<-fresh_end,barrs_end (fresh_BL.mono (by decide)) (Nat.le_refl _),List.nil_append]
    refine ⟨_,_,le.gs rfl,⟨rfl,rfl⟩,?_⟩;(exact sub_);done)
 | (trace_state;fail)
end
end
end Go.Proofs.YtbmbcjmgjdnlnaaGreatDoor
