/- Sums of a table. -/
import Derived.Test.YtbmbcjmgjdnlnaaGreatDoorSd1x
import Derived.Test.YtbmbcjmgjdnlnaaGreatDoorTbx
import Derived.KernelRfl
namespace Go.Proofs.YtbmbcjmgjdnlnaaGreatDoor
open Go.RowKit
set_option linter.unusedSimpArgs false
set_option linter.unusedVariables false
set_option linter.unusedSectionVars false
set_option maxHeartbeats 4000000
set_option maxRecDepth 100000
section
attribute [local irreducible] DW SeqD DV DOp DC DVX
abbrev Ints:=List Int
abbrev Strs:=List (List UInt8)
def natIn (x:Int):Prop:=0<=x/\x<=9223372036854775807
def dotIn (d:TDot):Prop:=natIn d.node/\natIn d.epoch/\natIn d.n
structure Neat (t:TTable):Prop where
 ls:t.seen.length<=4000
 lf:t.fences.length<=4000
 lr:t.routes.length<=4000
 lc:t.cells.length<=4000
 d:∀ k,dotIn (t.seen.getD k default)
 f:∀ k,natIn (t.fences.getD k default).node/\natIn (t.fences.getD k default).epoch
 r:∀ k,dotIn (t.routes.getD k default).dot/\(t.routes.getD k default).filter.length<=1000
 c:∀ k,dotIn (t.cells.getD k default).dot/\(natIn (t.cells.getD k default).stamp.l/\natIn (t.cells.getD k default).stamp.c/\natIn (t.cells.getD k default).stamp.node)/\natIn (t.cells.getD k default).qos/\(t.cells.getD k default).topic.length<=1000/\(t.cells.getD k default).payload.length<=1000
theorem tens_drop {ls:Strs} {k:Nat} (h:k<ls.length):(List.drop k (ls.map V.str)).getD 0 .any = .str (ls.getD k []):=by
 rw [dropD,Nat.add_zero,List.getD_eq_getElem?_getD,List.getElem?_map];simp [h]
theorem tens_set:∀ {ls:Strs} {k:Nat} {x:List UInt8},k<ls.length->layV (ls.map V.str) k [.str x]=(ls.set k x).map V.str
 | [],k,x,h=>absurd h (Nat.not_lt_zero _)
 | e::ls,0,x,_=>rfl
 | e::ls,k+1,x,h=>by rw [List.map_cons,lay_cons,tens_set (by simpa using h)];rfl
theorem tens_len (ls:Strs):(ls.map V.str).length=ls.length:=List.length_map _
def shortS (m:Nat) (ls:Strs):Prop:=ls.length=10/\∀ x∈ls,x.length<=m
theorem shortS.at {m:Nat} {ls:Strs} (h:shortS m ls) (k:Nat):(ls.getD k []).length<=m:=by
 by_cases hk:k<ls.length
 · rw [List.getD_eq_getElem?_getD,List.getElem?_eq_getElem hk];exact h.2 _ (List.getElem_mem hk)
 · rw [List.getD_eq_getElem?_getD,List.getElem?_eq_none (by omega)];exact Nat.zero_le _
theorem shortS.set {m m':Nat} {ls:Strs} (h:shortS m ls) (hm:m<=m') {k:Nat} {x:List UInt8} (hx:x.length<=m'):shortS m' (ls.set k x):=by
 refine ⟨by rw [List.length_set];exact h.1,fun y hy=>?_⟩
 rcases List.mem_or_eq_of_mem_set hy with hy | rfl
 · exact Nat.le_trans (h.2 y hy) hm
 · exact hx
theorem shortS.mono {m m':Nat} {ls:Strs} (h:shortS m ls) (hm:m<=m'):shortS m' ls:=⟨h.1,fun y hy=>Nat.le_trans (h.2 y hy) hm⟩
theorem rightTy_dc (t:TTable) (F:Own):(Lite 1000000000 t/\tabB t=true)->DC Tryz.prog 47 [.agg [.sl (t.seen.map encDot), .sl (t.fences.map encFence), .sl (t.routes.map encRoute), .sl (t.cells.map encCell)]] (([]:Own)++F) fun d G=>d = .bool true/\G=[]++F:=fun h=>by
 have:=rightT_dc t F h.1
 rwa [h.2] at this
theorem ex4 {α β:Type} {P Q R S:α×β->Prop} (a:α) {b:β} (h4:S (a,b)) (h3:R (a,b)) (h2:Q (a,b)) (h1:P (a,b)):∃ x,P x/\Q x/\R x/\S x:=⟨(a,b),h1,h2,h3,h4⟩
def empS:Strs:=[[],[],[],[],[],[],[],[],[],[]]
theorem empS_short:shortS 0 empS:=⟨rfl,by decide⟩
theorem empS_map:empS.map V.str=[.str [], .str [], .str [], .str [], .str [], .str [], .str [], .str [], .str [], .str []]:=rfl
section
attribute [local push_cast 2000] encU encDot encRoute encCell encFence tens_drop tens_set tens_len bytes_are bytes_back
theorem rsums_dc (t:TTable) (F:Own):(Neat t/\Lite 1000000000 t/\tabB t=true)->DC Tryz.prog 49 [.agg [.sl (t.seen.map encDot), .sl (t.fences.map encFence), .sl (t.routes.map encRoute), .sl (t.cells.map encCell)]] (([]:Own)++F) fun d G=>∃ l:Ints,d = .sl (l.map encU)/\(l.length=10/\∀ x∈l,0<=x/\x<=18446744073709551615)/\G=[]++F:=by
 intro hA
 obtain ⟨ht,hlt,htb⟩:=hA
 refine DC.bodyS (n_:=169) (show Tryz.prog.funcs[49]? = some Tryz.f49 by kernel_rfl) rfl rfl (by rfl) ?_
 simp only [env0,empS_map,List.cons_append,List.nil_append]
 have kw:=ksIs [0,1,2,3,4,5,6,7,8,9,10,11,12,13,14,15,18,24,55,67,118,136,158]
 have ow:=ownIs [1]
 have dw9:=drIs 9 [16] [3,6,7,11,12]
 have dw18:=drIs 18 [46] [3,7,8,13,14,19,20,25,26,30,31,35,36,40,42]
 have dw22:=drIs 22 [11] [1,3,6,7]
 have dw27:=drIs 27 [13] [1,3,4,8,9]
 refine DW.tail0 1 ?_
 have:=ht.ls;have:=ht.lf;have:=ht.lr;have:=ht.lc
 repeat' (first
  | ((with_reducible refine DW.loopB 0 (X:=Nat×Strs) (fun x=>x.1<=t.routes.length/\shortS (0+20000 * x.1) x.2) (fun x=>[(1, .raw (.pointer (some ⟨b1,0,none⟩))),(3, .raw (.pointer (some ⟨b2,0,none⟩))),(4, .int .i64 x.1)]) (fun x=>.blk b2 (x.2.map V.str) :: .blk b1 [.sl (t.seen.map encDot), .sl (t.fences.map encFence), .sl (t.routes.map encRoute), .sl (t.cells.map encCell)]::([]:Own)) (fun x=>t.routes.length - x.1) ((0,empS)) ?_ ?_ ?_);exact (⟨Nat.zero_le _,empS_short⟩);(simp [Sub,get,keepL]<;>fail);(try simp only [empS_map,List.cons_append,List.nil_append]);refine pl_ ?_;intro ⟨k,ls⟩ ⟨hk,hl⟩;(try simp only [empS_map,List.cons_append,List.nil_append]);simp only at hk hl;have hl0:=hl.1;obtain ⟨⟨⟨a1,a2⟩,⟨a3,a4⟩,⟨a5,a6⟩⟩,a7⟩:=ht.r k;have bb:=bucket_b (t.routes.getD k default).filter;have hbl:=hl.at (bucketV (t.routes.getD k default).filter).toNat;have e1:=dotM_len (t.routes.getD k default).dot.node (t.routes.getD k default).dot.epoch (t.routes.getD k default).dot.n;have e2:=hexM_len (t.routes.getD k default).filter)
  | ((with_reducible refine DW.loopB 2 (X:=Nat×Strs) (fun x=>x.1<=t.cells.length/\shortS (100000000+20000 * x.1) x.2) (fun x=>[(1, .raw (.pointer (some ⟨b1,0,none⟩))),(3, .raw (.pointer (some ⟨b2,0,none⟩))),(7, .int .i64 x.1)]) (fun x=>.blk b2 (x.2.map V.str) :: .blk b1 [.sl (t.seen.map encDot), .sl (t.fences.map encFence), .sl (t.routes.map encRoute), .sl (t.cells.map encCell)]::([]:Own)) (fun x=>t.cells.length - x.1) ((0,ls)) ?_ ?_ ?_);exact (⟨Nat.zero_le _,hl.mono (by omega)⟩);(simp [Sub,get,keepL]<;>fail);(try simp only [empS_map,List.cons_append,List.nil_append]);refine pl_ ?_;intro ⟨k2,ls⟩ ⟨hk,hl⟩;(try simp only [empS_map,List.cons_append,List.nil_append]);simp only at hk hl;have hl0:=hl.1;obtain ⟨⟨⟨a1,a2⟩,⟨a3,a4⟩,⟨a5,a6⟩⟩,⟨⟨a7,a8⟩,⟨a9,a10⟩,⟨a11,a12⟩⟩,⟨a13,a14⟩,a15,a16⟩:=ht.c k2;have bb:=bucket_b (t.cells.getD k2 default).topic;have hbl:=hl.at (bucketV (t.cells.getD k2 default).topic).toNat;have e1:=dotM_len (t.cells.getD k2 default).dot.node (t.cells.getD k2 default).dot.epoch (t.cells.getD k2 default).dot.n;have e2:=hexM_len (t.cells.getD k2 default).topic;have e3:=hexM_len (t.cells.getD k2 default).payload;have e4:=decM_len (t.cells.getD k2 default).stamp.l;have e5:=decM_len (t.cells.getD k2 default).stamp.c;have e6:=decM_len (t.cells.getD k2 default).stamp.node;have e7:=decM_len (t.cells.getD k2 default).qos)
  | ((with_reducible refine DW.loopB 4 (X:=Nat×Strs) (fun x=>x.1<=t.seen.length/\shortS (200000000+20000 * x.1) x.2) (fun x=>[(1, .raw (.pointer (some ⟨b1,0,none⟩))),(3, .raw (.pointer (some ⟨b2,0,none⟩))),(11, .int .i64 x.1)]) (fun x=>.blk b2 (x.2.map V.str) :: .blk b1 [.sl (t.seen.map encDot), .sl (t.fences.map encFence), .sl (t.routes.map encRoute), .sl (t.cells.map encCell)]::([]:Own)) (fun x=>t.seen.length - x.1) ((0,ls)) ?_ ?_ ?_);exact (⟨Nat.zero_le _,hl.mono (by omega)⟩);(simp [Sub,get,keepL]<;>fail);(try simp only [empS_map,List.cons_append,List.nil_append]);refine pl_ ?_;intro ⟨k3,ls⟩ ⟨hk,hl⟩;(try simp only [empS_map,List.cons_append,List.nil_append]);simp only at hk hl;have hl0:=hl.1;obtain ⟨⟨a1,a2⟩,⟨a3,a4⟩,⟨a5,a6⟩⟩:=ht.d k3;have hbl:=hl.at 8;have e1:=dotM_len (t.seen.getD k3 default).node (t.seen.getD k3 default).epoch (t.seen.getD k3 default).n)
  | ((with_reducible refine DW.loopB 6 (X:=Nat×Strs) (fun x=>x.1<=t.fences.length/\shortS (300000000+20000 * x.1) x.2) (fun x=>[(1, .raw (.pointer (some ⟨b1,0,none⟩))),(3, .raw (.pointer (some ⟨b2,0,none⟩))),(12, .int .i64 x.1)]) (fun x=>.blk b2 (x.2.map V.str) :: .blk b1 [.sl (t.seen.map encDot), .sl (t.fences.map encFence), .sl (t.routes.map encRoute), .sl (t.cells.map encCell)]::([]:Own)) (fun x=>t.fences.length - x.1) ((0,ls)) ?_ ?_ ?_);exact (⟨Nat.zero_le _,hl.mono (by omega)⟩);(simp [Sub,get,keepL]<;>fail);(try simp only [empS_map,List.cons_append,List.nil_append]);refine pl_ ?_;intro ⟨k4,ls⟩ ⟨hk,hl⟩;(try simp only [empS_map,List.cons_append,List.nil_append]);simp only at hk hl;have hl0:=hl.1;obtain ⟨⟨a1,a2⟩,⟨a3,a4⟩⟩:=ht.f k4;have hbl:=hl.at 9;have e4:=decM_len (t.fences.getD k4 default).node;have e5:=decM_len (t.fences.getD k4 default).epoch)
  | ((with_reducible refine DW.loopB 8 (X:=Nat×Value×Ints) (fun x=>x.1<=10/\x.2.2.length=x.1/\∀ q∈x.2.2,0<=q/\q<=18446744073709551615) (fun x=>[(3, .raw (.pointer (some ⟨b2,0,none⟩))),(14, .gs x.2.1 (x.2.2.map encU)),(15, .int .i64 x.1)]) (fun x=>.tail 1 x.2.1 :: .blk b2 (ls.map V.str) :: .blk b1 [.sl (t.seen.map encDot), .sl (t.fences.map encFence), .sl (t.routes.map encRoute), .sl (t.cells.map encCell)]::([]:Own)) (fun x=>10 - x.1) ((0, .slice none 0 0,[])) ?_ ?_ ?_);exact (⟨Nat.zero_le _,rfl,by simp⟩);(simp [Sub,get,keepL]<;>fail);(try simp only [empS_map,List.cons_append,List.nil_append]);refine pl_ ?_;intro ⟨k5,v,l⟩ ⟨hk,hm,hx⟩;(try simp only [empS_map,List.cons_append,List.nil_append]);(try simp only at hk hm hx);have hl9:=hl.1;have hbl:=hl.at k5;have hfb:=fnv_b (ls.getD k5 []))
  | refine g_ ?_
  | ((with_reducible refine And.intro ?_ ?_);(exact sv))
  | (refine DW.cond (by rfl) ?_ ?_<;>(first | exact i0_ | (refine ic_ ?_;intro hb)))
  | ((with_reducible first | refine FVg_cases ?_ ?_ | refine FDg_cases ?_ ?_)<;>(intro hb;rw [hb];revert hb;(first | exact i0_ | (refine i_ ?_;intro hb))))
  | refine r_ ?_
  | refine d_ ?_
  | refine k_ ?_
  | ((refine dm_ ?_);(first | (refine v_ (rightTy_dc _ _) ?_) | ((first | refine v_ (rbucket_dc _ _) ?_ | refine v_ (rdot_dc _ _ _ _) ?_ | refine v_ (rhex_dc _ _) ?_ | refine v_ (dec_dc _ _) ?_ | refine v_ (rfnv_dc _ _) ?_))))
  | refine vo_ ?_
  | (refine q_ (rightTy_dc _ _) ?_)
  | ((first | refine q_ (rbucket_dc _ _) ?_ | refine q_ (rdot_dc _ _ _ _) ?_ | refine q_ (rhex_dc _ _) ?_ | refine q_ (dec_dc _ _) ?_ | refine q_ (rfnv_dc _ _) ?_))
  | refine o_ ?_
  | refine f_ ?_
  | refine vm_ ?_
  | ((fail_if_success (have zz:=b1));with_reducible intro b1)
  | ((fail_if_success (have zz:=b2));with_reducible intro b2)
  | with_reducible intro b)
 all_goals first
 | ((exfalso;omega))
 | (apply ex4 (k+1);(try dsimp only);(exact sub_);(simp [Sub,get]<;>fail);((try simp only);omega);((try simp only);refine ⟨by omega,hl.set (by omega) ?_⟩;simp only [List.length_append,List.length_cons,List.length_nil];omega);done)
 | (apply ex4 (k2+1);(try dsimp only);(exact sub_);(simp [Sub,get]<;>fail);((try simp only);omega);((try simp only);refine ⟨by omega,hl.set (by omega) ?_⟩;simp only [List.length_append,List.length_cons,List.length_nil];omega);done)
 | (apply ex4 (k3+1);(try dsimp only);(exact sub_);(simp [Sub,get]<;>fail);((try simp only);omega);((try simp only);refine ⟨by omega,hl.set (by omega) ?_⟩;simp only [List.length_append,List.length_cons,List.length_nil];omega);done)
 | (apply ex4 (k4+1);(try dsimp only);(exact sub_);(simp [Sub,get]<;>fail);((try simp only);omega);((try simp only);refine ⟨by omega,hl.set (by omega) ?_⟩;simp only [List.length_append,List.length_cons,List.length_nil];omega);done)
 | (refine ⟨(k5+1,b,l++[fnvV (ls.getD k5 [])]),?_,?_,?_,?_⟩;((try simp only);refine ⟨by omega,by rw [List.length_append,hm];rfl,fun x hx2=>?_⟩;rcases List.mem_append.1 hx2 with hx2 | hx2;(exact hx x hx2);(rw [List.mem_singleton] at hx2;subst hx2;exact hfb));((try simp only);omega);(simp [Sub,get,encU]<;>fail);(try dsimp only);(exact sub_);done)
 | (refine ⟨_,_,le.gs rfl,⟨l,rfl,⟨by omega,hx⟩,rfl⟩,?_⟩;(exact sub_);done)
end
end
section
attribute [local irreducible] DW SeqD DV DOp DC DVX
theorem s_topic_dc {P Q:Prop} (q:Q) (h:Hid Q->P:=by (intro q;simp (maxSteps:=1000000) (disch:=omega) only [push_cast,↓reduceIte,reduceCtorEq,Nat.reduceAdd,Nat.reduceMul,Nat.reduceLT,Nat.reduceLeDiff,Nat.reduceEqDiff,Nat.reduceSub,Int.reduceToNat,Int.reduceLT,Int.reduceLE,Int.reduceAdd,Int.reduceSub,Int.reduceMul,Int.reduceNeg,Nat.reduceBEq,Int.reduceBEq,Int.reduceBNe,Nat.reduceBNe,Int.reduceEq,hkm];exact q.1)):P:=h ⟨q⟩
theorem topic_dc (k:Int) (F:Own):(0<=k/\k<=255)->DC Tryz.prog 30 [.int .u8 k] (([]:Own)++F) fun d G=>d = .str (topicM k)/\G=[]++F:=by
 intro hA
 obtain ⟨h0,h1⟩:=hA
 refine DC.bodyS (n_:=8) (show Tryz.prog.funcs[30]? = some Tryz.f30 by kernel_rfl) rfl rfl (by rfl) ?_
 simp only [env0,List.cons_append,List.nil_append]
 have kw:=ksIs [0,2]
 have ow:=ownIs []
 have q0:=Int.tmod_nonneg 7 h0;have q1:=Int.tmod_lt_of_pos k (show (0:Int)<7 by decide)
 rcases (show k.tmod 7=0\/k.tmod 7=1\/k.tmod 7=2\/k.tmod 7=3\/k.tmod 7=4\/k.tmod 7=5\/k.tmod 7=6 by omega) with hkm | hkm | hkm | hkm | hkm | hkm | hkm
 repeat' (first
  | refine g_ ?_
  | ((with_reducible refine And.intro ?_ ?_);(exact sv))
  | (refine DW.cond (by rfl) ?_ ?_<;>(first | exact i0_ | (intro hb;(try simp only [↓reduceCtorEq,not_true_eq_false,not_false_eq_true,hbs,Int.reduceBEq,Int.reduceBNe,Int.reduceEq] at hb);(try refine s_topic_dc ?_))))
  | ((with_reducible refine FVg_cases ?_ ?_)<;>(intro hb;rw [hb];revert hb;(first | exact i0_ | (intro hb;(try simp only [↓reduceCtorEq,not_true_eq_false,not_false_eq_true,hbs,Int.reduceBEq,Int.reduceBNe,Int.reduceEq] at hb);(try refine s_topic_dc ?_)))))
  | ((first | refine rn_ ?_ | refine kn_ ?_)<;>(refine s_topic_dc ?_))
  | ((refine on_ ?_);refine s_topic_dc ?_)
  | refine f_ ?_
  | with_reducible intro b)
 all_goals (refine ⟨_,_,le.of_eq ?_,⟨rfl,rfl⟩,SubP.refl⟩;rw [topicM,hkm];rfl)
theorem s_filter_dc {P Q:Prop} (q:Q) (h:Hid Q->P:=by (intro q;simp (maxSteps:=1000000) (disch:=omega) only [push_cast,↓reduceIte,reduceCtorEq,Nat.reduceAdd,Nat.reduceMul,Nat.reduceLT,Nat.reduceLeDiff,Nat.reduceEqDiff,Nat.reduceSub,Int.reduceToNat,Int.reduceLT,Int.reduceLE,Int.reduceAdd,Int.reduceSub,Int.reduceMul,Int.reduceNeg,Nat.reduceBEq,Int.reduceBEq,Int.reduceBNe,Nat.reduceBNe,Int.reduceEq,hkm];exact q.1)):P:=h ⟨q⟩
theorem filter_dc (k:Int) (F:Own):(0<=k/\k<=255)->DC Tryz.prog 28 [.int .u8 k] (([]:Own)++F) fun d G=>d = .str (filterM k)/\G=[]++F:=by
 intro hA
 obtain ⟨h0,h1⟩:=hA
 refine DC.bodyS (n_:=8) (show Tryz.prog.funcs[28]? = some Tryz.f28 by kernel_rfl) rfl rfl (by rfl) ?_
 simp only [env0,List.cons_append,List.nil_append]
 have kw:=ksIs [0,2]
 have ow:=ownIs []
 have q0:=Int.tmod_nonneg 10 h0;have q1:=Int.tmod_lt_of_pos k (show (0:Int)<10 by decide)
 rcases (show k.tmod 10=0\/k.tmod 10=1\/k.tmod 10=2\/k.tmod 10=3\/k.tmod 10=4\/k.tmod 10=5\/k.tmod 10=6\/k.tmod 10=7\/k.tmod 10=8\/k.tmod 10=9 by omega) with hkm | hkm | hkm | hkm | hkm | hkm | hkm | hkm | hkm | hkm
 repeat' (first
  | refine g_ ?_
  | ((with_reducible refine And.intro ?_ ?_);(exact sv))
  | (refine DW.cond (by rfl) ?_ ?_<;>(first | exact i0_ | (intro hb;(try simp only [↓reduceCtorEq,not_true_eq_false,not_false_eq_true,hbs,Int.reduceBEq,Int.reduceBNe,Int.reduceEq] at hb);(try refine s_filter_dc ?_))))
  | ((with_reducible refine FVg_cases ?_ ?_)<;>(intro hb;rw [hb];revert hb;(first | exact i0_ | (intro hb;(try simp only [↓reduceCtorEq,not_true_eq_false,not_false_eq_true,hbs,Int.reduceBEq,Int.reduceBNe,Int.reduceEq] at hb);(try refine s_filter_dc ?_)))))
  | ((first | refine rn_ ?_ | refine kn_ ?_)<;>(refine s_filter_dc ?_))
  | ((refine on_ ?_);refine s_filter_dc ?_)
  | refine f_ ?_
  | with_reducible intro b)
 all_goals (refine ⟨_,_,le.of_eq ?_,⟨rfl,rfl⟩,SubP.refl⟩;rw [filterM,hkm];rfl)
end
end Go.Proofs.YtbmbcjmgjdnlnaaGreatDoor
