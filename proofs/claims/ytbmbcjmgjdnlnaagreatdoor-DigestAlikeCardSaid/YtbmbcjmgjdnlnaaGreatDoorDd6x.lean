/- The sums of a right table. -/
import Derived.Test.YtbmbcjmgjdnlnaaGreatDoorDd5x
import Derived.Test.YtbmbcjmgjdnlnaaGreatDoorPtgx
import Derived.KernelRfl
namespace Go.Proofs.YtbmbcjmgjdnlnaaGreatDoor
open Go.RowKit
set_option linter.unusedSimpArgs false
set_option linter.unusedVariables false
set_option linter.unusedSectionVars false
set_option maxHeartbeats 4000000
set_option maxRecDepth 100000
section
theorem nat_i64 {x:Int} (h:natIn x):i64b x:=⟨by have:=h.1;omega,h.2⟩
theorem dot_i64 {d:TDot} (h:dotIn d):i64b d.node/\i64b d.epoch/\i64b d.n:=⟨nat_i64 h.1,nat_i64 h.2.1,nat_i64 h.2.2⟩
theorem lineL_len {ws:List (List UInt8)} (h:(Lib.join ws [32]).length<=19999):(lineZ ws).length<=20000:=by unfold lineZ;rw [List.length_append];simp only [List.length_cons,List.length_nil];omega
theorem jR {r:TRoute} (h:dotIn r.dot/\r.filter.length<=1000):(Lib.join [[114],dotP r.dot.node r.dot.epoch r.dot.n,hexM r.filter] [32]).length<=19999:=by
 obtain ⟨a,b,c⟩:=dot_i64 h.1
 have h1:=dotP_len a b c;have h2:=hexM_len r.filter;have h3:=h.2
 have:=joinB [[114],dotP r.dot.node r.dot.epoch r.dot.n,hexM r.filter] 2500 (by
  intro x hx
  simp only [List.mem_cons,List.not_mem_nil,or_false] at hx
  rcases hx with rfl | rfl | rfl
  · simp
  · omega
  · omega)
 simp only [List.length_cons,List.length_nil] at this
 omega
theorem jS {d:TDot} (h:dotIn d):(Lib.join [dotP d.node d.epoch d.n] [32]).length<=19999:=by
 obtain ⟨a,b,c⟩:=dot_i64 h
 have h1:=dotP_len a b c
 rw [Lib.join_one];omega
theorem jF {x:TFence} (h:natIn x.node/\natIn x.epoch):(Lib.join [Lib.itoa x.node,Lib.itoa x.epoch] [32]).length<=19999:=by
 have h1:=itoa_len (nat_i64 h.1);have h2:=itoa_len (nat_i64 h.2)
 have:=joinB [Lib.itoa x.node,Lib.itoa x.epoch] 100 (by
  intro x hx
  simp only [List.mem_cons,List.not_mem_nil,or_false] at hx
  rcases hx with rfl | rfl<;>omega)
 simp only [List.length_cons,List.length_nil] at this
 omega
theorem cellP_len {c:TCell} (h:dotIn c.dot/\(natIn c.stamp.l/\natIn c.stamp.c/\natIn c.stamp.node)/\natIn c.qos/\c.topic.length<=1000/\c.payload.length<=1000):(cellP c).length<=20000:=by
 obtain ⟨h0,⟨h4,h5,h6⟩,h9,h7,h8⟩:=h
 obtain ⟨a,b,c'⟩:=dot_i64 h0
 have e1:=dotP_len a b c';have e2:=itoa_len (nat_i64 h4);have e3:=itoa_len (nat_i64 h5);have e4:=itoa_len (nat_i64 h6);have e5:=itoa_len (nat_i64 h9);have e6:=hexM_len c.topic;have e7:=hexM_len c.payload
 unfold cellP
 refine lineL_len ?_
 have:=joinB [if c.gone=true then [103] else [99],dotP c.dot.node c.dot.epoch c.dot.n,Lib.itoa c.stamp.l,Lib.itoa c.stamp.c,Lib.itoa c.stamp.node,Lib.itoa c.qos,hexM c.topic,hexM c.payload] 2300 (by
  intro x hx
  simp only [List.mem_cons,List.not_mem_nil,or_false] at hx
  rcases hx with rfl | rfl | rfl | rfl | rfl | rfl | rfl | rfl
  · split<;>simp
  all_goals omega)
 simp only [List.length_cons,List.length_nil] at this
 omega
theorem cell_i64 {c:TCell} (h:dotIn c.dot/\(natIn c.stamp.l/\natIn c.stamp.c/\natIn c.stamp.node)/\natIn c.qos/\c.topic.length<=1000/\c.payload.length<=1000) :
  (i64b c.dot.node/\i64b c.dot.epoch/\i64b c.dot.n)/\(i64b c.stamp.l/\i64b c.stamp.c/\i64b c.stamp.node)/\(c.topic.length<=2000/\c.payload.length<=2000)/\i64b c.qos :=
 ⟨dot_i64 h.1,⟨nat_i64 h.2.1.1,nat_i64 h.2.1.2.1,nat_i64 h.2.1.2.2⟩,⟨Nat.le_trans h.2.2.2.1 (by decide),Nat.le_trans h.2.2.2.2 (by decide)⟩,nat_i64 h.2.2.1⟩
theorem sumsP_is (t:TTable):sumsP t=(layAll (fun _=>9) lineFp t.fences (layAll (fun _=>8) lineSp t.seen (layAll kC cellP t.cells (layAll kR lineRp t.routes em10)))).map fnvV:=rfl
theorem barrs_end {E:TypeId} {L:BXs} {k:Nat} (h:BL L 100000000000) (hk:10<=k):barrs E (L.drop k)=[]:=by rw [List.drop_of_length_le (by rw [h.len];exact hk)];rfl
theorem bown0 (E T:TypeId) (b:Nat) (L:BXs):bown E T b L = .tb T b (bcells b 0 L)::barrs E (L.drop 0):=rfl
theorem byt_take {L:BXs} {k:Nat} (h:k<L.length):(((byt L).take (k+1)).map fnvV).map encU=(((byt L).take k).map fnvV).map encU++[.int .u64 (fnvV ((byt L).getD k []))]:=by
 have:(byt L).take (k+1)=(byt L).take k++[(byt L).getD k []]:=by
  rw [List.take_add_one]
  have hk:k<(byt L).length:=by rw [byt_len];exact h
  simp [List.getD_eq_getElem?_getD,hk]
 rw [this];simp [encU]
attribute [local irreducible] DW SeqD DV DOp DC DVX bown barrs bcells lineZ dotP cellP fnvV hexM bucketV Lib.itoa
theorem sv_psumsR_dc {p:Prop} (h:p:=by first | exact sv | exact hLi | exact dot_i64 hr1 | exact ⟨bkt,hL1,hj⟩ | exact ⟨bkt,hL1,hci⟩ | exact ⟨by decide,hL1,hj⟩ | exact ⟨by omega,hL1⟩ | exact hq1 | exact hq2 | exact hq3 | exact bkt | fail):p:=h
theorem s_psumsR_dc {P Q:Prop} (q:Q) (h:Hid Q->P:=by (intro q;simp (maxSteps:=1000000) (disch:=omega) only [push_cast,↓reduceIte,reduceCtorEq,Nat.reduceAdd,Nat.reduceMul,Nat.reduceLT,Nat.reduceLeDiff,Nat.reduceEqDiff,Nat.reduceSub,Int.reduceToNat,Int.reduceLT,Int.reduceLE,Int.reduceAdd,Int.reduceSub,Int.reduceMul,Int.reduceNeg,Nat.reduceBEq,Int.reduceBEq,Int.reduceBNe,Nat.reduceBNe,Int.reduceEq,encU,encDot,encRoute,encCell,encFence,bytes_are,bytes_back,htb];exact q.1)):P:=h ⟨q⟩
section
attribute [local push_cast 2000] encU encDot encRoute encCell encFence bytes_are bytes_back
theorem psumsR_dc (t:TTable) (T5:TypeId) (fr:Nat×Nat) (m:Int) (F:Own):(Neat t/\Lite 1000000000 t/\tabB t=true)->DC Tryz.prog 32 [.agg [.sl (t.seen.map encDot), .sl (t.fences.map encFence), .sl (t.routes.map encRoute), .sl (t.cells.map encCell)]] ([loose,knP T5 fr,knF,knA,knM m]++F) fun d G=>d = .sl ((sumsP t).map encU)/\G=[loose,knP T5 fr,knF,knA,knM m]++F:=by
 intro hA
 obtain ⟨ht,hLi,htb⟩:=hA
 refine DC.bodyS (n_:=94) (show Tryz.prog.funcs[32]? = some Tryz.f32 by kernel_rfl) rfl rfl (by rfl) ?_
 simp only [env0,List.cons_append,List.nil_append]
 have kw:=ksIs [0,1,2,3,5,7,9,11,12,13,16,19,20,21,22,39,40,41,42,53,54,55,56,66,67,68,69,82,83]
 have ow:=ownIs []
 have dw7:=drIs 7 [11] [1,2,5,6,8,9]
 have dw12:=drIs 12 [5] [1,2,4]
 have dw22:=drIs 22 [8] [2,3,5,6]
 refine DW.tail0 1 ?_
 have:=ht.ls;have:=ht.lf;have:=ht.lr;have:=ht.lc
 repeat' (first
  | ((with_reducible apply DW.frzB 3 1);(focus (exact rfl));(repeat (with_reducible first | refine Out.here ?_ | refine Out.next ?_));simp only [put_cons,put_nil,Nat.reduceEqDiff,↓reduceIte,if_true,if_false,reduceCtorEq])
  | ((refine DOp.allocB_ [.tail 1 (.slice none 0 0),loose,knP T5 fr,knF,knA,knM m] F rfl rfl ?_);(with_reducible intro bB);(simp only [List.cons_append,List.nil_append]);refine s_psumsR_dc ?_)
  | ((with_reducible apply DW.frzB 7 5);(focus (exact rfl));(repeat (with_reducible first | refine Out.here ?_ | refine Out.next ?_));simp only [put_cons,put_nil,Nat.reduceEqDiff,↓reduceIte,if_true,if_false,reduceCtorEq])
  | ((with_reducible apply DW.frzB 12 7);(focus (exact rfl));(repeat (with_reducible first | refine Out.here ?_ | refine Out.next ?_));simp only [put_cons,put_nil,Nat.reduceEqDiff,↓reduceIte,if_true,if_false,reduceCtorEq])
  | ((with_reducible apply DW.frzB 17 9);(focus (exact rfl));(repeat (with_reducible first | refine Out.here ?_ | refine Out.next ?_));simp only [put_cons,put_nil,Nat.reduceEqDiff,↓reduceIte,if_true,if_false,reduceCtorEq])
  | ((with_reducible apply DW.frzB 22 11);(focus (exact rfl));(repeat (with_reducible first | refine Out.here ?_ | refine Out.next ?_));simp only [put_cons,put_nil,Nat.reduceEqDiff,↓reduceIte,if_true,if_false,reduceCtorEq])
  | ((with_reducible refine DW.loopB 0 (X:=Nat×BXs) (fun x=>x.1<=t.routes.length/\BL x.2 (0+20000 * x.1)/\byt x.2=layAll kR lineRp (t.routes.take x.1) em10) (fun x=>[(1, .sp [.sl (t.seen.map encDot), .sl (t.fences.map encFence), .sl (t.routes.map encRoute), .sl (t.cells.map encCell)]),(3, .raw (.pointer (some ⟨bB,0,none⟩))),(19, .sl (t.routes.map encRoute)),(20, .int .i64 t.routes.length),(21, .int .i64 x.1)]) (fun x=>.tail 1 (.slice none 0 0)::loose::knP T5 fr::knF::knA::knM m::bown 5 129 bB x.2) (fun x=>t.routes.length - x.1) ((0,fresh10)) ?_ ?_ ?_);exact (⟨Nat.zero_le _,fresh_BL,rfl⟩);(simp [Sub,get,keepL]<;>fail);(try simp only [List.cons_append,List.nil_append]);refine Pull.tail_ (F:=F) rfl ?_;intro ⟨k,LA⟩ ⟨hk,hLA,hBLA⟩;(try simp only [List.cons_append,List.nil_append]);(try simp only at hk hLA hBLA);have hL1:=hLA.mono (n:=100000000000) (by omega);have hr0:=ht.r k;have hbk:=bucket_b (t.routes.getD k default).filter;have hr1:=hr0.1;have hq1:(t.routes.getD k default).filter.length<=1000000000:=Nat.le_trans hr0.2 (by decide);have hq2:(t.routes.getD k default).filter.length<=1000000000000:=Nat.le_trans hr0.2 (by decide);have hj:=Nat.le_trans (jR hr0) (show 19999<=20000 by decide);have hw:=lineL_len (jR hr0))
  | ((have hkx:k=t.routes.length:=by omega);subst hkx;((with_reducible refine DW.loopB 2 (X:=Nat×BXs) (fun x=>x.1<=t.cells.length/\BL x.2 (100000000+20000 * x.1)/\byt x.2=layAll kC cellP (t.cells.take x.1) (byt LA)) (fun x=>[(1, .sp [.sl (t.seen.map encDot), .sl (t.fences.map encFence), .sl (t.routes.map encRoute), .sl (t.cells.map encCell)]),(3, .raw (.pointer (some ⟨bB,0,none⟩))),(39, .sl (t.cells.map encCell)),(40, .int .i64 t.cells.length),(41, .int .i64 x.1)]) (fun x=>.tail 1 (.slice none 0 0)::loose::knP T5 fr::knF::knA::knM m::bown 5 129 bB x.2) (fun x=>t.cells.length - x.1) ((0,LA)) ?_ ?_ ?_);exact (⟨Nat.zero_le _,hLA.mono (by omega),rfl⟩);(simp [Sub,get,keepL]<;>fail);(try simp only [List.cons_append,List.nil_append]);refine Pull.tail_ (F:=F) rfl ?_;intro ⟨k2,LB⟩ ⟨hk,hLB,hBLB⟩;(try simp only [List.cons_append,List.nil_append]);(try simp only at hk hLB hBLB);have hL1:=hLB.mono (n:=100000000000) (by omega);have hc0:=ht.c k2;have hbk:=bucket_b (t.cells.getD k2 default).topic;have hci:=cell_i64 hc0;have hw:=cellP_len hc0;have hq2:(t.cells.getD k2 default).topic.length<=1000000000000:=Nat.le_trans hc0.2.2.2.1 (by decide)))
  | ((have hkx:k2=t.cells.length:=by omega);subst hkx;((with_reducible refine DW.loopB 4 (X:=Nat×BXs) (fun x=>x.1<=t.seen.length/\BL x.2 (200000000+20000 * x.1)/\byt x.2=layAll (fun _=>8) lineSp (t.seen.take x.1) (byt LB)) (fun x=>[(1, .sp [.sl (t.seen.map encDot), .sl (t.fences.map encFence), .sl (t.routes.map encRoute), .sl (t.cells.map encCell)]),(3, .raw (.pointer (some ⟨bB,0,none⟩))),(53, .sl (t.seen.map encDot)),(54, .int .i64 t.seen.length),(55, .int .i64 x.1)]) (fun x=>.tail 1 (.slice none 0 0)::loose::knP T5 fr::knF::knA::knM m::bown 5 129 bB x.2) (fun x=>t.seen.length - x.1) ((0,LB)) ?_ ?_ ?_);exact (⟨Nat.zero_le _,hLB.mono (by omega),rfl⟩);(simp [Sub,get,keepL]<;>fail);(try simp only [List.cons_append,List.nil_append]);refine Pull.tail_ (F:=F) rfl ?_;intro ⟨k3,LC⟩ ⟨hk,hLC,hBLC⟩;(try simp only [List.cons_append,List.nil_append]);(try simp only at hk hLC hBLC);have hL1:=hLC.mono (n:=100000000000) (by omega);have hr1:=ht.d k3;have hj:=Nat.le_trans (jS hr1) (show 19999<=20000 by decide);have hw:=lineL_len (jS hr1)))
  | ((have hkx:k3=t.seen.length:=by omega);subst hkx;((with_reducible refine DW.loopB 6 (X:=Nat×BXs) (fun x=>x.1<=t.fences.length/\BL x.2 (300000000+20000 * x.1)/\byt x.2=layAll (fun _=>9) lineFp (t.fences.take x.1) (byt LC)) (fun x=>[(3, .raw (.pointer (some ⟨bB,0,none⟩))),(66, .sl (t.fences.map encFence)),(67, .int .i64 t.fences.length),(68, .int .i64 x.1)]) (fun x=>.tail 1 (.slice none 0 0)::loose::knP T5 fr::knF::knA::knM m::bown 5 129 bB x.2) (fun x=>t.fences.length - x.1) ((0,LC)) ?_ ?_ ?_);exact (⟨Nat.zero_le _,hLC.mono (by omega),rfl⟩);(simp [Sub,get,keepL]<;>fail);(try simp only [List.cons_append,List.nil_append]);refine Pull.tail_ (F:=F) rfl ?_;intro ⟨k4,LD⟩ ⟨hk,hLD,hBLD⟩;(try simp only [List.cons_append,List.nil_append]);(try simp only at hk hLD hBLD);have hL1:=hLD.mono (n:=100000000000) (by omega);have hf0:=ht.f k4;have hq1:=nat_i64 hf0.1;have hq2:=nat_i64 hf0.2;have hj:=Nat.le_trans (jF hf0) (show 19999<=20000 by decide);have hw:=lineL_len (jF hf0)))
  | ((have hkx:k4=t.fences.length:=by omega);subst hkx;((with_reducible refine DW.loopB 8 (X:=Nat×Value) (fun x=>x.1<=10) (fun x=>[(3, .raw (.pointer (some ⟨bB,0,none⟩))),(12, .gs x.2 ((((byt LD).take x.1).map fnvV).map encU)),(82, .int .i64 x.1)]) (fun x=>.tail 1 x.2::loose::knP T5 fr::knF::knA::knM m :: .tb 129 bB (bcells bB 0 LD)::barrs 5 (LD.drop x.1)) (fun x=>10 - x.1) ((0, .slice none 0 0)) ?_ ?_ ?_);exact (Nat.zero_le _);(simp [Sub,get,keepL]<;>fail);(try simp only [List.cons_append,List.nil_append]);refine Pull.tail_ (F:=F) (by first | rfl | (rw [bown0];rfl)) ?_;intro ⟨k5,v⟩ hk;(try simp only [List.cons_append,List.nil_append]);(try simp only at hk);have hL1:=hLD.mono (n:=100000000000) (by omega);have hq1:((byt LD).getD k5 []).length<=1000000000000:=by (have hz:∀ y∈byt LD,y.length<=100000000000:=fun y hy=>by obtain ⟨z,hz,rfl⟩:=List.mem_map.1 hy;exact hL1.sz z hz);(by_cases hkl:k5<(byt LD).length;(rw [List.getD_eq_getElem?_getD,List.getElem?_eq_getElem hkl];exact Nat.le_trans (hz _ (List.getElem_mem hkl)) (by decide));(rw [List.getD_eq_getElem?_getD,List.getElem?_eq_none (by omega)];exact Nat.zero_le _))))
  | refine g_ ?_
  | ((with_reducible refine And.intro ?_ ?_);(exact sv_psumsR_dc))
  | (refine DW.cond (by rfl) ?_ ?_<;>(first | exact i0_ | (intro hb;(try simp only [↓reduceCtorEq,not_true_eq_false,not_false_eq_true,hbs,Int.reduceBEq,Int.reduceBNe,Int.reduceEq] at hb);(try refine s_psumsR_dc ?_))))
  | ((with_reducible first | refine FVg_cases ?_ ?_ | refine FDg_cases ?_ ?_)<;>(intro hb;rw [hb];revert hb;(first | exact i0_ | (intro hb;(try simp only [↓reduceCtorEq,not_true_eq_false,not_false_eq_true,hbs,Int.reduceBEq,Int.reduceBNe,Int.reduceEq] at hb);(try refine s_psumsR_dc ?_)))))
  | ((first | refine rn_ ?_ | refine dn_ ?_ | refine kn_ ?_)<;>(refine s_psumsR_dc ?_))
  | ((refine dm_ ?_);(first | ((first | refine v_ (prT_dc _ _ _) ?_ (ha:=by exact sv_psumsR_dc) (hk:=fun q=>q.1) | refine v_ (bucket_dc _ _) ?_ (ha:=by exact sv_psumsR_dc) (hk:=fun q=>q.1) | refine v_ (fnv_dc _ _) ?_ (ha:=by exact sv_psumsR_dc) (hk:=fun q=>q.1) | refine v_ (ddot_dc _ _ _ _ _ _) ?_ (ha:=by exact sv_psumsR_dc) (hk:=fun q=>q.1) | refine v_ (digi_dc _ _ _ _) ?_ (ha:=by exact sv_psumsR_dc) (hk:=fun q=>q.1) | refine v_ (dhex_dc _ _) ?_ (ha:=by exact sv_psumsR_dc) (hk:=fun q=>q.1));refine s_psumsR_dc ?_)))
  | ((refine von_ ?_);refine s_psumsR_dc ?_)
  | ((first | refine q_ (prT_dc _ _ _) ?_ (ha:=by exact sv_psumsR_dc) (hk:=fun q=>q.1) | refine q_ (bucket_dc _ _) ?_ (ha:=by exact sv_psumsR_dc) (hk:=fun q=>q.1) | refine q_ (fnv_dc _ _) ?_ (ha:=by exact sv_psumsR_dc) (hk:=fun q=>q.1) | refine q_ (ddot_dc _ _ _ _ _ _) ?_ (ha:=by exact sv_psumsR_dc) (hk:=fun q=>q.1) | refine q_ (digi_dc _ _ _ _) ?_ (ha:=by exact sv_psumsR_dc) (hk:=fun q=>q.1) | refine q_ (dhex_dc _ _) ?_ (ha:=by exact sv_psumsR_dc) (hk:=fun q=>q.1));refine s_psumsR_dc ?_)
  | (refine p_ (lineR_dc _ _ _ _ _ _ _ _ _ _ _ _ _) ?_ (ha:=by exact sv_psumsR_dc);rintro d H1 ⟨L1,⟨hn1,hb1⟩,rfl,rfl⟩<;>refine s_psumsR_dc ?_)
  | (refine p_ (lineS_dc _ _ _ _ _ _ _ _ _ _) ?_ (ha:=by exact sv_psumsR_dc);rintro d H1 ⟨L1,⟨hn1,hb1⟩,rfl,rfl⟩<;>refine s_psumsR_dc ?_)
  | (refine p_ (lineF_dc _ _ _ _ _ _ _ _ _ _ _) ?_ (ha:=by exact sv_psumsR_dc);rintro d H1 ⟨L1,⟨hn1,hb1⟩,rfl,rfl⟩<;>refine s_psumsR_dc ?_)
  | (refine p_ (cellAt_dc _ _ _ _ _ _ _ _ _ _ _ _ _ _ _ _ _ _ _ _) ?_ (ha:=by exact sv_psumsR_dc);rintro d H1 ⟨L1,⟨hn1,hb1⟩,rfl,rfl⟩<;>refine s_psumsR_dc ?_)
  | (refine p_ (strAt_dc _ _ _ _ _ _ _ _ _ _) ?_ (ha:=by exact sv_psumsR_dc);rintro d H1 ⟨rfl,rfl⟩<;>refine s_psumsR_dc ?_)
  | ((refine on_ ?_);refine s_psumsR_dc ?_)
  | refine f_ ?_
  | refine vm_ ?_
  | with_reducible intro b)
 all_goals first
 | (exfalso;omega)
 | (refine ⟨(k+1,L1),⟨by (try simp only);omega,(hLA.next hn1 hb1 hw).mono (by (try simp only);omega),?_⟩,by (try simp only);omega,by simp [Sub,get],?_⟩;(exact hb1.trans (by rw [hBLA];exact (layAll_take (by omega) _).symm));((try dsimp only);(exact sub_));done)
 | (refine ⟨(k2+1,L1),⟨by (try simp only);omega,(hLB.next hn1 hb1 hw).mono (by (try simp only);omega),?_⟩,by (try simp only);omega,by simp [Sub,get],?_⟩;(exact hb1.trans (by rw [hBLB];exact (layAll_take (by omega) _).symm));((try dsimp only);(exact sub_));done)
 | (refine ⟨(k3+1,L1),⟨by (try simp only);omega,(hLC.next hn1 hb1 hw).mono (by (try simp only);omega),?_⟩,by (try simp only);omega,by simp [Sub,get],?_⟩;(exact hb1.trans (by rw [hBLC];exact (layAll_take (by omega) _).symm));((try dsimp only);(exact sub_));done)
 | (refine ⟨(k4+1,L1),⟨by (try simp only);omega,(hLD.next hn1 hb1 hw).mono (by (try simp only);omega),?_⟩,by (try simp only);omega,by simp [Sub,get],?_⟩;(exact hb1.trans (by rw [hBLD];exact (layAll_take (by omega) _).symm));((try dsimp only);(exact sub_));done)
 | (refine ⟨(k5+1,b),?_,?_,?_,?_⟩;((try simp only);omega);((try simp only);omega);((try dsimp only);rw [byt_take (show k5<LD.length by have:=hLD.len;omega)];simp [Sub,get,encU]);((try dsimp only);(exact sub_));done)
 | (have hk5:k5=10:=by omega
    subst hk5
    have e:sumsP t=((byt LD).take 10).map fnvV:=by
     rw [List.take_of_length_le (by rw [byt_len,hLD.len];exact Nat.le_refl _),hBLD,hBLC,hBLB,hBLA]
     simp only [List.take_length]
     exact sumsP_is t
    rw [e,barrs_end hL1 (Nat.le_refl _),List.nil_append]
    refine ⟨_,_,le.gs rfl,⟨rfl,rfl⟩,?_⟩;(exact sub_);done)
 | (trace_state;fail)
end
end
end Go.Proofs.YtbmbcjmgjdnlnaaGreatDoor
