/- Who was told all, and went on, is not put back. -/
import Derived.Test.YtifdpbghkccaoaaGreatDoorMwx
import Derived.Test.YtifdpbghkccaoaaGreatDoorHtx
import Derived.Test.YtifdpbghkccaoaaGreatDoorMjx
import Derived.KernelRfl
namespace Go.Proofs.YtifdpbghkccaoaaGreatDoor
open Go.RowKit
set_option linter.unusedSimpArgs false
set_option linter.unusedVariables false
set_option linter.unusedSectionVars false
set_option maxHeartbeats 4000000
set_option maxRecDepth 100000
section
theorem st_at {l:List TDeed} (hn:l.length<=20) (h:∀ d∈l,deedOk d) {k:Nat} (hk:k<3):(tablesM l).length=3/\TR ((tablesM l).getD k default)/\Rng 20 ((tablesM l).getD k default)/\Lite 3072 ((tablesM l).getD k default):=by
 have hs:=Story.of h
 obtain ⟨t1,t2,_⟩:=hs.tab (n:=(k:Int)) ⟨by omega,by omega⟩
 have e:tabT (storyT l) (k:Int)=(tablesM l).getD k default:=by unfold tabT tablesM;rw [Int.toNat_natCast]
 rw [e] at t1 t2
 exact ⟨hs.lt,t1,t2.mono hn,story_lite hn t1 t2⟩
theorem st_no {t:TTable} (ht:TR t) (hr:Rng 20 t) {n:Int} (hn:3<=n) (e:Int):fencedL t.fences n e=false/\topM t.seen n e=0/\∀ r∈t.routes,r.dot.node≠n:=by
 have key:∀ m e,3<=m->topM t.seen m e=0:=fun m e hm=>by
  rcases top_cases ht.seen m e with ⟨d,hd,h1,_⟩ | ⟨_,h⟩
  · have:=(hr.s d hd).1;omega
  · exact h
 refine ⟨?_,key n e hn,fun r hr' hq=>?_⟩
 · cases hf:fencedL t.fences n e with
   | false=>rfl
   | true =>
    obtain ⟨x,hx,h1,_⟩:=fenced_iff.1 hf
    have:=(hr.f x hx).1;omega
 · have:=(ht.rok r hr').2.1
   rw [has_iff] at this
   have h2:=key r.dot.node r.dot.epoch (by omega)
   omega
theorem add_lite {m:Nat} {t:TTable} (h:Lite m t) (n e:Int) {f:Str} (hf:f.length<=65535):Lite (m+1) (routeAddM t n e f):=by
 unfold routeAddM
 split
 · have h1:=addM_len t.seen (nextDot t.seen n e)
   have h2:=insR_len (withoutR t.routes n e f) ⟨nextDot t.seen n e,f⟩
   have h3:=(without_sub t.routes n e f).length_le
   have:=h.s;have:=h.r
   refine ⟨by show (addM _ _).length<=_;omega,Nat.le_trans h.f (Nat.le_succ _),by show (insR _ _).length<=_;omega,Nat.le_trans h.c (Nat.le_succ _),fun r hr=>?_,h.ct,h.cp⟩
   rcases mem_insR.1 hr with rfl | hr
   · exact hf
   · exact h.rf r ((without_sub t.routes n e f).subset hr)
 · exact h.mono (Nat.le_succ _)
theorem drop_lite {m:Nat} {t:TTable} (h:Lite m t) (n e:Int) (f:Str):Lite (m+1) (routeDropM t n e f):=by
 unfold routeDropM
 split
 · have h1:=addM_len t.seen (nextDot t.seen n e)
   have h3:=(without_sub t.routes n e f).length_le
   have:=h.s;have:=h.r
   exact ⟨by show (addM _ _).length<=_;omega,Nat.le_trans h.f (Nat.le_succ _),by show (withoutR _ _ _ _).length<=_;omega,Nat.le_trans h.c (Nat.le_succ _),fun r hr=>h.rf r ((without_sub t.routes n e f).subset hr),h.ct,h.cp⟩
 · exact h.mono (Nat.le_succ _)
theorem filterL_len12 {f:Str} (h:f∈filterL):f.length<=9:=by
 have:∀ f∈filterL,f.length<=9:=by decide
 exact this f h
theorem topicL_len12 {f:Str} (h:f∈topicL):f.length<=9:=by
 have:∀ f∈topicL,f.length<=9:=by decide
 exact this f h
theorem put_lite {m:Nat} {t:TTable} (h:Lite m t) (n e:Int) (s:TStamp) {m1 m2:Str} (m3:Int) (h1:m1.length<=65535) (h2:m2.length<=1000000000):Lite (m+1) (cellPutM t n e s m1 m2 m3):=by
 unfold cellPutM
 split
 · have a1:=addM_len t.seen (nextDot t.seen n e)
   have a2:=cellIn_len t.cells (putC (nextDot t.seen n e) s.l s.c s.node m1 m2 m3)
   have:=h.s;have:=h.c
   refine ⟨by show (addM _ _).length<=_;omega,Nat.le_trans h.f (Nat.le_succ _),Nat.le_trans h.r (Nat.le_succ _),by show (cellInM _ _).length<=_;omega,h.rf,fun c hc=>?_,fun c hc=>?_⟩
   · rcases mem_cellIn hc with rfl | hc
     · exact h1
     · exact h.ct c hc
   · rcases mem_cellIn hc with rfl | hc
     · exact h2
     · exact h.cp c hc
 · exact h.mono (Nat.le_succ _)
structure LI (a:TTable) (k:Nat) (b:TTable):Prop where
 st:∃ G,LSt G a b 8 60
 lite:Lite (3072+k) b
 top:0<=topM b.seen 8 60/\topM b.seen 8 60<=k
theorem top_next {se:List TDot} (h:rightB se=true) {k:Nat} (ht:0<=topM se 8 60/\topM se 8 60<=k):0<=topM (addM se (nextDot se 8 60)) 8 60/\topM (addM se (nextDot se 8 60)) 8 60<=(k+1:Nat):=by
 rw [add_top h]
 have e:(nextDot se 8 60).n=topM se 8 60+1:=rfl
 split
 · rw [e];omega
 · omega
section
variable {a b:TTable} {k:Nat} (h:LI a k b)
include h
theorem LI.add {x:Str} (hx:x.length<=65535):LI a (k+1) (routeAddM b 8 60 x):=by
 obtain ⟨G,hl⟩:=h.st
 obtain ⟨L,w⟩:=went_add hl.h hl.cb hl.fresh x
 refine ⟨⟨_,hl.step w (by unfold routeAddM;split<;>rfl)⟩,(add_lite h.lite 8 60 hx).mono (by omega),?_⟩
 have:=top_next hl.cb.tr.seen h.top
 have:=h.top
 unfold routeAddM
 split
 · assumption
 · exact ⟨by omega,by omega⟩
theorem LI.drop (x:Str):LI a (k+1) (routeDropM b 8 60 x):=by
 obtain ⟨G,hl⟩:=h.st
 obtain ⟨L,w⟩:=went_drop hl.h hl.cb (by decide) hl.fresh x
 refine ⟨⟨_,hl.step w (by unfold routeDropM;split<;>rfl)⟩,(drop_lite h.lite 8 60 x).mono (by omega),?_⟩
 have:=top_next hl.cb.tr.seen h.top
 have:=h.top
 unfold routeDropM
 split
 · assumption
 · exact ⟨by omega,by omega⟩
theorem LI.put (s:TStamp) {m1 m2:Str} (m3:Int) (h1:m1.length<=65535) (h2:m2.length<=1000000000):LI a (k+1) (cellPutM b 8 60 s m1 m2 m3):=by
 obtain ⟨G,hl⟩:=h.st
 obtain ⟨L,w⟩:=went_put hl.h hl.cb hl.fresh s m1 m2 m3
 refine ⟨⟨_,hl.step w (by unfold cellPutM;split<;>rfl)⟩,(put_lite h.lite 8 60 s m3 h1 h2).mono (by omega),?_⟩
 have:=top_next hl.cb.tr.seen h.top
 have:=h.top
 unfold cellPutM
 split
 · assumption
 · exact ⟨by omega,by omega⟩
theorem LI.bnd (hk:k<=20):Lite 1000000000 b /\ -1000000000000<=topM b.seen 8 60/\topM b.seen 8 60<=1000000000000:=⟨h.lite.mono (by omega),by have:=h.top;omega,by have:=h.top;omega⟩
end
theorem li_start {l:List TDeed} (hn:l.length<=20) (h:∀ d∈l,deedOk d):LI ((tablesM l).getD 0 default) 0 ((tablesM l).getD 0 default):=by
 obtain ⟨G,hS⟩:=story_hist h hn
 obtain ⟨_,t1,t2,t3⟩:=st_at hn h (k:=0) (by decide)
 have e:tabT (storyT l) 0=(tablesM l).getD 0 default:=rfl
 have hc:=hS.can 0 (by decide) (by decide)
 rw [e] at hc
 refine ⟨⟨G,hS.h,hc,hc,fun g hg g1 _=>?_,fun x hx=>hx,rfl⟩,t3,?_⟩
 · have:=hS.node g hg;omega
 · have:=(st_no t1 t2 (n:=8) (by decide) 60).2.1
   omega
theorem later_ab {G:List TG} {a b:TTable} (h:LSt G a b 8 60):mergeM a b=b/\mergeM b a=b:=by
 obtain ⟨_,m1,m2⟩:=mergeM_is h.h h.ca h.cb
 obtain ⟨_,n1,n2⟩:=mergeM_is h.h h.cb h.ca
 have hs:∀ d,(hasB a.seen d||hasB b.seen d)=hasB b.seen d:=fun d=>by
  cases ha:hasB a.seen d with
  | false=>simp
  | true=>rw [h.sub d ha];rfl
 exact ⟨m2.uniq h.cb (fun d=>by rw [m1.has,hs]) fun n e=>by rw [m1.fen,h.fen,Bool.or_self],
  n2.uniq h.cb (fun d=>by rw [n1.has,Bool.or_comm,hs]) fun n e=>by rw [n1.fen,h.fen,Bool.or_self]⟩
theorem mergeAB_dc (a b:TTable) (m:Int) (F:Own):((∃ G,LSt G a b 8 60)/\Lite 100000000 a/\Lite 100000000 b)->DC Tryz.prog 10 [.agg [.sl (a.seen.map encDot), .sl (a.fences.map encFence), .sl (a.routes.map encRoute), .sl (a.cells.map encCell)], .agg [.sl (b.seen.map encDot), .sl (b.fences.map encFence), .sl (b.routes.map encRoute), .sl (b.cells.map encCell)]] ([knF,knA,knM m]++F) fun d G'=>d = .agg [.sl (b.seen.map encDot), .sl (b.fences.map encFence), .sl (b.routes.map encRoute), .sl (b.cells.map encCell)]/\G'=[knF,knA,knM m]++F:=fun ⟨⟨G,h⟩,h1,h2⟩=>by
 have:=pmergeT_dc G a b m F h.h h.ca h.cb h1 h2
 rw [(later_ab h).1] at this;exact this
theorem mergeBA_dc (a b:TTable) (m:Int) (F:Own):((∃ G,LSt G a b 8 60)/\Lite 100000000 a/\Lite 100000000 b)->DC Tryz.prog 10 [.agg [.sl (b.seen.map encDot), .sl (b.fences.map encFence), .sl (b.routes.map encRoute), .sl (b.cells.map encCell)], .agg [.sl (a.seen.map encDot), .sl (a.fences.map encFence), .sl (a.routes.map encRoute), .sl (a.cells.map encCell)]] ([knF,knA,knM m]++F) fun d G'=>d = .agg [.sl (b.seen.map encDot), .sl (b.fences.map encFence), .sl (b.routes.map encRoute), .sl (b.cells.map encCell)]/\G'=[knF,knA,knM m]++F:=fun ⟨⟨G,h⟩,h1,h2⟩=>by
 have:=pmergeT_dc G b a m F h.h h.cb h.ca h2 h1
 rw [(later_ab h).2] at this;exact this
theorem flen12 {k:Int} (h:0<=k):(filterM k).length<=65535:=Nat.le_trans (filterL_len12 (filterM_mem h)) (by decide)
theorem tlen12 {k:Int} (h:0<=k):(topicM k).length<=65535:=Nat.le_trans (topicL_len12 (topicM_mem h)) (by decide)
theorem deedR_at {l:List TDeed} (h:∀ d∈l,deedR d) (k:Nat):deedR (l.getD k default):=by
 by_cases hk:k<l.length
 · exact h _ (getD_mem hk)
 · rw [List.getD_eq_getElem?_getD,List.getElem?_eq_none (by omega)]
   exact ⟨⟨by decide,by decide⟩,⟨by decide,by decide⟩,⟨by decide,by decide⟩⟩
theorem few_of {n:Nat} {t:TTable} (h:Lite n t) (hn:n<=1000000000):Few 1000000000 t:=⟨Nat.le_trans h.s hn,Nat.le_trans h.f hn,Nat.le_trans h.r hn,Nat.le_trans h.c hn⟩
attribute [local irreducible] DW SeqD DV DOp DC DVX DVJ DVM mergeM tablesM routeAddM routeDropM cellPutM filterM topicM topM
theorem sv_tableLater_dc {p:Prop} (h:p:=by first | exact sv | exact ⟨hl20,hdo⟩ | exact (hmd _).2.2 | exact ⟨hlb.1,Nat.le_trans (flen12 (hmd _).2.2.1) (by decide),hlb.2⟩ | exact hlb | exact ⟨hlb.1,⟨Nat.le_trans (tlen12 (hmd _).2.2.1) (by decide),Nat.le_trans (hmx _) (by decide)⟩,hlb.2⟩ | exact ⟨hli.st,hst0.lite.mono (by decide),hli.lite.mono (by omega)⟩ | exact ⟨rfl,few_of hli.lite (by omega)⟩ | fail):p:=h
section
attribute [local push_cast 2000] encTable encDeed
theorem tableLater_dc (l m:List TDeed) (T5:TypeId) (fr:Nat×Nat) (m0:Int) (F:Own):((∀ d∈l,deedR d)/\(∀ d∈m,deedR d))->DC Tryz.prog 5 [.sl (l.map encDeed), .sl (m.map encDeed)] ([loose,knP T5 fr,knF,knA,knM m0]++F) fun d G=>d = .bool true/\G=[loose,knP T5 fr,knF,knA,knM m0]++F:=by
 intro hA
 obtain ⟨hl,hm⟩:=hA
 refine DC.bodyS (n_:=89) (show Tryz.prog.funcs[5]? = some Tryz.f5 by kernel_rfl) rfl rfl (by rfl) ?_
 simp only [env0,List.cons_append,List.nil_append]
 have kw:=ksIs [0,1,4,5,6,7,8,10,18,27,35,54,66]
 have ow:=ownIs []
 have dw18:=drIs 18 [] [0,1,2,3,4,6,7,8,9,10]
 repeat' (first
  | ((fail_if_success (have zz:=hl20));(have hl20:l.length<=20:=hn20);(have hlx:∀ k,(l.getD k default).x.length<=30:=hx30);(have hdo:=deeds12 hl hlx);(have htn:=st_len hdo);(have hst0:=li_start hl20 hdo))
  | ((fail_if_success (have zz:=hm20));(have hm20:m.length<=20:=hn20);(have hmx:∀ k,(m.getD k default).x.length<=30:=hx30);(have hmd:=deedR_at hm))
  | ((with_reducible apply DW.frzB 8 5);(focus (exact rfl));(repeat (with_reducible first | refine Out.here ?_ | refine Out.next ?_));simp only [put_cons,put_nil,Nat.reduceEqDiff,↓reduceIte,if_true,if_false,reduceCtorEq])
  | ((with_reducible apply DW.frzB 18 6);(focus (exact rfl));(repeat (with_reducible first | refine Out.here ?_ | refine Out.next ?_));simp only [put_cons,put_nil,Nat.reduceEqDiff,↓reduceIte,if_true,if_false,reduceCtorEq])
  | ((with_reducible refine DW.loopB 0 (X:=Nat×TTable) (fun x=>x.1<=m.length/\LI ((tablesM l).getD 0 default) x.1 x.2) (fun x=>[(1, .sl (m.map encDeed)),(5, .sp [.sl (((tablesM l).getD 0 default).seen.map encDot), .sl (((tablesM l).getD 0 default).fences.map encFence), .sl (((tablesM l).getD 0 default).routes.map encRoute), .sl (((tablesM l).getD 0 default).cells.map encCell)]),(6, .raw (.pointer (some ⟨b6,0,none⟩))),(7, .int .i64 60),(8, .int .i64 x.1)]) (fun x=>.blk b6 [.sl (x.2.seen.map encDot), .sl (x.2.fences.map encFence), .sl (x.2.routes.map encRoute), .sl (x.2.cells.map encCell)]::[loose,knP T5 fr,knF,knA,knM m0]) (fun x=>m.length - x.1) ((0,((tablesM l).getD 0 default))) ?_ ?_ ?_);exact (⟨Nat.zero_le _,hst0⟩);(simp [Sub,get,keepL]<;>fail);(try simp only [List.cons_append,List.nil_append]);refine pl_ ?_;intro ⟨k,u⟩ ⟨hk,hli⟩;(try simp only [List.cons_append,List.nil_append]);(try simp only at hk hli);have hlb:=hli.bnd (by omega))
  | refine g_ ?_
  | ((with_reducible refine And.intro ?_ ?_);(exact sv_tableLater_dc))
  | (refine DW.cond (by rfl) ?_ ?_<;>(first | exact i0_ | (refine ic_ ?_;intro hb)))
  | ((with_reducible first | refine FVg_cases ?_ ?_ | refine FDg_cases ?_ ?_)<;>(intro hb;rw [hb];revert hb;(first | exact i0_ | (refine i_ ?_;intro hb))))
  | refine r_ ?_
  | refine d_ ?_
  | refine k_ ?_
  | ((refine dm_ ?_);(first | ((first | refine v_ (known12_dc _ _ _ _) ?_ (ha:=by exact sv_tableLater_dc) | refine v_ (story12_dc _ _) ?_ (ha:=by exact sv_tableLater_dc) | refine v_ (filter_dc _ _) ?_ (ha:=by exact sv_tableLater_dc) | refine v_ (topic_dc _ _) ?_ (ha:=by exact sv_tableLater_dc) | refine v_ (addT_dc _ _ _ _ _) ?_ (ha:=by exact sv_tableLater_dc) | refine v_ (dropT_dc _ _ _ _ _) ?_ (ha:=by exact sv_tableLater_dc) | refine v_ (putT_dc _ _ _ _ _ _ _ _ _ _ _) ?_ (ha:=by exact sv_tableLater_dc) | refine v_ (sameS_dc _ _ _) ?_ (ha:=by exact sv_tableLater_dc))) | (refine v_ (mergeAB_dc _ _ _ _) ?_ (ha:=by exact sv_tableLater_dc)) | (refine v_ (mergeBA_dc _ _ _ _) ?_ (ha:=by exact sv_tableLater_dc))))
  | refine vo_ ?_
  | ((first | ((with_reducible apply DW.drawJ (id:=15) 6 [0,1,4,5,6,7,8,10,18,27,35,54,66] [7,8,9] [0] [7] (hm:=by kernel_rfl) (hd:=by kernel_rfl) (hB:=by kernel_rfl) (hN:=by kernel_rfl));(focus (exact rfl));(repeat (with_reducible first | refine OnB.here ?_ | refine OnB.mid ?_ | refine OnB.next ?_))) | ((with_reducible apply DW.drawJ (id:=17) 6 [0,1,4,5,6,7,8,10,18,27,35,54,66] [7,8,9] [0] [7] (hm:=by kernel_rfl) (hd:=by kernel_rfl) (hB:=by kernel_rfl) (hN:=by kernel_rfl));(focus (exact rfl));(repeat (with_reducible first | refine OnB.here ?_ | refine OnB.mid ?_ | refine OnB.next ?_))) | ((with_reducible apply DW.drawJ (id:=12) 6 [0,1,4,5,6,7,8,10,18,27,35,54,66] [10,17,18] [0] [10] (hm:=by kernel_rfl) (hd:=by kernel_rfl) (hB:=by kernel_rfl) (hN:=by kernel_rfl));(focus (exact rfl));(repeat (with_reducible first | refine OnB.here ?_ | refine OnB.mid ?_ | refine OnB.next ?_))) | (refine DVJ.k_ rfl rfl rfl ?_) | (refine DVJ.f_ rfl rfl rfl ?_))<;>(simp (maxSteps:=1000000) (disch:=omega) only [push_cast,↓reduceIte,reduceCtorEq,Nat.reduceAdd,Nat.reduceMul,Nat.reduceLT,Nat.reduceLeDiff,Nat.reduceEqDiff,Nat.reduceSub,Int.reduceToNat,Int.reduceLT,Int.reduceLE,Int.reduceAdd,Int.reduceSub,Int.reduceMul,Int.reduceNeg,Nat.reduceBEq,Int.reduceBEq,Int.reduceBNe,Nat.reduceBNe,Int.reduceEq,encTable,encDeed,klS,klV]))
  | ((first | refine q_ (known12_dc _ _ _ _) ?_ (ha:=by exact sv_tableLater_dc) | refine q_ (story12_dc _ _) ?_ (ha:=by exact sv_tableLater_dc) | refine q_ (filter_dc _ _) ?_ (ha:=by exact sv_tableLater_dc) | refine q_ (topic_dc _ _) ?_ (ha:=by exact sv_tableLater_dc) | refine q_ (addT_dc _ _ _ _ _) ?_ (ha:=by exact sv_tableLater_dc) | refine q_ (dropT_dc _ _ _ _ _) ?_ (ha:=by exact sv_tableLater_dc) | refine q_ (putT_dc _ _ _ _ _ _ _ _ _ _ _) ?_ (ha:=by exact sv_tableLater_dc) | refine q_ (sameS_dc _ _ _) ?_ (ha:=by exact sv_tableLater_dc)))
  | (refine p_ (few12_dc _ _) ?_ (ha:=by exact sv_tableLater_dc);rintro d H1 (⟨rfl,⟨hn20,hx30⟩,rfl⟩ | ⟨rfl,rfl⟩)<;>refine s_ ?_)
  | (refine q_ (mergeAB_dc _ _ _ _) ?_ (ha:=by exact sv_tableLater_dc))
  | (refine q_ (mergeBA_dc _ _ _ _) ?_ (ha:=by exact sv_tableLater_dc))
  | refine o_ ?_
  | refine f_ ?_
  | (first | refine DVJ.ma_ rfl rfl rfl ?_ | refine DVJ.mb_ rfl rfl rfl ?_)
  | refine vm_ ?_
  | ((fail_if_success (have zz:=b5));with_reducible intro b5)
  | ((fail_if_success (have zz:=b6));with_reducible intro b6)
  | with_reducible intro b)
 all_goals first
 | ((first | exact fin_ | refine finq_ ?_);done)
 | (exfalso;omega)
 | (refine ⟨(k+1,_),⟨by (try simp only);omega,hli.add (x:=filterM (m.getD k default).k) (flen12 (hmd _).2.2.1)⟩,by (try simp only);omega,by simp [Sub,get],?_⟩;((try dsimp only);(exact sub_));done)
 | (refine ⟨(k+1,_),⟨by (try simp only);omega,hli.drop (filterM (m.getD k default).k)⟩,by (try simp only);omega,by simp [Sub,get],?_⟩;((try dsimp only);(exact sub_));done)
 | (refine ⟨(k+1,_),⟨by (try simp only);omega,hli.put ⟨500+k,0,8⟩ (m1:=topicM (m.getD k default).k) (m2:=(m.getD k default).x) 0 (tlen12 (hmd _).2.2.1) (Nat.le_trans (hmx _) (by decide))⟩,by (try simp only);omega,by simp [Sub,get],?_⟩;((try dsimp only);(exact sub_));done)
 | (trace_state;fail)
end
end
end Go.Proofs.YtifdpbghkccaoaaGreatDoor
