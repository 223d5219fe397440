/- What comes of two tables has seen what both have, has the fences of both, and is right. -/
import Derived.Test.YtifdpbghkccaoaaGreatDoorMwx
import Derived.Test.YtifdpbghkccaoaaGreatDoorMjx
import Derived.KernelRfl
namespace Go.Proofs.YtifdpbghkccaoaaGreatDoor
open Go.RowKit
set_option linter.unusedSimpArgs false
set_option linter.unusedVariables false
set_option linter.unusedSectionVars false
set_option maxHeartbeats 4000000
set_option maxRecDepth 100000
section
def encP2 (p:TTable×TTable):V:=.agg [.sl (p.1.seen.map encDot), .sl (p.1.fences.map encFence), .sl (p.1.routes.map encRoute), .sl (p.1.cells.map encCell), .sl (p.2.seen.map encDot), .sl (p.2.fences.map encFence), .sl (p.2.routes.map encRoute), .sl (p.2.cells.map encCell)]
def pairs3 (l m:List TDeed):List (TTable×TTable):=[(((tablesM l).getD 0 default),((tablesM l).getD 1 default)),(((tablesM l).getD 2 default),((tablesM l).getD 0 default)),(((tablesM m).getD 1 default),((tablesM m).getD 0 default))]
theorem pairs3_len (l m:List TDeed):(pairs3 l m).length=3:=rfl
theorem pairs3_map (l m:List TDeed):(pairs3 l m).map encP2=[.agg [.sl (((tablesM l).getD 0 default).seen.map encDot), .sl (((tablesM l).getD 0 default).fences.map encFence), .sl (((tablesM l).getD 0 default).routes.map encRoute), .sl (((tablesM l).getD 0 default).cells.map encCell), .sl (((tablesM l).getD 1 default).seen.map encDot), .sl (((tablesM l).getD 1 default).fences.map encFence), .sl (((tablesM l).getD 1 default).routes.map encRoute), .sl (((tablesM l).getD 1 default).cells.map encCell)], .agg [.sl (((tablesM l).getD 2 default).seen.map encDot), .sl (((tablesM l).getD 2 default).fences.map encFence), .sl (((tablesM l).getD 2 default).routes.map encRoute), .sl (((tablesM l).getD 2 default).cells.map encCell), .sl (((tablesM l).getD 0 default).seen.map encDot), .sl (((tablesM l).getD 0 default).fences.map encFence), .sl (((tablesM l).getD 0 default).routes.map encRoute), .sl (((tablesM l).getD 0 default).cells.map encCell)], .agg [.sl (((tablesM m).getD 1 default).seen.map encDot), .sl (((tablesM m).getD 1 default).fences.map encFence), .sl (((tablesM m).getD 1 default).routes.map encRoute), .sl (((tablesM m).getD 1 default).cells.map encCell), .sl (((tablesM m).getD 0 default).seen.map encDot), .sl (((tablesM m).getD 0 default).fences.map encFence), .sl (((tablesM m).getD 0 default).routes.map encRoute), .sl (((tablesM m).getD 0 default).cells.map encCell)]]:=rfl
theorem pairs3_at {l m:List TDeed} (hl:l.length<=20) (h:∀ d∈l,deedOk d) (hm:m.length<=20) (h':∀ d∈m,deedOk d) {k:Nat} (hk:k<3):∃ G,Hist G/\SM G ((pairs3 l m).getD k default).1/\SM G ((pairs3 l m).getD k default).2:=by
 obtain ⟨G,hG,hs⟩:=sm_story hl h
 obtain ⟨K,hK,ht⟩:=sm_story hm h'
 match k,hk with
 | 0,_=>exact ⟨G,hG,hs 0 (by decide),hs 1 (by decide)⟩
 | 1,_=>exact ⟨G,hG,hs 2 (by decide),hs 0 (by decide)⟩
 | 2,_=>exact ⟨K,hK,ht 1 (by decide),ht 0 (by decide)⟩
section
variable {G:List TG} (hG:Hist G) {p q:TTable} (hp:SM G p) (hq:SM G q)
include hG hp hq
theorem m_seen:(mergeM p q).seen=joinM p.seen q.seen:=by
 rw [(mergeM_is hG hp.can hq.can).1];exact (mergeFe_facts q.fences (merge0 p q)).1
theorem m_lens:(mergeM p q).routes.length<=p.routes.length+q.routes.length/\(mergeM p q).cells.length<=p.cells.length+q.cells.length:=by
 rw [(mergeM_is hG hp.can hq.can).1]
 obtain ⟨_,h2,_,h4⟩:=mergeFe_facts q.fences (merge0 p q)
 have r1:=stays_len p.routes q.seen q.routes
 have r2:=stays_len q.routes p.seen p.routes
 have c1:=keeps_len p.cells q.seen q.cells
 have c2:=keeps_len q.cells p.seen p.cells
 have f1:=(mergeRo_facts (staysM q.routes p.seen p.routes) (staysM p.routes q.seen q.routes)).1
 have g1:=(mergeCe_facts (keepsM q.cells p.seen p.cells) (keepsM p.cells q.seen q.cells)).1
 have l4:(mergeFe (merge0 p q) q.fences).routes.length<=(mergeRo (staysM p.routes q.seen q.routes) (staysM q.routes p.seen p.routes)).length:=h4.length_le
 constructor
 · have:(merge2 p q).routes.length<=(mergeFe (merge0 p q) q.fences).routes.length:=List.length_filter_le _ _
   omega
 · have:(merge2 p q).cells=mergeCe (keepsM p.cells q.seen q.cells) (keepsM q.cells p.seen p.cells):=h2
   rw [this];omega
theorem m_fences:(∀ j,j<p.fences.length->fencedL (mergeM p q).fences (p.fences.getD j default).node (p.fences.getD j default).epoch=true)/\∀ j,j<q.fences.length->fencedL (mergeM p q).fences (q.fences.getD j default).node (q.fences.getD j default).epoch=true:=by
 constructor
 · intro j hj
   rw [m_fen hG hp hq,fenced_iff.2 ⟨_,getD_mem hj,rfl,Int.le_refl _⟩,Bool.true_or]
 · intro j hj
   rw [m_fen hG hp hq,fenced_iff.2 ⟨_,getD_mem hj,rfl,Int.le_refl _⟩,Bool.or_true]
end
theorem rfencedS_dc (t:TTable) (n e:Int) (F:Own):(fencedL t.fences n e=true/\Lite 3072 t)->DC Tryz.prog 15 [.agg [.sl (t.seen.map encDot), .sl (t.fences.map encFence), .sl (t.routes.map encRoute), .sl (t.cells.map encCell)], .int .i64 n, .int .i64 e] (([]:Own)++F) fun d G=>d = .bool true/\G=[]++F:=fun h=>by
 have:=rfenced9_dc t.seen t.fences t.routes t.cells n e F (Nat.le_trans h.2.f (by decide))
 rw [h.1] at this;exact this
attribute [local irreducible] DW SeqD DV DOp DC DVX DVJ DVM mergeM tablesM fencedL joinM
section
attribute [local push_cast 2000] encDot
theorem hdotsS_dc (l:List TDot) (F:Own):(l.length<=1000000000)->DC Tryz.prog 13 [.sl (l.map encDot), .sl (l.map encDot)] (([]:Own)++F) fun d G=>d = .bool true/\G=[]++F:=by
 intro hA
 have hl:=hA
 refine DC.bodyS (n_:=26) (show Tryz.prog.funcs[13]? = some Tryz.f13 by kernel_rfl) rfl rfl (by rfl) ?_
 simp only [env0,List.cons_append,List.nil_append]
 have kw:=ksIs [0,1,4,5,10,14,25]
 have ow:=ownIs []
 have dw6:=drIs 6 [] [3,7]
 repeat' (first
  | ((with_reducible refine DW.loopB 0 (X:=Nat) (fun x=>x<=l.length) (fun x=>[(0, .sl (l.map encDot)),(1, .sl (l.map encDot)),(5, .int .i64 x)]) (fun x=>([]:Own)) (fun x=>l.length - x) (0) ?_ ?_ ?_);exact (Nat.zero_le _);(simp [Sub,get,keepL]<;>fail);(try simp only [List.cons_append,List.nil_append]);refine pl_ ?_;intro k hk;(try simp only [List.cons_append,List.nil_append]))
  | refine g_ ?_
  | ((with_reducible refine And.intro ?_ ?_);(exact sv))
  | (refine DW.cond (by rfl) ?_ ?_<;>(first | exact i0_ | (refine ic_ ?_;intro hb)))
  | ((with_reducible first | refine FVg_cases ?_ ?_ | refine FDg_cases ?_ ?_)<;>(intro hb;rw [hb];revert hb;(first | exact i0_ | (refine i_ ?_;intro hb))))
  | refine r_ ?_
  | refine d_ ?_
  | refine k_ ?_
  | refine vo_ ?_
  | refine o_ ?_
  | refine f_ ?_
  | refine vm_ ?_
  | with_reducible intro b)
 all_goals first
 | (exfalso;omega)
 | (refine ⟨k+1,?_,?_,?_,?_⟩;(((try simp only);omega));(((try simp only);omega));(simp [Sub,get]<;>(fail));(try dsimp only);(exact sub_);done)
 | ((first | exact fin_ | refine finq_ ?_);done)
 | (exfalso;simp_all;done)
 | (trace_state;fail)
end
theorem hdotsE_dc (a b:List TDot) (F:Own):(a=b/\b.length<=1000000000)->DC Tryz.prog 13 [.sl (a.map encDot), .sl (b.map encDot)] (([]:Own)++F) fun d G=>d = .bool true/\G=[]++F:=fun h=>by
 obtain ⟨rfl,h⟩:=h
 exact hdotsS_dc a F h
attribute [local irreducible] pairs3
theorem sv_tableSeen_dc {p:Prop} (h:p:=by first | exact sv | exact ⟨hl20,hdo⟩ | exact ⟨hm20,hmo⟩ | exact ⟨hG,sp,sq⟩ | exact ⟨spq.lite,spq.can.tr⟩ | exact ⟨Nat.le_trans sp.lite.s (by decide),Nat.le_trans sq.lite.s (by decide)⟩ | exact ⟨hse,Nat.le_trans (hse▸spq.lite.s) (by decide)⟩ | exact ⟨hfs.1 _ (by omega),spq.lite⟩ | exact ⟨hfs.2 _ (by omega),spq.lite⟩ | fail):p:=h
section
attribute [local push_cast 2000] encTable encP2 encFence
theorem tableSeen_dc (l m:List TDeed) (T5:TypeId) (fr:Nat×Nat) (m0:Int) (F:Own):((∀ d∈l,deedR d)/\(∀ d∈m,deedR d))->DC Tryz.prog 4 [.sl (l.map encDeed), .sl (m.map encDeed)] ([loose,knP T5 fr,knF,knA,knM m0]++F) fun d G=>d = .bool true/\G=[loose,knP T5 fr,knF,knA,knM m0]++F:=by
 intro hA
 obtain ⟨hl,hm⟩:=hA
 refine DC.bodyS (n_:=131) (show Tryz.prog.funcs[4]? = some Tryz.f4 by kernel_rfl) rfl rfl (by rfl) ?_
 simp only [env0,List.cons_append,List.nil_append]
 have kw:=ksIs [0,1,4,5,6,8,9,10,11,12,14,22,48,49,50,51,74,76,85,101,129]
 have ow:=ownIs []
 have dw6:=drIs 6 [] [2,5,9,12,16,19]
 have dw10:=drIs 10 [] [0,1,5,8,11,12,13]
 repeat' (first
  | ((fail_if_success (have zz:=hl20));(have hl20:l.length<=20:=hn20);(have hlx:∀ k,(l.getD k default).x.length<=30:=hx30);(have hdo:=deeds12 hl hlx);(have htn:=st_len hdo))
  | ((fail_if_success (have zz:=hm20));(have hm20:m.length<=20:=hn20);(have hmx:∀ k,(m.getD k default).x.length<=30:=hx30);(have hmo:=deeds12 hm hmx);(have htm:=st_len hmo))
  | ((with_reducible apply DW.frzB 9 8);(focus (exact rfl));(repeat (with_reducible first | refine Out.here ?_ | refine Out.next ?_));simp only [put_cons,put_nil,Nat.reduceEqDiff,↓reduceIte,if_true,if_false,reduceCtorEq])
  | ((with_reducible apply DW.frzB 10 9);(focus (exact rfl));(repeat (with_reducible first | refine Out.here ?_ | refine Out.next ?_));simp only [put_cons,put_nil,Nat.reduceEqDiff,↓reduceIte,if_true,if_false,reduceCtorEq])
  | ((with_reducible refine DW.loopB 0 (X:=Nat) (fun x=>x<=3) (fun x=>[(48, .sl ((pairs3 l m).map encP2)),(49, .int .i64 3),(50, .int .i64 x)]) (fun x=>[loose,knP T5 fr,knF,knA,knM m0]) (fun x=>3 - x) (0) ?_ ?_ ?_);exact (Nat.zero_le _);(simp [Sub,get,keepL,pairs3_map]<;>fail);(try simp only [List.cons_append,List.nil_append]);refine pl_ ?_;intro k hk;(try simp only [List.cons_append,List.nil_append]);(try simp only at hk);have hpl:=pairs3_len l m;by_cases hk3:k<3;(obtain ⟨G,hG,sp,sq⟩:=pairs3_at hl20 hdo hm20 hmo hk3;have spq:=sp.merge hG sq;have hse:=m_seen hG sp sq;have hln:=m_lens hG sp sq;have hfs:=m_fences hG sp sq;have hb1:=sp.lite.f;have hb2:=sq.lite.f;have hb3:=sp.lite.r;have hb4:=sq.lite.r;have hb5:=sp.lite.c;have hb6:=sq.lite.c;skip))
  | ((with_reducible refine DW.loopB 2 (X:=Int) (fun x=>x=0\/x=1\/x=2) (fun x=>[(8, .sp [.sl (((pairs3 l m).getD k default).1.seen.map encDot), .sl (((pairs3 l m).getD k default).1.fences.map encFence), .sl (((pairs3 l m).getD k default).1.routes.map encRoute), .sl (((pairs3 l m).getD k default).1.cells.map encCell), .sl (((pairs3 l m).getD k default).2.seen.map encDot), .sl (((pairs3 l m).getD k default).2.fences.map encFence), .sl (((pairs3 l m).getD k default).2.routes.map encRoute), .sl (((pairs3 l m).getD k default).2.cells.map encCell)]),(9, .sp [.sl ((mergeM ((pairs3 l m).getD k default).1 ((pairs3 l m).getD k default).2).seen.map encDot), .sl ((mergeM ((pairs3 l m).getD k default).1 ((pairs3 l m).getD k default).2).fences.map encFence), .sl ((mergeM ((pairs3 l m).getD k default).1 ((pairs3 l m).getD k default).2).routes.map encRoute), .sl ((mergeM ((pairs3 l m).getD k default).1 ((pairs3 l m).getD k default).2).cells.map encCell)]),(10, .int .i64 x),(48, .sl ((pairs3 l m).map encP2)),(49, .int .i64 3),(50, .int .i64 k)]) (fun x=>[loose,knP T5 fr,knF,knA,knM m0]) (fun x=>(2 - x).toNat) (0) ?_ ?_ ?_);exact (.inl rfl);(simp [Sub,get,keepL]<;>fail);(try simp only [List.cons_append,List.nil_append]);refine pl_ ?_;intro i hi;(try simp only [List.cons_append,List.nil_append]);try simp only at hi)
  | ((with_reducible refine DW.loopB 4 (X:=Nat) (fun x=>x<=4000) (fun x=>[(8, .sp [.sl (((pairs3 l m).getD k default).1.seen.map encDot), .sl (((pairs3 l m).getD k default).1.fences.map encFence), .sl (((pairs3 l m).getD k default).1.routes.map encRoute), .sl (((pairs3 l m).getD k default).1.cells.map encCell), .sl (((pairs3 l m).getD k default).2.seen.map encDot), .sl (((pairs3 l m).getD k default).2.fences.map encFence), .sl (((pairs3 l m).getD k default).2.routes.map encRoute), .sl (((pairs3 l m).getD k default).2.cells.map encCell)]),(9, .sp [.sl ((mergeM ((pairs3 l m).getD k default).1 ((pairs3 l m).getD k default).2).seen.map encDot), .sl ((mergeM ((pairs3 l m).getD k default).1 ((pairs3 l m).getD k default).2).fences.map encFence), .sl ((mergeM ((pairs3 l m).getD k default).1 ((pairs3 l m).getD k default).2).routes.map encRoute), .sl ((mergeM ((pairs3 l m).getD k default).1 ((pairs3 l m).getD k default).2).cells.map encCell)]),(10, .int .i64 i),(11, .int .i64 x),(48, .sl ((pairs3 l m).map encP2)),(49, .int .i64 3),(50, .int .i64 k)]) (fun x=>[loose,knP T5 fr,knF,knA,knM m0]) (fun x=>4000 - x) (0) ?_ ?_ ?_);exact (Nat.zero_le _);(simp [Sub,get,keepL]<;>fail);(try simp only [List.cons_append,List.nil_append]);refine pl_ ?_;intro j hj;(try simp only [List.cons_append,List.nil_append]);(try simp only at hj);rcases (show i=0\/i=1 by omega) with rfl | rfl)
  | refine g_ ?_
  | ((with_reducible refine And.intro ?_ ?_);(exact sv_tableSeen_dc))
  | (refine DW.cond (by rfl) ?_ ?_<;>(first | exact i0_ | (refine ic_ ?_;intro hb)))
  | ((with_reducible first | refine FVg_cases ?_ ?_ | refine FDg_cases ?_ ?_)<;>(intro hb;rw [hb];revert hb;(first | exact i0_ | (refine i_ ?_;intro hb))))
  | refine r_ ?_
  | refine d_ ?_
  | refine k_ ?_
  | ((refine dm_ ?_);(first | ((first | refine v_ (known12_dc _ _ _ _) ?_ (ha:=by exact sv_tableSeen_dc) | refine v_ (story12_dc _ _) ?_ (ha:=by exact sv_tableSeen_dc) | refine v_ (mergeS_dc _ _ _ _ _) ?_ (ha:=by exact sv_tableSeen_dc) | refine v_ (rightS_dc _ _ _) ?_ (ha:=by exact sv_tableSeen_dc) | refine v_ (rjoin_dc _ _ _) ?_ (ha:=by exact sv_tableSeen_dc) | refine v_ (hdotsE_dc _ _ _) ?_ (ha:=by exact sv_tableSeen_dc) | refine v_ (rfencedS_dc _ _ _ _) ?_ (ha:=by exact sv_tableSeen_dc)))))
  | refine vo_ ?_
  | ((first | refine q_ (known12_dc _ _ _ _) ?_ (ha:=by exact sv_tableSeen_dc) | refine q_ (story12_dc _ _) ?_ (ha:=by exact sv_tableSeen_dc) | refine q_ (mergeS_dc _ _ _ _ _) ?_ (ha:=by exact sv_tableSeen_dc) | refine q_ (rightS_dc _ _ _) ?_ (ha:=by exact sv_tableSeen_dc) | refine q_ (rjoin_dc _ _ _) ?_ (ha:=by exact sv_tableSeen_dc) | refine q_ (hdotsE_dc _ _ _) ?_ (ha:=by exact sv_tableSeen_dc) | refine q_ (rfencedS_dc _ _ _ _) ?_ (ha:=by exact sv_tableSeen_dc)))
  | (refine p_ (few12_dc _ _) ?_ (ha:=by exact sv_tableSeen_dc);rintro d H1 (⟨rfl,⟨hn20,hx30⟩,rfl⟩ | ⟨rfl,rfl⟩)<;>refine s_ ?_)
  | refine o_ ?_
  | refine f_ ?_
  | refine vm_ ?_
  | with_reducible intro b)
 all_goals first
 | ((first | exact fin_ | refine finq_ ?_);done)
 | (exfalso;omega)
 | (refine ⟨j+1,?_,?_,?_,?_⟩;(focus omega);(focus omega);(focus (simp [Sub,get]<;>fail));exact sub_;done)
 | (refine ⟨1, .inr (.inl rfl),by decide,by simp [Sub,get],?_⟩;(exact sub_);done)
 | (refine ⟨2, .inr (.inr rfl),by decide,by simp [Sub,get],?_⟩;(exact sub_);done)
 | (refine ⟨k+1,?_,?_,?_,?_⟩;(focus omega);(focus omega);(focus (simp [Sub,get]<;>fail));exact sub_;done)
 | (trace_state;fail)
end
end
end Go.Proofs.YtifdpbghkccaoaaGreatDoor
