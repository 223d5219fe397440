/- Which routes are left of two tables: one half. -/
import Derived.Test.YtifdpbghkccaoaaGreatDoorPv2x
import Derived.KernelRfl
namespace Go.Proofs.YtifdpbghkccaoaaGreatDoor
open Go.RowKit
set_option linter.unusedSimpArgs false
set_option linter.unusedVariables false
set_option linter.unusedSectionVars false
set_option maxHeartbeats 4000000
set_option maxRecDepth 100000
section
abbrev LMap:=List ((Int×Int×Str)×TRoute)
def byLine (ro:List TRoute) (k:Nat):LMap:=(ro.take k).foldl (fun L r=>updA (r.dot.node,r.dot.epoch,r.filter) r L) []
theorem byLine_0 (ro:List TRoute):byLine ro 0=[]:=rfl
theorem byLine_s {ro:List TRoute} {k:Nat} (h:k<ro.length):byLine ro (k+1)=updA ((ro.getD k default).dot.node,(ro.getD k default).dot.epoch,(ro.getD k default).filter) (ro.getD k default) (byLine ro k):=foldl_more _ _ h
def leftS (b:TTable) (L:LMap) (r:TRoute):LMap:=match lookA (r.dot.node,r.dot.epoch,r.filter) (byLine b.routes b.routes.length) with
 | some g=>updA (r.dot.node,r.dot.epoch,r.filter) (if r.dot.n<g.dot.n then g else r) L
 | none=>if hasB b.seen r.dot=true then L else updA (r.dot.node,r.dot.epoch,r.filter) r L
def leftK (a b:TTable) (L:LMap) (k:Nat):LMap:=(a.routes.take k).foldl (leftS b) L
theorem leftK_0 (a b:TTable) (L:LMap):leftK a b L 0=L:=rfl
theorem leftK_s {a b:TTable} {L:LMap} {k:Nat} (h:k<a.routes.length):leftK a b L (k+1)=leftS b (leftK a b L k) (a.routes.getD k default):=foldl_more _ _ h
section
variable {a b:TTable} {L:LMap} {k:Nat} (h:k<a.routes.length)
include h
theorem leftK_1 {g:TRoute} (hl:lookA ((a.routes.getD k default).dot.node,(a.routes.getD k default).dot.epoch,(a.routes.getD k default).filter) (byLine b.routes b.routes.length)=some g) (hn:(a.routes.getD k default).dot.n<g.dot.n):leftK a b L (k+1)=updA ((a.routes.getD k default).dot.node,(a.routes.getD k default).dot.epoch,(a.routes.getD k default).filter) g (leftK a b L k):=by
 rw [leftK_s h,leftS,hl];simp only;rw [if_pos hn]
theorem leftK_2 {g:TRoute} (hl:lookA ((a.routes.getD k default).dot.node,(a.routes.getD k default).dot.epoch,(a.routes.getD k default).filter) (byLine b.routes b.routes.length)=some g) (hn:¬ (a.routes.getD k default).dot.n<g.dot.n):leftK a b L (k+1)=updA ((a.routes.getD k default).dot.node,(a.routes.getD k default).dot.epoch,(a.routes.getD k default).filter) (a.routes.getD k default) (leftK a b L k):=by
 rw [leftK_s h,leftS,hl];simp only;rw [if_neg hn]
theorem leftK_3 (hl:lookA ((a.routes.getD k default).dot.node,(a.routes.getD k default).dot.epoch,(a.routes.getD k default).filter) (byLine b.routes b.routes.length)=none) (hn:hasB b.seen (a.routes.getD k default).dot=true):leftK a b L (k+1)=leftK a b L k:=by
 rw [leftK_s h,leftS,hl];simp only;rw [if_pos hn]
theorem leftK_4 (hl:lookA ((a.routes.getD k default).dot.node,(a.routes.getD k default).dot.epoch,(a.routes.getD k default).filter) (byLine b.routes b.routes.length)=none) (hn:hasB b.seen (a.routes.getD k default).dot=false):leftK a b L (k+1)=updA ((a.routes.getD k default).dot.node,(a.routes.getD k default).dot.epoch,(a.routes.getD k default).filter) (a.routes.getD k default) (leftK a b L k):=by
 rw [leftK_s h,leftS,hl];simp only;rw [if_neg (by rw [hn];simp)]
end
theorem upd_lineR (a b:Int) (f:Str) (r1 r2 r3:Int) (r4:Str) (l:LMap):updV (.agg [.int .i64 a, .int .i64 b, .str f]) (.agg [.int .i64 r1, .int .i64 r2, .int .i64 r3, .str r4]) (entM encLine encRoute l)=entM encLine encRoute (updA (a,b,f) ⟨⟨r1,r2,r3⟩,r4⟩ l):=upd_line (ev:=encRoute) a b f ⟨⟨r1,r2,r3⟩,r4⟩ l
theorem some_map {α β:Type} (f:α->β) (x:α):(some x).map f=some (f x):=rfl
theorem none_map {α β:Type} (f:α->β):(none:Option α).map f=none:=rfl
theorem route_opt (o:Option TRoute):o=none\/∃ g,o=some g:=by cases o with
 | none=>exact .inl rfl
 | some g=>exact .inr ⟨g,rfl⟩
attribute [local irreducible] DW SeqD DV DOp DC DVX DVJ byLine leftK hasB
theorem s_left_dc {P Q:Prop} (q:Q) (h:Hid Q->P:=by (intro q;simp (maxSteps:=1000000) (disch:=omega) only [push_cast,↓reduceIte,reduceCtorEq,Nat.reduceAdd,Nat.reduceMul,Nat.reduceLT,Nat.reduceLeDiff,Nat.reduceEqDiff,Nat.reduceSub,Int.reduceToNat,Int.reduceLT,Int.reduceLE,Int.reduceAdd,Int.reduceSub,Int.reduceMul,Int.reduceNeg,Nat.reduceBEq,Int.reduceBEq,Int.reduceBNe,Nat.reduceBNe,Int.reduceEq,encRoute,route_eta,dot_eta,hlk,look_nil,upd_nil,look_str,upd_str,drop_str,opt_bool,opt_int,opt_some,entM_nil,entM_len,look_dot,upd_dot,look_line,upd_line,keyS_63,keyS0_63,zeroD_68,keyS_80,keyS0_80,zeroD_4,keyS_81,keyS0_81,keyS_113,keyS0_113,zeroD_76,upd_lineR,some_map,none_map,Option.getD_some,Option.getD_none,Option.isSome_some,Option.isSome_none];exact q.1)):P:=h ⟨q⟩
section
attribute [local push_cast 2000] encRoute route_eta dot_eta look_nil upd_nil look_str upd_str drop_str opt_bool opt_int opt_some entM_nil entM_len look_dot upd_dot look_line upd_line keyS_63 keyS0_63 zeroD_68 keyS_80 keyS0_80 zeroD_4 keyS_81 keyS0_81 keyS_113 keyS0_113 zeroD_76 upd_lineR some_map none_map Option.getD_some Option.getD_none Option.isSome_some Option.isSome_none
theorem left_dc (p q:TTable) (mr:Nat) (L:LMap) (F:Own):(p.routes.length<=100000000/\q.routes.length<=100000000/\q.seen.length<=100000000)->DC Tryz.prog 31 [.agg [.sl (p.seen.map encDot), .sl (p.fences.map encFence), .sl (p.routes.map encRoute), .sl (p.cells.map encCell)], .agg [.sl (q.seen.map encDot), .sl (q.fences.map encFence), .sl (q.routes.map encRoute), .sl (q.cells.map encCell)], .raw (.map (some mr))] ([.map mr (entM encLine encRoute L)]++F) fun d G=>d = .tup []/\G = .map mr (entM encLine encRoute (leftK p q L p.routes.length))::F:=by
 intro hA
 obtain ⟨hla,hlb,hls⟩:=hA
 refine DC.bodyS (n_:=70) (show Tryz.prog.funcs[31]? = some Tryz.f31 by kernel_rfl) rfl rfl (by rfl) ?_
 simp only [env0,byLine_0,leftK_0,entM_nil,List.cons_append,List.nil_append]
 have kw:=ksIs [0,1,2,3,4,6,8,10,11,12,15,16,17,18,27,28,29,30,40,55]
 have ow:=ownIs []
 have dw5:=drIs 5 [4] [1,2,3]
 have dw12:=drIs 12 [4] [1,2,3]
 have dw14:=drIs 14 [4] [1,2,3]
 have hlk:True:=trivial
 repeat' (first
  | ((with_reducible apply DW.frzB 5 8);(focus (exact rfl));(repeat (with_reducible first | refine Out.here ?_ | refine Out.next ?_));simp only [put_cons,put_nil,Nat.reduceEqDiff,↓reduceIte,if_true,if_false,reduceCtorEq])
  | ((with_reducible apply DW.frzB 10 10);(focus (exact rfl));(repeat (with_reducible first | refine Out.here ?_ | refine Out.next ?_));simp only [put_cons,put_nil,Nat.reduceEqDiff,↓reduceIte,if_true,if_false,reduceCtorEq])
  | ((with_reducible apply DW.frzB 11 11);(focus (exact rfl));(repeat (with_reducible first | refine Out.here ?_ | refine Out.next ?_));simp only [put_cons,put_nil,Nat.reduceEqDiff,↓reduceIte,if_true,if_false,reduceCtorEq])
  | ((with_reducible refine DW.loopB 0 (X:=Nat) (fun x=>x<=q.routes.length) (fun x=>[(2, .raw (.map (some mr))),(3, .sp [.sl (p.seen.map encDot), .sl (p.fences.map encFence), .sl (p.routes.map encRoute), .sl (p.cells.map encCell)]),(4, .sp [.sl (q.seen.map encDot), .sl (q.fences.map encFence), .sl (q.routes.map encRoute), .sl (q.cells.map encCell)]),(6, .raw (.map (some b1))),(15, .sl (q.routes.map encRoute)),(16, .int .i64 q.routes.length),(17, .int .i64 x)]) (fun x=>[.map b1 (entM encLine encRoute (byLine q.routes x)), .map mr (entM encLine encRoute L)]) (fun x=>q.routes.length - x) (0) ?_ ?_ ?_);exact (Nat.zero_le _);(simp [Sub,get,keepL]<;>fail);(try simp only [byLine_0,leftK_0,entM_nil,List.cons_append,List.nil_append]);refine pl_ ?_;intro k hk;(try simp only [byLine_0,leftK_0,entM_nil,List.cons_append,List.nil_append]))
  | ((have hkl:k=q.routes.length:=by omega);subst hkl;((with_reducible refine DW.loopB 2 (X:=Nat) (fun x=>x<=p.routes.length) (fun x=>[(2, .raw (.map (some mr))),(4, .sp [.sl (q.seen.map encDot), .sl (q.fences.map encFence), .sl (q.routes.map encRoute), .sl (q.cells.map encCell)]),(6, .raw (.map (some b1))),(27, .sl (p.routes.map encRoute)),(28, .int .i64 p.routes.length),(29, .int .i64 x)]) (fun x=>[.map b1 (entM encLine encRoute (byLine q.routes q.routes.length)), .map mr (entM encLine encRoute (leftK p q L x))]) (fun x=>p.routes.length - x) (0) ?_ ?_ ?_);exact (Nat.zero_le _);(simp [Sub,get,keepL]<;>fail);(try simp only [byLine_0,leftK_0,entM_nil,List.cons_append,List.nil_append]);refine pl_ ?_;intro k2 hk2;(try simp only [byLine_0,leftK_0,entM_nil,List.cons_append,List.nil_append]);rcases route_opt (lookA ((p.routes.getD k2 default).dot.node,(p.routes.getD k2 default).dot.epoch,(p.routes.getD k2 default).filter) (byLine q.routes q.routes.length)) with hlk | ⟨g,hlk⟩))
  | refine g_ ?_
  | ((with_reducible refine And.intro ?_ ?_);(exact sv))
  | (refine DW.cond (by rfl) ?_ ?_<;>(first | exact i0_ | (intro hb;(try simp only [↓reduceCtorEq,not_true_eq_false,not_false_eq_true,hbs,Int.reduceBEq,Int.reduceBNe,Int.reduceEq] at hb);(try refine s_left_dc ?_))))
  | ((with_reducible first | refine FVg_cases ?_ ?_ | refine FDg_cases ?_ ?_)<;>(intro hb;rw [hb];revert hb;(first | exact i0_ | (intro hb;(try simp only [↓reduceCtorEq,not_true_eq_false,not_false_eq_true,hbs,Int.reduceBEq,Int.reduceBNe,Int.reduceEq] at hb);(try refine s_left_dc ?_)))))
  | ((first | refine rn_ ?_ | refine dn_ ?_ | refine kn_ ?_)<;>(refine s_left_dc ?_))
  | ((refine dm_ ?_);(first | ((first | refine v_ (line_dc _ _ _ _ _) ?_ (hk:=fun q=>q.1) | refine v_ (phas_dc _ _ _ _ _) ?_ (hk:=fun q=>q.1));refine s_left_dc ?_) | (refine DVop.look_ rfl rfl rfl rfl ?_;(repeat (with_reducible first | refine OnM.here ?_ | refine OnM.next ?_));refine s_left_dc ?_)))
  | ((refine von_ ?_);refine s_left_dc ?_)
  | ((first | (refine DOp.look_ rfl rfl ?_;(repeat (with_reducible first | refine OnM.here ?_ | refine OnM.next ?_))) | (refine DOp.upd_ rfl rfl ?_;(repeat (with_reducible first | refine OnM.here ?_ | refine OnM.next ?_))) | (refine DOp.lenm_ rfl rfl ?_;(repeat (with_reducible first | refine OnM.here ?_ | refine OnM.next ?_))))<;>(refine s_left_dc ?_))
  | ((first | refine q_ (line_dc _ _ _ _ _) ?_ (hk:=fun q=>q.1) | refine q_ (phas_dc _ _ _ _ _) ?_ (hk:=fun q=>q.1));refine s_left_dc ?_)
  | ((refine on_ ?_);refine s_left_dc ?_)
  | refine f_ ?_
  | refine vm_ ?_
  | ((fail_if_success (have zz:=b1));with_reducible intro b1)
  | with_reducible intro b)
 all_goals first
 | ((have hkl2:k2=p.routes.length:=by omega)
    subst hkl2
    (first | exact fin_ | refine finq_ ?_);done)
 | (refine ⟨k+1,by omega,by omega,by simp [Sub,get],?_⟩;(rw [byLine_s (by omega)]);(exact sub_);done)
 | ((have e:=leftK_1 (L:=L) (show k2<p.routes.length by omega) hlk (by first | assumption | omega))
    refine ⟨k2+1,by omega,by omega,by simp [Sub,get],?_⟩;(rw [e]);(exact sub_);done)
 | ((have e:=leftK_2 (L:=L) (show k2<p.routes.length by omega) hlk (by first | assumption | omega))
    refine ⟨k2+1,by omega,by omega,by simp [Sub,get],?_⟩;(rw [e]);(exact sub_);done)
 | ((have e:=leftK_3 (L:=L) (show k2<p.routes.length by omega) hlk (by first | assumption | omega))
    refine ⟨k2+1,by omega,by omega,by simp [Sub,get],?_⟩;(rw [e]);(exact sub_);done)
 | ((have e:=leftK_4 (L:=L) (show k2<p.routes.length by omega) hlk (by first | assumption | omega))
    refine ⟨k2+1,by omega,by omega,by simp [Sub,get],?_⟩;(rw [e]);(exact sub_);done)
 | (trace_state;fail)
end
end
end Go.Proofs.YtifdpbghkccaoaaGreatDoor
