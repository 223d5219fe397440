/- The trie: a branch, a trie that is made; what of a branch is kept. -/
import Derived.Test.YtgekknefphagbaaGreatDoorCzx
import Derived.KernelRfl
import Derived.Test.YtgekknefphagbaaGreatDoorFxx
namespace Go.Proofs.YtgekknefphagbaaGreatDoor
open Go.RowKit
set_option linter.unusedSimpArgs false
set_option linter.unusedVariables false
set_option linter.unusedSectionVars false
set_option maxHeartbeats 4000000
set_option maxRecDepth 100000
section
theorem znB:mapT Tryz.prog 89=some ([2],false):=by kernel_rfl
theorem zaX {β:Type} {ev:β->V} (a:Int) (l:List (_×β)):KeyS Tryz.prog 89 (.int .i64 a) (entM (V.int .i64) ev l)=True:=eq_true (zel (intE .i64) (a) l znB)
theorem zaB (a:Int):KeyS Tryz.prog 89 (.int .i64 a) []=True:=eq_true (ze9 (intE .i64) (a) znB)
theorem zaC:zfB Tryz.prog 96 = .raw (.pointer none):=by kernel_rfl
theorem zn3:mapT Tryz.prog 90=some ([3],false):=by kernel_rfl
theorem zaY {β:Type} {ev:β->V} (a:Str) (l:List (_×β)):KeyS Tryz.prog 90 (.str a) (entM V.str ev l)=True:=eq_true (zel strE (a) l zn3)
theorem zaE (a:Str):KeyS Tryz.prog 90 (.str a) []=True:=eq_true (ze9 strE (a) zn3)
theorem zaq:zfB Tryz.prog 100 = .raw (.pointer none):=by kernel_rfl
theorem zke:mapT Tryz.prog 145=some ([2],false):=by kernel_rfl
theorem za6 {β:Type} {ev:β->V} (a:Int) (l:List (_×β)):KeyS Tryz.prog 145 (.int .i64 a) (entM (V.int .i64) ev l)=True:=eq_true (zel (intE .i64) (a) l zke)
theorem zat (a:Int):KeyS Tryz.prog 145 (.int .i64 a) []=True:=eq_true (ze9 (intE .i64) (a) zke)
theorem zaZ:zfB Tryz.prog 4 = .bool false:=by kernel_rfl
theorem zkV:mapT Tryz.prog 172=some ([3],false):=by kernel_rfl
theorem za5 {β:Type} {ev:β->V} (a:Str) (l:List (_×β)):KeyS Tryz.prog 172 (.str a) (entM V.str ev l)=True:=eq_true (zel strE (a) l zkV)
theorem zas (a:Str):KeyS Tryz.prog 172 (.str a) []=True:=eq_true (ze9 strE (a) zkV)
theorem zba:zfB Tryz.prog 3 = .int .i64 0:=by kernel_rfl
theorem zkG:mapT Tryz.prog 229=some ([3],false):=by kernel_rfl
theorem zaD {β:Type} {ev:β->V} (a:Str) (l:List (_×β)):KeyS Tryz.prog 229 (.str a) (entM V.str ev l)=True:=eq_true (zel strE (a) l zkG)
theorem zar (a:Str):KeyS Tryz.prog 229 (.str a) []=True:=eq_true (ze9 strE (a) zkG)
theorem zap:zfB Tryz.prog 162 = .raw (.pointer none):=by kernel_rfl
abbrev VM:=List (V×V)
theorem zaH {α β:Type} (f:α->β) (x:α):(some x).map f=some (f x):=rfl
theorem zaF {α β:Type} (f:α->β):(none:Option α).map f=none:=rfl
theorem zaR (a:Str) (c:Nat) (l:List (Str×Nat)):updV (.str a) (.raw (.pointer (some ⟨c,0,none⟩))) (entM V.str pv l)=entM V.str pv (updA a c l):=zaL (ev:=pv) a c l
theorem zcO (a:Str) (c:Int) (l:List (Str×Int)):updV (.str a) (.int .i64 c) (entM V.str (V.int .i64) l)=entM V.str (V.int .i64) (updA a c l):=zaL (ev:=V.int .i64) a c l
theorem zoS (t:Nat) (y:Nd) (F:Own):ownT t ⟨y.b,[y],[]⟩++F = .blk t [.raw (.pointer (some ⟨y.b,0,none⟩)), .int .i64 0]::(y.own++F):=by
 show Ent.blk t _::(ownH [y]++F)=_
 rw [zie];rfl
attribute [local irreducible] DW SeqD DV DOp DC DVX Nd.own ownH ownT
section
attribute [local push_cast 2000] za9 zaW za8 zaL za3 zaG zaV za7 zax za2 zaX zaB zaC zaY zaE zaq za6 zat zaZ za5 zas zba zaD zar zap
theorem zii  (F:Own):(True)->DC Tryz.prog 80 [] (([]:Own)++F) fun d G=>∃ y:Nd,d = .raw (.pointer (some ⟨y.b,0,none⟩))/\(y.next=[]/\y.keys=[])/\G=y.own++F:=by
 intro hA
 refine DC.bodyS (n_:=5) (show Tryz.prog.funcs[80]? = some Tryz.f80 by kernel_rfl) rfl rfl (by rfl) ?_
 simp only [env0,List.cons_append,List.nil_append]
 have kw:=ksIs [0]
 have ow:=zaf [4]
 repeat' (first
  | refine g_ ?_
  | ((with_reducible refine And.intro ?_ ?_);(exact sv))
  | (refine DW.cond (by rfl) ?_ ?_<;>(first | exact i0_ | (refine ic_ ?_;intro hb)))
  | ((with_reducible refine zaa ?_ ?_)<;>(intro hb;rw [hb];revert hb;(first | exact i0_ | (refine i_ ?_;intro hb))))
  | refine r_ ?_
  | refine k_ ?_
  | refine o_ ?_
  | refine f_ ?_
  | ((fail_if_success (have zz:=b1));with_reducible intro b1)
  | ((fail_if_success (have zz:=b2));with_reducible intro b2)
  | ((fail_if_success (have zz:=b3));with_reducible intro b3)
  | with_reducible intro b)
 all_goals first
 | (refine ⟨_,_,le.rfl_,⟨⟨b3,b1,b2,[],[]⟩,rfl,⟨rfl,rfl⟩,rfl⟩,?_⟩;(unfold Nd.own;simp only [zax,List.cons_append,List.nil_append]);(exact sub_);done)
 | (trace_state;fail)
end
theorem new_dc  (F:Own):(True)->DC Tryz.prog 34 [] (([]:Own)++F) fun d G=>∃ (t:Nat) (s:TS),d = .raw (.pointer (some ⟨t,0,none⟩))/\(TOK s/\s.L=[])/\G=ownT t s++F:=by
 intro hA
 refine DC.bodyS (n_:=4) (show Tryz.prog.funcs[34]? = some Tryz.f34 by kernel_rfl) rfl rfl (by rfl) ?_
 simp only [env0,List.append_assoc,List.cons_append,List.nil_append]
 have kw:=ksIs [0]
 have ow:=zaf [3]
 repeat' (first
  | refine g_ ?_
  | ((with_reducible refine And.intro ?_ ?_);(exact sv))
  | (refine DW.cond (by rfl) ?_ ?_<;>(first | exact i0_ | (refine ic_ ?_;intro hb)))
  | ((with_reducible refine zaa ?_ ?_)<;>(intro hb;rw [hb];revert hb;(first | exact i0_ | (refine i_ ?_;intro hb))))
  | refine r_ ?_
  | refine k_ ?_
  | (refine p_ (zii _) ?_;rintro d H1 ⟨y,rfl,⟨hy1,hy2⟩,rfl⟩<;>refine s_ ?_)
  | refine o_ ?_
  | refine f_ ?_
  | ((fail_if_success (have zz:=b1));with_reducible intro b1)
  | with_reducible intro b)
 all_goals first
 | (refine ⟨_,_,le.rfl_,⟨b1,⟨y.b,[y],[]⟩,rfl,⟨⟨?_,List.nodup_nil,(fun _ h=>nomatch h),(fun _ h=>nomatch h)⟩,rfl⟩,rfl⟩,?_⟩;(focus (rw [mOf_nil];obtain ⟨yb,yn,yk,y1,y2⟩:=y;subst hy1;subst hy2;exact tri_new yb yn yk));(rw [zoS]);(exact sub_);done)
 | (trace_state;fail)
end
section
theorem pk_ext {p q:Pk} (h:p.kind=q.kind/\p.dup=q.dup/\p.retain=q.retain/\p.qos=q.qos/\p.id=q.id/\p.topic=q.topic/\p.payload=q.payload/\p.level=q.level/\p.client=q.client/\p.clean=q.clean/\p.keep=q.keep/\p.hasWill=q.hasWill/\p.wtopic=q.wtopic/\p.wpay=q.wpay/\p.wqos=q.wqos/\p.wretain=q.wretain/\p.hasUser=q.hasUser/\p.hasPass=q.hasPass/\p.user=q.user/\p.pass=q.pass/\p.present=q.present/\p.code=q.code/\p.subs=q.subs/\p.codes=q.codes):p=q:=by
 cases p;cases q;simp_all
open Classical in
noncomputable def zeT (p q:Pk):Bool:=decide (p=q)
open Classical in
theorem sameM_f {p q:Pk} (h:p≠q):zeT p q=false:=by unfold zeT;exact decide_eq_false h
open Classical in
theorem sameM_t {p q:Pk} (h:p=q):zeT p q=true:=by unfold zeT;exact decide_eq_true h
open Classical in
theorem znX (p q:Pk):zeT p q=true↔p=q:=by unfold zeT;exact decide_eq_true_iff
end
section
abbrev IM:=List (Str×Int)
abbrev zpo (l:IM):Prop:=(l.map (·.1)).Nodup
section
variable {A C o:IM} {y:Str×Int} (hn:zpo (A++y::C))
include hn
end
attribute [local irreducible] DW SeqD DV DOp DC DVX Nd.own ownH ownT
section
attribute [local push_cast 2000] za9 zaW za8 zaL za3 zaG zaV za7 zax za2 zaX zaB zaC zaY zaE zaq za6 zat zaZ za5 zas zba zaD zar zap zcO ze4
end
end
section
section
variable {h:List Nd} {r:Nat} {m:List Str->Str->Option Int} (t:Tri h r m)
include t
theorem Tri.fkid {p:List Str} {b:Nat} {x:Nd} (hp:fol h r p=some b) (hx:fnd h b=some x) (l:Str):fol h r (p++[l])=lookA l x.next:=by
 rw [zdj,hp];show kid h b l=_;unfold kid;rw [hx];rfl
theorem Tri.gone {p:List Str} (hp:fol h r p=none) (q:List Str) (k:Str):m (p++q) k=none:=t.all _ k (by rw [zfk,hp];rfl)
end
attribute [local irreducible] DW SeqD DV DOp DC DVX Nd.own ownH ownT vis zlD
attribute [local push_cast 2000] za9 zaW za8 zaL za3 zaG zaV za7 zax za2 zaX zaB zaC zaY zaE zaq za6 zat zaZ za5 zas zba zaD zar zap
section
end
section
attribute [local push_cast 2000] zeI
end
end
end Go.Proofs.YtgekknefphagbaaGreatDoor
