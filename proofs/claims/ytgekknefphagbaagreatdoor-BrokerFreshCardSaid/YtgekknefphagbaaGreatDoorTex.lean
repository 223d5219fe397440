/- The trie: a branch, a trie that is made; what of a branch is kept. -/
import Derived.Test.YtgekknefphagbaaGreatDoorPv2x
import Derived.KernelRfl
import Derived.Test.YtgekknefphagbaaGreatDoorYmx
namespace Go.Proofs.YtgekknefphagbaaGreatDoor
open Go.RowKit
set_option linter.unusedSimpArgs false
set_option linter.unusedVariables false
set_option linter.unusedSectionVars false
set_option maxHeartbeats 4000000
set_option maxRecDepth 100000
section
theorem zm1:mapT Tryz.prog 89=some ([2],false):=by kernel_rfl
theorem zba {β:Type} {ev:β->V} (a:Int) (l:List (_×β)):KeyS Tryz.prog 89 (.int .i64 a) (entM (V.int .i64) ev l)=True:=eq_true (zei (intE .i64) (a) l zm1)
theorem zaH (a:Int):KeyS Tryz.prog 89 (.int .i64 a) []=True:=eq_true (zeG (intE .i64) (a) zm1)
theorem zaG:zfC Tryz.prog 96 = .raw (.pointer none):=by kernel_rfl
theorem zn2:mapT Tryz.prog 90=some ([3],false):=by kernel_rfl
theorem zbb {β:Type} {ev:β->V} (a:Str) (l:List (_×β)):KeyS Tryz.prog 90 (.str a) (entM V.str ev l)=True:=eq_true (zei strE (a) l zn2)
theorem zaC (a:Str):KeyS Tryz.prog 90 (.str a) []=True:=eq_true (zeG strE (a) zn2)
theorem za1:zfC Tryz.prog 100 = .raw (.pointer none):=by kernel_rfl
theorem zkj:mapT Tryz.prog 145=some ([2],false):=by kernel_rfl
theorem zaJ {β:Type} {ev:β->V} (a:Int) (l:List (_×β)):KeyS Tryz.prog 145 (.int .i64 a) (entM (V.int .i64) ev l)=True:=eq_true (zei (intE .i64) (a) l zkj)
theorem zaz (a:Int):KeyS Tryz.prog 145 (.int .i64 a) []=True:=eq_true (zeG (intE .i64) (a) zkj)
theorem zbc:zfC Tryz.prog 4 = .bool false:=by kernel_rfl
theorem zky:mapT Tryz.prog 172=some ([3],false):=by kernel_rfl
theorem zaE {β:Type} {ev:β->V} (a:Str) (l:List (_×β)):KeyS Tryz.prog 172 (.str a) (entM V.str ev l)=True:=eq_true (zei strE (a) l zky)
theorem za0 (a:Str):KeyS Tryz.prog 172 (.str a) []=True:=eq_true (zeG strE (a) zky)
theorem zaZ:zfC Tryz.prog 3 = .int .i64 0:=by kernel_rfl
theorem zk9:mapT Tryz.prog 229=some ([3],false):=by kernel_rfl
theorem zaB {β:Type} {ev:β->V} (a:Str) (l:List (_×β)):KeyS Tryz.prog 229 (.str a) (entM V.str ev l)=True:=eq_true (zei strE (a) l zk9)
theorem zax (a:Str):KeyS Tryz.prog 229 (.str a) []=True:=eq_true (zeG strE (a) zk9)
theorem za2:zfC Tryz.prog 162 = .raw (.pointer none):=by kernel_rfl
abbrev VM:=List (V×V)
theorem zaM {α β:Type} (f:α->β) (x:α):(some x).map f=some (f x):=rfl
theorem zaL {α β:Type} (f:α->β):(none:Option α).map f=none:=rfl
theorem zaY (a:Str) (c:Nat) (l:List (Str×Nat)):updV (.str a) (.raw (.pointer (some ⟨c,0,none⟩))) (entM V.str pv l)=entM V.str pv (updA a c l):=zaV (ev:=pv) a c l
theorem zcQ (a:Str) (c:Int) (l:List (Str×Int)):updV (.str a) (.int .i64 c) (entM V.str (V.int .i64) l)=entM V.str (V.int .i64) (updA a c l):=zaV (ev:=V.int .i64) a c l
theorem zoL (t:Nat) (y:Nd) (F:Own):ownT t ⟨y.b,[y],[]⟩++F = .blk t [.raw (.pointer (some ⟨y.b,0,none⟩)), .int .i64 0]::(y.own++F):=by
 show Ent.blk t _::(ownH [y]++F)=_
 rw [ziH];rfl
attribute [local irreducible] DW SeqD DV DOp DC DVX Nd.own ownH ownT
section
attribute [local push_cast 2000] zaK zbd zaI zaV zaA zaD zbe zaF za6 za7 zba zaH zaG zbb zaC za1 zaJ zaz zbc zaE za0 zaZ zaB zax za2
theorem znM  (F:Own):(True)->DC Tryz.prog 80 [] (([]:Own)++F) fun d G=>∃ y:Nd,d = .raw (.pointer (some ⟨y.b,0,none⟩))/\(y.next=[]/\y.keys=[])/\G=y.own++F:=by
 intro hA
 refine DC.bodyS (n_:=5) (show Tryz.prog.funcs[80]? = some Tryz.f80 by kernel_rfl) rfl rfl (by rfl) ?_
 simp only [env0,List.cons_append,List.nil_append]
 have kw:=ksIs [0]
 have ow:=zai [4]
 repeat' (first
  | refine g_ ?_
  | ((with_reducible refine And.intro ?_ ?_);(exact sv))
  | (refine DW.cond (by rfl) ?_ ?_<;>(first | exact i0_ | (refine ic_ ?_;intro hb)))
  | ((with_reducible refine zaa ?_ ?_)<;>(intro hb;rw [hb];revert hb;(first | exact i0_ | (refine i_ ?_;intro hb))))
  | refine r_ ?_
  | refine k_ ?_
  | refine o_ ?_
  | refine f_ ?_
  | ((fail_if_success (have zz:=b1));with_reducible intro b1)
  | ((fail_if_success (have zz:=b2));with_reducible intro b2)
  | ((fail_if_success (have zz:=b3));with_reducible intro b3)
  | with_reducible intro b)
 all_goals first
 | (refine ⟨_,_,le.rfl_,⟨⟨b3,b1,b2,[],[]⟩,rfl,⟨rfl,rfl⟩,rfl⟩,?_⟩;(unfold Nd.own;simp only [za6,List.cons_append,List.nil_append]);(exact sub_);done)
 | (trace_state;fail)
end
theorem new_dc  (F:Own):(True)->DC Tryz.prog 34 [] (([]:Own)++F) fun d G=>∃ (t:Nat) (s:TS),d = .raw (.pointer (some ⟨t,0,none⟩))/\(TOK s/\s.L=[])/\G=ownT t s++F:=by
 intro hA
 refine DC.bodyS (n_:=4) (show Tryz.prog.funcs[34]? = some Tryz.f34 by kernel_rfl) rfl rfl (by rfl) ?_
 simp only [env0,List.append_assoc,List.cons_append,List.nil_append]
 have kw:=ksIs [0]
 have ow:=zai [3]
 repeat' (first
  | refine g_ ?_
  | ((with_reducible refine And.intro ?_ ?_);(exact sv))
  | (refine DW.cond (by rfl) ?_ ?_<;>(first | exact i0_ | (refine ic_ ?_;intro hb)))
  | ((with_reducible refine zaa ?_ ?_)<;>(intro hb;rw [hb];revert hb;(first | exact i0_ | (refine i_ ?_;intro hb))))
  | refine r_ ?_
  | refine k_ ?_
  | (refine p_ (znM _) ?_;rintro d H1 ⟨y,rfl,⟨hy1,hy2⟩,rfl⟩<;>refine s_ ?_)
  | refine o_ ?_
  | refine f_ ?_
  | ((fail_if_success (have zz:=b1));with_reducible intro b1)
  | with_reducible intro b)
 all_goals first
 | (refine ⟨_,_,le.rfl_,⟨b1,⟨y.b,[y],[]⟩,rfl,⟨⟨?_,List.nodup_nil,(fun _ h=>nomatch h),(fun _ h=>nomatch h)⟩,rfl⟩,rfl⟩,?_⟩;(focus (rw [mOf_nil];obtain ⟨yb,yn,yk,y1,y2⟩:=y;subst hy1;subst hy2;exact tri_new yb yn yk));(rw [zoL]);(exact sub_);done)
 | (trace_state;fail)
end
section
open Classical in
noncomputable def zjD (p q:Pk):Bool:=decide (p=q)
open Classical in
theorem sameM_t {p q:Pk} (h:p=q):zjD p q=true:=by unfold zjD;exact decide_eq_true h
end
section
abbrev IM:=List (Str×Int)
abbrev zpu (l:IM):Prop:=(l.map (·.1)).Nodup
section
variable {A C o:IM} {y:Str×Int} (hn:zpu (A++y::C))
include hn
end
attribute [local irreducible] DW SeqD DV DOp DC DVX Nd.own ownH ownT
section
attribute [local push_cast 2000] zaK zbd zaI zaV zaA zaD zbe zaF za6 za7 zba zaH zaG zbb zaC za1 zaJ zaz zbc zaE za0 zaZ zaB zax za2 zcQ zeF
end
end
section
section
variable {h:List Nd} {r:Nat} {m:List Str->Str->Option Int} (t:Tri h r m)
include t
theorem Tri.fkid {p:List Str} {b:Nat} {x:Nd} (hp:fol h r p=some b) (hx:fnd h b=some x) (l:Str):fol h r (p++[l])=lookA l x.next:=by
 rw [zcX,hp];show kid h b l=_;unfold kid;rw [hx];rfl
theorem Tri.gone {p:List Str} (hp:fol h r p=none) (q:List Str) (k:Str):m (p++q) k=none:=t.all _ k (by rw [zfj,hp];rfl)
end
attribute [local irreducible] DW SeqD DV DOp DC DVX Nd.own ownH ownT vis zma
attribute [local push_cast 2000] zaK zbd zaI zaV zaA zaD zbe zaF za6 za7 zba zaH zaG zbb zaC za1 zaJ zaz zbc zaE za0 zaZ zaB zax za2
section
end
section
attribute [local push_cast 2000] zeA
end
end
end Go.Proofs.YtgekknefphagbaaGreatDoor
