/- The trie: a branch, a trie that is made; what of a branch is kept. -/
import Derived.Test.YtgekknefphagbaaGreatDoorPv3x
import Derived.KernelRfl
import Derived.Test.YtgekknefphagbaaGreatDoorYmx
namespace Go.Proofs.YtgekknefphagbaaGreatDoor
open Go.RowKit
set_option linter.unusedSimpArgs false
set_option linter.unusedVariables false
set_option linter.unusedSectionVars false
set_option maxHeartbeats 4000000
set_option maxRecDepth 100000
section
theorem znI:mapT Tryz.prog 89=some ([2],false):=by kernel_rfl
theorem zbd {β:Type} {ev:β->V} (a:Int) (l:List (_×β)):KeyS Tryz.prog 89 (.int .i64 a) (entM (V.int .i64) ev l)=True:=eq_true (zdX (intE .i64) (a) l znI)
theorem zaI (a:Int):KeyS Tryz.prog 89 (.int .i64 a) []=True:=eq_true (zeB (intE .i64) (a) znI)
theorem zaC:zfw Tryz.prog 96 = .raw (.pointer none):=by kernel_rfl
theorem zm4:mapT Tryz.prog 90=some ([3],false):=by kernel_rfl
theorem zba {β:Type} {ev:β->V} (a:Str) (l:List (_×β)):KeyS Tryz.prog 90 (.str a) (entM V.str ev l)=True:=eq_true (zdX strE (a) l zm4)
theorem zaG (a:Str):KeyS Tryz.prog 90 (.str a) []=True:=eq_true (zeB strE (a) zm4)
theorem zaw:zfw Tryz.prog 100 = .raw (.pointer none):=by kernel_rfl
theorem zkl:mapT Tryz.prog 145=some ([2],false):=by kernel_rfl
theorem zaH {β:Type} {ev:β->V} (a:Int) (l:List (_×β)):KeyS Tryz.prog 145 (.int .i64 a) (entM (V.int .i64) ev l)=True:=eq_true (zdX (intE .i64) (a) l zkl)
theorem zav (a:Int):KeyS Tryz.prog 145 (.int .i64 a) []=True:=eq_true (zeB (intE .i64) (a) zkl)
theorem zbc:zfw Tryz.prog 4 = .bool false:=by kernel_rfl
theorem zkh:mapT Tryz.prog 172=some ([3],false):=by kernel_rfl
theorem zaB {β:Type} {ev:β->V} (a:Str) (l:List (_×β)):KeyS Tryz.prog 172 (.str a) (entM V.str ev l)=True:=eq_true (zdX strE (a) l zkh)
theorem zay (a:Str):KeyS Tryz.prog 172 (.str a) []=True:=eq_true (zeB strE (a) zkh)
theorem zbf:zfw Tryz.prog 3 = .int .i64 0:=by kernel_rfl
theorem zkg:mapT Tryz.prog 229=some ([3],false):=by kernel_rfl
theorem zaD {β:Type} {ev:β->V} (a:Str) (l:List (_×β)):KeyS Tryz.prog 229 (.str a) (entM V.str ev l)=True:=eq_true (zdX strE (a) l zkg)
theorem zax (a:Str):KeyS Tryz.prog 229 (.str a) []=True:=eq_true (zeB strE (a) zkg)
theorem zau:zfw Tryz.prog 162 = .raw (.pointer none):=by kernel_rfl
abbrev VM:=List (V×V)
theorem zaM {α β:Type} (f:α->β) (x:α):(some x).map f=some (f x):=rfl
theorem zaP {α β:Type} (f:α->β):(none:Option α).map f=none:=rfl
theorem zaZ (a:Str) (c:Nat) (l:List (Str×Nat)):updV (.str a) (.raw (.pointer (some ⟨c,0,none⟩))) (entM V.str pv l)=entM V.str pv (updA a c l):=zaX (ev:=pv) a c l
theorem zcQ (a:Str) (c:Int) (l:List (Str×Int)):updV (.str a) (.int .i64 c) (entM V.str (V.int .i64) l)=entM V.str (V.int .i64) (updA a c l):=zaX (ev:=V.int .i64) a c l
theorem zoo (t:Nat) (y:Nd) (F:Own):ownT t ⟨y.b,[y],[]⟩++F = .blk t [.raw (.pointer (some ⟨y.b,0,none⟩)), .int .i64 0]::(y.own++F):=by
 show Ent.blk t _::(ownH [y]++F)=_
 rw [zii];rfl
attribute [local irreducible] DW SeqD DV DOp DC DVX Nd.own ownH ownT
section
attribute [local push_cast 2000] za8 zbb zaE zaX zaF zaA zbe za9 za4 za7 zbd zaI zaC zba zaG zaw zaH zav zbc zaB zay zbf zaD zax zau
theorem zlQ  (F:Own):(True)->DC Tryz.prog 80 [] (([]:Own)++F) fun d G=>∃ y:Nd,d = .raw (.pointer (some ⟨y.b,0,none⟩))/\(y.next=[]/\y.keys=[])/\G=y.own++F:=by
 intro hA
 refine DC.bodyS (n_:=5) (show Tryz.prog.funcs[80]? = some Tryz.f80 by kernel_rfl) rfl rfl (by rfl) ?_
 simp only [env0,List.cons_append,List.nil_append]
 have kw:=ksIs [0]
 have ow:=zaf [4]
 repeat' (first
  | refine g_ ?_
  | ((with_reducible refine And.intro ?_ ?_);(exact sv))
  | (refine DW.cond (by rfl) ?_ ?_<;>(first | exact i0_ | (refine ic_ ?_;intro hb)))
  | ((with_reducible refine zaa ?_ ?_)<;>(intro hb;rw [hb];revert hb;(first | exact i0_ | (refine i_ ?_;intro hb))))
  | refine r_ ?_
  | refine k_ ?_
  | refine o_ ?_
  | refine f_ ?_
  | ((fail_if_success (have zz:=b1));with_reducible intro b1)
  | ((fail_if_success (have zz:=b2));with_reducible intro b2)
  | ((fail_if_success (have zz:=b3));with_reducible intro b3)
  | with_reducible intro b)
 all_goals first
 | (refine ⟨_,_,le.rfl_,⟨⟨b3,b1,b2,[],[]⟩,rfl,⟨rfl,rfl⟩,rfl⟩,?_⟩;(unfold Nd.own;simp only [za4,List.cons_append,List.nil_append]);(exact sub_);done)
 | (trace_state;fail)
end
theorem new_dc  (F:Own):(True)->DC Tryz.prog 34 [] (([]:Own)++F) fun d G=>∃ (t:Nat) (s:TS),d = .raw (.pointer (some ⟨t,0,none⟩))/\(TOK s/\s.L=[])/\G=ownT t s++F:=by
 intro hA
 refine DC.bodyS (n_:=4) (show Tryz.prog.funcs[34]? = some Tryz.f34 by kernel_rfl) rfl rfl (by rfl) ?_
 simp only [env0,List.append_assoc,List.cons_append,List.nil_append]
 have kw:=ksIs [0]
 have ow:=zaf [3]
 repeat' (first
  | refine g_ ?_
  | ((with_reducible refine And.intro ?_ ?_);(exact sv))
  | (refine DW.cond (by rfl) ?_ ?_<;>(first | exact i0_ | (refine ic_ ?_;intro hb)))
  | ((with_reducible refine zaa ?_ ?_)<;>(intro hb;rw [hb];revert hb;(first | exact i0_ | (refine i_ ?_;intro hb))))
  | refine r_ ?_
  | refine k_ ?_
  | (refine p_ (zlQ _) ?_;rintro d H1 ⟨y,rfl,⟨hy1,hy2⟩,rfl⟩<;>refine s_ ?_)
  | refine o_ ?_
  | refine f_ ?_
  | ((fail_if_success (have zz:=b1));with_reducible intro b1)
  | with_reducible intro b)
 all_goals first
 | (refine ⟨_,_,le.rfl_,⟨b1,⟨y.b,[y],[]⟩,rfl,⟨⟨?_,List.nodup_nil,(fun _ h=>nomatch h),(fun _ h=>nomatch h)⟩,rfl⟩,rfl⟩,?_⟩;(focus (rw [mOf_nil];obtain ⟨yb,yn,yk,y1,y2⟩:=y;subst hy1;subst hy2;exact tri_new yb yn yk));(rw [zoo]);(exact sub_);done)
 | (trace_state;fail)
end
section
def onlyM (p:Pk):Pk :=
 if p.kind=1 then { (default:Pk) with kind:=p.kind,level:=p.level,client:=p.client,clean:=p.clean,keep:=p.keep,hasWill:=p.hasWill,hasUser:=p.hasUser,hasPass:=p.hasPass,wtopic:=if p.hasWill=true then p.wtopic else [],wpay:=if p.hasWill=true then p.wpay else [],wqos:=if p.hasWill=true then p.wqos else 0,wretain:=if p.hasWill=true then p.wretain else false,user:=if p.hasUser=true then p.user else [],pass:=if p.hasPass=true then p.pass else [] }
 else if p.kind=2 then { (default:Pk) with kind:=p.kind,present:=p.present,code:=p.code }
 else if p.kind=3 then { (default:Pk) with kind:=p.kind,retain:=p.retain,qos:=p.qos,topic:=p.topic,payload:=p.payload,dup:=if 0<p.qos then p.dup else false,id:=if 0<p.qos then p.id else 0 }
 else if p.kind=8\/p.kind=10 then { (default:Pk) with kind:=p.kind,id:=p.id,subs:=p.subs }
 else if p.kind=9 then { (default:Pk) with kind:=p.kind,id:=p.id,codes:=p.codes }
 else if p.kind=4\/p.kind=5\/p.kind=6\/p.kind=7\/p.kind=11 then { (default:Pk) with kind:=p.kind,id:=p.id }
 else { (default:Pk) with kind:=p.kind }
theorem zhh {c:Prop} [Decidable c] {l:YS} {n:Nat} (h:l.length<=n):(if c then l else []).length<=n:=by
 split
 · exact h
 · exact Nat.zero_le _
attribute [local irreducible] DW SeqD DV DOp DC DVX
theorem zf7 (p:Pk) (F:Own):(True)->DC Tryz.prog 183 [.agg [.int .i64 p.kind, .bool p.dup, .bool p.retain, .int .i64 p.qos, .int .i64 p.id, .str p.topic, .sl (p.payload.map u8), .int .i64 p.level, .str p.client, .bool p.clean, .int .i64 p.keep, .bool p.hasWill, .str p.wtopic, .sl (p.wpay.map u8), .int .i64 p.wqos, .bool p.wretain, .bool p.hasUser, .bool p.hasPass, .str p.user, .sl (p.pass.map u8), .bool p.present, .int .i64 p.code, .sl (p.subs.map encU), .sl (p.codes.map (V.int .i64))]] (([]:Own)++F) fun d G=>d = .agg [.int .i64 (onlyM p).kind, .bool (onlyM p).dup, .bool (onlyM p).retain, .int .i64 (onlyM p).qos, .int .i64 (onlyM p).id, .str (onlyM p).topic, .sl ((onlyM p).payload.map u8), .int .i64 (onlyM p).level, .str (onlyM p).client, .bool (onlyM p).clean, .int .i64 (onlyM p).keep, .bool (onlyM p).hasWill, .str (onlyM p).wtopic, .sl ((onlyM p).wpay.map u8), .int .i64 (onlyM p).wqos, .bool (onlyM p).wretain, .bool (onlyM p).hasUser, .bool (onlyM p).hasPass, .str (onlyM p).user, .sl ((onlyM p).pass.map u8), .bool (onlyM p).present, .int .i64 (onlyM p).code, .sl ((onlyM p).subs.map encU), .sl ((onlyM p).codes.map (V.int .i64))]/\G=[]++F:=by
 intro hA
 refine DC.bodyS (n_:=105) (show Tryz.prog.funcs[183]? = some Tryz.f183 by kernel_rfl) rfl rfl (by rfl) ?_
 simp only [env0,List.cons_append,List.nil_append]
 have kw:=ksIs [0,1,2,3,8,9,33,38,43,47,55,71,78,87,95]
 have ow:=zaf []
 have dw4:=drIs 4 [15,17,19,21,23,25,27] [1]
 have dw12:=drIs 12 [5,7] [1]
 have dw14:=drIs 14 [9,11,13,15] [1]
 have dw16:=drIs 16 [5,7] [1]
 have dw19:=drIs 19 [5,7] [1]
 have dw21:=drIs 21 [5,7] [1]
 have rw_:=rsIs [.cell 2 29]
 repeat' (first
  | refine g_ ?_
  | ((with_reducible refine And.intro ?_ ?_);(exact sv))
  | (refine DW.cond (by rfl) ?_ ?_<;>(first | exact i0_ | (refine ic_ ?_;intro hb)))
  | ((with_reducible first | refine zaa ?_ ?_ | refine zai ?_ ?_)<;>(intro hb;rw [hb];revert hb;(first | exact i0_ | (refine i_ ?_;intro hb))))
  | refine r_ ?_
  | refine d_ ?_
  | refine k_ ?_
  | refine vo_ ?_
  | refine o_ ?_
  | refine f_ ?_
  | refine vm_ ?_
  | with_reducible intro b)
 all_goals first
 | ((refine ⟨_,_,?_,⟨rfl,rfl⟩,?_⟩);rotate_left;(exact sub_);(unfold onlyM);(simp only [*,↓reduceIte,Bool.false_eq_true,reduceCtorEq,or_true,true_or,or_self,Int.reduceEq,if_true,if_false]);(refine le.agg ?_);(repeat (first | exact Les.nil | refine Les.cons le.rfl_ ?_ | refine Les.cons (le.gs rfl) ?_));done)
 | ((have hq0:¬ (0<p.qos):=by omega);(refine ⟨_,_,?_,⟨rfl,rfl⟩,?_⟩);rotate_left;(exact sub_);(unfold onlyM);(simp only [*,↓reduceIte,Bool.false_eq_true,reduceCtorEq,or_true,true_or,or_self,Int.reduceEq,if_true,if_false]);(refine le.agg ?_);(repeat (first | exact Les.nil | refine Les.cons le.rfl_ ?_ | refine Les.cons (le.gs rfl) ?_));done)
 | (trace_state;fail)
end
end Go.Proofs.YtgekknefphagbaaGreatDoor
