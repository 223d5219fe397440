/- Keys of maps; what the program asks of fences, cells, stamps. -/
import Derived.Test.YtbmbcjmgjdnlnaaGreatDoorPtgx
import Derived.Test.YtbmbcjmgjdnlnaaGreatDoorPv3x
import Derived.Test.YtbmbcjmgjdnlnaaGreatDoorRe1x
import Derived.Test.YtbmbcjmgjdnlnaaGreatDoorPtex
import Derived.KernelRfl
namespace Go.Proofs.YtbmbcjmgjdnlnaaGreatDoor
open Go.RowKit
set_option linter.unusedSimpArgs false
set_option linter.unusedVariables false
set_option linter.unusedSectionVars false
set_option maxHeartbeats 4000000
set_option maxRecDepth 100000
section
def encLine (x:Int×Int×Str):V:=.agg [.int .i64 x.1, .int .i64 x.2.1, .str x.2.2]
def lineL (r:TRoute):Int×Int×Str:=(r.dot.node,r.dot.epoch,r.filter)
theorem dotE:KeyE [2,2,2] true encDot:=⟨fun a b=>⟨⟨rfl,rfl⟩,⟨rfl,rfl⟩,⟨rfl,rfl⟩,trivial⟩,fun a b=>by
 obtain ⟨a1,a2,a3⟩:=a;obtain ⟨b1,b2,b3⟩:=b
 rw [Bool.eq_iff_iff];simp [encDot,V.cs,eqL],fun a=>⟨fun _=>rfl,(fun h=>nomatch h)⟩⟩
theorem lineE:KeyE [2,2,3] true encLine:=⟨fun a b=>⟨⟨rfl,rfl⟩,⟨rfl,rfl⟩,rfl,trivial⟩,fun a b=>by
 obtain ⟨a1,a2,a3⟩:=a;obtain ⟨b1,b2,b3⟩:=b
 rw [Bool.eq_iff_iff];simp [encLine,V.cs,eqL],fun a=>⟨fun _=>rfl,(fun h=>nomatch h)⟩⟩
section
variable {β:Type} {ev:β->V}
theorem look_dot (a b c:Int) (l:List (TDot×β)):lookV (.agg [.int .i64 a, .int .i64 b, .int .i64 c]) (entM encDot ev l)=(lookA ⟨a,b,c⟩ l).map ev:=look_ent dotE ⟨a,b,c⟩ l
theorem upd_dot (a b c:Int) (v:β) (l:List (TDot×β)):updV (.agg [.int .i64 a, .int .i64 b, .int .i64 c]) (ev v) (entM encDot ev l)=entM encDot ev (updA ⟨a,b,c⟩ v l):=upd_ent dotE ⟨a,b,c⟩ v l
theorem look_line (a b:Int) (f:Str) (l:List ((Int×Int×Str)×β)):lookV (.agg [.int .i64 a, .int .i64 b, .str f]) (entM encLine ev l)=(lookA (a,b,f) l).map ev:=look_ent lineE (a,b,f) l
theorem upd_line (a b:Int) (f:Str) (v:β) (l:List ((Int×Int×Str)×β)):updV (.agg [.int .i64 a, .int .i64 b, .str f]) (ev v) (entM encLine ev l)=entM encLine ev (updA (a,b,f) v l):=upd_ent lineE (a,b,f) v l
end
theorem mapT_139:mapT Tryz.prog 139=some ([2,2,3],true):=by kernel_rfl
theorem zeroD_120:zeroD Tryz.prog 120 = .agg [.int .i64 0, .int .i64 0, .int .i64 0, .str []]:=by kernel_rfl
theorem mapT_151:mapT Tryz.prog 151=some ([2,2,2],true):=by kernel_rfl
theorem keyS_151 {β:Type} {ev:β->V} (a b c:Int) (l:List (_×β)):KeyS Tryz.prog 151 (.agg [.int .i64 a, .int .i64 b, .int .i64 c]) (entM encDot ev l)=True:=eq_true (keyS_ent dotE (⟨a,b,c⟩) l mapT_151)
theorem zeroD_4:zeroD Tryz.prog 4 = .bool false:=by kernel_rfl
theorem mapT_152:mapT Tryz.prog 152=some ([2,2,3],true):=by kernel_rfl
theorem keyS_152 {β:Type} {ev:β->V} (a b:Int) (f:Str) (l:List (_×β)):KeyS Tryz.prog 152 (.agg [.int .i64 a, .int .i64 b, .str f]) (entM encLine ev l)=True:=eq_true (keyS_ent lineE ((a,b,f)) l mapT_152)
theorem mapT_184:mapT Tryz.prog 184=some ([3],false):=by kernel_rfl
theorem zeroD_124:zeroD Tryz.prog 124 = .agg [.int .i64 0, .int .i64 0, .int .i64 0, .int .i64 0, .int .i64 0, .int .i64 0, .str [], .gs (.slice none 0 0) [], .int .i64 0, .bool false]:=by kernel_rfl
def cellOkB (c:TCell):Bool:=nameB c.topic&&stampedM c.stamp&&decide (0<=c.qos)&&decide (c.qos<=2)&&(c.gone==((c.payload.length:Int)==0))&&(!c.gone||decide (c.qos=0))
attribute [local irreducible] DW SeqD DV DOp DC DVX DVJ nameB
section
attribute [local push_cast 2000] encFence toNat_pred2
theorem pfences_dc (l:List TFence) (F:Own):(l.length<=1000000000)->DC Tryz.prog 112 [.sl (l.map encFence)] (([]:Own)++F) fun d G=>d = .bool (fencesB l)/\G=[]++F:=by
 intro hA
 have hl:=hA
 refine DC.bodyS (n_:=34) (show Tryz.prog.funcs[112]? = some Tryz.f112 by kernel_rfl) rfl rfl (by rfl) ?_
 simp only [env0,List.cons_append,List.nil_append]
 have kw:=ksIs [0,2,3,4,5,6,7,8,32]
 have ow:=ownIs []
 have dw4:=drIs 4 [] [1,3,4,15,17]
 repeat' (first
  | ((with_reducible apply DW.frzB 4 4);(focus (exact rfl));(repeat (with_reducible first | refine Out.here ?_ | refine Out.next ?_));simp only [put_cons,put_nil,Nat.reduceEqDiff,↓reduceIte,if_true,if_false,reduceCtorEq])
  | ((with_reducible refine DW.loopB 0 (X:=Nat) (fun x=>x<=l.length/\allK (fenceOk l) x=true) (fun x=>[(0, .sl (l.map encFence)),(5, .sl (l.map encFence)),(6, .int .i64 l.length),(7, .int .i64 x)]) (fun x=>([]:Own)) (fun x=>l.length - x) (0) ?_ ?_ ?_);exact (⟨Nat.zero_le _,rfl⟩);(simp [Sub,get,keepL]<;>fail);(try simp only [List.cons_append,List.nil_append]);refine pl_ ?_;intro k ⟨hk,ha⟩;(try simp only [List.cons_append,List.nil_append]))
  | refine g_ ?_
  | ((with_reducible refine And.intro ?_ ?_);(exact sv))
  | (refine DW.cond (by rfl) ?_ ?_<;>(first | exact i0_ | (refine ic_ ?_;intro hb)))
  | ((with_reducible first | refine FVg_cases ?_ ?_ | refine FDg_cases ?_ ?_)<;>(intro hb;rw [hb];revert hb;(first | exact i0_ | (refine i_ ?_;intro hb))))
  | refine r_ ?_
  | refine d_ ?_
  | refine k_ ?_
  | ((refine dm_ ?_);(first | (refine v_ (ppair_dc _ _ _) ?_)))
  | refine vo_ ?_
  | (refine q_ (ppair_dc _ _ _) ?_)
  | refine o_ ?_
  | refine f_ ?_
  | refine vm_ ?_
  | with_reducible intro b)
 all_goals first
 | (have e:fencesB l=true:=by unfold fencesB;rw [show l.length=k by omega];exact ha
    rw [e];(first | exact fin_ | refine finq_ ?_);done)
 | (have e0:fenceOk l k=true:=by unfold fenceOk;rw [decide_eq_true (show k=0 by omega)];simp_all
    refine ⟨k+1,⟨by omega,allK_next ha e0⟩,by omega,by simp [Sub,get],?_⟩;(exact sub_);done)
 | (have e0:fenceOk l k=true:=by unfold fenceOk;rw [decide_eq_true (show (l.getD (k - 1) default).node<(l.getD k default).node by omega)];simp_all
    refine ⟨k+1,⟨by omega,allK_next ha e0⟩,by omega,by simp [Sub,get],?_⟩;(exact sub_);done)
 | (have e0:fenceOk l k=false:=by unfold fenceOk;(first | (simp_all;done) | skip)
    have e:fencesB l=false:=allK_not e0 (by omega)
    rw [e];(first | exact fin_ | refine finq_ ?_);done)
 | (have e0:fenceOk l k=false:=by unfold fenceOk;rw [decide_eq_false (show ¬ k=0 by omega),decide_eq_false (show ¬ (l.getD (k - 1) default).node<(l.getD k default).node by omega)];simp
    have e:fencesB l=false:=allK_not e0 (by omega)
    rw [e];(first | exact fin_ | refine finq_ ?_);done)
end
theorem line_dc (a1 a2 a3:Int) (f:Str) (F:Own):(True)->DC Tryz.prog 115 [.agg [.int .i64 a1, .int .i64 a2, .int .i64 a3, .str f]] (([]:Own)++F) fun d G=>d = .agg [.int .i64 a1, .int .i64 a2, .str f]/\G=[]++F:=by
 intro hA
 refine DC.bodyS (n_:=12) (show Tryz.prog.funcs[115]? = some Tryz.f115 by kernel_rfl) rfl rfl (by rfl) ?_
 simp only [env0,List.cons_append,List.nil_append]
 have kw:=ksIs [0,1,2]
 have ow:=ownIs [2]
 have rw_:=rsIs [.cell 2 142]
 repeat' (first
  | refine g_ ?_
  | ((with_reducible refine And.intro ?_ ?_);(exact sv))
  | (refine DW.cond (by rfl) ?_ ?_<;>(first | exact i0_ | (refine ic_ ?_;intro hb)))
  | ((with_reducible refine FVg_cases ?_ ?_)<;>(intro hb;rw [hb];revert hb;(first | exact i0_ | (refine i_ ?_;intro hb))))
  | refine r_ ?_
  | refine k_ ?_
  | refine o_ ?_
  | refine f_ ?_
  | with_reducible intro b)
 (first | exact fin_ | refine finq_ ?_)
 all_goals rfl
theorem pstamped_dc (a1 a2 a3:Int) (F:Own):(True)->DC Tryz.prog 179 [.agg [.int .i64 a1, .int .i64 a2, .int .i64 a3]] (([]:Own)++F) fun d G=>d = .bool (stampedM ⟨a1,a2,a3⟩)/\G=[]++F:=by
 intro hA
 refine DC.bodyS (n_:=31) (show Tryz.prog.funcs[179]? = some Tryz.f179 by kernel_rfl) rfl rfl (by rfl) ?_
 simp only [env0,List.cons_append,List.nil_append]
 have kw:=ksIs [0,1,2]
 have ow:=ownIs []
 repeat' (first
  | refine g_ ?_
  | ((with_reducible refine And.intro ?_ ?_);(exact sv))
  | (refine DW.cond (by rfl) ?_ ?_<;>(first | exact i0_ | (refine ic_ ?_;intro hb)))
  | ((with_reducible refine FVg_cases ?_ ?_)<;>(intro hb;rw [hb];revert hb;(first | exact i0_ | (refine i_ ?_;intro hb))))
  | refine r_ ?_
  | refine k_ ?_
  | refine o_ ?_
  | refine f_ ?_
  | with_reducible intro b)
 all_goals
  refine ⟨_,_,le.of_eq ?_,⟨rfl,rfl⟩,SubP.refl⟩
  unfold stampedM
  simp_all<;>omega
theorem pcell_dc (a1 a2 a3 a4 a5 a6:Int) (a7 a8:Str) (a9:Int) (a10:Bool) (m:Int) (F:Own):(a7.length<=2000000/\a8.length<=1000000000)->DC Tryz.prog 116 [.agg [.int .i64 a1, .int .i64 a2, .int .i64 a3, .int .i64 a4, .int .i64 a5, .int .i64 a6, .str a7, .sl (a8.map u8), .int .i64 a9, .bool a10]] ([knF,knA,knM m]++F) fun d G=>d = .bool (cellOkB (⟨⟨a1,a2,a3⟩,⟨a4,a5,a6⟩,a7,a8,a9,a10⟩:TCell))/\G=[knF,knA,knM m]++F:=by
 intro hA
 obtain ⟨h7,h8⟩:=hA
 refine DC.bodyS (n_:=40) (show Tryz.prog.funcs[116]? = some Tryz.f116 by kernel_rfl) rfl rfl (by rfl) ?_
 simp only [env0,List.cons_append,List.nil_append]
 have kw:=ksIs [0,1,2]
 have ow:=ownIs []
 repeat' (first
  | refine g_ ?_
  | ((with_reducible refine And.intro ?_ ?_);(exact sv))
  | (refine DW.cond (by rfl) ?_ ?_<;>(first | exact i0_ | (refine ic_ ?_;intro hb)))
  | ((with_reducible refine FVg_cases ?_ ?_)<;>(intro hb;rw [hb];revert hb;(first | exact i0_ | (refine i_ ?_;intro hb))))
  | refine r_ ?_
  | refine k_ ?_
  | (refine q_ (nameA_dc _ _) ?_)
  | (refine q_ (pstamped_dc _ _ _ _) ?_)
  | refine o_ ?_
  | refine f_ ?_
  | with_reducible intro b)
 all_goals first
 | ((refine ⟨_,_,le.of_eq ?_,⟨rfl,rfl⟩,?_⟩);(focus (unfold cellOkB;simp_all;done));(exact sub_);done)
 | ((refine ⟨_,_,le.of_eq ?_,⟨rfl,rfl⟩,?_⟩);(focus (congr 1;unfold cellOkB;rw [Bool.eq_iff_iff];simp_all;done));(exact sub_);done)
 | ((refine ⟨_,_,le.of_eq ?_,⟨rfl,rfl⟩,?_⟩);(focus (congr 1;unfold cellOkB;rw [Bool.eq_iff_iff];simp_all;omega));(exact sub_);done)
theorem phas_dc (l:List TDot) (a b c:Int) (F:Own):(l.length<=1000000000)->DC Tryz.prog 114 [.sl (l.map encDot), .agg [.int .i64 a, .int .i64 b, .int .i64 c]] (([]:Own)++F) fun d G=>d = .bool (hasB l ⟨a,b,c⟩)/\G=[]++F:=by
 intro hA
 have hl:=hA
 refine DC.bodyS (n_:=19) (show Tryz.prog.funcs[114]? = some Tryz.f114 by kernel_rfl) rfl rfl (by rfl) ?_
 simp only [env0,List.cons_append,List.nil_append]
 have kw:=ksIs [0,1,3,4]
 have ow:=ownIs []
 have dw1:=drIs 1 [] [1,5,8,10,11]
 repeat' (first
  | refine g_ ?_
  | ((with_reducible refine And.intro ?_ ?_);(exact sv))
  | (refine DW.cond (by rfl) ?_ ?_<;>(first | exact i0_ | (refine ic_ ?_;intro hb)))
  | ((with_reducible first | refine FVg_cases ?_ ?_ | refine FDg_cases ?_ ?_)<;>(intro hb;rw [hb];revert hb;(first | exact i0_ | (refine i_ ?_;intro hb))))
  | refine r_ ?_
  | refine d_ ?_
  | refine k_ ?_
  | ((refine dm_ ?_);(first | (refine v_ (ptop_dc _ _ _ _) ?_)))
  | refine vo_ ?_
  | (refine q_ (ptop_dc _ _ _ _) ?_)
  | refine o_ ?_
  | refine f_ ?_
  | refine vm_ ?_
  | with_reducible intro b)
 all_goals
  refine ⟨_,_,le.of_eq ?_,⟨rfl,rfl⟩,SubP.refl⟩
  unfold hasB
  first | rfl | (simp_all;done) | (simp_all<;>omega)
end
end Go.Proofs.YtbmbcjmgjdnlnaaGreatDoor
