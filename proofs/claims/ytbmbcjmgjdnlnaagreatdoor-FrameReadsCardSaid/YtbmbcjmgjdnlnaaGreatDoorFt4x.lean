/- Which frames the document finds right; a frame laid down by it. -/
import Derived.Test.YtbmbcjmgjdnlnaaGreatDoorFp3x
import Derived.Test.YtbmbcjmgjdnlnaaGreatDoorSp3x
import Derived.KernelRfl
namespace Go.Proofs.YtbmbcjmgjdnlnaaGreatDoor
open Go.RowKit
set_option linter.unusedSimpArgs false
set_option linter.unusedVariables false
set_option linter.unusedSectionVars false
set_option maxHeartbeats 4000000
set_option maxRecDepth 100000
section
structure LightD (f:TFrame):Prop where
 l:LightF f
 t:Lite 1000000000 f.tab
 p:f.topic.length<=65535
def wordQ (f:TFrame):Bool:=(f.seq==0)&&(f.topic==[])&&((f.payload.length:Int)==0)&&(f.qos==0) && !f.retain
def frameQ (f:TFrame):Bool :=
 (decide (0<=f.fr)&&decide (f.fr<16))&&(decide (1<=f.ep)&&decide (f.ep<=2147483647))&&(decide (0<=f.at_)&&decide (f.at_<=1099511627776)) &&
 (if f.kind=1 then ((f.sums.length:Int)==10)&&rightB f.seen&&decide (f.tab=emptyT)&&wordQ f
  else if f.kind=2 then (((f.sums.length:Int)==0)&&((f.seen.length:Int)==0))&&tabB f.tab&&wordQ f
  else if f.kind=3 then (((f.sums.length:Int)==0)&&((f.seen.length:Int)==0))&&decide (f.tab=emptyT)&&(decide (1<=f.seq)&&decide (f.seq<=2147483647))&&nameB f.topic&&(decide (0<=f.qos)&&decide (f.qos<=2)) && !f.retain
  else false)
theorem frameQ_is (f:TFrame):frameQ f=frameB f:=by
 unfold frameQ frameB wordQ wordB
 rw [len0,len0,len0]
 have e2:((f.sums.length:Int)==10)=decide (f.sums.length=10):=by rw [Bool.eq_iff_iff];simp only [beq_iff_eq,decide_eq_true_eq];omega
 have e3:(f.seq==0)=decide (f.seq=0):=by rw [Bool.eq_iff_iff];simp
 have e4:(f.topic==[])=decide (f.topic=[]):=by rw [Bool.eq_iff_iff];simp
 have e5:(f.qos==0)=decide (f.qos=0):=by rw [Bool.eq_iff_iff];simp
 rw [e2,e3,e4,e5]
 simp only [Bool.and_assoc]
attribute [local irreducible] DW SeqD DV DOp DC DVX DVJ nameB tabB rightB
theorem sv_rfright_dc {p:Prop} (h:p:=by first | exact sv | exact hf.t | exact Nat.le_trans hf.l.seen (by decide) | exact Nat.le_trans hf.p (by decide) | fail):p:=h
theorem rfright_dc (f:TFrame) (F:Own):(LightD f)->DC Tryz.prog 19 [.agg [.int .i64 f.kind, .int .i64 f.fr, .int .i64 f.ep, .int .i64 f.at_, .sl (f.sums.map encU), .sl (f.seen.map encDot), .sl (f.tab.seen.map encDot), .sl (f.tab.fences.map encFence), .sl (f.tab.routes.map encRoute), .sl (f.tab.cells.map encCell), .int .i64 f.seq, .str f.topic, .sl (f.payload.map u8), .int .i64 f.qos, .bool f.retain]] (([]:Own)++F) fun d G=>d = .bool (frameB f)/\G=[]++F:=by
 intro hA
 have hf:=hA
 refine DC.bodyS (n_:=146) (show Tryz.prog.funcs[19]? = some Tryz.f19 by kernel_rfl) rfl rfl (by rfl) ?_
 simp only [env0,List.cons_append,List.nil_append]
 have kw:=ksIs [0,1,2,3,4,5,33,77,78,95,106]
 have ow:=ownIs []
 have dw3:=drIs 3 [] [1,6,11,13,15,20,26,33,39]
 repeat' (first
  | refine g_ ?_
  | ((with_reducible refine And.intro ?_ ?_);(exact sv_rfright_dc))
  | (refine DW.cond (by rfl) ?_ ?_<;>(first | exact i0_ | (refine ic_ ?_;intro hb)))
  | ((with_reducible first | refine FVg_cases ?_ ?_ | refine FDg_cases ?_ ?_)<;>(intro hb;rw [hb];revert hb;(first | exact i0_ | (refine i_ ?_;intro hb))))
  | refine r_ ?_
  | refine d_ ?_
  | refine k_ ?_
  | ((refine dm_ ?_);(first | ((first | refine v_ (rsameE_dc _ _) ?_ (ha:=by exact sv_rfright_dc) | refine v_ (rright_dc _ _) ?_ (ha:=by exact sv_rfright_dc) | refine v_ (rightT_dc _ _) ?_ (ha:=by exact sv_rfright_dc) | refine v_ (rname_dc _ _) ?_ (ha:=by exact sv_rfright_dc)))))
  | refine vo_ ?_
  | ((first | refine q_ (rsameE_dc _ _) ?_ (ha:=by exact sv_rfright_dc) | refine q_ (rright_dc _ _) ?_ (ha:=by exact sv_rfright_dc) | refine q_ (rightT_dc _ _) ?_ (ha:=by exact sv_rfright_dc) | refine q_ (rname_dc _ _) ?_ (ha:=by exact sv_rfright_dc)))
  | refine o_ ?_
  | refine f_ ?_
  | refine vm_ ?_
  | with_reducible intro b)
 all_goals first
 | ((refine ⟨_,_,le.of_eq ?_,⟨rfl,rfl⟩,?_⟩);(focus (rw [<-frameQ_is];unfold frameQ wordQ;simp_all;done));(exact sub_);done)
 | ((refine ⟨_,_,le.of_eq ?_,⟨rfl,rfl⟩,?_⟩);(focus (congr 1;rw [<-frameQ_is];symm;rw [Bool.eq_false_iff];intro h;unfold frameQ wordQ at h;simp only [Bool.and_eq_true,decide_eq_true_eq] at h;obtain ⟨⟨⟨h1,h2⟩,h3⟩,h4⟩:=h;first | omega | (simp_all;done) | (rw [if_neg (by omega),if_neg (by omega),if_pos (by omega)] at h4;simp only [Bool.and_eq_true,decide_eq_true_eq] at h4;have g1:=h4.1.1.1.2;have g2:=h4.1.2;clear h4;omega)));(exact sub_);done)
 | (trace_state;fail)
end
end Go.Proofs.YtbmbcjmgjdnlnaaGreatDoor
