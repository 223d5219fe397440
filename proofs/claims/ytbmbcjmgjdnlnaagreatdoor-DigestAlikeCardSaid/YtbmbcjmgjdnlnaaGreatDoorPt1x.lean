/- What the program compares: numbers, texts, dots, routes. -/
import Derived.Test.YtbmbcjmgjdnlnaaGreatDoorRa1x
import Derived.KernelRfl
namespace Go.Proofs.YtbmbcjmgjdnlnaaGreatDoor
open Go.RowKit
set_option linter.unusedSimpArgs false
set_option linter.unusedVariables false
set_option linter.unusedSectionVars false
set_option maxHeartbeats 4000000
set_option maxRecDepth 100000
section
def cmpI (a b:Int):Int:=if a<b then -1 else if b<a then 1 else 0
def cmpS (a b:Str):Int:=if Op.bytesLess a b=true then -1 else if Op.bytesLess b a=true then 1 else 0
def orI (a b:Int):Int:=if a=0 then b else a
def livesI (a b:TDot):Int:=orI (cmpI a.node b.node) (cmpI a.epoch b.epoch)
def orderI (a b:TRoute):Int:=if cmpS a.filter b.filter≠0 then cmpS a.filter b.filter else if before a.dot b.dot=true then -1 else if before b.dot a.dot=true then 1 else 0
theorem lives_lt (a b:TDot):(livesI a b<0)↔ahead a b=true:=by
 simp only [livesI,orI,cmpI,ahead,Bool.or_eq_true,Bool.and_eq_true,decide_eq_true_eq,beq_iff_eq]
 repeat' split
 all_goals omega
theorem lives_z (a b:TDot):livesI a b=0↔a.node=b.node/\a.epoch=b.epoch:=by
 simp only [livesI,orI,cmpI]
 repeat' split
 all_goals omega
theorem before_lt (a b:TDot):(orI (livesI a b) (cmpI a.n b.n)<0)↔before a b=true:=by
 simp only [livesI,orI,cmpI,before]
 repeat' split
 all_goals (try simp only [decide_eq_true_eq])
 all_goals (try simp_all)
 all_goals (try omega)
theorem gtr_eq (a b:Str):(!(Op.bytesLess a b) && !(a==b))=Op.bytesLess b a:=by
 cases h1:Op.bytesLess a b with
 | true=>simp [bl_asymm h1]
 | false =>
  cases h2:Op.bytesLess b a with
  | true =>
   have:a≠b:=fun e=>by rw [e,bl_irrefl] at h2;cases h2
   simp [this]
  | false=>simp [bl_tri a b h1 h2]
theorem orderI_lt (a b:TRoute):(orderI a b<0)↔rbefore a b=true:=by
 rw [rbefore_iff]
 unfold orderI cmpS
 by_cases h1:Op.bytesLess a.filter b.filter=true
 · simp [h1]
 · by_cases h2:Op.bytesLess b.filter a.filter=true
   · have:a.filter≠b.filter:=fun e=>by rw [e,bl_irrefl] at h2;cases h2
     simp [h1,h2,this]
   · have e:a.filter=b.filter:=bl_tri _ _ (by simpa using h1) (by simpa using h2)
     by_cases h3:before a.dot b.dot=true
     · simp [h1,h2,e,h3,bl_irrefl]
     · by_cases h4:before b.dot a.dot=true
       · simp [h1,h2,e,h3,h4,bl_irrefl]
       · simp [h1,h2,e,h3,h4,bl_irrefl]
attribute [local irreducible] DW SeqD DV DOp DC DVX
theorem nani_dc (a:Int) (F:Own):(True)->DC Tryz.prog 203 [.int .i64 a] (([]:Own)++F) fun d G=>d = .bool false/\G=[]++F:=by
 intro hA
 refine DC.bodyS (n_:=6) (show Tryz.prog.funcs[203]? = some Tryz.f203 by kernel_rfl) rfl rfl (by rfl) ?_
 simp only [env0,List.cons_append,List.nil_append]
 have kw:=ksIs [0,2]
 have ow:=ownIs []
 repeat' (first
  | refine g_ ?_
  | ((with_reducible refine And.intro ?_ ?_);(exact sv))
  | (refine DW.cond (by rfl) ?_ ?_<;>(first | exact i0_ | (refine ic_ ?_;intro hb)))
  | ((with_reducible refine FVg_cases ?_ ?_)<;>(intro hb;rw [hb];revert hb;(first | exact i0_ | (refine i_ ?_;intro hb))))
  | refine r_ ?_
  | refine k_ ?_
  | refine o_ ?_
  | refine f_ ?_
  | with_reducible intro b)
 all_goals
  refine ⟨_,_,le.of_eq ?_,⟨rfl,rfl⟩,SubP.refl⟩
  first | rfl | simp
theorem nans_dc (a:Str) (F:Own):(True)->DC Tryz.prog 202 [.str a] (([]:Own)++F) fun d G=>d = .bool false/\G=[]++F:=by
 intro hA
 refine DC.bodyS (n_:=6) (show Tryz.prog.funcs[202]? = some Tryz.f202 by kernel_rfl) rfl rfl (by rfl) ?_
 simp only [env0,List.cons_append,List.nil_append]
 have kw:=ksIs [0,2]
 have ow:=ownIs []
 repeat' (first
  | refine g_ ?_
  | ((with_reducible refine And.intro ?_ ?_);(exact sv))
  | (refine DW.cond (by rfl) ?_ ?_<;>(first | exact i0_ | (refine ic_ ?_;intro hb)))
  | ((with_reducible refine FVg_cases ?_ ?_)<;>(intro hb;rw [hb];revert hb;(first | exact i0_ | (refine i_ ?_;intro hb))))
  | refine r_ ?_
  | refine k_ ?_
  | refine o_ ?_
  | refine f_ ?_
  | with_reducible intro b)
 all_goals
  refine ⟨_,_,le.of_eq ?_,⟨rfl,rfl⟩,SubP.refl⟩
  first | rfl | simp
theorem cmpi_dc (a b:Int) (F:Own):(True)->DC Tryz.prog 167 [.int .i64 a, .int .i64 b] (([]:Own)++F) fun d G=>d = .int .i64 (cmpI a b)/\G=[]++F:=by
 intro hA
 refine DC.bodyS (n_:=20) (show Tryz.prog.funcs[167]? = some Tryz.f167 by kernel_rfl) rfl rfl (by rfl) ?_
 simp only [env0,List.cons_append,List.nil_append]
 have kw:=ksIs [0,1,4,5,6,11,12,13,16,19]
 have ow:=ownIs []
 repeat' (first
  | refine g_ ?_
  | ((with_reducible refine And.intro ?_ ?_);(exact sv))
  | (refine DW.cond (by rfl) ?_ ?_<;>(first | exact i0_ | (refine ic_ ?_;intro hb)))
  | ((with_reducible refine FVg_cases ?_ ?_)<;>(intro hb;rw [hb];revert hb;(first | exact i0_ | (refine i_ ?_;intro hb))))
  | refine r_ ?_
  | refine k_ ?_
  | (refine q_ (nani_dc _ _) ?_)
  | refine o_ ?_
  | refine f_ ?_
  | with_reducible intro b)
 all_goals
  refine ⟨_,_,le.of_eq ?_,⟨rfl,rfl⟩,SubP.refl⟩
  unfold cmpI
  first | (simp_all;done) | (simp_all<;>omega) | (repeat' split)<;>first | rfl | omega
section
attribute [local push_cast 2000] gtr_eq
theorem cmps_dc (a b:Str) (F:Own):(True)->DC Tryz.prog 163 [.str a, .str b] (([]:Own)++F) fun d G=>d = .int .i64 (cmpS a b)/\G=[]++F:=by
 intro hA
 refine DC.bodyS (n_:=20) (show Tryz.prog.funcs[163]? = some Tryz.f163 by kernel_rfl) rfl rfl (by rfl) ?_
 simp only [env0,List.cons_append,List.nil_append]
 have kw:=ksIs [0,1,4,5,6,11,12,13,16,19]
 have ow:=ownIs []
 repeat' (first
  | refine g_ ?_
  | ((with_reducible refine And.intro ?_ ?_);(exact sv))
  | (refine DW.cond (by rfl) ?_ ?_<;>(first | exact i0_ | (refine ic_ ?_;intro hb)))
  | ((with_reducible refine FVg_cases ?_ ?_)<;>(intro hb;rw [hb];revert hb;(first | exact i0_ | (refine i_ ?_;intro hb))))
  | refine r_ ?_
  | refine k_ ?_
  | (refine q_ (nans_dc _ _) ?_)
  | refine o_ ?_
  | refine f_ ?_
  | with_reducible intro b)
 all_goals
  refine ⟨_,_,le.of_eq ?_,⟨rfl,rfl⟩,SubP.refl⟩
  unfold cmpS
  first | (simp_all;done) | (simp_all<;>omega)
end
theorem or2_dc (a b:Int) (F:Own):(True)->DC Tryz.prog 181 [.sl [.int .i64 a, .int .i64 b]] (([]:Own)++F) fun d G=>d = .int .i64 (orI a b)/\G=[]++F:=by
 intro hA
 refine DC.bodyS (n_:=18) (show Tryz.prog.funcs[181]? = some Tryz.f181 by kernel_rfl) rfl rfl (by rfl) ?_
 simp only [env0,List.cons_append,List.nil_append]
 have kw:=ksIs [0,2,3,5,6,7,8,9,14]
 have ow:=ownIs []
 repeat' (first
  | ((with_reducible refine DW.loopB 0 (X:=Nat) (fun x=>x<=2/\(1<=x->a=0)/\(2<=x->b=0)) (fun x=>[(3, .int .i64 0),(6, .sl [.int .i64 a, .int .i64 b]),(7, .int .i64 2),(8, .int .i64 x)]) (fun x=>([]:Own)) (fun x=>2 - x) (0) ?_ ?_ ?_);exact (⟨by omega,by omega,by omega⟩);(simp [Sub,get,keepL]<;>fail);(try simp only [List.cons_append,List.nil_append]);refine pl_ ?_;intro k ⟨hk,ha,hb0⟩;(try simp only [List.cons_append,List.nil_append]);rcases (show k=0\/k=1\/k=2 by omega) with rfl | rfl | rfl)
  | refine g_ ?_
  | ((with_reducible refine And.intro ?_ ?_);(exact sv))
  | (refine DW.cond (by rfl) ?_ ?_<;>(first | exact i0_ | (refine ic_ ?_;intro hb)))
  | ((with_reducible refine FVg_cases ?_ ?_)<;>(intro hb;rw [hb];revert hb;(first | exact i0_ | (refine i_ ?_;intro hb))))
  | refine r_ ?_
  | refine k_ ?_
  | refine o_ ?_
  | refine f_ ?_
  | with_reducible intro b)
 all_goals first
 | (refine ⟨1,?_,?_,?_,?_⟩;(((try simp only);omega));(((try simp only);omega));(simp [Sub,get]<;>(fail));(try dsimp only);(exact sub_))
 | (refine ⟨2,?_,?_,?_,?_⟩;(((try simp only);omega));(((try simp only);omega));(simp [Sub,get]<;>(fail));(try dsimp only);(exact sub_))
 | ((first | exact fin_ | refine finq_ ?_);unfold orI;simp_all;done)
theorem lives_dc (a1 a2 a3 b1 b2 b3:Int) (F:Own):(True)->DC Tryz.prog 125 [.agg [.int .i64 a1, .int .i64 a2, .int .i64 a3], .agg [.int .i64 b1, .int .i64 b2, .int .i64 b3]] (([]:Own)++F) fun d G=>d = .int .i64 (livesI ⟨a1,a2,a3⟩ ⟨b1,b2,b3⟩)/\G=[]++F:=by
 intro hA
 refine DC.bodyS (n_:=17) (show Tryz.prog.funcs[125]? = some Tryz.f125 by kernel_rfl) rfl rfl (by rfl) ?_
 simp only [env0,List.cons_append,List.nil_append]
 have kw:=ksIs [0,1,2,3,4]
 have ow:=ownIs []
 have dw1:=drIs 1 [] [1,3,4,6,8,9,11]
 repeat' (first
  | refine g_ ?_
  | ((with_reducible refine And.intro ?_ ?_);(exact sv))
  | (refine DW.cond (by rfl) ?_ ?_<;>(first | exact i0_ | (refine ic_ ?_;intro hb)))
  | ((with_reducible first | refine FVg_cases ?_ ?_ | refine FDg_cases ?_ ?_)<;>(intro hb;rw [hb];revert hb;(first | exact i0_ | (refine i_ ?_;intro hb))))
  | refine r_ ?_
  | refine d_ ?_
  | refine k_ ?_
  | ((refine dm_ ?_);(first | (refine v_ (cmpi_dc _ _ _) ?_) | (refine v_ (or2_dc _ _ _) ?_)))
  | refine vo_ ?_
  | (refine q_ (cmpi_dc _ _ _) ?_)
  | (refine q_ (or2_dc _ _ _) ?_)
  | refine o_ ?_
  | refine f_ ?_
  | refine vm_ ?_
  | with_reducible intro b)
 all_goals
  refine ⟨_,_,le.of_eq ?_,⟨rfl,rfl⟩,SubP.refl⟩
  rfl
theorem may_dc (a1 a2 a3:Int) (F:Own):(True)->DC Tryz.prog 124 [.agg [.int .i64 a1, .int .i64 a2, .int .i64 a3]] (([]:Own)++F) fun d G=>d = .bool (oneB ⟨a1,a2,a3⟩)/\G=[]++F:=by
 intro hA
 refine DC.bodyS (n_:=21) (show Tryz.prog.funcs[124]? = some Tryz.f124 by kernel_rfl) rfl rfl (by rfl) ?_
 simp only [env0,List.cons_append,List.nil_append]
 have kw:=ksIs [0,1,2]
 have ow:=ownIs []
 repeat' (first
  | refine g_ ?_
  | ((with_reducible refine And.intro ?_ ?_);(exact sv))
  | (refine DW.cond (by rfl) ?_ ?_<;>(first | exact i0_ | (refine ic_ ?_;intro hb)))
  | ((with_reducible refine FVg_cases ?_ ?_)<;>(intro hb;rw [hb];revert hb;(first | exact i0_ | (refine i_ ?_;intro hb))))
  | refine r_ ?_
  | refine k_ ?_
  | refine o_ ?_
  | refine f_ ?_
  | with_reducible intro b)
 all_goals
  refine ⟨_,_,le.of_eq ?_,⟨rfl,rfl⟩,SubP.refl⟩
  unfold oneB pairB
  simp_all<;>omega
end
end Go.Proofs.YtbmbcjmgjdnlnaaGreatDoor
