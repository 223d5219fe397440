/- The program finds just those tables alike that are. -/
import Derived.Test.YtifdpbghkccaoaaGreatDoorMjx
import Derived.Test.YtifdpbghkccaoaaGreatDoorPt7x
import Derived.KernelRfl
namespace Go.Proofs.YtifdpbghkccaoaaGreatDoor
open Go.RowKit
set_option linter.unusedSimpArgs false
set_option linter.unusedVariables false
set_option linter.unusedSectionVars false
set_option maxHeartbeats 4000000
set_option maxRecDepth 100000
section
structure Few (m:Nat) (t:TTable):Prop where
 s:t.seen.length<=m
 f:t.fences.length<=m
 r:t.routes.length<=m
 c:t.cells.length<=m
attribute [local irreducible] DW SeqD DV DOp DC DVX DVJ
theorem palike_dc (a1 a2 a3 a4 a5 a6:Int) (a7 a8:Str) (a9:Int) (a10:Bool) (b1 b2 b3 b4 b5 b6:Int) (b7 b8:Str) (b9:Int) (b10:Bool) (F:Own):(True)->DC Tryz.prog 40 [.agg [.int .i64 a1, .int .i64 a2, .int .i64 a3, .int .i64 a4, .int .i64 a5, .int .i64 a6, .str a7, .sl (a8.map u8), .int .i64 a9, .bool a10], .agg [.int .i64 b1, .int .i64 b2, .int .i64 b3, .int .i64 b4, .int .i64 b5, .int .i64 b6, .str b7, .sl (b8.map u8), .int .i64 b9, .bool b10]] (([]:Own)++F) fun d G=>d = .bool (sameC (⟨⟨a1,a2,a3⟩,⟨a4,a5,a6⟩,a7,a8,a9,a10⟩:TCell) (⟨⟨b1,b2,b3⟩,⟨b4,b5,b6⟩,b7,b8,b9,b10⟩:TCell))/\G=[]++F:=by
 intro hA
 refine DC.bodyS (n_:=45) (show Tryz.prog.funcs[40]? = some Tryz.f40 by kernel_rfl) rfl rfl (by rfl) ?_
 simp only [env0,List.cons_append,List.nil_append]
 have kw:=ksIs [0,1,2,3,4]
 have ow:=ownIs []
 repeat' (first
  | refine g_ ?_
  | ((with_reducible refine And.intro ?_ ?_);(exact sv))
  | (refine DW.cond (by rfl) ?_ ?_<;>(first | exact i0_ | (refine ic_ ?_;intro hb)))
  | ((with_reducible refine FVg_cases ?_ ?_)<;>(intro hb;rw [hb];revert hb;(first | exact i0_ | (refine i_ ?_;intro hb))))
  | refine r_ ?_
  | refine k_ ?_
  | (refine q_ (eqb_dc _ _ _) ?_)
  | refine o_ ?_
  | refine f_ ?_
  | with_reducible intro b)
 all_goals first
 | ((refine ⟨_,_,le.of_eq ?_,⟨rfl,rfl⟩,?_⟩);(unfold sameC;congr 1;rw [Bool.eq_iff_iff];simp_all [and_assoc]);(exact sub_);done)
section
attribute [local push_cast 2000] encDot
theorem peqDot_dc (a b:List TDot) (F:Own):(a.length<=1000000000/\b.length<=1000000000)->DC Tryz.prog 36 [.sl (a.map encDot), .sl (b.map encDot)] (([]:Own)++F) fun d G=>d = .bool (decide (a=b))/\G=[]++F:=by
 intro hA
 obtain ⟨hla,hlb⟩:=hA
 refine DC.bodyS (n_:=26) (show Tryz.prog.funcs[36]? = some Tryz.f36 by kernel_rfl) rfl rfl (by rfl) ?_
 simp only [env0,List.cons_append,List.nil_append]
 have kw:=ksIs [0,1,4,5,10,12,13,14,24]
 have ow:=ownIs []
 have dw6:=drIs 6 [] [3,7]
 repeat' (first
  | ((with_reducible refine DW.loopB 0 (X:=Nat) (fun x=>x<=a.length/\eqK a b x) (fun x=>[(0, .sl (a.map encDot)),(1, .sl (b.map encDot)),(12, .int .i64 a.length),(13, .int .i64 x)]) (fun x=>([]:Own)) (fun x=>a.length - x) (0) ?_ ?_ ?_);exact (⟨Nat.zero_le _,eqK_0 _ _⟩);(simp [Sub,get,keepL]<;>fail);(try simp only [List.cons_append,List.nil_append]);refine pl_ ?_;intro k ⟨hk,ek⟩;(try simp only [List.cons_append,List.nil_append]))
  | refine g_ ?_
  | ((with_reducible refine And.intro ?_ ?_);(exact sv))
  | (refine DW.cond (by rfl) ?_ ?_<;>(first | exact i0_ | (refine ic_ ?_;intro hb)))
  | ((with_reducible first | refine FVg_cases ?_ ?_ | refine FDg_cases ?_ ?_)<;>(intro hb;rw [hb];revert hb;(first | exact i0_ | (refine i_ ?_;intro hb))))
  | refine r_ ?_
  | refine d_ ?_
  | refine k_ ?_
  | refine vo_ ?_
  | refine o_ ?_
  | refine f_ ?_
  | refine vm_ ?_
  | with_reducible intro b)
 all_goals first
 | ((rw [show decide (a=b)=true from decide_eq_true (eqK_all ek (by omega) (by omega))];(first | exact fin_ | refine finq_ ?_);done))
 | (refine ⟨k+1,⟨by omega,eqK_s ek ?_⟩,by omega,by simp [Sub,get],?_⟩;rotate_left;(exact sub_);(exact dot_ext hb);done)
 | ((rw [show decide (a=b)=false from decide_eq_false (fun e=>by subst e;first | (exact absurd rfl hb) | (exact absurd rfl (sameC_f hb)) | (simp at hb;done) | omega)];(first | exact fin_ | refine finq_ ?_);done))
end
section
attribute [local push_cast 2000] encFence
theorem peqFence_dc (a b:List TFence) (F:Own):(a.length<=1000000000/\b.length<=1000000000)->DC Tryz.prog 37 [.sl (a.map encFence), .sl (b.map encFence)] (([]:Own)++F) fun d G=>d = .bool (decide (a=b))/\G=[]++F:=by
 intro hA
 obtain ⟨hla,hlb⟩:=hA
 refine DC.bodyS (n_:=26) (show Tryz.prog.funcs[37]? = some Tryz.f37 by kernel_rfl) rfl rfl (by rfl) ?_
 simp only [env0,List.cons_append,List.nil_append]
 have kw:=ksIs [0,1,4,5,10,12,13,14,24]
 have ow:=ownIs []
 have dw6:=drIs 6 [] [3,7]
 repeat' (first
  | ((with_reducible refine DW.loopB 0 (X:=Nat) (fun x=>x<=a.length/\eqK a b x) (fun x=>[(0, .sl (a.map encFence)),(1, .sl (b.map encFence)),(12, .int .i64 a.length),(13, .int .i64 x)]) (fun x=>([]:Own)) (fun x=>a.length - x) (0) ?_ ?_ ?_);exact (⟨Nat.zero_le _,eqK_0 _ _⟩);(simp [Sub,get,keepL]<;>fail);(try simp only [List.cons_append,List.nil_append]);refine pl_ ?_;intro k ⟨hk,ek⟩;(try simp only [List.cons_append,List.nil_append]))
  | refine g_ ?_
  | ((with_reducible refine And.intro ?_ ?_);(exact sv))
  | (refine DW.cond (by rfl) ?_ ?_<;>(first | exact i0_ | (refine ic_ ?_;intro hb)))
  | ((with_reducible first | refine FVg_cases ?_ ?_ | refine FDg_cases ?_ ?_)<;>(intro hb;rw [hb];revert hb;(first | exact i0_ | (refine i_ ?_;intro hb))))
  | refine r_ ?_
  | refine d_ ?_
  | refine k_ ?_
  | refine vo_ ?_
  | refine o_ ?_
  | refine f_ ?_
  | refine vm_ ?_
  | with_reducible intro b)
 all_goals first
 | ((rw [show decide (a=b)=true from decide_eq_true (eqK_all ek (by omega) (by omega))];(first | exact fin_ | refine finq_ ?_);done))
 | (refine ⟨k+1,⟨by omega,eqK_s ek ?_⟩,by omega,by simp [Sub,get],?_⟩;rotate_left;(exact sub_);(exact fence_ext hb);done)
 | ((rw [show decide (a=b)=false from decide_eq_false (fun e=>by subst e;first | (exact absurd rfl hb) | (exact absurd rfl (sameC_f hb)) | (simp at hb;done) | omega)];(first | exact fin_ | refine finq_ ?_);done))
end
section
attribute [local push_cast 2000] encRoute
theorem peqRoute_dc (a b:List TRoute) (F:Own):(a.length<=1000000000/\b.length<=1000000000)->DC Tryz.prog 38 [.sl (a.map encRoute), .sl (b.map encRoute)] (([]:Own)++F) fun d G=>d = .bool (decide (a=b))/\G=[]++F:=by
 intro hA
 obtain ⟨hla,hlb⟩:=hA
 refine DC.bodyS (n_:=26) (show Tryz.prog.funcs[38]? = some Tryz.f38 by kernel_rfl) rfl rfl (by rfl) ?_
 simp only [env0,List.cons_append,List.nil_append]
 have kw:=ksIs [0,1,4,5,10,12,13,14,24]
 have ow:=ownIs []
 have dw6:=drIs 6 [] [3,7]
 repeat' (first
  | ((with_reducible refine DW.loopB 0 (X:=Nat) (fun x=>x<=a.length/\eqK a b x) (fun x=>[(0, .sl (a.map encRoute)),(1, .sl (b.map encRoute)),(12, .int .i64 a.length),(13, .int .i64 x)]) (fun x=>([]:Own)) (fun x=>a.length - x) (0) ?_ ?_ ?_);exact (⟨Nat.zero_le _,eqK_0 _ _⟩);(simp [Sub,get,keepL]<;>fail);(try simp only [List.cons_append,List.nil_append]);refine pl_ ?_;intro k ⟨hk,ek⟩;(try simp only [List.cons_append,List.nil_append]))
  | refine g_ ?_
  | ((with_reducible refine And.intro ?_ ?_);(exact sv))
  | (refine DW.cond (by rfl) ?_ ?_<;>(first | exact i0_ | (refine ic_ ?_;intro hb)))
  | ((with_reducible first | refine FVg_cases ?_ ?_ | refine FDg_cases ?_ ?_)<;>(intro hb;rw [hb];revert hb;(first | exact i0_ | (refine i_ ?_;intro hb))))
  | refine r_ ?_
  | refine d_ ?_
  | refine k_ ?_
  | refine vo_ ?_
  | refine o_ ?_
  | refine f_ ?_
  | refine vm_ ?_
  | with_reducible intro b)
 all_goals first
 | ((rw [show decide (a=b)=true from decide_eq_true (eqK_all ek (by omega) (by omega))];(first | exact fin_ | refine finq_ ?_);done))
 | (refine ⟨k+1,⟨by omega,eqK_s ek ?_⟩,by omega,by simp [Sub,get],?_⟩;rotate_left;(exact sub_);(exact route_ext hb);done)
 | ((rw [show decide (a=b)=false from decide_eq_false (fun e=>by subst e;first | (exact absurd rfl hb) | (exact absurd rfl (sameC_f hb)) | (simp at hb;done) | omega)];(first | exact fin_ | refine finq_ ?_);done))
end
section
attribute [local push_cast 2000] encCell cell_eta
theorem peqCell_dc (p q:List TCell) (F:Own):(p.length<=1000000000/\q.length<=1000000000)->DC Tryz.prog 39 [.sl (p.map encCell), .sl (q.map encCell), .fn (.func 40) [] []] (([]:Own)++F) fun d G=>d = .bool (decide (p=q))/\G=[]++F:=by
 intro hA
 obtain ⟨hla,hlb⟩:=hA
 refine DC.bodyS (n_:=32) (show Tryz.prog.funcs[39]? = some Tryz.f39 by kernel_rfl) rfl rfl (by rfl) ?_
 simp only [env0,List.cons_append,List.nil_append]
 have kw:=ksIs [0,1,2,6,7,8,9,14,15,16,17,18,30]
 have ow:=ownIs []
 repeat' (first
  | ((with_reducible refine DW.loopB 0 (X:=Nat) (fun x=>x<=p.length/\eqK p q x) (fun x=>[(1, .sl (q.map encCell)),(2, .fn (.func 40) [] []),(15, .sl (p.map encCell)),(16, .int .i64 p.length),(17, .int .i64 x)]) (fun x=>([]:Own)) (fun x=>p.length - x) (0) ?_ ?_ ?_);exact (⟨Nat.zero_le _,eqK_0 _ _⟩);(simp [Sub,get,keepL]<;>fail);(try simp only [List.cons_append,List.nil_append]);refine pl_ ?_;intro k ⟨hk,ek⟩;(try simp only [List.cons_append,List.nil_append]))
  | refine g_ ?_
  | ((with_reducible refine And.intro ?_ ?_);(exact sv))
  | (refine DW.cond (by rfl) ?_ ?_<;>(first | exact i0_ | (refine ic_ ?_;intro hb)))
  | ((with_reducible refine FVg_cases ?_ ?_)<;>(intro hb;rw [hb];revert hb;(first | exact i0_ | (refine i_ ?_;intro hb))))
  | refine r_ ?_
  | refine k_ ?_
  | (refine q_ (palike_dc _ _ _ _ _ _ _ _ _ _ _ _ _ _ _ _ _ _ _ _ _) ?_)
  | refine o_ ?_
  | refine f_ ?_
  | with_reducible intro b)
 all_goals first
 | ((rw [show decide (p=q)=true from decide_eq_true (eqK_all ek (by omega) (by omega))];(first | exact fin_ | refine finq_ ?_);done))
 | (refine ⟨k+1,⟨by omega,eqK_s ek ?_⟩,by omega,by simp [Sub,get],?_⟩;rotate_left;(exact sub_);(exact sameC_t hb);done)
 | ((rw [show decide (p=q)=false from decide_eq_false (fun e=>by subst e;first | (exact absurd rfl hb) | (exact absurd rfl (sameC_f hb)) | (simp at hb;done) | omega)];(first | exact fin_ | refine finq_ ?_);done))
end
theorem sv_psame_dc {p:Prop} (h:p:=by first | exact sv | exact ⟨hLa.s,hLb.s⟩ | exact ⟨hLa.f,hLb.f⟩ | exact ⟨hLa.r,hLb.r⟩ | exact ⟨hLa.c,hLb.c⟩ | fail):p:=h
theorem psame_dc (a b:TTable) (F:Own):(Few 1000000000 a/\Few 1000000000 b)->DC Tryz.prog 11 [.agg [.sl (a.seen.map encDot), .sl (a.fences.map encFence), .sl (a.routes.map encRoute), .sl (a.cells.map encCell)], .agg [.sl (b.seen.map encDot), .sl (b.fences.map encFence), .sl (b.routes.map encRoute), .sl (b.cells.map encCell)]] (([]:Own)++F) fun d G=>d = .bool (decide (a=b))/\G=[]++F:=by
 intro hA
 obtain ⟨hLa,hLb⟩:=hA
 refine DC.bodyS (n_:=31) (show Tryz.prog.funcs[11]? = some Tryz.f11 by kernel_rfl) rfl rfl (by rfl) ?_
 simp only [env0,List.cons_append,List.nil_append]
 have kw:=ksIs [0,1,2,3,4]
 have ow:=ownIs []
 repeat' (first
  | refine g_ ?_
  | ((with_reducible refine And.intro ?_ ?_);(exact sv_psame_dc))
  | (refine DW.cond (by rfl) ?_ ?_<;>(first | exact i0_ | (refine ic_ ?_;intro hb)))
  | ((with_reducible refine FVg_cases ?_ ?_)<;>(intro hb;rw [hb];revert hb;(first | exact i0_ | (refine i_ ?_;intro hb))))
  | refine r_ ?_
  | refine k_ ?_
  | (refine q_ (peqDot_dc _ _ _) ?_ (ha:=by exact sv_psame_dc))
  | (refine q_ (peqFence_dc _ _ _) ?_ (ha:=by exact sv_psame_dc))
  | (refine q_ (peqRoute_dc _ _ _) ?_ (ha:=by exact sv_psame_dc))
  | (refine q_ (peqCell_dc _ _ _) ?_ (ha:=by exact sv_psame_dc))
  | refine o_ ?_
  | refine f_ ?_
  | with_reducible intro b)
 all_goals first
 | ((rw [show decide (a=b)=false from decide_eq_false (fun e=>by subst e;exact absurd rfl hb)];(first | exact fin_ | refine finq_ ?_);done))
 | ((rw [show decide (a=b)=decide (a.cells=b.cells) from (by obtain ⟨_,_,_,_⟩:=a;obtain ⟨_,_,_,_⟩:=b;simp_all)];(first | exact fin_ | refine finq_ ?_);done))
 | ((refine ⟨_,_,le.of_eq ?_,⟨rfl,rfl⟩,?_⟩);(focus (congr 1;obtain ⟨_,_,_,_⟩:=a;obtain ⟨_,_,_,_⟩:=b;simp_all;done));(exact sub_);done)
 | (trace_state;fail)
end
end Go.Proofs.YtifdpbghkccaoaaGreatDoor
