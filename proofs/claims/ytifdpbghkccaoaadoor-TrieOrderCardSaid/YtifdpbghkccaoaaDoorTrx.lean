/- The trie: who is told does not hang on who came first (the walk). -/
import Derived.Test.YtifdpbghkccaoaaDoorTnx
import Derived.KernelRfl
namespace Go.Proofs.YtifdpbghkccaoaaDoor
open Go.RowKit
set_option linter.unusedSimpArgs false
set_option linter.unusedVariables false
set_option linter.unusedSectionVars false
set_option maxHeartbeats 4000000
set_option maxRecDepth 100000
section
attribute [local irreducible] DW SeqD DV DOp DC DVX ownT filT topT matchL filtersL fsV
theorem sv_trieOrder_dc {p:Prop} (h:p:=by first | exact sv | exact ⟨by omega,by omega,fsV_n _ _⟩ | exact ⟨hs,ks_len hI (by omega),hrf.1,by decide⟩ | exact ⟨hu,ks_len hJ (by omega),hrf.1,by decide⟩ | exact ⟨hs,ks_len hKa (by omega),hnn.1⟩ | exact ⟨hu,ks_len hKb (by omega),hnn.1⟩ | exact ⟨hs,ks_len hKa (by omega)⟩ | exact ⟨hu,ks_len hKb (by omega)⟩ | exact trivial | exact ⟨Nat.le_trans (filtersL_len _) (Nat.le_trans (ks_len hKa (by omega)) (by decide)),Nat.le_trans (filtersL_len _) (Nat.le_trans (ks_len hKb (by omega)) (by decide))⟩ | exact ⟨Nat.le_trans (filtersL_len _) (Nat.le_trans (ks_len hKb (by omega)) (by decide)),Nat.le_trans (filtersL_len _) (Nat.le_trans (ks_len hKb (by omega)) (by decide))⟩ | fail):p:=h
theorem s_trieOrder_dc {P Q:Prop} (q:Q) (h:Hid Q->P:=by (intro q;simp (maxSteps:=1000000) (disch:=omega) only [push_cast,↓reduceIte,reduceCtorEq,Nat.reduceAdd,Nat.reduceMul,Nat.reduceLT,Nat.reduceLeDiff,Nat.reduceEqDiff,Nat.reduceSub,Int.reduceToNat,Int.reduceLT,Int.reduceLE,Int.reduceAdd,Int.reduceSub,Int.reduceMul,Int.reduceNeg,Nat.reduceBEq,Int.reduceBEq,Int.reduceBNe,Nat.reduceBNe,Int.reduceEq,encAct,encHit,hkm,hll,hfl,hxl,fsV_s,fsV_at,fsV_len];exact q.1)):P:=h ⟨q⟩
section
attribute [local push_cast 2000] encAct encHit fsV_s fsV_at fsV_len
theorem trieOrder_dc (m:Int) (l:List TAct) (n:Int) (F:Own):((∀ a∈l,actR a)/\(0<=n/\n<=255))->DC Tryd.prog 5 [.sl (l.map encAct), .int .u8 n] ([loose,knF,knA,knM m]++F) fun d G=>d = .bool true/\G=[loose,knF,knA,knM m]++F:=by
 intro hA
 obtain ⟨hl,hnn⟩:=hA
 refine DC.bodyS (n_:=149) (show Tryd.prog.funcs[5]? = some Tryd.f5 by kernel_rfl) rfl rfl (by rfl) ?_
 simp only [env0,List.append_assoc,List.cons_append,List.nil_append]
 have kw:=ksIs [0,1,4,5,6,7,8,9,10,11,12,14,17,23,61,113,117,148]
 have ow:=ownIs []
 have dw11:=drIs 11 [21] [4,10,13,18]
 have dw15:=drIs 15 [21] [4,10,13,18]
 have dw22:=drIs 22 [] [4,9,20,25]
 refine DW.tail0 1 ?_
 have hkm:True:=trivial
 have hll:True:=trivial
 have hfl:True:=trivial
 have hxl:True:=trivial
 repeat' (first
  | ((have zz:=hL1);(refine p_ (newX_dc _) ?_);(rintro d H1 ⟨tb,s0,⟨hs0,hL0⟩,rfl,rfl⟩);refine s_trieOrder_dc ?_)
  | ((with_reducible refine DW.loopB 0 (X:=Nat×TS×Value) (fun x=>x.1<=l.length/\TOK x.2.1/\KS l 0 x.1 x.2.1.L) (fun x=>[(0, .sl (l.map encAct)),(1, .int .u8 n),(5, .raw (.pointer (some ⟨ta,0,none⟩))),(6, .raw (.pointer (some ⟨tb,0,none⟩))),(7, .gs x.2.2 (fsV l x.1)),(8, .int .i64 x.1)]) (fun x=>.tail 1 x.2.2::knF::knA::knM m::(ownT ta x.2.1++(ownT tb s0++[]))) (fun x=>l.length - x.1) ((0,s1, .slice none 0 0)) ?_ ?_ ?_);exact (⟨Nat.zero_le _,hs1,by rw [hL1];exact ks_0 l 0⟩);(simp [Sub,get,keepL,fsV_0]<;>fail);(try simp only [List.append_assoc,List.cons_append,List.nil_append]);refine pl_ ?_;intro ⟨i,s,v⟩ ⟨hi,hs,hI⟩;(try simp only [List.append_assoc,List.cons_append,List.nil_append]);(try simp only at hi hs hI);have hr:=act_r hl i;have hrk:=hr.2.1;have hrf:=hr.2.2.1;have q0:=Int.tmod_nonneg 3 hrf.1;have q1:=Int.tmod_lt_of_pos (l.getD i default).f (show (0:Int)<3 by decide);have q2:=Int.tmod_nonneg 2 hrk.1;have q3:=Int.tmod_lt_of_pos (l.getD i default).k (show (0:Int)<2 by decide);by_cases hil:i<l.length;(rcases (show (l.getD i default).k.tmod 2=0\/(l.getD i default).k.tmod 2=1 by omega) with hkm | hkm))
  | ((with_reducible refine DW.loopB 2 (X:=Int×TS) (fun x=>-1<=x.1/\x.1<l.length/\TOK x.2/\KS l (x.1+1).toNat l.length x.2.L) (fun x=>[(0, .sl (l.map encAct)),(1, .int .u8 n),(5, .raw (.pointer (some ⟨ta,0,none⟩))),(6, .raw (.pointer (some ⟨tb,0,none⟩))),(7, .gs v (fsV l i)),(9, .int .i64 x.1)]) (fun x=>.tail 1 v::knF::knA::knM m::(ownT ta s++(ownT tb x.2++[]))) (fun x=>(x.1+1).toNat) (((l.length:Int) - 1,s0)) ?_ ?_ ?_);exact (⟨by (try simp only);omega,by (try simp only);omega,hs0,by rw [hL0];(rw [show ((l.length:Int) - 1+1).toNat=l.length by omega]);exact ks_0 l _⟩);(simp [Sub,get,keepL]<;>fail);(try simp only [List.append_assoc,List.cons_append,List.nil_append]);refine pl_ ?_;intro ⟨z,u⟩ ⟨hz1,hz2,hu,hJ⟩;(try simp only [List.append_assoc,List.cons_append,List.nil_append]);(try simp only at hz1 hz2 hu hJ);(have hKa:KS l 0 l.length s.L:=by (have e:i=l.length:=by omega);(subst e);exact hI);by_cases hz0:z<0;((have hKb:KS l 0 l.length u.L:=by (rw [show (z+1).toNat=0 by omega] at hJ);exact hJ);(obtain ⟨hml,hll,hfl⟩:=ks_all hs.nd hu.nd hKa hKb (topT n));(have hxl:(matchL s.L (topT n)).length=(matchL u.L (topT n)).length:=by (have e:=congrArg List.length hml);simpa using e));rotate_left 1;(have hr:=act_r hl z.toNat;have hrk:=hr.2.1;have hrf:=hr.2.2.1;have q0:=Int.tmod_nonneg 3 hrf.1;have q1:=Int.tmod_lt_of_pos (l.getD z.toNat default).f (show (0:Int)<3 by decide);have q2:=Int.tmod_nonneg 2 hrk.1;have q3:=Int.tmod_lt_of_pos (l.getD z.toNat default).k (show (0:Int)<2 by decide);(rcases (show (l.getD z.toNat default).k.tmod 2=0\/(l.getD z.toNat default).k.tmod 2=1 by omega) with hkm | hkm)))
  | ((with_reducible refine DW.loopB 4 (X:=Nat) (fun x=>x<=(matchL u.L (topT n)).length) (fun x=>[(10, .sl ((matchL s.L (topT n)).map encHit)),(11, .sl ((matchL u.L (topT n)).map encHit)),(12, .int .i64 x)]) (fun x=>([]:Own)) (fun x=>(matchL u.L (topT n)).length - x) (0) ?_ ?_ ?_);exact (Nat.zero_le _);(simp [Sub,get,keepL]<;>fail);(try simp only [List.append_assoc,List.cons_append,List.nil_append]);refine pl_ ?_;intro k hk;(try simp only [List.append_assoc,List.cons_append,List.nil_append]);(try simp only at hk);(have hke:=keys_get hml k);(have hyz:=Nat.le_trans (matchL_len u.L (topT n)) (ks_len hKb (by omega)));(have hku:0<k->k<(matchL s.L (topT n)).length->Op.bytesLess ((matchL s.L (topT n)).getD ((k:Int) - 1).toNat default).1 ((matchL s.L (topT n)).getD k default).1=true:=fun h0 h1=>keys_pre (matchL_up _ _) h0 h1))
  | refine g_ ?_
  | ((with_reducible refine And.intro ?_ ?_);(exact sv_trieOrder_dc))
  | (refine DW.cond (by rfl) ?_ ?_<;>(first | exact i0_ | (intro hb;(try simp only [↓reduceCtorEq,not_true_eq_false,not_false_eq_true,hbs,Int.reduceBEq,Int.reduceBNe,Int.reduceEq] at hb);(try refine s_trieOrder_dc ?_))))
  | ((with_reducible first | refine FVg_cases ?_ ?_ | refine FDg_cases ?_ ?_)<;>(intro hb;rw [hb];revert hb;(first | exact i0_ | (intro hb;(try simp only [↓reduceCtorEq,not_true_eq_false,not_false_eq_true,hbs,Int.reduceBEq,Int.reduceBNe,Int.reduceEq] at hb);(try refine s_trieOrder_dc ?_)))))
  | ((first | refine rn_ ?_ | refine dn_ ?_ | refine kn_ ?_)<;>(refine s_trieOrder_dc ?_))
  | ((refine dm_ ?_);(first | ((first | refine v_ (known7_dc _ _) ?_ (ha:=by exact sv_trieOrder_dc) (hk:=fun q=>q.1) | refine v_ (fil7_dc _ _) ?_ (ha:=by exact sv_trieOrder_dc) (hk:=fun q=>q.1) | refine v_ (top7_dc _ _) ?_ (ha:=by exact sv_trieOrder_dc) (hk:=fun q=>q.1) | refine v_ (omat_dc _ _ _ _ _) ?_ (ha:=by exact sv_trieOrder_dc) (hk:=fun q=>q.1) | refine v_ (ofil_dc _ _ _) ?_ (ha:=by exact sv_trieOrder_dc) (hk:=fun q=>q.1) | refine v_ (tlen_dc _ _ _) ?_ (ha:=by exact sv_trieOrder_dc) (hk:=fun q=>q.1) | refine v_ (strsH_dc _ _ _) ?_ (ha:=by exact sv_trieOrder_dc) (hk:=fun q=>q.1));refine s_trieOrder_dc ?_)))
  | ((refine von_ ?_);refine s_trieOrder_dc ?_)
  | ((first | refine q_ (known7_dc _ _) ?_ (ha:=by exact sv_trieOrder_dc) (hk:=fun q=>q.1) | refine q_ (fil7_dc _ _) ?_ (ha:=by exact sv_trieOrder_dc) (hk:=fun q=>q.1) | refine q_ (top7_dc _ _) ?_ (ha:=by exact sv_trieOrder_dc) (hk:=fun q=>q.1) | refine q_ (omat_dc _ _ _ _ _) ?_ (ha:=by exact sv_trieOrder_dc) (hk:=fun q=>q.1) | refine q_ (ofil_dc _ _ _) ?_ (ha:=by exact sv_trieOrder_dc) (hk:=fun q=>q.1) | refine q_ (tlen_dc _ _ _) ?_ (ha:=by exact sv_trieOrder_dc) (hk:=fun q=>q.1) | refine q_ (strsH_dc _ _ _) ?_ (ha:=by exact sv_trieOrder_dc) (hk:=fun q=>q.1));refine s_trieOrder_dc ?_)
  | (refine p_ (newX_dc _) ?_ (ha:=by exact sv_trieOrder_dc);rintro d H1 ⟨ta,s1,⟨hs1,hL1⟩,rfl,rfl⟩<;>refine s_trieOrder_dc ?_)
  | (refine p_ (oput_dc _ _ _ _ _ _ _) ?_ (ha:=by exact sv_trieOrder_dc);rintro d H1 ⟨s2,⟨hs2,hL2⟩,rfl,rfl⟩<;>refine s_trieOrder_dc ?_)
  | ((refine on_ ?_);refine s_trieOrder_dc ?_)
  | refine f_ ?_
  | refine vm_ ?_
  | with_reducible intro b)
 all_goals first
 | ((first | exact fin_ | refine finq_ ?_);done)
 | (refine ⟨(i+1,s2,b),⟨by (try simp only);omega,hs2,by (try simp only);(rw [hL2,<-pairT_0 hkm]);exact ks_up hI (Nat.zero_le _)⟩,by (try simp only);omega,by simp [Sub,get],?_⟩;((try dsimp only);exact sub_);done)
 | (refine ⟨(i+1,s2,b),⟨by (try simp only);omega,hs2,by (try simp only);(rw [hL2,<-pairT_1 hkm]);exact ks_up hI (Nat.zero_le _)⟩,by (try simp only);omega,by simp [Sub,get],?_⟩;((try dsimp only);exact sub_);done)
 | (refine ⟨(z - 1,s2),⟨by (try simp only);omega,by (try simp only);omega,hs2,by (try simp only);(rw [hL2,<-pairT_0 hkm,show (z - 1+1).toNat=z.toNat by omega]);exact ks_down (by (rw [show z.toNat+1=(z+1).toNat by omega]);exact hJ) (by omega)⟩,by (try simp only);omega,by simp [Sub,get],?_⟩;((try dsimp only);exact sub_);done)
 | (refine ⟨(z - 1,s2),⟨by (try simp only);omega,by (try simp only);omega,hs2,by (try simp only);(rw [hL2,<-pairT_1 hkm,show (z - 1+1).toNat=z.toNat by omega]);exact ks_down (by (rw [show z.toNat+1=(z+1).toNat by omega]);exact hJ) (by omega)⟩,by (try simp only);omega,by simp [Sub,get],?_⟩;((try dsimp only);exact sub_);done)
 | (exfalso;exact hb hke)
 | (refine ⟨k+1,by omega,by omega,by simp [Sub,get],?_⟩;((try dsimp only);exact sub_);done)
 | (exact absurd (hku (by omega) (by omega)) (by rw [hb];decide))
 | (exfalso;omega)
 | (trace_state;fail)
end
end
end Go.Proofs.YtifdpbghkccaoaaDoor
