/- The trie: who dropped all is told nothing (the walk). -/
import Derived.Test.YtifdpbghkccaoaaDoorTnx
import Derived.KernelRfl
namespace Go.Proofs.YtifdpbghkccaoaaDoor
open Go.RowKit
set_option linter.unusedSimpArgs false
set_option linter.unusedVariables false
set_option linter.unusedSectionVars false
set_option maxHeartbeats 4000000
set_option maxRecDepth 100000
section
attribute [local irreducible] DW SeqD DV DOp DC DVX ownT filT topT matchL filtersL
theorem sv_trieNone_dc {p:Prop} (h:p:=by first | exact sv | exact ⟨hs,ni_len hI (by omega),hrf.1⟩ | exact ⟨hs2,by rw [hL2];exact ni_len (ni_putk hI) (by omega),hrk.1⟩ | exact ⟨hu,ni_len hJ (by omega),hrf.1⟩ | exact ⟨hu,ni_len hJ (by omega),hnn.1,ni_mat hJ (by omega) _⟩ | exact ⟨hw,ni_len hK (by omega),hrk.1⟩ | exact ni_end hK (by omega) (by omega) | exact ⟨hw,ni_end hK (by omega) (by omega)⟩ | exact ⟨hw,ni_end hK (by omega) (by omega),hnn.1⟩ | fail):p:=h
section
attribute [local push_cast 2000] encAct
theorem trieNone_dc (m:Int) (l:List TAct) (n:Int) (F:Own):((∀ a∈l,actR a)/\(0<=n/\n<=255))->DC Tryd.prog 4 [.sl (l.map encAct), .int .u8 n] ([loose,knF,knA,knM m]++F) fun d G=>d = .bool true/\G=[loose,knF,knA,knM m]++F:=by
 intro hA
 obtain ⟨hl,hnn⟩:=hA
 refine DC.bodyS (n_:=116) (show Tryd.prog.funcs[4]? = some Tryd.f4 by kernel_rfl) rfl rfl (by rfl) ?_
 simp only [env0,List.append_assoc,List.cons_append,List.nil_append]
 have kw:=ksIs [0,1,4,5,6,7,8,9,11,14,19,48,84,88]
 have ow:=ownIs []
 have dw9:=drIs 9 [14] [5,6,11]
 repeat' (first
  | ((with_reducible refine DW.loopB 0 (X:=Nat×TS) (fun x=>x.1<=l.length/\TOK x.2/\NI l 0 x.1 0 x.1 x.2.L) (fun x=>[(0, .sl (l.map encAct)),(1, .int .u8 n),(5, .raw (.pointer (some ⟨t,0,none⟩))),(6, .int .i64 x.1)]) (fun x=>knF::knA::knM m::(ownT t x.2++[])) (fun x=>l.length - x.1) ((0,s1)) ?_ ?_ ?_);exact (⟨Nat.zero_le _,hs1,by rw [hL1];exact ni_0 l⟩);(simp [Sub,get,keepL]<;>fail);(try simp only [List.append_assoc,List.cons_append,List.nil_append]);refine pl_ ?_;intro ⟨i,s⟩ ⟨hi,hs,hI⟩;(try simp only [List.append_assoc,List.cons_append,List.nil_append]);(try simp only at hi hs hI);have hr:=act_r hl i;have hrk:=hr.2.1;have hrf:=hr.2.2.1;have hrq:=hr.2.2.2;have q0:=Int.tmod_nonneg 3 hrq.1;have q1:=Int.tmod_lt_of_pos (l.getD i default).q (show (0:Int)<3 by decide))
  | ((with_reducible refine DW.loopB 2 (X:=Nat×TS) (fun x=>x.1<=l.length/\TOK x.2/\NI l x.1 l.length 0 l.length x.2.L) (fun x=>[(0, .sl (l.map encAct)),(1, .int .u8 n),(5, .raw (.pointer (some ⟨t,0,none⟩))),(7, .int .i64 x.1)]) (fun x=>knF::knA::knM m::(ownT t x.2++[])) (fun x=>l.length - x.1) ((0,s)) ?_ ?_ ?_);exact (⟨Nat.zero_le _,hs,by (have e:i=l.length:=by omega);(subst e);exact hI⟩);(simp [Sub,get,keepL]<;>fail);(try simp only [List.append_assoc,List.cons_append,List.nil_append]);refine pl_ ?_;intro ⟨j,u⟩ ⟨hj,hu,hJ⟩;(try simp only [List.append_assoc,List.cons_append,List.nil_append]);(try simp only at hj hu hJ);have hr:=act_r hl j;have hrk:=hr.2.1;have hrf:=hr.2.2.1;have hrq:=hr.2.2.2;have q0:=Int.tmod_nonneg 3 hrq.1;have q1:=Int.tmod_lt_of_pos (l.getD j default).q (show (0:Int)<3 by decide))
  | ((with_reducible refine DW.loopB 4 (X:=Nat×TS) (fun x=>x.1<=l.length/\TOK x.2/\NI l l.length l.length x.1 l.length x.2.L) (fun x=>[(0, .sl (l.map encAct)),(1, .int .u8 n),(5, .raw (.pointer (some ⟨t,0,none⟩))),(9, .int .i64 x.1)]) (fun x=>knF::knA::knM m::(ownT t x.2++[])) (fun x=>l.length - x.1) ((0,u)) ?_ ?_ ?_);exact (⟨Nat.zero_le _,hu,by (have e:j=l.length:=by omega);(subst e);exact hJ⟩);(simp [Sub,get,keepL]<;>fail);(try simp only [List.append_assoc,List.cons_append,List.nil_append]);refine pl_ ?_;intro ⟨k,w⟩ ⟨hk,hw,hK⟩;(try simp only [List.append_assoc,List.cons_append,List.nil_append]);(try simp only at hk hw hK);have hr:=act_r hl k;have hrk:=hr.2.1;have hrf:=hr.2.2.1;have hrq:=hr.2.2.2;have q0:=Int.tmod_nonneg 3 hrq.1;have q1:=Int.tmod_lt_of_pos (l.getD k default).q (show (0:Int)<3 by decide))
  | refine g_ ?_
  | ((with_reducible refine And.intro ?_ ?_);(exact sv_trieNone_dc))
  | (refine DW.cond (by rfl) ?_ ?_<;>(first | exact i0_ | (refine ic_ ?_;intro hb)))
  | ((with_reducible first | refine FVg_cases ?_ ?_ | refine FDg_cases ?_ ?_)<;>(intro hb;rw [hb];revert hb;(first | exact i0_ | (refine i_ ?_;intro hb))))
  | refine r_ ?_
  | refine d_ ?_
  | refine k_ ?_
  | ((refine dm_ ?_);(first | ((first | refine v_ (known7_dc _ _) ?_ (ha:=by exact sv_trieNone_dc) | refine v_ (fil7_dc _ _) ?_ (ha:=by exact sv_trieNone_dc) | refine v_ (top7_dc _ _) ?_ (ha:=by exact sv_trieNone_dc) | refine v_ (nfil0_dc _ _ _) ?_ (ha:=by exact sv_trieNone_dc) | refine v_ (nlen0_dc _ _ _) ?_ (ha:=by exact sv_trieNone_dc))) | (refine v_ (nmat0_dc _ _ _ _ _) ?_ (ha:=by exact sv_trieNone_dc))))
  | refine vo_ ?_
  | ((first | refine q_ (known7_dc _ _) ?_ (ha:=by exact sv_trieNone_dc) | refine q_ (fil7_dc _ _) ?_ (ha:=by exact sv_trieNone_dc) | refine q_ (top7_dc _ _) ?_ (ha:=by exact sv_trieNone_dc) | refine q_ (nfil0_dc _ _ _) ?_ (ha:=by exact sv_trieNone_dc) | refine q_ (nlen0_dc _ _ _) ?_ (ha:=by exact sv_trieNone_dc)))
  | (refine p_ (newX_dc _) ?_ (ha:=by exact sv_trieNone_dc);rintro d H1 ⟨t,s1,⟨hs1,hL1⟩,rfl,rfl⟩<;>refine s_ ?_)
  | (refine p_ (nputk_dc _ _ _ _ _ _) ?_ (ha:=by exact sv_trieNone_dc);rintro d H1 ⟨s2,⟨hs2,hL2⟩,rfl,rfl⟩<;>refine s_ ?_)
  | (refine p_ (nputj_dc _ _ _ _ _ _) ?_ (ha:=by exact sv_trieNone_dc);rintro d H1 ⟨s3,⟨hs3,hL3⟩,rfl,rfl⟩<;>refine s_ ?_)
  | (refine p_ (ndrop_dc _ _ _ _ _ _) ?_ (ha:=by exact sv_trieNone_dc);rintro d H1 ⟨s4,⟨hs4,hL4⟩,rfl,rfl⟩<;>refine s_ ?_)
  | (refine q_ (nmat0_dc _ _ _ _ _) ?_ (ha:=by exact sv_trieNone_dc))
  | (refine p_ (nmat_dc _ _ _ _ _) ?_ (ha:=by exact sv_trieNone_dc);rintro d H1 ⟨rfl | rfl,rfl⟩<;>refine s_ ?_)
  | refine o_ ?_
  | refine f_ ?_
  | refine vm_ ?_
  | with_reducible intro b)
 all_goals first
 | ((first | exact fin_ | refine finq_ ?_);done)
 | (refine ⟨(i+1,s3),⟨by (try simp only);omega,hs3,by rw [hL3,hL2];exact ni_putj (ni_putk hI)⟩,by (try simp only);omega,by simp [Sub,get],?_⟩;((try dsimp only);exact sub_);done)
 | (refine ⟨(j+1,s4),⟨by (try simp only);omega,hs4,by rw [hL4];exact ni_dropk hu.nd hJ⟩,by (try simp only);omega,by simp [Sub,get],?_⟩;((try dsimp only);exact sub_);done)
 | (refine ⟨(k+1,s4),⟨by (try simp only);omega,hs4,by rw [hL4];exact ni_dropj hw.nd hK⟩,by (try simp only);omega,by simp [Sub,get],?_⟩;((try dsimp only);exact sub_);done)
 | (trace_state;fail)
end
end
end Go.Proofs.YtifdpbghkccaoaaDoor
