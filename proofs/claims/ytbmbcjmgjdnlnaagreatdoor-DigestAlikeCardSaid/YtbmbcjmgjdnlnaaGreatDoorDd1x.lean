/- Numbers as digits, texts as hex digits, as the program tells them. -/
import Derived.Test.YtbmbcjmgjdnlnaaGreatDoorBdx
import Derived.Test.YtbmbcjmgjdnlnaaGreatDoorSd2x
import Derived.KernelRfl
import Derived.Lib.ItoaLen
namespace Go.Proofs.YtbmbcjmgjdnlnaaGreatDoor
open Go.RowKit
set_option linter.unusedSimpArgs false
set_option linter.unusedVariables false
set_option linter.unusedSectionVars false
set_option maxHeartbeats 4000000
set_option maxRecDepth 100000
section
abbrev knP (T:TypeId) (fr:Nat×Nat):Ent:=.row 0 (pow10O T fr)
def i64b (n:Int):Prop:=-9223372036854775808<=n/\n<=9223372036854775807
theorem fmt_dc (T:TypeId) (fr:Nat×Nat) (n:Int) (F:Own):(i64b n)->DC Tryz.prog 150 [.int .i64 n, .int .i64 10] ([knP T fr]++F) fun d G=>d = .str (Lib.itoa n)/\G=[knP T fr]++F:=fun h =>
 DC.fmt layFi (by kernel_rfl) (by kernel_rfl) T fr n F h
def dotP (a b c:Int):List UInt8:=Lib.itoa a++[32]++Lib.itoa b++[32]++Lib.itoa c
theorem itoa_len {n:Int} (h:i64b n):(Lib.itoa n).length<=21:=Lib.itoa_length_le n h.1 h.2
theorem dotP_len {a b c:Int} (ha:i64b a) (hb:i64b b) (hc:i64b c):(dotP a b c).length<=100:=by
 have:=itoa_len ha;have:=itoa_len hb;have:=itoa_len hc
 unfold dotP
 simp only [List.length_append,List.length_cons,List.length_nil]
 omega
attribute [local irreducible] DW SeqD DV DOp DC DVX Lib.itoa
theorem digi_dc (T:TypeId) (fr:Nat×Nat) (n:Int) (F:Own):(i64b n)->DC Tryz.prog 92 [.int .i64 n] ([knP T fr]++F) fun d G=>d = .str (Lib.itoa n)/\G=[knP T fr]++F:=by
 intro hA
 have hn:=hA
 refine DC.bodyS (n_:=5) (show Tryz.prog.funcs[92]? = some Tryz.f92 by kernel_rfl) rfl rfl (by rfl) ?_
 simp only [env0,List.cons_append,List.nil_append]
 have kw:=ksIs [0,2]
 have ow:=ownIs []
 repeat' (first
  | refine g_ ?_
  | ((with_reducible refine And.intro ?_ ?_);(exact sv))
  | (refine DW.cond (by rfl) ?_ ?_<;>(first | exact i0_ | (refine ic_ ?_;intro hb)))
  | ((with_reducible refine FVg_cases ?_ ?_)<;>(intro hb;rw [hb];revert hb;(first | exact i0_ | (refine i_ ?_;intro hb))))
  | refine r_ ?_
  | refine k_ ?_
  | (refine q_ (fmt_dc _ _ _ _) ?_)
  | refine o_ ?_
  | refine f_ ?_
  | with_reducible intro b)
 (first | exact fin_ | refine finq_ ?_)
 all_goals rfl
theorem digl_dc (T:TypeId) (fr:Nat×Nat) (n:Int) (F:Own):(i64b n)->DC Tryz.prog 149 [.int .i64 n] ([knP T fr]++F) fun d G=>d = .str (Lib.itoa n)/\G=[knP T fr]++F:=by
 intro hA
 have hn:=hA
 refine DC.bodyS (n_:=5) (show Tryz.prog.funcs[149]? = some Tryz.f149 by kernel_rfl) rfl rfl (by rfl) ?_
 simp only [env0,List.cons_append,List.nil_append]
 have kw:=ksIs [0,2]
 have ow:=ownIs []
 repeat' (first
  | refine g_ ?_
  | ((with_reducible refine And.intro ?_ ?_);(exact sv))
  | (refine DW.cond (by rfl) ?_ ?_<;>(first | exact i0_ | (refine ic_ ?_;intro hb)))
  | ((with_reducible refine FVg_cases ?_ ?_)<;>(intro hb;rw [hb];revert hb;(first | exact i0_ | (refine i_ ?_;intro hb))))
  | refine r_ ?_
  | refine k_ ?_
  | (refine q_ (fmt_dc _ _ _ _) ?_)
  | refine o_ ?_
  | refine f_ ?_
  | with_reducible intro b)
 (first | exact fin_ | refine finq_ ?_)
 all_goals rfl
theorem ddot_dc (T:TypeId) (fr:Nat×Nat) (x1 x2 x3:Int) (F:Own):(i64b x1/\i64b x2/\i64b x3)->DC Tryz.prog 89 [.agg [.int .i64 x1, .int .i64 x2, .int .i64 x3]] ([knP T fr]++F) fun d G=>d = .str (dotP x1 x2 x3)/\G=[knP T fr]++F:=by
 intro hA
 obtain ⟨h1,h2,h3⟩:=hA
 refine DC.bodyS (n_:=16) (show Tryz.prog.funcs[89]? = some Tryz.f89 by kernel_rfl) rfl rfl (by rfl) ?_
 simp only [env0,List.cons_append,List.nil_append]
 have kw:=ksIs [0,1,2]
 have ow:=ownIs []
 have dw1:=drIs 1 [] [1,2,5,6,10,11]
 have e1:=itoa_len h1;have e2:=itoa_len h2;have e3:=itoa_len h3
 repeat' (first
  | refine g_ ?_
  | ((with_reducible refine And.intro ?_ ?_);(exact sv))
  | (refine DW.cond (by rfl) ?_ ?_<;>(first | exact i0_ | (refine ic_ ?_;intro hb)))
  | ((with_reducible first | refine FVg_cases ?_ ?_ | refine FDg_cases ?_ ?_)<;>(intro hb;rw [hb];revert hb;(first | exact i0_ | (refine i_ ?_;intro hb))))
  | refine r_ ?_
  | refine d_ ?_
  | refine k_ ?_
  | ((refine dm_ ?_);(first | (refine v_ (digi_dc _ _ _ _) ?_)))
  | refine vo_ ?_
  | (refine q_ (digi_dc _ _ _ _) ?_)
  | refine o_ ?_
  | refine f_ ?_
  | refine vm_ ?_
  | with_reducible intro b)
 all_goals first
 | ((first | exact fin_ | refine finq_ ?_);done)
 | ((first | exact fin_ | refine finq_ ?_);simp [dotP];done)
 | (trivial)
theorem sv_thex_dc {p:Prop} (h:p:=by first | exact sv | exact hex_hi _ | exact hex_lo _ | fail):p:=h
section
attribute [local push_cast 2000] u8 bytes_are bytes_back
theorem thex_dc (t:List UInt8) (F:Own):(t.length<=1000000000)->DC Tryz.prog 148 [.str t] (([]:Own)++F) fun d G=>d = .str (hexK t t.length)/\G=[]++F:=by
 intro hA
 have ht:=hA
 refine DC.bodyS (n_:=26) (show Tryz.prog.funcs[148]? = some Tryz.f148 by kernel_rfl) rfl rfl (by rfl) ?_
 simp only [env0,List.cons_append,List.nil_append]
 have kw:=ksIs [0,2,3,4,6,7,8]
 have ow:=ownIs []
 have dw5:=drIs 5 [12] []
 refine DW.tail0 1 ?_
 repeat' (first
  | ((with_reducible refine DW.loopB 0 (X:=Nat×Value) (fun x=>x.1<=t.length) (fun x=>[(0, .str t),(3, .gs x.2 ((hexK t x.1).map u8)),(6, .int .i64 t.length),(7, .int .i64 x.1)]) (fun x=>.tail 1 x.2::([]:Own)) (fun x=>t.length - x.1) ((0, .slice none 0 0)) ?_ ?_ ?_);exact (Nat.zero_le _);(simp [Sub,get,keepL,hexK_0]<;>fail);(try simp only [List.cons_append,List.nil_append]);refine pl_ ?_;intro ⟨k,v⟩ hk;(try simp only [List.cons_append,List.nil_append]);simp only at hk;have hkl:=hexK_len t k)
  | refine g_ ?_
  | ((with_reducible refine And.intro ?_ ?_);(exact sv_thex_dc))
  | (refine DW.cond (by rfl) ?_ ?_<;>(first | exact i0_ | (refine ic_ ?_;intro hb)))
  | ((with_reducible first | refine FVg_cases ?_ ?_ | refine FDg_cases ?_ ?_)<;>(intro hb;rw [hb];revert hb;(first | exact i0_ | (refine i_ ?_;intro hb))))
  | refine r_ ?_
  | refine d_ ?_
  | refine k_ ?_
  | refine vo_ ?_
  | refine o_ ?_
  | refine f_ ?_
  | refine vm_ ?_
  | with_reducible intro b)
 all_goals first
 | (have hkl2:k=t.length:=by omega
    subst hkl2
    (first | exact fin_ | refine finq_ ?_);done)
 | (refine ⟨(k+1,b),?_,?_,?_,?_⟩;(((try simp only);omega));(((try simp only);omega));(simp [Sub,get,u8,hexK_more,hexA,hexB,hexL]<;>(fail));(try dsimp only);(exact sub_);done)
 | (trace_state;fail)
end
theorem dhex_dc (t:List UInt8) (F:Own):(t.length<=1000000000)->DC Tryz.prog 90 [.str t] (([]:Own)++F) fun d G=>d = .str (hexM t)/\G=[]++F:=by
 intro hA
 have ht:=hA
 refine DC.bodyS (n_:=7) (show Tryz.prog.funcs[90]? = some Tryz.f90 by kernel_rfl) rfl rfl (by rfl) ?_
 simp only [env0,List.cons_append,List.nil_append]
 have kw:=ksIs [0,2,4]
 have ow:=ownIs []
 repeat' (first
  | refine g_ ?_
  | ((with_reducible refine And.intro ?_ ?_);(exact sv))
  | (refine DW.cond (by rfl) ?_ ?_<;>(first | exact i0_ | (refine ic_ ?_;intro hb)))
  | ((with_reducible refine FVg_cases ?_ ?_)<;>(intro hb;rw [hb];revert hb;(first | exact i0_ | (refine i_ ?_;intro hb))))
  | refine r_ ?_
  | refine k_ ?_
  | (refine q_ (thex_dc _ _) ?_)
  | refine o_ ?_
  | refine f_ ?_
  | with_reducible intro b)
 all_goals first
 | (rw [hexM_1 (by assumption)];(first | exact fin_ | refine finq_ ?_);done)
 | (rw [hexM_2 (by assumption)];(first | exact fin_ | refine finq_ ?_);done)
end
end Go.Proofs.YtbmbcjmgjdnlnaaGreatDoor
