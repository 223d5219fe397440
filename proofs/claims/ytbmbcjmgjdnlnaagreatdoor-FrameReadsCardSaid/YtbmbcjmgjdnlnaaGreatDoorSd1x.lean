/- Numbers as digits; sums of texts. -/
import Derived.Test.YtbmbcjmgjdnlnaaGreatDoorSox
import Derived.Test.YtbmbcjmgjdnlnaaGreatDoorLpx
import Derived.KernelRfl
import Derived.Test.YtbmbcjmgjdnlnaaGreatDoorEu
namespace Go.Proofs.YtbmbcjmgjdnlnaaGreatDoor
open Go.RowKit
set_option linter.unusedSimpArgs false
set_option linter.unusedVariables false
set_option linter.unusedSectionVars false
set_option maxHeartbeats 4000000
set_option maxRecDepth 100000
section
attribute [local irreducible] DW SeqD DV DOp DC DVX
def digB (n:Int):List UInt8:=List.drop n.toNat (List.take (n+1).toNat [48,49,50,51,52,53,54,55,56,57])
def decF:Nat->Int->List UInt8
 | 0,n=>digB n
 | k+1,n=>if n<10 then digB n else decF k (n.tdiv 10)++digB (n.tmod 10)
def decM (n:Int):List UInt8:=decF 18 n
theorem digB_len (n:Int):(digB n).length<=1:=by rw [digB,List.length_drop,List.length_take];omega
theorem decF_len:∀ (k:Nat) (n:Int),(decF k n).length<=k+1
 | 0,n=>digB_len n
 | k+1,n=>by
  unfold decF
  split
  · exact Nat.le_trans (digB_len n) (by omega)
  · rw [List.length_append];have:=decF_len k (n.tdiv 10);have:=digB_len (n.tmod 10);omega
theorem decM_len (n:Int):(decM n).length<=19:=decF_len 18 n
theorem decF_1 {k:Nat} {n:Int} (h:n<10):decF (k+1) n=digB n:=by rw [decF,if_pos h]
theorem decF_2 {k:Nat} {n:Int} (h:10<=n):decF (k+1) n=decF k (n.tdiv 10)++digB (n.tmod 10):=by rw [decF,if_neg (by omega)]
theorem dec1_dc (n:Int) (F:Own):(0<=n/\n<10)->DC Tryz.prog 123 [.int .i64 n] (([]:Own)++F) fun d G=>d = .str (digB n)/\G=[]++F:=by
 intro hA
 obtain ⟨h0,h1⟩:=hA
 refine DC.bodyS (n_:=22) (show Tryz.prog.funcs[123]? = some Tryz.f123 by kernel_rfl) rfl rfl (by rfl) ?_
 simp only [env0,List.cons_append,List.nil_append]
 have kw:=ksIs [0,2,4,10]
 have ow:=ownIs []
 repeat' (first
  | refine g_ ?_
  | ((with_reducible refine And.intro ?_ ?_);(exact sv))
  | (refine DW.cond (by rfl) ?_ ?_<;>(first | exact i0_ | (refine ic_ ?_;intro hb)))
  | ((with_reducible refine FVg_cases ?_ ?_)<;>(intro hb;rw [hb];revert hb;(first | exact i0_ | (refine i_ ?_;intro hb))))
  | refine r_ ?_
  | refine k_ ?_
  | refine o_ ?_
  | refine f_ ?_
  | with_reducible intro b)
 all_goals first
 | (exfalso;omega)
 | ((first | exact fin_ | refine finq_ ?_);done)
 | (trivial)
theorem decK_dc:∀ (k:Nat),k<=30->∀ (n:Int) (F:Own),(0<=n/\n<10 ^ (k+1)/\n<=9223372036854775807)->DC Tryz.prog 123 [.int .i64 n] (([]:Own)++F) fun d G=>d = .str (decF k n)/\G=[]++F:=by
 intro k
 induction k with
 | zero=>intro hk30 n F hA;exact dec1_dc n F ⟨hA.1,by have:=hA.2.1;simpa using this⟩
 | succ k ih =>
  intro hk30 n F hA
  have ih:=ih (by omega)
  obtain ⟨h0,h1,h2⟩:=hA
  have hp:(10:Int) ^ (k+1+1)=10 * 10 ^ (k+1):=by rw [Int.pow_succ];omega
  rw [hp] at h1
  have hm0:=Int.tmod_nonneg 10 h0
  have hm1:=Int.tmod_lt_of_pos n (show (0:Int)<10 by decide)
  have hq:n.tdiv 10=n / 10:=Int.tdiv_eq_ediv_of_nonneg h0
  have hq0:0<=n.tdiv 10:=by omega
  have hq1:n.tdiv 10<10 ^ (k+1):=by omega
  have hq2:n.tdiv 10<=9223372036854775807:=by omega
  have l1:=decF_len k (n.tdiv 10)
  have l2:=digB_len (n.tmod 10)
  clear hp hq
  refine DC.bodyS (n_:=22) (show Tryz.prog.funcs[123]? = some Tryz.f123 by kernel_rfl) rfl rfl (by rfl) ?_
  simp only [env0,List.cons_append,List.nil_append]
  have kw:=ksIs [0,2,4,10]
  have ow:=ownIs []
  repeat' (first
   | refine g_ ?_
   | ((with_reducible refine And.intro ?_ ?_);(first | exact True.intro | omega | assumption | (simp only [List.length_append];omega) | (simp<;>fail) | (simp;omega)))
   | (refine DW.cond (by rfl) ?_ ?_<;>(first | exact i0_ | (refine ic_ ?_;intro hb)))
   | ((with_reducible refine FVg_cases ?_ ?_)<;>(intro hb;rw [hb];revert hb;(first | exact i0_ | (refine i_ ?_;intro hb))))
   | refine r_ ?_
   | refine k_ ?_
   | (refine q_ (dec1_dc _ _) ?_ (ha:=by first | exact True.intro | omega | assumption | (simp only [List.length_append];omega) | (simp<;>fail) | (simp;omega)))
   | (refine q_ (ih _ _) ?_ (ha:=by first | exact True.intro | omega | assumption | (simp only [List.length_append];omega) | (simp<;>fail) | (simp;omega)))
   | refine o_ ?_
   | refine f_ ?_
   | with_reducible intro b)
  all_goals first
  | (exfalso;omega)
  | (rw [decF_1 (by omega)];(first | exact fin_ | refine finq_ ?_);done)
  | (rw [decF_2 (by omega)];(first | exact fin_ | refine finq_ ?_);done)
  | (trivial)
theorem dec_dc (n:Int) (F:Own):(0<=n/\n<=9223372036854775807)->DC Tryz.prog 123 [.int .i64 n] (([]:Own)++F) fun d G=>d = .str (decM n)/\G=[]++F:=fun h=>decK_dc 18 (by decide) n F ⟨h.1,by have:=h.2;omega,h.2⟩
section
attribute [local push_cast 2000] u8 wrapU8
theorem rfnv_dc (t:List UInt8) (F:Own):(t.length<=1000000000000)->DC Tryz.prog 22 [.str t] (([]:Own)++F) fun d G=>d = .int .u64 (fnvV t)/\G=[]++F:=by
 intro hA
 have hs:=hA
 refine DC.bodyS (n_:=19) (show Tryz.prog.funcs[22]? = some Tryz.f22 by kernel_rfl) rfl rfl (by rfl) ?_
 simp only [env0,List.cons_append,List.nil_append]
 have kw:=ksIs [0,2,3,4,8]
 have ow:=ownIs []
 repeat' (first
  | ((with_reducible refine DW.loopB 0 (X:=Nat) (fun x=>x<=t.length) (fun x=>[(0, .str t),(3, .int .u64 (fnvV (t.take x))),(4, .int .i64 x)]) (fun x=>([]:Own)) (fun x=>t.length - x) (0) ?_ ?_ ?_);exact (Nat.zero_le _);(simp [Sub,get,keepL,fnv0]<;>fail);(try simp only [List.cons_append,List.nil_append]);refine pl_ ?_;intro k hk;(try simp only [List.cons_append,List.nil_append]))
  | refine g_ ?_
  | ((with_reducible refine And.intro ?_ ?_);(exact sv))
  | (refine DW.cond (by rfl) ?_ ?_<;>(first | exact i0_ | (refine ic_ ?_;intro hb)))
  | ((with_reducible refine FVg_cases ?_ ?_)<;>(intro hb;rw [hb];revert hb;(first | exact i0_ | (refine i_ ?_;intro hb))))
  | refine r_ ?_
  | refine k_ ?_
  | refine o_ ?_
  | refine f_ ?_
  | with_reducible intro b)
 all_goals first
 | (refine ⟨k+1,?_,?_,?_,?_⟩;(((try simp only);omega));(((try simp only);omega));(simp [Sub,get,fnv_next t k (by omega),fnvN]<;>(fail));(try dsimp only);(exact sub_))
 | ((first | exact fin_ | refine finq_ ?_);rw [List.take_of_length_le (by omega)])
end
theorem rbucket_dc (t:List UInt8) (F:Own):(t.length<=1000000000000)->DC Tryz.prog 120 [.str t] (([]:Own)++F) fun d G=>d = .int .i64 (bucketV t)/\G=[]++F:=by
 intro hA
 have hs:=hA
 refine DC.bodyS (n_:=7) (show Tryz.prog.funcs[120]? = some Tryz.f120 by kernel_rfl) rfl rfl (by rfl) ?_
 simp only [env0,List.cons_append,List.nil_append]
 have kw:=ksIs [0,2]
 have ow:=ownIs []
 have hb:=bucket_b t;have hf:=fnv_b t;unfold bucketV at hb
 repeat' (first
  | refine g_ ?_
  | ((with_reducible refine And.intro ?_ ?_);(exact sv))
  | (refine DW.cond (by rfl) ?_ ?_<;>(first | exact i0_ | (refine ic_ ?_;intro hb)))
  | ((with_reducible refine FVg_cases ?_ ?_)<;>(intro hb;rw [hb];revert hb;(first | exact i0_ | (refine i_ ?_;intro hb))))
  | refine r_ ?_
  | refine k_ ?_
  | (refine q_ (rfnv_dc _ _) ?_)
  | refine o_ ?_
  | refine f_ ?_
  | with_reducible intro b)
 (first | exact fin_ | refine finq_ ?_)
 all_goals rfl
def dotM (a b c:Int):List UInt8:=decM a++[32]++decM b++[32]++decM c
theorem dotM_len (a b c:Int):(dotM a b c).length<=59:=by
 have:=decM_len a;have:=decM_len b;have:=decM_len c
 simp only [dotM,List.length_append,List.length_cons,List.length_nil];omega
theorem rdot_dc (a b c:Int) (F:Own):((0<=a/\a<=9223372036854775807)/\(0<=b/\b<=9223372036854775807)/\(0<=c/\c<=9223372036854775807))->DC Tryz.prog 121 [.agg [.int .i64 a, .int .i64 b, .int .i64 c]] (([]:Own)++F) fun d G=>d = .str (dotM a b c)/\G=[]++F:=by
 intro hA
 obtain ⟨h1,h2,h3⟩:=hA
 refine DC.bodyS (n_:=16) (show Tryz.prog.funcs[121]? = some Tryz.f121 by kernel_rfl) rfl rfl (by rfl) ?_
 simp only [env0,List.cons_append,List.nil_append]
 have kw:=ksIs [0,1,2]
 have ow:=ownIs []
 have dw1:=drIs 1 [] [1,2,5,6,10,11]
 have:=decM_len a;have:=decM_len b;have:=decM_len c
 repeat' (first
  | refine g_ ?_
  | ((with_reducible refine And.intro ?_ ?_);(exact sv))
  | (refine DW.cond (by rfl) ?_ ?_<;>(first | exact i0_ | (refine ic_ ?_;intro hb)))
  | ((with_reducible first | refine FVg_cases ?_ ?_ | refine FDg_cases ?_ ?_)<;>(intro hb;rw [hb];revert hb;(first | exact i0_ | (refine i_ ?_;intro hb))))
  | refine r_ ?_
  | refine d_ ?_
  | refine k_ ?_
  | ((refine dm_ ?_);(first | (refine v_ (dec_dc _ _) ?_)))
  | refine vo_ ?_
  | (refine q_ (dec_dc _ _) ?_)
  | refine o_ ?_
  | refine f_ ?_
  | refine vm_ ?_
  | with_reducible intro b)
 all_goals first
 | ((first | exact fin_ | refine finq_ ?_);done)
 | ((first | exact fin_ | refine finq_ ?_);simp [dotM];done)
 | (trivial)
end
section
attribute [local irreducible] DW SeqD DV DOp DC DVX
def hexL:List UInt8:=[48,49,50,51,52,53,54,55,56,57,97,98,99,100,101,102]
theorem hex_hi (c:UInt8):0<=(c.toNat:Int).fdiv (2 ^ min 4 IntKind.u8.bits)/\(c.toNat:Int).fdiv (2 ^ min 4 IntKind.u8.bits)<16:=by
 have hc:=c.toNat_lt
 have e:(2:Int) ^ min 4 IntKind.u8.bits=16:=by decide
 rw [e,Int.fdiv_eq_ediv_of_nonneg _ (by decide)]
 omega
theorem hex_lo (c:UInt8):0<=IntKind.u8.wrap ((BitVec.ofInt IntKind.u8.bits (c.toNat:Int) &&& BitVec.ofInt IntKind.u8.bits 15).toNat:Int)/\IntKind.u8.wrap ((BitVec.ofInt IntKind.u8.bits (c.toNat:Int) &&& BitVec.ofInt IntKind.u8.bits 15).toNat:Int)<16:=by
 have h:(BitVec.ofInt IntKind.u8.bits (c.toNat:Int) &&& BitVec.ofInt IntKind.u8.bits 15).toNat<=15:=by
  rw [BitVec.toNat_and]
  exact Nat.le_trans Nat.and_le_right (by decide)
 simp [IntKind.wrap,IntKind.bits,IntKind.signed] at h ⊢
 omega
def hexA (c:UInt8):UInt8:=hexL.getD ((c.toNat:Int).fdiv (2 ^ min 4 IntKind.u8.bits)).toNat 0
def hexB (c:UInt8):UInt8:=hexL.getD (IntKind.u8.wrap ((BitVec.ofInt IntKind.u8.bits (c.toNat:Int) &&& BitVec.ofInt IntKind.u8.bits 15).toNat:Int)).toNat 0
def hexK (t:List UInt8) (k:Nat):List UInt8:=((List.range k).map fun i=>[hexA (t.getD i 0),hexB (t.getD i 0)]).flatten
theorem hexK_0 (t:List UInt8):hexK t 0=[]:=rfl
theorem hexK_more (t:List UInt8) (k:Nat):hexK t (k+1)=hexK t k++[hexA (t.getD k 0),hexB (t.getD k 0)]:=by simp [hexK,List.range_succ]
theorem hexK_len (t:List UInt8) (k:Nat):(hexK t k).length=2 * k:=by
 induction k with
 | zero=>rfl
 | succ k ih=>rw [hexK_more,List.length_append,ih];simp only [List.length_cons,List.length_nil];omega
def hexM (t:List UInt8):List UInt8:=if t=[] then [45] else hexK t t.length
theorem hexM_1 {t:List UInt8} (h:t=[]):hexM t=[45]:=if_pos h
theorem hexM_2 {t:List UInt8} (h:¬ t=[]):hexM t=hexK t t.length:=if_neg h
theorem hexM_len (t:List UInt8):(hexM t).length<=2 * t.length+1:=by
 unfold hexM;split
 · simp
 · rw [hexK_len];omega
theorem sv_rhex_dc {p:Prop} (h:p:=by first | exact sv | exact hex_hi _ | exact hex_lo _ | fail):p:=h
section
attribute [local push_cast 2000] u8 bytes_are bytes_back
theorem rhex_dc (t:List UInt8) (F:Own):(t.length<=1000000000)->DC Tryz.prog 122 [.str t] (([]:Own)++F) fun d G=>d = .str (hexM t)/\G=[]++F:=by
 intro hA
 have ht:=hA
 refine DC.bodyS (n_:=32) (show Tryz.prog.funcs[122]? = some Tryz.f122 by kernel_rfl) rfl rfl (by rfl) ?_
 simp only [env0,List.cons_append,List.nil_append]
 have kw:=ksIs [0,2,3,4,6,14]
 have ow:=ownIs []
 have dw7:=drIs 7 [12] []
 repeat' (first
  | ((with_reducible refine DW.loopB 0 (X:=Nat×Value) (fun x=>x.1<=t.length) (fun x=>[(0, .str t),(3, .gs x.2 ((hexK t x.1).map u8)),(4, .int .i64 x.1)]) (fun x=>.tail 1 x.2::([]:Own)) (fun x=>t.length - x.1) ((0,b)) ?_ ?_ ?_);exact (Nat.zero_le _);(simp [Sub,get,keepL,hexK_0]<;>fail);(try simp only [List.cons_append,List.nil_append]);refine pl_ ?_;intro ⟨k,v⟩ hk;(try simp only [List.cons_append,List.nil_append]);simp only at hk;have hkl:=hexK_len t k)
  | refine g_ ?_
  | ((with_reducible refine And.intro ?_ ?_);(exact sv_rhex_dc))
  | (refine DW.cond (by rfl) ?_ ?_<;>(first | exact i0_ | (refine ic_ ?_;intro hb)))
  | ((with_reducible first | refine FVg_cases ?_ ?_ | refine FDg_cases ?_ ?_)<;>(intro hb;rw [hb];revert hb;(first | exact i0_ | (refine i_ ?_;intro hb))))
  | refine r_ ?_
  | refine d_ ?_
  | refine k_ ?_
  | refine vo_ ?_
  | refine o_ ?_
  | refine f_ ?_
  | refine vm_ ?_
  | with_reducible intro b)
 all_goals first
 | (rw [hexM_1 (by assumption)];(first | exact fin_ | refine finq_ ?_);done)
 | (have hkl2:k=t.length:=by omega
    subst hkl2
    rw [hexM_2 (by assumption)];(first | exact fin_ | refine finq_ ?_);done)
 | (refine ⟨(k+1,b),?_,?_,?_,?_⟩;(((try simp only);omega));(((try simp only);omega));(simp [Sub,get,u8,hexK_more,hexA,hexB,hexL]<;>(fail));(try dsimp only);(exact sub_);done)
end
end
end Go.Proofs.YtbmbcjmgjdnlnaaGreatDoor
