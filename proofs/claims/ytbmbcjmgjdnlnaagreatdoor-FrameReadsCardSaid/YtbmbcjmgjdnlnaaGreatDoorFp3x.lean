/- Which frames the program finds right. -/
import Derived.Test.YtbmbcjmgjdnlnaaGreatDoorLex
import Derived.Test.YtbmbcjmgjdnlnaaGreatDoorTm1x
import Derived.KernelRfl
import Derived.Test.YtbmbcjmgjdnlnaaGreatDoorFm1x
import Derived.Test.YtbmbcjmgjdnlnaaGreatDoorGzx
namespace Go.Proofs.YtbmbcjmgjdnlnaaGreatDoor
open Go.RowKit
set_option linter.unusedSimpArgs false
set_option linter.unusedVariables false
set_option linter.unusedSectionVars false
set_option maxHeartbeats 4000000
set_option maxRecDepth 100000
section
structure LightT (t:TTable):Prop where
 s:t.seen.length<=1000000
 f:t.fences.length<=1000000
 r:t.routes.length<=100000
 c:t.cells.length<=100000
 rf:∀ r∈t.routes,r.filter.length<=2000000
 ct:∀ c∈t.cells,c.topic.length<=2000000
 cp:∀ c∈t.cells,c.payload.length<=2000000
structure LightF (f:TFrame):Prop where
 sums:f.sums.length<=1000000
 seen:f.seen.length<=1000000
 tab:LightT f.tab
 top:f.topic.length<=2000000
 msg:f.payload.length<=2000000
theorem LightT.few {t:TTable} (h:LightT t):Few 1000000000 t:=⟨Nat.le_trans h.s (by decide),Nat.le_trans h.f (by decide),Nat.le_trans h.r (by decide),Nat.le_trans h.c (by decide)⟩
theorem psameE_dc (t:TTable) (F:Own):(Few 1000000000 t)->DC Tryz.prog 40 [.agg [.sl (t.seen.map encDot), .sl (t.fences.map encFence), .sl (t.routes.map encRoute), .sl (t.cells.map encCell)], .agg [.sl [], .sl [], .sl [], .sl []]] (([]:Own)++F) fun d G=>d = .bool (decide (t=emptyT))/\G=[]++F:=fun h =>
 psame_dc t emptyT F ⟨h,⟨Nat.zero_le _,Nat.zero_le _,Nat.zero_le _,Nat.zero_le _⟩⟩
theorem msg0_dc (t p:List UInt8) (q:Int) (r:Bool) (F:Own):True->DC Tryz.prog 62 [.agg [.str t, .sl (p.map u8), .int .i64 q, .bool r], .agg [.str [], .sl [], .int .i64 0, .bool false]] (([]:Own)++F) fun d G=>d = .bool (t==[]&&p==[]&&q==0&&r==false)/\G=[]++F:=fun h=>messages_dc t p q r [] [] 0 false F h
theorem ptrightT_dc (t:TTable) (m:Int) (F:Own):(LightT t)->DC Tryz.prog 41 [.agg [.sl (t.seen.map encDot), .sl (t.fences.map encFence), .sl (t.routes.map encRoute), .sl (t.cells.map encCell)]] ([knF,knA,knM m]++F) fun d G=>d = .bool (tabB t)/\G=[knF,knA,knM m]++F:=fun h =>
 ptright_dc t.seen t.fences t.routes t.cells m F ⟨⟨h.few.s,h.few.f,h.few.r,h.few.c⟩,fun k hk=>h.rf _ (getD_mem hk),fun k hk=>h.ct _ (getD_mem hk),fun k hk=>Nat.le_trans (h.cp _ (getD_mem hk)) (by decide)⟩
def msg0 (f:TFrame):Bool:=f.topic==[]&&f.payload==[]&&f.qos==0&&f.retain==false
def frameP (f:TFrame):Bool :=
 (decide (0<=f.fr)&&decide (f.fr<=15))&&(decide (1<=f.ep)&&decide (f.ep<=2147483647))&&(decide (0<=f.at_)&&decide (f.at_<=1099511627776)) &&
 (if f.kind=1 then ((f.sums.length:Int)==10)&&rightB f.seen&&decide (f.tab=emptyT)&&((f.seq==0)&&msg0 f)
  else if f.kind=2 then (((f.sums.length:Int)==0)&&((f.seen.length:Int)==0))&&tabB f.tab&&((f.seq==0)&&msg0 f)
  else if f.kind=3 then (((f.sums.length:Int)==0)&&((f.seen.length:Int)==0))&&decide (f.tab=emptyT)&&(decide (1<=f.seq)&&decide (f.seq<=2147483647))&&nameB f.topic&&(decide (0<=f.qos)&&decide (f.qos<=2)) && !f.retain
  else false)
theorem len0 {α:Type} (l:List α) [DecidableEq α]:((l.length:Int)==0)=decide (l=[]):=by
 rw [Bool.eq_iff_iff];simp only [beq_iff_eq,decide_eq_true_eq]
 constructor
 · intro h;exact List.eq_nil_of_length_eq_zero (by omega)
 · rintro rfl;rfl
theorem frameP_is (f:TFrame):frameP f=frameB f:=by
 unfold frameP frameB wordB msg0
 rw [len0,len0]
 have e1:decide (f.fr<=15)=decide (f.fr<16):=by rw [Bool.eq_iff_iff];simp only [decide_eq_true_eq];omega
 have e2:((f.sums.length:Int)==10)=decide (f.sums.length=10):=by rw [Bool.eq_iff_iff];simp only [beq_iff_eq,decide_eq_true_eq];omega
 rw [e1,e2]
 have e3:((f.seq==0)&&(f.topic==[]&&f.payload==[]&&f.qos==0&&f.retain==false))=(decide (f.seq=0)&&decide (f.topic=[])&&decide (f.payload=[])&&decide (f.qos=0) && !f.retain):=by
  rw [Bool.eq_iff_iff];simp only [Bool.and_eq_true,beq_iff_eq,decide_eq_true_eq,Bool.not_eq_true',and_assoc]
 rw [e3]
 simp only [Bool.and_assoc]
attribute [local irreducible] DW SeqD DV DOp DC DVX DVJ nameB tabB rightB
theorem sv_pfright_dc {p:Prop} (h:p:=by first | exact sv | exact hf.tab | exact hf.tab.few | exact Nat.le_trans hf.seen (by decide) | exact Nat.le_trans hf.top (by decide) | fail):p:=h
theorem pfright_dc (f:TFrame) (m:Int) (F:Own):(LightF f)->DC Tryz.prog 18 [.agg [.int .i64 f.kind, .int .i64 f.fr, .int .i64 f.ep, .int .i64 f.at_, .sl (f.sums.map encU), .sl (f.seen.map encDot), .sl (f.tab.seen.map encDot), .sl (f.tab.fences.map encFence), .sl (f.tab.routes.map encRoute), .sl (f.tab.cells.map encCell), .int .i64 f.seq, .str f.topic, .sl (f.payload.map u8), .int .i64 f.qos, .bool f.retain]] ([knF,knA,knM m]++F) fun d G=>d = .bool (frameB f)/\G=[knF,knA,knM m]++F:=by
 intro hA
 have hf:=hA
 refine DC.bodyS (n_:=104) (show Tryz.prog.funcs[18]? = some Tryz.f18 by kernel_rfl) rfl rfl (by rfl) ?_
 simp only [env0,List.cons_append,List.nil_append]
 have kw:=ksIs [0,1,2,3,4,5,21,46,47,64,75]
 have ow:=ownIs []
 have dw3:=drIs 3 [] [1,6,11,13,15,19,21]
 repeat' (first
  | refine g_ ?_
  | ((with_reducible refine And.intro ?_ ?_);(exact sv_pfright_dc))
  | (refine DW.cond (by rfl) ?_ ?_<;>(first | exact i0_ | (refine ic_ ?_;intro hb)))
  | ((with_reducible first | refine FVg_cases ?_ ?_ | refine FDg_cases ?_ ?_)<;>(intro hb;rw [hb];revert hb;(first | exact i0_ | (refine i_ ?_;intro hb))))
  | refine r_ ?_
  | refine d_ ?_
  | refine k_ ?_
  | ((refine dm_ ?_);(first | ((first | refine v_ (in_dc _ _ _ _) ?_ (ha:=by exact sv_pfright_dc) | refine v_ (pright_dc _ _) ?_ (ha:=by exact sv_pfright_dc) | refine v_ (nameA_dc _ _) ?_ (ha:=by exact sv_pfright_dc))) | (refine v_ (psameE_dc _ _) ?_ (ha:=by exact sv_pfright_dc)) | (refine v_ (msg0_dc _ _ _ _ _) ?_ (ha:=by exact sv_pfright_dc)) | (refine v_ (ptrightT_dc _ _ _) ?_ (ha:=by exact sv_pfright_dc))))
  | refine vo_ ?_
  | ((first | refine q_ (in_dc _ _ _ _) ?_ (ha:=by exact sv_pfright_dc) | refine q_ (pright_dc _ _) ?_ (ha:=by exact sv_pfright_dc) | refine q_ (nameA_dc _ _) ?_ (ha:=by exact sv_pfright_dc)))
  | (refine q_ (psameE_dc _ _) ?_ (ha:=by exact sv_pfright_dc))
  | (refine q_ (msg0_dc _ _ _ _ _) ?_ (ha:=by exact sv_pfright_dc))
  | (refine q_ (ptrightT_dc _ _ _) ?_ (ha:=by exact sv_pfright_dc))
  | refine o_ ?_
  | refine f_ ?_
  | refine vm_ ?_
  | with_reducible intro b)
 all_goals first
 | ((refine ⟨_,_,le.of_eq ?_,⟨rfl,rfl⟩,?_⟩);(focus (rw [<-frameP_is];unfold frameP msg0;simp_all;done));(exact sub_);done)
 | ((refine ⟨_,_,le.of_eq ?_,⟨rfl,rfl⟩,?_⟩);(focus (congr 1;rw [<-frameP_is];symm;rw [Bool.eq_false_iff];intro h;unfold frameP at h;simp only [Bool.and_eq_true,decide_eq_true_eq] at h;obtain ⟨⟨⟨h1,h2⟩,h3⟩,h4⟩:=h;first | omega | (simp_all;done) | (rw [if_neg (by omega),if_neg (by omega),if_pos (by omega)] at h4;simp only [Bool.and_eq_true,decide_eq_true_eq] at h4;simp only [Bool.and_eq_false_iff,decide_eq_false_iff_not] at hb;omega)));(exact sub_);done)
 | (trace_state;fail)
end
section
def hdP (k x y z:Int):Str:=[72,66,49,byteI k]++numsL [x,y,z]
theorem hdP_len (k x y z:Int):(hdP k x y z).length=28:=by simp [hdP,numsL_len]
theorem bodyP {f:TFrame} {l:Str} (h:l=restBy f):hdP f.kind f.fr f.ep f.at_++l=bodyBy f:=by subst h;rfl
theorem fullP {f:TFrame} {l:Str} (h:l=bodyBy f):l++leK 8 (fnvV l)=fullBy f:=by subst h;rfl
theorem restP_1 {f:TFrame} (h:f.kind=1):restBy f=numsL [(f.sums.length:Int)]++flatBy sumBy f.sums++dotsBy f.seen:=by rw [restBy,if_pos h]
theorem restP_2 {f:TFrame} (h:f.kind=2):restBy f=tableBy ⟨f.tab.seen,f.tab.fences,f.tab.routes,f.tab.cells⟩:=by rw [restBy,if_neg (by omega),if_pos h]
theorem restP_3 {f:TFrame} (h:f.kind=3):restBy f=numsL [f.seq]++textBy f.topic++textBy f.payload++numsL [f.qos]:=by rw [restBy,if_neg (by omega),if_neg (by omega)]
theorem sumP_len (x:Int):(sumBy x).length=8:=leK_len _ _
theorem numbersK_dc (v:Value) (k x y z:Int) (F:Own):(0<=k/\k<=255)->DC Tryz.prog 50 [.gs v [.int .u8 72, .int .u8 66, .int .u8 49, .int .u8 k], .sl [.int .i64 x, .int .i64 y, .int .i64 z]] ([.tail 1 v]++F) fun d G=>∃ v1,d = .gs v1 ((hdP k x y z).map u8)/\G = .tail 1 v1::F:=fun h=>by
 have:=numbers_dc v [72,66,49,byteI k] [x,y,z] F ⟨by simp,by simp⟩
 have e:V.int .u8 k=u8 (byteI k):=by rw [u8_byteI,wrap_u8 k h.1 h.2]
 rw [e];exact this
theorem pfrightY_dc (f:TFrame) (m:Int) (F:Own):(LightF f/\frameB f=true)->DC Tryz.prog 18 [.agg [.int .i64 f.kind, .int .i64 f.fr, .int .i64 f.ep, .int .i64 f.at_, .sl (f.sums.map encU), .sl (f.seen.map encDot), .sl (f.tab.seen.map encDot), .sl (f.tab.fences.map encFence), .sl (f.tab.routes.map encRoute), .sl (f.tab.cells.map encCell), .int .i64 f.seq, .str f.topic, .sl (f.payload.map u8), .int .i64 f.qos, .bool f.retain]] ([knF,knA,knM m]++F) fun d G=>d = .bool true/\G=[knF,knA,knM m]++F:=fun h=>by
 have:=pfright_dc f m F h.1;rwa [h.2] at this
theorem pfrightN_dc (f:TFrame) (m:Int) (F:Own):(LightF f/\frameB f=false)->DC Tryz.prog 18 [.agg [.int .i64 f.kind, .int .i64 f.fr, .int .i64 f.ep, .int .i64 f.at_, .sl (f.sums.map encU), .sl (f.seen.map encDot), .sl (f.tab.seen.map encDot), .sl (f.tab.fences.map encFence), .sl (f.tab.routes.map encRoute), .sl (f.tab.cells.map encCell), .int .i64 f.seq, .str f.topic, .sl (f.payload.map u8), .int .i64 f.qos, .bool f.retain]] ([knF,knA,knM m]++F) fun d G=>d = .bool false/\G=[knF,knA,knM m]++F:=fun h=>by
 have:=pfright_dc f m F h.1;rwa [h.2] at this
theorem tableP_len {f:TFrame} (h:LightF f):(tableBy ⟨f.tab.seen,f.tab.fences,f.tab.routes,f.tab.cells⟩).length<=700000000000:=by
 have h1:=h.tab.s;have h2:=h.tab.f;have h3:=h.tab.r;have h4:=h.tab.c
 have e1:=flatBy_le (f:=fenceBy) (n:=16) (l:=f.tab.fences) (fun x _=>Nat.le_of_eq (fenceBy_len x))
 have e2:=flatBy_le (f:=routeBy) (n:=2000032) (l:=f.tab.routes) (fun x hx=>by rw [routeBy_len];have:=h.tab.rf x hx;omega)
 have e3:=flatBy_le (f:=cellBy) (n:=4000080) (l:=f.tab.cells) (fun x hx=>by rw [cellBy_len];have:=h.tab.ct x hx;have:=h.tab.cp x hx;omega)
 simp only [tableBy,List.length_append,numsL_len,dotsBy_len,List.length_cons,List.length_nil]
 omega
theorem frameB_kind {f:TFrame} (h:frameB f=true):1<=f.kind/\f.kind<=3:=by
 unfold frameB at h
 rw [Bool.and_eq_true] at h
 have h:=h.2
 by_cases h1:f.kind=1
 · omega
 · rw [if_neg h1] at h
   by_cases h2:f.kind=2
   · omega
   · rw [if_neg h2] at h
     by_cases h3:f.kind=3
     · omega
     · rw [if_neg h3] at h;cases h
attribute [local irreducible] DW SeqD DV DOp DC DVX DVJ nameB tabB rightB frameB numsL textBy flatBy dotsBy tableBy hdP leK
theorem sv_pfput0_dc {p:Prop} (h:p:=by first | exact sv | exact ⟨hf,hB⟩ | fail):p:=h
theorem pfput0_dc (f:TFrame) (m:Int) (F:Own):(LightF f/\frameB f=false)->DC Tryz.prog 16 [.agg [.int .i64 f.kind, .int .i64 f.fr, .int .i64 f.ep, .int .i64 f.at_, .sl (f.sums.map encU), .sl (f.seen.map encDot), .sl (f.tab.seen.map encDot), .sl (f.tab.fences.map encFence), .sl (f.tab.routes.map encRoute), .sl (f.tab.cells.map encCell), .int .i64 f.seq, .str f.topic, .sl (f.payload.map u8), .int .i64 f.qos, .bool f.retain]] ([knF,knA,knM m]++F) fun d G=>d = .tup [.gs (.slice none 0 0) [], .int .i64 26]/\G=[knF,knA,knM m]++F:=by
 intro hA
 obtain ⟨hf,hB⟩:=hA
 refine DC.bodyS (n_:=86) (show Tryz.prog.funcs[16]? = some Tryz.f16 by kernel_rfl) rfl rfl (by rfl) ?_
 simp only [env0,List.cons_append,List.nil_append]
 have kw:=ksIs [0,1,2,3,4,6,9,26,27,36,37,38,39,50,56,84]
 have ow:=ownIs []
 have dw3:=drIs 3 [6,14] [3]
 have dw16:=drIs 16 [] [2,4,7,8,11,13,16,18]
 repeat' (first
  | refine g_ ?_
  | ((with_reducible refine And.intro ?_ ?_);(exact sv_pfput0_dc))
  | (refine DW.cond (by rfl) ?_ ?_<;>(first | exact i0_ | (refine ic_ ?_;intro hb)))
  | ((with_reducible first | refine FVg_cases ?_ ?_ | refine FDg_cases ?_ ?_)<;>(intro hb;rw [hb];revert hb;(first | exact i0_ | (refine i_ ?_;intro hb))))
  | refine r_ ?_
  | refine d_ ?_
  | refine k_ ?_
  | ((refine dm_ ?_);(first | (refine v_ (pfrightN_dc _ _ _) ?_ (ha:=by exact sv_pfput0_dc))))
  | refine vo_ ?_
  | (refine q_ (pfrightN_dc _ _ _) ?_ (ha:=by exact sv_pfput0_dc))
  | refine o_ ?_
  | refine f_ ?_
  | refine vm_ ?_
  | with_reducible intro b)
 (first | exact fin_ | refine finq_ ?_)
 all_goals rfl
theorem sv_pfput_dc {p:Prop} (h:p:=by first | exact sv | (simp only [List.length_append,leK_len,numsL_len,textBy_len,dotsBy_len,hdP_len,List.length_cons,List.length_nil];omega) | (refine ⟨?_,?_⟩<;>first | omega | (simp only [List.length_append,leK_len,numsL_len,textBy_len,dotsBy_len,hdP_len,List.length_cons,List.length_nil];omega)) | (refine ⟨?_,?_,?_⟩<;>first | omega | (simp only [List.length_append,leK_len,numsL_len,textBy_len,dotsBy_len,hdP_len,List.length_cons,List.length_nil];omega)) | exact ⟨hf,hB⟩ | (refine ⟨?_,⟨?_,?_,?_,?_⟩,?_,?_,?_⟩<;>first | omega | exact (fun k hk=>hf.tab.rf _ (getD_mem hk)) | exact (fun k hk=>hf.tab.ct _ (getD_mem hk)) | exact (fun k hk=>hf.tab.cp _ (getD_mem hk)) | (rw [hdP_len];decide)) | fail):p:=h
section
attribute [local push_cast 2000] V.sl.injEq forall_eq' byteOf_map isU8_map encU
theorem pfput_dc (f:TFrame) (m:Int) (F:Own):(LightF f/\frameB f=true)->DC Tryz.prog 16 [.agg [.int .i64 f.kind, .int .i64 f.fr, .int .i64 f.ep, .int .i64 f.at_, .sl (f.sums.map encU), .sl (f.seen.map encDot), .sl (f.tab.seen.map encDot), .sl (f.tab.fences.map encFence), .sl (f.tab.routes.map encRoute), .sl (f.tab.cells.map encCell), .int .i64 f.seq, .str f.topic, .sl (f.payload.map u8), .int .i64 f.qos, .bool f.retain]] ([knF,knA,knM m]++F) fun d G=>((fullBy f).length<=1048576/\∃ v1,d = .tup [.gs v1 ((fullBy f).map u8), .int .i64 0]/\G = .tail 1 v1::([knF,knA,knM m]++F))\/(1048576<(fullBy f).length/\d = .tup [.gs (.slice none 0 0) [], .int .i64 22]/\G=[knF,knA,knM m]++F):=by
 intro hA
 obtain ⟨hf,hB⟩:=hA
 refine DC.bodyS (n_:=86) (show Tryz.prog.funcs[16]? = some Tryz.f16 by kernel_rfl) rfl rfl (by rfl) ?_
 simp only [env0,List.cons_append,List.nil_append]
 have kw:=ksIs [0,1,2,3,4,6,9,26,27,36,37,38,39,50,56,84]
 have ow:=ownIs [10,11]
 have dw3:=drIs 3 [0,1,6,14] []
 have dw16:=drIs 16 [4,8,13,18] [2]
 have hk3:=frameB_kind hB;have q1:=hf.sums;have q2:=hf.seen;have q3:=hf.tab.s;have q4:=hf.tab.f;have q5:=hf.tab.r;have q6:=hf.tab.c;have q7:=hf.top;have q8:=hf.msg;have q9:=hdP_len f.kind f.fr f.ep f.at_;have q10:=tableP_len hf
 repeat' (first
  | ((with_reducible refine DW.loopB 1 (X:=Nat×Value×Str) (fun x=>x.1<=f.sums.length/\x.2.2=hdP f.kind f.fr f.ep f.at_++numsL [(f.sums.length:Int)]++flatBy sumBy (f.sums.take x.1)/\x.2.2.length<=100+8 * x.1) (fun x=>[(1, .sp [.int .i64 f.kind, .int .i64 f.fr, .int .i64 f.ep, .int .i64 f.at_, .sl (f.sums.map encU), .sl (f.seen.map encDot), .sl (f.tab.seen.map encDot), .sl (f.tab.fences.map encFence), .sl (f.tab.routes.map encRoute), .sl (f.tab.cells.map encCell), .int .i64 f.seq, .str f.topic, .sl (f.payload.map u8), .int .i64 f.qos, .bool f.retain]),(4, .gs x.2.1 (x.2.2.map u8)),(36, .sl (f.sums.map encU)),(37, .int .i64 f.sums.length),(38, .int .i64 x.1)]) (fun x=>.tail 1 x.2.1::([]:Own)) (fun x=>f.sums.length - x.1) ((0,v1,hdP f.kind f.fr f.ep f.at_++numsL [(f.sums.length:Int)])) ?_ ?_ ?_);exact (⟨Nat.zero_le _,by simp [flatBy_0],by simp only [List.length_append,hdP_len,numsL_len,List.length_cons,List.length_nil];omega⟩);(simp [Sub,get,keepL]<;>fail);(try simp only [List.cons_append,List.nil_append]);refine pl_ ?_;intro ⟨k,y,ls⟩ ⟨hk,hs,hm⟩;(try simp only [List.cons_append,List.nil_append]);simp only at hk hs hm)
  | refine g_ ?_
  | ((with_reducible refine And.intro ?_ ?_);(exact sv_pfput_dc))
  | (refine DW.cond (by rfl) ?_ ?_<;>(first | exact i0_ | (refine ic_ ?_;intro hb)))
  | ((with_reducible first | refine FVg_cases ?_ ?_ | refine FDg_cases ?_ ?_)<;>(intro hb;rw [hb];revert hb;(first | exact i0_ | (refine i_ ?_;intro hb))))
  | refine r_ ?_
  | refine d_ ?_
  | refine k_ ?_
  | ((refine dm_ ?_);(first | (refine v_ (pfrightY_dc _ _ _) ?_ (ha:=by exact sv_pfput_dc)) | (refine v_ (fnv_dc _ _) ?_ (ha:=by exact sv_pfput_dc))))
  | refine vo_ ?_
  | (refine q_ (pfrightY_dc _ _ _) ?_ (ha:=by exact sv_pfput_dc))
  | (refine p_ (numbersK_dc _ _ _ _ _ _) ?_ (ha:=by exact sv_pfput_dc);rintro d H1 ⟨v1,rfl,rfl⟩<;>refine s_ ?_)
  | ((first | refine p_ (numbersJ1_dc _ _ _ _) ?_ (ha:=by exact sv_pfput_dc) | refine p_ (number_dc _ _ _ _) ?_ (ha:=by exact sv_pfput_dc) | refine p_ (plines_dc _ _ _ _) ?_ (ha:=by exact sv_pfput_dc) | refine p_ (pstate_dc _ _ _ _ _ _ _) ?_ (ha:=by exact sv_pfput_dc) | refine p_ (textJ_dc _ _ _ _) ?_ (ha:=by exact sv_pfput_dc));rintro d H1 ⟨v1,rfl,rfl⟩<;>refine s_ ?_)
  | (refine q_ (fnv_dc _ _) ?_ (ha:=by exact sv_pfput_dc))
  | refine o_ ?_
  | refine f_ ?_
  | refine vm_ ?_
  | with_reducible intro b)
 all_goals first
 | (exfalso;omega)
 | (refine ⟨(k+1,v1,ls++sumBy (f.sums.getD k default)),⟨?_,?_,?_⟩,?_,?_,?_⟩;(dsimp only;omega);(dsimp only;rw [hs,flatBy_next sumBy (show k<f.sums.length by omega)];simp only [List.append_assoc]);(dsimp only;rw [List.length_append];have hx:=sumP_len (f.sums.getD k default);omega);(dsimp only;omega);(simp [Sub,get,sumBy]<;>fail);(dsimp only;(try simp only [sumBy,List.append_assoc]);(exact sub_));done)
 | (have hkx:k=f.sums.length:=by omega
    subst hkx
    rw [List.take_length] at hs
    have e:ls++dotsBy f.seen=bodyBy f:=by
     rw [<-bodyP (l:=restBy f) rfl,hs,restP_1 (by assumption)];(try simp only [List.append_assoc])
    have e2:=fullP e
    simp only [List.append_assoc] at e2
    have e3:=congrArg List.length e2
    simp only [List.length_append] at e3
    (try rw [e2])
    first
    | (refine ⟨_,_,le.rfl_, .inr ⟨by omega,rfl,rfl⟩,?_⟩;(exact sub_);done)
    | (refine ⟨_,_,le.rfl_, .inl ⟨by omega,_,rfl,rfl⟩,?_⟩;(exact sub_);done))
 | (have e:hdP f.kind f.fr f.ep f.at_++tableBy ⟨f.tab.seen,f.tab.fences,f.tab.routes,f.tab.cells⟩=bodyBy f:=by
     rw [<-bodyP (l:=restBy f) rfl,restP_2 (by assumption)];(try simp only [List.append_assoc])
    have e2:=fullP e
    simp only [List.append_assoc] at e2
    have e3:=congrArg List.length e2
    simp only [List.length_append] at e3
    (try rw [e2])
    first
    | (refine ⟨_,_,le.rfl_, .inr ⟨by omega,rfl,rfl⟩,?_⟩;(exact sub_);done)
    | (refine ⟨_,_,le.rfl_, .inl ⟨by omega,_,rfl,rfl⟩,?_⟩;(exact sub_);done))
 | (have e:hdP f.kind f.fr f.ep f.at_++(numsL [f.seq]++(textBy f.topic++(textBy f.payload++numsL [f.qos])))=bodyBy f:=by
     rw [<-bodyP (l:=restBy f) rfl,restP_3 (by assumption)];(try simp only [List.append_assoc])
    have e2:=fullP e
    simp only [List.append_assoc] at e2
    have e3:=congrArg List.length e2
    simp only [List.length_append] at e3
    (try rw [e2])
    first
    | (refine ⟨_,_,le.rfl_, .inr ⟨by omega,rfl,rfl⟩,?_⟩;(exact sub_);done)
    | (refine ⟨_,_,le.rfl_, .inl ⟨by omega,_,rfl,rfl⟩,?_⟩;(exact sub_);done))
 | (trace_state;fail)
end
end
section
structure WideT (t:TTable):Prop where
 ls:t.seen.length<=1000000
 lf:t.fences.length<=1000000
 lr:t.routes.length<=100000
 lc:t.cells.length<=100000
 r:∀ k,(t.routes.getD k default).filter.length<=2000000
 c:∀ k,(t.cells.getD k default).topic.length<=2000000/\(t.cells.getD k default).payload.length<=2000000
theorem getD_def {α:Type} [Inhabited α] (l:List α) (k:Nat):l.getD k default∈l\/l.getD k default=default:=by
 by_cases h:k<l.length
 · exact .inl (getD_mem h)
 · right;rw [List.getD_eq_getElem?_getD,List.getElem?_eq_none (by omega)];rfl
theorem LightT.wide {t:TTable} (h:LightT t):WideT t:=by
 refine ⟨h.s,h.f,h.r,h.c,fun k=>?_,fun k=>?_⟩
 · rcases getD_def t.routes k with e | e
   · exact h.rf _ e
   · rw [e];exact Nat.zero_le _
 · rcases getD_def t.cells k with e | e
   · exact ⟨h.ct _ e,h.cp _ e⟩
   · rw [e];exact ⟨Nat.zero_le _,Nat.zero_le _⟩
theorem WideT.rl {t:TTable} (h:WideT t) (k:Nat):(flatBy routeBy (t.routes.take k)).length<=200003200000:=row_le (n:=2000032) (fun k=>by rw [routeBy_len];have:=h.r k;omega) (by have:=h.lr;omega) k
theorem WideT.cl {t:TTable} (h:WideT t) (k:Nat):(flatBy cellBy (t.cells.take k)).length<=400008000000:=row_le (n:=4000080) (fun k=>by rw [cellBy_len];have:=h.c k;omega) (by have:=h.lc;omega) k
theorem WideT.fl {t:TTable} (h:WideT t) (k:Nat):(flatBy fenceBy (t.fences.take k)).length<=16000000:=row_le (n:=16) (fun k=>by rw [fenceBy_len];exact Nat.le_refl _) (by have:=h.lf;omega) k
attribute [local irreducible] DW SeqD DV DOp DC DVX DVJ leK numsL
theorem sv_ptableL_dc {p:Prop} (h:p:=by first | exact sv | (simp [u8,V.one,V.n];omega) | (simp [u8,V.one,V.n]<;>fail) | (simp only [List.length_append,leK_len,numsL_len];omega) | (simp only [List.length_append,leK_len,numsL_len,textBy_len,dotsBy_len,List.length_map,List.length_cons,List.length_nil]<;>omega) | fail):p:=h
section
attribute [local push_cast 2000] encFence encRoute encCell bytes_are bytes_back
theorem ptableL_dc (v:Value) (n:Nat) (l:List UInt8) (t:TTable) (F:Own):(n=l.length/\l.length<=1000/\WideT t)->DC Tryz.prog 59 [.ar v n, .agg [.sl (t.seen.map encDot), .sl (t.fences.map encFence), .sl (t.routes.map encRoute), .sl (t.cells.map encCell)]] ([.arr 1 v ((l).map u8)]++F) fun d G=>∃ v1 m1,d = .ar v1 m1/\m1=l.length+(tableBy t).length/\G = .arr 1 v1 ((l++tableBy t).map u8)::F:=by
 intro hA
 obtain ⟨hn,hl,ht⟩:=hA
 refine DC.bodyS (n_:=130) (show Tryz.prog.funcs[59]? = some Tryz.f59 by kernel_rfl) rfl rfl (by rfl) ?_
 simp only [env0,List.append_nil,List.take_zero,flatBy_nil,List.length_append,leK_len,numsL_len,dotsBy_len,List.cons_append,List.nil_append]
 have kw:=ksIs [0,1,3,4,5,6,7,8,9,10,24,52,85,94]
 have ow:=ownIs []
 have dw1:=drIs 1 [3,8] [2]
 have dw5:=drIs 5 [14] [2,6,8,12]
 have dw11:=drIs 11 [11,14] [3,6,9]
 have dw21:=drIs 21 [3,7,12] [2]
 have:=ht.ls;have:=ht.lr;have:=ht.lf;have:=ht.lc
 repeat' (first
  | ((with_reducible apply DW.frzB 11 7);(focus (exact rfl));(repeat (with_reducible first | refine Out.here ?_ | refine Out.next ?_));simp only [put_cons,put_nil,Nat.reduceEqDiff,↓reduceIte,if_true,if_false,reduceCtorEq])
  | ((with_reducible apply DW.frzB 21 9);(focus (exact rfl));(repeat (with_reducible first | refine Out.here ?_ | refine Out.next ?_));simp only [put_cons,put_nil,Nat.reduceEqDiff,↓reduceIte,if_true,if_false,reduceCtorEq])
  | ((with_reducible refine DW.loopB 0 (X:=Nat×Value×Nat×Str) (fun x=>x.1<=t.fences.length/\x.2.2.2=l++(dotsBy t.seen++numsL [(t.fences.length:Int)])++flatBy fenceBy (t.fences.take x.1)/\x.2.2.1=x.2.2.2.length) (fun x=>[(0, .ar x.2.1 x.2.2.1),(3, .sp [.sl (t.seen.map encDot), .sl (t.fences.map encFence), .sl (t.routes.map encRoute), .sl (t.cells.map encCell)]),(5, .int .i64 x.1)]) (fun x=>.arr 1 x.2.1 (x.2.2.2.map u8)::([]:Own)) (fun x=>t.fences.length - x.1) ((0,v1,n+8+24 * t.seen.length+8,l++(dotsBy t.seen++numsL [(t.fences.length:Int)]))) ?_ ?_ ?_);exact (⟨Nat.zero_le _,by simp [flatBy_nil],by simp only [List.length_append,dotsBy_len,numsL_len,List.length_cons,List.length_nil]<;>omega⟩);(simp [Sub,get,keepL]<;>fail);(try simp only [List.append_nil,List.take_zero,flatBy_nil,List.length_append,leK_len,numsL_len,dotsBy_len,List.cons_append,List.nil_append]);refine pl_ ?_;intro ⟨k,y,m,ls⟩ ⟨hk,hs,hm⟩;(try simp only [List.append_nil,List.take_zero,flatBy_nil,List.length_append,leK_len,numsL_len,dotsBy_len,List.cons_append,List.nil_append]);simp only at hk hs hm;have z1:=ht.fl k;have z2:=congrArg List.length hs;simp only [List.length_append,dotsBy_len,numsL_len,List.length_cons,List.length_nil] at z2)
  | ((with_reducible refine DW.loopB 2 (X:=Nat×Value×Nat×Str) (fun x=>x.1<=t.routes.length/\x.2.2.2=l++(dotsBy t.seen++numsL [(t.fences.length:Int)])++(flatBy fenceBy t.fences++numsL [(t.routes.length:Int)])++flatBy routeBy (t.routes.take x.1)/\x.2.2.1=x.2.2.2.length) (fun x=>[(0, .ar x.2.1 x.2.2.1),(3, .sp [.sl (t.seen.map encDot), .sl (t.fences.map encFence), .sl (t.routes.map encRoute), .sl (t.cells.map encCell)]),(6, .int .i64 x.1)]) (fun x=>.arr 1 x.2.1 (x.2.2.2.map u8)::([]:Own)) (fun x=>t.routes.length - x.1) ((0,v1,m+8,ls++numsL [(t.routes.length:Int)])) ?_ ?_ ?_);exact (⟨Nat.zero_le _,by (have hkk:k=t.fences.length:=by omega);subst hkk;simp [hs,flatBy_nil,List.take_length],by simp only [List.length_append,dotsBy_len,numsL_len,List.length_cons,List.length_nil]<;>omega⟩);(simp [Sub,get,keepL]<;>fail);(try simp only [List.append_nil,List.take_zero,flatBy_nil,List.length_append,leK_len,numsL_len,dotsBy_len,List.cons_append,List.nil_append]);refine pl_ ?_;intro ⟨k2,y2,m2,ls2⟩ ⟨hk2,hs2,hm2⟩;(try simp only [List.append_nil,List.take_zero,flatBy_nil,List.length_append,leK_len,numsL_len,dotsBy_len,List.cons_append,List.nil_append]);simp only at hk2 hs2 hm2;have z1:=ht.fl t.fences.length;have z3:=ht.rl k2;rw [List.take_length] at z1;have z2:=congrArg List.length hs2;have hrk:=ht.r k2;simp only [List.length_append,dotsBy_len,numsL_len,List.length_cons,List.length_nil] at z2)
  | ((with_reducible refine DW.loopB 4 (X:=Nat×Value×Nat×Str) (fun x=>x.1<=t.cells.length/\x.2.2.2=l++(dotsBy t.seen++numsL [(t.fences.length:Int)])++(flatBy fenceBy t.fences++numsL [(t.routes.length:Int)])++(flatBy routeBy t.routes++numsL [(t.cells.length:Int)])++flatBy cellBy (t.cells.take x.1)/\x.2.2.1=x.2.2.2.length) (fun x=>[(0, .ar x.2.1 x.2.2.1),(3, .sp [.sl (t.seen.map encDot), .sl (t.fences.map encFence), .sl (t.routes.map encRoute), .sl (t.cells.map encCell)]),(8, .int .i64 x.1)]) (fun x=>.arr 1 x.2.1 (x.2.2.2.map u8)::([]:Own)) (fun x=>t.cells.length - x.1) ((0,v1,m2+8,ls2++numsL [(t.cells.length:Int)])) ?_ ?_ ?_);exact (⟨Nat.zero_le _,by (have hkk:k2=t.routes.length:=by omega);subst hkk;simp [hs2,flatBy_nil,List.take_length],by simp only [List.length_append,dotsBy_len,numsL_len,List.length_cons,List.length_nil]<;>omega⟩);(simp [Sub,get,keepL]<;>fail);(try simp only [List.append_nil,List.take_zero,flatBy_nil,List.length_append,leK_len,numsL_len,dotsBy_len,List.cons_append,List.nil_append]);refine pl_ ?_;intro ⟨k3,y3,m3,ls3⟩ ⟨hk3,hs3,hm3⟩;(try simp only [List.append_nil,List.take_zero,flatBy_nil,List.length_append,leK_len,numsL_len,dotsBy_len,List.cons_append,List.nil_append]);simp only at hk3 hs3 hm3;have z1:=ht.fl t.fences.length;have z3:=ht.rl t.routes.length;have z4:=ht.cl k3;rw [List.take_length] at z1 z3;have z2:=congrArg List.length hs3;obtain ⟨hck1,hck2⟩:=ht.c k3;simp only [List.length_append,dotsBy_len,numsL_len,List.length_cons,List.length_nil] at z2)
  | refine g_ ?_
  | ((with_reducible refine And.intro ?_ ?_);(exact sv_ptableL_dc))
  | (refine DW.cond (by rfl) ?_ ?_<;>(first | exact i0_ | (refine ic_ ?_;intro hb)))
  | ((with_reducible first | refine FVg_cases ?_ ?_ | refine FDg_cases ?_ ?_)<;>(intro hb;rw [hb];revert hb;(first | exact i0_ | (refine i_ ?_;intro hb))))
  | refine r_ ?_
  | refine d_ ?_
  | refine k_ ?_
  | refine vo_ ?_
  | (refine p_ (num1_dc _ _ _ _ _) ?_ (ha:=by exact sv_ptableL_dc);rintro d H1 ⟨v1,rfl,rfl⟩<;>refine s_ ?_)
  | (refine p_ (num2_dc _ _ _ _ _ _) ?_ (ha:=by exact sv_ptableL_dc);rintro d H1 ⟨v1,rfl,rfl⟩<;>refine s_ ?_)
  | (refine p_ (num3_dc _ _ _ _ _ _ _) ?_ (ha:=by exact sv_ptableL_dc);rintro d H1 ⟨v1,rfl,rfl⟩<;>refine s_ ?_)
  | (refine p_ (num6_dc _ _ _ _ _ _ _ _ _ _) ?_ (ha:=by exact sv_ptableL_dc);rintro d H1 ⟨v1,rfl,rfl⟩<;>refine s_ ?_)
  | ((first | refine p_ (ptext_dc _ _ _ _ _) ?_ (ha:=by exact sv_ptableL_dc) | refine p_ (pdots_dc _ _ _ _ _) ?_ (ha:=by exact sv_ptableL_dc));rintro d H1 ⟨v1,rfl,rfl⟩<;>refine s_ ?_)
  | refine o_ ?_
  | refine f_ ?_
  | refine vm_ ?_
  | with_reducible intro b)
 all_goals first
 | (refine ⟨(k+1,v1,m+16,ls++fenceBy (t.fences.getD k default)),⟨?_,?_,?_⟩,?_,?_,?_⟩;(dsimp only;omega);(dsimp only;rw [hs,flatBy_next fenceBy (show k<t.fences.length by omega)];simp only [List.append_assoc]);(dsimp only;simp only [List.length_append,fenceBy_len];omega);(dsimp only;omega);(simp [Sub,get]<;>fail);(dsimp only;simp only [fenceBy,List.append_assoc];(exact sub_));done)
 | (refine ⟨(k2+1,v1,m2+24+8+List.length (t.routes.getD k2 default).filter,ls2++routeBy (t.routes.getD k2 default)),⟨?_,?_,?_⟩,?_,?_,?_⟩;(dsimp only;omega);(dsimp only;rw [hs2,flatBy_next routeBy (show k2<t.routes.length by omega)];simp only [List.append_assoc]);(dsimp only;simp only [List.length_append,routeBy_len];omega);(dsimp only;omega);(simp [Sub,get]<;>fail);(dsimp only;simp only [routeBy,List.append_assoc];(exact sub_));done)
 | (refine ⟨(k3+1,v1,m3+48+8+List.length (t.cells.getD k3 default).topic+8+List.length (t.cells.getD k3 default).payload+16,ls3++cellBy (t.cells.getD k3 default)),⟨?_,?_,?_⟩,?_,?_,?_⟩;(dsimp only;omega);(dsimp only;rw [hs3,flatBy_next cellBy (show k3<t.cells.length by omega)];simp only [List.append_assoc]);(dsimp only;simp only [List.length_append,cellBy_len];omega);(dsimp only;omega);(simp [Sub,get]<;>fail);(dsimp only;simp only [cellBy,hb,gone_0,gone_1,List.append_assoc];(exact sub_));done)
 | (have hkx:k3=t.cells.length:=by omega
    subst hkx
    rw [List.take_length] at hs3
    have e:ls3=l++tableBy t:=by rw [hs3];simp only [tableBy,List.append_assoc]
    subst e
    refine ⟨_,_,le.rfl_,⟨y3,m3,rfl,(by rw [hm3,List.length_append]),rfl⟩,?_⟩;(exact sub_);done)
end
end
end Go.Proofs.YtbmbcjmgjdnlnaaGreatDoor
