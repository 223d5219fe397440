/- Any bytes are read, number by number. -/
import Derived.Test.YtbmbcjmgjdnlnaaGreatDoorFm5x
import Derived.Test.YtbmbcjmgjdnlnaaGreatDoorLex
import Derived.Test.YtbmbcjmgjdnlnaaGreatDoorFp3x
import Derived.KernelRfl
namespace Go.Proofs.YtbmbcjmgjdnlnaaGreatDoor
open Go.RowKit
set_option linter.unusedSimpArgs false
set_option linter.unusedVariables false
set_option linter.unusedSectionVars false
set_option maxHeartbeats 4000000
set_option maxRecDepth 100000
section
structure RS where
 l:Str
 k:Bool
def takeR (s:RS) (n:Int):Str×RS:=if n<=s.l.length then (s.l.take n.toNat,⟨s.l.drop n.toNat,s.k⟩) else ([],⟨[],true⟩)
theorem valL_b (l:Str):0<=valL l/\valL l<256 ^ l.length:=(leK_val l).2
def numR (s:RS):Int×RS:=if 8<=s.l.length then (valL (s.l.take 8),⟨s.l.drop 8,s.k⟩) else (0,⟨[],true⟩)
theorem take_len (s:RS) (n:Int):(takeR s n).2.l.length<=s.l.length:=by unfold takeR;split<;>simp
theorem take_len1 (s:RS) (n:Int):(takeR s n).1.length<=s.l.length:=by unfold takeR;split<;>simp;omega
theorem numR_len (s:RS):(numR s).2.l.length<=s.l.length:=by unfold numR;split<;>simp
theorem numR_b (s:RS):0<=(numR s).1/\(numR s).1<=18446744073709551615:=by
 unfold numR
 split
 · have:=valL_b (s.l.take 8)
   rw [List.length_take,Nat.min_eq_left (by assumption)] at this
   have h:(256:Int) ^ 8=18446744073709551616:=by decide
   simp only
   omega
 · simp
attribute [local irreducible] DW SeqD DV DOp DC DVX DVJ leK valL
theorem take0_dc (b:Nat) (l:List UInt8) (k:Bool) (n:Int) (F:Own):((l.length<n/\n<=18446744073709551615)/\l.length<=1000000000000)->DC Tryz.prog 132 [.raw (.pointer (some ⟨b,0,none⟩)), .int .u64 n] ([.blk b [.sl ((l).map u8), .bool (k)]]++F) fun d G=>d = .gs (.slice none 0 0) []/\G = .blk b [.gs (.slice none 0 0) [], .bool true]::F:=by
 intro hA
 obtain ⟨hn,hl⟩:=hA
 refine DC.bodyS (n_:=36) (show Tryz.prog.funcs[132]? = some Tryz.f132 by kernel_rfl) rfl rfl (by rfl) ?_
 simp only [env0,List.cons_append,List.nil_append]
 have kw:=ksIs [0,1,4,5,13]
 have ow:=ownIs []
 repeat' (first
  | refine g_ ?_
  | ((with_reducible refine And.intro ?_ ?_);(exact sv_take0_dc))
  | (refine DW.cond (by rfl) ?_ ?_<;>(first | exact i0_ | (refine ic_ ?_;intro hb)))
  | ((with_reducible refine FVg_cases ?_ ?_)<;>(intro hb;rw [hb];revert hb;(first | exact i0_ | (refine i_ ?_;intro hb))))
  | refine r_ ?_
  | refine k_ ?_
  | refine o_ ?_
  | refine f_ ?_
  | with_reducible intro b)
 all_goals first
 | ((first | exact fin_ | refine finq_ ?_);done)
 | (exfalso;omega)
theorem takeG_dc (b:Nat) (s:RS) (n:Int) (F:Own):((0<=n/\n<=18446744073709551615)/\s.l.length<=1000000000000)->DC Tryz.prog 132 [.raw (.pointer (some ⟨b,0,none⟩)), .int .u64 n] ([.blk b [.sl ((s.l).map u8), .bool (s.k)]]++F) fun d G=>d = .sl ((takeR s n).1.map u8)/\G = .blk b [.sl (((takeR s n).2.l).map u8), .bool ((takeR s n).2.k)]::F:=fun ⟨hn,hl⟩=>by
 by_cases h:n<=s.l.length
 · have:=take_dc b s.l s.k n F ⟨⟨hn.1,h⟩,hl⟩
   unfold takeR;rw [if_pos h];exact this
 · refine (take0_dc b s.l s.k n F ⟨⟨by omega,hn.2⟩,hl⟩).post_le fun d G ⟨hd,hG⟩=>⟨_,_,hd▸le.gs rfl,hG▸OLe.blk (Les.cons (le.gs rfl) (Les.cons le.rfl_ Les.nil)),?_⟩
   unfold takeR;rw [if_neg h];exact ⟨rfl,rfl⟩
theorem take8_dc (b:Nat) (s:RS) (F:Own):(s.l.length<8)->DC Tryz.prog 132 [.raw (.pointer (some ⟨b,0,none⟩)), .int .u64 8] ([.blk b [.sl ((s.l).map u8), .bool (s.k)]]++F) fun d G=>d = .sl []/\G = .blk b [.sl [], .bool true]::F:=fun h=>by
 have:=takeG_dc b s 8 F ⟨by decide,by omega⟩
 unfold takeR at this;rw [if_neg (by omega)] at this;exact this
theorem sv_rnumB_dc {p:Prop} (h:p:=by first | exact sv | (simp [u8,V.one];omega) | (simp [u8,V.one]<;>fail) | fail):p:=h
theorem rnumB_dc (b:Nat) (s:RS) (F:Own):(s.l.length<8)->DC Tryz.prog 68 [.raw (.pointer (some ⟨b,0,none⟩))] ([.blk b [.sl ((s.l).map u8), .bool (s.k)]]++F) fun d G=>d = .int .u64 0/\G = .blk b [.sl [], .bool true]::F:=by
 intro hA
 have hl:=hA
 refine DC.bodyS (n_:=23) (show Tryz.prog.funcs[68]? = some Tryz.f68 by kernel_rfl) rfl rfl (by rfl) ?_
 simp only [env0,List.cons_append,List.nil_append]
 have kw:=ksIs [0,2,3,4,5,7,8,9,10]
 have ow:=ownIs []
 repeat' (first
  | ((with_reducible refine DW.loopB 0 (X:=Nat) (fun x=>x<=0) (fun x=>[(3, .int .u64 0),(7, .sl []),(8, .int .i64 0),(9, .int .i64 x)]) (fun x=>([]:Own)) (fun x=>0 - x) (0) ?_ ?_ ?_);exact (Nat.zero_le _);(simp [Sub,get,keepL]<;>fail);(try simp only [List.cons_append,List.nil_append]);refine pl_ ?_;intro j hj;(try simp only [List.cons_append,List.nil_append]))
  | refine g_ ?_
  | ((with_reducible refine And.intro ?_ ?_);(exact sv_rnumB_dc))
  | (refine DW.cond (by rfl) ?_ ?_<;>(first | exact i0_ | (refine ic_ ?_;intro hb)))
  | ((with_reducible refine FVg_cases ?_ ?_)<;>(intro hb;rw [hb];revert hb;(first | exact i0_ | (refine i_ ?_;intro hb))))
  | refine r_ ?_
  | refine k_ ?_
  | (refine p_ (take8_dc _ _ _) ?_ (ha:=by exact sv_rnumB_dc);rintro d H1 ⟨rfl,rfl⟩<;>refine s_ ?_)
  | refine o_ ?_
  | refine f_ ?_
  | with_reducible intro b)
 all_goals first
 | (exfalso;omega)
 | ((first | exact fin_ | refine finq_ ?_);done)
theorem numG_dc (b:Nat) (s:RS) (F:Own):(s.l.length<=100000000000)->DC Tryz.prog 68 [.raw (.pointer (some ⟨b,0,none⟩))] ([.blk b [.sl ((s.l).map u8), .bool (s.k)]]++F) fun d G=>d = .int .u64 (numR s).1/\G = .blk b [.sl (((numR s).2.l).map u8), .bool ((numR s).2.k)]::F:=fun hl=>by
 by_cases h:8<=s.l.length
 · have h8:(s.l.take 8).length=8:=by rw [List.length_take];omega
   have hv:=valL_b (s.l.take 8)
   rw [h8] at hv
   have hp:(256:Int) ^ 8=18446744073709551616:=by decide
   have:=rnum_dc b (valL (s.l.take 8)) (s.l.drop 8) s.k F ⟨⟨hv.1,by omega⟩,by rw [List.length_drop];omega⟩
   have e:leK 8 (valL (s.l.take 8))++s.l.drop 8=s.l:=by
    have:=(leK_val (s.l.take 8)).1
    rw [h8] at this
    rw [this,List.take_append_drop]
   rw [e] at this
   unfold numR;rw [if_pos h];exact this
 · have:=rnumB_dc b s F (by omega)
   unfold numR;rw [if_neg h];exact this
def intR (s:RS):Int×RS:=(IntKind.i64.wrap (numR s).1,(numR s).2)
def textR (s:RS):Str×RS:=takeR (numR s).2 (numR s).1
def dotR (s:RS):TDot×RS:=(⟨(intR s).1,(intR (intR s).2).1,(intR (intR (intR s).2).2).1⟩,(intR (intR (intR s).2).2).2)
theorem intR_len (s:RS):(intR s).2.l.length<=s.l.length:=numR_len s
theorem textR_len (s:RS):(textR s).2.l.length<=s.l.length:=Nat.le_trans (take_len _ _) (numR_len s)
theorem textR_len1 (s:RS):(textR s).1.length<=s.l.length:=Nat.le_trans (take_len1 _ _) (numR_len s)
theorem dotR_len (s:RS):(dotR s).2.l.length<=s.l.length:=Nat.le_trans (intR_len _) (Nat.le_trans (intR_len _) (intR_len s))
attribute [local irreducible] numR takeR
theorem intG_dc (b:Nat) (s:RS) (F:Own):(s.l.length<=100000000000)->DC Tryz.prog 133 [.raw (.pointer (some ⟨b,0,none⟩))] ([.blk b [.sl ((s.l).map u8), .bool (s.k)]]++F) fun d G=>d = .int .i64 (intR s).1/\G = .blk b [.sl (((intR s).2.l).map u8), .bool ((intR s).2.k)]::F:=by
 intro hA
 have hl:=hA
 refine DC.bodyS (n_:=6) (show Tryz.prog.funcs[133]? = some Tryz.f133 by kernel_rfl) rfl rfl (by rfl) ?_
 simp only [env0,List.cons_append,List.nil_append]
 have kw:=ksIs [0,2]
 have ow:=ownIs []
 repeat' (first
  | refine g_ ?_
  | ((with_reducible refine And.intro ?_ ?_);(exact sv))
  | (refine DW.cond (by rfl) ?_ ?_<;>(first | exact i0_ | (refine ic_ ?_;intro hb)))
  | ((with_reducible refine FVg_cases ?_ ?_)<;>(intro hb;rw [hb];revert hb;(first | exact i0_ | (refine i_ ?_;intro hb))))
  | refine r_ ?_
  | refine k_ ?_
  | (refine p_ (numG_dc _ _ _) ?_;rintro d H1 ⟨rfl,rfl⟩<;>refine s_ ?_)
  | refine o_ ?_
  | refine f_ ?_
  | with_reducible intro b)
 all_goals first
 | (simp only [intR];(first | exact fin_ | refine finq_ ?_);done)
theorem sv_textG_dc {p:Prop} (h:p:=by first | exact sv | exact ⟨numR_b _,Nat.le_trans (Nat.le_trans (numR_len _) hl) (by decide)⟩ | fail):p:=h
section
attribute [local push_cast 2000] byteOf_map isU8_map
theorem textG_dc (b:Nat) (s:RS) (F:Own):(s.l.length<=100000000000)->DC Tryz.prog 139 [.raw (.pointer (some ⟨b,0,none⟩))] ([.blk b [.sl ((s.l).map u8), .bool (s.k)]]++F) fun d G=>d = .str (textR s).1/\G = .blk b [.sl (((textR s).2.l).map u8), .bool ((textR s).2.k)]::F:=by
 intro hA
 have hl:=hA
 refine DC.bodyS (n_:=8) (show Tryz.prog.funcs[139]? = some Tryz.f139 by kernel_rfl) rfl rfl (by rfl) ?_
 simp only [env0,List.cons_append,List.nil_append]
 have kw:=ksIs [0,2]
 have ow:=ownIs []
 repeat' (first
  | refine g_ ?_
  | ((with_reducible refine And.intro ?_ ?_);(exact sv_textG_dc))
  | (refine DW.cond (by rfl) ?_ ?_<;>(first | exact i0_ | (refine ic_ ?_;intro hb)))
  | ((with_reducible refine FVg_cases ?_ ?_)<;>(intro hb;rw [hb];revert hb;(first | exact i0_ | (refine i_ ?_;intro hb))))
  | refine r_ ?_
  | refine k_ ?_
  | (refine p_ (numG_dc _ _ _) ?_ (ha:=by exact sv_textG_dc);rintro d H1 ⟨rfl,rfl⟩<;>refine s_ ?_)
  | (refine p_ (takeG_dc _ _ _ _) ?_ (ha:=by exact sv_textG_dc);rintro d H1 ⟨rfl,rfl⟩<;>refine s_ ?_)
  | refine o_ ?_
  | refine f_ ?_
  | with_reducible intro b)
 all_goals first
 | (simp only [textR];(first | exact fin_ | refine finq_ ?_);done)
end
attribute [local irreducible] intR
theorem sv_dotG_dc {p:Prop} (h:p:=by first | exact sv | exact Nat.le_trans (intR_len _) hl | exact Nat.le_trans (intR_len _) (Nat.le_trans (intR_len _) hl) | fail):p:=h
theorem dotG_dc (b:Nat) (s:RS) (F:Own):(s.l.length<=100000000000)->DC Tryz.prog 137 [.raw (.pointer (some ⟨b,0,none⟩))] ([.blk b [.sl ((s.l).map u8), .bool (s.k)]]++F) fun d G=>d = .agg [.int .i64 (dotR s).1.node, .int .i64 (dotR s).1.epoch, .int .i64 (dotR s).1.n]/\G = .blk b [.sl (((dotR s).2.l).map u8), .bool ((dotR s).2.k)]::F:=by
 intro hA
 have hl:=hA
 refine DC.bodyS (n_:=10) (show Tryz.prog.funcs[137]? = some Tryz.f137 by kernel_rfl) rfl rfl (by rfl) ?_
 simp only [env0,List.cons_append,List.nil_append]
 have kw:=ksIs [0,2]
 have ow:=ownIs [2]
 have rw_:=rsIs [.cell 2 72]
 repeat' (first
  | refine g_ ?_
  | ((with_reducible refine And.intro ?_ ?_);(exact sv_dotG_dc))
  | (refine DW.cond (by rfl) ?_ ?_<;>(first | exact i0_ | (refine ic_ ?_;intro hb)))
  | ((with_reducible refine FVg_cases ?_ ?_)<;>(intro hb;rw [hb];revert hb;(first | exact i0_ | (refine i_ ?_;intro hb))))
  | refine r_ ?_
  | refine k_ ?_
  | (refine p_ (intG_dc _ _ _) ?_ (ha:=by exact sv_dotG_dc);rintro d H1 ⟨rfl,rfl⟩<;>refine s_ ?_)
  | refine o_ ?_
  | refine f_ ?_
  | with_reducible intro b)
 all_goals first
 | (simp only [dotR];(first | exact fin_ | refine finq_ ?_);done)
end
section
def mu (s:RS):Nat:=if s.k=true then 0 else s.l.length+1
theorem numR_mu (s:RS):mu (numR s).2<=mu s/\(s.k=false->mu (numR s).2<mu s):=by
 unfold numR mu
 by_cases h:8<=s.l.length
 · rw [if_pos h]
   cases hk:s.k<;>simp [hk]<;>omega
 · rw [if_neg h]
   cases hk:s.k<;>simp [hk]
theorem takeR_mu (s:RS) (n:Int):mu (takeR s n).2<=mu s:=by
 unfold takeR mu
 split
 · cases hk:s.k<;>simp [hk]
 · simp
theorem intR_mu (s:RS):mu (intR s).2<=mu s/\(s.k=false->mu (intR s).2<mu s):=numR_mu s
theorem textR_mu (s:RS):mu (textR s).2<=mu s/\(s.k=false->mu (textR s).2<mu s) :=
 ⟨Nat.le_trans (takeR_mu _ _) (numR_mu s).1,fun h=>Nat.lt_of_le_of_lt (takeR_mu _ _) ((numR_mu s).2 h)⟩
theorem dotR_mu (s:RS):mu (dotR s).2<=mu s/\(s.k=false->mu (dotR s).2<mu s) :=
 ⟨Nat.le_trans (intR_mu _).1 (Nat.le_trans (intR_mu _).1 (intR_mu s).1),fun h=>Nat.lt_of_le_of_lt (intR_mu _).1 (Nat.lt_of_le_of_lt (intR_mu _).1 ((intR_mu s).2 h))⟩
attribute [local irreducible] numR intR textR dotR takeR
def cS1 (s:RS):RS:=(dotR s).2
def cS2 (s:RS):RS:=(numR (cS1 s)).2
def cS3 (s:RS):RS:=(numR (cS2 s)).2
def cS4 (s:RS):RS:=(intR (cS3 s)).2
def cS5 (s:RS):RS:=(textR (cS4 s)).2
def cS6 (s:RS):RS:=(textR (cS5 s)).2
def cS7 (s:RS):RS:=(intR (cS6 s)).2
def cS8 (s:RS):RS:=(numR (cS7 s)).2
def cellR (s:RS):TCell×RS:=(⟨(dotR s).1,⟨IntKind.i64.wrap (numR (cS1 s)).1,IntKind.i64.wrap (numR (cS2 s)).1,(intR (cS3 s)).1⟩,(textR (cS4 s)).1,(textR (cS5 s)).1,(intR (cS6 s)).1,(numR (cS7 s)).1==1⟩,cS8 s)
theorem cS_mu (s:RS):mu (cS8 s)<=mu (cS1 s):=by
 have h2:mu (cS2 s)<=mu (cS1 s):=(numR_mu (cS1 s)).1
 have h3:mu (cS3 s)<=mu (cS2 s):=(numR_mu (cS2 s)).1
 have h4:mu (cS4 s)<=mu (cS3 s):=(intR_mu (cS3 s)).1
 have h5:mu (cS5 s)<=mu (cS4 s):=(textR_mu (cS4 s)).1
 have h6:mu (cS6 s)<=mu (cS5 s):=(textR_mu (cS5 s)).1
 have h7:mu (cS7 s)<=mu (cS6 s):=(intR_mu (cS6 s)).1
 have h8:mu (cS8 s)<=mu (cS7 s):=(numR_mu (cS7 s)).1
 omega
theorem cS_len (s:RS):(cS8 s).l.length<=s.l.length:=by
 have h1:(cS1 s).l.length<=s.l.length:=dotR_len s
 have h2:(cS2 s).l.length<=(cS1 s).l.length:=numR_len (cS1 s)
 have h3:(cS3 s).l.length<=(cS2 s).l.length:=numR_len (cS2 s)
 have h4:(cS4 s).l.length<=(cS3 s).l.length:=intR_len (cS3 s)
 have h5:(cS5 s).l.length<=(cS4 s).l.length:=textR_len (cS4 s)
 have h6:(cS6 s).l.length<=(cS5 s).l.length:=textR_len (cS5 s)
 have h7:(cS7 s).l.length<=(cS6 s).l.length:=intR_len (cS6 s)
 have h8:(cS8 s).l.length<=(cS7 s).l.length:=numR_len (cS7 s)
 omega
theorem cellR_2 (s:RS):(cellR s).2=cS8 s:=rfl
theorem cellR_mu (s:RS):mu (cellR s).2<=mu s/\(s.k=false->mu (cellR s).2<mu s):=by
 rw [cellR_2]
 have h:=cS_mu s
 exact ⟨Nat.le_trans h (dotR_mu s).1,fun hk=>Nat.lt_of_le_of_lt h ((dotR_mu s).2 hk)⟩
theorem cellR_len (s:RS):(cellR s).2.l.length<=s.l.length:=by rw [cellR_2];exact cS_len s
def fenR (s:RS):TFence×RS:=(⟨(intR s).1,(intR (intR s).2).1⟩,(intR (intR s).2).2)
def routeR (s:RS):TRoute×RS:=(⟨(dotR s).1,(textR (dotR s).2).1⟩,(textR (dotR s).2).2)
theorem fenR_mu (s:RS):mu (fenR s).2<=mu s/\(s.k=false->mu (fenR s).2<mu s):=⟨Nat.le_trans (intR_mu _).1 (intR_mu s).1,fun h=>Nat.lt_of_le_of_lt (intR_mu _).1 ((intR_mu s).2 h)⟩
theorem routeR_mu (s:RS):mu (routeR s).2<=mu s/\(s.k=false->mu (routeR s).2<mu s):=⟨Nat.le_trans (textR_mu _).1 (dotR_mu s).1,fun h=>Nat.lt_of_le_of_lt (textR_mu _).1 ((dotR_mu s).2 h)⟩
theorem fenR_len (s:RS):(fenR s).2.l.length<=s.l.length:=Nat.le_trans (intR_len _) (intR_len s)
theorem routeR_len (s:RS):(routeR s).2.l.length<=s.l.length:=Nat.le_trans (textR_len _) (dotR_len s)
def listL {β:Type} (one:RS->β×RS):Nat->Int->List β->RS->List β×RS
 | 0,_,a,s=>(a,s)
 | q+1,n,a,s=>if 0<n/\s.k=false then listL one q (n - 1) (a++[(one s).1]) (one s).2 else (a,s)
theorem listL_go {β:Type} {one:RS->β×RS} (hm:∀ s,mu (one s).2<=mu s/\(s.k=false->mu (one s).2<mu s)) {q:Nat} {n:Int} {a:List β} {s:RS} (hq:mu s<=q) (h:0<n/\s.k=false):listL one q n a s=listL one (q - 1) (n - 1) (a++[(one s).1]) (one s).2/\mu (one s).2<=q - 1/\mu (one s).2<mu s:=by
 have h1:=(hm s).2 h.2
 have h2:0<q:=by omega
 obtain ⟨p,rfl⟩:∃ p,q=p+1:=⟨q - 1,by omega⟩
 refine ⟨?_,by omega,h1⟩
 conv=>lhs;unfold listL
 rw [if_pos h];rfl
theorem listL_end {β:Type} {one:RS->β×RS} {q:Nat} {n:Int} {a:List β} {s:RS} (h:¬ (0<n/\s.k=false)):listL one q n a s=(a,s):=by
 cases q with
 | zero=>rfl
 | succ q=>unfold listL;rw [if_neg h]
theorem listL_len {β:Type} {one:RS->β×RS} (hl:∀ s,(one s).2.l.length<=s.l.length):∀ (q:Nat) (n:Int) (a:List β) (s:RS),(listL one q n a s).2.l.length<=s.l.length/\(listL one q n a s).1.length<=a.length+q
 | 0,_,a,s=>⟨Nat.le_refl _,Nat.le_refl _⟩
 | q+1,n,a,s=>by
  unfold listL
  split
  · obtain ⟨h1,h2⟩:=listL_len hl q (n - 1) (a++[(one s).1]) (one s).2
    refine ⟨Nat.le_trans h1 (hl s),?_⟩
    rw [List.length_append,List.length_singleton] at h2;omega
  · exact ⟨Nat.le_refl _,Nat.le_add_right ..⟩
def runL {β:Type} (one:RS->β×RS) (s:RS):List β×RS:=listL one (mu (numR s).2) (numR s).1 [] (numR s).2
theorem mu_le (s:RS):mu s<=s.l.length+1:=by unfold mu;split<;>omega
theorem runL_len {β:Type} {one:RS->β×RS} (hl:∀ s,(one s).2.l.length<=s.l.length) (s:RS):(runL one s).2.l.length<=s.l.length/\(runL one s).1.length<=s.l.length+1:=by
 obtain ⟨h1,h2⟩:=listL_len hl (mu (numR s).2) (numR s).1 [] (numR s).2
 have h3:=numR_len s
 have h4:=mu_le (numR s).2
 refine ⟨Nat.le_trans h1 h3,?_⟩
 unfold runL
 simp only [List.length_nil] at h2
 omega
theorem numG2_dc (b:Nat) (s:RS) (F:Own):(s.l.length<=2000000)->DC Tryz.prog 68 [.raw (.pointer (some ⟨b,0,none⟩))] ([.blk b [.sl ((s.l).map u8), .bool (s.k)]]++F) fun d G=>d = .int .u64 (numR s).1/\G = .blk b [.sl (((numR s).2.l).map u8), .bool ((numR s).2.k)]::F:=fun h=>numG_dc b s F (Nat.le_trans h (by decide))
theorem intG2_dc (b:Nat) (s:RS) (F:Own):(s.l.length<=2000000)->DC Tryz.prog 133 [.raw (.pointer (some ⟨b,0,none⟩))] ([.blk b [.sl ((s.l).map u8), .bool (s.k)]]++F) fun d G=>d = .int .i64 (intR s).1/\G = .blk b [.sl (((intR s).2.l).map u8), .bool ((intR s).2.k)]::F:=fun h=>intG_dc b s F (Nat.le_trans h (by decide))
theorem textG2_dc (b:Nat) (s:RS) (F:Own):(s.l.length<=2000000)->DC Tryz.prog 139 [.raw (.pointer (some ⟨b,0,none⟩))] ([.blk b [.sl ((s.l).map u8), .bool (s.k)]]++F) fun d G=>d = .str (textR s).1/\G = .blk b [.sl (((textR s).2.l).map u8), .bool ((textR s).2.k)]::F:=fun h=>textG_dc b s F (Nat.le_trans h (by decide))
theorem dotG2_dc (b:Nat) (s:RS) (F:Own):(s.l.length<=2000000)->DC Tryz.prog 137 [.raw (.pointer (some ⟨b,0,none⟩))] ([.blk b [.sl ((s.l).map u8), .bool (s.k)]]++F) fun d G=>d = .agg [.int .i64 (dotR s).1.node, .int .i64 (dotR s).1.epoch, .int .i64 (dotR s).1.n]/\G = .blk b [.sl (((dotR s).2.l).map u8), .bool ((dotR s).2.k)]::F:=fun h=>dotG_dc b s F (Nat.le_trans h (by decide))
attribute [local irreducible] DW SeqD DV DOp DC DVX DVJ
theorem sv_cellG_dc {p:Prop} (h:p:=by first | exact sv | ((repeat (first | assumption | refine Nat.le_trans (dotR_len _) ?_ | refine Nat.le_trans (numR_len _) ?_ | refine Nat.le_trans (intR_len _) ?_ | refine Nat.le_trans (textR_len _) ?_ | refine Nat.le_trans (cellR_len _) ?_))<;>fail) | fail):p:=h
theorem cellG_dc (b:Nat) (s:RS) (F:Own):(s.l.length<=2000000)->DC Tryz.prog 188 [.raw (.pointer (some ⟨b,0,none⟩))] ([.blk b [.sl ((s.l).map u8), .bool (s.k)]]++F) fun d G=>d = .agg [.int .i64 (cellR s).1.dot.node, .int .i64 (cellR s).1.dot.epoch, .int .i64 (cellR s).1.dot.n, .int .i64 (cellR s).1.stamp.l, .int .i64 (cellR s).1.stamp.c, .int .i64 (cellR s).1.stamp.node, .str (cellR s).1.topic, .sl ((cellR s).1.payload.map u8), .int .i64 (cellR s).1.qos, .bool (cellR s).1.gone]/\G = .blk b [.sl (((cellR s).2.l).map u8), .bool ((cellR s).2.k)]::F:=by
 intro hA
 have hl:=hA
 refine DC.bodyS (n_:=30) (show Tryz.prog.funcs[188]? = some Tryz.f188 by kernel_rfl) rfl rfl (by rfl) ?_
 simp only [env0,List.cons_append,List.nil_append]
 have kw:=ksIs [0,2,3]
 have ow:=ownIs [2,3]
 have rw_:=rsIs [.cell 2 124]
 repeat' (first
  | refine g_ ?_
  | ((with_reducible refine And.intro ?_ ?_);(exact sv_cellG_dc))
  | (refine DW.cond (by rfl) ?_ ?_<;>(first | exact i0_ | (refine ic_ ?_;intro hb)))
  | ((with_reducible refine FVg_cases ?_ ?_)<;>(intro hb;rw [hb];revert hb;(first | exact i0_ | (refine i_ ?_;intro hb))))
  | refine r_ ?_
  | refine k_ ?_
  | (refine p_ (numG2_dc _ _ _) ?_ (ha:=by exact sv_cellG_dc);rintro d H1 ⟨rfl,rfl⟩<;>refine s_ ?_)
  | (refine p_ (intG2_dc _ _ _) ?_ (ha:=by exact sv_cellG_dc);rintro d H1 ⟨rfl,rfl⟩<;>refine s_ ?_)
  | (refine p_ (textG2_dc _ _ _) ?_ (ha:=by exact sv_cellG_dc);rintro d H1 ⟨rfl,rfl⟩<;>refine s_ ?_)
  | (refine p_ (dotG2_dc _ _ _) ?_ (ha:=by exact sv_cellG_dc);rintro d H1 ⟨rfl,rfl⟩<;>refine s_ ?_)
  | refine o_ ?_
  | refine f_ ?_
  | ((fail_if_success (have zz:=b2));with_reducible intro b2)
  | ((fail_if_success (have zz:=b3));with_reducible intro b3)
  | with_reducible intro b)
 all_goals first
 | (simp only [cellR,cS8,cS7,cS6,cS5,cS4,cS3,cS2,cS1];refine ⟨_,_,?_,⟨rfl,rfl⟩,?_⟩;(first | exact le.rfl_ | exact le.agg (by repeat (first | exact Les.nil | refine Les.cons le.rfl_ ?_ | refine Les.cons (le.gs rfl) ?_ | refine Les.cons (le.gs List.map_nil.symm) ?_ | refine Les.cons (le.agg ?_) ?_)));(exact sub_);done)
 | (trace_state;fail)
end
section
attribute [local irreducible] DW SeqD DV DOp DC DVX DVJ numR intR textR dotR takeR cellR listL mu
theorem sv_oneSd_dc {p:Prop} (h:p:=by first | exact sv | ((repeat (first | assumption | refine Nat.le_trans (dotR_len _) ?_ | refine Nat.le_trans (numR_len _) ?_ | refine Nat.le_trans (intR_len _) ?_ | refine Nat.le_trans (textR_len _) ?_ | refine Nat.le_trans (cellR_len _) ?_))<;>fail) | fail):p:=h
section
attribute [local push_cast 2000] encDot
theorem oneSd_dc (bt b:Nat) (v:Value) (l:List TDot) (s:RS) (c1 c2 c3:V) (F:Own):(s.l.length<=2000000/\l.length<=3000000)->DC Tryz.prog 184 [.raw (.pointer (some ⟨bt,0,none⟩)), .sp [.raw (.pointer (some ⟨b,0,none⟩))]] ([.blk bt [.gs v (l.map encDot),c1,c2,c3], .blk b [.sl ((s.l).map u8), .bool (s.k)], .tail 3 v]++F) fun d G=>∃ v1,d = .tup []/\G = .blk bt [.gs v1 ((l++[(dotR s).1]).map encDot),c1,c2,c3] :: .blk b [.sl (((dotR s).2.l).map u8), .bool ((dotR s).2.k)] :: .tail 3 v1::F:=by
 intro hA
 obtain ⟨hs,hl⟩:=hA
 refine DC.bodyS (n_:=9) (show Tryz.prog.funcs[184]? = some Tryz.f184 by kernel_rfl) rfl rfl (by rfl) ?_
 simp only [env0,List.cons_append,List.nil_append]
 have kw:=ksIs [0,1]
 have ow:=ownIs []
 repeat' (first
  | refine g_ ?_
  | ((with_reducible refine And.intro ?_ ?_);(exact sv_oneSd_dc))
  | (refine DW.cond (by rfl) ?_ ?_<;>(first | exact i0_ | (refine ic_ ?_;intro hb)))
  | ((with_reducible refine FVg_cases ?_ ?_)<;>(intro hb;rw [hb];revert hb;(first | exact i0_ | (refine i_ ?_;intro hb))))
  | refine r_ ?_
  | refine k_ ?_
  | ((first | ((with_reducible apply DW.drawJ (id:=0) 0 [0,1] [3,5,7] [1] [3] (hm:=by kernel_rfl) (hd:=by kernel_rfl) (hB:=by kernel_rfl) (hN:=by kernel_rfl));(focus (exact rfl));(repeat (with_reducible first | refine OnB.here ?_ | refine OnB.mid ?_ | refine OnB.next ?_))) | (refine DVJ.k_ rfl rfl rfl ?_) | (refine DVJ.f_ rfl rfl rfl ?_))<;>(simp (maxSteps:=1000000) (disch:=omega) only [push_cast,↓reduceIte,reduceCtorEq,Nat.reduceAdd,Nat.reduceMul,Nat.reduceLT,Nat.reduceLeDiff,Nat.reduceEqDiff,Nat.reduceSub,Int.reduceToNat,Int.reduceLT,Int.reduceLE,Int.reduceAdd,Int.reduceSub,Int.reduceMul,Int.reduceNeg,Nat.reduceBEq,Int.reduceBEq,Int.reduceBNe,Nat.reduceBNe,Int.reduceEq,encDot,klS,klV]))
  | (refine p_ (dotG2_dc _ _ _) ?_ (ha:=by exact sv_oneSd_dc);rintro d H1 ⟨rfl,rfl⟩<;>refine s_ ?_)
  | refine o_ ?_
  | refine f_ ?_
  | (first | refine DVJ.ma_ rfl rfl rfl ?_ | refine DVJ.mb_ rfl rfl rfl ?_)
  | with_reducible intro b)
 all_goals first
 | (simp only [List.map_append,List.map_cons,List.map_nil,encDot,fenR,routeR];refine ⟨_,_,le.rfl_,⟨b,rfl,rfl⟩,?_⟩;(exact sub_);done)
 | (trace_state;fail)
end
theorem sv_oneSf_dc {p:Prop} (h:p:=by first | exact sv | ((repeat (first | assumption | refine Nat.le_trans (dotR_len _) ?_ | refine Nat.le_trans (numR_len _) ?_ | refine Nat.le_trans (intR_len _) ?_ | refine Nat.le_trans (textR_len _) ?_ | refine Nat.le_trans (cellR_len _) ?_))<;>fail) | fail):p:=h
section
attribute [local push_cast 2000] encFence
theorem oneSf_dc (bt b:Nat) (v:Value) (l:List TFence) (s:RS) (c0 c2 c3:V) (F:Own):(s.l.length<=2000000/\l.length<=3000000)->DC Tryz.prog 185 [.raw (.pointer (some ⟨bt,0,none⟩)), .sp [.raw (.pointer (some ⟨b,0,none⟩))]] ([.blk bt [c0, .gs v (l.map encFence),c2,c3], .blk b [.sl ((s.l).map u8), .bool (s.k)], .tail 2 v]++F) fun d G=>∃ v1,d = .tup []/\G = .blk bt [c0, .gs v1 ((l++[(fenR s).1]).map encFence),c2,c3] :: .blk b [.sl (((fenR s).2.l).map u8), .bool ((fenR s).2.k)] :: .tail 2 v1::F:=by
 intro hA
 obtain ⟨hs,hl⟩:=hA
 refine DC.bodyS (n_:=12) (show Tryz.prog.funcs[185]? = some Tryz.f185 by kernel_rfl) rfl rfl (by rfl) ?_
 simp only [env0,List.cons_append,List.nil_append]
 have kw:=ksIs [0,1]
 have ow:=ownIs []
 repeat' (first
  | refine g_ ?_
  | ((with_reducible refine And.intro ?_ ?_);(exact sv_oneSf_dc))
  | (refine DW.cond (by rfl) ?_ ?_<;>(first | exact i0_ | (refine ic_ ?_;intro hb)))
  | ((with_reducible refine FVg_cases ?_ ?_)<;>(intro hb;rw [hb];revert hb;(first | exact i0_ | (refine i_ ?_;intro hb))))
  | refine r_ ?_
  | refine k_ ?_
  | ((first | ((with_reducible apply DW.drawJ (id:=0) 0 [0,1] [3,5,8,10] [1] [3,5] (hm:=by kernel_rfl) (hd:=by kernel_rfl) (hB:=by kernel_rfl) (hN:=by kernel_rfl));(focus (exact rfl));(repeat (with_reducible first | refine OnB.here ?_ | refine OnB.mid ?_ | refine OnB.next ?_))) | (refine DVJ.k_ rfl rfl rfl ?_) | (refine DVJ.f_ rfl rfl rfl ?_))<;>(simp (maxSteps:=1000000) (disch:=omega) only [push_cast,↓reduceIte,reduceCtorEq,Nat.reduceAdd,Nat.reduceMul,Nat.reduceLT,Nat.reduceLeDiff,Nat.reduceEqDiff,Nat.reduceSub,Int.reduceToNat,Int.reduceLT,Int.reduceLE,Int.reduceAdd,Int.reduceSub,Int.reduceMul,Int.reduceNeg,Nat.reduceBEq,Int.reduceBEq,Int.reduceBNe,Nat.reduceBNe,Int.reduceEq,encFence,klS,klV]))
  | (refine p_ (intG2_dc _ _ _) ?_ (ha:=by exact sv_oneSf_dc);rintro d H1 ⟨rfl,rfl⟩<;>refine s_ ?_)
  | refine o_ ?_
  | refine f_ ?_
  | (first | refine DVJ.ma_ rfl rfl rfl ?_ | refine DVJ.mb_ rfl rfl rfl ?_)
  | with_reducible intro b)
 all_goals first
 | (simp only [List.map_append,List.map_cons,List.map_nil,encFence,fenR,routeR];refine ⟨_,_,le.rfl_,⟨b,rfl,rfl⟩,?_⟩;(exact sub_);done)
 | (trace_state;fail)
end
theorem sv_oneSr_dc {p:Prop} (h:p:=by first | exact sv | ((repeat (first | assumption | refine Nat.le_trans (dotR_len _) ?_ | refine Nat.le_trans (numR_len _) ?_ | refine Nat.le_trans (intR_len _) ?_ | refine Nat.le_trans (textR_len _) ?_ | refine Nat.le_trans (cellR_len _) ?_))<;>fail) | fail):p:=h
section
attribute [local push_cast 2000] encRoute
theorem oneSr_dc (bt b:Nat) (v:Value) (l:List TRoute) (s:RS) (c0 c1 c3:V) (F:Own):(s.l.length<=2000000/\l.length<=3000000)->DC Tryz.prog 186 [.raw (.pointer (some ⟨bt,0,none⟩)), .sp [.raw (.pointer (some ⟨b,0,none⟩))]] ([.blk bt [c0,c1, .gs v (l.map encRoute),c3], .blk b [.sl ((s.l).map u8), .bool (s.k)], .tail 4 v]++F) fun d G=>∃ v1,d = .tup []/\G = .blk bt [c0,c1, .gs v1 ((l++[(routeR s).1]).map encRoute),c3] :: .blk b [.sl (((routeR s).2.l).map u8), .bool ((routeR s).2.k)] :: .tail 4 v1::F:=by
 intro hA
 obtain ⟨hs,hl⟩:=hA
 refine DC.bodyS (n_:=12) (show Tryz.prog.funcs[186]? = some Tryz.f186 by kernel_rfl) rfl rfl (by rfl) ?_
 simp only [env0,List.cons_append,List.nil_append]
 have kw:=ksIs [0,1]
 have ow:=ownIs []
 repeat' (first
  | refine g_ ?_
  | ((with_reducible refine And.intro ?_ ?_);(exact sv_oneSr_dc))
  | (refine DW.cond (by rfl) ?_ ?_<;>(first | exact i0_ | (refine ic_ ?_;intro hb)))
  | ((with_reducible refine FVg_cases ?_ ?_)<;>(intro hb;rw [hb];revert hb;(first | exact i0_ | (refine i_ ?_;intro hb))))
  | refine r_ ?_
  | refine k_ ?_
  | ((first | ((with_reducible apply DW.drawJ (id:=0) 0 [0,1] [3,5,8,10] [1] [3,5] (hm:=by kernel_rfl) (hd:=by kernel_rfl) (hB:=by kernel_rfl) (hN:=by kernel_rfl));(focus (exact rfl));(repeat (with_reducible first | refine OnB.here ?_ | refine OnB.mid ?_ | refine OnB.next ?_))) | (refine DVJ.k_ rfl rfl rfl ?_) | (refine DVJ.f_ rfl rfl rfl ?_))<;>(simp (maxSteps:=1000000) (disch:=omega) only [push_cast,↓reduceIte,reduceCtorEq,Nat.reduceAdd,Nat.reduceMul,Nat.reduceLT,Nat.reduceLeDiff,Nat.reduceEqDiff,Nat.reduceSub,Int.reduceToNat,Int.reduceLT,Int.reduceLE,Int.reduceAdd,Int.reduceSub,Int.reduceMul,Int.reduceNeg,Nat.reduceBEq,Int.reduceBEq,Int.reduceBNe,Nat.reduceBNe,Int.reduceEq,encRoute,klS,klV]))
  | ((first | refine p_ (dotG2_dc _ _ _) ?_ (ha:=by exact sv_oneSr_dc) | refine p_ (textG2_dc _ _ _) ?_ (ha:=by exact sv_oneSr_dc));rintro d H1 ⟨rfl,rfl⟩<;>refine s_ ?_)
  | refine o_ ?_
  | refine f_ ?_
  | (first | refine DVJ.ma_ rfl rfl rfl ?_ | refine DVJ.mb_ rfl rfl rfl ?_)
  | with_reducible intro b)
 all_goals first
 | (simp only [List.map_append,List.map_cons,List.map_nil,encRoute,fenR,routeR];refine ⟨_,_,le.rfl_,⟨b,rfl,rfl⟩,?_⟩;(exact sub_);done)
 | (trace_state;fail)
end
theorem sv_oneSc_dc {p:Prop} (h:p:=by first | exact sv | ((repeat (first | assumption | refine Nat.le_trans (dotR_len _) ?_ | refine Nat.le_trans (numR_len _) ?_ | refine Nat.le_trans (intR_len _) ?_ | refine Nat.le_trans (textR_len _) ?_ | refine Nat.le_trans (cellR_len _) ?_))<;>fail) | fail):p:=h
section
attribute [local push_cast 2000] encCell
theorem oneSc_dc (bt b:Nat) (v:Value) (l:List TCell) (s:RS) (c0 c1 c2:V) (F:Own):(s.l.length<=2000000/\l.length<=3000000)->DC Tryz.prog 187 [.raw (.pointer (some ⟨bt,0,none⟩)), .sp [.raw (.pointer (some ⟨b,0,none⟩))]] ([.blk bt [c0,c1,c2, .gs v (l.map encCell)], .blk b [.sl ((s.l).map u8), .bool (s.k)], .tail 10 v]++F) fun d G=>∃ v1,d = .tup []/\G = .blk bt [c0,c1,c2, .gs v1 ((l++[(cellR s).1]).map encCell)] :: .blk b [.sl (((cellR s).2.l).map u8), .bool ((cellR s).2.k)] :: .tail 10 v1::F:=by
 intro hA
 obtain ⟨hs,hl⟩:=hA
 refine DC.bodyS (n_:=9) (show Tryz.prog.funcs[187]? = some Tryz.f187 by kernel_rfl) rfl rfl (by rfl) ?_
 simp only [env0,List.cons_append,List.nil_append]
 have kw:=ksIs [0,1]
 have ow:=ownIs []
 repeat' (first
  | refine g_ ?_
  | ((with_reducible refine And.intro ?_ ?_);(exact sv_oneSc_dc))
  | (refine DW.cond (by rfl) ?_ ?_<;>(first | exact i0_ | (refine ic_ ?_;intro hb)))
  | ((with_reducible refine FVg_cases ?_ ?_)<;>(intro hb;rw [hb];revert hb;(first | exact i0_ | (refine i_ ?_;intro hb))))
  | refine r_ ?_
  | refine k_ ?_
  | ((first | ((with_reducible apply DW.drawJ (id:=0) 0 [0,1] [3,5,7] [1] [3] (hm:=by kernel_rfl) (hd:=by kernel_rfl) (hB:=by kernel_rfl) (hN:=by kernel_rfl));(focus (exact rfl));(repeat (with_reducible first | refine OnB.here ?_ | refine OnB.mid ?_ | refine OnB.next ?_))) | (refine DVJ.k_ rfl rfl rfl ?_) | (refine DVJ.f_ rfl rfl rfl ?_))<;>(simp (maxSteps:=1000000) (disch:=omega) only [push_cast,↓reduceIte,reduceCtorEq,Nat.reduceAdd,Nat.reduceMul,Nat.reduceLT,Nat.reduceLeDiff,Nat.reduceEqDiff,Nat.reduceSub,Int.reduceToNat,Int.reduceLT,Int.reduceLE,Int.reduceAdd,Int.reduceSub,Int.reduceMul,Int.reduceNeg,Nat.reduceBEq,Int.reduceBEq,Int.reduceBNe,Nat.reduceBNe,Int.reduceEq,encCell,klS,klV]))
  | (refine p_ (cellG_dc _ _ _) ?_ (ha:=by exact sv_oneSc_dc);rintro d H1 ⟨rfl,rfl⟩<;>refine s_ ?_)
  | refine o_ ?_
  | refine f_ ?_
  | (first | refine DVJ.ma_ rfl rfl rfl ?_ | refine DVJ.mb_ rfl rfl rfl ?_)
  | with_reducible intro b)
 all_goals first
 | (simp only [List.map_append,List.map_cons,List.map_nil,encCell,fenR,routeR];refine ⟨_,_,le.rfl_,⟨b,rfl,rfl⟩,?_⟩;(exact sub_);done)
 | (trace_state;fail)
end
theorem sv_oneFs_dc {p:Prop} (h:p:=by first | exact sv | ((repeat (first | assumption | refine Nat.le_trans (dotR_len _) ?_ | refine Nat.le_trans (numR_len _) ?_ | refine Nat.le_trans (intR_len _) ?_ | refine Nat.le_trans (textR_len _) ?_ | refine Nat.le_trans (cellR_len _) ?_))<;>fail) | fail):p:=h
section
attribute [local push_cast 2000] encU
theorem oneFs_dc (bt b:Nat) (v:Value) (l:List Int) (s:RS) (c0 c1 c2 c3 c5 c6 c7 c8 c9 c10 c11 c12 c13 c14:V) (F:Own):(s.l.length<=2000000/\l.length<=3000000)->DC Tryz.prog 135 [.raw (.pointer (some ⟨bt,0,none⟩)), .sp [.raw (.pointer (some ⟨b,0,none⟩))]] ([.blk bt [c0,c1,c2,c3, .gs v (l.map encU),c5,c6,c7,c8,c9,c10,c11,c12,c13,c14], .blk b [.sl ((s.l).map u8), .bool (s.k)], .tail 1 v]++F) fun d G=>∃ v1,d = .tup []/\G = .blk bt [c0,c1,c2,c3, .gs v1 ((l++[(numR s).1]).map encU),c5,c6,c7,c8,c9,c10,c11,c12,c13,c14] :: .blk b [.sl (((numR s).2.l).map u8), .bool ((numR s).2.k)] :: .tail 1 v1::F:=by
 intro hA
 obtain ⟨hs,hl⟩:=hA
 refine DC.bodyS (n_:=9) (show Tryz.prog.funcs[135]? = some Tryz.f135 by kernel_rfl) rfl rfl (by rfl) ?_
 simp only [env0,List.cons_append,List.nil_append]
 have kw:=ksIs [0,1]
 have ow:=ownIs []
 repeat' (first
  | refine g_ ?_
  | ((with_reducible refine And.intro ?_ ?_);(exact sv_oneFs_dc))
  | (refine DW.cond (by rfl) ?_ ?_<;>(first | exact i0_ | (refine ic_ ?_;intro hb)))
  | ((with_reducible refine FVg_cases ?_ ?_)<;>(intro hb;rw [hb];revert hb;(first | exact i0_ | (refine i_ ?_;intro hb))))
  | refine r_ ?_
  | refine k_ ?_
  | ((first | ((with_reducible apply DW.drawJ (id:=0) 0 [0,1] [3,5,7] [1] [3] (hm:=by kernel_rfl) (hd:=by kernel_rfl) (hB:=by kernel_rfl) (hN:=by kernel_rfl));(focus (exact rfl));(repeat (with_reducible first | refine OnB.here ?_ | refine OnB.mid ?_ | refine OnB.next ?_))) | (refine DVJ.k_ rfl rfl rfl ?_) | (refine DVJ.f_ rfl rfl rfl ?_))<;>(simp (maxSteps:=1000000) (disch:=omega) only [push_cast,↓reduceIte,reduceCtorEq,Nat.reduceAdd,Nat.reduceMul,Nat.reduceLT,Nat.reduceLeDiff,Nat.reduceEqDiff,Nat.reduceSub,Int.reduceToNat,Int.reduceLT,Int.reduceLE,Int.reduceAdd,Int.reduceSub,Int.reduceMul,Int.reduceNeg,Nat.reduceBEq,Int.reduceBEq,Int.reduceBNe,Nat.reduceBNe,Int.reduceEq,encU,klS,klV]))
  | (refine p_ (numG2_dc _ _ _) ?_ (ha:=by exact sv_oneFs_dc);rintro d H1 ⟨rfl,rfl⟩<;>refine s_ ?_)
  | refine o_ ?_
  | refine f_ ?_
  | (first | refine DVJ.ma_ rfl rfl rfl ?_ | refine DVJ.mb_ rfl rfl rfl ?_)
  | with_reducible intro b)
 all_goals first
 | (simp only [List.map_append,List.map_cons,List.map_nil,encU,fenR,routeR];refine ⟨_,_,le.rfl_,⟨b,rfl,rfl⟩,?_⟩;(exact sub_);done)
 | (trace_state;fail)
end
theorem sv_oneFd_dc {p:Prop} (h:p:=by first | exact sv | ((repeat (first | assumption | refine Nat.le_trans (dotR_len _) ?_ | refine Nat.le_trans (numR_len _) ?_ | refine Nat.le_trans (intR_len _) ?_ | refine Nat.le_trans (textR_len _) ?_ | refine Nat.le_trans (cellR_len _) ?_))<;>fail) | fail):p:=h
section
attribute [local push_cast 2000] encDot
theorem oneFd_dc (bt b:Nat) (v:Value) (l:List TDot) (s:RS) (c0 c1 c2 c3 c4 c6 c7 c8 c9 c10 c11 c12 c13 c14:V) (F:Own):(s.l.length<=2000000/\l.length<=3000000)->DC Tryz.prog 136 [.raw (.pointer (some ⟨bt,0,none⟩)), .sp [.raw (.pointer (some ⟨b,0,none⟩))]] ([.blk bt [c0,c1,c2,c3,c4, .gs v (l.map encDot),c6,c7,c8,c9,c10,c11,c12,c13,c14], .blk b [.sl ((s.l).map u8), .bool (s.k)], .tail 3 v]++F) fun d G=>∃ v1,d = .tup []/\G = .blk bt [c0,c1,c2,c3,c4, .gs v1 ((l++[(dotR s).1]).map encDot),c6,c7,c8,c9,c10,c11,c12,c13,c14] :: .blk b [.sl (((dotR s).2.l).map u8), .bool ((dotR s).2.k)] :: .tail 3 v1::F:=by
 intro hA
 obtain ⟨hs,hl⟩:=hA
 refine DC.bodyS (n_:=9) (show Tryz.prog.funcs[136]? = some Tryz.f136 by kernel_rfl) rfl rfl (by rfl) ?_
 simp only [env0,List.cons_append,List.nil_append]
 have kw:=ksIs [0,1]
 have ow:=ownIs []
 repeat' (first
  | refine g_ ?_
  | ((with_reducible refine And.intro ?_ ?_);(exact sv_oneFd_dc))
  | (refine DW.cond (by rfl) ?_ ?_<;>(first | exact i0_ | (refine ic_ ?_;intro hb)))
  | ((with_reducible refine FVg_cases ?_ ?_)<;>(intro hb;rw [hb];revert hb;(first | exact i0_ | (refine i_ ?_;intro hb))))
  | refine r_ ?_
  | refine k_ ?_
  | ((first | ((with_reducible apply DW.drawJ (id:=0) 0 [0,1] [3,5,7] [1] [3] (hm:=by kernel_rfl) (hd:=by kernel_rfl) (hB:=by kernel_rfl) (hN:=by kernel_rfl));(focus (exact rfl));(repeat (with_reducible first | refine OnB.here ?_ | refine OnB.mid ?_ | refine OnB.next ?_))) | (refine DVJ.k_ rfl rfl rfl ?_) | (refine DVJ.f_ rfl rfl rfl ?_))<;>(simp (maxSteps:=1000000) (disch:=omega) only [push_cast,↓reduceIte,reduceCtorEq,Nat.reduceAdd,Nat.reduceMul,Nat.reduceLT,Nat.reduceLeDiff,Nat.reduceEqDiff,Nat.reduceSub,Int.reduceToNat,Int.reduceLT,Int.reduceLE,Int.reduceAdd,Int.reduceSub,Int.reduceMul,Int.reduceNeg,Nat.reduceBEq,Int.reduceBEq,Int.reduceBNe,Nat.reduceBNe,Int.reduceEq,encDot,klS,klV]))
  | (refine p_ (dotG2_dc _ _ _) ?_ (ha:=by exact sv_oneFd_dc);rintro d H1 ⟨rfl,rfl⟩<;>refine s_ ?_)
  | refine o_ ?_
  | refine f_ ?_
  | (first | refine DVJ.ma_ rfl rfl rfl ?_ | refine DVJ.mb_ rfl rfl rfl ?_)
  | with_reducible intro b)
 all_goals first
 | (simp only [List.map_append,List.map_cons,List.map_nil,encDot,fenR,routeR];refine ⟨_,_,le.rfl_,⟨b,rfl,rfl⟩,?_⟩;(exact sub_);done)
 | (trace_state;fail)
end
end
section
abbrev LTDot:=List TDot
abbrev LTFence:=List TFence
abbrev LTRoute:=List TRoute
abbrev LTCell:=List TCell
abbrev LInt:=List Int
attribute [local irreducible] DW SeqD DV DOp DC DVX DVJ numR intR textR dotR takeR cellR fenR routeR listL mu
theorem sv_listSd_dc {p:Prop} (h:p:=by first | exact sv | exact ⟨h5,by omega⟩ | fail):p:=h
theorem listSd_dc (bt b:Nat) (s:RS) (c1 c2 c3:V) (F:Own):(s.l.length<=2000000)->DC Tryz.prog 134 [.raw (.pointer (some ⟨b,0,none⟩)), .fn (.func 184) [] [.raw (.pointer (some ⟨bt,0,none⟩)), .sp [.raw (.pointer (some ⟨b,0,none⟩))]]] ([.blk bt [.gs (.slice none 0 0) [],c1,c2,c3], .blk b [.sl ((s.l).map u8), .bool (s.k)], .tail 3 (.slice none 0 0)]++F) fun d G=>∃ v1,d = .tup []/\G = .blk bt [.gs v1 ((runL dotR s).1.map encDot),c1,c2,c3] :: .blk b [.sl (((runL dotR s).2.l).map u8), .bool ((runL dotR s).2.k)] :: .tail 3 v1::F:=by
 intro hA
 have hs:=hA
 refine DC.bodyS (n_:=20) (show Tryz.prog.funcs[134]? = some Tryz.f134 by kernel_rfl) rfl rfl (by rfl) ?_
 simp only [env0,List.map_nil,List.cons_append,List.nil_append]
 have kw:=ksIs [0,1,4,15]
 have ow:=ownIs []
 repeat' (first
  | ((with_reducible refine DW.loopB 0 (X:=Nat×Int×Value×LTDot×RS) (fun x=>mu x.2.2.2.2<=x.1/\listL dotR x.1 x.2.1 x.2.2.2.1 x.2.2.2.2=runL dotR s/\(0<=x.2.1/\x.2.1<=18446744073709551615)/\x.2.2.2.1.length+mu x.2.2.2.2<=2000001/\x.2.2.2.2.l.length<=2000000) (fun x=>[(0, .raw (.pointer (some ⟨b,0,none⟩))),(1, .fn (.func 184) [] [.raw (.pointer (some ⟨bt,0,none⟩)), .sp [.raw (.pointer (some ⟨b,0,none⟩))]]),(4, .int .u64 x.2.1)]) (fun x=>[.blk bt [.gs x.2.2.1 (x.2.2.2.1.map encDot),c1,c2,c3], .blk b [.sl ((x.2.2.2.2.l).map u8), .bool (x.2.2.2.2.k)], .tail 3 x.2.2.1]) (fun x=>mu x.2.2.2.2) ((mu (numR s).2,(numR s).1, .slice none 0 0,[],(numR s).2)) ?_ ?_ ?_);exact (⟨Nat.le_refl _,rfl,numR_b s,(by have:=mu_le (numR s).2;have:=numR_len s;simp;omega),Nat.le_trans (numR_len s) hs⟩);(simp [Sub,get,keepL]<;>fail);(try simp only [List.map_nil,List.cons_append,List.nil_append]);refine pl_ ?_;intro ⟨q,n,v,l,z⟩ ⟨h1,h2,h3,h4,h5⟩;(try simp only [List.map_nil,List.cons_append,List.nil_append]);simp only at h1 h2 h3 h4 h5)
  | refine g_ ?_
  | ((with_reducible refine And.intro ?_ ?_);(exact sv_listSd_dc))
  | (refine DW.cond (by rfl) ?_ ?_<;>(first | exact i0_ | (refine ic_ ?_;intro hb)))
  | ((with_reducible refine FVg_cases ?_ ?_)<;>(intro hb;rw [hb];revert hb;(first | exact i0_ | (refine i_ ?_;intro hb))))
  | refine r_ ?_
  | refine k_ ?_
  | (refine p_ (numG2_dc _ _ _) ?_ (ha:=by exact sv_listSd_dc);rintro d H1 ⟨rfl,rfl⟩<;>refine s_ ?_)
  | (refine p_ (oneSd_dc _ _ _ _ _ _ _ _ _) ?_ (ha:=by exact sv_listSd_dc);rintro d H1 ⟨v1,rfl,rfl⟩<;>refine s_ ?_)
  | refine o_ ?_
  | refine f_ ?_
  | with_reducible intro b)
 all_goals first
 | (have hg:=listL_go (a:=l) (n:=n) dotR_mu h1 ⟨by omega,by assumption⟩
    obtain ⟨g1,g2,g3⟩:=hg
    refine ⟨(q - 1,n - 1,v1,l++[(dotR z).1],(dotR z).2),⟨g2,by rw [<-g1];exact h2,⟨by dsimp only;omega,by dsimp only;omega⟩,by dsimp only;rw [List.length_append,List.length_singleton];omega,Nat.le_trans (dotR_len z) h5⟩,g3,?_,?_⟩;(simp [Sub,get]<;>fail);(dsimp only;(exact sub_));done)
 | (have hg:=listL_end (one:=dotR) (q:=q) (a:=l) (s:=z) (n:=n) (by rintro ⟨p1,p2⟩;first | omega | (simp_all;done))
    have e:runL dotR s=(l,z):=by rw [<-h2];exact hg
    rw [e]
    refine ⟨_,_,le.rfl_,⟨v,rfl,rfl⟩,?_⟩;(exact sub_);done)
 | (trace_state;fail)
theorem sv_listSf_dc {p:Prop} (h:p:=by first | exact sv | exact ⟨h5,by omega⟩ | fail):p:=h
theorem listSf_dc (bt b:Nat) (s:RS) (c0 c2 c3:V) (F:Own):(s.l.length<=2000000)->DC Tryz.prog 134 [.raw (.pointer (some ⟨b,0,none⟩)), .fn (.func 185) [] [.raw (.pointer (some ⟨bt,0,none⟩)), .sp [.raw (.pointer (some ⟨b,0,none⟩))]]] ([.blk bt [c0, .gs (.slice none 0 0) [],c2,c3], .blk b [.sl ((s.l).map u8), .bool (s.k)], .tail 2 (.slice none 0 0)]++F) fun d G=>∃ v1,d = .tup []/\G = .blk bt [c0, .gs v1 ((runL fenR s).1.map encFence),c2,c3] :: .blk b [.sl (((runL fenR s).2.l).map u8), .bool ((runL fenR s).2.k)] :: .tail 2 v1::F:=by
 intro hA
 have hs:=hA
 refine DC.bodyS (n_:=20) (show Tryz.prog.funcs[134]? = some Tryz.f134 by kernel_rfl) rfl rfl (by rfl) ?_
 simp only [env0,List.map_nil,List.cons_append,List.nil_append]
 have kw:=ksIs [0,1,4,15]
 have ow:=ownIs []
 repeat' (first
  | ((with_reducible refine DW.loopB 0 (X:=Nat×Int×Value×LTFence×RS) (fun x=>mu x.2.2.2.2<=x.1/\listL fenR x.1 x.2.1 x.2.2.2.1 x.2.2.2.2=runL fenR s/\(0<=x.2.1/\x.2.1<=18446744073709551615)/\x.2.2.2.1.length+mu x.2.2.2.2<=2000001/\x.2.2.2.2.l.length<=2000000) (fun x=>[(0, .raw (.pointer (some ⟨b,0,none⟩))),(1, .fn (.func 185) [] [.raw (.pointer (some ⟨bt,0,none⟩)), .sp [.raw (.pointer (some ⟨b,0,none⟩))]]),(4, .int .u64 x.2.1)]) (fun x=>[.blk bt [c0, .gs x.2.2.1 (x.2.2.2.1.map encFence),c2,c3], .blk b [.sl ((x.2.2.2.2.l).map u8), .bool (x.2.2.2.2.k)], .tail 2 x.2.2.1]) (fun x=>mu x.2.2.2.2) ((mu (numR s).2,(numR s).1, .slice none 0 0,[],(numR s).2)) ?_ ?_ ?_);exact (⟨Nat.le_refl _,rfl,numR_b s,(by have:=mu_le (numR s).2;have:=numR_len s;simp;omega),Nat.le_trans (numR_len s) hs⟩);(simp [Sub,get,keepL]<;>fail);(try simp only [List.map_nil,List.cons_append,List.nil_append]);refine pl_ ?_;intro ⟨q,n,v,l,z⟩ ⟨h1,h2,h3,h4,h5⟩;(try simp only [List.map_nil,List.cons_append,List.nil_append]);simp only at h1 h2 h3 h4 h5)
  | refine g_ ?_
  | ((with_reducible refine And.intro ?_ ?_);(exact sv_listSf_dc))
  | (refine DW.cond (by rfl) ?_ ?_<;>(first | exact i0_ | (refine ic_ ?_;intro hb)))
  | ((with_reducible refine FVg_cases ?_ ?_)<;>(intro hb;rw [hb];revert hb;(first | exact i0_ | (refine i_ ?_;intro hb))))
  | refine r_ ?_
  | refine k_ ?_
  | (refine p_ (numG2_dc _ _ _) ?_ (ha:=by exact sv_listSf_dc);rintro d H1 ⟨rfl,rfl⟩<;>refine s_ ?_)
  | (refine p_ (oneSf_dc _ _ _ _ _ _ _ _ _) ?_ (ha:=by exact sv_listSf_dc);rintro d H1 ⟨v1,rfl,rfl⟩<;>refine s_ ?_)
  | refine o_ ?_
  | refine f_ ?_
  | with_reducible intro b)
 all_goals first
 | (have hg:=listL_go (a:=l) (n:=n) fenR_mu h1 ⟨by omega,by assumption⟩
    obtain ⟨g1,g2,g3⟩:=hg
    refine ⟨(q - 1,n - 1,v1,l++[(fenR z).1],(fenR z).2),⟨g2,by rw [<-g1];exact h2,⟨by dsimp only;omega,by dsimp only;omega⟩,by dsimp only;rw [List.length_append,List.length_singleton];omega,Nat.le_trans (fenR_len z) h5⟩,g3,?_,?_⟩;(simp [Sub,get]<;>fail);(dsimp only;(exact sub_));done)
 | (have hg:=listL_end (one:=fenR) (q:=q) (a:=l) (s:=z) (n:=n) (by rintro ⟨p1,p2⟩;first | omega | (simp_all;done))
    have e:runL fenR s=(l,z):=by rw [<-h2];exact hg
    rw [e]
    refine ⟨_,_,le.rfl_,⟨v,rfl,rfl⟩,?_⟩;(exact sub_);done)
 | (trace_state;fail)
theorem sv_listSr_dc {p:Prop} (h:p:=by first | exact sv | exact ⟨h5,by omega⟩ | fail):p:=h
theorem listSr_dc (bt b:Nat) (s:RS) (c0 c1 c3:V) (F:Own):(s.l.length<=2000000)->DC Tryz.prog 134 [.raw (.pointer (some ⟨b,0,none⟩)), .fn (.func 186) [] [.raw (.pointer (some ⟨bt,0,none⟩)), .sp [.raw (.pointer (some ⟨b,0,none⟩))]]] ([.blk bt [c0,c1, .gs (.slice none 0 0) [],c3], .blk b [.sl ((s.l).map u8), .bool (s.k)], .tail 4 (.slice none 0 0)]++F) fun d G=>∃ v1,d = .tup []/\G = .blk bt [c0,c1, .gs v1 ((runL routeR s).1.map encRoute),c3] :: .blk b [.sl (((runL routeR s).2.l).map u8), .bool ((runL routeR s).2.k)] :: .tail 4 v1::F:=by
 intro hA
 have hs:=hA
 refine DC.bodyS (n_:=20) (show Tryz.prog.funcs[134]? = some Tryz.f134 by kernel_rfl) rfl rfl (by rfl) ?_
 simp only [env0,List.map_nil,List.cons_append,List.nil_append]
 have kw:=ksIs [0,1,4,15]
 have ow:=ownIs []
 repeat' (first
  | ((with_reducible refine DW.loopB 0 (X:=Nat×Int×Value×LTRoute×RS) (fun x=>mu x.2.2.2.2<=x.1/\listL routeR x.1 x.2.1 x.2.2.2.1 x.2.2.2.2=runL routeR s/\(0<=x.2.1/\x.2.1<=18446744073709551615)/\x.2.2.2.1.length+mu x.2.2.2.2<=2000001/\x.2.2.2.2.l.length<=2000000) (fun x=>[(0, .raw (.pointer (some ⟨b,0,none⟩))),(1, .fn (.func 186) [] [.raw (.pointer (some ⟨bt,0,none⟩)), .sp [.raw (.pointer (some ⟨b,0,none⟩))]]),(4, .int .u64 x.2.1)]) (fun x=>[.blk bt [c0,c1, .gs x.2.2.1 (x.2.2.2.1.map encRoute),c3], .blk b [.sl ((x.2.2.2.2.l).map u8), .bool (x.2.2.2.2.k)], .tail 4 x.2.2.1]) (fun x=>mu x.2.2.2.2) ((mu (numR s).2,(numR s).1, .slice none 0 0,[],(numR s).2)) ?_ ?_ ?_);exact (⟨Nat.le_refl _,rfl,numR_b s,(by have:=mu_le (numR s).2;have:=numR_len s;simp;omega),Nat.le_trans (numR_len s) hs⟩);(simp [Sub,get,keepL]<;>fail);(try simp only [List.map_nil,List.cons_append,List.nil_append]);refine pl_ ?_;intro ⟨q,n,v,l,z⟩ ⟨h1,h2,h3,h4,h5⟩;(try simp only [List.map_nil,List.cons_append,List.nil_append]);simp only at h1 h2 h3 h4 h5)
  | refine g_ ?_
  | ((with_reducible refine And.intro ?_ ?_);(exact sv_listSr_dc))
  | (refine DW.cond (by rfl) ?_ ?_<;>(first | exact i0_ | (refine ic_ ?_;intro hb)))
  | ((with_reducible refine FVg_cases ?_ ?_)<;>(intro hb;rw [hb];revert hb;(first | exact i0_ | (refine i_ ?_;intro hb))))
  | refine r_ ?_
  | refine k_ ?_
  | (refine p_ (numG2_dc _ _ _) ?_ (ha:=by exact sv_listSr_dc);rintro d H1 ⟨rfl,rfl⟩<;>refine s_ ?_)
  | (refine p_ (oneSr_dc _ _ _ _ _ _ _ _ _) ?_ (ha:=by exact sv_listSr_dc);rintro d H1 ⟨v1,rfl,rfl⟩<;>refine s_ ?_)
  | refine o_ ?_
  | refine f_ ?_
  | with_reducible intro b)
 all_goals first
 | (have hg:=listL_go (a:=l) (n:=n) routeR_mu h1 ⟨by omega,by assumption⟩
    obtain ⟨g1,g2,g3⟩:=hg
    refine ⟨(q - 1,n - 1,v1,l++[(routeR z).1],(routeR z).2),⟨g2,by rw [<-g1];exact h2,⟨by dsimp only;omega,by dsimp only;omega⟩,by dsimp only;rw [List.length_append,List.length_singleton];omega,Nat.le_trans (routeR_len z) h5⟩,g3,?_,?_⟩;(simp [Sub,get]<;>fail);(dsimp only;(exact sub_));done)
 | (have hg:=listL_end (one:=routeR) (q:=q) (a:=l) (s:=z) (n:=n) (by rintro ⟨p1,p2⟩;first | omega | (simp_all;done))
    have e:runL routeR s=(l,z):=by rw [<-h2];exact hg
    rw [e]
    refine ⟨_,_,le.rfl_,⟨v,rfl,rfl⟩,?_⟩;(exact sub_);done)
 | (trace_state;fail)
theorem sv_listSc_dc {p:Prop} (h:p:=by first | exact sv | exact ⟨h5,by omega⟩ | fail):p:=h
theorem listSc_dc (bt b:Nat) (s:RS) (c0 c1 c2:V) (F:Own):(s.l.length<=2000000)->DC Tryz.prog 134 [.raw (.pointer (some ⟨b,0,none⟩)), .fn (.func 187) [] [.raw (.pointer (some ⟨bt,0,none⟩)), .sp [.raw (.pointer (some ⟨b,0,none⟩))]]] ([.blk bt [c0,c1,c2, .gs (.slice none 0 0) []], .blk b [.sl ((s.l).map u8), .bool (s.k)], .tail 10 (.slice none 0 0)]++F) fun d G=>∃ v1,d = .tup []/\G = .blk bt [c0,c1,c2, .gs v1 ((runL cellR s).1.map encCell)] :: .blk b [.sl (((runL cellR s).2.l).map u8), .bool ((runL cellR s).2.k)] :: .tail 10 v1::F:=by
 intro hA
 have hs:=hA
 refine DC.bodyS (n_:=20) (show Tryz.prog.funcs[134]? = some Tryz.f134 by kernel_rfl) rfl rfl (by rfl) ?_
 simp only [env0,List.map_nil,List.cons_append,List.nil_append]
 have kw:=ksIs [0,1,4,15]
 have ow:=ownIs []
 repeat' (first
  | ((with_reducible refine DW.loopB 0 (X:=Nat×Int×Value×LTCell×RS) (fun x=>mu x.2.2.2.2<=x.1/\listL cellR x.1 x.2.1 x.2.2.2.1 x.2.2.2.2=runL cellR s/\(0<=x.2.1/\x.2.1<=18446744073709551615)/\x.2.2.2.1.length+mu x.2.2.2.2<=2000001/\x.2.2.2.2.l.length<=2000000) (fun x=>[(0, .raw (.pointer (some ⟨b,0,none⟩))),(1, .fn (.func 187) [] [.raw (.pointer (some ⟨bt,0,none⟩)), .sp [.raw (.pointer (some ⟨b,0,none⟩))]]),(4, .int .u64 x.2.1)]) (fun x=>[.blk bt [c0,c1,c2, .gs x.2.2.1 (x.2.2.2.1.map encCell)], .blk b [.sl ((x.2.2.2.2.l).map u8), .bool (x.2.2.2.2.k)], .tail 10 x.2.2.1]) (fun x=>mu x.2.2.2.2) ((mu (numR s).2,(numR s).1, .slice none 0 0,[],(numR s).2)) ?_ ?_ ?_);exact (⟨Nat.le_refl _,rfl,numR_b s,(by have:=mu_le (numR s).2;have:=numR_len s;simp;omega),Nat.le_trans (numR_len s) hs⟩);(simp [Sub,get,keepL]<;>fail);(try simp only [List.map_nil,List.cons_append,List.nil_append]);refine pl_ ?_;intro ⟨q,n,v,l,z⟩ ⟨h1,h2,h3,h4,h5⟩;(try simp only [List.map_nil,List.cons_append,List.nil_append]);simp only at h1 h2 h3 h4 h5)
  | refine g_ ?_
  | ((with_reducible refine And.intro ?_ ?_);(exact sv_listSc_dc))
  | (refine DW.cond (by rfl) ?_ ?_<;>(first | exact i0_ | (refine ic_ ?_;intro hb)))
  | ((with_reducible refine FVg_cases ?_ ?_)<;>(intro hb;rw [hb];revert hb;(first | exact i0_ | (refine i_ ?_;intro hb))))
  | refine r_ ?_
  | refine k_ ?_
  | (refine p_ (numG2_dc _ _ _) ?_ (ha:=by exact sv_listSc_dc);rintro d H1 ⟨rfl,rfl⟩<;>refine s_ ?_)
  | (refine p_ (oneSc_dc _ _ _ _ _ _ _ _ _) ?_ (ha:=by exact sv_listSc_dc);rintro d H1 ⟨v1,rfl,rfl⟩<;>refine s_ ?_)
  | refine o_ ?_
  | refine f_ ?_
  | with_reducible intro b)
 all_goals first
 | (have hg:=listL_go (a:=l) (n:=n) cellR_mu h1 ⟨by omega,by assumption⟩
    obtain ⟨g1,g2,g3⟩:=hg
    refine ⟨(q - 1,n - 1,v1,l++[(cellR z).1],(cellR z).2),⟨g2,by rw [<-g1];exact h2,⟨by dsimp only;omega,by dsimp only;omega⟩,by dsimp only;rw [List.length_append,List.length_singleton];omega,Nat.le_trans (cellR_len z) h5⟩,g3,?_,?_⟩;(simp [Sub,get]<;>fail);(dsimp only;(exact sub_));done)
 | (have hg:=listL_end (one:=cellR) (q:=q) (a:=l) (s:=z) (n:=n) (by rintro ⟨p1,p2⟩;first | omega | (simp_all;done))
    have e:runL cellR s=(l,z):=by rw [<-h2];exact hg
    rw [e]
    refine ⟨_,_,le.rfl_,⟨v,rfl,rfl⟩,?_⟩;(exact sub_);done)
 | (trace_state;fail)
theorem sv_listFs_dc {p:Prop} (h:p:=by first | exact sv | exact ⟨h5,by omega⟩ | fail):p:=h
theorem listFs_dc (bt b:Nat) (s:RS) (c0 c1 c2 c3 c5 c6 c7 c8 c9 c10 c11 c12 c13 c14:V) (F:Own):(s.l.length<=2000000)->DC Tryz.prog 134 [.raw (.pointer (some ⟨b,0,none⟩)), .fn (.func 135) [] [.raw (.pointer (some ⟨bt,0,none⟩)), .sp [.raw (.pointer (some ⟨b,0,none⟩))]]] ([.blk bt [c0,c1,c2,c3, .gs (.slice none 0 0) [],c5,c6,c7,c8,c9,c10,c11,c12,c13,c14], .blk b [.sl ((s.l).map u8), .bool (s.k)], .tail 1 (.slice none 0 0)]++F) fun d G=>∃ v1,d = .tup []/\G = .blk bt [c0,c1,c2,c3, .gs v1 ((runL numR s).1.map encU),c5,c6,c7,c8,c9,c10,c11,c12,c13,c14] :: .blk b [.sl (((runL numR s).2.l).map u8), .bool ((runL numR s).2.k)] :: .tail 1 v1::F:=by
 intro hA
 have hs:=hA
 refine DC.bodyS (n_:=20) (show Tryz.prog.funcs[134]? = some Tryz.f134 by kernel_rfl) rfl rfl (by rfl) ?_
 simp only [env0,List.map_nil,List.cons_append,List.nil_append]
 have kw:=ksIs [0,1,4,15]
 have ow:=ownIs []
 repeat' (first
  | ((with_reducible refine DW.loopB 0 (X:=Nat×Int×Value×LInt×RS) (fun x=>mu x.2.2.2.2<=x.1/\listL numR x.1 x.2.1 x.2.2.2.1 x.2.2.2.2=runL numR s/\(0<=x.2.1/\x.2.1<=18446744073709551615)/\x.2.2.2.1.length+mu x.2.2.2.2<=2000001/\x.2.2.2.2.l.length<=2000000) (fun x=>[(0, .raw (.pointer (some ⟨b,0,none⟩))),(1, .fn (.func 135) [] [.raw (.pointer (some ⟨bt,0,none⟩)), .sp [.raw (.pointer (some ⟨b,0,none⟩))]]),(4, .int .u64 x.2.1)]) (fun x=>[.blk bt [c0,c1,c2,c3, .gs x.2.2.1 (x.2.2.2.1.map encU),c5,c6,c7,c8,c9,c10,c11,c12,c13,c14], .blk b [.sl ((x.2.2.2.2.l).map u8), .bool (x.2.2.2.2.k)], .tail 1 x.2.2.1]) (fun x=>mu x.2.2.2.2) ((mu (numR s).2,(numR s).1, .slice none 0 0,[],(numR s).2)) ?_ ?_ ?_);exact (⟨Nat.le_refl _,rfl,numR_b s,(by have:=mu_le (numR s).2;have:=numR_len s;simp;omega),Nat.le_trans (numR_len s) hs⟩);(simp [Sub,get,keepL]<;>fail);(try simp only [List.map_nil,List.cons_append,List.nil_append]);refine pl_ ?_;intro ⟨q,n,v,l,z⟩ ⟨h1,h2,h3,h4,h5⟩;(try simp only [List.map_nil,List.cons_append,List.nil_append]);simp only at h1 h2 h3 h4 h5)
  | refine g_ ?_
  | ((with_reducible refine And.intro ?_ ?_);(exact sv_listFs_dc))
  | (refine DW.cond (by rfl) ?_ ?_<;>(first | exact i0_ | (refine ic_ ?_;intro hb)))
  | ((with_reducible refine FVg_cases ?_ ?_)<;>(intro hb;rw [hb];revert hb;(first | exact i0_ | (refine i_ ?_;intro hb))))
  | refine r_ ?_
  | refine k_ ?_
  | (refine p_ (numG2_dc _ _ _) ?_ (ha:=by exact sv_listFs_dc);rintro d H1 ⟨rfl,rfl⟩<;>refine s_ ?_)
  | (refine p_ (oneFs_dc _ _ _ _ _ _ _ _ _ _ _ _ _ _ _ _ _ _ _ _) ?_ (ha:=by exact sv_listFs_dc);rintro d H1 ⟨v1,rfl,rfl⟩<;>refine s_ ?_)
  | refine o_ ?_
  | refine f_ ?_
  | with_reducible intro b)
 all_goals first
 | (have hg:=listL_go (a:=l) (n:=n) numR_mu h1 ⟨by omega,by assumption⟩
    obtain ⟨g1,g2,g3⟩:=hg
    refine ⟨(q - 1,n - 1,v1,l++[(numR z).1],(numR z).2),⟨g2,by rw [<-g1];exact h2,⟨by dsimp only;omega,by dsimp only;omega⟩,by dsimp only;rw [List.length_append,List.length_singleton];omega,Nat.le_trans (numR_len z) h5⟩,g3,?_,?_⟩;(simp [Sub,get]<;>fail);(dsimp only;(exact sub_));done)
 | (have hg:=listL_end (one:=numR) (q:=q) (a:=l) (s:=z) (n:=n) (by rintro ⟨p1,p2⟩;first | omega | (simp_all;done))
    have e:runL numR s=(l,z):=by rw [<-h2];exact hg
    rw [e]
    refine ⟨_,_,le.rfl_,⟨v,rfl,rfl⟩,?_⟩;(exact sub_);done)
 | (trace_state;fail)
theorem sv_listFd_dc {p:Prop} (h:p:=by first | exact sv | exact ⟨h5,by omega⟩ | fail):p:=h
theorem listFd_dc (bt b:Nat) (s:RS) (c0 c1 c2 c3 c4 c6 c7 c8 c9 c10 c11 c12 c13 c14:V) (F:Own):(s.l.length<=2000000)->DC Tryz.prog 134 [.raw (.pointer (some ⟨b,0,none⟩)), .fn (.func 136) [] [.raw (.pointer (some ⟨bt,0,none⟩)), .sp [.raw (.pointer (some ⟨b,0,none⟩))]]] ([.blk bt [c0,c1,c2,c3,c4, .gs (.slice none 0 0) [],c6,c7,c8,c9,c10,c11,c12,c13,c14], .blk b [.sl ((s.l).map u8), .bool (s.k)], .tail 3 (.slice none 0 0)]++F) fun d G=>∃ v1,d = .tup []/\G = .blk bt [c0,c1,c2,c3,c4, .gs v1 ((runL dotR s).1.map encDot),c6,c7,c8,c9,c10,c11,c12,c13,c14] :: .blk b [.sl (((runL dotR s).2.l).map u8), .bool ((runL dotR s).2.k)] :: .tail 3 v1::F:=by
 intro hA
 have hs:=hA
 refine DC.bodyS (n_:=20) (show Tryz.prog.funcs[134]? = some Tryz.f134 by kernel_rfl) rfl rfl (by rfl) ?_
 simp only [env0,List.map_nil,List.cons_append,List.nil_append]
 have kw:=ksIs [0,1,4,15]
 have ow:=ownIs []
 repeat' (first
  | ((with_reducible refine DW.loopB 0 (X:=Nat×Int×Value×LTDot×RS) (fun x=>mu x.2.2.2.2<=x.1/\listL dotR x.1 x.2.1 x.2.2.2.1 x.2.2.2.2=runL dotR s/\(0<=x.2.1/\x.2.1<=18446744073709551615)/\x.2.2.2.1.length+mu x.2.2.2.2<=2000001/\x.2.2.2.2.l.length<=2000000) (fun x=>[(0, .raw (.pointer (some ⟨b,0,none⟩))),(1, .fn (.func 136) [] [.raw (.pointer (some ⟨bt,0,none⟩)), .sp [.raw (.pointer (some ⟨b,0,none⟩))]]),(4, .int .u64 x.2.1)]) (fun x=>[.blk bt [c0,c1,c2,c3,c4, .gs x.2.2.1 (x.2.2.2.1.map encDot),c6,c7,c8,c9,c10,c11,c12,c13,c14], .blk b [.sl ((x.2.2.2.2.l).map u8), .bool (x.2.2.2.2.k)], .tail 3 x.2.2.1]) (fun x=>mu x.2.2.2.2) ((mu (numR s).2,(numR s).1, .slice none 0 0,[],(numR s).2)) ?_ ?_ ?_);exact (⟨Nat.le_refl _,rfl,numR_b s,(by have:=mu_le (numR s).2;have:=numR_len s;simp;omega),Nat.le_trans (numR_len s) hs⟩);(simp [Sub,get,keepL]<;>fail);(try simp only [List.map_nil,List.cons_append,List.nil_append]);refine pl_ ?_;intro ⟨q,n,v,l,z⟩ ⟨h1,h2,h3,h4,h5⟩;(try simp only [List.map_nil,List.cons_append,List.nil_append]);simp only at h1 h2 h3 h4 h5)
  | refine g_ ?_
  | ((with_reducible refine And.intro ?_ ?_);(exact sv_listFd_dc))
  | (refine DW.cond (by rfl) ?_ ?_<;>(first | exact i0_ | (refine ic_ ?_;intro hb)))
  | ((with_reducible refine FVg_cases ?_ ?_)<;>(intro hb;rw [hb];revert hb;(first | exact i0_ | (refine i_ ?_;intro hb))))
  | refine r_ ?_
  | refine k_ ?_
  | (refine p_ (numG2_dc _ _ _) ?_ (ha:=by exact sv_listFd_dc);rintro d H1 ⟨rfl,rfl⟩<;>refine s_ ?_)
  | (refine p_ (oneFd_dc _ _ _ _ _ _ _ _ _ _ _ _ _ _ _ _ _ _ _ _) ?_ (ha:=by exact sv_listFd_dc);rintro d H1 ⟨v1,rfl,rfl⟩<;>refine s_ ?_)
  | refine o_ ?_
  | refine f_ ?_
  | with_reducible intro b)
 all_goals first
 | (have hg:=listL_go (a:=l) (n:=n) dotR_mu h1 ⟨by omega,by assumption⟩
    obtain ⟨g1,g2,g3⟩:=hg
    refine ⟨(q - 1,n - 1,v1,l++[(dotR z).1],(dotR z).2),⟨g2,by rw [<-g1];exact h2,⟨by dsimp only;omega,by dsimp only;omega⟩,by dsimp only;rw [List.length_append,List.length_singleton];omega,Nat.le_trans (dotR_len z) h5⟩,g3,?_,?_⟩;(simp [Sub,get]<;>fail);(dsimp only;(exact sub_));done)
 | (have hg:=listL_end (one:=dotR) (q:=q) (a:=l) (s:=z) (n:=n) (by rintro ⟨p1,p2⟩;first | omega | (simp_all;done))
    have e:runL dotR s=(l,z):=by rw [<-h2];exact hg
    rw [e]
    refine ⟨_,_,le.rfl_,⟨v,rfl,rfl⟩,?_⟩;(exact sub_);done)
 | (trace_state;fail)
end
end Go.Proofs.YtbmbcjmgjdnlnaaGreatDoor
