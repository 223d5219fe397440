/- A frame that forwards is read. -/
import Derived.Test.YtbmbcjmgjdnlnaaGreatDoorFm1x
import Derived.KernelRfl
namespace Go.Proofs.YtbmbcjmgjdnlnaaGreatDoor
open Go.RowKit
set_option linter.unusedSimpArgs false
set_option linter.unusedVariables false
set_option linter.unusedSectionVars false
set_option maxHeartbeats 4000000
set_option maxRecDepth 100000
section
attribute [local irreducible] DW SeqD DV DOp DC DVX
theorem takeMap (n:Nat) (l:List UInt8):List.take n (List.map u8 l)=List.map u8 (List.take n l):=List.map_take.symm
theorem dropMap (n:Nat) (l:List UInt8):List.drop n (List.map u8 l)=List.map u8 (List.drop n l):=List.map_drop.symm
theorem takeLen (l:List UInt8):List.take l.length l=l:=List.take_length
theorem take8 (x:Int) (r:List UInt8):List.take 8 (leK 8 x++r)=leK 8 x:=by rw [List.take_append_of_le_length (by rw [leK_len];exact Nat.le_refl _)];exact List.take_of_length_le (by rw [leK_len];exact Nat.le_refl _)
theorem drop8 (x:Int) (r:List UInt8):List.drop 8 (leK 8 x++r)=r:=by
 have:=List.drop_left (l₁:=leK 8 x) (l₂:=r)
 rwa [leK_len] at this
theorem takeL (l r:List UInt8):List.take l.length (l++r)=l:=List.take_left
theorem dropL (l r:List UInt8):List.drop l.length (l++r)=r:=List.drop_left
theorem shK_nat (n:Nat):∀ k,shK k (n:Int)=((n / 256 ^ k:Nat):Int)
 | 0=>by simp [shK]
 | k+1=>by
  rw [shK,shK_nat n k]
  have h:((2:Int) ^ min 8 IntKind.u64.bits)=((256:Nat):Int):=by decide
  rw [h,Int.fdiv_eq_ediv_of_nonneg _ (by omega),<-Int.natCast_ediv,Nat.div_div_eq_div_mul,Nat.pow_succ]
theorem byteI_nat (n:Nat):(byteI (n:Int)).toNat=n%256:=by
 unfold byteI
 have h:(((n:Int)%256).toNat)=n%256:=by omega
 rw [h]
 simp
theorem leK_at (x:Int) (k:Nat) (h:k<8):(leK 8 x).getD k default=byteI (shK k x):=by
 simp [leK,List.getD_eq_getElem?_getD,h]
theorem acc_next (x:Int) (k:Nat) (hk:k<8) (h0:0<=x) (h1:x<=18446744073709551615) :
  IntKind.u64.wrap ((BitVec.ofInt IntKind.u64.bits (x%2 ^ (8 * k))|||BitVec.ofInt IntKind.u64.bits (IntKind.u64.wrap ((((leK 8 x).getD k default).toNat:Int) * 2 ^ min (8 * (k:Int)).toNat IntKind.u64.bits))).toNat:Int)=x%2 ^ (8 * (k+1)):=by
 obtain ⟨n,rfl⟩:∃ n:Nat,x=n:=⟨x.toNat,by omega⟩
 rw [leK_at _ k hk,shK_nat,byteI_nat]
 have e1:min (8 * (k:Int)).toNat IntKind.u64.bits=8 * k:=by
  show min (8 * (k:Int)).toNat 64=_
  omega
 rw [e1]
 have e256:256 ^ k=2 ^ (8 * k):=by rw [show (256:Nat)=2 ^ 8 from rfl,<-Nat.pow_mul]
 rw [e256]
 have hpow:(2:Nat) ^ (8 * (k+1))=2 ^ (8 * k) * 256:=by rw [Nat.mul_add,Nat.pow_add]
 have hle:(2:Nat) ^ (8 * (k+1))<=2 ^ 64:=Nat.pow_le_pow_right (by decide) (by omega)
 have hc:n / 2 ^ (8 * k)%256<256:=Nat.mod_lt _ (by decide)
 have hpos:0<(2:Nat) ^ (8 * k):=Nat.pow_pos (by decide)
 have hm:n%2 ^ (8 * k)<2 ^ (8 * k):=Nat.mod_lt _ hpos
 have hmul:n / 2 ^ (8 * k)%256 * 2 ^ (8 * k)<=255 * 2 ^ (8 * k):=Nat.mul_le_mul_right _ (by omega)
 have hbig:(2:Nat) ^ 64=18446744073709551616:=by decide
 have hp2:((2:Int) ^ (8 * k))=((2 ^ (8 * k):Nat):Int):=by simp
 have hp3:((2:Int) ^ (8 * (k+1)))=((2 ^ (8 * (k+1)):Nat):Int):=by simp
 rw [hp2,hp3,<-Int.natCast_mul,<-Int.natCast_emod,<-Int.natCast_emod]
 rw [wrap_u64 ((n / 2 ^ (8 * k)%256 * 2 ^ (8 * k):Nat):Int) (by omega) (by omega)]
 have t1:∀ m:Nat,m<2 ^ 64->(BitVec.ofInt IntKind.u64.bits (m:Int)).toNat=m:=fun m hm=>by
  show (BitVec.ofInt 64 (m:Int)).toNat=m
  rw [BitVec.toNat_ofInt]
  simp only [hbig] at hm ⊢
  omega
 rw [BitVec.toNat_or,t1 _ (by omega),t1 _ (by omega)]
 have e2:n%2 ^ (8 * k)|||n / 2 ^ (8 * k)%256 * 2 ^ (8 * k)=n%2 ^ (8 * (k+1)):=by
  rw [Nat.or_comm,Nat.mul_comm,<-Nat.two_pow_add_eq_or_of_lt hm,hpow,Nat.mod_mul,Nat.add_comm]
 rw [e2]
 have hlt:n%2 ^ (8 * (k+1))<2 ^ (8 * (k+1)):=Nat.mod_lt _ (Nat.pow_pos (by decide))
 exact wrap_u64 _ (by omega) (by omega)
theorem acc_8 (x:Int) (h0:0<=x) (h1:x<=18446744073709551615):x%2 ^ (8 * 8)=x:=by
 have:(2:Int) ^ (8 * 8)=18446744073709551616:=by decide
 rw [this];omega
theorem sv_take_dc {p:Prop} (h:p:=by first | exact sv | (simp [u8,V.one];omega) | (simp [u8,V.one]<;>fail) | fail):p:=h
section
attribute [local push_cast 2000] takeMap dropMap takeLen isU8_map
theorem take_dc (b:Nat) (l:List UInt8) (k:Bool) (n:Int) (F:Own):((0<=n/\n<=l.length)/\l.length<=1000000000000)->DC Tryz.prog 132 [.raw (.pointer (some ⟨b,0,none⟩)), .int .u64 n] ([.blk b [.sl (l.map u8), .bool k]]++F) fun d G=>d = .sl ((l.take n.toNat).map u8)/\G = .blk b [.sl ((l.drop n.toNat).map u8), .bool k]::F:=by
 intro hA
 obtain ⟨hn,hl⟩:=hA
 refine DC.bodyS (n_:=36) (show Tryz.prog.funcs[132]? = some Tryz.f132 by kernel_rfl) rfl rfl (by rfl) ?_
 simp only [env0,List.cons_append,List.nil_append]
 have kw:=ksIs [0,1,4,5,13]
 have ow:=ownIs []
 repeat' (first
  | refine g_ ?_
  | ((with_reducible refine And.intro ?_ ?_);(exact sv_take_dc))
  | (refine DW.cond (by rfl) ?_ ?_<;>(first | exact i0_ | (refine ic_ ?_;intro hb)))
  | ((with_reducible refine FVg_cases ?_ ?_)<;>(intro hb;rw [hb];revert hb;(first | exact i0_ | (refine i_ ?_;intro hb))))
  | refine r_ ?_
  | refine k_ ?_
  | refine o_ ?_
  | refine f_ ?_
  | with_reducible intro b)
 all_goals first
 | (exfalso;omega)
 | ((first | exact fin_ | refine finq_ ?_);done)
end
end
section
attribute [local irreducible] DW SeqD DV DOp DC DVX
theorem acc0 (x:Int):x%2 ^ (8 * 0)=0:=by simp
theorem toN8:((8:Int)).toNat=8:=rfl
theorem t3:UInt8.toNat 3=3:=rfl
theorem sv_rnum_dc {p:Prop} (h:p:=by first | exact sv | (simp [u8,V.one];omega) | (simp [u8,V.one]<;>fail) | (refine ⟨?_,?_,?_⟩<;>first | omega | (simp [leK_len,head_len]<;>omega)) | (refine ⟨?_,?_⟩<;>first | omega | (simp [leK_len,head_len]<;>omega)) | (simp [leK_len,head_len]<;>omega) | fail):p:=h
section
attribute [local push_cast 2000] take8 drop8 leK_len u8 wrapU8 toN8
theorem rnum_dc (b:Nat) (x_:Int) (r:List UInt8) (k:Bool) (F:Own):((0<=x_/\x_<=18446744073709551615)/\r.length<=999999999990)->DC Tryz.prog 68 [.raw (.pointer (some ⟨b,0,none⟩))] ([.blk b [.sl ((leK 8 x_++r).map u8), .bool k]]++F) fun d G=>d = .int .u64 x_/\G = .blk b [.sl (r.map u8), .bool k]::F:=by
 intro hA
 obtain ⟨hx,hr⟩:=hA
 refine DC.bodyS (n_:=23) (show Tryz.prog.funcs[68]? = some Tryz.f68 by kernel_rfl) rfl rfl (by rfl) ?_
 simp only [env0,List.cons_append,List.nil_append]
 have kw:=ksIs [0,2,3,4,5,7,8,9,10]
 have ow:=ownIs []
 repeat' (first
  | ((with_reducible refine DW.loopB 0 (X:=Nat) (fun x=>x<=8) (fun x=>[(3, .int .u64 (x_%2 ^ (8 * x))),(7, .sl ((leK 8 x_).map u8)),(8, .int .i64 8),(9, .int .i64 x)]) (fun x=>([]:Own)) (fun x=>8 - x) (0) ?_ ?_ ?_);exact (Nat.zero_le _);(simp [Sub,get,keepL,acc0]<;>fail);(try simp only [List.cons_append,List.nil_append]);refine pl_ ?_;intro j hj;(try simp only [List.cons_append,List.nil_append]);have hll:=leK_len 8 x_)
  | refine g_ ?_
  | ((with_reducible refine And.intro ?_ ?_);(exact sv_rnum_dc))
  | (refine DW.cond (by rfl) ?_ ?_<;>(first | exact i0_ | (refine ic_ ?_;intro hb)))
  | ((with_reducible refine FVg_cases ?_ ?_)<;>(intro hb;rw [hb];revert hb;(first | exact i0_ | (refine i_ ?_;intro hb))))
  | refine r_ ?_
  | refine k_ ?_
  | (refine p_ (take_dc _ _ _ _ _) ?_ (ha:=by exact sv_rnum_dc);rintro d H1 ⟨rfl,rfl⟩<;>refine s_ ?_)
  | refine o_ ?_
  | refine f_ ?_
  | with_reducible intro b)
 all_goals first
 | (have ha:=acc_next x_ j (by omega) hx.1 hx.2
    refine ⟨j+1,?_,?_,?_,?_⟩;(omega);(omega);(rw [<-ha];simp [Sub,get]<;>fail);(exact sub_);done)
 | (have hj:j=8:=by omega
    subst hj
    rw [acc_8 x_ hx.1 hx.2]
    (first | exact fin_ | refine finq_ ?_);done)
end
theorem sv_rint_dc {p:Prop} (h:p:=by first | exact sv | (simp [u8,V.one];omega) | (simp [u8,V.one]<;>fail) | (refine ⟨?_,?_,?_⟩<;>first | omega | (simp [leK_len,head_len]<;>omega)) | (refine ⟨?_,?_⟩<;>first | omega | (simp [leK_len,head_len]<;>omega)) | (simp [leK_len,head_len]<;>omega) | fail):p:=h
theorem rint_dc (b:Nat) (x_:Int) (r:List UInt8) (k:Bool) (F:Own):((0<=x_/\x_<=9223372036854775807)/\r.length<=999999999990)->DC Tryz.prog 133 [.raw (.pointer (some ⟨b,0,none⟩))] ([.blk b [.sl ((leK 8 x_++r).map u8), .bool k]]++F) fun d G=>d = .int .i64 x_/\G = .blk b [.sl (r.map u8), .bool k]::F:=by
 intro hA
 obtain ⟨hx,hr⟩:=hA
 refine DC.bodyS (n_:=6) (show Tryz.prog.funcs[133]? = some Tryz.f133 by kernel_rfl) rfl rfl (by rfl) ?_
 simp only [env0,List.cons_append,List.nil_append]
 have kw:=ksIs [0,2]
 have ow:=ownIs []
 repeat' (first
  | refine g_ ?_
  | ((with_reducible refine And.intro ?_ ?_);(exact sv_rint_dc))
  | (refine DW.cond (by rfl) ?_ ?_<;>(first | exact i0_ | (refine ic_ ?_;intro hb)))
  | ((with_reducible refine FVg_cases ?_ ?_)<;>(intro hb;rw [hb];revert hb;(first | exact i0_ | (refine i_ ?_;intro hb))))
  | refine r_ ?_
  | refine k_ ?_
  | (refine p_ (rnum_dc _ _ _ _ _) ?_ (ha:=by exact sv_rint_dc);rintro d H1 ⟨rfl,rfl⟩<;>refine s_ ?_)
  | refine o_ ?_
  | refine f_ ?_
  | with_reducible intro b)
 (first | exact fin_ | refine finq_ ?_)
 all_goals rfl
theorem sv_rtext_dc {p:Prop} (h:p:=by first | exact sv | (simp [u8,V.one];omega) | (simp [u8,V.one]<;>fail) | (refine ⟨?_,?_,?_⟩<;>first | omega | (simp [leK_len,head_len]<;>omega)) | (refine ⟨?_,?_⟩<;>first | omega | (simp [leK_len,head_len]<;>omega)) | (simp [leK_len,head_len]<;>omega) | fail):p:=h
section
attribute [local push_cast 2000] takeL dropL byteOf_map isU8_map
theorem rtext_dc (b:Nat) (t_ r:List UInt8) (k:Bool) (F:Own):(t_.length<=100000000000/\r.length<=100000000000)->DC Tryz.prog 139 [.raw (.pointer (some ⟨b,0,none⟩))] ([.blk b [.sl ((leK 8 (t_.length:Int)++(t_++r)).map u8), .bool k]]++F) fun d G=>d = .str t_/\G = .blk b [.sl (r.map u8), .bool k]::F:=by
 intro hA
 obtain ⟨ht,hr⟩:=hA
 refine DC.bodyS (n_:=8) (show Tryz.prog.funcs[139]? = some Tryz.f139 by kernel_rfl) rfl rfl (by rfl) ?_
 simp only [env0,List.cons_append,List.nil_append]
 have kw:=ksIs [0,2]
 have ow:=ownIs []
 repeat' (first
  | refine g_ ?_
  | ((with_reducible refine And.intro ?_ ?_);(exact sv_rtext_dc))
  | (refine DW.cond (by rfl) ?_ ?_<;>(first | exact i0_ | (refine ic_ ?_;intro hb)))
  | ((with_reducible refine FVg_cases ?_ ?_)<;>(intro hb;rw [hb];revert hb;(first | exact i0_ | (refine i_ ?_;intro hb))))
  | refine r_ ?_
  | refine k_ ?_
  | (refine p_ (rnum_dc _ _ _ _ _) ?_ (ha:=by exact sv_rtext_dc);rintro d H1 ⟨rfl,rfl⟩<;>refine s_ ?_)
  | (refine p_ (take_dc _ _ _ _ _) ?_ (ha:=by exact sv_rtext_dc);rintro d H1 ⟨rfl,rfl⟩<;>refine s_ ?_)
  | refine o_ ?_
  | refine f_ ?_
  | with_reducible intro b)
 (first | exact fin_ | refine finq_ ?_)
 all_goals rfl
end
theorem rtexta_dc (b:Nat) (r:List UInt8) (k:Bool) (F:Own):r.length<=100000000000->DC Tryz.prog 139 [.raw (.pointer (some ⟨b,0,none⟩))] ([.blk b [.sl ((leK 8 1++97::r).map u8), .bool k]]++F) fun d G=>d = .str [97]/\G = .blk b [.sl (r.map u8), .bool k]::F:=fun h =>
 rtext_dc b [97] r k F ⟨by decide,h⟩
theorem sv_clone_dc {p:Prop} (h:p:=by first | exact sv | (simp [u8,V.one];omega) | (simp [u8,V.one]<;>fail) | (simp [u8,V.one,List.map_eq_nil_iff]<;>first | assumption | omega) | fail):p:=h
section
attribute [local push_cast 2000] V.sl.injEq forall_eq' forall_eq
theorem clone_dc (l:List UInt8) (F:Own):(l≠[]/\l.length<=1000000000000)->DC Tryz.prog 69 [.sl (l.map u8)] (([]:Own)++F) fun d G=>d = .sl (l.map u8)/\G=[]++F:=by
 intro hA
 obtain ⟨hl,hn⟩:=hA
 refine DC.bodyS (n_:=8) (show Tryz.prog.funcs[69]? = some Tryz.f69 by kernel_rfl) rfl rfl (by rfl) ?_
 simp only [env0,List.cons_append,List.nil_append]
 have kw:=ksIs [0,2,4]
 have ow:=ownIs [5]
 repeat' (first
  | refine g_ ?_
  | ((with_reducible refine And.intro ?_ ?_);(exact sv_clone_dc))
  | (refine DW.cond (by rfl) ?_ ?_<;>(first | exact i0_ | (refine ic_ ?_;intro hb)))
  | ((with_reducible refine FVg_cases ?_ ?_)<;>(intro hb;rw [hb];revert hb;(first | exact i0_ | (refine i_ ?_;intro hb))))
  | refine r_ ?_
  | refine k_ ?_
  | refine o_ ?_
  | refine f_ ?_
  | with_reducible intro b)
 (first | exact fin_ | refine finq_ ?_)
 all_goals rfl
end
end
section
attribute [local irreducible] DW SeqD DV DOp DC DVX
theorem take1 (c:UInt8) (r:List UInt8):List.take 1 (c::r)=[c]:=rfl
theorem drop1 (c:UInt8) (r:List UInt8):List.drop 1 (c::r)=r:=rfl
theorem toN1:((1:Int)).toNat=1:=rfl
theorem take1_dc (b:Nat) (c:UInt8) (l:List UInt8) (k:Bool) (F:Own):l.length<=100000000000->DC Tryz.prog 132 [.raw (.pointer (some ⟨b,0,none⟩)), .int .u64 1] ([.blk b [.sl (u8 c::l.map u8), .bool k]]++F) fun d G=>d = .sl [.int .u8 (c.toNat:Int)]/\G = .blk b [.sl (l.map u8), .bool k]::F:=fun h =>
 take_dc b (c::l) k 1 F ⟨⟨by decide,by simp only [List.length_cons];omega⟩,by simp only [List.length_cons];omega⟩
theorem map1 (c:UInt8):List.map u8 [c]=[.int .u8 (c.toNat:Int)]:=rfl
theorem sv_frame_dc {p:Prop} (h:p:=by first | exact sv | (simp [u8,V.one];omega) | (simp [u8,V.one]<;>fail) | (refine ⟨?_,?_,?_⟩<;>first | omega | (simp [leK_len,head_len]<;>omega)) | (refine ⟨?_,?_⟩<;>first | omega | (simp [leK_len,head_len]<;>omega)) | (simp [leK_len,head_len]<;>omega) | fail):p:=h
section
attribute [local push_cast 2000] take1 drop1 toN1 map1 t3
theorem frame_dc (b:Nat) (fr ep at_ seq q:Int) (p z:List UInt8) (F:Own):(((0<=fr/\fr<=15)/\(1<=ep/\ep<=2147483647)/\(0<=at_/\at_<=1099511627776)/\(1<=seq/\seq<=2147483647)/\(0<=q/\q<=2))/\p.length<=10000000000/\z.length<=10000000000)->DC Tryz.prog 70 [.raw (.pointer (some ⟨b,0,none⟩))] ([.blk b [.sl ((3::(leK 8 fr++(leK 8 ep++(leK 8 at_++(leK 8 seq++(leK 8 1++97::(leK 8 (p.length:Int)++(p++(leK 8 q++z))))))))).map u8), .bool false]]++F) fun d G=>d = .agg [.int .i64 3, .int .i64 fr, .int .i64 ep, .int .i64 at_, .gs (.slice none 0 0) [], .gs (.slice none 0 0) [], .gs (.slice none 0 0) [], .gs (.slice none 0 0) [], .gs (.slice none 0 0) [], .gs (.slice none 0 0) [], .int .i64 seq, .str [97], .sl (p.map u8), .int .i64 q, .bool false]/\G = .blk b [.sl (z.map u8), .bool false]::F:=by
 intro hA
 obtain ⟨⟨h1,h2,h3,h4,h5⟩,hp,hz⟩:=hA
 refine DC.bodyS (n_:=46) (show Tryz.prog.funcs[70]? = some Tryz.f70 by kernel_rfl) rfl rfl (by rfl) ?_
 simp only [env0,List.cons_append,List.nil_append]
 have kw:=ksIs [0,1,2,3,17,18,26,31]
 have ow:=ownIs []
 have dw10:=drIs 10 [1,3,6,9] [0]
 have rw_:=rsIs [.cell 2 33]
 repeat' (first
  | refine g_ ?_
  | ((with_reducible refine And.intro ?_ ?_);(exact sv_frame_dc))
  | (refine DW.cond (by rfl) ?_ ?_<;>(first | exact i0_ | (refine ic_ ?_;intro hb)))
  | ((with_reducible first | refine FVg_cases ?_ ?_ | refine FDg_cases ?_ ?_)<;>(intro hb;rw [hb];revert hb;(first | exact i0_ | (refine i_ ?_;intro hb))))
  | refine r_ ?_
  | refine d_ ?_
  | refine k_ ?_
  | refine vo_ ?_
  | ((first | ((with_reducible refine DW.drawX (id:=1) [0,1,2,3,17,18,26,31] [1,6,8,10,13] 12 33 (some 3) (by kernel_rfl) (by kernel_rfl) (by kernel_rfl) (by kernel_rfl) rfl (by kernel_rfl) ?_ ?_)) | (refine DVX.fl_ rfl rfl rfl ?_) | (refine DVX.f_ rfl rfl (by decide) ?_) | ((refine DVX.mv_ rfl rfl (by decide) ?_);intro X;(try simp only [List.cons_append,List.nil_append]);(first | (refine p_ (take1_dc _ _ _ _ _) ?_ (ha:=by exact sv_frame_dc);rintro d H1 ⟨rfl,rfl⟩) | (refine p_ (rint_dc _ _ _ _ _) ?_ (ha:=by exact sv_frame_dc);rintro d H1 ⟨rfl,rfl⟩) | (refine p_ (rtexta_dc _ _ _ _) ?_ (ha:=by exact sv_frame_dc);rintro d H1 ⟨rfl,rfl⟩) | (refine p_ (rtext_dc _ _ _ _ _) ?_ (ha:=by exact sv_frame_dc);rintro d H1 ⟨rfl,rfl⟩) | ((refine DOp.load_ rfl rfl ?_);(repeat (with_reducible first | refine OnB.here ?_ | refine OnB.mid ?_ | refine OnB.next ?_));(refine And.intro (by simp (maxSteps:=1000000) (disch:=omega) only [push_cast,↓reduceIte,reduceCtorEq,Nat.reduceAdd,Nat.reduceMul,Nat.reduceLT,Nat.reduceLeDiff,Nat.reduceEqDiff,Nat.reduceSub,Int.reduceToNat,Int.reduceLT,Int.reduceLE,Int.reduceAdd,Int.reduceSub,Int.reduceMul,Int.reduceNeg,Nat.reduceBEq,Int.reduceBEq,Int.reduceBNe,Nat.reduceBNe,Int.reduceEq,take1,drop1,toN1,map1,t3]) ?_)));(try simp only [List.cons_append,List.nil_append]);(repeat (with_reducible first | refine PXK.base ?_ | refine PXK.none ?_ | refine PXK.cons ?_))))<;>(simp (maxSteps:=1000000) (disch:=omega) only [push_cast,↓reduceIte,reduceCtorEq,Nat.reduceAdd,Nat.reduceMul,Nat.reduceLT,Nat.reduceLeDiff,Nat.reduceEqDiff,Nat.reduceSub,Int.reduceToNat,Int.reduceLT,Int.reduceLE,Int.reduceAdd,Int.reduceSub,Int.reduceMul,Int.reduceNeg,Nat.reduceBEq,Int.reduceBEq,Int.reduceBNe,Nat.reduceBNe,Int.reduceEq,take1,drop1,toN1,map1,t3]))
  | (refine p_ (take1_dc _ _ _ _ _) ?_ (ha:=by exact sv_frame_dc);rintro d H1 ⟨rfl,rfl⟩<;>refine s_ ?_)
  | (refine p_ (rint_dc _ _ _ _ _) ?_ (ha:=by exact sv_frame_dc);rintro d H1 ⟨rfl,rfl⟩<;>refine s_ ?_)
  | (refine p_ (rtexta_dc _ _ _ _) ?_ (ha:=by exact sv_frame_dc);rintro d H1 ⟨rfl,rfl⟩<;>refine s_ ?_)
  | (refine p_ (rtext_dc _ _ _ _ _) ?_ (ha:=by exact sv_frame_dc);rintro d H1 ⟨rfl,rfl⟩<;>refine s_ ?_)
  | refine o_ ?_
  | refine f_ ?_
  | refine vm_ ?_
  | with_reducible intro b)
 all_goals first
 | ((first | exact fin_ | refine finq_ ?_);done)
 | (trivial)
end
end
section
attribute [local irreducible] DW SeqD DV DOp DC DVX
theorem frame2_dc (b:Nat) (fr ep at_ seq q:Int) (p z:List UInt8) (F:Own):(((0<=fr/\fr<=15)/\(1<=ep/\ep<=2147483647)/\(0<=at_/\at_<=1099511627776)/\(1<=seq/\seq<=2147483647)/\(0<=q/\q<=2))/\p.length<=10000000000/\z.length<=10000000000)->DC Tryz.prog 70 [.raw (.pointer (some ⟨b,0,none⟩))] ([.blk b [.sl (u8 3::((leK 8 fr++(leK 8 ep++(leK 8 at_++(leK 8 seq++(leK 8 1++97::(leK 8 (p.length:Int)++(p++(leK 8 q++z))))))))).map u8), .bool false]]++F) fun d G=>d = .agg [.int .i64 3, .int .i64 fr, .int .i64 ep, .int .i64 at_, .gs (.slice none 0 0) [], .gs (.slice none 0 0) [], .gs (.slice none 0 0) [], .gs (.slice none 0 0) [], .gs (.slice none 0 0) [], .gs (.slice none 0 0) [], .int .i64 seq, .str [97], .sl (p.map u8), .int .i64 q, .bool false]/\G = .blk b [.sl (z.map u8), .bool false]::F:=fun h=>frame_dc b fr ep at_ seq q p z F h
theorem clone3_dc (l:List UInt8) (F:Own):l.length<=1000000000->DC Tryz.prog 69 [.sl (u8 3::l.map u8)] (([]:Own)++F) fun d G=>d = .sl (u8 3::l.map u8)/\G=[]++F:=fun h=>clone_dc (3::l) F ⟨by simp,by simp only [List.length_cons];omega⟩
theorem rnum0_dc (b:Nat) (x:Int) (k:Bool) (F:Own):(0<=x/\x<=18446744073709551615)->DC Tryz.prog 68 [.raw (.pointer (some ⟨b,0,none⟩))] ([.blk b [.sl ((leK 8 x).map u8), .bool k]]++F) fun d G=>d = .int .u64 x/\G = .blk b [.sl [], .bool k]::F:=fun h=>by
 have:=rnum_dc b x [] k F ⟨h,by decide⟩
 rwa [List.append_nil] at this
theorem full_take (fr ep at_ seq q:Int) (p:List UInt8) (n:Int) (h:n=61+p.length):(fullF fr ep at_ seq q p).take n.toNat=bodyF fr ep at_ seq q p:=by
 have e:n.toNat=(bodyF fr ep at_ seq q p).length:=by rw [body_len];omega
 rw [e,fullF,List.take_left]
theorem full_drop (fr ep at_ seq q:Int) (p:List UInt8) (n:Int) (h:n=61+p.length):(fullF fr ep at_ seq q p).drop n.toNat=leK 8 (fnvV (bodyF fr ep at_ seq q p)):=by
 have e:n.toNat=(bodyF fr ep at_ seq q p).length:=by rw [body_len];omega
 rw [e,fullF,List.drop_left]
theorem body_drop (fr ep at_ seq q:Int) (p z:List UInt8) (hz:z=[]):(bodyF fr ep at_ seq q p).drop 3=3::(leK 8 fr++(leK 8 ep++(leK 8 at_++(leK 8 seq++(leK 8 1++97::(leK 8 (p.length:Int)++(p++(leK 8 q++z)))))))):=by
 subst hz
 simp only [bodyF,headF,restF,List.append_assoc,List.cons_append,List.nil_append,List.drop_succ_cons,List.drop_zero]
def magicL:List UInt8:=[72,66,49]
theorem eqHB:(magicL==[72,66,49])=true:=rfl
theorem neHB (l:List UInt8):((byteOf (.int .u8 0)::l)==([72,66,49]:List UInt8))=false:=rfl
theorem toN3:((3:Int)).toNat=3:=rfl
theorem sv_read2_dc {p:Prop} (h:p:=by first | exact sv | (simp [u8,V.one];omega) | (simp [u8,V.one]<;>fail) | fail):p:=h
section
attribute [local push_cast 2000] toN3 takeMap isU8 isU8_map byteOf_map neHB
theorem read2_dc (l:List UInt8) (F:Own):(12<=l.length/\l.length<=1048500)->DC Tryz.prog 20 [.sl (.int .u8 0::l.map u8)] (([]:Own)++F) fun d G=>d = .tup [.agg [.int .i64 0, .int .i64 0, .int .i64 0, .int .i64 0, .gs (.slice none 0 0) [], .gs (.slice none 0 0) [], .gs (.slice none 0 0) [], .gs (.slice none 0 0) [], .gs (.slice none 0 0) [], .gs (.slice none 0 0) [], .int .i64 0, .str [], .gs (.slice none 0 0) [], .int .i64 0, .bool false], .int .i64 21]/\G=[]++F:=by
 intro hA
 obtain ⟨h1,h2⟩:=hA
 refine DC.bodyS (n_:=71) (show Tryz.prog.funcs[20]? = some Tryz.f20 by kernel_rfl) rfl rfl (by rfl) ?_
 simp only [env0,List.cons_append,List.nil_append]
 have kw:=ksIs [0,2,3,4,5,6,7,8,12,17,28,68]
 have ow:=ownIs [33,47]
 have dw6:=drIs 6 [4,5,10] []
 have rw_:=rsIs [.cell 2 33, .tmp 3]
 repeat' (first
  | refine g_ ?_
  | ((with_reducible refine And.intro ?_ ?_);(exact sv_read2_dc))
  | (refine DW.cond (by rfl) ?_ ?_<;>(first | exact i0_ | (refine ic_ ?_;intro hb)))
  | ((with_reducible first | refine FVg_cases ?_ ?_ | refine FDg_cases ?_ ?_)<;>(intro hb;rw [hb];revert hb;(first | exact i0_ | (refine i_ ?_;intro hb))))
  | refine r_ ?_
  | refine d_ ?_
  | refine k_ ?_
  | refine vo_ ?_
  | refine o_ ?_
  | refine f_ ?_
  | refine vm_ ?_
  | with_reducible intro b)
 all_goals first
 | ((first | exact fin_ | refine finq_ ?_);done)
 | (exfalso;omega)
end
theorem sv_read3_dc {p:Prop} (h:p:=by first | exact sv | (simp [u8,V.one];omega) | (simp [u8,V.one]<;>fail) | fail):p:=h
theorem s_read3_dc {P Q:Prop} (q:Q) (h:Hid Q->P:=by (intro q;simp (maxSteps:=1000000) (disch:=omega) only [push_cast,↓reduceIte,reduceCtorEq,Nat.reduceAdd,Nat.reduceMul,Nat.reduceLT,Nat.reduceLeDiff,Nat.reduceEqDiff,Nat.reduceSub,Int.reduceToNat,Int.reduceLT,Int.reduceLE,Int.reduceAdd,Int.reduceSub,Int.reduceMul,Int.reduceNeg,Nat.reduceBEq,Int.reduceBEq,Int.reduceBNe,Nat.reduceBNe,Int.reduceEq,toN3,takeMap,dropMap,isU8_map,byteOf_map,hb0,hb1,hb2,eqHB,takeLen];exact q.1)):P:=h ⟨q⟩
section
attribute [local push_cast 2000] toN3 takeMap dropMap isU8_map byteOf_map eqHB takeLen
theorem read3_dc (l c:List UInt8) (x:Int) (F:Own):((12<=l.length/\l.length<=1048576)/\l.take 3=magicL/\l.drop ((l.length:Int) - 8).toNat=leK 8 x/\l.take ((l.length:Int) - 8).toNat=c/\x≠fnvV c/\(0<=x/\x<=18446744073709551615)/\c.length<=1048576)->DC Tryz.prog 20 [.sl (l.map u8)] (([]:Own)++F) fun d G=>d = .tup [.agg [.int .i64 0, .int .i64 0, .int .i64 0, .int .i64 0, .gs (.slice none 0 0) [], .gs (.slice none 0 0) [], .gs (.slice none 0 0) [], .gs (.slice none 0 0) [], .gs (.slice none 0 0) [], .gs (.slice none 0 0) [], .int .i64 0, .str [], .gs (.slice none 0 0) [], .int .i64 0, .bool false], .int .i64 27]/\G=[]++F:=by
 intro hA
 obtain ⟨⟨h1,h2⟩,hb0,hb1,hb2,hne,hx,hc⟩:=hA
 refine DC.bodyS (n_:=71) (show Tryz.prog.funcs[20]? = some Tryz.f20 by kernel_rfl) rfl rfl (by rfl) ?_
 simp only [env0,List.cons_append,List.nil_append]
 have kw:=ksIs [0,2,3,4,5,6,7,8,12,17,28,68]
 have ow:=ownIs [33,47]
 have dw6:=drIs 6 [4,5,10] []
 have rw_:=rsIs [.cell 2 33, .tmp 3]
 repeat' (first
  | refine g_ ?_
  | ((with_reducible refine And.intro ?_ ?_);(exact sv_read3_dc))
  | (refine DW.cond (by rfl) ?_ ?_<;>(first | exact i0_ | (intro hb;(try simp only [↓reduceCtorEq,not_true_eq_false,not_false_eq_true,hbs,Int.reduceBEq,Int.reduceBNe,Int.reduceEq] at hb);(try refine s_read3_dc ?_))))
  | ((with_reducible first | refine FVg_cases ?_ ?_ | refine FDg_cases ?_ ?_)<;>(intro hb;rw [hb];revert hb;(first | exact i0_ | (intro hb;(try simp only [↓reduceCtorEq,not_true_eq_false,not_false_eq_true,hbs,Int.reduceBEq,Int.reduceBNe,Int.reduceEq] at hb);(try refine s_read3_dc ?_)))))
  | ((first | refine rn_ ?_ | refine dn_ ?_ | refine kn_ ?_)<;>(refine s_read3_dc ?_))
  | ((refine dm_ ?_);(first | (refine v_ (fnv_dc _ _) ?_ (ha:=by exact sv_read3_dc) (hk:=fun q=>q.1);refine s_read3_dc ?_)))
  | ((refine von_ ?_);refine s_read3_dc ?_)
  | (refine p_ (rnum0_dc _ _ _ _) ?_ (ha:=by exact sv_read3_dc);rintro d H1 ⟨rfl,rfl⟩<;>refine s_read3_dc ?_)
  | (refine q_ (fnv_dc _ _) ?_ (ha:=by exact sv_read3_dc) (hk:=fun q=>q.1);refine s_read3_dc ?_)
  | ((refine on_ ?_);refine s_read3_dc ?_)
  | refine f_ ?_
  | refine vm_ ?_
  | with_reducible intro b)
 all_goals first
 | ((first | exact fin_ | refine finq_ ?_);done)
 | (exfalso;omega)
end
theorem sv_read4_dc {p:Prop} (h:p:=by first | exact sv | (simp [u8,V.one];omega) | (simp [u8,V.one]<;>fail) | (refine ⟨?_,?_,?_⟩<;>first | omega | (simp [leK_len,head_len]<;>omega)) | (refine ⟨?_,?_⟩<;>first | omega | (simp [leK_len,head_len]<;>omega)) | (simp [leK_len,head_len]<;>omega) | fail):p:=h
theorem s_read4_dc {P Q:Prop} (q:Q) (h:Hid Q->P:=by (intro q;simp (maxSteps:=1000000) (disch:=omega) only [push_cast,↓reduceIte,reduceCtorEq,Nat.reduceAdd,Nat.reduceMul,Nat.reduceLT,Nat.reduceLeDiff,Nat.reduceEqDiff,Nat.reduceSub,Int.reduceToNat,Int.reduceLT,Int.reduceLE,Int.reduceAdd,Int.reduceSub,Int.reduceMul,Int.reduceNeg,Nat.reduceBEq,Int.reduceBEq,Int.reduceBNe,Nat.reduceBNe,Int.reduceEq,toN3,takeMap,dropMap,isU8_map,byteOf_map,hb0,hb1,hb2,hb3,hb4,eqHB,takeLen,bneI];exact q.1)):P:=h ⟨q⟩
section
attribute [local push_cast 2000] toN3 takeMap dropMap isU8_map byteOf_map eqHB takeLen
theorem read4_dc (fr ep at_ seq q:Int) (p l z:List UInt8) (F:Own):(z=[]/\l=fullF fr ep at_ seq q p/\((0<=fr/\fr<=15)/\(1<=ep/\ep<=2147483647)/\(0<=at_/\at_<=1099511627776)/\(1<=seq/\seq<=2147483647)/\(0<=q/\q<=2))/\l.length<=1048576)->DC Tryz.prog 20 [.sl (l.map u8)] (([]:Own)++F) fun d G=>d = .tup [.agg [.int .i64 3, .int .i64 fr, .int .i64 ep, .int .i64 at_, .gs (.slice none 0 0) [], .gs (.slice none 0 0) [], .gs (.slice none 0 0) [], .gs (.slice none 0 0) [], .gs (.slice none 0 0) [], .gs (.slice none 0 0) [], .int .i64 seq, .str [97], .sl (p.map u8), .int .i64 q, .bool false], .int .i64 0]/\G=[]++F:=by
 intro hA
 obtain ⟨hz,hl,hF,h2⟩:=hA
 refine DC.bodyS (n_:=71) (show Tryz.prog.funcs[20]? = some Tryz.f20 by kernel_rfl) rfl rfl (by rfl) ?_
 simp only [env0,List.cons_append,List.nil_append]
 have kw:=ksIs [0,2,3,4,5,6,7,8,12,17,28,68]
 have ow:=ownIs [33,47]
 have dw6:=drIs 6 [4,5,10] []
 have rw_:=rsIs [.cell 2 33, .tmp 3]
 have hfl:=full_len fr ep at_ seq q p
 have hll:l.length=69+p.length:=by rw [hl];exact hfl
 have hb0:List.take 3 l=magicL:=by rw [hl];rfl
 have hb1:List.drop ((l.length:Int) - 8).toNat l=leK 8 (fnvV (bodyF fr ep at_ seq q p)):=by rw [hl];exact full_drop _ _ _ _ _ _ _ (by omega)
 have hb2:List.take ((l.length:Int) - 8).toNat l=bodyF fr ep at_ seq q p:=by rw [hl];exact full_take _ _ _ _ _ _ _ (by omega)
 have hb3:=body_drop fr ep at_ seq q p z hz
 have hb4:(fullF fr ep at_ seq q p==l)=true:=by rw [hl];simp
 have hbl:=body_len fr ep at_ seq q p
 have hfb:=fnv_b (bodyF fr ep at_ seq q p)
 have hzl:z.length=0:=by rw [hz];rfl
 repeat' (first
  | refine g_ ?_
  | ((with_reducible refine And.intro ?_ ?_);(exact sv_read4_dc))
  | (refine DW.cond (by rfl) ?_ ?_<;>(first | exact i0_ | (intro hb;(try simp only [↓reduceCtorEq,not_true_eq_false,not_false_eq_true,hbs,Int.reduceBEq,Int.reduceBNe,Int.reduceEq] at hb);(try refine s_read4_dc ?_))))
  | ((with_reducible first | refine FVg_cases ?_ ?_ | refine FDg_cases ?_ ?_)<;>(intro hb;rw [hb];revert hb;(first | exact i0_ | (intro hb;(try simp only [↓reduceCtorEq,not_true_eq_false,not_false_eq_true,hbs,Int.reduceBEq,Int.reduceBNe,Int.reduceEq] at hb);(try refine s_read4_dc ?_)))))
  | ((first | refine rn_ ?_ | refine dn_ ?_ | refine kn_ ?_)<;>(refine s_read4_dc ?_))
  | ((refine dm_ ?_);(first | ((first | refine v_ (fnv_dc _ _) ?_ (ha:=by exact sv_read4_dc) (hk:=fun q=>q.1) | refine v_ (eqb_dc _ _ _) ?_ (ha:=by exact sv_read4_dc) (hk:=fun q=>q.1));refine s_read4_dc ?_) | (refine v_ (clone3_dc _ _) ?_ (ha:=by exact sv_read4_dc) (hk:=fun q=>q.1);refine s_read4_dc ?_)))
  | ((refine von_ ?_);refine s_read4_dc ?_)
  | (refine p_ (rnum0_dc _ _ _ _) ?_ (ha:=by exact sv_read4_dc);rintro d H1 ⟨rfl,rfl⟩<;>refine s_read4_dc ?_)
  | ((first | refine q_ (fnv_dc _ _) ?_ (ha:=by exact sv_read4_dc) (hk:=fun q=>q.1) | refine q_ (eqb_dc _ _ _) ?_ (ha:=by exact sv_read4_dc) (hk:=fun q=>q.1));refine s_read4_dc ?_)
  | (refine q_ (clone3_dc _ _) ?_ (ha:=by exact sv_read4_dc) (hk:=fun q=>q.1);refine s_read4_dc ?_)
  | (refine p_ (frame2_dc _ _ _ _ _ _ _ _ _) ?_ (ha:=by exact sv_read4_dc);rintro d H1 ⟨rfl,rfl⟩<;>refine s_read4_dc ?_)
  | (refine p_ (putf_dc _ _ _ _ _ _ _) ?_ (ha:=by exact sv_read4_dc);rintro d H1 (⟨g1,v1,rfl,rfl⟩ | ⟨g1,rfl,rfl⟩)<;>refine s_read4_dc ?_)
  | ((refine on_ ?_);refine s_read4_dc ?_)
  | refine f_ ?_
  | refine vm_ ?_
  | with_reducible intro b)
 all_goals first
 | ((first | exact fin_ | refine finq_ ?_);done)
 | (exfalso;omega)
end
end
end Go.Proofs.YtbmbcjmgjdnlnaaGreatDoor
