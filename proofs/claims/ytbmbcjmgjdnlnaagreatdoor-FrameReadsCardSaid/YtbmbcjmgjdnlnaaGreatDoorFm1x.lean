/- Numbers and texts are laid down. -/
import Derived.Test.YtbmbcjmgjdnlnaaGreatDoorSox
import Derived.KernelRfl
namespace Go.Proofs.YtbmbcjmgjdnlnaaGreatDoor
open Go.RowKit
set_option linter.unusedSimpArgs false
set_option linter.unusedVariables false
set_option linter.unusedSectionVars false
set_option maxHeartbeats 4000000
set_option maxRecDepth 100000
section
attribute [local irreducible] DW SeqD DV DOp DC DVX
def byteI (x:Int):UInt8:=UInt8.ofNat (x%256).toNat
def shK:Nat->Int->Int
 | 0,x=>x
 | k+1,x=>(shK k x).fdiv (2 ^ min 8 IntKind.u64.bits)
def leK (k:Nat) (x:Int):List UInt8:=(List.range k).map fun i=>byteI (shK i x)
theorem leK_0 (x:Int):leK 0 x=[]:=rfl
theorem leK_more (k:Nat) (x:Int):leK (k+1) x=leK k x++[byteI (shK k x)]:=by simp [leK,List.range_succ]
theorem leK_len (k:Nat) (x:Int):(leK k x).length=k:=by simp [leK]
theorem u8_byteI (x:Int):u8 (byteI x) = .int .u8 (IntKind.u8.wrap x):=by
 unfold u8 byteI
 congr 1
 simp [IntKind.wrap,IntKind.bits,IntKind.signed]
 omega
def numsL (l:List Int):List UInt8:=(l.map fun x=>leK 8 (IntKind.u64.wrap x)).flatten
theorem numsL_nil:numsL []=[]:=rfl
theorem numsL_snoc (l:List Int) (x:Int):numsL (l++[x])=numsL l++leK 8 (IntKind.u64.wrap x):=by simp [numsL]
theorem numsL_next (l:List Int) (k:Nat) (h:k<l.length):numsL (l.take (k+1))=numsL (l.take k)++leK 8 (IntKind.u64.wrap (l.getD k default)):=by
 rw [List.take_add_one,<-numsL_snoc];simp [List.getD_eq_getElem?_getD,h]
theorem numsL_len (l:List Int):(numsL l).length=8 * l.length:=by
 induction l with
 | nil=>rfl
 | cons x l ih=>simp only [numsL,List.map_cons,List.flatten_cons,List.length_append,leK_len,List.length_cons] at ih ⊢;omega
theorem u64_nat (x:Int) (h:0<=x/\x<=9223372036854775807):IntKind.u64.wrap x=x:=wrap_u64 _ h.1 (by omega)
theorem numsL_1 (x:Int) (h:0<=x/\x<=9223372036854775807):numsL [x]=leK 8 x:=by simp [numsL,u64_nat x h]
theorem numsL_3 (x y z:Int) (h:(0<=x/\x<=9223372036854775807)/\(0<=y/\y<=9223372036854775807)/\(0<=z/\z<=9223372036854775807)):numsL [x,y,z]=leK 8 x++(leK 8 y++leK 8 z):=by simp [numsL,u64_nat x h.1,u64_nat y h.2.1,u64_nat z h.2.2]
def encJ (x:Int):V:=.int .i64 x
theorem sv_number_dc {p:Prop} (h:p:=by first | exact sv | (simp [u8,V.one];omega) | (simp [u8,V.one]<;>fail) | fail):p:=h
section
attribute [local push_cast 2000] u8_byteI
theorem number_dc (v:Value) (l:List UInt8) (n:Int) (F:Own):(l.length<=1000000000000)->DC Tryz.prog 51 [.gs v (l.map u8), .int .u64 n] ([.tail 1 v]++F) fun d G=>∃ v1,d = .gs v1 ((l++leK 8 n).map u8)/\G = .tail 1 v1::F:=by
 intro hA
 have hl:=hA
 refine DC.bodyS (n_:=16) (show Tryz.prog.funcs[51]? = some Tryz.f51 by kernel_rfl) rfl rfl (by rfl) ?_
 simp only [env0,List.cons_append,List.nil_append]
 have kw:=ksIs [0,1,4,5,6]
 have ow:=ownIs []
 repeat' (first
  | ((with_reducible refine DW.loopB 0 (X:=Nat×Value) (fun x=>x.1<=8) (fun x=>[(0, .gs x.2 ((l++leK x.1 n).map u8)),(1, .int .u64 (shK x.1 n)),(5, .int .i64 x.1)]) (fun x=>.tail 1 x.2::([]:Own)) (fun x=>8 - x.1) ((0,v)) ?_ ?_ ?_);exact (Nat.zero_le _);(simp [Sub,get,keepL,leK_0,shK]<;>fail);(try simp only [List.cons_append,List.nil_append]);refine pl_ ?_;intro ⟨k,y⟩ hk;(try simp only [List.cons_append,List.nil_append]);have hkl:=leK_len k n;simp only at hk)
  | refine g_ ?_
  | ((with_reducible refine And.intro ?_ ?_);(exact sv_number_dc))
  | (refine DW.cond (by rfl) ?_ ?_<;>(first | exact i0_ | (refine ic_ ?_;intro hb)))
  | ((with_reducible refine FVg_cases ?_ ?_)<;>(intro hb;rw [hb];revert hb;(first | exact i0_ | (refine i_ ?_;intro hb))))
  | refine r_ ?_
  | refine k_ ?_
  | refine o_ ?_
  | refine f_ ?_
  | with_reducible intro b)
 all_goals first
 | (refine ⟨(k+1,b),?_,?_,?_,?_⟩;(((try simp only);omega));(((try simp only);omega));(simp [Sub,get,leK_more,shK,u8_byteI]<;>(fail));(try dsimp only);(exact sub_);done)
 | (have hk:k=8:=by omega
    subst hk
    refine ⟨_,_,le.rfl_,⟨_,rfl,rfl⟩,?_⟩;(exact sub_);done)
end
theorem sv_numbers_dc {p:Prop} (h:p:=by first | exact sv | (simp [u8,V.one];omega) | (simp [u8,V.one]<;>fail) | fail):p:=h
section
attribute [local push_cast 2000] encJ
theorem numbers_dc (v:Value) (l:List UInt8) (xs:List Int) (F:Own):(l.length<=999999999000/\xs.length<=100)->DC Tryz.prog 50 [.gs v (l.map u8), .sl (xs.map encJ)] ([.tail 1 v]++F) fun d G=>∃ v1,d = .gs v1 ((l++numsL xs).map u8)/\G = .tail 1 v1::F:=by
 intro hA
 obtain ⟨hl,hx⟩:=hA
 refine DC.bodyS (n_:=19) (show Tryz.prog.funcs[50]? = some Tryz.f50 by kernel_rfl) rfl rfl (by rfl) ?_
 simp only [env0,List.cons_append,List.nil_append]
 have kw:=ksIs [0,1,4,6,7,8,9,10]
 have ow:=ownIs []
 repeat' (first
  | ((with_reducible refine DW.loopB 0 (X:=Nat×Value) (fun x=>x.1<=xs.length) (fun x=>[(0, .gs x.2 ((l++numsL (xs.take x.1)).map u8)),(7, .sl (xs.map encJ)),(8, .int .i64 xs.length),(9, .int .i64 x.1)]) (fun x=>.tail 1 x.2::([]:Own)) (fun x=>xs.length - x.1) ((0,v)) ?_ ?_ ?_);exact (Nat.zero_le _);(simp [Sub,get,keepL,numsL_nil]<;>fail);(try simp only [List.cons_append,List.nil_append]);refine pl_ ?_;intro ⟨k,y⟩ hk;(try simp only [List.cons_append,List.nil_append]);have hkl:=numsL_len (xs.take k);rw [List.length_take] at hkl;simp only at hk)
  | refine g_ ?_
  | ((with_reducible refine And.intro ?_ ?_);(exact sv_numbers_dc))
  | (refine DW.cond (by rfl) ?_ ?_<;>(first | exact i0_ | (refine ic_ ?_;intro hb)))
  | ((with_reducible refine FVg_cases ?_ ?_)<;>(intro hb;rw [hb];revert hb;(first | exact i0_ | (refine i_ ?_;intro hb))))
  | refine r_ ?_
  | refine k_ ?_
  | (refine p_ (number_dc _ _ _ _) ?_ (ha:=by exact sv_numbers_dc);rintro d H1 ⟨v1,rfl,rfl⟩<;>refine s_ ?_)
  | refine o_ ?_
  | refine f_ ?_
  | with_reducible intro b)
 all_goals first
 | (refine ⟨(k+1,v1),?_,?_,?_,?_⟩;(((try simp only);omega));(((try simp only);omega));(simp [Sub,get,numsL_next xs k (by omega)]<;>(fail));(try dsimp only);(exact sub_);done)
 | (have hk:k=xs.length:=by omega
    subst hk
    rw [List.take_length]
    refine ⟨_,_,le.rfl_,⟨_,rfl,rfl⟩,?_⟩;(exact sub_);done)
end
theorem numbers1_dc (v:Value) (l:List UInt8) (x:Int) (F:Own):(l.length<=999999999000/\0<=x/\x<=9223372036854775807)->DC Tryz.prog 50 [.gs v (l.map u8), .sl [.int .i64 x]] ([.tail 1 v]++F) fun d G=>∃ v1,d = .gs v1 ((l++leK 8 x).map u8)/\G = .tail 1 v1::F:=fun h=>by
 have:=numbers_dc v l [x] F ⟨h.1,by simp⟩
 rw [numsL_1 x h.2] at this
 exact this
theorem numbers3_dc (v:Value) (l:List UInt8) (x y z:Int) (F:Own):(l.length<=999999999000/\(0<=x/\x<=9223372036854775807)/\(0<=y/\y<=9223372036854775807)/\(0<=z/\z<=9223372036854775807))->DC Tryz.prog 50 [.gs v (l.map u8), .sl [.int .i64 x, .int .i64 y, .int .i64 z]] ([.tail 1 v]++F) fun d G=>∃ v1,d = .gs v1 ((l++(leK 8 x++(leK 8 y++leK 8 z))).map u8)/\G = .tail 1 v1::F:=fun h=>by
 have:=numbers_dc v l [x,y,z] F ⟨h.1,by simp⟩
 rw [numsL_3 x y z h.2] at this
 exact this
theorem sv_text_dc {p:Prop} (h:p:=by first | exact sv | (simp [u8,V.one];omega) | (simp [u8,V.one]<;>fail) | fail):p:=h
section
attribute [local push_cast 2000] leK_len
theorem text_dc (v:Value) (l t:List UInt8) (F:Own):(l.length<=999999999000/\t.length<=1000000000000)->DC Tryz.prog 54 [.gs v (l.map u8), .str t] ([.tail 1 v]++F) fun d G=>∃ v1,d = .gs v1 ((l++(leK 8 t.length++t)).map u8)/\G = .tail 1 v1::F:=by
 intro hA
 obtain ⟨hl,ht⟩:=hA
 refine DC.bodyS (n_:=12) (show Tryz.prog.funcs[54]? = some Tryz.f54 by kernel_rfl) rfl rfl (by rfl) ?_
 simp only [env0,List.cons_append,List.nil_append]
 have kw:=ksIs [0,1,4]
 have ow:=ownIs []
 repeat' (first
  | refine g_ ?_
  | ((with_reducible refine And.intro ?_ ?_);(exact sv_text_dc))
  | (refine DW.cond (by rfl) ?_ ?_<;>(first | exact i0_ | (refine ic_ ?_;intro hb)))
  | ((with_reducible refine FVg_cases ?_ ?_)<;>(intro hb;rw [hb];revert hb;(first | exact i0_ | (refine i_ ?_;intro hb))))
  | refine r_ ?_
  | refine k_ ?_
  | (refine p_ (numbers1_dc _ _ _ _) ?_ (ha:=by exact sv_text_dc);rintro d H1 ⟨v1,rfl,rfl⟩<;>refine s_ ?_)
  | refine o_ ?_
  | refine f_ ?_
  | with_reducible intro b)
 all_goals first
 | (refine ⟨_,_,le.of_eq ?_,⟨b,rfl,rfl⟩,SubP.refl⟩;simp)
end
end
section
attribute [local irreducible] DW SeqD DV DOp DC DVX
theorem byteOf_map (p:List UInt8):(List.map u8 p).map byteOf=p:=bytes_back p
theorem isU8_map (p:List UInt8):(List.map u8 p).all isU8=true:=bytes_are p
theorem rune_a:runeAt [97] 0=97:=by decide
theorem wide_a:wideAt [97] 0=1:=by decide
theorem in_dc (v a b:Int) (F:Own):(True)->DC Tryz.prog 61 [.int .i64 v, .int .i64 a, .int .i64 b] (([]:Own)++F) fun d G=>d = .bool (decide (a<=v)&&decide (v<=b))/\G=[]++F:=by
 intro hA
 refine DC.bodyS (n_:=15) (show Tryz.prog.funcs[61]? = some Tryz.f61 by kernel_rfl) rfl rfl (by rfl) ?_
 simp only [env0,List.cons_append,List.nil_append]
 have kw:=ksIs [0,1,2,6]
 have ow:=ownIs []
 repeat' (first
  | refine g_ ?_
  | ((with_reducible refine And.intro ?_ ?_);(exact sv))
  | (refine DW.cond (by rfl) ?_ ?_<;>(first | exact i0_ | (refine ic_ ?_;intro hb)))
  | ((with_reducible refine FVg_cases ?_ ?_)<;>(intro hb;rw [hb];revert hb;(first | exact i0_ | (refine i_ ?_;intro hb))))
  | refine r_ ?_
  | refine k_ ?_
  | refine o_ ?_
  | refine f_ ?_
  | with_reducible intro b)
 all_goals
  refine ⟨_,_,le.of_eq ?_,⟨rfl,rfl⟩,SubP.refl⟩
  first | rfl | simp_all
section
attribute [local push_cast 2000] byteOf_map isU8_map
theorem eqb_dc (a b:List UInt8) (F:Own):(True)->DC Tryz.prog 71 [.sl (a.map u8), .sl (b.map u8)] (([]:Own)++F) fun d G=>d = .bool (a==b)/\G=[]++F:=by
 intro hA
 refine DC.bodyS (n_:=10) (show Tryz.prog.funcs[71]? = some Tryz.f71 by kernel_rfl) rfl rfl (by rfl) ?_
 simp only [env0,List.cons_append,List.nil_append]
 have kw:=ksIs [0,1,4]
 have ow:=ownIs []
 repeat' (first
  | refine g_ ?_
  | ((with_reducible refine And.intro ?_ ?_);(exact sv))
  | (refine DW.cond (by rfl) ?_ ?_<;>(first | exact i0_ | (refine ic_ ?_;intro hb)))
  | ((with_reducible refine FVg_cases ?_ ?_)<;>(intro hb;rw [hb];revert hb;(first | exact i0_ | (refine i_ ?_;intro hb))))
  | refine r_ ?_
  | refine k_ ?_
  | refine o_ ?_
  | refine f_ ?_
  | with_reducible intro b)
 (first | exact fin_ | refine finq_ ?_)
 all_goals rfl
end
theorem eqd0_dc  (F:Own):(True)->DC Tryz.prog 107 [.sl [], .sl []] (([]:Own)++F) fun d G=>d = .bool true/\G=[]++F:=by
 intro hA
 refine DC.bodyS (n_:=26) (show Tryz.prog.funcs[107]? = some Tryz.f107 by kernel_rfl) rfl rfl (by rfl) ?_
 simp only [env0,List.cons_append,List.nil_append]
 have kw:=ksIs [0,1,4,5,10,12,13,14,24]
 have ow:=ownIs []
 have dw6:=drIs 6 [] [3,7]
 repeat' (first
  | ((with_reducible refine DW.loopB 0 (X:=Nat) (fun x=>x<=0) (fun x=>[(0, .sl []),(1, .sl []),(12, .int .i64 0),(13, .int .i64 x)]) (fun x=>([]:Own)) (fun x=>0 - x) (0) ?_ ?_ ?_);exact (Nat.zero_le _);(simp [Sub,get,keepL]<;>fail);(try simp only [List.cons_append,List.nil_append]);refine pl_ ?_;intro k hk;(try simp only [List.cons_append,List.nil_append]))
  | refine g_ ?_
  | ((with_reducible refine And.intro ?_ ?_);(exact sv))
  | (refine DW.cond (by rfl) ?_ ?_<;>(first | exact i0_ | (refine ic_ ?_;intro hb)))
  | ((with_reducible first | refine FVg_cases ?_ ?_ | refine FDg_cases ?_ ?_)<;>(intro hb;rw [hb];revert hb;(first | exact i0_ | (refine i_ ?_;intro hb))))
  | refine r_ ?_
  | refine d_ ?_
  | refine k_ ?_
  | refine vo_ ?_
  | refine o_ ?_
  | refine f_ ?_
  | refine vm_ ?_
  | with_reducible intro b)
 all_goals first
 | (exfalso;omega)
 | ((first | exact fin_ | refine finq_ ?_))
theorem eqf0_dc  (F:Own):(True)->DC Tryz.prog 108 [.sl [], .sl []] (([]:Own)++F) fun d G=>d = .bool true/\G=[]++F:=by
 intro hA
 refine DC.bodyS (n_:=26) (show Tryz.prog.funcs[108]? = some Tryz.f108 by kernel_rfl) rfl rfl (by rfl) ?_
 simp only [env0,List.cons_append,List.nil_append]
 have kw:=ksIs [0,1,4,5,10,12,13,14,24]
 have ow:=ownIs []
 have dw6:=drIs 6 [] [3,7]
 repeat' (first
  | ((with_reducible refine DW.loopB 0 (X:=Nat) (fun x=>x<=0) (fun x=>[(0, .sl []),(1, .sl []),(12, .int .i64 0),(13, .int .i64 x)]) (fun x=>([]:Own)) (fun x=>0 - x) (0) ?_ ?_ ?_);exact (Nat.zero_le _);(simp [Sub,get,keepL]<;>fail);(try simp only [List.cons_append,List.nil_append]);refine pl_ ?_;intro k hk;(try simp only [List.cons_append,List.nil_append]))
  | refine g_ ?_
  | ((with_reducible refine And.intro ?_ ?_);(exact sv))
  | (refine DW.cond (by rfl) ?_ ?_<;>(first | exact i0_ | (refine ic_ ?_;intro hb)))
  | ((with_reducible first | refine FVg_cases ?_ ?_ | refine FDg_cases ?_ ?_)<;>(intro hb;rw [hb];revert hb;(first | exact i0_ | (refine i_ ?_;intro hb))))
  | refine r_ ?_
  | refine d_ ?_
  | refine k_ ?_
  | refine vo_ ?_
  | refine o_ ?_
  | refine f_ ?_
  | refine vm_ ?_
  | with_reducible intro b)
 all_goals first
 | (exfalso;omega)
 | ((first | exact fin_ | refine finq_ ?_))
theorem eqr0_dc  (F:Own):(True)->DC Tryz.prog 109 [.sl [], .sl []] (([]:Own)++F) fun d G=>d = .bool true/\G=[]++F:=by
 intro hA
 refine DC.bodyS (n_:=26) (show Tryz.prog.funcs[109]? = some Tryz.f109 by kernel_rfl) rfl rfl (by rfl) ?_
 simp only [env0,List.cons_append,List.nil_append]
 have kw:=ksIs [0,1,4,5,10,12,13,14,24]
 have ow:=ownIs []
 have dw6:=drIs 6 [] [3,7]
 repeat' (first
  | ((with_reducible refine DW.loopB 0 (X:=Nat) (fun x=>x<=0) (fun x=>[(0, .sl []),(1, .sl []),(12, .int .i64 0),(13, .int .i64 x)]) (fun x=>([]:Own)) (fun x=>0 - x) (0) ?_ ?_ ?_);exact (Nat.zero_le _);(simp [Sub,get,keepL]<;>fail);(try simp only [List.cons_append,List.nil_append]);refine pl_ ?_;intro k hk;(try simp only [List.cons_append,List.nil_append]))
  | refine g_ ?_
  | ((with_reducible refine And.intro ?_ ?_);(exact sv))
  | (refine DW.cond (by rfl) ?_ ?_<;>(first | exact i0_ | (refine ic_ ?_;intro hb)))
  | ((with_reducible first | refine FVg_cases ?_ ?_ | refine FDg_cases ?_ ?_)<;>(intro hb;rw [hb];revert hb;(first | exact i0_ | (refine i_ ?_;intro hb))))
  | refine r_ ?_
  | refine d_ ?_
  | refine k_ ?_
  | refine vo_ ?_
  | refine o_ ?_
  | refine f_ ?_
  | refine vm_ ?_
  | with_reducible intro b)
 all_goals first
 | (exfalso;omega)
 | ((first | exact fin_ | refine finq_ ?_))
theorem eqc0_dc  (F:Own):(True)->DC Tryz.prog 110 [.sl [], .sl [], .fn (.func 111) [] []] (([]:Own)++F) fun d G=>d = .bool true/\G=[]++F:=by
 intro hA
 refine DC.bodyS (n_:=32) (show Tryz.prog.funcs[110]? = some Tryz.f110 by kernel_rfl) rfl rfl (by rfl) ?_
 simp only [env0,List.cons_append,List.nil_append]
 have kw:=ksIs [0,1,2,6,7,8,9,14,15,16,17,18,30]
 have ow:=ownIs []
 repeat' (first
  | ((with_reducible refine DW.loopB 0 (X:=Nat) (fun x=>x<=0) (fun x=>[(1, .sl []),(2, .fn (.func 111) [] []),(15, .sl []),(16, .int .i64 0),(17, .int .i64 x)]) (fun x=>([]:Own)) (fun x=>0 - x) (0) ?_ ?_ ?_);exact (Nat.zero_le _);(simp [Sub,get,keepL]<;>fail);(try simp only [List.cons_append,List.nil_append]);refine pl_ ?_;intro k hk;(try simp only [List.cons_append,List.nil_append]))
  | refine g_ ?_
  | ((with_reducible refine And.intro ?_ ?_);(exact sv))
  | (refine DW.cond (by rfl) ?_ ?_<;>(first | exact i0_ | (refine ic_ ?_;intro hb)))
  | ((with_reducible refine FVg_cases ?_ ?_)<;>(intro hb;rw [hb];revert hb;(first | exact i0_ | (refine i_ ?_;intro hb))))
  | refine r_ ?_
  | refine k_ ?_
  | refine o_ ?_
  | refine f_ ?_
  | with_reducible intro b)
 all_goals first
 | (exfalso;omega)
 | ((first | exact fin_ | refine finq_ ?_))
theorem tsame0_dc  (F:Own):(True)->DC Tryz.prog 40 [.agg [.sl [], .sl [], .sl [], .sl []], .agg [.sl [], .sl [], .sl [], .sl []]] (([]:Own)++F) fun d G=>d = .bool true/\G=[]++F:=by
 intro hA
 refine DC.bodyS (n_:=31) (show Tryz.prog.funcs[40]? = some Tryz.f40 by kernel_rfl) rfl rfl (by rfl) ?_
 simp only [env0,List.cons_append,List.nil_append]
 have kw:=ksIs [0,1,2,3,4]
 have ow:=ownIs []
 repeat' (first
  | refine g_ ?_
  | ((with_reducible refine And.intro ?_ ?_);(exact sv))
  | (refine DW.cond (by rfl) ?_ ?_<;>(first | exact i0_ | (refine ic_ ?_;intro hb)))
  | ((with_reducible refine FVg_cases ?_ ?_)<;>(intro hb;rw [hb];revert hb;(first | exact i0_ | (refine i_ ?_;intro hb))))
  | refine r_ ?_
  | refine k_ ?_
  | (refine q_ (eqd0_dc _) ?_)
  | (refine q_ (eqf0_dc _) ?_)
  | (refine q_ (eqr0_dc _) ?_)
  | (refine q_ (eqc0_dc _) ?_)
  | refine o_ ?_
  | refine f_ ?_
  | with_reducible intro b)
 (first | exact fin_ | refine finq_ ?_)
 all_goals rfl
theorem messages_dc (t p:List UInt8) (q:Int) (r:Bool) (t2 p2:List UInt8) (q2:Int) (r2:Bool) (F:Own):(True)->DC Tryz.prog 62 [.agg [.str t, .sl (p.map u8), .int .i64 q, .bool r], .agg [.str t2, .sl (p2.map u8), .int .i64 q2, .bool r2]] (([]:Own)++F) fun d G=>d = .bool (t==t2&&p==p2&&q==q2&&r==r2)/\G=[]++F:=by
 intro hA
 refine DC.bodyS (n_:=31) (show Tryz.prog.funcs[62]? = some Tryz.f62 by kernel_rfl) rfl rfl (by rfl) ?_
 simp only [env0,List.cons_append,List.nil_append]
 have kw:=ksIs [0,1,2,3,4]
 have ow:=ownIs []
 repeat' (first
  | refine g_ ?_
  | ((with_reducible refine And.intro ?_ ?_);(exact sv))
  | (refine DW.cond (by rfl) ?_ ?_<;>(first | exact i0_ | (refine ic_ ?_;intro hb)))
  | ((with_reducible refine FVg_cases ?_ ?_)<;>(intro hb;rw [hb];revert hb;(first | exact i0_ | (refine i_ ?_;intro hb))))
  | refine r_ ?_
  | refine k_ ?_
  | (refine q_ (eqb_dc _ _ _) ?_)
  | refine o_ ?_
  | refine f_ ?_
  | with_reducible intro b)
 all_goals
  refine ⟨_,_,le.of_eq ?_,⟨rfl,rfl⟩,SubP.refl⟩
  simp_all
theorem wild_dc (r:Int) (F:Own):(True)->DC Tryz.prog 126 [.int .i32 r] (([]:Own)++F) fun d G=>d = .bool (r==43||r==35)/\G=[]++F:=by
 intro hA
 refine DC.bodyS (n_:=9) (show Tryz.prog.funcs[126]? = some Tryz.f126 by kernel_rfl) rfl rfl (by rfl) ?_
 simp only [env0,List.cons_append,List.nil_append]
 have kw:=ksIs [0,2]
 have ow:=ownIs []
 repeat' (first
  | refine g_ ?_
  | ((with_reducible refine And.intro ?_ ?_);(exact sv))
  | (refine DW.cond (by rfl) ?_ ?_<;>(first | exact i0_ | (refine ic_ ?_;intro hb)))
  | ((with_reducible refine FVg_cases ?_ ?_)<;>(intro hb;rw [hb];revert hb;(first | exact i0_ | (refine i_ ?_;intro hb))))
  | refine r_ ?_
  | refine k_ ?_
  | refine o_ ?_
  | refine f_ ?_
  | with_reducible intro b)
 all_goals
  refine ⟨_,_,le.of_eq ?_,⟨rfl,rfl⟩,SubP.refl⟩
  simp_all
section
attribute [local push_cast 2000] u8
theorem decode1_dc (c:UInt8) (l:List UInt8) (F:Own):(c.toNat<128/\l.length<=1000000000000)->DC Tryz.prog 221 [.sl (.int .u8 (c.toNat:Int)::l.map u8)] (([]:Own)++F) fun d G=>d = .tup [.int .i32 (c.toNat:Int), .int .i64 1]/\G=[]++F:=by
 intro hA
 obtain ⟨hc,hl⟩:=hA
 refine DC.bodyS (n_:=22) (show Tryz.prog.funcs[221]? = some Tryz.f221 by kernel_rfl) rfl rfl (by rfl) ?_
 simp only [env0,List.cons_append,List.nil_append]
 have kw:=ksIs [0,2,3,5,6,7,8,9,13]
 have ow:=ownIs []
 repeat' (first
  | ((with_reducible refine DW.loopB 0 (X:=Nat) (fun x=>x<=0) (fun x=>[(0, .sl (.int .u8 (c.toNat:Int)::l.map u8)),(6, .sl (.int .u8 (c.toNat:Int)::l.map u8)),(7, .int .i64 ((l.length:Int)+1)),(8, .int .i64 x)]) (fun x=>([]:Own)) (fun x=>0 - x) (0) ?_ ?_ ?_);exact (Nat.zero_le _);(simp [Sub,get,keepL]<;>fail);(try simp only [List.cons_append,List.nil_append]);refine pl_ ?_;intro k hk;(try simp only [List.cons_append,List.nil_append]);obtain rfl:k=0:=by omega)
  | refine g_ ?_
  | ((with_reducible refine And.intro ?_ ?_);(exact sv))
  | (refine DW.cond (by rfl) ?_ ?_<;>(first | exact i0_ | (refine ic_ ?_;intro hb)))
  | ((with_reducible refine FVg_cases ?_ ?_)<;>(intro hb;rw [hb];revert hb;(first | exact i0_ | (refine i_ ?_;intro hb))))
  | refine r_ ?_
  | refine k_ ?_
  | refine o_ ?_
  | refine f_ ?_
  | with_reducible intro b)
 all_goals first
 | ((first | exact fin_ | refine finq_ ?_);done)
 | (trivial)
end
end
section
attribute [local irreducible] DW SeqD DV DOp DC DVX
theorem decode97_dc (F:Own):True->DC Tryz.prog 221 [.sl [.int .u8 97]] (([]:Own)++F) fun d G=>d = .tup [.int .i32 97, .int .i64 1]/\G=[]++F:=fun _=>decode1_dc 97 [] F ⟨by decide,by decide⟩
theorem in1_dc (v a b:Int) (F:Own):(a<=v/\v<=b)->DC Tryz.prog 61 [.int .i64 v, .int .i64 a, .int .i64 b] (([]:Own)++F) fun d G=>d = .bool true/\G=[]++F:=fun h=>(in_dc v a b F trivial).mono fun d G g=>by
 rw [decide_eq_true h.1,decide_eq_true h.2] at g;exact g
theorem in0_dc (v a b:Int) (F:Own):(v<a)->DC Tryz.prog 61 [.int .i64 v, .int .i64 a, .int .i64 b] (([]:Own)++F) fun d G=>d = .bool false/\G=[]++F:=fun h=>(in_dc v a b F trivial).mono fun d G g=>by
 rw [decide_eq_false (show ¬ a<=v by omega)] at g;exact g
theorem ne_a:(([97]:List UInt8)==[])=false:=rfl
theorem eq_aa:(([97]:List UInt8)==[97])=true:=rfl
theorem check1_dc  (F:Own):(True)->DC Tryz.prog 182 [.sl [.int .u8 97]] (([]:Own)++F) fun d G=>d = .int .i64 (-1)/\G=[]++F:=by
 intro hA
 refine DC.bodyS (n_:=34) (show Tryz.prog.funcs[182]? = some Tryz.f182 by kernel_rfl) rfl rfl (by rfl) ?_
 simp only [env0,List.cons_append,List.nil_append]
 have kw:=ksIs [0,2,3,4,5,9,29]
 have ow:=ownIs []
 repeat' (first
  | ((with_reducible refine DW.loopB 0 (X:=Nat) (fun x=>x<=1) (fun x=>[(0, .sl [.int .u8 97]),(3, .int .i64 x)]) (fun x=>([]:Own)) (fun x=>1 - x) (0) ?_ ?_ ?_);exact (Nat.zero_le _);(simp [Sub,get,keepL]<;>fail);(try simp only [List.cons_append,List.nil_append]);refine pl_ ?_;intro k hk;(try simp only [List.cons_append,List.nil_append]);rcases (show k=0\/k=1 by omega) with rfl | rfl)
  | refine g_ ?_
  | ((with_reducible refine And.intro ?_ ?_);(exact sv))
  | (refine DW.cond (by rfl) ?_ ?_<;>(first | exact i0_ | (refine ic_ ?_;intro hb)))
  | ((with_reducible refine FVg_cases ?_ ?_)<;>(intro hb;rw [hb];revert hb;(first | exact i0_ | (refine i_ ?_;intro hb))))
  | refine r_ ?_
  | refine k_ ?_
  | (refine q_ (decode97_dc _) ?_)
  | refine o_ ?_
  | refine f_ ?_
  | with_reducible intro b)
 all_goals first
 | (refine ⟨1,?_,?_,?_,?_⟩;(((try simp only);omega));(((try simp only);omega));(simp [Sub,get]<;>(fail));(try dsimp only);(exact sub_);done)
 | ((first | exact fin_ | refine finq_ ?_);done)
 | (exfalso;omega)
 | (exfalso;simp_all)
section
attribute [local push_cast 2000] ne_a
theorem text1_dc  (F:Own):(True)->DC Tryz.prog 127 [.str [97]] (([]:Own)++F) fun d G=>d = .bool true/\G=[]++F:=by
 intro hA
 refine DC.bodyS (n_:=16) (show Tryz.prog.funcs[127]? = some Tryz.f127 by kernel_rfl) rfl rfl (by rfl) ?_
 simp only [env0,List.cons_append,List.nil_append]
 have kw:=ksIs [0,2]
 have ow:=ownIs []
 repeat' (first
  | refine g_ ?_
  | ((with_reducible refine And.intro ?_ ?_);(exact sv))
  | (refine DW.cond (by rfl) ?_ ?_<;>(first | exact i0_ | (refine ic_ ?_;intro hb)))
  | ((with_reducible refine FVg_cases ?_ ?_)<;>(intro hb;rw [hb];revert hb;(first | exact i0_ | (refine i_ ?_;intro hb))))
  | refine r_ ?_
  | refine k_ ?_
  | (refine q_ (check1_dc _) ?_)
  | refine o_ ?_
  | refine f_ ?_
  | with_reducible intro b)
 all_goals first
 | (exact absurd trivial hb)
 | ((first | exact fin_ | refine finq_ ?_);done)
end
section
attribute [local push_cast 2000] rune_a wide_a
theorem name1_dc  (F:Own):(True)->DC Tryz.prog 64 [.str [97]] (([]:Own)++F) fun d G=>d = .bool true/\G=[]++F:=by
 intro hA
 refine DC.bodyS (n_:=14) (show Tryz.prog.funcs[64]? = some Tryz.f64 by kernel_rfl) rfl rfl (by rfl) ?_
 simp only [env0,List.cons_append,List.nil_append]
 have kw:=ksIs [0,2,4,6,7,8,11]
 have ow:=ownIs []
 repeat' (first
  | ((with_reducible refine DW.loopB 0 (X:=Nat) (fun x=>x<=1) (fun x=>[(0, .str [97]),(6, .raw (.pointer (some ⟨b,0,none⟩)))]) (fun x=>.siter b [97] x::([]:Own)) (fun x=>1 - x) (0) ?_ ?_ ?_);exact (Nat.zero_le _);(simp [Sub,get,keepL]<;>fail);(try simp only [List.cons_append,List.nil_append]);refine pl_ ?_;intro k hk;(try simp only [List.cons_append,List.nil_append]);rcases (show k=0\/k=1 by omega) with rfl | rfl)
  | refine g_ ?_
  | ((with_reducible refine And.intro ?_ ?_);(exact sv))
  | (refine DW.cond (by rfl) ?_ ?_<;>(first | exact i0_ | (refine ic_ ?_;intro hb)))
  | ((with_reducible refine FVg_cases ?_ ?_)<;>(intro hb;rw [hb];revert hb;(first | exact i0_ | (refine i_ ?_;intro hb))))
  | ((refine Both.imp ?_ ?_)<;>(first | exact i0_ | (refine i_ ?_;intro hb)))
  | refine r_ ?_
  | refine k_ ?_
  | (refine q_ (wild_dc _ _) ?_)
  | (refine q_ (text1_dc _) ?_)
  | refine o_ ?_
  | refine f_ ?_
  | with_reducible intro b)
 all_goals first
 | (exfalso;simp at hb)
 | (refine ⟨1,?_,?_,?_,?_⟩;(((try simp only);omega));(((try simp only);omega));(simp [Sub,get]<;>(fail));(try dsimp only);(exact sub_);done)
 | ((first | exact fin_ | refine finq_ ?_);done)
 | (exfalso;simp_all)
end
theorem right1_dc (fr ep at_ seq q:Int) (p:List UInt8) (F:Own):((0<=fr/\fr<=15)/\(1<=ep/\ep<=2147483647)/\(0<=at_/\at_<=1099511627776)/\(1<=seq/\seq<=2147483647)/\(0<=q/\q<=2))->DC Tryz.prog 18 [.agg [.int .i64 3, .int .i64 fr, .int .i64 ep, .int .i64 at_, .sl [], .sl [], .sl [], .sl [], .sl [], .sl [], .int .i64 seq, .str [97], .sl (p.map u8), .int .i64 q, .bool false]] (([]:Own)++F) fun d G=>d = .bool true/\G=[]++F:=by
 intro hA
 obtain ⟨h1,h2,h3,h4,h5⟩:=hA
 refine DC.bodyS (n_:=104) (show Tryz.prog.funcs[18]? = some Tryz.f18 by kernel_rfl) rfl rfl (by rfl) ?_
 simp only [env0,List.cons_append,List.nil_append]
 have kw:=ksIs [0,1,2,3,4,5,21,46,47,64,75]
 have ow:=ownIs []
 have dw3:=drIs 3 [] [1,6,11,13,15,19,21]
 repeat' (first
  | refine g_ ?_
  | ((with_reducible refine And.intro ?_ ?_);(exact sv))
  | (refine DW.cond (by rfl) ?_ ?_<;>(first | exact i0_ | (refine ic_ ?_;intro hb)))
  | ((with_reducible first | refine FVg_cases ?_ ?_ | refine FDg_cases ?_ ?_)<;>(intro hb;rw [hb];revert hb;(first | exact i0_ | (refine i_ ?_;intro hb))))
  | refine r_ ?_
  | refine d_ ?_
  | refine k_ ?_
  | ((refine dm_ ?_);(first | (refine v_ (in1_dc _ _ _ _) ?_) | (refine v_ (tsame0_dc _) ?_) | (refine v_ (name1_dc _) ?_)))
  | refine vo_ ?_
  | (refine q_ (in1_dc _ _ _ _) ?_)
  | (refine q_ (tsame0_dc _) ?_)
  | (refine q_ (name1_dc _) ?_)
  | refine o_ ?_
  | refine f_ ?_
  | refine vm_ ?_
  | with_reducible intro b)
 all_goals first
 | ((first | exact fin_ | refine finq_ ?_);done)
 | (exfalso;omega)
theorem right0_dc  (F:Own):(True)->DC Tryz.prog 18 [.agg [.int .i64 0, .int .i64 0, .int .i64 0, .int .i64 0, .gs (.slice none 0 0) [], .gs (.slice none 0 0) [], .gs (.slice none 0 0) [], .gs (.slice none 0 0) [], .gs (.slice none 0 0) [], .gs (.slice none 0 0) [], .int .i64 0, .str [], .gs (.slice none 0 0) [], .int .i64 0, .bool false]] (([]:Own)++F) fun d G=>d = .bool false/\G=[]++F:=by
 intro hA
 refine DC.bodyS (n_:=104) (show Tryz.prog.funcs[18]? = some Tryz.f18 by kernel_rfl) rfl rfl (by rfl) ?_
 simp only [env0,List.cons_append,List.nil_append]
 have kw:=ksIs [0,1,2,3,4,5,21,46,47,64,75]
 have ow:=ownIs []
 have dw3:=drIs 3 [] [1,6,11,13,15,19,21]
 repeat' (first
  | refine g_ ?_
  | ((with_reducible refine And.intro ?_ ?_);(exact sv))
  | (refine DW.cond (by rfl) ?_ ?_<;>(first | exact i0_ | (refine ic_ ?_;intro hb)))
  | ((with_reducible first | refine FVg_cases ?_ ?_ | refine FDg_cases ?_ ?_)<;>(intro hb;rw [hb];revert hb;(first | exact i0_ | (refine i_ ?_;intro hb))))
  | refine r_ ?_
  | refine d_ ?_
  | refine k_ ?_
  | ((refine dm_ ?_);(first | (refine v_ (in1_dc _ _ _ _) ?_) | (refine v_ (in0_dc _ _ _ _) ?_)))
  | refine vo_ ?_
  | (refine q_ (in1_dc _ _ _ _) ?_)
  | (refine q_ (in0_dc _ _ _ _) ?_)
  | refine o_ ?_
  | refine f_ ?_
  | refine vm_ ?_
  | with_reducible intro b)
 (first | exact fin_ | refine finq_ ?_)
 all_goals rfl
end
section
attribute [local irreducible] DW SeqD DV DOp DC DVX
def restF (fr ep at_ seq q:Int) (p z:List UInt8):List UInt8:=leK 8 fr++(leK 8 ep++(leK 8 at_++(leK 8 seq++((leK 8 1++[97])++((leK 8 p.length++p)++(leK 8 q++z))))))
def headF:List UInt8:=[72,66,49,3]
theorem head_len:headF.length=4:=rfl
def bodyF (fr ep at_ seq q:Int) (p:List UInt8):List UInt8:=headF++restF fr ep at_ seq q p []
def fullF (fr ep at_ seq q:Int) (p:List UInt8):List UInt8:=bodyF fr ep at_ seq q p++leK 8 (fnvV (bodyF fr ep at_ seq q p))
theorem body_len (fr ep at_ seq q:Int) (p:List UInt8):(bodyF fr ep at_ seq q p).length=61+p.length:=by
 simp only [bodyF,headF,restF,List.length_append,leK_len,List.length_cons,List.length_nil];omega
theorem full_len (fr ep at_ seq q:Int) (p:List UInt8):(fullF fr ep at_ seq q p).length=69+p.length:=by
 simp only [fullF,List.length_append,leK_len,body_len];omega
theorem numbersH_dc (v:Value) (x y z:Int) (F:Own):((0<=x/\x<=9223372036854775807)/\(0<=y/\y<=9223372036854775807)/\(0<=z/\z<=9223372036854775807))->DC Tryz.prog 50 [.gs v [.int .u8 72, .int .u8 66, .int .u8 49, .int .u8 3], .sl [.int .i64 x, .int .i64 y, .int .i64 z]] ([.tail 1 v]++F) fun d G=>∃ v1,d = .gs v1 ((headF++(leK 8 x++(leK 8 y++leK 8 z))).map u8)/\G = .tail 1 v1::F:=fun h =>
 numbers3_dc v headF x y z F ⟨by decide,h⟩
theorem u83:IntKind.u8.wrap 3=3:=by decide
theorem sv_putf_dc {p:Prop} (h:p:=by first | exact sv | (simp [u8,V.one];omega) | (simp [u8,V.one]<;>fail) | (refine ⟨?_,?_,?_⟩<;>first | omega | (simp [leK_len,head_len]<;>omega)) | (refine ⟨?_,?_⟩<;>first | omega | (simp [leK_len,head_len]<;>omega)) | (simp [leK_len,head_len]<;>omega) | fail):p:=h
section
attribute [local push_cast 2000] V.sl.injEq forall_eq' u83 head_len byteOf_map isU8_map leK_len
theorem putf_dc (fr ep at_ seq q:Int) (p:List UInt8) (F:Own):(((0<=fr/\fr<=15)/\(1<=ep/\ep<=2147483647)/\(0<=at_/\at_<=1099511627776)/\(1<=seq/\seq<=2147483647)/\(0<=q/\q<=2))/\p.length<=999999990000)->DC Tryz.prog 16 [.agg [.int .i64 3, .int .i64 fr, .int .i64 ep, .int .i64 at_, .sl [], .sl [], .sl [], .sl [], .sl [], .sl [], .int .i64 seq, .str [97], .sl (p.map u8), .int .i64 q, .bool false]] (([]:Own)++F) fun d G=>((fullF fr ep at_ seq q p).length<=1048576/\∃ v1,d = .tup [.gs v1 ((fullF fr ep at_ seq q p).map u8), .int .i64 0]/\G = .tail 1 v1::F)\/(1048576<(fullF fr ep at_ seq q p).length/\d = .tup [.gs (.slice none 0 0) [], .int .i64 22]/\G=F):=by
 intro hA
 obtain ⟨⟨h1,h2,h3,h4,h5⟩,hp⟩:=hA
 refine DC.bodyS (n_:=86) (show Tryz.prog.funcs[16]? = some Tryz.f16 by kernel_rfl) rfl rfl (by rfl) ?_
 simp only [env0,List.cons_append,List.nil_append]
 have kw:=ksIs [0,1,2,3,4,6,9,26,27,36,37,38,39,50,56,84]
 have ow:=ownIs [10,11]
 have dw3:=drIs 3 [0,1,6,14] []
 have dw16:=drIs 16 [4,8,13,18] [2]
 have hfl:=full_len fr ep at_ seq q p;have hfb:=fnv_b (bodyF fr ep at_ seq q p)
 repeat' (first
  | refine g_ ?_
  | ((with_reducible refine And.intro ?_ ?_);(exact sv_putf_dc))
  | (refine DW.cond (by rfl) ?_ ?_<;>(first | exact i0_ | (refine ic_ ?_;intro hb)))
  | ((with_reducible first | refine FVg_cases ?_ ?_ | refine FDg_cases ?_ ?_)<;>(intro hb;rw [hb];revert hb;(first | exact i0_ | (refine i_ ?_;intro hb))))
  | refine r_ ?_
  | refine d_ ?_
  | refine k_ ?_
  | ((refine dm_ ?_);(first | ((first | refine v_ (right1_dc _ _ _ _ _ _ _) ?_ (ha:=by exact sv_putf_dc) | refine v_ (fnv_dc _ _) ?_ (ha:=by exact sv_putf_dc)))))
  | refine vo_ ?_
  | ((first | refine q_ (right1_dc _ _ _ _ _ _ _) ?_ (ha:=by exact sv_putf_dc) | refine q_ (fnv_dc _ _) ?_ (ha:=by exact sv_putf_dc)))
  | (refine p_ (numbersH_dc _ _ _ _ _) ?_ (ha:=by exact sv_putf_dc);rintro d H1 ⟨v1,rfl,rfl⟩<;>refine s_ ?_)
  | ((first | refine p_ (number_dc _ _ _ _) ?_ (ha:=by exact sv_putf_dc) | refine p_ (numbers1_dc _ _ _ _) ?_ (ha:=by exact sv_putf_dc) | refine p_ (text_dc _ _ _ _) ?_ (ha:=by exact sv_putf_dc));rintro d H1 ⟨v1,rfl,rfl⟩<;>refine s_ ?_)
  | refine o_ ?_
  | refine f_ ?_
  | refine vm_ ?_
  | with_reducible intro b)
 all_goals first
 | (refine ⟨_,_,le.rfl_, .inr ⟨by omega,rfl,rfl⟩,?_⟩;(exact sub_);done)
 | (refine ⟨_,_,le.of_eq ?_, .inl ⟨by omega,v1,rfl,rfl⟩,SubP.refl⟩;simp [fullF,bodyF,restF,List.append_assoc];done)
end
end
end Go.Proofs.YtbmbcjmgjdnlnaaGreatDoor
