/- Frames as bytes; what becomes of one whose byte is turned. No statement of the program. -/
import Derived.Test.YtbmbcjmgjdnlnaaGreatDoorFm1x
import Derived.Test.YtbmbcjmgjdnlnaaGreatDoorTbx
import Derived.Test.YtbmbcjmgjdnlnaaGreatDoorEu
import Derived.KernelRfl
namespace Go.Proofs.YtbmbcjmgjdnlnaaGreatDoor
open Go.RowKit
set_option linter.unusedSimpArgs false
set_option linter.unusedVariables false
set_option linter.unusedSectionVars false
section
structure TFrame where
 kind:Int
 fr:Int
 ep:Int
 at_:Int
 sums:List Int
 seen:List TDot
 tab:TTable
 seq:Int
 topic:Str
 payload:Str
 qos:Int
 retain:Bool
 deriving DecidableEq,Inhabited
def dotBy (d:TDot):Str:=numsL [d.node,d.epoch,d.n]
def flatBy {α:Type} (f:α->Str) (l:List α):Str:=(l.map f).flatten
def dotsBy (l:List TDot):Str:=numsL [(l.length:Int)]++flatBy dotBy l
def fenceBy (f:TFence):Str:=numsL [f.node,f.epoch]
def textBy (t:Str):Str:=numsL [(t.length:Int)]++t
def routeBy (r:TRoute):Str:=numsL [r.dot.node,r.dot.epoch,r.dot.n]++textBy r.filter
def goneI (b:Bool):Int:=if b=true then 1 else 0
def cellBy (c:TCell):Str:=numsL [c.dot.node,c.dot.epoch,c.dot.n,c.stamp.l,c.stamp.c,c.stamp.node]++textBy c.topic++textBy c.payload++numsL [c.qos,goneI c.gone]
def tableBy (t:TTable):Str:=dotsBy t.seen++numsL [(t.fences.length:Int)]++flatBy fenceBy t.fences++numsL [(t.routes.length:Int)]++flatBy routeBy t.routes++numsL [(t.cells.length:Int)]++flatBy cellBy t.cells
def sumBy (x:Int):Str:=leK 8 x
def restBy (f:TFrame):Str :=
 if f.kind=1 then numsL [(f.sums.length:Int)]++flatBy sumBy f.sums++dotsBy f.seen
 else if f.kind=2 then tableBy f.tab
 else numsL [f.seq]++textBy f.topic++textBy f.payload++numsL [f.qos]
def headBy (f:TFrame):Str:=[72,66,49,byteI f.kind]++numsL [f.fr,f.ep,f.at_]
def bodyBy (f:TFrame):Str:=headBy f++restBy f
def fullBy (f:TFrame):Str:=bodyBy f++leK 8 (fnvV (bodyBy f))
def wordB (f:TFrame):Bool:=decide (f.seq=0)&&decide (f.topic=[])&&decide (f.payload=[])&&decide (f.qos=0) && !f.retain
def frameB (f:TFrame):Bool :=
 decide (0<=f.fr)&&decide (f.fr<16)&&decide (1<=f.ep)&&decide (f.ep<=2147483647)&&decide (0<=f.at_)&&decide (f.at_<=1099511627776) &&
 (if f.kind=1 then decide (f.sums.length=10)&&rightB f.seen&&decide (f.tab=emptyT)&&wordB f
  else if f.kind=2 then decide (f.sums=[])&&decide (f.seen=[])&&tabB f.tab&&wordB f
  else if f.kind=3 then decide (f.sums=[])&&decide (f.seen=[])&&decide (f.tab=emptyT)&&decide (1<=f.seq)&&decide (f.seq<=2147483647)&&nameB f.topic&&decide (0<=f.qos)&&decide (f.qos<=2) && !f.retain
  else false)
theorem flatBy_len {α:Type} {f:α->Str} {n:Nat}:∀ {l:List α},(∀ x∈l,(f x).length=n)->(flatBy f l).length=n * l.length
 | [],_=>rfl
 | x::l,h=>by
  have:=flatBy_len (f:=f) (n:=n) (l:=l) (fun y hy=>h y (List.mem_cons_of_mem _ hy))
  simp only [flatBy,List.map_cons,List.flatten_cons,List.length_append,List.length_cons] at this ⊢
  rw [this,h x (List.mem_cons_self ..),Nat.mul_add];omega
theorem flatBy_le {α:Type} {f:α->Str} {n:Nat}:∀ {l:List α},(∀ x∈l,(f x).length<=n)->(flatBy f l).length<=n * l.length
 | [],_=>Nat.zero_le _
 | x::l,h=>by
  have:=flatBy_le (f:=f) (n:=n) (l:=l) (fun y hy=>h y (List.mem_cons_of_mem _ hy))
  have h1:=h x (List.mem_cons_self ..)
  simp only [flatBy,List.map_cons,List.flatten_cons,List.length_append,List.length_cons] at this ⊢
  rw [Nat.mul_add];omega
theorem flatBy_snoc {α:Type} (f:α->Str) (l:List α) (x:α):flatBy f (l++[x])=flatBy f l++f x:=by simp [flatBy]
theorem flatBy_next {α:Type} [Inhabited α] (f:α->Str) {l:List α} {k:Nat} (h:k<l.length):flatBy f (l.take (k+1))=flatBy f (l.take k)++f (l.getD k default):=by rw [take_more l k h,flatBy_snoc]
theorem textBy_len (t:Str):(textBy t).length=8+t.length:=by simp [textBy,numsL_len]
theorem dotBy_len (d:TDot):(dotBy d).length=24:=numsL_len _
theorem fenceBy_len (d:TFence):(fenceBy d).length=16:=numsL_len _
theorem routeBy_len (r:TRoute):(routeBy r).length=32+r.filter.length:=by simp [routeBy,numsL_len,textBy_len];omega
theorem cellBy_len (c:TCell):(cellBy c).length=80+c.topic.length+c.payload.length:=by simp [cellBy,numsL_len,textBy_len];omega
theorem dotsBy_len (l:List TDot):(dotsBy l).length=8+24 * l.length:=by
 rw [dotsBy,List.length_append,numsL_len,flatBy_len (n:=24) (fun x _=>dotBy_len x)];rfl
theorem headBy_len (f:TFrame):(headBy f).length=28:=by simp [headBy,numsL_len]
theorem fullBy_len (f:TFrame):(fullBy f).length=36+(restBy f).length:=by simp only [fullBy,bodyBy,List.length_append,headBy_len,leK_len];omega
def valL:Str->Int
 | []=>0
 | c::s=>c.toNat+256 * valL s
theorem shK_shift (x:Int):∀ k,shK (k+1) x=shK k (x.fdiv 256)
 | 0=>rfl
 | k+1=>by
  have:=shK_shift x k
  show (shK (k+1) x).fdiv _=(shK k (x.fdiv 256)).fdiv _
  rw [this]
theorem leK_cons (k:Nat) (x:Int):leK (k+1) x=byteI x::leK k (x.fdiv 256):=by
 simp only [leK,List.range_succ_eq_map,List.map_cons,List.map_map]
 congr 1
 apply List.map_congr_left
 intro i _
 show byteI (shK (i+1) x)=_
 rw [shK_shift]
theorem leK_val:∀ s:Str,leK s.length (valL s)=s/\0<=valL s/\valL s<256 ^ s.length
 | []=>⟨rfl,by decide,by decide⟩
 | c::s=>by
  obtain ⟨h1,h2,h3⟩:=leK_val s
  have hc:=c.toNat_lt
  have e:(valL (c::s)).fdiv 256=valL s:=by
   rw [Int.fdiv_eq_ediv_of_nonneg _ (by decide)]
   show (c.toNat+256 * valL s) / 256=_
   omega
  refine ⟨?_,?_,?_⟩
  · rw [List.length_cons,leK_cons,e,h1]
    congr 1
    unfold byteI
    have:((valL (c::s))%256).toNat=c.toNat:=by
     show ((c.toNat+256 * valL s:Int)%256).toNat=_
     omega
    rw [this];exact UInt8.ofNat_toNat
  · show 0<=(c.toNat:Int)+256 * valL s;omega
  · show (c.toNat:Int)+256 * valL s<256 ^ (s.length+1)
    rw [Int.pow_succ];omega
theorem val_8 {s:Str} (h:s.length=8):leK 8 (valL s)=s/\0<=valL s/\valL s<=18446744073709551615:=by
 obtain ⟨h1,h2,h3⟩:=leK_val s
 rw [h] at h1 h3
 have e:(256:Int) ^ 8=18446744073709551616:=by decide
 exact ⟨h1,h2,by omega⟩
end
section
set_option maxHeartbeats 4000000
set_option maxRecDepth 100000
attribute [local irreducible] DW SeqD DV DOp DC DVX
theorem shK_div (x:Int):∀ k,shK k x=x / 2 ^ (8 * k)
 | 0=>by simp [shK]
 | k+1=>by
  show (shK k x).fdiv (2 ^ min 8 IntKind.u64.bits)=_
  rw [shK_div x k,show ((2:Int) ^ min 8 IntKind.u64.bits)=256 from rfl,Int.fdiv_eq_ediv_of_nonneg _ (by decide),Int.ediv_ediv_of_nonneg (Int.pow_nonneg (by decide)),Nat.mul_add,Int.pow_add]
  rfl
theorem sh_at (x:Int) {k:Nat} (h:k<8):x.fdiv (2 ^ min (8 * (k:Int)).toNat IntKind.u64.bits)=shK k x:=by
 rw [shK_div,show (8 * (k:Int)).toNat=8 * k by omega,show min (8 * k) IntKind.u64.bits=8 * k from Nat.min_eq_left (by show 8 * k<=64;omega),Int.fdiv_eq_ediv_of_nonneg _ (Int.pow_nonneg (by decide))]
theorem sv_eight_dc {p:Prop} (h:p:=by first | exact sv | (simp [u8,V.one,V.n];omega) | (simp [u8,V.one,V.n]<;>fail) | (simp only [List.length_append,leK_len,numsL_len];omega) | (simp only [List.length_append,leK_len,numsL_len,textBy_len,List.length_map,List.length_cons,List.length_nil]<;>omega) | fail):p:=h
section
attribute [local push_cast 2000] cells_cons cells_nil sh_at
theorem eight_dc (v:Value) (n:Nat) (l:List UInt8) (q:Int) (F:Own):(n=l.length/\l.length<=1000000000000)->DC Tryz.prog 57 [.ar v n, .int .u64 q] ([.arr 1 v ((l).map u8)]++F) fun d G=>∃ v1,d = .ar v1 (n+8)/\G = .arr 1 v1 ((l++leK 8 q).map u8)::F:=by
 intro hA
 obtain ⟨hn,hl⟩:=hA
 refine DC.bodyS (n_:=19) (show Tryz.prog.funcs[57]? = some Tryz.f57 by kernel_rfl) rfl rfl (by rfl) ?_
 simp only [env0,leK_0,List.append_nil,Nat.add_zero,List.cons_append,List.nil_append]
 have kw:=ksIs [0,1,4,5,7]
 have ow:=ownIs []
 repeat' (first
  | ((with_reducible refine DW.loopB 0 (X:=Nat×Value) (fun x=>x.1<=8) (fun x=>[(0, .ar x.2 (n+x.1)),(1, .int .u64 q),(5, .int .i64 x.1)]) (fun x=>.arr 1 x.2 ((l++leK x.1 q).map u8)::([]:Own)) (fun x=>8 - x.1) ((0,v)) ?_ ?_ ?_);exact (Nat.zero_le _);(simp [Sub,get,keepL,leK_0]<;>fail);(try simp only [leK_0,List.append_nil,Nat.add_zero,List.cons_append,List.nil_append]);refine pl_ ?_;intro ⟨k,y⟩ hk;(try simp only [leK_0,List.append_nil,Nat.add_zero,List.cons_append,List.nil_append]);simp only at hk)
  | refine g_ ?_
  | ((with_reducible refine And.intro ?_ ?_);(exact sv_eight_dc))
  | (refine DW.cond (by rfl) ?_ ?_<;>(first | exact i0_ | (refine ic_ ?_;intro hb)))
  | ((with_reducible refine FVg_cases ?_ ?_)<;>(intro hb;rw [hb];revert hb;(first | exact i0_ | (refine i_ ?_;intro hb))))
  | refine r_ ?_
  | refine k_ ?_
  | refine o_ ?_
  | refine f_ ?_
  | with_reducible intro b)
 all_goals first
 | (refine ⟨(k+1,b),?_,?_,?_,?_⟩;((try simp only);omega);((try simp only);omega);(simp [Sub,get,Nat.add_assoc]<;>fail);(simp only [leK_more,List.map_append,List.map_cons,List.map_nil,u8_byteI,List.append_assoc]);(exact sub_);done)
 | (have hk8:k=8:=by omega
    subst hk8
    refine ⟨_,_,le.rfl_,⟨y,rfl,rfl⟩,?_⟩;(exact sub_);done)
end
theorem sv_num_dc {p:Prop} (h:p:=by first | exact sv | (simp [u8,V.one,V.n];omega) | (simp [u8,V.one,V.n]<;>fail) | (simp only [List.length_append,leK_len,numsL_len];omega) | (simp only [List.length_append,leK_len,numsL_len,textBy_len,List.length_map,List.length_cons,List.length_nil]<;>omega) | fail):p:=h
section
attribute [local push_cast 2000] encJ
theorem num_dc (v:Value) (n:Nat) (l:List UInt8) (xs:List Int) (F:Own):(n=l.length/\l.length<=999999999000/\xs.length<=100)->DC Tryz.prog 56 [.ar v n, .sl (xs.map encJ)] ([.arr 1 v ((l).map u8)]++F) fun d G=>∃ v1,d = .ar v1 (n+8 * xs.length)/\G = .arr 1 v1 ((l++numsL xs).map u8)::F:=by
 intro hA
 obtain ⟨hn,hl,hx⟩:=hA
 refine DC.bodyS (n_:=20) (show Tryz.prog.funcs[56]? = some Tryz.f56 by kernel_rfl) rfl rfl (by rfl) ?_
 simp only [env0,numsL_nil,List.append_nil,Nat.add_zero,List.take_zero,Nat.mul_zero,List.cons_append,List.nil_append]
 have kw:=ksIs [0,1,4,5,9]
 have ow:=ownIs []
 repeat' (first
  | ((with_reducible refine DW.loopB 0 (X:=Nat×Value) (fun x=>x.1<=xs.length) (fun x=>[(0, .ar x.2 (n+8 * x.1)),(1, .sl (xs.map encJ)),(5, .int .i64 x.1)]) (fun x=>.arr 1 x.2 ((l++numsL (xs.take x.1)).map u8)::([]:Own)) (fun x=>xs.length - x.1) ((0,v)) ?_ ?_ ?_);exact (Nat.zero_le _);(simp [Sub,get,keepL,numsL_nil]<;>fail);(try simp only [numsL_nil,List.append_nil,Nat.add_zero,List.take_zero,Nat.mul_zero,List.cons_append,List.nil_append]);refine pl_ ?_;intro ⟨k,y⟩ hk;(try simp only [numsL_nil,List.append_nil,Nat.add_zero,List.take_zero,Nat.mul_zero,List.cons_append,List.nil_append]);simp only at hk;have hkl:=numsL_len (xs.take k);rw [List.length_take] at hkl)
  | refine g_ ?_
  | ((with_reducible refine And.intro ?_ ?_);(exact sv_num_dc))
  | (refine DW.cond (by rfl) ?_ ?_<;>(first | exact i0_ | (refine ic_ ?_;intro hb)))
  | ((with_reducible refine FVg_cases ?_ ?_)<;>(intro hb;rw [hb];revert hb;(first | exact i0_ | (refine i_ ?_;intro hb))))
  | refine r_ ?_
  | refine k_ ?_
  | (refine p_ (eight_dc _ _ _ _ _) ?_ (ha:=by exact sv_num_dc);rintro d H1 ⟨v1,rfl,rfl⟩<;>refine s_ ?_)
  | refine o_ ?_
  | refine f_ ?_
  | with_reducible intro b)
 all_goals first
 | (refine ⟨(k+1,v1),?_,?_,?_,?_⟩;((try simp only);omega);((try simp only);omega);(simp [Sub,get,Nat.mul_add,Nat.add_assoc]<;>fail);(simp only [numsL_next xs k (by omega),<-List.append_assoc]);(exact sub_);done)
 | (have hkx:k=xs.length:=by omega
    subst hkx
    rw [List.take_length]
    refine ⟨_,_,le.rfl_,⟨y,rfl,rfl⟩,?_⟩;(exact sub_);done)
end
theorem num1_dc (v:Value) (n:Nat) (l:List UInt8) (x:Int) (F:Own):(n=l.length/\l.length<=999999999000)->DC Tryz.prog 56 [.ar v n, .sl [.int .i64 x]] ([.arr 1 v ((l).map u8)]++F) fun d G=>∃ v1,d = .ar v1 (n+8)/\G = .arr 1 v1 ((l++numsL [x]).map u8)::F:=fun h=>num_dc v n l [x] F ⟨h.1,h.2,by simp⟩
theorem num2_dc (v:Value) (n:Nat) (l:List UInt8) (x y:Int) (F:Own):(n=l.length/\l.length<=999999999000)->DC Tryz.prog 56 [.ar v n, .sl [.int .i64 x, .int .i64 y]] ([.arr 1 v ((l).map u8)]++F) fun d G=>∃ v1,d = .ar v1 (n+16)/\G = .arr 1 v1 ((l++numsL [x,y]).map u8)::F:=fun h=>num_dc v n l [x,y] F ⟨h.1,h.2,by simp⟩
theorem num3_dc (v:Value) (n:Nat) (l:List UInt8) (x y z:Int) (F:Own):(n=l.length/\l.length<=999999999000)->DC Tryz.prog 56 [.ar v n, .sl [.int .i64 x, .int .i64 y, .int .i64 z]] ([.arr 1 v ((l).map u8)]++F) fun d G=>∃ v1,d = .ar v1 (n+24)/\G = .arr 1 v1 ((l++numsL [x,y,z]).map u8)::F:=fun h=>num_dc v n l [x,y,z] F ⟨h.1,h.2,by simp⟩
theorem num6_dc (v:Value) (n:Nat) (l:List UInt8) (x y z a b c:Int) (F:Own):(n=l.length/\l.length<=999999999000)->DC Tryz.prog 56 [.ar v n, .sl [.int .i64 x, .int .i64 y, .int .i64 z, .int .i64 a, .int .i64 b, .int .i64 c]] ([.arr 1 v ((l).map u8)]++F) fun d G=>∃ v1,d = .ar v1 (n+48)/\G = .arr 1 v1 ((l++numsL [x,y,z,a,b,c]).map u8)::F:=fun h=>num_dc v n l [x,y,z,a,b,c] F ⟨h.1,h.2,by simp⟩
theorem sv_ptext_dc {p:Prop} (h:p:=by first | exact sv | (simp [u8,V.one,V.n];omega) | (simp [u8,V.one,V.n]<;>fail) | (simp only [List.length_append,leK_len,numsL_len];omega) | (simp only [List.length_append,leK_len,numsL_len,textBy_len,List.length_map,List.length_cons,List.length_nil]<;>omega) | fail):p:=h
section
attribute [local push_cast 2000] cells_u8
theorem ptext_dc (v:Value) (n:Nat) (l t:List UInt8) (F:Own):(n=l.length/\l.length<=999999999000/\t.length<=1000000000000)->DC Tryz.prog 60 [.ar v n, .str t] ([.arr 1 v ((l).map u8)]++F) fun d G=>∃ v1,d = .ar v1 (n+8+t.length)/\G = .arr 1 v1 ((l++textBy t).map u8)::F:=by
 intro hA
 obtain ⟨hn,hl,ht⟩:=hA
 refine DC.bodyS (n_:=12) (show Tryz.prog.funcs[60]? = some Tryz.f60 by kernel_rfl) rfl rfl (by rfl) ?_
 simp only [env0,List.cons_append,List.nil_append]
 have kw:=ksIs [0,1,4]
 have ow:=ownIs []
 repeat' (first
  | refine g_ ?_
  | ((with_reducible refine And.intro ?_ ?_);(exact sv_ptext_dc))
  | (refine DW.cond (by rfl) ?_ ?_<;>(first | exact i0_ | (refine ic_ ?_;intro hb)))
  | ((with_reducible refine FVg_cases ?_ ?_)<;>(intro hb;rw [hb];revert hb;(first | exact i0_ | (refine i_ ?_;intro hb))))
  | refine r_ ?_
  | refine k_ ?_
  | (refine p_ (num1_dc _ _ _ _ _) ?_ (ha:=by exact sv_ptext_dc);rintro d H1 ⟨v1,rfl,rfl⟩<;>refine s_ ?_)
  | refine o_ ?_
  | refine f_ ?_
  | with_reducible intro b)
 all_goals first
 | (refine ⟨_,_,le.rfl_,⟨_,rfl,rfl⟩,?_⟩;(simp only [textBy,<-List.append_assoc,List.map_append]);(exact sub_);done)
end
theorem flatBy_nil {α:Type} (f:α->Str):flatBy f []=[]:=rfl
theorem sv_pdots_dc {p:Prop} (h:p:=by first | exact sv | (simp [u8,V.one,V.n];omega) | (simp [u8,V.one,V.n]<;>fail) | (simp only [List.length_append,leK_len,numsL_len];omega) | (simp only [List.length_append,leK_len,numsL_len,textBy_len,List.length_map,List.length_cons,List.length_nil]<;>omega) | fail):p:=h
section
attribute [local push_cast 2000] encDot
theorem pdots_dc (v:Value) (n:Nat) (l:List UInt8) (ds:List TDot) (F:Own):(n=l.length/\l.length<=1000000000/\ds.length<=1000000000)->DC Tryz.prog 58 [.ar v n, .sl (ds.map encDot)] ([.arr 1 v ((l).map u8)]++F) fun d G=>∃ v1,d = .ar v1 (n+8+24 * ds.length)/\G = .arr 1 v1 ((l++dotsBy ds).map u8)::F:=by
 intro hA
 obtain ⟨hn,hl,hx⟩:=hA
 refine DC.bodyS (n_:=36) (show Tryz.prog.funcs[58]? = some Tryz.f58 by kernel_rfl) rfl rfl (by rfl) ?_
 simp only [env0,List.append_nil,Nat.add_zero,List.take_zero,Nat.mul_zero,flatBy_nil,List.cons_append,List.nil_append]
 have kw:=ksIs [0,1,4,5,14]
 have ow:=ownIs []
 have dw5:=drIs 5 [17] [5,10,15]
 repeat' (first
  | ((with_reducible refine DW.loopB 0 (X:=Nat×Value) (fun x=>x.1<=ds.length) (fun x=>[(0, .ar x.2 (n+8+24 * x.1)),(1, .sl (ds.map encDot)),(5, .int .i64 x.1)]) (fun x=>.arr 1 x.2 ((l++numsL [(ds.length:Int)]++flatBy dotBy (ds.take x.1)).map u8)::([]:Own)) (fun x=>ds.length - x.1) ((0,v1)) ?_ ?_ ?_);exact (Nat.zero_le _);(simp [Sub,get,keepL,flatBy_nil]<;>fail);(try simp only [List.append_nil,Nat.add_zero,List.take_zero,Nat.mul_zero,flatBy_nil,List.cons_append,List.nil_append]);refine pl_ ?_;intro ⟨k,y⟩ hk;(try simp only [List.append_nil,Nat.add_zero,List.take_zero,Nat.mul_zero,flatBy_nil,List.cons_append,List.nil_append]);simp only at hk;have hkl:=flatBy_len (f:=dotBy) (n:=24) (l:=ds.take k) (fun x _=>dotBy_len x);rw [List.length_take] at hkl)
  | refine g_ ?_
  | ((with_reducible refine And.intro ?_ ?_);(exact sv_pdots_dc))
  | (refine DW.cond (by rfl) ?_ ?_<;>(first | exact i0_ | (refine ic_ ?_;intro hb)))
  | ((with_reducible first | refine FVg_cases ?_ ?_ | refine FDg_cases ?_ ?_)<;>(intro hb;rw [hb];revert hb;(first | exact i0_ | (refine i_ ?_;intro hb))))
  | refine r_ ?_
  | refine d_ ?_
  | refine k_ ?_
  | refine vo_ ?_
  | (refine p_ (num3_dc _ _ _ _ _ _ _) ?_ (ha:=by exact sv_pdots_dc);rintro d H1 ⟨v1,rfl,rfl⟩<;>refine s_ ?_)
  | (refine p_ (num1_dc _ _ _ _ _) ?_ (ha:=by exact sv_pdots_dc);rintro d H1 ⟨v1,rfl,rfl⟩<;>refine s_ ?_)
  | refine o_ ?_
  | refine f_ ?_
  | refine vm_ ?_
  | with_reducible intro b)
 all_goals first
 | (refine ⟨(k+1,v1),?_,?_,?_,?_⟩;((try simp only);omega);((try simp only);omega);(simp [Sub,get,Nat.mul_add,Nat.add_assoc]<;>fail);(rw [flatBy_next dotBy (show k<ds.length by omega)];simp only [dotBy,<-List.append_assoc]);(exact sub_);done)
 | (have hkx:k=ds.length:=by omega
    subst hkx
    rw [List.take_length]
    refine ⟨_,_,le.rfl_,⟨y,rfl,rfl⟩,?_⟩;(simp only [dotsBy,<-List.append_assoc]);(exact sub_);done)
end
end
end Go.Proofs.YtbmbcjmgjdnlnaaGreatDoor
