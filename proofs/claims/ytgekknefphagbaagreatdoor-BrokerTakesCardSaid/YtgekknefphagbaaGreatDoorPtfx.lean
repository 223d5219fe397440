/- Texts of bytes: what the packets' texts ask (in a seat without scripts). No statement of the program. -/
import Derived.Test.YtgekknefphagbaaGreatDoorEn
import Derived.Test.YtgekknefphagbaaGreatDoorLpx
import Derived.Test.YtgekknefphagbaaGreatDoorEzx
import Derived.Test.YtgekknefphagbaaGreatDoorGzx
import Derived.KernelRfl
import Derived.Shelf.Unicode.DecodeSlow
import Derived.Test.YtgekknefphagbaaGreatDoorEqx
import Derived.Shelf.Sort.Plain
import Derived.Shelf.Slices.In.SortNone
import Derived.Shelf.Slices.CompactI
import Derived.Lib.RowBridge
namespace Go.Proofs.YtgekknefphagbaaGreatDoor
open Go.RowKit
section
abbrev YS:=List UInt8
theorem zqn {α:Type} [Inhabited α] {l:List α} {i:Nat} {d:α} (h:i<l.length):l.getD i d∈l:=by
 rw [List.getD_eq_getElem?_getD,List.getElem?_eq_getElem h];exact List.getElem_mem h
theorem Les.at_ {cs ds:List V} (h:Les cs ds):cs.length=ds.length/\∀ k,k<ds.length->le (cs.getD k .any) (ds.getD k .any):=by
 induction h with
 | nil=>exact ⟨rfl,fun k hk=>absurd hk (Nat.not_lt_zero _)⟩
 | cons h1 h2 ih =>
  refine ⟨by simp [ih.1],fun k hk=>?_⟩
  cases k with
  | zero=>simpa using h1
  | succ k=>simpa using ih.2 k (by simpa using hk)
theorem le.tup {cs ds:List V} (h:Les cs ds):le (.tup cs) (.tup ds):=by
 have key:=h.at_
 intro S w u r
 cases r with
 | tup xs cs' hn hc=>exact .tup xs ds (hn.trans key.1) fun k hk=>key.2 k hk S w _ (hc k (by rw [key.1];exact hk))
end
section
set_option linter.unusedSimpArgs false
set_option linter.unusedVariables false
set_option linter.unusedSectionVars false
set_option maxHeartbeats 4000000
set_option maxRecDepth 100000
def OnK (H:Own) (b:Nat) (G:List V->Prop):Prop:=∃ cs,Ent.know b cs∈H/\G cs
theorem OnK.here {H:Own} {b:Nat} {cs:List V} {G:List V->Prop} (h:G cs):OnK (.know b cs::H) b G:=⟨cs,List.mem_cons_self ..,h⟩
theorem OnK.next {H:Own} {b:Nat} {e:Ent} {G:List V->Prop} (h:OnK H b G):OnK (e::H) b G:=let ⟨cs,h1,h2⟩:=h;⟨cs,List.mem_cons_of_mem _ h1,h2⟩
theorem zfy {H:Own} {b:Nat} {G:List V->Prop} (h:OnK H b G):OnK H b G:=h
theorem DOp.loadk_ {P:Program} {o:Oper} {f:Operand->V} {H:Own} {K:V->Own->Prop} {t:TypeId} {x:Operand} {b off:Nat} (hop:o.op = .load t x) (hx:f x = .raw (.pointer (some ⟨b,off,none⟩))) (h:OnK H b fun cs=>zdO (ty P t) (cs.drop off) 0/\K (zcw (ty P t) (cs.drop off) 0) H):DOp P o f H K:=by
 obtain ⟨cs,hm,hp,hk⟩:=h
 refine DOp.step fun a w hs hr=>?_
 have hv:=hr x kxcl
 rw [hx] at hv
 have hv:a.eval x = .pointer (some ⟨b,off,none⟩):=by generalize a.eval x=v at hv;cases hv;rfl
 have hh:=hs.holds _ hm
 obtain ⟨v,e1,e2⟩:=zcY (P:=P) (S:=stable w H) (w:=w) (t:=t) (b:=⟨b,off,none⟩) (cs:=cs.drop off) rfl (fun k hk=>by
  rw [List.length_drop] at hk
  exact (hh (off+k) (by omega)).1.1) (fun k hk=>by
  rw [List.length_drop] at hk
  have:=(hh (off+k) (by omega)).2
  simpa [List.getD_eq_getElem?_getD,List.getElem?_drop] using this) hp
 refine ⟨v,w,_,_,?_,⟨hs, .refl _ _⟩,e2,hk⟩
 unfold execOp
 rw [hop]
 simp [Instr.loadAt,hv,Instr.sureAddr,e1]
def firstC:List V:=(List.range 256).map fun c=>.int .u8 (Go.Lib.firstT c)
def accC:List V:=((List.range 16).map fun i=>[V.int .u8 (Go.Lib.accLo i),V.int .u8 (Go.Lib.accHi i)]).flatten
abbrev knF:Ent:=.know 1 firstC
abbrev knA:Ent:=.know 2 accC
theorem zmp:(List.drop 195 firstC).getD 0 V.any = .int .u8 2:=by kernel_rfl
theorem zca:firstC.length=256:=by kernel_rfl
theorem znh:List.take 2 (List.drop 0 accC)=[.int .u8 128, .int .u8 191]:=by kernel_rfl
theorem zix:List.take 2 accC=[.int .u8 128, .int .u8 191]:=by kernel_rfl
theorem zdl:accC.length=32:=by kernel_rfl
attribute [local irreducible] DW SeqD DV DOp DC DVX DVJ
section
attribute [local push_cast 2000] u8 zmp zca znh zix zdl
end
end
section
set_option linter.unusedSimpArgs false
set_option linter.unusedVariables false
set_option linter.unusedSectionVars false
set_option maxHeartbeats 4000000
set_option maxRecDepth 100000
theorem zge:∀ n:Nat,n<256->(192<=n/\n<224->andU (n:Int) 31=(n:Int) - 192)/\(224<=n/\n<240->andU (n:Int) 15=(n:Int) - 224)/\(240<=n/\n<248->andU (n:Int) 7=(n:Int) - 240)/\(128<=n/\n<192->andU (n:Int) 63=(n:Int) - 128)/\(andU (n:Int) 192=128↔128<=n/\n<192):=by decide +kernel
theorem zmB {r x:Int} (h0:0<=r) (h1:r<16777216) (h2:0<=x) (h3:x<64):rU r x=64 * r+x:=by
 obtain ⟨a,rfl⟩:=Int.eq_ofNat_of_zero_le h0
 obtain ⟨b,rfl⟩:=Int.eq_ofNat_of_zero_le h2
 have hs:shI (a:Int)=((64 * a:Nat):Int):=by
  unfold shI
  rw [show min 6 IntKind.i32.bits=6 from rfl,zfX _ (by omega) (by omega)];omega
 unfold rU
 rw [hs,BitVec.toNat_or,BitVec.toNat_ofInt,BitVec.toNat_ofInt]
 have e1:((((64 * a:Nat):Int))%((2 ^ IntKind.i32.bits:Nat):Int)).toNat=2 ^ 6 * a:=by
  rw [show (2 ^ IntKind.i32.bits:Nat)=4294967296 from rfl];omega
 have e2:((b:Int)%((2 ^ IntKind.i32.bits:Nat):Int)).toNat=b:=by
  rw [show (2 ^ IntKind.i32.bits:Nat)=4294967296 from rfl];omega
 rw [e1,e2,<-Nat.two_pow_add_eq_or_of_lt (by omega:b<2 ^ 6),zfX _ (by omega) (by omega)]
 omega
def accN (c:Int):Nat×Int×Int :=
 if c<194 then (0,0,0) else if c<224 then (2,128,191) else if c=224 then (3,160,191) else if c=237 then (3,128,159) else if c<240 then (3,128,191) else if c=240 then (4,144,191) else if c<244 then (4,128,191) else if c=244 then (4,128,143) else (0,0,0)
abbrev bt (l:Str) (k:Nat):Int:=((l.getD k 0).toNat:Int)
structure ValidU (l:Str):Prop where
 n0:(accN (bt l 0)).1≠0
 len:(accN (bt l 0)).1<=l.length
 lo:(accN (bt l 0)).2.1<=bt l 1
 hi:bt l 1<=(accN (bt l 0)).2.2
 b2:3<=(accN (bt l 0)).1->128<=bt l 2/\bt l 2<192
 b3:4<=(accN (bt l 0)).1->128<=bt l 3/\bt l 3<192
theorem bt_lt (l:Str) (k:Nat):0<=bt l k/\bt l k<256:=by unfold bt;have:=(l.getD k 0).toNat_lt;omega
theorem zdb {x:Int} (h:0<=x) (h2:x<256):IntKind.i32.wrap x=x:=zfX _ (by omega) (by omega)
theorem zef (l:Str) (k:Nat) (hk:k≠0):zcq l k=true↔128<=bt l k/\bt l k<192:=by
 have:=(zge (l.getD k 0).toNat (l.getD k 0).toNat_lt).2.2.2.2
 unfold zcq
 rw [decide_eq_false hk,Bool.false_or,beq_iff_eq,this];unfold bt;omega
theorem lo6 {l:Str} {k:Nat} (h:128<=bt l k/\bt l k<192):IntKind.i32.wrap (andU ((l.getD k 0).toNat:Int) 63)=bt l k - 128:=by
 have:=(zge (l.getD k 0).toNat (l.getD k 0).toNat_lt).2.2.2.1 (by unfold bt at h;omega)
 rw [this];unfold bt at *
 rw [zdb]<;>omega
theorem loop2 {l:Str} {r0:Int} (h0:0<=r0) (h1:r0<256) (c1:128<=bt l 1/\bt l 1<192):zci l r0 1=64 * r0+(bt l 1 - 128):=by
 unfold zci;unfold zci
 rw [lo6 c1,zmB h0 (by omega) (by omega) (by omega)]
theorem loop3 {l:Str} {r0:Int} (h0:0<=r0) (h1:r0<256) (c1:128<=bt l 1/\bt l 1<192) (c2:128<=bt l 2/\bt l 2<192):zci l r0 2=64 * (64 * r0+(bt l 1 - 128))+(bt l 2 - 128):=by
 unfold zci
 rw [loop2 h0 h1 c1,lo6 c2,zmB (by omega) (by omega) (by omega) (by omega)]
theorem loop4 {l:Str} {r0:Int} (h0:0<=r0) (h1:r0<8) (c1:128<=bt l 1/\bt l 1<192) (c2:128<=bt l 2/\bt l 2<192) (c3:128<=bt l 3/\bt l 3<192):zci l r0 3=64 * (64 * (64 * r0+(bt l 1 - 128))+(bt l 2 - 128))+(bt l 3 - 128):=by
 unfold zci
 rw [loop3 h0 (by omega) c1 c2,lo6 c3,zmB (by omega) (by omega) (by omega) (by omega)]
theorem cls_2 {l:Str} (h1:192<=bt l 0) (h2:bt l 0<224):clsM (bt l 0)=(2,128,bt l 0 - 192):=by
 rw [ziV h1 h2,(zge (l.getD 0 0).toNat (l.getD 0 0).toNat_lt).1 (by unfold bt at *;omega),zdb]<;>unfold bt at * <;> omega
theorem zpE {l:Str} (h1:224<=bt l 0) (h2:bt l 0<240):clsM (bt l 0)=(3,2048,bt l 0 - 224):=by
 rw [zjd h1 h2,(zge (l.getD 0 0).toNat (l.getD 0 0).toNat_lt).2.1 (by unfold bt at *;omega),zdb]<;>unfold bt at * <;> omega
theorem zpt {l:Str} (h1:240<=bt l 0) (h2:bt l 0<248):clsM (bt l 0)=(4,65536,bt l 0 - 240):=by
 rw [ziH h1 h2,(zge (l.getD 0 0).toNat (l.getD 0 0).toNat_lt).2.2.1 (by unfold bt at *;omega),zdb]<;>unfold bt at * <;> omega
theorem all2 (l:Str):allK (zcq l) 2=true↔(128<=bt l 1/\bt l 1<192):=by
 rw [<-zef l 1 (by decide)];simp [allK,List.range_succ,zcq]
theorem all3 (l:Str):allK (zcq l) 3=true↔(128<=bt l 1/\bt l 1<192)/\(128<=bt l 2/\bt l 2<192):=by
 rw [<-zef l 1 (by decide),<-zef l 2 (by decide)];simp [allK,List.range_succ,zcq]
theorem all4 (l:Str):allK (zcq l) 4=true↔(128<=bt l 1/\bt l 1<192)/\(128<=bt l 2/\bt l 2<192)/\(128<=bt l 3/\bt l 3<192):=by
 rw [<-zef l 1 (by decide),<-zef l 2 (by decide),<-zef l 3 (by decide)];simp [allK,List.range_succ,zcq]
theorem zkz (l:Str) (n:Nat) (a b:Int):(runM l n a b).2.2=true↔n<=l.length/\allK (zcq l) n=true/\okR (zci l b (n - 1)) a=true:=by
 unfold runM
 split
 · refine ⟨fun e=>(by cases e),fun e=>absurd e.1 (by omega)⟩
 · split
   · split
     · rename_i h1 h2 h3;exact ⟨fun _=>⟨by omega,h2,h3⟩,fun _=>rfl⟩
     · rename_i h1 h2 h3;exact ⟨fun e=>(by cases e),fun e=>absurd e.2.2 h3⟩
   · rename_i h1 h2;exact ⟨fun e=>(by cases e),fun e=>absurd e.2.1 h2⟩
theorem zh6 {r a:Int}:okR r a=true↔a<=r/\r<=1114111/\(r<55296\/57344<=r):=by
 unfold okR;simp only [Bool.not_eq_true',Bool.or_eq_false_iff,Bool.and_eq_false_iff,decide_eq_false_iff_not];omega
theorem zgE (l:Str):ValidU l↔(accN (bt l 0)).1≠0/\(accN (bt l 0)).1<=l.length/\(accN (bt l 0)).2.1<=bt l 1/\bt l 1<=(accN (bt l 0)).2.2/\(3<=(accN (bt l 0)).1->128<=bt l 2/\bt l 2<192)/\(4<=(accN (bt l 0)).1->128<=bt l 3/\bt l 3<192) :=
 ⟨fun ⟨a,b,c,d,e,f⟩=>⟨a,b,c,d,e,f⟩,fun ⟨a,b,c,d,e,f⟩=>⟨a,b,c,d,e,f⟩⟩
theorem zfs {l:Str} (h:128<=bt l 0):(zaJ l).2.2=true↔ValidU l:=by
 obtain ⟨g1,g2⟩:=bt_lt l 0
 rcases (show bt l 0<192\/(192<=bt l 0/\bt l 0<224)\/(224<=bt l 0/\bt l 0<240)\/(240<=bt l 0/\bt l 0<248)\/248<=bt l 0 by omega) with c | ⟨c1,c2⟩ | ⟨c1,c2⟩ | ⟨c1,c2⟩ | c
 · rw [zjQ h (.inl c)]
   refine ⟨fun e=>(by cases e),fun v=>absurd ?_ v.n0⟩
   unfold accN;rw [if_pos (by omega)]
 · rw [zbW h (cls_2 c1 c2) (by decide),zkz,all2,zh6,zgE]
   rcases (show bt l 0<194\/194<=bt l 0 by omega) with q | q
   · rw [show accN (bt l 0)=(0,0,0) by unfold accN;rw [if_pos q]]
     refine ⟨fun ⟨e1,e2,e3,_⟩=>?_,fun ⟨e,_⟩=>absurd rfl e⟩
     rw [loop2 (by omega) (by omega) e2] at e3;omega
   · rw [show accN (bt l 0)=(2,128,191) by unfold accN;rw [if_neg (by omega),if_pos c2]]
     refine ⟨fun ⟨e1,e2,e3⟩=>⟨by decide,e1,by show (128:Int)<=bt l 1;omega,by show bt l 1<=191;omega,fun h=>absurd h (by decide),fun h=>absurd h (by decide)⟩,fun ⟨_,e1,e2,e3,_⟩=>?_⟩
     have e2':128<=bt l 1/\bt l 1<192:=by
      have a:(128:Int)<=bt l 1:=e2
      have b:bt l 1<=191:=e3
      omega
     refine ⟨e1,e2',?_⟩
     rw [loop2 (by omega) (by omega) e2'];omega
 · rw [zbW h (zpE c1 c2) (by decide),zkz,all3,zh6,zgE]
   have key:∀ lo hi:Int,accN (bt l 0)=(3,lo,hi)->128<=lo->hi<=191->((128<=bt l 1/\bt l 1<192)->((lo<=bt l 1/\bt l 1<=hi)↔∀ z,0<=z->z<64->(2048<=64 * (64 * (bt l 0 - 224)+(bt l 1 - 128))+z/\64 * (64 * (bt l 0 - 224)+(bt l 1 - 128))+z<=1114111/\(64 * (64 * (bt l 0 - 224)+(bt l 1 - 128))+z<55296\/57344<=64 * (64 * (bt l 0 - 224)+(bt l 1 - 128))+z)))) ->
     ((3<=l.length/\((128<=bt l 1/\bt l 1<192)/\128<=bt l 2/\bt l 2<192)/\2048<=zci l (bt l 0 - 224) (3 - 1)/\zci l (bt l 0 - 224) (3 - 1)<=1114111/\(zci l (bt l 0 - 224) (3 - 1)<55296\/57344<=zci l (bt l 0 - 224) (3 - 1))) ↔
       (accN (bt l 0)).1≠0/\(accN (bt l 0)).1<=l.length/\(accN (bt l 0)).2.1<=bt l 1/\bt l 1<=(accN (bt l 0)).2.2/\(3<=(accN (bt l 0)).1->128<=bt l 2/\bt l 2<192)/\(4<=(accN (bt l 0)).1->128<=bt l 3/\bt l 3<192)):=by
    intro lo hi ha h1 h2 hk
    rw [ha]
    constructor
    · rintro ⟨e1,⟨e2,e3⟩,e4⟩
      rw [show 3 - 1=2 from rfl,loop3 (by omega) (by omega) e2 e3] at e4
      have:=(hk e2).2 (fun z z0 z1=>by omega)
      exact ⟨by show (3:Nat)≠0;decide,e1,this.1,this.2,fun _=>e3,fun h=>absurd (show (4:Nat)<=3 from h) (by decide)⟩
    · rintro ⟨_,e1,e2,e3,e4,_⟩
      simp only at e1 e2 e3 e4
      have e2':128<=bt l 1/\bt l 1<192:=by omega
      have e4':=e4 (by omega)
      refine ⟨e1,⟨e2',e4'⟩,?_⟩
      rw [show 3 - 1=2 from rfl,loop3 (by omega) (by omega) e2' e4']
      exact (hk e2').1 ⟨e2,e3⟩ _ (by omega) (by omega)
   rcases (show bt l 0=224\/bt l 0=237\/(bt l 0≠224/\bt l 0≠237) by omega) with q | q | ⟨q,q'⟩
   · refine key 160 191 (by unfold accN;rw [if_neg (by omega),if_neg (by omega),if_pos q]) (by omega) (by omega) fun hc=>⟨fun hh z h0 h1=>by omega,fun hh=>?_⟩
     have q0:=hh 0 (by omega) (by omega);have q1:=hh 63 (by omega) (by omega);omega
   · refine key 128 159 (by unfold accN;rw [if_neg (by omega),if_neg (by omega),if_neg (by omega),if_pos q]) (by omega) (by omega) fun hc=>⟨fun hh z h0 h1=>by omega,fun hh=>?_⟩
     have q0:=hh 0 (by omega) (by omega);have q1:=hh 63 (by omega) (by omega);omega
   · refine key 128 191 (by unfold accN;rw [if_neg (by omega),if_neg (by omega),if_neg q,if_neg q',if_pos c2]) (by omega) (by omega) fun hc=>⟨fun hh z h0 h1=>by omega,fun hh=>by omega⟩
 · rw [zbW h (zpt c1 c2) (by decide),zkz,all4,zh6,zgE]
   have key:∀ lo hi:Int,accN (bt l 0)=(4,lo,hi)->128<=lo->hi<=191->((128<=bt l 1/\bt l 1<192)->((lo<=bt l 1/\bt l 1<=hi)↔∀ z,0<=z->z<4096->(65536<=4096 * (64 * (bt l 0 - 240)+(bt l 1 - 128))+z/\4096 * (64 * (bt l 0 - 240)+(bt l 1 - 128))+z<=1114111/\(4096 * (64 * (bt l 0 - 240)+(bt l 1 - 128))+z<55296\/57344<=4096 * (64 * (bt l 0 - 240)+(bt l 1 - 128))+z)))) ->
     ((4<=l.length/\((128<=bt l 1/\bt l 1<192)/\(128<=bt l 2/\bt l 2<192)/\128<=bt l 3/\bt l 3<192)/\65536<=zci l (bt l 0 - 240) (4 - 1)/\zci l (bt l 0 - 240) (4 - 1)<=1114111/\(zci l (bt l 0 - 240) (4 - 1)<55296\/57344<=zci l (bt l 0 - 240) (4 - 1))) ↔
       (accN (bt l 0)).1≠0/\(accN (bt l 0)).1<=l.length/\(accN (bt l 0)).2.1<=bt l 1/\bt l 1<=(accN (bt l 0)).2.2/\(3<=(accN (bt l 0)).1->128<=bt l 2/\bt l 2<192)/\(4<=(accN (bt l 0)).1->128<=bt l 3/\bt l 3<192)):=by
    intro lo hi ha h1 h2 hk
    rw [ha]
    constructor
    · rintro ⟨e1,⟨e2,e3,e5⟩,e4⟩
      rw [show 4 - 1=3 from rfl,loop4 (by omega) (by omega) e2 e3 e5] at e4
      have:=(hk e2).2 (fun z z0 z1=>by omega)
      exact ⟨by show (4:Nat)≠0;decide,e1,this.1,this.2,fun _=>e3,fun _=>e5⟩
    · rintro ⟨_,e1,e2,e3,e4,e5⟩
      simp only at e1 e2 e3 e4 e5
      have e2':128<=bt l 1/\bt l 1<192:=by omega
      have e4':=e4 (by omega)
      have e5':=e5 (by omega)
      refine ⟨e1,⟨e2',e4',e5'⟩,?_⟩
      rw [show 4 - 1=3 from rfl,loop4 (by omega) (by omega) e2' e4' e5']
      have:=(hk e2').1 ⟨e2,e3⟩ (64 * (bt l 2 - 128)+(bt l 3 - 128)) (by omega) (by omega)
      omega
   rcases (show bt l 0=240\/(241<=bt l 0/\bt l 0<244)\/bt l 0=244\/245<=bt l 0 by omega) with q | ⟨q,q'⟩ | q | q
   · refine key 144 191 (by unfold accN;rw [if_neg (by omega),if_neg (by omega),if_neg (by omega),if_neg (by omega),if_neg (by omega),if_pos q]) (by omega) (by omega) fun hc=>⟨fun hh z h0 h1=>by omega,fun hh=>?_⟩
     have q0:=hh 0 (by omega) (by omega);omega
   · refine key 128 191 (by unfold accN;rw [if_neg (by omega),if_neg (by omega),if_neg (by omega),if_neg (by omega),if_neg (by omega),if_neg (by omega),if_pos q']) (by omega) (by omega) fun hc=>⟨fun hh z h0 h1=>by omega,fun hh=>by omega⟩
   · refine key 128 143 (by unfold accN;rw [if_neg (by omega),if_neg (by omega),if_neg (by omega),if_neg (by omega),if_neg (by omega),if_neg (by omega),if_neg (by omega),if_pos q]) (by omega) (by omega) fun hc=>⟨fun hh z h0 h1=>by omega,fun hh=>?_⟩
     have q0:=hh 0 (by omega) (by omega);omega
   · rw [show accN (bt l 0)=(0,0,0) by unfold accN;rw [if_neg (by omega),if_neg (by omega),if_neg (by omega),if_neg (by omega),if_neg (by omega),if_neg (by omega),if_neg (by omega),if_neg (by omega)]]
     refine ⟨fun ⟨e1,⟨e2,e3,e5⟩,e4⟩=>?_,fun ⟨e,_⟩=>absurd rfl e⟩
     rw [show 4 - 1=3 from rfl,loop4 (by omega) (by omega) e2 e3 e5] at e4;omega
 · rw [zjQ h (.inr c)]
   refine ⟨fun e=>(by cases e),fun v=>absurd ?_ v.n0⟩
   unfold accN;rw [if_neg (by omega),if_neg (by omega),if_neg (by omega),if_neg (by omega),if_neg (by omega),if_neg (by omega),if_neg (by omega),if_neg (by omega)]
theorem zmv {l:Str} (h:128<=bt l 0) (hv:(zaJ l).2.2=true):(zaJ l).2.1=((accN (bt l 0)).1:Int)/\(zaJ l).1≠0/\2<=(accN (bt l 0)).1:=by
 have v:=(zfs h).1 hv
 have hn:(clsM (bt l 0)).1=(accN (bt l 0)).1/\128<=(clsM (bt l 0)).2.1/\(clsM (bt l 0)).1≠0/\2<=(accN (bt l 0)).1:=by
  have:=v.n0
  obtain ⟨g1,g2⟩:=bt_lt l 0
  rcases (show bt l 0<194\/(194<=bt l 0/\bt l 0<224)\/bt l 0=224\/bt l 0=237\/(224<=bt l 0/\bt l 0<240/\bt l 0≠224/\bt l 0≠237)\/bt l 0=240\/(241<=bt l 0/\bt l 0<244)\/bt l 0=244\/245<=bt l 0 by omega) with q | ⟨q,q2⟩ | q | q | ⟨q,q2,q3,q4⟩ | q | ⟨q,q2⟩ | q | q
  · exact absurd (by unfold accN;rw [if_pos q]) this
  · rw [cls_2 (by omega) q2,show accN (bt l 0)=(2,128,191) by unfold accN;rw [if_neg (by omega),if_pos q2]];simp
  · rw [zpE (by omega) (by omega),show accN (bt l 0)=(3,160,191) by unfold accN;rw [if_neg (by omega),if_neg (by omega),if_pos q]];simp
  · rw [zpE (by omega) (by omega),show accN (bt l 0)=(3,128,159) by unfold accN;rw [if_neg (by omega),if_neg (by omega),if_neg (by omega),if_pos q]];simp
  · rw [zpE (by omega) (by omega),show accN (bt l 0)=(3,128,191) by unfold accN;rw [if_neg (by omega),if_neg (by omega),if_neg q3,if_neg q4,if_pos q2]];simp
  · rw [zpt (by omega) (by omega),show accN (bt l 0)=(4,144,191) by unfold accN;rw [if_neg (by omega),if_neg (by omega),if_neg (by omega),if_neg (by omega),if_neg (by omega),if_pos q]];simp
  · rw [zpt (by omega) (by omega),show accN (bt l 0)=(4,128,191) by unfold accN;rw [if_neg (by omega),if_neg (by omega),if_neg (by omega),if_neg (by omega),if_neg (by omega),if_neg (by omega),if_pos q2]];simp
  · rw [zpt (by omega) (by omega),show accN (bt l 0)=(4,128,143) by unfold accN;rw [if_neg (by omega),if_neg (by omega),if_neg (by omega),if_neg (by omega),if_neg (by omega),if_neg (by omega),if_neg (by omega),if_pos q]];simp
  · exact absurd (by unfold accN;rw [if_neg (by omega),if_neg (by omega),if_neg (by omega),if_neg (by omega),if_neg (by omega),if_neg (by omega),if_neg (by omega),if_neg (by omega)]) this
 obtain ⟨n1,n2,n3,n4⟩:=hn
 have e:=zbW (l:=l) (n:=(clsM (bt l 0)).1) (a:=(clsM (bt l 0)).2.1) (b:=(clsM (bt l 0)).2.2) h rfl n3
 rw [e] at hv ⊢
 obtain ⟨r1,r2,r3⟩:=(zkz _ _ _ _).1 hv
 rw [zfN r1 r2 r3]
 have r4:=zh6.1 r3
 exact ⟨by simp only;omega,by simp only;omega,n4⟩
def xO (a:Nat×Int×Int):Nat:=if a=(2,128,191) then 2 else if a=(3,160,191) then 19 else if a=(3,128,191) then 3 else if a=(3,128,159) then 35 else if a=(4,144,191) then 52 else if a=(4,128,191) then 4 else if a=(4,128,143) then 68 else 241
theorem zmX:∀ k:Nat,k<256->128<=k->Go.Lib.firstT k=xO (accN (k:Int)):=by decide +kernel
theorem zpJ {k:Nat} (h:k<256):(List.drop k firstC).getD 0 V.any = .int .u8 (Go.Lib.firstT k):=by
 simp [firstC,List.getD_eq_getElem?_getD,List.getElem?_drop,h]
theorem zdS {l:Str} {n:Nat} {lo hi:Int} (h:128<=bt l 0) (ha:accN (bt l 0)=(n,lo,hi)):(List.drop (l.getD 0 0).toNat firstC).getD 0 V.any = .int .u8 (xO (n,lo,hi)):=by
 rw [zpJ (l.getD 0 0).toNat_lt,zmX _ (l.getD 0 0).toNat_lt (by unfold bt at h;omega),<-ha]
theorem zdc {l:Str} {n:Nat} {lo hi:Int} (h:128<=bt l 0) (ha:accN (bt l 0)=(n,lo,hi)) (hb:n=0\/l.length<n\/((l.getD 1 0).toNat:Int)<lo\/hi<((l.getD 1 0).toNat:Int)\/(3<=n/\(((l.getD 2 0).toNat:Int)<128\/191<((l.getD 2 0).toNat:Int)))\/(4<=n/\(((l.getD 3 0).toNat:Int)<128\/191<((l.getD 3 0).toNat:Int)))):(zaJ l).2.2=false:=by
 cases hv:(zaJ l).2.2 with
 | false=>rfl
 | true =>
  obtain ⟨a,b,c,d,e,f⟩:=(zfs h).1 hv
  rw [ha] at a b c d e f
  simp only at a b c d e f
  unfold bt at *
  exfalso;omega
theorem zb1 {l:Str} {n:Nat} {lo hi:Int} (h:128<=bt l 0) (ha:accN (bt l 0)=(n,lo,hi)) (h0:n≠0) (h1:n<=l.length) (h2:lo<=((l.getD 1 0).toNat:Int)) (h3:((l.getD 1 0).toNat:Int)<=hi) (h4:3<=n->128<=((l.getD 2 0).toNat:Int)/\((l.getD 2 0).toNat:Int)<=191) (h5:4<=n->128<=((l.getD 3 0).toNat:Int)/\((l.getD 3 0).toNat:Int)<=191) :
  (zaJ l).2.2=true/\(zaJ l).2.1=(n:Int)/\(2<=n/\n<=l.length)/\(zaJ l).1≠0:=by
 have v:ValidU l:=by
  refine ⟨?_,?_,?_,?_,?_,?_⟩<;>rw [ha]<;>(try unfold bt)
  · exact h0
  · exact h1
  · exact h2
  · exact h3
  · exact fun q=>by have:=h4 q;omega
  · exact fun q=>by have:=h5 q;omega
 have hv:=(zfs h).2 v
 obtain ⟨s1,s2,s3⟩:=zmv h hv
 rw [ha] at s1 s3
 exact ⟨hv,s1,⟨s3,h1⟩,s2⟩
theorem no_rune (x:Int):IntKind.i32.wrap ((BitVec.ofInt IntKind.i32.bits (IntKind.i32.wrap ((BitVec.ofInt IntKind.i32.bits x &&& ~~~BitVec.ofInt IntKind.i32.bits ((IntKind.i32.wrap (241 * 2 ^ min 31 IntKind.i32.bits)).fdiv (2 ^ min 31 IntKind.i32.bits))).toNat:Int))|||BitVec.ofInt IntKind.i32.bits (IntKind.i32.wrap ((BitVec.ofInt IntKind.i32.bits 65533 &&& BitVec.ofInt IntKind.i32.bits ((IntKind.i32.wrap (241 * 2 ^ min 31 IntKind.i32.bits)).fdiv (2 ^ min 31 IntKind.i32.bits))).toNat:Int))).toNat:Int)=65533:=by
 have e:(IntKind.i32.wrap (241 * 2 ^ min 31 IntKind.i32.bits)).fdiv (2 ^ min 31 IntKind.i32.bits) = -1:=by decide
 have e2 : ~~~BitVec.ofInt IntKind.i32.bits (-1)=0#IntKind.i32.bits:=by decide
 rw [e,e2,BitVec.and_zero]
 decide
attribute [local irreducible] DW SeqD DV DOp DC DVX DVJ
theorem dE1_c2:Int.fdiv 2 (2 ^ min 4 IntKind.u8.bits)=0:=by decide
theorem dE2_c2:IntKind.i64.wrap (IntKind.u8.wrap ↑(BitVec.ofInt IntKind.u8.bits 2 &&& BitVec.ofInt IntKind.u8.bits 7).toNat)=2:=by decide
theorem dE1_e0:Int.fdiv 19 (2 ^ min 4 IntKind.u8.bits)=1:=by decide
theorem dE2_e0:IntKind.i64.wrap (IntKind.u8.wrap ↑(BitVec.ofInt IntKind.u8.bits 19 &&& BitVec.ofInt IntKind.u8.bits 7).toNat)=3:=by decide
theorem acc_e0:List.take 2 (List.drop 2 accC)=[.int .u8 160, .int .u8 191]:=by kernel_rfl
theorem dE1_e1:Int.fdiv 3 (2 ^ min 4 IntKind.u8.bits)=0:=by decide
theorem dE2_e1:IntKind.i64.wrap (IntKind.u8.wrap ↑(BitVec.ofInt IntKind.u8.bits 3 &&& BitVec.ofInt IntKind.u8.bits 7).toNat)=3:=by decide
theorem dE1_ed:Int.fdiv 35 (2 ^ min 4 IntKind.u8.bits)=2:=by decide
theorem dE2_ed:IntKind.i64.wrap (IntKind.u8.wrap ↑(BitVec.ofInt IntKind.u8.bits 35 &&& BitVec.ofInt IntKind.u8.bits 7).toNat)=3:=by decide
theorem acc_ed:List.take 2 (List.drop 4 accC)=[.int .u8 128, .int .u8 159]:=by kernel_rfl
theorem dE1_f0:Int.fdiv 52 (2 ^ min 4 IntKind.u8.bits)=3:=by decide
theorem dE2_f0:IntKind.i64.wrap (IntKind.u8.wrap ↑(BitVec.ofInt IntKind.u8.bits 52 &&& BitVec.ofInt IntKind.u8.bits 7).toNat)=4:=by decide
theorem acc_f0:List.take 2 (List.drop 6 accC)=[.int .u8 144, .int .u8 191]:=by kernel_rfl
theorem dE1_f1:Int.fdiv 4 (2 ^ min 4 IntKind.u8.bits)=0:=by decide
theorem dE2_f1:IntKind.i64.wrap (IntKind.u8.wrap ↑(BitVec.ofInt IntKind.u8.bits 4 &&& BitVec.ofInt IntKind.u8.bits 7).toNat)=4:=by decide
theorem dE1_f4:Int.fdiv 68 (2 ^ min 4 IntKind.u8.bits)=4:=by decide
theorem dE2_f4:IntKind.i64.wrap (IntKind.u8.wrap ↑(BitVec.ofInt IntKind.u8.bits 68 &&& BitVec.ofInt IntKind.u8.bits 7).toNat)=4:=by decide
theorem acc_f4:List.take 2 (List.drop 8 accC)=[.int .u8 128, .int .u8 143]:=by kernel_rfl
theorem dE1_no:Int.fdiv 241 (2 ^ min 4 IntKind.u8.bits)=15:=by decide
theorem dE2_no:IntKind.i64.wrap (IntKind.u8.wrap ↑(BitVec.ofInt IntKind.u8.bits 241 &&& BitVec.ofInt IntKind.u8.bits 7).toNat)=1:=by decide
theorem zbk {P Q:Prop} (q:Q) (h:Hid Q->P:=by (intro q;simp (maxSteps:=1000000) (disch:=omega) only [push_cast,↓reduceIte,reduceCtorEq,Nat.reduceAdd,Nat.reduceMul,Nat.reduceLT,Nat.reduceLeDiff,Nat.reduceEqDiff,Nat.reduceSub,Int.reduceToNat,Int.reduceLT,Int.reduceLE,Int.reduceAdd,Int.reduceSub,Int.reduceMul,Int.reduceNeg,Nat.reduceBEq,Int.reduceBEq,Int.reduceBNe,Nat.reduceBNe,Int.reduceEq,hx];exact q.1)):P:=h ⟨q⟩
section
attribute [local push_cast 2000] u8 zgi zca zdl dE1_c2 dE2_c2 znh zix Int.toNat_natCast
theorem zob (l:Str) (F:Own):((1<=l.length/\l.length<=1000000000)/\128<=bt l 0/\accN (bt l 0)=(2,128,191))->DC Tryz.prog 268 [.sl (l.map u8)] ([knF,knA]++F) fun d G=>((d = .tup [.int .i32 65533, .int .i64 1]/\(zaJ l).2.2=false)\/(∃ r:Int,∃ n:Nat,(d = .tup [.int .i32 r, .int .i64 (n:Int)]/\(zaJ l).2.2=true)/\(zaJ l).2.1=(n:Int)/\(2<=n/\n<=l.length)/\(zaJ l).1≠0))/\G=[knF,knA]++F:=by
 intro hA
 obtain ⟨⟨hl,hl2⟩,h0,ha⟩:=hA
 refine DC.bodyS (n_:=122) (show Tryz.prog.funcs[268]? = some Tryz.f268 by kernel_rfl) rfl rfl (by rfl) ?_
 simp only [env0,List.cons_append,List.nil_append]
 have kw:=ksIs [0,2,3,4,5,6,7,8,9,10,11,12,16,24,47,60,62,79,81,103]
 have ow:=zaf []
 have q0:=u8_b (l.getD 0 0);have q1:=u8_b (l.getD 1 0);have q2:=u8_b (l.getD 2 0);have q3:=u8_b (l.getD 3 0)
 have hx:=zdS h0 ha
 simp only [show xO (2,128,191)=2 from rfl,Int.cast_ofNat_Int] at hx
 repeat' (first
  | refine g_ ?_
  | ((with_reducible refine And.intro ?_ ?_);(exact sv))
  | (refine DW.cond (by rfl) ?_ ?_<;>(first | exact i0_ | (intro hb;(try simp only [↓reduceCtorEq,not_true_eq_false,not_false_eq_true,hbs,Int.reduceBEq,Int.reduceBNe,Int.reduceEq] at hb);(try refine zbk ?_))))
  | ((with_reducible refine zaa ?_ ?_)<;>(intro hb;rw [hb];revert hb;(first | exact i0_ | (intro hb;(try simp only [↓reduceCtorEq,not_true_eq_false,not_false_eq_true,hbs,Int.reduceBEq,Int.reduceBNe,Int.reduceEq] at hb);(try refine zbk ?_)))))
  | ((first | refine rn_ ?_ | refine kn_ ?_)<;>(refine zbk ?_))
  | ((first | (refine DOp.loadk_ rfl rfl ?_;(repeat (with_reducible first | apply OnK.here | apply OnK.next));(fail_if_success (with_reducible apply zfy))))<;>(refine zbk ?_))
  | ((refine on_ ?_);refine zbk ?_)
  | refine f_ ?_
  | with_reducible intro b)
 all_goals first
 | (exact kxbu)
 | ((refine ⟨_,_,le.rfl_,⟨.inr ⟨_,2,⟨rfl,(zb1 h0 ha (by decide) (by omega) (by omega) (by omega) (fun q=>by omega) (fun q=>by omega)).1⟩,(zb1 h0 ha (by decide) (by omega) (by omega) (by omega) (fun q=>by omega) (fun q=>by omega)).2⟩,rfl⟩,?_⟩;exact sub_;done))
end
section
attribute [local push_cast 2000] u8 zgi zca zdl dE1_e0 dE2_e0 acc_e0 Int.toNat_natCast
theorem zop (l:Str) (F:Own):((1<=l.length/\l.length<=1000000000)/\128<=bt l 0/\accN (bt l 0)=(3,160,191))->DC Tryz.prog 268 [.sl (l.map u8)] ([knF,knA]++F) fun d G=>((d = .tup [.int .i32 65533, .int .i64 1]/\(zaJ l).2.2=false)\/(∃ r:Int,∃ n:Nat,(d = .tup [.int .i32 r, .int .i64 (n:Int)]/\(zaJ l).2.2=true)/\(zaJ l).2.1=(n:Int)/\(2<=n/\n<=l.length)/\(zaJ l).1≠0))/\G=[knF,knA]++F:=by
 intro hA
 obtain ⟨⟨hl,hl2⟩,h0,ha⟩:=hA
 refine DC.bodyS (n_:=122) (show Tryz.prog.funcs[268]? = some Tryz.f268 by kernel_rfl) rfl rfl (by rfl) ?_
 simp only [env0,List.cons_append,List.nil_append]
 have kw:=ksIs [0,2,3,4,5,6,7,8,9,10,11,12,16,24,47,60,62,79,81,103]
 have ow:=zaf []
 have q0:=u8_b (l.getD 0 0);have q1:=u8_b (l.getD 1 0);have q2:=u8_b (l.getD 2 0);have q3:=u8_b (l.getD 3 0)
 have hx:=zdS h0 ha
 simp only [show xO (3,160,191)=19 from rfl,Int.cast_ofNat_Int] at hx
 repeat' (first
  | refine g_ ?_
  | ((with_reducible refine And.intro ?_ ?_);(exact sv))
  | (refine DW.cond (by rfl) ?_ ?_<;>(first | exact i0_ | (intro hb;(try simp only [↓reduceCtorEq,not_true_eq_false,not_false_eq_true,hbs,Int.reduceBEq,Int.reduceBNe,Int.reduceEq] at hb);(try refine zbk ?_))))
  | ((with_reducible refine zaa ?_ ?_)<;>(intro hb;rw [hb];revert hb;(first | exact i0_ | (intro hb;(try simp only [↓reduceCtorEq,not_true_eq_false,not_false_eq_true,hbs,Int.reduceBEq,Int.reduceBNe,Int.reduceEq] at hb);(try refine zbk ?_)))))
  | ((first | refine rn_ ?_ | refine kn_ ?_)<;>(refine zbk ?_))
  | ((first | (refine DOp.loadk_ rfl rfl ?_;(repeat (with_reducible first | apply OnK.here | apply OnK.next));(fail_if_success (with_reducible apply zfy))))<;>(refine zbk ?_))
  | ((refine on_ ?_);refine zbk ?_)
  | refine f_ ?_
  | with_reducible intro b)
 all_goals first
 | (exact kxbu)
 | (exact kxaz)
end
section
attribute [local push_cast 2000] u8 zgi zca zdl dE1_e1 dE2_e1 znh zix Int.toNat_natCast
theorem znP (l:Str) (F:Own):((1<=l.length/\l.length<=1000000000)/\128<=bt l 0/\accN (bt l 0)=(3,128,191))->DC Tryz.prog 268 [.sl (l.map u8)] ([knF,knA]++F) fun d G=>((d = .tup [.int .i32 65533, .int .i64 1]/\(zaJ l).2.2=false)\/(∃ r:Int,∃ n:Nat,(d = .tup [.int .i32 r, .int .i64 (n:Int)]/\(zaJ l).2.2=true)/\(zaJ l).2.1=(n:Int)/\(2<=n/\n<=l.length)/\(zaJ l).1≠0))/\G=[knF,knA]++F:=by
 intro hA
 obtain ⟨⟨hl,hl2⟩,h0,ha⟩:=hA
 refine DC.bodyS (n_:=122) (show Tryz.prog.funcs[268]? = some Tryz.f268 by kernel_rfl) rfl rfl (by rfl) ?_
 simp only [env0,List.cons_append,List.nil_append]
 have kw:=ksIs [0,2,3,4,5,6,7,8,9,10,11,12,16,24,47,60,62,79,81,103]
 have ow:=zaf []
 have q0:=u8_b (l.getD 0 0);have q1:=u8_b (l.getD 1 0);have q2:=u8_b (l.getD 2 0);have q3:=u8_b (l.getD 3 0)
 have hx:=zdS h0 ha
 simp only [show xO (3,128,191)=3 from rfl,Int.cast_ofNat_Int] at hx
 repeat' (first
  | refine g_ ?_
  | ((with_reducible refine And.intro ?_ ?_);(exact sv))
  | (refine DW.cond (by rfl) ?_ ?_<;>(first | exact i0_ | (intro hb;(try simp only [↓reduceCtorEq,not_true_eq_false,not_false_eq_true,hbs,Int.reduceBEq,Int.reduceBNe,Int.reduceEq] at hb);(try refine zbk ?_))))
  | ((with_reducible refine zaa ?_ ?_)<;>(intro hb;rw [hb];revert hb;(first | exact i0_ | (intro hb;(try simp only [↓reduceCtorEq,not_true_eq_false,not_false_eq_true,hbs,Int.reduceBEq,Int.reduceBNe,Int.reduceEq] at hb);(try refine zbk ?_)))))
  | ((first | refine rn_ ?_ | refine kn_ ?_)<;>(refine zbk ?_))
  | ((first | (refine DOp.loadk_ rfl rfl ?_;(repeat (with_reducible first | apply OnK.here | apply OnK.next));(fail_if_success (with_reducible apply zfy))))<;>(refine zbk ?_))
  | ((refine on_ ?_);refine zbk ?_)
  | refine f_ ?_
  | with_reducible intro b)
 all_goals first
 | (exact kxbu)
 | (exact kxaz)
end
section
attribute [local push_cast 2000] u8 zgi zca zdl dE1_ed dE2_ed acc_ed Int.toNat_natCast
theorem znD (l:Str) (F:Own):((1<=l.length/\l.length<=1000000000)/\128<=bt l 0/\accN (bt l 0)=(3,128,159))->DC Tryz.prog 268 [.sl (l.map u8)] ([knF,knA]++F) fun d G=>((d = .tup [.int .i32 65533, .int .i64 1]/\(zaJ l).2.2=false)\/(∃ r:Int,∃ n:Nat,(d = .tup [.int .i32 r, .int .i64 (n:Int)]/\(zaJ l).2.2=true)/\(zaJ l).2.1=(n:Int)/\(2<=n/\n<=l.length)/\(zaJ l).1≠0))/\G=[knF,knA]++F:=by
 intro hA
 obtain ⟨⟨hl,hl2⟩,h0,ha⟩:=hA
 refine DC.bodyS (n_:=122) (show Tryz.prog.funcs[268]? = some Tryz.f268 by kernel_rfl) rfl rfl (by rfl) ?_
 simp only [env0,List.cons_append,List.nil_append]
 have kw:=ksIs [0,2,3,4,5,6,7,8,9,10,11,12,16,24,47,60,62,79,81,103]
 have ow:=zaf []
 have q0:=u8_b (l.getD 0 0);have q1:=u8_b (l.getD 1 0);have q2:=u8_b (l.getD 2 0);have q3:=u8_b (l.getD 3 0)
 have hx:=zdS h0 ha
 simp only [show xO (3,128,159)=35 from rfl,Int.cast_ofNat_Int] at hx
 repeat' (first
  | refine g_ ?_
  | ((with_reducible refine And.intro ?_ ?_);(exact sv))
  | (refine DW.cond (by rfl) ?_ ?_<;>(first | exact i0_ | (intro hb;(try simp only [↓reduceCtorEq,not_true_eq_false,not_false_eq_true,hbs,Int.reduceBEq,Int.reduceBNe,Int.reduceEq] at hb);(try refine zbk ?_))))
  | ((with_reducible refine zaa ?_ ?_)<;>(intro hb;rw [hb];revert hb;(first | exact i0_ | (intro hb;(try simp only [↓reduceCtorEq,not_true_eq_false,not_false_eq_true,hbs,Int.reduceBEq,Int.reduceBNe,Int.reduceEq] at hb);(try refine zbk ?_)))))
  | ((first | refine rn_ ?_ | refine kn_ ?_)<;>(refine zbk ?_))
  | ((first | (refine DOp.loadk_ rfl rfl ?_;(repeat (with_reducible first | apply OnK.here | apply OnK.next));(fail_if_success (with_reducible apply zfy))))<;>(refine zbk ?_))
  | ((refine on_ ?_);refine zbk ?_)
  | refine f_ ?_
  | with_reducible intro b)
 all_goals first
 | (exact kxbu)
 | (exact kxaz)
end
section
attribute [local push_cast 2000] u8 zgi zca zdl dE1_f0 dE2_f0 acc_f0 Int.toNat_natCast
theorem zmo (l:Str) (F:Own):((1<=l.length/\l.length<=1000000000)/\128<=bt l 0/\accN (bt l 0)=(4,144,191))->DC Tryz.prog 268 [.sl (l.map u8)] ([knF,knA]++F) fun d G=>((d = .tup [.int .i32 65533, .int .i64 1]/\(zaJ l).2.2=false)\/(∃ r:Int,∃ n:Nat,(d = .tup [.int .i32 r, .int .i64 (n:Int)]/\(zaJ l).2.2=true)/\(zaJ l).2.1=(n:Int)/\(2<=n/\n<=l.length)/\(zaJ l).1≠0))/\G=[knF,knA]++F:=by
 intro hA
 obtain ⟨⟨hl,hl2⟩,h0,ha⟩:=hA
 refine DC.bodyS (n_:=122) (show Tryz.prog.funcs[268]? = some Tryz.f268 by kernel_rfl) rfl rfl (by rfl) ?_
 simp only [env0,List.cons_append,List.nil_append]
 have kw:=ksIs [0,2,3,4,5,6,7,8,9,10,11,12,16,24,47,60,62,79,81,103]
 have ow:=zaf []
 have q0:=u8_b (l.getD 0 0);have q1:=u8_b (l.getD 1 0);have q2:=u8_b (l.getD 2 0);have q3:=u8_b (l.getD 3 0)
 have hx:=zdS h0 ha
 simp only [show xO (4,144,191)=52 from rfl,Int.cast_ofNat_Int] at hx
 repeat' (first
  | refine g_ ?_
  | ((with_reducible refine And.intro ?_ ?_);(exact sv))
  | (refine DW.cond (by rfl) ?_ ?_<;>(first | exact i0_ | (intro hb;(try simp only [↓reduceCtorEq,not_true_eq_false,not_false_eq_true,hbs,Int.reduceBEq,Int.reduceBNe,Int.reduceEq] at hb);(try refine zbk ?_))))
  | ((with_reducible refine zaa ?_ ?_)<;>(intro hb;rw [hb];revert hb;(first | exact i0_ | (intro hb;(try simp only [↓reduceCtorEq,not_true_eq_false,not_false_eq_true,hbs,Int.reduceBEq,Int.reduceBNe,Int.reduceEq] at hb);(try refine zbk ?_)))))
  | ((first | refine rn_ ?_ | refine kn_ ?_)<;>(refine zbk ?_))
  | ((first | (refine DOp.loadk_ rfl rfl ?_;(repeat (with_reducible first | apply OnK.here | apply OnK.next));(fail_if_success (with_reducible apply zfy))))<;>(refine zbk ?_))
  | ((refine on_ ?_);refine zbk ?_)
  | refine f_ ?_
  | with_reducible intro b)
 all_goals first
 | (exact kxbu)
 | (exact kxa0)
end
section
attribute [local push_cast 2000] u8 zgi zca zdl dE1_f1 dE2_f1 znh zix Int.toNat_natCast
theorem znn (l:Str) (F:Own):((1<=l.length/\l.length<=1000000000)/\128<=bt l 0/\accN (bt l 0)=(4,128,191))->DC Tryz.prog 268 [.sl (l.map u8)] ([knF,knA]++F) fun d G=>((d = .tup [.int .i32 65533, .int .i64 1]/\(zaJ l).2.2=false)\/(∃ r:Int,∃ n:Nat,(d = .tup [.int .i32 r, .int .i64 (n:Int)]/\(zaJ l).2.2=true)/\(zaJ l).2.1=(n:Int)/\(2<=n/\n<=l.length)/\(zaJ l).1≠0))/\G=[knF,knA]++F:=by
 intro hA
 obtain ⟨⟨hl,hl2⟩,h0,ha⟩:=hA
 refine DC.bodyS (n_:=122) (show Tryz.prog.funcs[268]? = some Tryz.f268 by kernel_rfl) rfl rfl (by rfl) ?_
 simp only [env0,List.cons_append,List.nil_append]
 have kw:=ksIs [0,2,3,4,5,6,7,8,9,10,11,12,16,24,47,60,62,79,81,103]
 have ow:=zaf []
 have q0:=u8_b (l.getD 0 0);have q1:=u8_b (l.getD 1 0);have q2:=u8_b (l.getD 2 0);have q3:=u8_b (l.getD 3 0)
 have hx:=zdS h0 ha
 simp only [show xO (4,128,191)=4 from rfl,Int.cast_ofNat_Int] at hx
 repeat' (first
  | refine g_ ?_
  | ((with_reducible refine And.intro ?_ ?_);(exact sv))
  | (refine DW.cond (by rfl) ?_ ?_<;>(first | exact i0_ | (intro hb;(try simp only [↓reduceCtorEq,not_true_eq_false,not_false_eq_true,hbs,Int.reduceBEq,Int.reduceBNe,Int.reduceEq] at hb);(try refine zbk ?_))))
  | ((with_reducible refine zaa ?_ ?_)<;>(intro hb;rw [hb];revert hb;(first | exact i0_ | (intro hb;(try simp only [↓reduceCtorEq,not_true_eq_false,not_false_eq_true,hbs,Int.reduceBEq,Int.reduceBNe,Int.reduceEq] at hb);(try refine zbk ?_)))))
  | ((first | refine rn_ ?_ | refine kn_ ?_)<;>(refine zbk ?_))
  | ((first | (refine DOp.loadk_ rfl rfl ?_;(repeat (with_reducible first | apply OnK.here | apply OnK.next));(fail_if_success (with_reducible apply zfy))))<;>(refine zbk ?_))
  | ((refine on_ ?_);refine zbk ?_)
  | refine f_ ?_
  | with_reducible intro b)
 all_goals first
 | (exact kxbu)
 | (exact kxa0)
end
section
attribute [local push_cast 2000] u8 zgi zca zdl dE1_f4 dE2_f4 acc_f4 Int.toNat_natCast
theorem zoq (l:Str) (F:Own):((1<=l.length/\l.length<=1000000000)/\128<=bt l 0/\accN (bt l 0)=(4,128,143))->DC Tryz.prog 268 [.sl (l.map u8)] ([knF,knA]++F) fun d G=>((d = .tup [.int .i32 65533, .int .i64 1]/\(zaJ l).2.2=false)\/(∃ r:Int,∃ n:Nat,(d = .tup [.int .i32 r, .int .i64 (n:Int)]/\(zaJ l).2.2=true)/\(zaJ l).2.1=(n:Int)/\(2<=n/\n<=l.length)/\(zaJ l).1≠0))/\G=[knF,knA]++F:=by
 intro hA
 obtain ⟨⟨hl,hl2⟩,h0,ha⟩:=hA
 refine DC.bodyS (n_:=122) (show Tryz.prog.funcs[268]? = some Tryz.f268 by kernel_rfl) rfl rfl (by rfl) ?_
 simp only [env0,List.cons_append,List.nil_append]
 have kw:=ksIs [0,2,3,4,5,6,7,8,9,10,11,12,16,24,47,60,62,79,81,103]
 have ow:=zaf []
 have q0:=u8_b (l.getD 0 0);have q1:=u8_b (l.getD 1 0);have q2:=u8_b (l.getD 2 0);have q3:=u8_b (l.getD 3 0)
 have hx:=zdS h0 ha
 simp only [show xO (4,128,143)=68 from rfl,Int.cast_ofNat_Int] at hx
 repeat' (first
  | refine g_ ?_
  | ((with_reducible refine And.intro ?_ ?_);(exact sv))
  | (refine DW.cond (by rfl) ?_ ?_<;>(first | exact i0_ | (intro hb;(try simp only [↓reduceCtorEq,not_true_eq_false,not_false_eq_true,hbs,Int.reduceBEq,Int.reduceBNe,Int.reduceEq] at hb);(try refine zbk ?_))))
  | ((with_reducible refine zaa ?_ ?_)<;>(intro hb;rw [hb];revert hb;(first | exact i0_ | (intro hb;(try simp only [↓reduceCtorEq,not_true_eq_false,not_false_eq_true,hbs,Int.reduceBEq,Int.reduceBNe,Int.reduceEq] at hb);(try refine zbk ?_)))))
  | ((first | refine rn_ ?_ | refine kn_ ?_)<;>(refine zbk ?_))
  | ((first | (refine DOp.loadk_ rfl rfl ?_;(repeat (with_reducible first | apply OnK.here | apply OnK.next));(fail_if_success (with_reducible apply zfy))))<;>(refine zbk ?_))
  | ((refine on_ ?_);refine zbk ?_)
  | refine f_ ?_
  | with_reducible intro b)
 all_goals first
 | (exact kxbu)
 | (exact kxa0)
end
section
attribute [local push_cast 2000] u8 zgi zca zdl dE1_no dE2_no znh zix Int.toNat_natCast
theorem zor (l:Str) (F:Own):((1<=l.length/\l.length<=1000000000)/\128<=bt l 0/\accN (bt l 0)=(0,0,0))->DC Tryz.prog 268 [.sl (l.map u8)] ([knF,knA]++F) fun d G=>((d = .tup [.int .i32 65533, .int .i64 1]/\(zaJ l).2.2=false)\/(∃ r:Int,∃ n:Nat,(d = .tup [.int .i32 r, .int .i64 (n:Int)]/\(zaJ l).2.2=true)/\(zaJ l).2.1=(n:Int)/\(2<=n/\n<=l.length)/\(zaJ l).1≠0))/\G=[knF,knA]++F:=by
 intro hA
 obtain ⟨⟨hl,hl2⟩,h0,ha⟩:=hA
 refine DC.bodyS (n_:=122) (show Tryz.prog.funcs[268]? = some Tryz.f268 by kernel_rfl) rfl rfl (by rfl) ?_
 simp only [env0,List.cons_append,List.nil_append]
 have kw:=ksIs [0,2,3,4,5,6,7,8,9,10,11,12,16,24,47,60,62,79,81,103]
 have ow:=zaf []
 have q0:=u8_b (l.getD 0 0);have q1:=u8_b (l.getD 1 0);have q2:=u8_b (l.getD 2 0);have q3:=u8_b (l.getD 3 0)
 have hx:=zdS h0 ha
 simp only [show xO (0,0,0)=241 from rfl,Int.cast_ofNat_Int] at hx
 repeat' (first
  | refine g_ ?_
  | ((with_reducible refine And.intro ?_ ?_);(exact sv))
  | (refine DW.cond (by rfl) ?_ ?_<;>(first | exact i0_ | (intro hb;(try simp only [↓reduceCtorEq,not_true_eq_false,not_false_eq_true,hbs,Int.reduceBEq,Int.reduceBNe,Int.reduceEq] at hb);(try refine zbk ?_))))
  | ((with_reducible refine zaa ?_ ?_)<;>(intro hb;rw [hb];revert hb;(first | exact i0_ | (intro hb;(try simp only [↓reduceCtorEq,not_true_eq_false,not_false_eq_true,hbs,Int.reduceBEq,Int.reduceBNe,Int.reduceEq] at hb);(try refine zbk ?_)))))
  | ((first | refine rn_ ?_ | refine kn_ ?_)<;>(refine zbk ?_))
  | ((first | (refine DOp.loadk_ rfl rfl ?_;(repeat (with_reducible first | apply OnK.here | apply OnK.next));(fail_if_success (with_reducible apply zfy))))<;>(refine zbk ?_))
  | ((refine on_ ?_);refine zbk ?_)
  | refine f_ ?_
  | with_reducible intro b)
 all_goals first
 | ((rw [no_rune];(refine ⟨_,_,le.rfl_,⟨.inl ⟨rfl,zdc h0 ha (by omega)⟩,rfl⟩,?_⟩;exact sub_;done)))
end
end
section
set_option linter.unusedSimpArgs false
set_option linter.unusedVariables false
set_option linter.unusedSectionVars false
set_option maxHeartbeats 4000000
set_option maxRecDepth 100000
attribute [local irreducible] DW SeqD DV DOp DC DVX
section
attribute [local push_cast 2000] u8
end
section
attribute [local push_cast 2000] u8
end
section
attribute [local push_cast 2000] u8
end
end
section
set_option linter.unusedSimpArgs false
set_option linter.unusedVariables false
set_option linter.unusedSectionVars false
theorem ziL {xs:Array Value} (h:xs.size=1):∃ a,xs = #[a]:=by
 obtain ⟨l⟩:=xs
 match l,h with
 | [a],_=>exact ⟨a,rfl⟩
section
variable {P:Program} {ρ : Go.Shelf.Ren}
end
end
end Go.Proofs.YtgekknefphagbaaGreatDoor
