/- Which bytes are texts: just as the document says. -/
import Derived.Test.YtgekknefphagbaaGreatDoorGzx
import Derived.Test.YtgekknefphagbaaGreatDoorLpx
import Derived.KernelRfl
namespace Go.Proofs.YtgekknefphagbaaGreatDoor
open Go.RowKit
set_option linter.unusedSimpArgs false
set_option linter.unusedVariables false
set_option linter.unusedSectionVars false
set_option maxHeartbeats 4000000
set_option maxRecDepth 100000
section
theorem zgx:∀ n:Nat,n<256->(192<=n/\n<224->andU (n:Int) 31=(n:Int) - 192)/\(224<=n/\n<240->andU (n:Int) 15=(n:Int) - 224)/\(240<=n/\n<248->andU (n:Int) 7=(n:Int) - 240)/\(128<=n/\n<192->andU (n:Int) 63=(n:Int) - 128)/\(andU (n:Int) 192=128↔128<=n/\n<192):=by decide +kernel
theorem zmi {r x:Int} (h0:0<=r) (h1:r<16777216) (h2:0<=x) (h3:x<64):rU r x=64 * r+x:=by
 obtain ⟨a,rfl⟩:=Int.eq_ofNat_of_zero_le h0
 obtain ⟨b,rfl⟩:=Int.eq_ofNat_of_zero_le h2
 have hs:shI (a:Int)=((64 * a:Nat):Int):=by
  unfold shI
  rw [show min 6 IntKind.i32.bits=6 from rfl,zfG _ (by omega) (by omega)];omega
 unfold rU
 rw [hs,BitVec.toNat_or,BitVec.toNat_ofInt,BitVec.toNat_ofInt]
 have e1:((((64 * a:Nat):Int))%((2 ^ IntKind.i32.bits:Nat):Int)).toNat=2 ^ 6 * a:=by
  rw [show (2 ^ IntKind.i32.bits:Nat)=4294967296 from rfl];omega
 have e2:((b:Int)%((2 ^ IntKind.i32.bits:Nat):Int)).toNat=b:=by
  rw [show (2 ^ IntKind.i32.bits:Nat)=4294967296 from rfl];omega
 rw [e1,e2,<-Nat.two_pow_add_eq_or_of_lt (by omega:b<2 ^ 6),zfG _ (by omega) (by omega)]
 omega
def accN (c:Int):Nat×Int×Int :=
 if c<194 then (0,0,0) else if c<224 then (2,128,191) else if c=224 then (3,160,191) else if c=237 then (3,128,159) else if c<240 then (3,128,191) else if c=240 then (4,144,191) else if c<244 then (4,128,191) else if c=244 then (4,128,143) else (0,0,0)
abbrev bt (l:Str) (k:Nat):Int:=((l.getD k 0).toNat:Int)
structure ValidU (l:Str):Prop where
 n0:(accN (bt l 0)).1≠0
 len:(accN (bt l 0)).1<=l.length
 lo:(accN (bt l 0)).2.1<=bt l 1
 hi:bt l 1<=(accN (bt l 0)).2.2
 b2:3<=(accN (bt l 0)).1->128<=bt l 2/\bt l 2<192
 b3:4<=(accN (bt l 0)).1->128<=bt l 3/\bt l 3<192
theorem bt_lt (l:Str) (k:Nat):0<=bt l k/\bt l k<256:=by unfold bt;have:=(l.getD k 0).toNat_lt;omega
theorem zcP {x:Int} (h:0<=x) (h2:x<256):IntKind.i32.wrap x=x:=zfG _ (by omega) (by omega)
theorem zea (l:Str) (k:Nat) (hk:k≠0):zdG l k=true↔128<=bt l k/\bt l k<192:=by
 have:=(zgx (l.getD k 0).toNat (l.getD k 0).toNat_lt).2.2.2.2
 unfold zdG
 rw [decide_eq_false hk,Bool.false_or,beq_iff_eq,this];unfold bt;omega
theorem lo6 {l:Str} {k:Nat} (h:128<=bt l k/\bt l k<192):IntKind.i32.wrap (andU ((l.getD k 0).toNat:Int) 63)=bt l k - 128:=by
 have:=(zgx (l.getD k 0).toNat (l.getD k 0).toNat_lt).2.2.2.1 (by unfold bt at h;omega)
 rw [this];unfold bt at *
 rw [zcP]<;>omega
theorem loop2 {l:Str} {r0:Int} (h0:0<=r0) (h1:r0<256) (c1:128<=bt l 1/\bt l 1<192):zdb l r0 1=64 * r0+(bt l 1 - 128):=by
 unfold zdb;unfold zdb
 rw [lo6 c1,zmi h0 (by omega) (by omega) (by omega)]
theorem loop3 {l:Str} {r0:Int} (h0:0<=r0) (h1:r0<256) (c1:128<=bt l 1/\bt l 1<192) (c2:128<=bt l 2/\bt l 2<192):zdb l r0 2=64 * (64 * r0+(bt l 1 - 128))+(bt l 2 - 128):=by
 unfold zdb
 rw [loop2 h0 h1 c1,lo6 c2,zmi (by omega) (by omega) (by omega) (by omega)]
theorem loop4 {l:Str} {r0:Int} (h0:0<=r0) (h1:r0<8) (c1:128<=bt l 1/\bt l 1<192) (c2:128<=bt l 2/\bt l 2<192) (c3:128<=bt l 3/\bt l 3<192):zdb l r0 3=64 * (64 * (64 * r0+(bt l 1 - 128))+(bt l 2 - 128))+(bt l 3 - 128):=by
 unfold zdb
 rw [loop3 h0 (by omega) c1 c2,lo6 c3,zmi (by omega) (by omega) (by omega) (by omega)]
theorem cls_2 {l:Str} (h1:192<=bt l 0) (h2:bt l 0<224):clsM (bt l 0)=(2,128,bt l 0 - 192):=by
 rw [clsM_2 h1 h2,(zgx (l.getD 0 0).toNat (l.getD 0 0).toNat_lt).1 (by unfold bt at *;omega),zcP]<;>unfold bt at * <;> omega
theorem zoR {l:Str} (h1:224<=bt l 0) (h2:bt l 0<240):clsM (bt l 0)=(3,2048,bt l 0 - 224):=by
 rw [clsM_3 h1 h2,(zgx (l.getD 0 0).toNat (l.getD 0 0).toNat_lt).2.1 (by unfold bt at *;omega),zcP]<;>unfold bt at * <;> omega
theorem zoN {l:Str} (h1:240<=bt l 0) (h2:bt l 0<248):clsM (bt l 0)=(4,65536,bt l 0 - 240):=by
 rw [clsM_4 h1 h2,(zgx (l.getD 0 0).toNat (l.getD 0 0).toNat_lt).2.2.1 (by unfold bt at *;omega),zcP]<;>unfold bt at * <;> omega
theorem all2 (l:Str):allK (zdG l) 2=true↔(128<=bt l 1/\bt l 1<192):=by
 rw [<-zea l 1 (by decide)];simp [allK,List.range_succ,zdG]
theorem all3 (l:Str):allK (zdG l) 3=true↔(128<=bt l 1/\bt l 1<192)/\(128<=bt l 2/\bt l 2<192):=by
 rw [<-zea l 1 (by decide),<-zea l 2 (by decide)];simp [allK,List.range_succ,zdG]
theorem all4 (l:Str):allK (zdG l) 4=true↔(128<=bt l 1/\bt l 1<192)/\(128<=bt l 2/\bt l 2<192)/\(128<=bt l 3/\bt l 3<192):=by
 rw [<-zea l 1 (by decide),<-zea l 2 (by decide),<-zea l 3 (by decide)];simp [allK,List.range_succ,zdG]
theorem zky (l:Str) (n:Nat) (a b:Int):(runM l n a b).2.2=true↔n<=l.length/\allK (zdG l) n=true/\okR (zdb l b (n - 1)) a=true:=by
 unfold runM
 split
 · refine ⟨fun e=>(by cases e),fun e=>absurd e.1 (by omega)⟩
 · split
   · split
     · rename_i h1 h2 h3;exact ⟨fun _=>⟨by omega,h2,h3⟩,fun _=>rfl⟩
     · rename_i h1 h2 h3;exact ⟨fun e=>(by cases e),fun e=>absurd e.2.2 h3⟩
   · rename_i h1 h2;exact ⟨fun e=>(by cases e),fun e=>absurd e.2.1 h2⟩
theorem zhE {r a:Int}:okR r a=true↔a<=r/\r<=1114111/\(r<55296\/57344<=r):=by
 unfold okR;simp only [Bool.not_eq_true',Bool.or_eq_false_iff,Bool.and_eq_false_iff,decide_eq_false_iff_not];omega
theorem zgg (l:Str):ValidU l↔(accN (bt l 0)).1≠0/\(accN (bt l 0)).1<=l.length/\(accN (bt l 0)).2.1<=bt l 1/\bt l 1<=(accN (bt l 0)).2.2/\(3<=(accN (bt l 0)).1->128<=bt l 2/\bt l 2<192)/\(4<=(accN (bt l 0)).1->128<=bt l 3/\bt l 3<192) :=
 ⟨fun ⟨a,b,c,d,e,f⟩=>⟨a,b,c,d,e,f⟩,fun ⟨a,b,c,d,e,f⟩=>⟨a,b,c,d,e,f⟩⟩
theorem zeU {l:Str} (h:128<=bt l 0):(za2 l).2.2=true↔ValidU l:=by
 obtain ⟨g1,g2⟩:=bt_lt l 0
 rcases (show bt l 0<192\/(192<=bt l 0/\bt l 0<224)\/(224<=bt l 0/\bt l 0<240)\/(240<=bt l 0/\bt l 0<248)\/248<=bt l 0 by omega) with c | ⟨c1,c2⟩ | ⟨c1,c2⟩ | ⟨c1,c2⟩ | c
 · rw [znV h (.inl c)]
   refine ⟨fun e=>(by cases e),fun v=>absurd ?_ v.n0⟩
   unfold accN;rw [if_pos (by omega)]
 · rw [zhO h (cls_2 c1 c2) (by decide),zky,all2,zhE,zgg]
   rcases (show bt l 0<194\/194<=bt l 0 by omega) with q | q
   · rw [show accN (bt l 0)=(0,0,0) by unfold accN;rw [if_pos q]]
     refine ⟨fun ⟨e1,e2,e3,_⟩=>?_,fun ⟨e,_⟩=>absurd rfl e⟩
     rw [loop2 (by omega) (by omega) e2] at e3;omega
   · rw [show accN (bt l 0)=(2,128,191) by unfold accN;rw [if_neg (by omega),if_pos c2]]
     refine ⟨fun ⟨e1,e2,e3⟩=>⟨by decide,e1,by show (128:Int)<=bt l 1;omega,by show bt l 1<=191;omega,fun h=>absurd h (by decide),fun h=>absurd h (by decide)⟩,fun ⟨_,e1,e2,e3,_⟩=>?_⟩
     have e2':128<=bt l 1/\bt l 1<192:=by
      have a:(128:Int)<=bt l 1:=e2
      have b:bt l 1<=191:=e3
      omega
     refine ⟨e1,e2',?_⟩
     rw [loop2 (by omega) (by omega) e2'];omega
 · rw [zhO h (zoR c1 c2) (by decide),zky,all3,zhE,zgg]
   have key:∀ lo hi:Int,accN (bt l 0)=(3,lo,hi)->128<=lo->hi<=191->((128<=bt l 1/\bt l 1<192)->((lo<=bt l 1/\bt l 1<=hi)↔∀ z,0<=z->z<64->(2048<=64 * (64 * (bt l 0 - 224)+(bt l 1 - 128))+z/\64 * (64 * (bt l 0 - 224)+(bt l 1 - 128))+z<=1114111/\(64 * (64 * (bt l 0 - 224)+(bt l 1 - 128))+z<55296\/57344<=64 * (64 * (bt l 0 - 224)+(bt l 1 - 128))+z)))) ->
     ((3<=l.length/\((128<=bt l 1/\bt l 1<192)/\128<=bt l 2/\bt l 2<192)/\2048<=zdb l (bt l 0 - 224) (3 - 1)/\zdb l (bt l 0 - 224) (3 - 1)<=1114111/\(zdb l (bt l 0 - 224) (3 - 1)<55296\/57344<=zdb l (bt l 0 - 224) (3 - 1))) ↔
       (accN (bt l 0)).1≠0/\(accN (bt l 0)).1<=l.length/\(accN (bt l 0)).2.1<=bt l 1/\bt l 1<=(accN (bt l 0)).2.2/\(3<=(accN (bt l 0)).1->128<=bt l 2/\bt l 2<192)/\(4<=(accN (bt l 0)).1->128<=bt l 3/\bt l 3<192)):=by
    intro lo hi ha h1 h2 hk
    rw [ha]
    constructor
    · rintro ⟨e1,⟨e2,e3⟩,e4⟩
      rw [show 3 - 1=2 from rfl,loop3 (by omega) (by omega) e2 e3] at e4
      have:=(hk e2).2 (fun z z0 z1=>by omega)
      exact ⟨by show (3:Nat)≠0;decide,e1,this.1,this.2,fun _=>e3,fun h=>absurd (show (4:Nat)<=3 from h) (by decide)⟩
    · rintro ⟨_,e1,e2,e3,e4,_⟩
      simp only at e1 e2 e3 e4
      have e2':128<=bt l 1/\bt l 1<192:=by omega
      have e4':=e4 (by omega)
      refine ⟨e1,⟨e2',e4'⟩,?_⟩
      rw [show 3 - 1=2 from rfl,loop3 (by omega) (by omega) e2' e4']
      exact (hk e2').1 ⟨e2,e3⟩ _ (by omega) (by omega)
   rcases (show bt l 0=224\/bt l 0=237\/(bt l 0≠224/\bt l 0≠237) by omega) with q | q | ⟨q,q'⟩
   · refine key 160 191 (by unfold accN;rw [if_neg (by omega),if_neg (by omega),if_pos q]) (by omega) (by omega) fun hc=>⟨fun hh z h0 h1=>by omega,fun hh=>?_⟩
     have q0:=hh 0 (by omega) (by omega);have q1:=hh 63 (by omega) (by omega);omega
   · refine key 128 159 (by unfold accN;rw [if_neg (by omega),if_neg (by omega),if_neg (by omega),if_pos q]) (by omega) (by omega) fun hc=>⟨fun hh z h0 h1=>by omega,fun hh=>?_⟩
     have q0:=hh 0 (by omega) (by omega);have q1:=hh 63 (by omega) (by omega);omega
   · refine key 128 191 (by unfold accN;rw [if_neg (by omega),if_neg (by omega),if_neg q,if_neg q',if_pos c2]) (by omega) (by omega) fun hc=>⟨fun hh z h0 h1=>by omega,fun hh=>by omega⟩
 · rw [zhO h (zoN c1 c2) (by decide),zky,all4,zhE,zgg]
   have key:∀ lo hi:Int,accN (bt l 0)=(4,lo,hi)->128<=lo->hi<=191->((128<=bt l 1/\bt l 1<192)->((lo<=bt l 1/\bt l 1<=hi)↔∀ z,0<=z->z<4096->(65536<=4096 * (64 * (bt l 0 - 240)+(bt l 1 - 128))+z/\4096 * (64 * (bt l 0 - 240)+(bt l 1 - 128))+z<=1114111/\(4096 * (64 * (bt l 0 - 240)+(bt l 1 - 128))+z<55296\/57344<=4096 * (64 * (bt l 0 - 240)+(bt l 1 - 128))+z)))) ->
     ((4<=l.length/\((128<=bt l 1/\bt l 1<192)/\(128<=bt l 2/\bt l 2<192)/\128<=bt l 3/\bt l 3<192)/\65536<=zdb l (bt l 0 - 240) (4 - 1)/\zdb l (bt l 0 - 240) (4 - 1)<=1114111/\(zdb l (bt l 0 - 240) (4 - 1)<55296\/57344<=zdb l (bt l 0 - 240) (4 - 1))) ↔
       (accN (bt l 0)).1≠0/\(accN (bt l 0)).1<=l.length/\(accN (bt l 0)).2.1<=bt l 1/\bt l 1<=(accN (bt l 0)).2.2/\(3<=(accN (bt l 0)).1->128<=bt l 2/\bt l 2<192)/\(4<=(accN (bt l 0)).1->128<=bt l 3/\bt l 3<192)):=by
    intro lo hi ha h1 h2 hk
    rw [ha]
    constructor
    · rintro ⟨e1,⟨e2,e3,e5⟩,e4⟩
      rw [show 4 - 1=3 from rfl,loop4 (by omega) (by omega) e2 e3 e5] at e4
      have:=(hk e2).2 (fun z z0 z1=>by omega)
      exact ⟨by show (4:Nat)≠0;decide,e1,this.1,this.2,fun _=>e3,fun _=>e5⟩
    · rintro ⟨_,e1,e2,e3,e4,e5⟩
      simp only at e1 e2 e3 e4 e5
      have e2':128<=bt l 1/\bt l 1<192:=by omega
      have e4':=e4 (by omega)
      have e5':=e5 (by omega)
      refine ⟨e1,⟨e2',e4',e5'⟩,?_⟩
      rw [show 4 - 1=3 from rfl,loop4 (by omega) (by omega) e2' e4' e5']
      have:=(hk e2').1 ⟨e2,e3⟩ (64 * (bt l 2 - 128)+(bt l 3 - 128)) (by omega) (by omega)
      omega
   rcases (show bt l 0=240\/(241<=bt l 0/\bt l 0<244)\/bt l 0=244\/245<=bt l 0 by omega) with q | ⟨q,q'⟩ | q | q
   · refine key 144 191 (by unfold accN;rw [if_neg (by omega),if_neg (by omega),if_neg (by omega),if_neg (by omega),if_neg (by omega),if_pos q]) (by omega) (by omega) fun hc=>⟨fun hh z h0 h1=>by omega,fun hh=>?_⟩
     have q0:=hh 0 (by omega) (by omega);omega
   · refine key 128 191 (by unfold accN;rw [if_neg (by omega),if_neg (by omega),if_neg (by omega),if_neg (by omega),if_neg (by omega),if_neg (by omega),if_pos q']) (by omega) (by omega) fun hc=>⟨fun hh z h0 h1=>by omega,fun hh=>by omega⟩
   · refine key 128 143 (by unfold accN;rw [if_neg (by omega),if_neg (by omega),if_neg (by omega),if_neg (by omega),if_neg (by omega),if_neg (by omega),if_neg (by omega),if_pos q]) (by omega) (by omega) fun hc=>⟨fun hh z h0 h1=>by omega,fun hh=>?_⟩
     have q0:=hh 0 (by omega) (by omega);omega
   · rw [show accN (bt l 0)=(0,0,0) by unfold accN;rw [if_neg (by omega),if_neg (by omega),if_neg (by omega),if_neg (by omega),if_neg (by omega),if_neg (by omega),if_neg (by omega),if_neg (by omega)]]
     refine ⟨fun ⟨e1,⟨e2,e3,e5⟩,e4⟩=>?_,fun ⟨e,_⟩=>absurd rfl e⟩
     rw [show 4 - 1=3 from rfl,loop4 (by omega) (by omega) e2 e3 e5] at e4;omega
 · rw [znV h (.inr c)]
   refine ⟨fun e=>(by cases e),fun v=>absurd ?_ v.n0⟩
   unfold accN;rw [if_neg (by omega),if_neg (by omega),if_neg (by omega),if_neg (by omega),if_neg (by omega),if_neg (by omega),if_neg (by omega),if_neg (by omega)]
theorem znR {l:Str} (h:128<=bt l 0) (hv:(za2 l).2.2=true):(za2 l).2.1=((accN (bt l 0)).1:Int)/\(za2 l).1≠0/\2<=(accN (bt l 0)).1:=by
 have v:=(zeU h).1 hv
 have hn:(clsM (bt l 0)).1=(accN (bt l 0)).1/\128<=(clsM (bt l 0)).2.1/\(clsM (bt l 0)).1≠0/\2<=(accN (bt l 0)).1:=by
  have:=v.n0
  obtain ⟨g1,g2⟩:=bt_lt l 0
  rcases (show bt l 0<194\/(194<=bt l 0/\bt l 0<224)\/bt l 0=224\/bt l 0=237\/(224<=bt l 0/\bt l 0<240/\bt l 0≠224/\bt l 0≠237)\/bt l 0=240\/(241<=bt l 0/\bt l 0<244)\/bt l 0=244\/245<=bt l 0 by omega) with q | ⟨q,q2⟩ | q | q | ⟨q,q2,q3,q4⟩ | q | ⟨q,q2⟩ | q | q
  · exact absurd (by unfold accN;rw [if_pos q]) this
  · rw [cls_2 (by omega) q2,show accN (bt l 0)=(2,128,191) by unfold accN;rw [if_neg (by omega),if_pos q2]];simp
  · rw [zoR (by omega) (by omega),show accN (bt l 0)=(3,160,191) by unfold accN;rw [if_neg (by omega),if_neg (by omega),if_pos q]];simp
  · rw [zoR (by omega) (by omega),show accN (bt l 0)=(3,128,159) by unfold accN;rw [if_neg (by omega),if_neg (by omega),if_neg (by omega),if_pos q]];simp
  · rw [zoR (by omega) (by omega),show accN (bt l 0)=(3,128,191) by unfold accN;rw [if_neg (by omega),if_neg (by omega),if_neg q3,if_neg q4,if_pos q2]];simp
  · rw [zoN (by omega) (by omega),show accN (bt l 0)=(4,144,191) by unfold accN;rw [if_neg (by omega),if_neg (by omega),if_neg (by omega),if_neg (by omega),if_neg (by omega),if_pos q]];simp
  · rw [zoN (by omega) (by omega),show accN (bt l 0)=(4,128,191) by unfold accN;rw [if_neg (by omega),if_neg (by omega),if_neg (by omega),if_neg (by omega),if_neg (by omega),if_neg (by omega),if_pos q2]];simp
  · rw [zoN (by omega) (by omega),show accN (bt l 0)=(4,128,143) by unfold accN;rw [if_neg (by omega),if_neg (by omega),if_neg (by omega),if_neg (by omega),if_neg (by omega),if_neg (by omega),if_neg (by omega),if_pos q]];simp
  · exact absurd (by unfold accN;rw [if_neg (by omega),if_neg (by omega),if_neg (by omega),if_neg (by omega),if_neg (by omega),if_neg (by omega),if_neg (by omega),if_neg (by omega)]) this
 obtain ⟨n1,n2,n3,n4⟩:=hn
 have e:=zhO (l:=l) (n:=(clsM (bt l 0)).1) (a:=(clsM (bt l 0)).2.1) (b:=(clsM (bt l 0)).2.2) h rfl n3
 rw [e] at hv ⊢
 obtain ⟨r1,r2,r3⟩:=(zky _ _ _ _).1 hv
 rw [zp6 r1 r2 r3]
 have r4:=zhE.1 r3
 exact ⟨by simp only;omega,by simp only;omega,n4⟩
def xO (a:Nat×Int×Int):Nat:=if a=(2,128,191) then 2 else if a=(3,160,191) then 19 else if a=(3,128,191) then 3 else if a=(3,128,159) then 35 else if a=(4,144,191) then 52 else if a=(4,128,191) then 4 else if a=(4,128,143) then 68 else 241
theorem zmN:∀ k:Nat,k<256->128<=k->Go.Lib.firstT k=xO (accN (k:Int)):=by decide +kernel
theorem zqg {k:Nat} (h:k<256):(List.drop k firstC).getD 0 V.any = .int .u8 (Go.Lib.firstT k):=by
 simp [firstC,List.getD_eq_getElem?_getD,List.getElem?_drop,h]
theorem zdE {l:Str} {n:Nat} {lo hi:Int} (h:128<=bt l 0) (ha:accN (bt l 0)=(n,lo,hi)):(List.drop (l.getD 0 0).toNat firstC).getD 0 V.any = .int .u8 (xO (n,lo,hi)):=by
 rw [zqg (l.getD 0 0).toNat_lt,zmN _ (l.getD 0 0).toNat_lt (by unfold bt at h;omega),<-ha]
theorem zcZ {l:Str} {n:Nat} {lo hi:Int} (h:128<=bt l 0) (ha:accN (bt l 0)=(n,lo,hi)) (hb:n=0\/l.length<n\/((l.getD 1 0).toNat:Int)<lo\/hi<((l.getD 1 0).toNat:Int)\/(3<=n/\(((l.getD 2 0).toNat:Int)<128\/191<((l.getD 2 0).toNat:Int)))\/(4<=n/\(((l.getD 3 0).toNat:Int)<128\/191<((l.getD 3 0).toNat:Int)))):(za2 l).2.2=false:=by
 cases hv:(za2 l).2.2 with
 | false=>rfl
 | true =>
  obtain ⟨a,b,c,d,e,f⟩:=(zeU h).1 hv
  rw [ha] at a b c d e f
  simp only at a b c d e f
  unfold bt at *
  exfalso;omega
theorem zb2 {l:Str} {n:Nat} {lo hi:Int} (h:128<=bt l 0) (ha:accN (bt l 0)=(n,lo,hi)) (h0:n≠0) (h1:n<=l.length) (h2:lo<=((l.getD 1 0).toNat:Int)) (h3:((l.getD 1 0).toNat:Int)<=hi) (h4:3<=n->128<=((l.getD 2 0).toNat:Int)/\((l.getD 2 0).toNat:Int)<=191) (h5:4<=n->128<=((l.getD 3 0).toNat:Int)/\((l.getD 3 0).toNat:Int)<=191) :
  (za2 l).2.2=true/\(za2 l).2.1=(n:Int)/\(2<=n/\n<=l.length)/\(za2 l).1≠0:=by
 have v:ValidU l:=by
  refine ⟨?_,?_,?_,?_,?_,?_⟩<;>rw [ha]<;>(try unfold bt)
  · exact h0
  · exact h1
  · exact h2
  · exact h3
  · exact fun q=>by have:=h4 q;omega
  · exact fun q=>by have:=h5 q;omega
 have hv:=(zeU h).2 v
 obtain ⟨s1,s2,s3⟩:=znR h hv
 rw [ha] at s1 s3
 exact ⟨hv,s1,⟨s3,h1⟩,s2⟩
theorem no_rune (x:Int):IntKind.i32.wrap ((BitVec.ofInt IntKind.i32.bits (IntKind.i32.wrap ((BitVec.ofInt IntKind.i32.bits x &&& ~~~BitVec.ofInt IntKind.i32.bits ((IntKind.i32.wrap (241 * 2 ^ min 31 IntKind.i32.bits)).fdiv (2 ^ min 31 IntKind.i32.bits))).toNat:Int))|||BitVec.ofInt IntKind.i32.bits (IntKind.i32.wrap ((BitVec.ofInt IntKind.i32.bits 65533 &&& BitVec.ofInt IntKind.i32.bits ((IntKind.i32.wrap (241 * 2 ^ min 31 IntKind.i32.bits)).fdiv (2 ^ min 31 IntKind.i32.bits))).toNat:Int))).toNat:Int)=65533:=by
 have e:(IntKind.i32.wrap (241 * 2 ^ min 31 IntKind.i32.bits)).fdiv (2 ^ min 31 IntKind.i32.bits) = -1:=by decide
 have e2 : ~~~BitVec.ofInt IntKind.i32.bits (-1)=0#IntKind.i32.bits:=by decide
 rw [e,e2,BitVec.and_zero]
 decide
attribute [local irreducible] DW SeqD DV DOp DC DVX DVJ
theorem dE1_c2:Int.fdiv 2 (2 ^ min 4 IntKind.u8.bits)=0:=by decide
theorem dE2_c2:IntKind.i64.wrap (IntKind.u8.wrap ↑(BitVec.ofInt IntKind.u8.bits 2 &&& BitVec.ofInt IntKind.u8.bits 7).toNat)=2:=by decide
theorem dE1_e0:Int.fdiv 19 (2 ^ min 4 IntKind.u8.bits)=1:=by decide
theorem dE2_e0:IntKind.i64.wrap (IntKind.u8.wrap ↑(BitVec.ofInt IntKind.u8.bits 19 &&& BitVec.ofInt IntKind.u8.bits 7).toNat)=3:=by decide
theorem acc_e0:List.take 2 (List.drop 2 accC)=[.int .u8 160, .int .u8 191]:=by kernel_rfl
theorem dE1_e1:Int.fdiv 3 (2 ^ min 4 IntKind.u8.bits)=0:=by decide
theorem dE2_e1:IntKind.i64.wrap (IntKind.u8.wrap ↑(BitVec.ofInt IntKind.u8.bits 3 &&& BitVec.ofInt IntKind.u8.bits 7).toNat)=3:=by decide
theorem dE1_ed:Int.fdiv 35 (2 ^ min 4 IntKind.u8.bits)=2:=by decide
theorem dE2_ed:IntKind.i64.wrap (IntKind.u8.wrap ↑(BitVec.ofInt IntKind.u8.bits 35 &&& BitVec.ofInt IntKind.u8.bits 7).toNat)=3:=by decide
theorem acc_ed:List.take 2 (List.drop 4 accC)=[.int .u8 128, .int .u8 159]:=by kernel_rfl
theorem dE1_f0:Int.fdiv 52 (2 ^ min 4 IntKind.u8.bits)=3:=by decide
theorem dE2_f0:IntKind.i64.wrap (IntKind.u8.wrap ↑(BitVec.ofInt IntKind.u8.bits 52 &&& BitVec.ofInt IntKind.u8.bits 7).toNat)=4:=by decide
theorem acc_f0:List.take 2 (List.drop 6 accC)=[.int .u8 144, .int .u8 191]:=by kernel_rfl
theorem dE1_f1:Int.fdiv 4 (2 ^ min 4 IntKind.u8.bits)=0:=by decide
theorem dE2_f1:IntKind.i64.wrap (IntKind.u8.wrap ↑(BitVec.ofInt IntKind.u8.bits 4 &&& BitVec.ofInt IntKind.u8.bits 7).toNat)=4:=by decide
theorem dE1_f4:Int.fdiv 68 (2 ^ min 4 IntKind.u8.bits)=4:=by decide
theorem dE2_f4:IntKind.i64.wrap (IntKind.u8.wrap ↑(BitVec.ofInt IntKind.u8.bits 68 &&& BitVec.ofInt IntKind.u8.bits 7).toNat)=4:=by decide
theorem acc_f4:List.take 2 (List.drop 8 accC)=[.int .u8 128, .int .u8 143]:=by kernel_rfl
theorem dE1_no:Int.fdiv 241 (2 ^ min 4 IntKind.u8.bits)=15:=by decide
theorem dE2_no:IntKind.i64.wrap (IntKind.u8.wrap ↑(BitVec.ofInt IntKind.u8.bits 241 &&& BitVec.ofInt IntKind.u8.bits 7).toNat)=1:=by decide
theorem zaV {P Q:Prop} (q:Q) (h:Hid Q->P:=by (intro q;simp (maxSteps:=1000000) (disch:=omega) only [push_cast,↓reduceIte,reduceCtorEq,Nat.reduceAdd,Nat.reduceMul,Nat.reduceLT,Nat.reduceLeDiff,Nat.reduceEqDiff,Nat.reduceSub,Int.reduceToNat,Int.reduceLT,Int.reduceLE,Int.reduceAdd,Int.reduceSub,Int.reduceMul,Int.reduceNeg,Nat.reduceBEq,Int.reduceBEq,Int.reduceBNe,Nat.reduceBNe,Int.reduceEq,hx];exact q.1)):P:=h ⟨q⟩
section
attribute [local push_cast 2000] u8 zgn zcc zda dE1_c2 dE2_c2 znM zi2 Int.toNat_natCast
theorem znp (l:Str) (F:Own):((1<=l.length/\l.length<=1000000000)/\128<=bt l 0/\accN (bt l 0)=(2,128,191))->DC Tryz.prog 268 [.sl (l.map u8)] ([knF,knA]++F) fun d G=>((d = .tup [.int .i32 65533, .int .i64 1]/\(za2 l).2.2=false)\/(∃ r:Int,∃ n:Nat,(d = .tup [.int .i32 r, .int .i64 (n:Int)]/\(za2 l).2.2=true)/\(za2 l).2.1=(n:Int)/\(2<=n/\n<=l.length)/\(za2 l).1≠0))/\G=[knF,knA]++F:=by
 intro hA
 obtain ⟨⟨hl,hl2⟩,h0,ha⟩:=hA
 refine DC.bodyS (n_:=122) (show Tryz.prog.funcs[268]? = some Tryz.f268 by kernel_rfl) rfl rfl (by rfl) ?_
 simp only [env0,List.cons_append,List.nil_append]
 have kw:=ksIs [0,2,3,4,5,6,7,8,9,10,11,12,16,24,47,60,62,79,81,103]
 have ow:=zai []
 have q0:=u8_b (l.getD 0 0);have q1:=u8_b (l.getD 1 0);have q2:=u8_b (l.getD 2 0);have q3:=u8_b (l.getD 3 0)
 have hx:=zdE h0 ha
 simp only [show xO (2,128,191)=2 from rfl,Int.cast_ofNat_Int] at hx
 repeat' (first
  | refine g_ ?_
  | ((with_reducible refine And.intro ?_ ?_);(exact sv))
  | (refine DW.cond (by rfl) ?_ ?_<;>(first | exact i0_ | (intro hb;(try simp only [↓reduceCtorEq,not_true_eq_false,not_false_eq_true,hbs,Int.reduceBEq,Int.reduceBNe,Int.reduceEq] at hb);(try refine zaV ?_))))
  | ((with_reducible refine zaa ?_ ?_)<;>(intro hb;rw [hb];revert hb;(first | exact i0_ | (intro hb;(try simp only [↓reduceCtorEq,not_true_eq_false,not_false_eq_true,hbs,Int.reduceBEq,Int.reduceBNe,Int.reduceEq] at hb);(try refine zaV ?_)))))
  | ((first | refine rn_ ?_ | refine kn_ ?_)<;>(refine zaV ?_))
  | ((first | (refine DOp.loadk_ rfl rfl ?_;(repeat (with_reducible first | apply OnK.here | apply OnK.next));(fail_if_success (with_reducible apply zf4))))<;>(refine zaV ?_))
  | ((refine on_ ?_);refine zaV ?_)
  | refine f_ ?_
  | with_reducible intro b)
 all_goals first
 | ((refine ⟨_,_,le.rfl_,⟨.inl ⟨rfl,zcZ h0 ha (by omega)⟩,rfl⟩,?_⟩;exact sub_;done))
 | ((refine ⟨_,_,le.rfl_,⟨.inr ⟨_,2,⟨rfl,(zb2 h0 ha (by decide) (by omega) (by omega) (by omega) (fun q=>by omega) (fun q=>by omega)).1⟩,(zb2 h0 ha (by decide) (by omega) (by omega) (by omega) (fun q=>by omega) (fun q=>by omega)).2⟩,rfl⟩,?_⟩;exact sub_;done))
end
section
attribute [local push_cast 2000] u8 zgn zcc zda dE1_e0 dE2_e0 acc_e0 Int.toNat_natCast
theorem zmk (l:Str) (F:Own):((1<=l.length/\l.length<=1000000000)/\128<=bt l 0/\accN (bt l 0)=(3,160,191))->DC Tryz.prog 268 [.sl (l.map u8)] ([knF,knA]++F) fun d G=>((d = .tup [.int .i32 65533, .int .i64 1]/\(za2 l).2.2=false)\/(∃ r:Int,∃ n:Nat,(d = .tup [.int .i32 r, .int .i64 (n:Int)]/\(za2 l).2.2=true)/\(za2 l).2.1=(n:Int)/\(2<=n/\n<=l.length)/\(za2 l).1≠0))/\G=[knF,knA]++F:=by
 intro hA
 obtain ⟨⟨hl,hl2⟩,h0,ha⟩:=hA
 refine DC.bodyS (n_:=122) (show Tryz.prog.funcs[268]? = some Tryz.f268 by kernel_rfl) rfl rfl (by rfl) ?_
 simp only [env0,List.cons_append,List.nil_append]
 have kw:=ksIs [0,2,3,4,5,6,7,8,9,10,11,12,16,24,47,60,62,79,81,103]
 have ow:=zai []
 have q0:=u8_b (l.getD 0 0);have q1:=u8_b (l.getD 1 0);have q2:=u8_b (l.getD 2 0);have q3:=u8_b (l.getD 3 0)
 have hx:=zdE h0 ha
 simp only [show xO (3,160,191)=19 from rfl,Int.cast_ofNat_Int] at hx
 repeat' (first
  | refine g_ ?_
  | ((with_reducible refine And.intro ?_ ?_);(exact sv))
  | (refine DW.cond (by rfl) ?_ ?_<;>(first | exact i0_ | (intro hb;(try simp only [↓reduceCtorEq,not_true_eq_false,not_false_eq_true,hbs,Int.reduceBEq,Int.reduceBNe,Int.reduceEq] at hb);(try refine zaV ?_))))
  | ((with_reducible refine zaa ?_ ?_)<;>(intro hb;rw [hb];revert hb;(first | exact i0_ | (intro hb;(try simp only [↓reduceCtorEq,not_true_eq_false,not_false_eq_true,hbs,Int.reduceBEq,Int.reduceBNe,Int.reduceEq] at hb);(try refine zaV ?_)))))
  | ((first | refine rn_ ?_ | refine kn_ ?_)<;>(refine zaV ?_))
  | ((first | (refine DOp.loadk_ rfl rfl ?_;(repeat (with_reducible first | apply OnK.here | apply OnK.next));(fail_if_success (with_reducible apply zf4))))<;>(refine zaV ?_))
  | ((refine on_ ?_);refine zaV ?_)
  | refine f_ ?_
  | with_reducible intro b)
 all_goals first
 | ((refine ⟨_,_,le.rfl_,⟨.inl ⟨rfl,zcZ h0 ha (by omega)⟩,rfl⟩,?_⟩;exact sub_;done))
 | ((refine ⟨_,_,le.rfl_,⟨.inr ⟨_,3,⟨rfl,(zb2 h0 ha (by decide) (by omega) (by omega) (by omega) (fun q=>by omega) (fun q=>by omega)).1⟩,(zb2 h0 ha (by decide) (by omega) (by omega) (by omega) (fun q=>by omega) (fun q=>by omega)).2⟩,rfl⟩,?_⟩;exact sub_;done))
end
section
attribute [local push_cast 2000] u8 zgn zcc zda dE1_e1 dE2_e1 znM zi2 Int.toNat_natCast
theorem zmE (l:Str) (F:Own):((1<=l.length/\l.length<=1000000000)/\128<=bt l 0/\accN (bt l 0)=(3,128,191))->DC Tryz.prog 268 [.sl (l.map u8)] ([knF,knA]++F) fun d G=>((d = .tup [.int .i32 65533, .int .i64 1]/\(za2 l).2.2=false)\/(∃ r:Int,∃ n:Nat,(d = .tup [.int .i32 r, .int .i64 (n:Int)]/\(za2 l).2.2=true)/\(za2 l).2.1=(n:Int)/\(2<=n/\n<=l.length)/\(za2 l).1≠0))/\G=[knF,knA]++F:=by
 intro hA
 obtain ⟨⟨hl,hl2⟩,h0,ha⟩:=hA
 refine DC.bodyS (n_:=122) (show Tryz.prog.funcs[268]? = some Tryz.f268 by kernel_rfl) rfl rfl (by rfl) ?_
 simp only [env0,List.cons_append,List.nil_append]
 have kw:=ksIs [0,2,3,4,5,6,7,8,9,10,11,12,16,24,47,60,62,79,81,103]
 have ow:=zai []
 have q0:=u8_b (l.getD 0 0);have q1:=u8_b (l.getD 1 0);have q2:=u8_b (l.getD 2 0);have q3:=u8_b (l.getD 3 0)
 have hx:=zdE h0 ha
 simp only [show xO (3,128,191)=3 from rfl,Int.cast_ofNat_Int] at hx
 repeat' (first
  | refine g_ ?_
  | ((with_reducible refine And.intro ?_ ?_);(exact sv))
  | (refine DW.cond (by rfl) ?_ ?_<;>(first | exact i0_ | (intro hb;(try simp only [↓reduceCtorEq,not_true_eq_false,not_false_eq_true,hbs,Int.reduceBEq,Int.reduceBNe,Int.reduceEq] at hb);(try refine zaV ?_))))
  | ((with_reducible refine zaa ?_ ?_)<;>(intro hb;rw [hb];revert hb;(first | exact i0_ | (intro hb;(try simp only [↓reduceCtorEq,not_true_eq_false,not_false_eq_true,hbs,Int.reduceBEq,Int.reduceBNe,Int.reduceEq] at hb);(try refine zaV ?_)))))
  | ((first | refine rn_ ?_ | refine kn_ ?_)<;>(refine zaV ?_))
  | ((first | (refine DOp.loadk_ rfl rfl ?_;(repeat (with_reducible first | apply OnK.here | apply OnK.next));(fail_if_success (with_reducible apply zf4))))<;>(refine zaV ?_))
  | ((refine on_ ?_);refine zaV ?_)
  | refine f_ ?_
  | with_reducible intro b)
 all_goals first
 | ((refine ⟨_,_,le.rfl_,⟨.inl ⟨rfl,zcZ h0 ha (by omega)⟩,rfl⟩,?_⟩;exact sub_;done))
 | ((refine ⟨_,_,le.rfl_,⟨.inr ⟨_,3,⟨rfl,(zb2 h0 ha (by decide) (by omega) (by omega) (by omega) (fun q=>by omega) (fun q=>by omega)).1⟩,(zb2 h0 ha (by decide) (by omega) (by omega) (by omega) (fun q=>by omega) (fun q=>by omega)).2⟩,rfl⟩,?_⟩;exact sub_;done))
end
section
attribute [local push_cast 2000] u8 zgn zcc zda dE1_ed dE2_ed acc_ed Int.toNat_natCast
theorem znk (l:Str) (F:Own):((1<=l.length/\l.length<=1000000000)/\128<=bt l 0/\accN (bt l 0)=(3,128,159))->DC Tryz.prog 268 [.sl (l.map u8)] ([knF,knA]++F) fun d G=>((d = .tup [.int .i32 65533, .int .i64 1]/\(za2 l).2.2=false)\/(∃ r:Int,∃ n:Nat,(d = .tup [.int .i32 r, .int .i64 (n:Int)]/\(za2 l).2.2=true)/\(za2 l).2.1=(n:Int)/\(2<=n/\n<=l.length)/\(za2 l).1≠0))/\G=[knF,knA]++F:=by
 intro hA
 obtain ⟨⟨hl,hl2⟩,h0,ha⟩:=hA
 refine DC.bodyS (n_:=122) (show Tryz.prog.funcs[268]? = some Tryz.f268 by kernel_rfl) rfl rfl (by rfl) ?_
 simp only [env0,List.cons_append,List.nil_append]
 have kw:=ksIs [0,2,3,4,5,6,7,8,9,10,11,12,16,24,47,60,62,79,81,103]
 have ow:=zai []
 have q0:=u8_b (l.getD 0 0);have q1:=u8_b (l.getD 1 0);have q2:=u8_b (l.getD 2 0);have q3:=u8_b (l.getD 3 0)
 have hx:=zdE h0 ha
 simp only [show xO (3,128,159)=35 from rfl,Int.cast_ofNat_Int] at hx
 repeat' (first
  | refine g_ ?_
  | ((with_reducible refine And.intro ?_ ?_);(exact sv))
  | (refine DW.cond (by rfl) ?_ ?_<;>(first | exact i0_ | (intro hb;(try simp only [↓reduceCtorEq,not_true_eq_false,not_false_eq_true,hbs,Int.reduceBEq,Int.reduceBNe,Int.reduceEq] at hb);(try refine zaV ?_))))
  | ((with_reducible refine zaa ?_ ?_)<;>(intro hb;rw [hb];revert hb;(first | exact i0_ | (intro hb;(try simp only [↓reduceCtorEq,not_true_eq_false,not_false_eq_true,hbs,Int.reduceBEq,Int.reduceBNe,Int.reduceEq] at hb);(try refine zaV ?_)))))
  | ((first | refine rn_ ?_ | refine kn_ ?_)<;>(refine zaV ?_))
  | ((first | (refine DOp.loadk_ rfl rfl ?_;(repeat (with_reducible first | apply OnK.here | apply OnK.next));(fail_if_success (with_reducible apply zf4))))<;>(refine zaV ?_))
  | ((refine on_ ?_);refine zaV ?_)
  | refine f_ ?_
  | with_reducible intro b)
 all_goals first
 | ((refine ⟨_,_,le.rfl_,⟨.inl ⟨rfl,zcZ h0 ha (by omega)⟩,rfl⟩,?_⟩;exact sub_;done))
 | ((refine ⟨_,_,le.rfl_,⟨.inr ⟨_,3,⟨rfl,(zb2 h0 ha (by decide) (by omega) (by omega) (by omega) (fun q=>by omega) (fun q=>by omega)).1⟩,(zb2 h0 ha (by decide) (by omega) (by omega) (by omega) (fun q=>by omega) (fun q=>by omega)).2⟩,rfl⟩,?_⟩;exact sub_;done))
end
section
attribute [local push_cast 2000] u8 zgn zcc zda dE1_f0 dE2_f0 acc_f0 Int.toNat_natCast
theorem zmr (l:Str) (F:Own):((1<=l.length/\l.length<=1000000000)/\128<=bt l 0/\accN (bt l 0)=(4,144,191))->DC Tryz.prog 268 [.sl (l.map u8)] ([knF,knA]++F) fun d G=>((d = .tup [.int .i32 65533, .int .i64 1]/\(za2 l).2.2=false)\/(∃ r:Int,∃ n:Nat,(d = .tup [.int .i32 r, .int .i64 (n:Int)]/\(za2 l).2.2=true)/\(za2 l).2.1=(n:Int)/\(2<=n/\n<=l.length)/\(za2 l).1≠0))/\G=[knF,knA]++F:=by
 intro hA
 obtain ⟨⟨hl,hl2⟩,h0,ha⟩:=hA
 refine DC.bodyS (n_:=122) (show Tryz.prog.funcs[268]? = some Tryz.f268 by kernel_rfl) rfl rfl (by rfl) ?_
 simp only [env0,List.cons_append,List.nil_append]
 have kw:=ksIs [0,2,3,4,5,6,7,8,9,10,11,12,16,24,47,60,62,79,81,103]
 have ow:=zai []
 have q0:=u8_b (l.getD 0 0);have q1:=u8_b (l.getD 1 0);have q2:=u8_b (l.getD 2 0);have q3:=u8_b (l.getD 3 0)
 have hx:=zdE h0 ha
 simp only [show xO (4,144,191)=52 from rfl,Int.cast_ofNat_Int] at hx
 repeat' (first
  | refine g_ ?_
  | ((with_reducible refine And.intro ?_ ?_);(exact sv))
  | (refine DW.cond (by rfl) ?_ ?_<;>(first | exact i0_ | (intro hb;(try simp only [↓reduceCtorEq,not_true_eq_false,not_false_eq_true,hbs,Int.reduceBEq,Int.reduceBNe,Int.reduceEq] at hb);(try refine zaV ?_))))
  | ((with_reducible refine zaa ?_ ?_)<;>(intro hb;rw [hb];revert hb;(first | exact i0_ | (intro hb;(try simp only [↓reduceCtorEq,not_true_eq_false,not_false_eq_true,hbs,Int.reduceBEq,Int.reduceBNe,Int.reduceEq] at hb);(try refine zaV ?_)))))
  | ((first | refine rn_ ?_ | refine kn_ ?_)<;>(refine zaV ?_))
  | ((first | (refine DOp.loadk_ rfl rfl ?_;(repeat (with_reducible first | apply OnK.here | apply OnK.next));(fail_if_success (with_reducible apply zf4))))<;>(refine zaV ?_))
  | ((refine on_ ?_);refine zaV ?_)
  | refine f_ ?_
  | with_reducible intro b)
 all_goals first
 | ((refine ⟨_,_,le.rfl_,⟨.inl ⟨rfl,zcZ h0 ha (by omega)⟩,rfl⟩,?_⟩;exact sub_;done))
 | ((refine ⟨_,_,le.rfl_,⟨.inr ⟨_,4,⟨rfl,(zb2 h0 ha (by decide) (by omega) (by omega) (by omega) (fun q=>by omega) (fun q=>by omega)).1⟩,(zb2 h0 ha (by decide) (by omega) (by omega) (by omega) (fun q=>by omega) (fun q=>by omega)).2⟩,rfl⟩,?_⟩;exact sub_;done))
end
section
attribute [local push_cast 2000] u8 zgn zcc zda dE1_f1 dE2_f1 znM zi2 Int.toNat_natCast
theorem zmF (l:Str) (F:Own):((1<=l.length/\l.length<=1000000000)/\128<=bt l 0/\accN (bt l 0)=(4,128,191))->DC Tryz.prog 268 [.sl (l.map u8)] ([knF,knA]++F) fun d G=>((d = .tup [.int .i32 65533, .int .i64 1]/\(za2 l).2.2=false)\/(∃ r:Int,∃ n:Nat,(d = .tup [.int .i32 r, .int .i64 (n:Int)]/\(za2 l).2.2=true)/\(za2 l).2.1=(n:Int)/\(2<=n/\n<=l.length)/\(za2 l).1≠0))/\G=[knF,knA]++F:=by
 intro hA
 obtain ⟨⟨hl,hl2⟩,h0,ha⟩:=hA
 refine DC.bodyS (n_:=122) (show Tryz.prog.funcs[268]? = some Tryz.f268 by kernel_rfl) rfl rfl (by rfl) ?_
 simp only [env0,List.cons_append,List.nil_append]
 have kw:=ksIs [0,2,3,4,5,6,7,8,9,10,11,12,16,24,47,60,62,79,81,103]
 have ow:=zai []
 have q0:=u8_b (l.getD 0 0);have q1:=u8_b (l.getD 1 0);have q2:=u8_b (l.getD 2 0);have q3:=u8_b (l.getD 3 0)
 have hx:=zdE h0 ha
 simp only [show xO (4,128,191)=4 from rfl,Int.cast_ofNat_Int] at hx
 repeat' (first
  | refine g_ ?_
  | ((with_reducible refine And.intro ?_ ?_);(exact sv))
  | (refine DW.cond (by rfl) ?_ ?_<;>(first | exact i0_ | (intro hb;(try simp only [↓reduceCtorEq,not_true_eq_false,not_false_eq_true,hbs,Int.reduceBEq,Int.reduceBNe,Int.reduceEq] at hb);(try refine zaV ?_))))
  | ((with_reducible refine zaa ?_ ?_)<;>(intro hb;rw [hb];revert hb;(first | exact i0_ | (intro hb;(try simp only [↓reduceCtorEq,not_true_eq_false,not_false_eq_true,hbs,Int.reduceBEq,Int.reduceBNe,Int.reduceEq] at hb);(try refine zaV ?_)))))
  | ((first | refine rn_ ?_ | refine kn_ ?_)<;>(refine zaV ?_))
  | ((first | (refine DOp.loadk_ rfl rfl ?_;(repeat (with_reducible first | apply OnK.here | apply OnK.next));(fail_if_success (with_reducible apply zf4))))<;>(refine zaV ?_))
  | ((refine on_ ?_);refine zaV ?_)
  | refine f_ ?_
  | with_reducible intro b)
 all_goals first
 | ((refine ⟨_,_,le.rfl_,⟨.inl ⟨rfl,zcZ h0 ha (by omega)⟩,rfl⟩,?_⟩;exact sub_;done))
 | ((refine ⟨_,_,le.rfl_,⟨.inr ⟨_,4,⟨rfl,(zb2 h0 ha (by decide) (by omega) (by omega) (by omega) (fun q=>by omega) (fun q=>by omega)).1⟩,(zb2 h0 ha (by decide) (by omega) (by omega) (by omega) (fun q=>by omega) (fun q=>by omega)).2⟩,rfl⟩,?_⟩;exact sub_;done))
end
section
attribute [local push_cast 2000] u8 zgn zcc zda dE1_f4 dE2_f4 acc_f4 Int.toNat_natCast
theorem zmO (l:Str) (F:Own):((1<=l.length/\l.length<=1000000000)/\128<=bt l 0/\accN (bt l 0)=(4,128,143))->DC Tryz.prog 268 [.sl (l.map u8)] ([knF,knA]++F) fun d G=>((d = .tup [.int .i32 65533, .int .i64 1]/\(za2 l).2.2=false)\/(∃ r:Int,∃ n:Nat,(d = .tup [.int .i32 r, .int .i64 (n:Int)]/\(za2 l).2.2=true)/\(za2 l).2.1=(n:Int)/\(2<=n/\n<=l.length)/\(za2 l).1≠0))/\G=[knF,knA]++F:=by
 intro hA
 obtain ⟨⟨hl,hl2⟩,h0,ha⟩:=hA
 refine DC.bodyS (n_:=122) (show Tryz.prog.funcs[268]? = some Tryz.f268 by kernel_rfl) rfl rfl (by rfl) ?_
 simp only [env0,List.cons_append,List.nil_append]
 have kw:=ksIs [0,2,3,4,5,6,7,8,9,10,11,12,16,24,47,60,62,79,81,103]
 have ow:=zai []
 have q0:=u8_b (l.getD 0 0);have q1:=u8_b (l.getD 1 0);have q2:=u8_b (l.getD 2 0);have q3:=u8_b (l.getD 3 0)
 have hx:=zdE h0 ha
 simp only [show xO (4,128,143)=68 from rfl,Int.cast_ofNat_Int] at hx
 repeat' (first
  | refine g_ ?_
  | ((with_reducible refine And.intro ?_ ?_);(exact sv))
  | (refine DW.cond (by rfl) ?_ ?_<;>(first | exact i0_ | (intro hb;(try simp only [↓reduceCtorEq,not_true_eq_false,not_false_eq_true,hbs,Int.reduceBEq,Int.reduceBNe,Int.reduceEq] at hb);(try refine zaV ?_))))
  | ((with_reducible refine zaa ?_ ?_)<;>(intro hb;rw [hb];revert hb;(first | exact i0_ | (intro hb;(try simp only [↓reduceCtorEq,not_true_eq_false,not_false_eq_true,hbs,Int.reduceBEq,Int.reduceBNe,Int.reduceEq] at hb);(try refine zaV ?_)))))
  | ((first | refine rn_ ?_ | refine kn_ ?_)<;>(refine zaV ?_))
  | ((first | (refine DOp.loadk_ rfl rfl ?_;(repeat (with_reducible first | apply OnK.here | apply OnK.next));(fail_if_success (with_reducible apply zf4))))<;>(refine zaV ?_))
  | ((refine on_ ?_);refine zaV ?_)
  | refine f_ ?_
  | with_reducible intro b)
 all_goals first
 | ((refine ⟨_,_,le.rfl_,⟨.inl ⟨rfl,zcZ h0 ha (by omega)⟩,rfl⟩,?_⟩;exact sub_;done))
 | ((refine ⟨_,_,le.rfl_,⟨.inr ⟨_,4,⟨rfl,(zb2 h0 ha (by decide) (by omega) (by omega) (by omega) (fun q=>by omega) (fun q=>by omega)).1⟩,(zb2 h0 ha (by decide) (by omega) (by omega) (by omega) (fun q=>by omega) (fun q=>by omega)).2⟩,rfl⟩,?_⟩;exact sub_;done))
end
section
attribute [local push_cast 2000] u8 zgn zcc zda dE1_no dE2_no znM zi2 Int.toNat_natCast
theorem zn4 (l:Str) (F:Own):((1<=l.length/\l.length<=1000000000)/\128<=bt l 0/\accN (bt l 0)=(0,0,0))->DC Tryz.prog 268 [.sl (l.map u8)] ([knF,knA]++F) fun d G=>((d = .tup [.int .i32 65533, .int .i64 1]/\(za2 l).2.2=false)\/(∃ r:Int,∃ n:Nat,(d = .tup [.int .i32 r, .int .i64 (n:Int)]/\(za2 l).2.2=true)/\(za2 l).2.1=(n:Int)/\(2<=n/\n<=l.length)/\(za2 l).1≠0))/\G=[knF,knA]++F:=by
 intro hA
 obtain ⟨⟨hl,hl2⟩,h0,ha⟩:=hA
 refine DC.bodyS (n_:=122) (show Tryz.prog.funcs[268]? = some Tryz.f268 by kernel_rfl) rfl rfl (by rfl) ?_
 simp only [env0,List.cons_append,List.nil_append]
 have kw:=ksIs [0,2,3,4,5,6,7,8,9,10,11,12,16,24,47,60,62,79,81,103]
 have ow:=zai []
 have q0:=u8_b (l.getD 0 0);have q1:=u8_b (l.getD 1 0);have q2:=u8_b (l.getD 2 0);have q3:=u8_b (l.getD 3 0)
 have hx:=zdE h0 ha
 simp only [show xO (0,0,0)=241 from rfl,Int.cast_ofNat_Int] at hx
 repeat' (first
  | refine g_ ?_
  | ((with_reducible refine And.intro ?_ ?_);(exact sv))
  | (refine DW.cond (by rfl) ?_ ?_<;>(first | exact i0_ | (intro hb;(try simp only [↓reduceCtorEq,not_true_eq_false,not_false_eq_true,hbs,Int.reduceBEq,Int.reduceBNe,Int.reduceEq] at hb);(try refine zaV ?_))))
  | ((with_reducible refine zaa ?_ ?_)<;>(intro hb;rw [hb];revert hb;(first | exact i0_ | (intro hb;(try simp only [↓reduceCtorEq,not_true_eq_false,not_false_eq_true,hbs,Int.reduceBEq,Int.reduceBNe,Int.reduceEq] at hb);(try refine zaV ?_)))))
  | ((first | refine rn_ ?_ | refine kn_ ?_)<;>(refine zaV ?_))
  | ((first | (refine DOp.loadk_ rfl rfl ?_;(repeat (with_reducible first | apply OnK.here | apply OnK.next));(fail_if_success (with_reducible apply zf4))))<;>(refine zaV ?_))
  | ((refine on_ ?_);refine zaV ?_)
  | refine f_ ?_
  | with_reducible intro b)
 all_goals first
 | ((rw [no_rune];(refine ⟨_,_,le.rfl_,⟨.inl ⟨rfl,zcZ h0 ha (by omega)⟩,rfl⟩,?_⟩;exact sub_;done)))
end
end
section
attribute [local irreducible] DW SeqD DV DOp DC DVX
theorem zp0 (l:List UInt8):List.take l.length (List.map u8 l)=List.map u8 l:=List.take_of_length_le (by simp)
theorem decS_dc (l:Str) (F:Own):((1<=l.length/\l.length<=1000000000)/\128<=bt l 0)->DC Tryz.prog 268 [.sl (l.map u8)] ([knF,knA]++F) fun d G=>((d = .tup [.int .i32 65533, .int .i64 1]/\(za2 l).2.2=false)\/(∃ r:Int,∃ n:Nat,(d = .tup [.int .i32 r, .int .i64 (n:Int)]/\(za2 l).2.2=true)/\(za2 l).2.1=(n:Int)/\(2<=n/\n<=l.length)/\(za2 l).1≠0))/\G=[knF,knA]++F:=fun ⟨hl,h0⟩=>by
 have hx:accN (bt l 0)=accN (bt l 0):=rfl
 conv at hx=>rhs;unfold accN
 repeat' split at hx
 all_goals first
 | exact znp l F ⟨hl,h0,hx⟩
 | exact zmk l F ⟨hl,h0,hx⟩
 | exact zmE l F ⟨hl,h0,hx⟩
 | exact znk l F ⟨hl,h0,hx⟩
 | exact zmr l F ⟨hl,h0,hx⟩
 | exact zmF l F ⟨hl,h0,hx⟩
 | exact zmO l F ⟨hl,h0,hx⟩
 | exact zn4 l F ⟨hl,h0,hx⟩
section
attribute [local push_cast 2000] u8 zgn
theorem decR_dc (l:Str) (F:Own):(1<=l.length/\l.length<=1000000000)->DC Tryz.prog 237 [.sl (l.map u8)] ([knF,knA]++F) fun d G=>((bt l 0<128/\d = .tup [.int .i32 (bt l 0), .int .i64 1])\/128<=bt l 0/\((d = .tup [.int .i32 65533, .int .i64 1]/\(za2 l).2.2=false)\/(∃ r:Int,∃ n:Nat,(d = .tup [.int .i32 r, .int .i64 (n:Int)]/\(za2 l).2.2=true)/\(za2 l).2.1=(n:Int)/\(2<=n/\n<=l.length)/\(za2 l).1≠0)))/\G=[knF,knA]++F:=by
 intro hA
 obtain ⟨hl,hl2⟩:=hA
 refine DC.bodyS (n_:=22) (show Tryz.prog.funcs[237]? = some Tryz.f237 by kernel_rfl) rfl rfl (by rfl) ?_
 simp only [env0,List.cons_append,List.nil_append]
 have kw:=ksIs [0,2,3,5,6,7,8,9,13]
 have ow:=zai []
 have q0:=u8_b (l.getD 0 0)
 repeat' (first
  | ((with_reducible refine DW.loopB 0 (X:=Nat) (fun x=>x<=0) (fun x=>[(0, .sl (l.map u8)),(6, .sl (l.map u8)),(7, .int .i64 (l.length:Int)),(8, .int .i64 x)]) (fun x=>[knF,knA]) (fun x=>0 - x) (0) ?_ ?_ ?_);exact (Nat.zero_le _);(simp [Sub,get,zbn]<;>fail);(try simp only [List.cons_append,List.nil_append]);refine pl_ ?_;intro k hk;(try simp only [List.cons_append,List.nil_append]);obtain rfl:k=0:=by omega)
  | refine g_ ?_
  | ((with_reducible refine And.intro ?_ ?_);(exact sv))
  | (refine DW.cond (by rfl) ?_ ?_<;>(first | exact i0_ | (refine ic_ ?_;intro hb)))
  | ((with_reducible refine zaa ?_ ?_)<;>(intro hb;rw [hb];revert hb;(first | exact i0_ | (refine i_ ?_;intro hb))))
  | refine r_ ?_
  | refine k_ ?_
  | (refine p_ (decS_dc _ _) ?_;rintro d H1 ⟨⟨rfl,hv⟩ | ⟨r,n,⟨rfl,hv⟩,hs⟩,rfl⟩<;>refine s_ ?_)
  | refine o_ ?_
  | refine f_ ?_
  | with_reducible intro b)
 all_goals first
 | ((refine ⟨_,_,le.rfl_,⟨.inl ⟨by show ((l.getD 0 0).toNat:Int)<128;omega,rfl⟩,rfl⟩,?_⟩;exact sub_;done))
 | ((refine ⟨_,_,le.rfl_,⟨.inr ⟨by show 128<=((l.getD 0 0).toNat:Int);omega, .inl ⟨rfl,hv⟩⟩,rfl⟩,?_⟩;exact sub_;done))
 | ((refine ⟨_,_,le.rfl_,⟨.inr ⟨by show 128<=((l.getD 0 0).toNat:Int);omega, .inr ⟨r,n,⟨rfl,hv⟩,hs⟩⟩,rfl⟩,?_⟩;exact sub_;done))
 | (trivial)
 | (exfalso;omega)
end
theorem zjU (l:Str) (k:Nat):bt (l.drop k) 0=((l.getD k 0).toNat:Int):=by unfold bt;simp [List.getD_eq_getElem?_getD,List.getElem?_drop]
theorem decP_dc (l:Str) (k:Nat) (F:Own):(k<l.length/\l.length<=1000000000)->DC Tryz.prog 237 [.sl ((l.map u8).drop k)] ([knF,knA]++F) fun d G =>
  (((((l.getD k 0).toNat:Int)<128/\(za2 (l.drop k)).2.2=true/\(za2 (l.drop k)).1=((l.getD k 0).toNat:Int)/\(za2 (l.drop k)).2.1=1)/\d = .tup [.int .i32 ((l.getD k 0).toNat:Int), .int .i64 1])\/((128<=((l.getD k 0).toNat:Int)/\(za2 (l.drop k)).2.2=false)/\d = .tup [.int .i32 65533, .int .i64 1]) \/
    ∃ r:Int,∃ n:Nat,(128<=((l.getD k 0).toNat:Int)/\(za2 (l.drop k)).2.2=true/\(za2 (l.drop k)).1≠0/\(za2 (l.drop k)).2.1=(n:Int)/\2<=n/\k+n<=l.length)/\d = .tup [.int .i32 r, .int .i64 (n:Int)])/\G=[knF,knA]++F:=fun ⟨h1,h2⟩=>by
 have hm:(l.map u8).drop k=(l.drop k).map u8:=List.map_drop.symm
 rw [hm]
 refine (decR_dc (l.drop k) F ⟨by rw [List.length_drop];omega,by rw [List.length_drop];omega⟩).mono fun d G ⟨h,hG⟩=>⟨?_,hG⟩
 rw [zjU] at h
 rcases h with ⟨a,rfl⟩ | ⟨a,⟨rfl,b⟩ | ⟨r,n,⟨rfl,b⟩,c1,c2,c3⟩⟩
 · have e:=stepM_1 (l:=l.drop k) (by show bt (l.drop k) 0<128;rw [zjU];exact a)
   have e2:(((l.drop k).getD 0 0).toNat:Int)=((l.getD k 0).toNat:Int):=zjU l k
   rw [e2] at e
   exact .inl ⟨⟨a,by rw [e],by rw [e],by rw [e]⟩,rfl⟩
 · exact .inr (.inl ⟨⟨a,b⟩,rfl⟩)
 · rw [List.length_drop] at c2
   exact .inr (.inr ⟨r,n,⟨a,b,c3,c1,c2.1,by omega⟩,rfl⟩)
attribute [local irreducible] za2
section
attribute [local push_cast 2000] u8 zp0 zgn
theorem zq0 (l:Str) (F:Own):(l.length<=1000000000)->DC Tryz.prog 190 [.sl (l.map u8)] ([knF,knA]++F) fun d G=>∃ i:Int,d = .int .i64 i/\decide (i<0)=chkB l/\G=[knF,knA]++F:=by
 intro hA
 have hl:=hA
 refine DC.bodyS (n_:=34) (show Tryz.prog.funcs[190]? = some Tryz.f190 by kernel_rfl) rfl rfl (by rfl) ?_
 simp only [env0,List.cons_append,List.nil_append]
 have kw:=ksIs [0,2,3,4,5,9,29]
 have ow:=zai []
 repeat' (first
  | ((with_reducible refine DW.loopB 0 (X:=Nat) (fun x=>x<=l.length/\∃ f,l.length - x<=f/\chkB l=chkF f (l.drop x)) (fun x=>[(0, .sl (l.map u8)),(3, .int .i64 x)]) (fun x=>[knF,knA]) (fun x=>l.length - x) (0) ?_ ?_ ?_);exact (⟨Nat.zero_le _,l.length,by omega,by rw [List.drop_zero];rfl⟩);(simp [Sub,get,zbn]<;>fail);(try simp only [List.cons_append,List.nil_append]);refine pl_ ?_;intro k ⟨hk,f,hf,ha⟩;(try simp only [List.cons_append,List.nil_append]);have q0:=u8_b (l.getD k 0))
  | refine g_ ?_
  | ((with_reducible refine And.intro ?_ ?_);(exact sv))
  | (refine DW.cond (by rfl) ?_ ?_<;>(first | exact i0_ | (refine ic_ ?_;intro hb)))
  | ((with_reducible refine zaa ?_ ?_)<;>(intro hb;rw [hb];revert hb;(first | exact i0_ | (refine i_ ?_;intro hb))))
  | refine r_ ?_
  | refine k_ ?_
  | (refine p_ (decP_dc _ _ _) ?_;rintro d H1 ⟨⟨⟨c0,c1,c2,c3⟩,rfl⟩ | ⟨⟨c0,c1⟩,rfl⟩ | ⟨r,n,⟨c0,c1,c2,c3,c4,c5⟩,rfl⟩,rfl⟩<;>refine s_ ?_)
  | refine o_ ?_
  | refine f_ ?_
  | with_reducible intro b)
 all_goals first
 | (have hkl:k=l.length:=by omega
    subst hkl
    rw [List.drop_length,zpR] at ha
    refine ⟨_,_,le.rfl_,⟨-1,rfl,by rw [ha];rfl,rfl⟩,?_⟩;exact sub_;done)
 | (have hb2:=chk_bad (show k<l.length by omega) hf (by first | (left;assumption) | (right;omega))
    rw [hb2] at ha
    refine ⟨_,_,le.rfl_,⟨(k:Int),rfl,by rw [ha];exact decide_eq_false (by omega),rfl⟩,?_⟩;exact sub_;done)
 | (exact absurd trivial hb)
 | (obtain ⟨m,g,e1,e2,e3,e4,e5⟩:=zq6 (show k<l.length by omega) hf c1 (by omega)
    obtain rfl:m=1:=by omega
    refine ⟨k+1,⟨e3,g,e4,by rw [ha,e5]⟩,by omega,?_,?_⟩;(simp [Sub,get]<;>fail);(exact sub_);done)
 | (obtain ⟨m,g,e1,e2,e3,e4,e5⟩:=zq6 (show k<l.length by omega) hf c1 (by omega)
    obtain rfl:m=n:=by omega
    refine ⟨k+m,⟨e3,g,e4,by rw [ha,e5]⟩,by omega,?_,?_⟩;(simp [Sub,get]<;>fail);(exact sub_);done)
 | (exfalso;omega)
end
section
attribute [local push_cast 2000] u8
theorem zkP (l:Str) (F:Own):(l.length<=1000000000)->DC Tryz.prog 144 [.str l] ([knF,knA]++F) fun d G=>d = .bool (zdT l)/\G=[knF,knA]++F:=by
 intro hA
 have hl:=hA
 refine DC.bodyS (n_:=16) (show Tryz.prog.funcs[144]? = some Tryz.f144 by kernel_rfl) rfl rfl (by rfl) ?_
 simp only [env0,List.cons_append,List.nil_append]
 have kw:=ksIs [0,2]
 have ow:=zai []
 repeat' (first
  | refine g_ ?_
  | ((with_reducible refine And.intro ?_ ?_);(exact sv))
  | (refine DW.cond (by rfl) ?_ ?_<;>(first | exact i0_ | (refine ic_ ?_;intro hb)))
  | ((with_reducible refine zaa ?_ ?_)<;>(intro hb;rw [hb];revert hb;(first | exact i0_ | (refine i_ ?_;intro hb))))
  | refine r_ ?_
  | refine k_ ?_
  | (refine p_ (zq0 _ _) ?_;rintro d H1 ⟨i,rfl,hi1,rfl⟩<;>refine s_ ?_)
  | refine o_ ?_
  | refine f_ ?_
  | with_reducible intro b)
 all_goals first
 | (have e:zdT l=false:=by unfold zdT;first | (rw [decide_eq_false (show ¬ l.length<=65535 by omega)];simp) | (rw [(by assumption:l=[])];rfl)
    rw [e];(first | exact fin_ | refine finq_ ?_);done)
 | (have hne:1<=l.length:=by rcases Nat.eq_zero_or_pos l.length with h | h;(exact absurd (List.length_eq_zero_iff.1 h) (by assumption));exact h
    have e:zdT l=chkB l:=by unfold zdT;rw [decide_eq_true hne,decide_eq_true (by omega)];rfl
    rw [e,<-hi1];(first | exact fin_ | refine finq_ ?_);done)
end
end
end Go.Proofs.YtgekknefphagbaaGreatDoor
