/- A text is what the document says. -/
import Derived.Test.YtgekknefphagbaaGreatDoorPtfx
import Derived.KernelRfl
import Derived.Test.YtgekknefphagbaaGreatDoorRf3x
import Derived.Shelf.Strings.Split
import Derived.Test.YtgekknefphagbaaGreatDoorFxx
import Derived.Sort.Walk0
namespace Go.Proofs.YtgekknefphagbaaGreatDoor
open Go.RowKit
set_option linter.unusedSimpArgs false
set_option linter.unusedVariables false
set_option linter.unusedSectionVars false
set_option maxHeartbeats 4000000
set_option maxRecDepth 100000
section
attribute [local irreducible] DW SeqD DV DOp DC DVX
theorem zpJ (l:List UInt8):List.take l.length (List.map u8 l)=List.map u8 l:=List.take_of_length_le (by simp)
theorem decS_dc (l:Str) (F:Own):((1<=l.length/\l.length<=1000000000)/\128<=bt l 0)->DC Tryz.prog 268 [.sl (l.map u8)] ([knF,knA]++F) fun d G=>((d = .tup [.int .i32 65533, .int .i64 1]/\(za9 l).2.2=false)\/(∃ r:Int,∃ n:Nat,(d = .tup [.int .i32 r, .int .i64 (n:Int)]/\(za9 l).2.2=true)/\(za9 l).2.1=(n:Int)/\(2<=n/\n<=l.length)/\(za9 l).1≠0))/\G=[knF,knA]++F:=fun ⟨hl,h0⟩=>by
 have hx:accN (bt l 0)=accN (bt l 0):=rfl
 conv at hx=>rhs;unfold accN
 repeat' split at hx
 all_goals first
 | exact znt l F ⟨hl,h0,hx⟩
 | exact zol l F ⟨hl,h0,hx⟩
 | exact znG l F ⟨hl,h0,hx⟩
 | exact zmX l F ⟨hl,h0,hx⟩
 | exact znZ l F ⟨hl,h0,hx⟩
 | exact zmT l F ⟨hl,h0,hx⟩
 | exact znk l F ⟨hl,h0,hx⟩
 | exact zmN l F ⟨hl,h0,hx⟩
section
attribute [local push_cast 2000] u8 zgC
theorem decR_dc (l:Str) (F:Own):(1<=l.length/\l.length<=1000000000)->DC Tryz.prog 237 [.sl (l.map u8)] ([knF,knA]++F) fun d G=>((bt l 0<128/\d = .tup [.int .i32 (bt l 0), .int .i64 1])\/128<=bt l 0/\((d = .tup [.int .i32 65533, .int .i64 1]/\(za9 l).2.2=false)\/(∃ r:Int,∃ n:Nat,(d = .tup [.int .i32 r, .int .i64 (n:Int)]/\(za9 l).2.2=true)/\(za9 l).2.1=(n:Int)/\(2<=n/\n<=l.length)/\(za9 l).1≠0)))/\G=[knF,knA]++F:=by
 intro hA
 obtain ⟨hl,hl2⟩:=hA
 refine DC.bodyS (n_:=22) (show Tryz.prog.funcs[237]? = some Tryz.f237 by kernel_rfl) rfl rfl (by rfl) ?_
 simp only [env0,List.cons_append,List.nil_append]
 have kw:=ksIs [0,2,3,5,6,7,8,9,13]
 have ow:=zai []
 have q0:=u8_b (l.getD 0 0)
 repeat' (first
  | ((with_reducible refine DW.loopB 0 (X:=Nat) (fun x=>x<=0) (fun x=>[(0, .sl (l.map u8)),(6, .sl (l.map u8)),(7, .int .i64 (l.length:Int)),(8, .int .i64 x)]) (fun x=>[knF,knA]) (fun x=>0 - x) (0) ?_ ?_ ?_);exact (Nat.zero_le _);(simp [Sub,get,zbu]<;>fail);(try simp only [List.cons_append,List.nil_append]);refine pl_ ?_;intro k hk;(try simp only [List.cons_append,List.nil_append]);obtain rfl:k=0:=by omega)
  | refine g_ ?_
  | ((with_reducible refine And.intro ?_ ?_);(exact sv))
  | (refine DW.cond (by rfl) ?_ ?_<;>(first | exact i0_ | (refine ic_ ?_;intro hb)))
  | ((with_reducible refine zaa ?_ ?_)<;>(intro hb;rw [hb];revert hb;(first | exact i0_ | (refine i_ ?_;intro hb))))
  | refine r_ ?_
  | refine k_ ?_
  | (refine p_ (decS_dc _ _) ?_;rintro d H1 ⟨⟨rfl,hv⟩ | ⟨r,n,⟨rfl,hv⟩,hs⟩,rfl⟩<;>refine s_ ?_)
  | refine o_ ?_
  | refine f_ ?_
  | with_reducible intro b)
 all_goals first
 | ((refine ⟨_,_,le.rfl_,⟨.inl ⟨by show ((l.getD 0 0).toNat:Int)<128;omega,rfl⟩,rfl⟩,?_⟩;exact sub_;done))
 | ((refine ⟨_,_,le.rfl_,⟨.inr ⟨by show 128<=((l.getD 0 0).toNat:Int);omega, .inl ⟨rfl,hv⟩⟩,rfl⟩,?_⟩;exact sub_;done))
 | ((refine ⟨_,_,le.rfl_,⟨.inr ⟨by show 128<=((l.getD 0 0).toNat:Int);omega, .inr ⟨r,n,⟨rfl,hv⟩,hs⟩⟩,rfl⟩,?_⟩;exact sub_;done))
 | (trivial)
 | (exfalso;omega)
end
theorem zjM (l:Str) (k:Nat):bt (l.drop k) 0=((l.getD k 0).toNat:Int):=by unfold bt;simp [List.getD_eq_getElem?_getD,List.getElem?_drop]
theorem decP_dc (l:Str) (k:Nat) (F:Own):(k<l.length/\l.length<=1000000000)->DC Tryz.prog 237 [.sl ((l.map u8).drop k)] ([knF,knA]++F) fun d G =>
  (((((l.getD k 0).toNat:Int)<128/\(za9 (l.drop k)).2.2=true/\(za9 (l.drop k)).1=((l.getD k 0).toNat:Int)/\(za9 (l.drop k)).2.1=1)/\d = .tup [.int .i32 ((l.getD k 0).toNat:Int), .int .i64 1])\/((128<=((l.getD k 0).toNat:Int)/\(za9 (l.drop k)).2.2=false)/\d = .tup [.int .i32 65533, .int .i64 1]) \/
    ∃ r:Int,∃ n:Nat,(128<=((l.getD k 0).toNat:Int)/\(za9 (l.drop k)).2.2=true/\(za9 (l.drop k)).1≠0/\(za9 (l.drop k)).2.1=(n:Int)/\2<=n/\k+n<=l.length)/\d = .tup [.int .i32 r, .int .i64 (n:Int)])/\G=[knF,knA]++F:=fun ⟨h1,h2⟩=>by
 have hm:(l.map u8).drop k=(l.drop k).map u8:=List.map_drop.symm
 rw [hm]
 refine (decR_dc (l.drop k) F ⟨by rw [List.length_drop];omega,by rw [List.length_drop];omega⟩).mono fun d G ⟨h,hG⟩=>⟨?_,hG⟩
 rw [zjM] at h
 rcases h with ⟨a,rfl⟩ | ⟨a,⟨rfl,b⟩ | ⟨r,n,⟨rfl,b⟩,c1,c2,c3⟩⟩
 · have e:=stepM_1 (l:=l.drop k) (by show bt (l.drop k) 0<128;rw [zjM];exact a)
   have e2:(((l.drop k).getD 0 0).toNat:Int)=((l.getD k 0).toNat:Int):=zjM l k
   rw [e2] at e
   exact .inl ⟨⟨a,by rw [e],by rw [e],by rw [e]⟩,rfl⟩
 · exact .inr (.inl ⟨⟨a,b⟩,rfl⟩)
 · rw [List.length_drop] at c2
   exact .inr (.inr ⟨r,n,⟨a,b,c3,c1,c2.1,by omega⟩,rfl⟩)
attribute [local irreducible] za9
section
attribute [local push_cast 2000] u8 zpJ zgC
theorem zq0 (l:Str) (F:Own):(l.length<=1000000000)->DC Tryz.prog 190 [.sl (l.map u8)] ([knF,knA]++F) fun d G=>∃ i:Int,d = .int .i64 i/\decide (i<0)=chkB l/\G=[knF,knA]++F:=by
 intro hA
 have hl:=hA
 refine DC.bodyS (n_:=34) (show Tryz.prog.funcs[190]? = some Tryz.f190 by kernel_rfl) rfl rfl (by rfl) ?_
 simp only [env0,List.cons_append,List.nil_append]
 have kw:=ksIs [0,2,3,4,5,9,29]
 have ow:=zai []
 repeat' (first
  | ((with_reducible refine DW.loopB 0 (X:=Nat) (fun x=>x<=l.length/\∃ f,l.length - x<=f/\chkB l=chkF f (l.drop x)) (fun x=>[(0, .sl (l.map u8)),(3, .int .i64 x)]) (fun x=>[knF,knA]) (fun x=>l.length - x) (0) ?_ ?_ ?_);exact (⟨Nat.zero_le _,l.length,by omega,by rw [List.drop_zero];rfl⟩);(simp [Sub,get,zbu]<;>fail);(try simp only [List.cons_append,List.nil_append]);refine pl_ ?_;intro k ⟨hk,f,hf,ha⟩;(try simp only [List.cons_append,List.nil_append]);have q0:=u8_b (l.getD k 0))
  | refine g_ ?_
  | ((with_reducible refine And.intro ?_ ?_);(exact sv))
  | (refine DW.cond (by rfl) ?_ ?_<;>(first | exact i0_ | (refine ic_ ?_;intro hb)))
  | ((with_reducible refine zaa ?_ ?_)<;>(intro hb;rw [hb];revert hb;(first | exact i0_ | (refine i_ ?_;intro hb))))
  | refine r_ ?_
  | refine k_ ?_
  | (refine p_ (decP_dc _ _ _) ?_;rintro d H1 ⟨⟨⟨c0,c1,c2,c3⟩,rfl⟩ | ⟨⟨c0,c1⟩,rfl⟩ | ⟨r,n,⟨c0,c1,c2,c3,c4,c5⟩,rfl⟩,rfl⟩<;>refine s_ ?_)
  | refine o_ ?_
  | refine f_ ?_
  | with_reducible intro b)
 all_goals first
 | (have hkl:k=l.length:=by omega
    subst hkl
    rw [List.drop_length,zqj] at ha
    refine ⟨_,_,le.rfl_,⟨-1,rfl,by rw [ha];rfl,rfl⟩,?_⟩;exact sub_;done)
 | (have hb2:=chk_bad (show k<l.length by omega) hf (by first | (left;assumption) | (right;omega))
    rw [hb2] at ha
    refine ⟨_,_,le.rfl_,⟨(k:Int),rfl,by rw [ha];exact decide_eq_false (by omega),rfl⟩,?_⟩;exact sub_;done)
 | (exact absurd trivial hb)
 | (obtain ⟨m,g,e1,e2,e3,e4,e5⟩:=zqH (show k<l.length by omega) hf c1 (by omega)
    obtain rfl:m=1:=by omega
    refine ⟨k+1,⟨e3,g,e4,by rw [ha,e5]⟩,by omega,?_,?_⟩;(simp [Sub,get]<;>fail);(exact sub_);done)
 | (obtain ⟨m,g,e1,e2,e3,e4,e5⟩:=zqH (show k<l.length by omega) hf c1 (by omega)
    obtain rfl:m=n:=by omega
    refine ⟨k+m,⟨e3,g,e4,by rw [ha,e5]⟩,by omega,?_,?_⟩;(simp [Sub,get]<;>fail);(exact sub_);done)
 | (exfalso;omega)
end
section
attribute [local push_cast 2000] u8
theorem zkD (l:Str) (F:Own):(l.length<=1000000000)->DC Tryz.prog 144 [.str l] ([knF,knA]++F) fun d G=>d = .bool (zdD l)/\G=[knF,knA]++F:=by
 intro hA
 have hl:=hA
 refine DC.bodyS (n_:=16) (show Tryz.prog.funcs[144]? = some Tryz.f144 by kernel_rfl) rfl rfl (by rfl) ?_
 simp only [env0,List.cons_append,List.nil_append]
 have kw:=ksIs [0,2]
 have ow:=zai []
 repeat' (first
  | refine g_ ?_
  | ((with_reducible refine And.intro ?_ ?_);(exact sv))
  | (refine DW.cond (by rfl) ?_ ?_<;>(first | exact i0_ | (refine ic_ ?_;intro hb)))
  | ((with_reducible refine zaa ?_ ?_)<;>(intro hb;rw [hb];revert hb;(first | exact i0_ | (refine i_ ?_;intro hb))))
  | refine r_ ?_
  | refine k_ ?_
  | (refine p_ (zq0 _ _) ?_;rintro d H1 ⟨i,rfl,hi1,rfl⟩<;>refine s_ ?_)
  | refine o_ ?_
  | refine f_ ?_
  | with_reducible intro b)
 all_goals first
 | (have e:zdD l=false:=by unfold zdD;first | (rw [decide_eq_false (show ¬ l.length<=65535 by omega)];simp) | (rw [(by assumption:l=[])];rfl)
    rw [e];(first | exact fin_ | refine finq_ ?_);done)
 | (have hne:1<=l.length:=by rcases Nat.eq_zero_or_pos l.length with h | h;(exact absurd (List.length_eq_zero_iff.1 h) (by assumption));exact h
    have e:zdD l=chkB l:=by unfold zdD;rw [decide_eq_true hne,decide_eq_true (by omega)];rfl
    rw [e,<-hi1];(first | exact fin_ | refine finq_ ?_);done)
end
end
section
theorem zhy {l:List UInt8} {i:Nat} (h:i<l.length):l.drop i=l.getD i 0::l.drop (i+1):=by
 rw [List.drop_eq_getElem_cons h];simp [List.getD_eq_getElem?_getD,h]
theorem bs_getW (s:List UInt8) (k:Nat):(bs s).get! k=s.getD k 0:=by
 unfold bs ByteArray.get!
 simp [List.getD_eq_getElem?_getD]
 rfl
theorem zi1 {l:List UInt8}:∀ {w k:Nat},(∀ j,j<w->k+j<l.length/\128<=(l.getD (k+j) 0).toNat)->zc2 (l.drop k)=zc2 (l.drop (k+w))
 | 0,k,_=>rfl
 | w+1,k,h=>by
  have h0:=h 0 (by omega)
  rw [Nat.add_zero] at h0
  rw [zhy h0.1]
  unfold zc2
  rw [List.any_cons]
  have e1:(l.getD k 0==43)=false:=by
   rw [beq_eq_false_iff_ne];intro e;rw [e] at h0;exact absurd h0.2 (by decide)
  have e2:(l.getD k 0==35)=false:=by
   rw [beq_eq_false_iff_ne];intro e;rw [e] at h0;exact absurd h0.2 (by decide)
  rw [e1,e2]
  have:=zi1 (l:=l) (w:=w) (k:=k+1) (fun j hj=>by have:=h (j+1) (by omega);rwa [show k+(j+1)=k+1+j by omega] at this)
  unfold zc2 at this
  rw [Bool.or_self,Bool.false_or,this,show k+1+w=k+(w+1) by omega]
theorem zoT {l:List UInt8} {k:Nat} (hi:k<l.length):((l.getD k 0).toNat<128/\zeq l k=(l.getD k 0).toNat/\zcU l k=1)\/(128<=zeq l k/\1<=zcU l k/\∀ j,j<zcU l k->k+j<l.length/\128<=(l.getD (k+j) 0).toNat):=by
 unfold zeq zcU Utf8.decode
 simp only [Nat.add_zero,bs_getW]
 have hsz:(bs l).size=l.length:=by simp [bs,ByteArray.size]
 rw [hsz]
 rcases Nat.lt_or_ge (l.getD k 0).toNat 128 with h0 | h0
 · rw [if_pos h0];exact .inl ⟨h0,rfl,rfl⟩
 · rw [if_neg (by omega)]
   refine .inr ?_
   have one:∀ j,j<1->k+j<l.length/\128<=(l.getD (k+j) 0).toNat:=fun j hj=>by
    obtain rfl:j=0:=by omega
    exact ⟨hi,h0⟩
   have cont:∀ j,(decide (k+j<l.length)&&((l.getD (k+j) 0).toNat / 64==2))=true->k+j<l.length/\128<=(l.getD (k+j) 0).toNat:=fun j h=>by
    simp only [Bool.and_eq_true,decide_eq_true_eq,beq_iff_eq] at h
    exact ⟨h.1,by omega⟩
   split
   · rename_i hc
     simp only [Bool.and_eq_true,beq_iff_eq] at hc
     have c1:=cont 1 (by simp only [Bool.and_eq_true,beq_iff_eq];exact hc.2)
     split
     · rename_i h2
       refine ⟨by simp only;omega,by simp only;omega,fun j hj=>?_⟩
       simp only at hj
       rcases (show j=0\/j=1 by omega) with rfl | rfl
       · exact ⟨hi,h0⟩
       · exact c1
     · exact ⟨by decide,by decide,one⟩
   · split
     · rename_i hc
       simp only [Bool.and_eq_true,beq_iff_eq] at hc
       have c1:=cont 1 (by simp only [Bool.and_eq_true,beq_iff_eq];exact hc.1.2)
       have c2:=cont 2 (by simp only [Bool.and_eq_true,beq_iff_eq];exact hc.2)
       split
       · rename_i h2
         simp only [Bool.and_eq_true,decide_eq_true_eq] at h2
         refine ⟨by simp only;omega,by simp only;omega,fun j hj=>?_⟩
         simp only at hj
         rcases (show j=0\/j=1\/j=2 by omega) with rfl | rfl | rfl
         · exact ⟨hi,h0⟩
         · exact c1
         · exact c2
       · exact ⟨by decide,by decide,one⟩
     · split
       · rename_i hc
         simp only [Bool.and_eq_true,beq_iff_eq] at hc
         have c1:=cont 1 (by simp only [Bool.and_eq_true,beq_iff_eq];exact hc.1.1.2)
         have c2:=cont 2 (by simp only [Bool.and_eq_true,beq_iff_eq];exact hc.1.2)
         have c3:=cont 3 (by simp only [Bool.and_eq_true,beq_iff_eq];exact hc.2)
         split
         · rename_i h2
           simp only [Bool.and_eq_true,decide_eq_true_eq] at h2
           refine ⟨by simp only;omega,by simp only;omega,fun j hj=>?_⟩
           simp only at hj
           rcases (show j=0\/j=1\/j=2\/j=3 by omega) with rfl | rfl | rfl | rfl
           · exact ⟨hi,h0⟩
           · exact c1
           · exact c2
           · exact c3
         · exact ⟨by decide,by decide,one⟩
       · exact ⟨by decide,by decide,one⟩
theorem zkl {l:List UInt8} {k:Nat}:(l.length<=k/\zc2 (l.drop k)=false)\/(k<l.length/\1<=zcU l k/\k+zcU l k<=l.length/\zc2 (l.drop k)=(((zeq l k:Int)==43||(zeq l k:Int)==35)||zc2 (l.drop (k+zcU l k)))):=by
 rcases Nat.lt_or_ge k l.length with hi | hi
 · refine .inr ⟨hi,?_⟩
   rcases zoT hi with ⟨h0,h1,h2⟩ | ⟨h1,h2,h3⟩
   · rw [h1,h2]
     refine ⟨Nat.le_refl _,by omega,?_⟩
     rw [zhy hi]
     unfold zc2
     rw [List.any_cons]
     congr 1
     have q (n:UInt8):(l.getD k 0==n)=(((l.getD k 0).toNat:Int)==(n.toNat:Int)):=by
      rw [Bool.eq_iff_iff]
      simp only [beq_iff_eq]
      constructor
      · intro e;rw [e]
      · intro e;exact UInt8.toNat_inj.1 (by omega)
     rw [q 43,q 35]
     rfl
   · have h4:=(h3 (zcU l k - 1) (by omega)).1
     refine ⟨h2,by omega,?_⟩
     have e1:((zeq l k:Int)==43)=false:=by rw [beq_eq_false_iff_ne];omega
     have e2:((zeq l k:Int)==35)=false:=by rw [beq_eq_false_iff_ne];omega
     rw [e1,e2,zi1 h3];rfl
 · refine .inl ⟨hi,?_⟩
   rw [List.drop_of_length_le hi];rfl
def spl:Str->List Str
 | []=>[[]]
 | c::l=>if c=47 then []::spl l else (c::(spl l).headD [])::(spl l).tail
theorem zkJ (l:Str):spl l=(spl l).headD []::(spl l).tail:=by
 cases l with
 | nil=>rfl
 | cons c l=>unfold spl;split<;>rfl
theorem zkO:∀ {l:Str},(∀ k:Nat,l[k]? ≠ some 47)->spl l=[l]
 | [],_=>rfl
 | c::l,h=>by
  have h0:c≠47:=fun e=>h 0 (by simp [e])
  unfold spl;rw [if_neg h0,zkO fun k=>by have:=h (k+1);simpa using this];rfl
theorem zmq:∀ {l:Str} {i:Nat},l[i]? = some 47->(∀ k:Nat,k<i->l[k]? ≠ some 47)->spl l=l.take i::spl (l.drop (i+1))
 | [],i,h,_=>by simp at h
 | c::l,0,h,_=>by
  have:c=47:=by simpa using h
  conv=>lhs;unfold spl
  rw [if_pos this];simp
 | c::l,i+1,h,h2=>by
  have h0:c≠47:=fun e=>h2 0 (by omega) (by simp [e])
  have ih:=zmq (l:=l) (i:=i) (by simpa using h) fun k hk=>by have:=h2 (k+1) (by omega);simpa using this
  conv=>lhs;unfold spl
  rw [if_neg h0,ih];simp
theorem zq9 (l:Str) (a b:Nat):(bs l).extract a b=bs ((l.take b).drop a):=by
 unfold bs
 apply ByteArray.ext
 simp [ByteArray.data_extract,List.drop_take]
theorem zjG (l:Str):(bs l).data.toList=l:=by simp [bs]
theorem ziA (l:Str):Lib.indexB (bs l) (bs [47])=Lib.indexByte l 47:=by
 rw [Lib.one _ _ (by decide),zjG];rfl
theorem zfK:∀ (n:Nat) (l:Str),l.length<=n->levs l=spl l:=by
 intro n
 induction n with
 | zero =>
  intro l h
  obtain rfl:l=[]:=List.length_eq_zero_iff.1 (by omega)
  rfl
 | succ n ih =>
  intro l h
  have hge:=Lib.indexByte_ge l 47
  rcases (show Lib.indexByte l 47 = -1\/0<=Lib.indexByte l 47 by omega) with hi | hi
  · have hb:Lib.indexB (bs l) (bs [47]) = -1:=by rw [ziA,hi]
    unfold levs
    rw [Lib.countB_miss _ _ hb,Lib.splitB_zero]
    simp only [List.map_cons,List.map_nil,zjG]
    exact (zkO (Lib.indexByte_none hi)).symm
  · obtain ⟨i,hi⟩:=Int.eq_ofNat_of_zero_le hi
    have hb:Lib.indexB (bs l) (bs [47])=(i:Int):=by rw [ziA,hi]
    obtain ⟨h1,h2⟩:=Lib.indexByte_some hi
    have hlt:i<l.length:=by
     rcases Nat.lt_or_ge i l.length with h3 | h3
     · exact h3
     · rw [List.getElem?_eq_none h3] at h1;cases h1
    have e:(bs l).extract (i+(bs [47]).size) (bs l).size=bs (l.drop (i+1)):=by
     rw [zq9]
     have:(bs l).size=l.length:=by simp [bs,ByteArray.size]
     rw [this,List.take_length];rfl
    have e0:(bs l).extract 0 (i+0)=bs (l.take i):=by rw [zq9];simp
    rw [zmq h1 h2,<-ih (l.drop (i+1)) (by rw [List.length_drop];omega)]
    unfold levs
    rw [Lib.countB_hit _ _ i (by decide) hb,Nat.add_comm,Lib.splitB_hit _ _ _ _ i hb,e,e0]
    simp only [List.map_cons,zjG]
theorem zia:∀ (t:Str) (acc:List Str) (x:Str),t.foldl zcK (acc++[x])=acc++((x++(spl t).headD [])::(spl t).tail)
 | [],acc,x=>by simp [spl]
 | c::t,acc,x=>by
  rw [List.foldl_cons]
  by_cases hc:(c.toNat:Int)=47
  · rw [zmZ hc,zia t (acc++[x]) []]
    have:c=47:=UInt8.toNat_inj.1 (by have:(47:UInt8).toNat=47:=rfl;omega)
    have e:spl (c::t)=[]::spl t:=by rw [spl,if_pos this]
    rw [e]
    simp only [List.nil_append,List.headD_cons,List.tail_cons,List.append_nil,List.append_assoc,List.singleton_append]
    rw [<-zkJ]
  · have:c≠47:=fun e=>hc (by rw [e];rfl)
    have e:spl (c::t)=(c::(spl t).headD [])::(spl t).tail:=by rw [spl,if_neg this]
    rw [zmJ hc,e]
    have e2:(acc++[x]).set ((acc++[x]).length - 1) ((acc++[x]).getD ((acc++[x]).length - 1) []++[c])=acc++[x++[c]]:=by
     simp [List.getD_eq_getElem?_getD]
    rw [e2,zia t acc (x++[c])]
    simp
theorem zfI (t:Str):lev t t.length=levs t:=by
 rw [zfK t.length t (Nat.le_refl _)]
 unfold lev
 rw [List.take_length]
 have:=zia t [] []
 simp only [List.nil_append] at this
 rw [this,<-zkJ]
theorem zkN (t:Str) (c:UInt8):hasC t (c.toNat:Int)=t.any fun x=>x==c:=by
 unfold hasC anyK hasAt
 rw [Bool.eq_iff_iff,List.any_eq_true,List.any_eq_true]
 constructor
 · rintro ⟨i,hi,h⟩
   rw [List.mem_range] at hi
   refine ⟨t[i],List.getElem_mem hi,?_⟩
   simp [List.getD_eq_getElem?_getD,hi] at h
   rw [beq_iff_eq];exact UInt8.toNat_inj.1 (by omega)
 · rintro ⟨x,hx,h⟩
   obtain ⟨i,hi,rfl⟩:=List.getElem_of_mem hx
   refine ⟨i,List.mem_range.2 hi,?_⟩
   rw [beq_iff_eq] at h
   simp [List.getD_eq_getElem?_getD,hi,h]
theorem zjm (t:Str):(hasC t 43||hasC t 35)=zc2 t:=by
 have a:=zkN t 43
 have b:=zkN t 35
 have a:hasC t 43=_:=a
 have b:hasC t 35=_:=b
 rw [a,b]
 unfold zc2
 rw [Bool.eq_iff_iff,Bool.or_eq_true,List.any_eq_true,List.any_eq_true,List.any_eq_true]
 constructor
 · rintro (⟨x,h1,h2⟩ | ⟨x,h1,h2⟩)
   · exact ⟨x,h1,by rw [h2];rfl⟩
   · exact ⟨x,h1,by rw [h2];simp⟩
 · rintro ⟨x,h1,h2⟩
   rcases Bool.or_eq_true_iff.1 h2 with h | h
   · exact .inl ⟨x,h1,h⟩
   · exact .inr ⟨x,h1,h⟩
theorem zjA (t:Str):zbD t=(zdD t && !zc2 t):=by
 unfold zbD
 rw [<-zjm]
 cases zdD t<;>cases hasC t 43<;>cases hasC t 35<;>rfl
theorem zk1 {L:List Str} {i:Nat} (h:i<L.length):okAt L i=zp4 L i:=by
 unfold okAt zp4
 have e0:L.getD i default=L.getD i []:=rfl
 rw [e0]
 generalize L.getD i []=x
 by_cases h1:x=[43]
 · subst h1
   have a:hasC [43] 43=true:=by decide
   have b:hasC [43] 35=false:=by decide
   rw [a,b];simp
 · by_cases h2:x=[35]
   · subst h2
     have a:hasC [35] 43=false:=by decide
     have b:hasC [35] 35=true:=by decide
     have c:zc2 [35]=true:=by decide
     rw [a,b,c]
     rw [Bool.eq_iff_iff];simp;omega
   · have e1:(x==[43])=false:=beq_eq_false_iff_ne.2 h1
     have e2:(x==[35])=false:=beq_eq_false_iff_ne.2 h2
     have e3:(x != [43])=true:=by rw [bne,e1];rfl
     have e4:(x != [35])=true:=by rw [bne,e2];rfl
     rw [e1,e2,e3,e4,<-zjm]
     cases hasC x 43<;>cases hasC x 35<;>rfl
theorem zdH (t:Str):filterB t=(zdD t&&okF (levs t)):=by
 unfold filterB okF
 rw [zfI]
 congr 1
 rw [Bool.eq_iff_iff]
 unfold allK
 rw [List.all_eq_true,List.all_eq_true]
 constructor
 · intro h i hi;rw [zk1 (List.mem_range.1 hi)];exact h i hi
 · intro h i hi;rw [<-zk1 (List.mem_range.1 hi)];exact h i hi
theorem zfl (l:Str):(levs l).length<=l.length+1/\∀ k,((levs l).getD k default).length<=l.length:=by
 rw [<-zfI]
 exact ⟨(lev_len (Nat.le_refl _)).2,fun k=>zm5 (Nat.le_refl _) k⟩
attribute [local irreducible] DW SeqD DV DOp DC DVX DVJ zdD zc2
theorem idxW_dc (l:List UInt8) (F:Own):(l.length<=1000000000)->DC Tryz.prog 253 [.str l, .fn (.func 143) [] [], .bool true] (([]:Own)++F) fun d G=>((d = .int .i64 (-1)/\zc2 l=false)\/(∃ k:Nat,d = .int .i64 k/\zc2 l=true))/\G=[]++F:=by
 intro hA
 have hl:=hA
 refine DC.bodyS (n_:=21) (show Tryz.prog.funcs[253]? = some Tryz.f253 by kernel_rfl) rfl rfl (by rfl) ?_
 simp only [env0,List.cons_append,List.nil_append]
 have kw:=ksIs [0,1,2,6,7,8,10,11,12,19]
 have ow:=zai []
 repeat' (first
  | ((with_reducible refine DW.loopB 0 (X:=Nat) (fun x=>x<=l.length/\zc2 (l.drop x)=zc2 l) (fun x=>[(1, .fn (.func 143) [] []),(2, .bool true),(10, .raw (.pointer (some ⟨b,0,none⟩)))]) (fun x=>.siter b l x::([]:Own)) (fun x=>l.length - x) (0) ?_ ?_ ?_);exact (⟨Nat.zero_le _,rfl⟩);(simp [Sub,get,zbu]<;>fail);(try simp only [List.cons_append,List.nil_append]);refine pl_ ?_;intro k ⟨hk,hwk⟩;(try simp only [List.cons_append,List.nil_append]);rcases zkl (l:=l) (k:=k) with ⟨q0,q1⟩ | ⟨q0,q1,q2,q4⟩)
  | refine g_ ?_
  | ((with_reducible refine And.intro ?_ ?_);(exact sv))
  | (refine DW.cond (by rfl) ?_ ?_<;>(first | exact i0_ | (refine ic_ ?_;intro hb)))
  | ((with_reducible refine zaa ?_ ?_)<;>(intro hb;rw [hb];revert hb;(first | exact i0_ | (refine i_ ?_;intro hb))))
  | ((refine Both.imp ?_ ?_)<;>(first | exact i0_ | (refine i_ ?_;intro hb)))
  | refine r_ ?_
  | refine k_ ?_
  | (refine q_ (zkE _ _) ?_)
  | refine o_ ?_
  | refine f_ ?_
  | ((refine Both.imp (fun hb=>?_) (fun hb=>?_))<;>(try (exfalso;omega)))
  | with_reducible intro b)
 all_goals first
 | ((refine ⟨_,_,le.rfl_,⟨.inl ⟨rfl,?_⟩,rfl⟩,?_⟩);(rw [<-hwk];exact q1);(exact sub_))
 | ((refine ⟨_,_,le.rfl_,⟨.inr ⟨k,rfl,?_⟩,rfl⟩,?_⟩);(rw [<-hwk,q4,hb];rfl);(exact sub_))
 | (refine ⟨k+zcU l k,?_,?_,?_,?_⟩;((exact ⟨q2,by rw [<-hwk,q4,hb];rfl⟩));(omega);(simp [Sub,get]<;>(fail));(try dsimp only);(exact sub_);done)
theorem zqm (l:List UInt8) (F:Own):(l.length<=1000000000)->DC Tryz.prog 207 [.str l, .fn (.func 143) [] []] (([]:Own)++F) fun d G=>((d = .int .i64 (-1)/\zc2 l=false)\/(∃ k:Nat,d = .int .i64 k/\zc2 l=true))/\G=[]++F:=by
 intro hA
 have hl:=hA
 refine DC.bodyS (n_:=8) (show Tryz.prog.funcs[207]? = some Tryz.f207 by kernel_rfl) rfl rfl (by rfl) ?_
 simp only [env0,List.cons_append,List.nil_append]
 have kw:=ksIs [0,1,4]
 have ow:=zai []
 repeat' (first
  | refine g_ ?_
  | ((with_reducible refine And.intro ?_ ?_);(exact sv))
  | (refine DW.cond (by rfl) ?_ ?_<;>(first | exact i0_ | (refine ic_ ?_;intro hb)))
  | ((with_reducible refine zaa ?_ ?_)<;>(intro hb;rw [hb];revert hb;(first | exact i0_ | (refine i_ ?_;intro hb))))
  | refine r_ ?_
  | refine k_ ?_
  | (refine p_ (idxW_dc _ _) ?_;rintro d H1 ⟨⟨rfl,hw⟩ | ⟨k,rfl,hw⟩,rfl⟩<;>refine s_ ?_)
  | refine o_ ?_
  | refine f_ ?_
  | with_reducible intro b)
 all_goals first
 | ((refine ⟨_,_,le.rfl_,⟨.inl ⟨rfl,hw⟩,rfl⟩,?_⟩);(exact sub_))
 | ((refine ⟨_,_,le.rfl_,⟨.inr ⟨_,rfl,hw⟩,rfl⟩,?_⟩);(exact sub_))
theorem conW_dc (l:List UInt8) (F:Own):(l.length<=1000000000)->DC Tryz.prog 157 [.str l, .fn (.func 143) [] []] (([]:Own)++F) fun d G=>d = .bool (zc2 l)/\G=[]++F:=by
 intro hA
 have hl:=hA
 refine DC.bodyS (n_:=9) (show Tryz.prog.funcs[157]? = some Tryz.f157 by kernel_rfl) rfl rfl (by rfl) ?_
 simp only [env0,List.cons_append,List.nil_append]
 have kw:=ksIs [0,1,4]
 have ow:=zai []
 repeat' (first
  | refine g_ ?_
  | ((with_reducible refine And.intro ?_ ?_);(exact sv))
  | (refine DW.cond (by rfl) ?_ ?_<;>(first | exact i0_ | (refine ic_ ?_;intro hb)))
  | ((with_reducible refine zaa ?_ ?_)<;>(intro hb;rw [hb];revert hb;(first | exact i0_ | (refine i_ ?_;intro hb))))
  | refine r_ ?_
  | refine k_ ?_
  | (refine p_ (zqm _ _) ?_;rintro d H1 ⟨⟨rfl,hw⟩ | ⟨k,rfl,hw⟩,rfl⟩<;>refine s_ ?_)
  | refine o_ ?_
  | refine f_ ?_
  | with_reducible intro b)
 all_goals first
 | ((refine ⟨_,_,le.of_eq ?_,⟨rfl,rfl⟩,?_⟩);(rw [hw];first | rfl | (congr 1;exact decide_eq_true (by omega)) | (congr 1;exact decide_eq_false (by omega)));(exact sub_))
theorem zcr (l:List UInt8) (F:Own):(l.length<=1000000000)->DC Tryz.prog 82 [.str l] ([knF,knA]++F) fun d G=>d = .bool (zbD l)/\G=[knF,knA]++F:=by
 intro hA
 have hl:=hA
 refine DC.bodyS (n_:=14) (show Tryz.prog.funcs[82]? = some Tryz.f82 by kernel_rfl) rfl rfl (by rfl) ?_
 simp only [env0,List.cons_append,List.nil_append]
 have kw:=ksIs [0,2,4,6,7,8,11]
 have ow:=zai []
 repeat' (first
  | ((with_reducible refine DW.loopB 0 (X:=Nat) (fun x=>x<=l.length/\zc2 (l.drop x)=zc2 l) (fun x=>[(0, .str l),(6, .raw (.pointer (some ⟨b,0,none⟩)))]) (fun x=>[.siter b l x,knF,knA]) (fun x=>l.length - x) (0) ?_ ?_ ?_);exact (⟨Nat.zero_le _,rfl⟩);(simp [Sub,get,zbu]<;>fail);(try simp only [List.cons_append,List.nil_append]);refine pl_ ?_;intro k ⟨hk,hwk⟩;(try simp only [List.cons_append,List.nil_append]);rcases zkl (l:=l) (k:=k) with ⟨q0,q1⟩ | ⟨q0,q1,q2,q4⟩)
  | refine g_ ?_
  | ((with_reducible refine And.intro ?_ ?_);(exact sv))
  | (refine DW.cond (by rfl) ?_ ?_<;>(first | exact i0_ | (refine ic_ ?_;intro hb)))
  | ((with_reducible refine zaa ?_ ?_)<;>(intro hb;rw [hb];revert hb;(first | exact i0_ | (refine i_ ?_;intro hb))))
  | ((refine Both.imp ?_ ?_)<;>(first | exact i0_ | (refine i_ ?_;intro hb)))
  | refine r_ ?_
  | refine k_ ?_
  | ((first | refine q_ (zkE _ _) ?_ | refine q_ (zkD _ _) ?_))
  | refine o_ ?_
  | refine f_ ?_
  | ((refine Both.imp (fun hb=>?_) (fun hb=>?_))<;>(try (exfalso;omega)))
  | with_reducible intro b)
 all_goals first
 | ((refine ⟨_,_,le.of_eq ?_,⟨rfl,rfl⟩,?_⟩);(rw [zjA,<-hwk,q1];simp);(exact sub_))
 | ((refine ⟨_,_,le.of_eq ?_,⟨rfl,rfl⟩,?_⟩);(rw [zjA,<-hwk,q4,hb];simp);(exact sub_))
 | (refine ⟨k+zcU l k,?_,?_,?_,?_⟩;((exact ⟨q2,by rw [<-hwk,q4,hb];rfl⟩));(omega);(simp [Sub,get]<;>(fail));(try dsimp only);(exact sub_);done)
theorem zcE {p:Prop} (h:p:=by first | exact sv | (have hq:=hlb2 k;omega) | fail):p:=h
theorem zfh (m:Int) (l:List UInt8) (F:Own):(l.length<=2000000)->DC Tryz.prog 94 [.str l] ([knF,knA,knM m]++F) fun d G=>d = .bool (filterB l)/\G=[knF,knA,knM m]++F:=by
 intro hA
 have hl:=hA
 refine DC.bodyS (n_:=37) (show Tryz.prog.funcs[94]? = some Tryz.f94 by kernel_rfl) rfl rfl (by rfl) ?_
 simp only [env0,List.cons_append,List.nil_append]
 have kw:=ksIs [0,2,3,4,5,8,11,12,13,14,35]
 have ow:=zai []
 have hlb1:=(zfl l).1
 have hlb2:=(zfl l).2
 repeat' (first
  | ((with_reducible refine DW.loopB 0 (X:=Nat) (fun x=>x<=(levs l).length/\∀ i,i<x->okAt (levs l) i=true) (fun x=>[(3, .sl ((levs l).map V.str)),(11, .sl ((levs l).map V.str)),(12, .int .i64 ((levs l).length:Int)),(13, .int .i64 x)]) (fun x=>[knF,knA,knM m]) (fun x=>(levs l).length - x) (0) ?_ ?_ ?_);exact (⟨Nat.zero_le _,fun i h=>absurd h (Nat.not_lt_zero _)⟩);(simp [Sub,get,zbu]<;>fail);(try simp only [List.cons_append,List.nil_append]);refine pl_ ?_;intro k ⟨hk,hok⟩;(try simp only [List.cons_append,List.nil_append]))
  | refine g_ ?_
  | ((with_reducible refine And.intro ?_ ?_);(exact zcE))
  | (refine DW.cond (by rfl) ?_ ?_<;>(first | exact i0_ | (refine ic_ ?_;intro hb)))
  | ((with_reducible refine zaa ?_ ?_)<;>(intro hb;rw [hb];revert hb;(first | exact i0_ | (refine i_ ?_;intro hb))))
  | refine r_ ?_
  | refine k_ ?_
  | ((first | refine q_ (zkD _ _) ?_ (ha:=by exact zcE) | refine q_ (zhs _ _ _) ?_ (ha:=by exact zcE) | refine q_ (conW_dc _ _) ?_ (ha:=by exact zcE)))
  | refine o_ ?_
  | refine f_ ?_
  | with_reducible intro b)
 all_goals first
 | ((refine ⟨_,_,le.of_eq ?_,⟨rfl,rfl⟩,?_⟩);(rw [zdH,(by assumption:zdD l=false)];rfl);(exact sub_))
 | ((refine ⟨_,_,le.of_eq ?_,⟨rfl,rfl⟩,?_⟩);(rw [zdH,(by assumption:zdD l=true),okF_t fun i hi=>hok i (by omega)];rfl);(exact sub_))
 | ((refine ⟨_,_,le.of_eq ?_,⟨rfl,rfl⟩,?_⟩);(rw [zdH,(by assumption:zdD l=true),okF_f (k:=k) (by omega) (by clear hok hlb2;unfold okAt;simp_all)];rfl);(exact sub_))
 | (refine ⟨k+1,?_,?_,?_,?_⟩;((exact ⟨by omega,ok_s hok (by clear hok hlb2;unfold okAt;simp_all)⟩));(((try simp only);omega));(simp [Sub,get]<;>(fail));(try dsimp only);(exact sub_);done)
end
section
attribute [local irreducible] DW SeqD DV DOp DC DVX
def zdn (a b:Str):Bool:=filterB a&&(zbD b && !((((b.getD 0 0).toNat:Int)==36)&&((((a.getD 0 0).toNat:Int)==43)||(((a.getD 0 0).toNat:Int)==35)))&&zgG (lev a a.length) (lev b b.length))
theorem zjJ {t:Str} (h:filterB t=true):1<=t.length/\t.length<=65535:=by
 unfold filterB at h;simp only [Bool.and_eq_true] at h;exact zms h.1
attribute [local irreducible] filterB zbD lev
section
attribute [local push_cast 2000] zeA
end
section
attribute [local push_cast 2000] u8
end
end
section
theorem zjj (c:UInt8) (l:Str):(spl (c::l)).getD 0 default=if c=47 then [] else c::(spl l).headD []:=by
 rw [show spl (c::l)=(if c=47 then []::spl l else (c::(spl l).headD [])::(spl l).tail) from rfl]
 split<;>rfl
theorem zmk (b:Str):hidT ((levs b).getD 0 default)=(((b.getD 0 0).toNat:Int)==36):=by
 rw [zfK _ b (Nat.le_refl _)]
 cases b with
 | nil=>decide
 | cons c l =>
  rw [zjj]
  unfold hidT
  have q:(((((c::l).getD 0 0).toNat:Nat):Int)==36)=(c==36):=by
   rw [Bool.eq_iff_iff];simp only [beq_iff_eq,List.getD_cons_zero]
   constructor
   · intro e;exact UInt8.toNat_inj.1 (by have:(36:UInt8).toNat=36:=rfl;omega)
   · rintro rfl;rfl
  rw [q]
  split
  · rename_i h;subst h;rfl
  · rw [Bool.eq_iff_iff];simp
theorem zgY {a:Str} (h:okF (levs a)=true) (w:UInt8) (hw:w=43\/w=35):((levs a).getD 0 default==[w])=(((a.getD 0 0).toNat:Int)==(w.toNat:Int)):=by
 have h0:okAt (levs a) 0=true:=by
  unfold okF at h
  exact List.all_eq_true.1 h 0 (List.mem_range.2 (by rw [zk5];omega))
 rw [zfK _ a (Nat.le_refl _)] at h0 ⊢
 cases a with
 | nil=>rcases hw with rfl | rfl<;>decide
 | cons c l =>
  have q:(((((c::l).getD 0 0).toNat:Nat):Int)==(w.toNat:Int))=(c==w):=by
   rw [Bool.eq_iff_iff];simp only [beq_iff_eq,List.getD_cons_zero]
   constructor
   · intro e;exact UInt8.toNat_inj.1 (by omega)
   · rintro rfl;rfl
  rw [q]
  unfold okAt at h0
  rw [zjj] at h0 ⊢
  split
  · rename_i h1;subst h1
    rcases hw with rfl | rfl<;>decide
  · rename_i h1
    rw [if_neg h1] at h0
    by_cases hc:c=w
    · subst hc
      have hwild:zc2 (c::(spl l).headD [])=true:=by unfold zc2;rw [List.any_cons];rcases hw with rfl | rfl<;>rfl
      rw [hwild] at h0
      simp only [Bool.not_true,Bool.or_false,Bool.or_eq_true,Bool.and_eq_true,beq_iff_eq] at h0
      have:(spl l).headD []=[]:=by
       rcases h0 with h0 | ⟨h0,_⟩
       · injection h0
       · injection h0
      rw [this];simp
    · have e1:(c==w)=false:=beq_eq_false_iff_ne.2 hc
      rw [e1,beq_eq_false_iff_ne]
      intro e;injection e with e;exact hc e
theorem zpt (a b:Str):(filterB a&&(zbD b&&zmH (levs a) (levs b)))=zdn a b:=by
 unfold zdn
 cases hf:filterB a with
 | false=>rfl
 | true =>
  rw [zdH,Bool.and_eq_true] at hf
  rw [zfI,zfI]
  unfold zmH
  rw [zmk,zgY hf.2 43 (.inl rfl),zgY hf.2 35 (.inr rfl)]
  cases zbD b<;>simp
attribute [local irreducible] DW SeqD DV DOp DC DVX DVJ filterB zbD
end
section
structure Nd where
 b:Nat
 nm:Nat
 km:Nat
 next:List (Str×Nat)
 keys:List (Str×Int)
 deriving Inhabited
def fnd:List Nd->Nat->Option Nd
 | [],_=>none
 | x::h,b=>if x.b=b then some x else fnd h b
def kid (h:List Nd) (b:Nat) (l:Str):Option Nat:=(fnd h b).bind fun x=>lookA l x.next
def fol (h:List Nd):Nat->List Str->Option Nat
 | b,[]=>some b
 | b,l::p=>(kid h b l).bind fun c=>fol h c p
theorem zkI (h:List Nd) (b:Nat) (l:Str) (p:List Str):fol h b (l::p)=(kid h b l).bind fun c=>fol h c p:=rfl
theorem zcV (x:Nd) (h:List Nd) (b:Nat):fnd (x::h) b=if x.b=b then some x else fnd h b:=rfl
theorem zfj {h:List Nd}:∀ (p q:List Str) (b:Nat),fol h b (p++q)=(fol h b p).bind fun c=>fol h c q
 | [],q,b=>rfl
 | l::p,q,b=>by
  rw [List.cons_append,zkI,zkI]
  cases kid h b l with
  | none=>rfl
  | some c=>exact zfj p q c
theorem zcX {h:List Nd} (p:List Str) (l:Str) (b:Nat):fol h b (p++[l])=(fol h b p).bind fun c=>kid h c l:=by
 rw [zfj]
 cases fol h b p with
 | none=>rfl
 | some c=>show fol h c [l]=kid h c l;unfold fol;cases kid h c l<;>rfl
theorem zck {b:Nat} {x:Nd}:∀ {h:List Nd},fnd h b=some x->x∈h/\x.b=b
 | [],e=>by cases e
 | y::h,e=>by
  unfold fnd at e
  split at e
  · rename_i hb;injection e with e;subst e;exact ⟨List.mem_cons_self,hb⟩
  · have:=zck e;exact ⟨List.mem_cons_of_mem _ this.1,this.2⟩
theorem zhG {b:Nat}:∀ {h:List Nd},fnd h b=none↔∀ x∈h,x.b≠b
 | []=>⟨fun _ _ h=>(nomatch h),fun _=>rfl⟩
 | y::h=>by
  unfold fnd
  split
  · rename_i hb;exact ⟨(fun e=>nomatch e),fun e=>absurd hb (e y List.mem_cons_self)⟩
  · rename_i hb
    rw [zhG]
    exact ⟨fun e x hx=>by
     rcases List.mem_cons.1 hx with rfl | hx
     · exact hb
     · exact e x hx,fun e x hx=>e x (List.mem_cons_of_mem _ hx)⟩
def setN:List Nd->Nd->List Nd
 | [],_=>[]
 | y::h,x=>if y.b=x.b then x::h else y::setN h x
theorem zhJ (x:Nd):∀ h:List Nd,(setN h x).map (·.b)=h.map (·.b)
 | []=>rfl
 | y::h=>by
  unfold setN
  split
  · rename_i e;rw [List.map_cons,List.map_cons,e]
  · rw [List.map_cons,List.map_cons,zhJ x h]
theorem zcT {x y:Nd} {c:Nat}:∀ {h:List Nd},fnd h x.b=some y->fnd (setN h x) c=if c=x.b then some x else fnd h c
 | [],e=>by cases e
 | z::h,e=>by
  rw [zcV] at e
  unfold setN
  by_cases hz:z.b=x.b
  · rw [if_pos hz,zcV,zcV]
    by_cases hc:c=x.b
    · rw [if_pos hc.symm,if_pos hc]
    · rw [if_neg (Ne.symm hc),if_neg hc,if_neg (fun e=>hc (e.symm.trans hz))]
  · rw [if_neg hz] at e ⊢
    rw [zcV,zcV,zcT e]
    by_cases hc:z.b=c
    · rw [if_pos hc,if_neg (fun e2=>hz (hc.trans e2)),if_pos hc]
    · rw [if_neg hc,if_neg hc]
theorem zdj {x y:Nd}:∀ {h:List Nd},fnd h x.b=some y->∃ h1 h2,h=h1++y::h2/\∀ z:Nd,z.b=x.b->setN h z=h1++z::h2
 | [],e=>by cases e
 | w::h,e=>by
  rw [zcV] at e
  by_cases hw:w.b=x.b
  · rw [if_pos hw] at e;injection e with e;subst e
    exact ⟨[],h,rfl,fun z hz=>by unfold setN;rw [if_pos (hw.trans hz.symm)];rfl⟩
  · rw [if_neg hw] at e
    obtain ⟨h1,h2,e1,e2⟩:=zdj e
    exact ⟨w::h1,h2,by rw [e1];rfl,fun z hz=>by unfold setN;rw [if_neg (fun e=>hw (e.trans hz)),e2 z hz];rfl⟩
structure Tri (h:List Nd) (r:Nat) (m:List Str->Str->Option Int):Prop where
 nd:(h.map (·.b)).Nodup
 root:(fnd h r).isSome
 cl:∀ b l c,kid h b l=some c->(fnd h c).isSome
 inj:∀ p q c,fol h r p=some c->fol h r q=some c->p=q
 nn:∀ b x,fnd h b=some x->(x.next.map (·.1)).Nodup/\(x.keys.map (·.1)).Nodup
 has:∀ p c x,fol h r p=some c->fnd h c=some x->∀ k,lookA k x.keys=m p k
 all:∀ p k,fol h r p=none->m p k=none
 dep:∀ p c,fol h r p=some c->p.length<=65536
section
variable {h:List Nd} {r:Nat} {m:List Str->Str->Option Int}
theorem Tri.at (t:Tri h r m) {p:List Str}:∀ {c:Nat},fol h r p=some c->∃ x,fnd h c=some x:=by
 have key:∀ (p:List Str) (b c:Nat),(fnd h b).isSome->fol h b p=some c->(fnd h c).isSome:=by
  intro p
  induction p with
  | nil=>intro b c hb e;injection e with e;subst e;exact hb
  | cons l p ih =>
   intro b c hb e
   unfold fol at e
   cases hk:kid h b l with
   | none=>rw [hk] at e;cases e
   | some d=>rw [hk] at e;exact ih d c (t.cl b l d hk) e
 intro c e
 exact Option.isSome_iff_exists.1 (key p r c t.root e)
theorem zmO {h:List Nd} {c:Nat} {l:Str} {x y:Nd} (hy:fnd h x.b=some y):kid (setN h x) c l=if c=x.b then lookA l x.next else kid h c l:=by
 unfold kid
 rw [zcT hy]
 split<;>rfl
theorem Tri.keys (t:Tri h r m) {p:List Str} {c:Nat} {x:Nd} (hp:fol h r p=some c) (hx:fnd h c=some x) {ks:List (Str×Int)} (hn:(ks.map (·.1)).Nodup) :
  Tri (setN h { x with keys:=ks }) r (fun q k=>if q=p then lookA k ks else m q k)/\∀ q,fol (setN h { x with keys:=ks }) r q=fol h r q:=by
 obtain ⟨_,hxb⟩:=zck hx
 have ek:∀ b l,kid (setN h { x with keys:=ks }) b l=kid h b l:=fun b l=>by
  rw [zmO (x:={ x with keys:=ks }) (hxb.symm▸hx)]
  split
  · rename_i e;rw [e];unfold kid;rw [show fnd h x.b=some x from hxb.symm▸hx];rfl
  · rfl
 have ef:∀ p b,fol (setN h { x with keys:=ks }) b p=fol h b p:=fun p=>by
  induction p with
  | nil=>exact fun b=>rfl
  | cons l p ih=>intro b;unfold fol;rw [ek];congr 1;funext c;exact ih c
 have en:∀ b,fnd (setN h { x with keys:=ks }) b=if b=c then some { x with keys:=ks } else fnd h b:=fun b=>by
  rw [zcT (x:={ x with keys:=ks }) (hxb.symm▸hx:fnd h x.b=some x)];show (if b=x.b then _ else _)=_;rw [hxb]
 refine ⟨⟨by rw [zhJ];exact t.nd,?_,fun b l d hk=>?_,fun p q d h1 h2=>t.inj p q d (by rw [<-ef];exact h1) (by rw [<-ef];exact h2),fun b y hy=>?_,fun q d y hq hy k=>?_,fun q k hq=>?_,fun q d hq=>t.dep q d (by rw [<-ef];exact hq)⟩,fun q=>ef q r⟩
 · rw [en];split
   · rfl
   · exact t.root
 · rw [en];split
   · rfl
   · exact t.cl b l d (by rw [<-ek];exact hk)
 · rw [en] at hy
   split at hy
   · injection hy with hy;subst hy;exact ⟨(t.nn c x hx).1,hn⟩
   · exact t.nn b y hy
 · rw [ef] at hq
   rw [en] at hy
   split at hy
   · rename_i e;subst e;injection hy with hy;subst hy
     rw [if_pos (t.inj _ _ _ hq hp)]
   · rename_i e
     rw [if_neg (fun e2=>e (by rw [e2,hp] at hq;injection hq with hq;exact hq.symm))]
     exact t.has q d y hq hy k
 · rw [ef] at hq
   show (if q=p then _ else _)=_
   rw [if_neg (fun e=>by rw [e,hp] at hq;cases hq)]
   exact t.all q k hq
theorem Tri.sprout (t:Tri h r m) {p:List Str} {c:Nat} {x y:Nd} {l:Str} (hp:fol h r p=some c) (hx:fnd h c=some x) (hl:lookA l x.next=none) (hy:fnd h y.b=none) (hy1:y.next=[]) (hy2:y.keys=[]) (hd:p.length<65536) :
  Tri (y::setN h { x with next:=updA l y.b x.next }) r m/\∀ q,fol (y::setN h { x with next:=updA l y.b x.next }) r q=if q=p++[l] then some y.b else fol h r q:=by
 obtain ⟨_,hxb⟩:=zck hx
 have hyc:y.b≠c:=fun e=>by rw [e,hx] at hy;cases hy
 generalize hx':({ x with next:=updA l y.b x.next }:Nd)=x'
 have hxb':x'.b=c:=by rw [<-hx'];exact hxb
 have en:∀ b,fnd (y::setN h x') b=if b=y.b then some y else if b=c then some x' else fnd h b:=fun b=>by
  rw [zcV]
  by_cases e:b=y.b
  · rw [if_pos e.symm,if_pos e]
  · rw [if_neg (Ne.symm e),if_neg e,zcT (hxb'.symm▸hx:fnd h x'.b=some x),hxb']
 have ek:∀ b l',kid (y::setN h x') b l'=if b=y.b then none else if b=c then (if l'=l then some y.b else kid h b l') else kid h b l':=fun b l'=>by
  have e1:kid (y::setN h x') b l'=(fnd (y::setN h x') b).bind fun z=>lookA l' z.next:=rfl
  rw [e1,en]
  by_cases e:b=y.b
  · rw [if_pos e,if_pos e];show lookA l' y.next=none;rw [hy1];rfl
  · rw [if_neg e,if_neg e]
    by_cases e2:b=c
    · rw [if_pos e2,if_pos e2]
      show lookA l' x'.next=_
      rw [<-hx']
      show lookA l' (updA l y.b x.next)=_
      rw [zg1]
      subst e2
      split
      · rfl
      · unfold kid;rw [hx];rfl
    · rw [if_neg e2,if_neg e2];rfl
 have ekc:kid h c l=none:=by unfold kid;rw [hx];exact hl
 have key:∀ q:List Str,fol (y::setN h x') r q.reverse=if q.reverse=p++[l] then some y.b else fol h r q.reverse:=by
  intro q
  induction q with
  | nil=>rw [if_neg (by simp)];rfl
  | cons l' q ih =>
   rw [List.reverse_cons]
   generalize q.reverse=q at ih ⊢
   rw [zcX,zcX,ih]
   by_cases e:q=p++[l]
   · rw [if_pos e,if_neg (by rw [e];intro h;have:=congrArg List.length h;simp at this)]
     show kid _ y.b l'=_
     rw [ek,if_pos rfl,e,zcX,hp]
     show none=(kid h c l).bind _
     rw [ekc];rfl
   · rw [if_neg e]
     cases hq:fol h r q with
     | none =>
      rw [if_neg]
      · rfl
      · intro e2
        obtain ⟨e3,_⟩:=List.append_inj' e2 rfl
        rw [e3,hp] at hq;cases hq
     | some b =>
      show kid _ b l'=if _ then _ else kid h b l'
      obtain ⟨z,hz⟩:=t.at hq
      rw [ek,if_neg (fun e=>by rw [e,hy] at hz;cases hz)]
      by_cases e2:b=c
      · rw [if_pos e2]
        subst e2
        have:=t.inj _ _ _ hq hp
        subst this
        by_cases e3:l'=l
        · rw [if_pos e3,if_pos (by rw [e3])]
        · rw [if_neg e3,if_neg]
          intro e4
          have:=List.append_cancel_left e4
          injection this with h1 _
          exact e3 h1
      · rw [if_neg e2,if_neg]
        intro e3
        obtain ⟨e4,_⟩:=List.append_inj' e3 rfl
        rw [e4,hp] at hq
        injection hq with hq
        exact e2 hq.symm
 have ef:∀ q,fol (y::setN h x') r q=if q=p++[l] then some y.b else fol h r q:=fun q=>by have:=key q.reverse;rwa [List.reverse_reverse] at this
 have hnp:fol h r (p++[l])=none:=by rw [zcX,hp];exact ekc
 refine ⟨⟨?_,?_,fun b l' d hk=>?_,fun q q' d h1 h2=>?_,fun b z hz=>?_,fun q d z hq hz k=>?_,fun q k hq=>?_,fun q d hq=>?_⟩,ef⟩
 · rw [List.map_cons,List.nodup_cons]
   rw [zhJ]
   refine ⟨fun hm=>?_,t.nd⟩
   obtain ⟨z,hz,e⟩:=List.mem_map.1 hm
   exact zhG.1 hy z hz e
 · rw [en];split
   · rfl
   · split
     · rfl
     · exact t.root
 · rw [ek] at hk
   rw [en]
   split at hk
   · cases hk
   · split at hk
     · split at hk
       · injection hk with hk;rw [if_pos hk.symm];rfl
       · split
         · rfl
         · split
           · rfl
           · exact t.cl _ _ _ hk
     · split
       · rfl
       · split
         · rfl
         · exact t.cl _ _ _ hk
 · rw [ef] at h1 h2
   have hd:∀ q:List Str,fol h r q=some y.b->False:=fun q hq=>by obtain ⟨z,hz⟩:=t.at hq;rw [hy] at hz;cases hz
   split at h1
   · rename_i e
     injection h1 with h1;subst h1
     split at h2
     · rename_i e2;rw [e,e2]
     · exact (hd _ h2).elim
   · split at h2
     · injection h2 with h2;subst h2;exact (hd _ h1).elim
     · exact t.inj _ _ _ h1 h2
 · rw [en] at hz
   split at hz
   · injection hz with hz;subst hz;rw [hy1,hy2];exact ⟨List.nodup_nil,List.nodup_nil⟩
   · split at hz
     · injection hz with hz;subst hz
       rw [<-hx']
       exact ⟨zeY (t.nn c x hx).1,(t.nn c x hx).2⟩
     · exact t.nn _ _ hz
 · rw [ef] at hq
   rw [en] at hz
   split at hq
   · rename_i e
     injection hq with hq;subst hq
     rw [if_pos rfl] at hz
     injection hz with hz;subst hz
     rw [hy2,e]
     exact (t.all _ k hnp).symm
   · obtain ⟨z',hz'⟩:=t.at hq
     rw [if_neg (fun e=>by rw [e,hy] at hz';cases hz')] at hz
     split at hz
     · rename_i e;subst e
       injection hz with hz;subst hz
       rw [<-hx']
       exact t.has _ _ _ hq hx k
     · exact t.has _ _ _ hq hz k
 · rw [ef] at hq
   split at hq
   · cases hq
   · exact t.all _ k hq
 · rw [ef] at hq
   split at hq
   · rename_i e;rw [e];simp;omega
   · exact t.dep _ _ hq
theorem Tri.prune (t:Tri h r m) {p:List Str} {c d:Nat} {x y:Nd} {l:Str} (hp:fol h r p=some c) (hx:fnd h c=some x) (hl:lookA l x.next=some d) (hy:fnd h d=some y) (hy1:y.next=[]) (hy2:y.keys=[]) :
  Tri (setN h { x with next:=za4 l x.next }) r m/\∀ q,¬ (p++[l]) <+: q->fol (setN h { x with next:=za4 l x.next }) r q=fol h r q:=by
 obtain ⟨_,hxb⟩:=zck hx
 have hnx:=(t.nn c x hx).1
 generalize hx':({ x with next:=za4 l x.next }:Nd)=x'
 have hxb':x'.b=c:=by rw [<-hx'];exact hxb
 have en:∀ b,fnd (setN h x') b=if b=c then some x' else fnd h b:=fun b=>by rw [zcT (hxb'.symm▸hx:fnd h x'.b=some x),hxb']
 have ek:∀ b l',kid (setN h x') b l'=if b=c/\l'=l then none else kid h b l':=fun b l'=>by
  rw [zmO (hxb'.symm▸hx:fnd h x'.b=some x),hxb']
  by_cases e2:b=c
  · rw [if_pos e2,<-hx']
    show lookA l' (za4 l x.next)=_
    rw [zed hnx]
    subst e2
    by_cases e3:l'=l
    · rw [if_pos e3,if_pos ⟨rfl,e3⟩]
    · rw [if_neg e3,if_neg (fun e=>e3 e.2)];unfold kid;rw [hx];rfl
  · rw [if_neg e2,if_neg (fun e=>e2 e.1)]
 have ekc:kid h c l=some d:=by unfold kid;rw [hx];exact hl
 have hpl:fol h r (p++[l])=some d:=by rw [zcX,hp];exact ekc
 have key:∀ q:List Str,fol (setN h x') r q.reverse=if (p++[l]) <+: q.reverse then none else fol h r q.reverse:=by
  intro q
  induction q with
  | nil=>rw [if_neg (by simp)];rfl
  | cons l' q ih =>
   rw [List.reverse_cons]
   generalize q.reverse=q at ih ⊢
   rw [zcX,zcX,ih]
   by_cases e:(p++[l]) <+: q
   · rw [if_pos e,if_pos (e.trans (List.prefix_append ..))];rfl
   · rw [if_neg e]
     cases hq:fol h r q with
     | none=>show none=if _ then none else none;split<;>rfl
     | some b =>
      show kid _ b l'=if _ then _ else kid h b l'
      rw [ek]
      by_cases e2:b=c/\l'=l
      · obtain ⟨e2,e3⟩:=e2
        subst e2;subst e3
        have:=t.inj _ _ _ hq hp
        subst this
        rw [if_pos ⟨rfl,rfl⟩,if_pos (List.prefix_refl _)]
      · rw [if_neg e2,if_neg]
        intro e3
        rcases List.prefix_concat_iff.1 e3 with e3 | e3
        · obtain ⟨e4,e5⟩:=List.append_inj' e3 rfl
          injection e5 with e5 _
          rw [<-e4,hp] at hq
          injection hq with hq
          exact e2 ⟨hq.symm,e5.symm⟩
        · exact e e3
 have ef:∀ q,fol (setN h x') r q=if (p++[l]) <+: q then none else fol h r q:=fun q=>by have:=key q.reverse;rwa [List.reverse_reverse] at this
 have efs:∀ q e,fol (setN h x') r q=some e->fol h r q=some e:=fun q e he=>by
  rw [ef] at he
  split at he
  · cases he
  · exact he
 refine ⟨⟨by rw [zhJ];exact t.nd,?_,fun b l' e hk=>?_,fun q q' e h1 h2=>t.inj _ _ _ (efs _ _ h1) (efs _ _ h2),fun b z hz=>?_,fun q e z hq hz k=>?_,fun q k hq=>?_,fun q e hq=>t.dep _ _ (efs _ _ hq)⟩,fun q hq=>by rw [ef,if_neg hq]⟩
 · rw [en];split
   · rfl
   · exact t.root
 · rw [ek] at hk
   split at hk
   · cases hk
   · rw [en];split
     · rfl
     · exact t.cl _ _ _ hk
 · rw [en] at hz
   split at hz
   · injection hz with hz;subst hz
     rw [<-hx']
     exact ⟨zd4 hnx,(t.nn c x hx).2⟩
   · exact t.nn _ _ hz
 · have hq':=efs _ _ hq
   rw [en] at hz
   split at hz
   · rename_i e2;subst e2
     injection hz with hz;subst hz
     rw [<-hx']
     exact t.has _ _ _ hq' hx k
   · exact t.has _ _ _ hq' hz k
 · rw [ef] at hq
   split at hq
   · rename_i e
     obtain ⟨s,rfl⟩:=e
     cases s with
     | nil =>
      rw [List.append_nil,<-t.has _ _ _ hpl hy k,hy2];rfl
     | cons l' s =>
      refine t.all _ k ?_
      rw [zfj,hpl]
      show fol h d (l'::s)=none
      have:kid h d l'=none:=by unfold kid;rw [hy];show lookA l' y.next=none;rw [hy1];rfl
      unfold fol;rw [this];rfl
   · exact t.all _ k hq
end
theorem tri_new (b nm km:Nat):Tri [⟨b,nm,km,[],[]⟩] b fun _ _=>none:=by
 have hk:∀ c l,kid [⟨b,nm,km,[],[]⟩] c l=none:=fun c l=>by
  unfold kid fnd
  split<;>rfl
 have hf:∀ p c,fol [⟨b,nm,km,[],[]⟩] b p=some c->p=[]:=fun p c e=>by
  cases p with
  | nil=>rfl
  | cons l p=>unfold fol at e;rw [hk] at e;cases e
 have hn:∀ c x,fnd [⟨b,nm,km,[],[]⟩] c=some x->x=⟨b,nm,km,[],[]⟩:=fun c x e=>by
  have:=(zck e).1
  simpa using this
 refine ⟨by simp,?_,fun c l d e=>?_,fun p q c h1 h2=>?_,fun c x e=>?_,fun p c x _ e k=>?_,fun _ _ _=>rfl,fun p c e=>?_⟩
 · unfold fnd;rw [if_pos rfl];rfl
 · rw [hk] at e;cases e
 · rw [hf _ _ h1,hf _ _ h2]
 · rw [hn _ _ e];exact ⟨List.nodup_nil,List.nodup_nil⟩
 · rw [hn _ _ e];rfl
 · rw [hf _ _ e];exact Nat.zero_le _
def mx:Option Int->Option Int->Option Int
 | none,b=>b
 | some a,none=>some a
 | some a,some b=>some (if a<b then b else a)
theorem zjK (a:Option Int):mx a none=a:=by cases a<;>rfl
theorem znA (a:Option Int):mx none a=a:=rfl
theorem zp3 (a b c:Option Int):mx (mx a b) c=mx a (mx b c):=by
 cases a<;>cases b<;>cases c<;>simp only [mx,Option.some.injEq]
 repeat' split
 all_goals first | rfl | omega
def vis:Bool->List Str->List (List Str)
 | wild,[]=>(if wild=true then [[[35]]] else [])++[[]]
 | wild,x::t=>(if wild=true then [[35]]::(vis true t).map ([43] :: ·) else [])++(vis true t).map (x :: ·)
def zdB {α:Type} (g:α->Option Int) (S:List α) (a:Option Int):Option Int:=S.foldl (fun a s=>mx a (g s)) a
section
variable {α:Type} {g:α->Option Int}
theorem zm7 (S T:List α) (a:Option Int):zdB g (S++T) a=zdB g T (zdB g S a):=List.foldl_append ..
theorem zcq (s:α) (S:List α) (a:Option Int):zdB g (s::S) a=zdB g S (mx a (g s)):=rfl
theorem zjI:∀ (S:List α) (a:Option Int),zdB g S a=mx a (zdB g S none)
 | [],a=>(zjK a).symm
 | s::S,a=>by rw [zcq,zcq,zjI S (mx a (g s)),zjI S (mx none (g s)),zp3];rfl
theorem zf9:∀ (S:List α) (a:Option Int),a.isSome=true->(zdB g S a).isSome=true
 | [],_,h=>h
 | s::S,a,h=>by
  rw [zcq]
  refine zf9 S _ ?_
  cases a with
  | none=>cases h
  | some a=>cases g s<;>rfl
theorem zj8 {S:List α} (h:zdB g S none=none):∀ s∈S,g s=none:=by
 intro s hs
 cases hg:g s with
 | none=>rfl
 | some b =>
  obtain ⟨S1,S2,rfl⟩:=List.append_of_mem hs
  rw [zm7,zcq,hg] at h
  have:=zf9 (g:=g) S2 (mx (zdB g S1 none) (some b)) (by cases zdB g S1 none<;>rfl)
  rw [h] at this;cases this
theorem zfc:∀ (S:List α) (q:Int),zdB g S none=some q↔(∃ s∈S,g s=some q)/\∀ s∈S,∀ q',g s=some q'->q'<=q
 | [],q=>⟨(fun h=>nomatch h),fun h=>by obtain ⟨⟨_,h,_⟩,_⟩:=h;cases h⟩
 | s::S,q=>by
  have ih:=zfc S
  rw [zcq,znA,zjI]
  cases h1:g s with
  | none =>
   rw [znA,ih]
   constructor
   · rintro ⟨⟨t,ht,ht2⟩,h3⟩
     refine ⟨⟨t,List.mem_cons_of_mem _ ht,ht2⟩,fun u hu q' hq=>?_⟩
     rcases List.mem_cons.1 hu with rfl | hu
     · rw [h1] at hq;cases hq
     · exact h3 u hu q' hq
   · rintro ⟨⟨t,ht,ht2⟩,h3⟩
     refine ⟨?_,fun u hu q' hq=>h3 u (List.mem_cons_of_mem _ hu) q' hq⟩
     rcases List.mem_cons.1 ht with rfl | ht
     · rw [h1] at ht2;cases ht2
     · exact ⟨t,ht,ht2⟩
  | some a =>
   cases h2:zdB g S none with
   | none =>
    have hn:=zj8 h2
    show some a=some q↔_
    constructor
    · intro e;injection e with e;subst e
      refine ⟨⟨s,List.mem_cons_self,h1⟩,fun u hu q' hq=>?_⟩
      rcases List.mem_cons.1 hu with rfl | hu
      · rw [h1] at hq;injection hq with hq;omega
      · rw [hn u hu] at hq;cases hq
    · rintro ⟨⟨t,ht,ht2⟩,h3⟩
      rcases List.mem_cons.1 ht with rfl | ht
      · rw [h1] at ht2;exact ht2
      · rw [hn t ht] at ht2;cases ht2
   | some b =>
    have h3:=(ih b).1 h2
    show some (if a<b then b else a)=some q↔_
    constructor
    · intro e
      injection e with e
      refine ⟨?_,fun u hu q' hq=>?_⟩
      · split at e
        · subst e
          obtain ⟨t,ht,ht2⟩:=h3.1
          exact ⟨t,List.mem_cons_of_mem _ ht,ht2⟩
        · subst e;exact ⟨s,List.mem_cons_self,h1⟩
      · rcases List.mem_cons.1 hu with rfl | hu
        · rw [h1] at hq;injection hq with hq;split at e<;>omega
        · have:=h3.2 u hu q' hq;split at e<;>omega
    · rintro ⟨⟨t,ht,ht2⟩,h4⟩
      have h5:=h4 s List.mem_cons_self a h1
      obtain ⟨u,hu,hu2⟩:=h3.1
      have h6:=h4 u (List.mem_cons_of_mem _ hu) b hu2
      congr 1
      rcases List.mem_cons.1 ht with rfl | ht
      · rw [h1] at ht2;injection ht2 with ht2;split<;>omega
      · have:=h3.2 t ht q ht2;split<;>omega
end
def zma (m:List Str->Str->Option Int) (p:List Str) (S:List (List Str)) (k:Str) (a:Option Int):Option Int:=zdB (fun s=>m (p++s) k) S a
def endS:List Str->Prop
 | []=>True
 | [_]=>True
 | x::y::a=>x≠[35]/\endS (y::a)
theorem zim {x:Str} {a:List Str} (h:endS (x::a)):endS a:=by
 cases a with
 | nil=>trivial
 | cons y a=>exact h.2
theorem zhQ:∀ (a b:List Str),endS a->(∀ y∈b,y≠[35]/\y≠[43])->(a∈vis true b↔zgG a b=true)
 | [],[],_,_=>by simp [vis,zgG]
 | [],y::b,_,_=>by simp [vis,zgG]
 | x::a,[],ha,_=>by
  simp only [vis,if_true,zgG,List.cons_append,List.nil_append,List.mem_cons,List.not_mem_nil,or_false,Bool.or_false,beq_iff_eq]
  constructor
  · rintro (h | h)
    · injection h
    · cases h
  · intro h
    subst h
    cases a with
    | nil=>exact .inl rfl
    | cons y a=>exact absurd rfl ha.1
 | x::a,y::b,ha,hb=>by
  have ih:=zhQ a b (zim ha) fun z hz=>hb z (List.mem_cons_of_mem _ hz)
  have hy:=hb y List.mem_cons_self
  simp only [vis,if_true,zgG,List.cons_append,List.mem_cons,List.mem_append,List.mem_map,Bool.or_eq_true,Bool.and_eq_true,beq_iff_eq]
  constructor
  · rintro (h | ⟨t,ht,h⟩ | ⟨t,ht,h⟩)
    · injection h with h1 h2;exact .inl h1
    · injection h with h1 h2;subst h1;subst h2;exact .inr ⟨.inl rfl,ih.1 ht⟩
    · injection h with h1 h2;subst h1;subst h2;exact .inr ⟨.inr rfl,ih.1 ht⟩
  · rintro (h | ⟨h | h,h2⟩)
    · subst h
      cases a with
      | nil=>exact .inl rfl
      | cons z a=>exact absurd rfl ha.1
    · subst h;exact .inr (.inl ⟨a,ih.2 h2,rfl⟩)
    · subst h;exact .inr (.inr ⟨a,ih.2 h2,rfl⟩)
theorem zmA (a:List Str) (y:Str) (b:List Str) (ha:endS a) (hb:∀ z∈y::b,z≠[35]/\z≠[43]):a∈vis false (y::b)↔(zgG a (y::b)=true/\a.getD 0 []≠[43]/\a.getD 0 []≠[35]):=by
 have hy:=hb y List.mem_cons_self
 cases a with
 | nil=>simp [vis,zgG]
 | cons x a =>
  have ih:=zhQ a b (zim ha) fun z hz=>hb z (List.mem_cons_of_mem _ hz)
  simp only [vis,Bool.false_eq_true,if_false,List.nil_append,List.mem_map,zgG,Bool.or_eq_true,Bool.and_eq_true,beq_iff_eq,List.getD_cons_zero]
  constructor
  · rintro ⟨t,ht,h⟩
    injection h with h1 h2;subst h1;subst h2
    exact ⟨.inr ⟨.inr rfl,ih.1 ht⟩,hy.2,hy.1⟩
  · rintro ⟨h | ⟨h | h,h2⟩,h3,h4⟩
    · exact absurd h h4
    · exact absurd h h3
    · subst h;exact ⟨a,ih.2 h2,rfl⟩
def joinS (p:List Str):Str:=[47].intercalate p
theorem zio (x:Str):joinS [x]=x:=by simp [joinS,List.intercalate,List.intersperse]
theorem ziP (x y:Str) (p:List Str):joinS (x::y::p)=x++47::joinS (y::p):=by simp [joinS,List.intercalate,List.intersperse]
theorem zla (c:UInt8) (l:Str):spl (c::l)=if c=47 then []::spl l else (c::(spl l).headD [])::(spl l).tail:=rfl
theorem znI (l:Str):spl l≠[]:=by
 cases l with
 | nil=>simp [spl]
 | cons c l=>unfold spl;split<;>simp
theorem ziT:∀ l:Str,joinS (spl l)=l
 | []=>zio []
 | c::l=>by
  have ih:=ziT l
  unfold spl
  cases hs:spl l with
  | nil=>exact absurd hs (znI l)
  | cons x p =>
   rw [hs] at ih
   split
   · rename_i hc
     rw [ziP,ih,hc];rfl
   · simp only [List.headD_cons,List.tail_cons]
     cases p with
     | nil=>rw [zio] at ih ⊢;rw [ih]
     | cons y p=>rw [ziP] at ih ⊢;rw [List.cons_append,ih]
abbrev TL:=List ((Str×Str)×Int)
def mOf (L:TL) (p:List Str) (k:Str):Option Int:=if spl (joinS p)=p then lookA (joinS p,k) L else none
theorem zgU (L:TL) (f k:Str):mOf L (spl f) k=lookA (f,k) L:=by unfold mOf;rw [ziT,if_pos rfl]
theorem mOf_nil:mOf []=fun _ _=>none:=by funext p k;unfold mOf;split<;>rfl
theorem zfb {α β:Type} [DecidableEq α] {k:α}:∀ {l:List (α×β)},lookA k l=none->za4 k l=l
 | [],_=>rfl
 | x::l,h=>by
  unfold lookA at h
  unfold za4
  by_cases e:k=x.1
  · rw [if_pos e] at h;cases h
  · rw [if_neg e] at h ⊢;rw [zfb h]
theorem zi4 {α β:Type} [DecidableEq α] {k:α} {v:β}:∀ {l:List (α×β)},lookA k l=some v->(za4 k l).length+1=l.length
 | [],h=>by cases h
 | x::l,h=>by
  unfold lookA at h
  unfold za4
  by_cases e:k=x.1
  · rw [if_pos e];rfl
  · rw [if_neg e] at h ⊢;have:=zi4 h;simp only [List.length_cons];omega
abbrev upS (l:List Str):Prop:=l.Pairwise (· < ·)
theorem lt_or {a b:Str} (h:¬ a<b):b<a\/a=b:=by
 rcases List.le_iff_lt_or_eq.1 (List.not_lt.1 h) with h | h
 · exact .inl h
 · exact .inr h.symm
def zg5 (l:List Str) (s:Str):List Str:=(l.takeWhile fun x=>decide (x<s))++match l.dropWhile fun x=>decide (x<s) with
 | []=>[s]
 | y::r=>if y=s then y::r else s::y::r
theorem zov {l:List Str} {s x:Str}:x∈zg5 l s↔x∈l\/x=s:=by
 unfold zg5
 have e:x∈l↔x∈l.takeWhile (fun x=>decide (x<s))\/x∈l.dropWhile (fun x=>decide (x<s)):=by
  rw [<-List.mem_append,List.takeWhile_append_dropWhile]
 rw [List.mem_append,e]
 generalize l.takeWhile _=a
 generalize l.dropWhile _=b
 cases b with
 | nil=>simp
 | cons y r =>
  simp only
  split
  · rename_i h;subst h
    simp only [List.mem_cons]
    constructor
    · exact fun h=>.inl h
    · rintro (h | h)
      · exact h
      · exact .inr (.inl h)
  · simp only [List.mem_cons]
    constructor
    · rintro (h | h | h | h)
      · exact .inl (.inl h)
      · exact .inr h
      · exact .inl (.inr (.inl h))
      · exact .inl (.inr (.inr h))
    · rintro ((h | h | h) | h)
      · exact .inl h
      · exact .inr (.inr (.inl h))
      · exact .inr (.inr (.inr h))
      · exact .inr (.inl h)
theorem zmu {l:List Str} {s:Str} (h:upS l):upS (zg5 l s):=by
 have e:=List.takeWhile_append_dropWhile (p:=fun x=>decide (x<s)) (l:=l)
 have ha:∀ x∈l.takeWhile (fun x=>decide (x<s)),x<s:=fun x hx=>by
  have:=List.all_takeWhile (p:=fun x=>decide (x<s)) (l:=l)
  exact of_decide_eq_true (List.all_eq_true.1 this x hx)
 have hb:∀ y r,l.dropWhile (fun x=>decide (x<s))=y::r->¬ y<s:=fun y r hy=>by
  have:=List.head?_dropWhile_not (fun x=>decide (x<s)) l
  rw [hy] at this
  simpa using this
 unfold zg5
 rw [<-e] at h
 generalize l.takeWhile (fun x=>decide (x<s))=a at *
 generalize l.dropWhile (fun x=>decide (x<s))=b at *
 unfold upS at h ⊢
 rw [List.pairwise_append] at h ⊢
 obtain ⟨h1,h2,h3⟩:=h
 cases b with
 | nil=>exact ⟨h1,List.pairwise_singleton _ _,fun x hx y hy=>by rw [List.mem_singleton.1 hy];exact ha x hx⟩
 | cons y r =>
  simp only
  split
  · exact ⟨h1,h2,h3⟩
  · rename_i hne
    have hsy:s<y:=by
     rcases lt_or (hb y r rfl) with h | h
     · exact h
     · exact absurd h hne
    refine ⟨h1,List.pairwise_cons.2 ⟨fun z hz=>?_,h2⟩,fun x hx z hz=>?_⟩
    · rcases List.mem_cons.1 hz with rfl | hz
      · exact hsy
      · exact List.lt_trans hsy ((List.pairwise_cons.1 h2).1 z hz)
    · rcases List.mem_cons.1 hz with rfl | hz
      · exact ha x hx
      · exact h3 x hx z hz
theorem up_uniq {l l':List Str} (h:upS l) (h':upS l') (hm:∀ x,x∈l↔x∈l'):l=l':=by
 have n1:l.Nodup:=h.imp fun hlt e=>absurd (e▸hlt) (List.lt_irrefl _)
 have n2:l'.Nodup:=h'.imp fun hlt e=>absurd (e▸hlt) (List.lt_irrefl _)
 exact List.Perm.eq_of_pairwise (le:=(· < ·)) (fun a b _ _ h1 h2=>absurd (List.lt_trans h1 h2) (List.lt_irrefl _)) h h' ((List.perm_ext_iff_of_nodup n1 n2).2 hm)
def zcN (L:TL) (f:Str):List Str:=L.foldl (fun a e=>if e.1.1=f then zg5 a e.1.2 else a) []
theorem zgy {g:(Str×Str)×Int->Option Str}:∀ (L:TL) (a:List Str),upS a->upS (L.foldl (fun a e=>match g e with | some s=>zg5 a s | none=>a) a)/\∀ x,x∈L.foldl (fun a e=>match g e with | some s=>zg5 a s | none=>a) a↔x∈a\/∃ e∈L,g e=some x
 | [],a,h=>⟨h,fun x=>by simp⟩
 | e::L,a,h=>by
  rw [List.foldl_cons]
  cases hg:g e with
  | none =>
   obtain ⟨h1,h2⟩:=zgy (g:=g) L a h
   refine ⟨h1,fun x=>?_⟩
   rw [h2]
   simp only [List.mem_cons,exists_eq_or_imp,hg]
   simp
  | some s =>
   obtain ⟨h1,h2⟩:=zgy (g:=g) L (zg5 a s) (zmu h)
   refine ⟨h1,fun x=>?_⟩
   rw [h2,zov]
   simp only [List.mem_cons,exists_eq_or_imp,hg,Option.some.injEq]
   constructor
   · rintro ((h | h) | h)
     · exact .inl h
     · exact .inr (.inl h.symm)
     · exact .inr (.inr h)
   · rintro (h | h | h)
     · exact .inl (.inl h)
     · exact .inl (.inr h.symm)
     · exact .inr h
theorem zkg (L:TL) (f:Str):upS (zcN L f)/\∀ x,x∈zcN L f↔∃ e∈L,e.1.1=f/\e.1.2=x:=by
 have:=zgy (g:=fun e=>if e.1.1=f then some e.1.2 else none) L [] List.Pairwise.nil
 have e:zcN L f=L.foldl (fun a e=>match (if e.1.1=f then some e.1.2 else none) with | some s=>zg5 a s | none=>a) []:=by
  unfold zcN
  congr 1
  funext a e
  split<;>rfl
 rw [e]
 refine ⟨this.1,fun x=>?_⟩
 rw [this.2]
 simp only [List.not_mem_nil,false_or]
 constructor
 · rintro ⟨e,he,h⟩
   split at h
   · rename_i hf;injection h with h;exact ⟨e,he,hf,h⟩
   · cases h
 · rintro ⟨e,he,hf,h⟩
   exact ⟨e,he,by rw [if_pos hf,h]⟩
def ziC (l:List (Str×Int)) (k:Str) (q:Int):List (Str×Int):=(l.takeWhile fun x=>decide (x.1<k))++match l.dropWhile fun x=>decide (x.1<k) with
 | []=>[(k,q)]
 | y::r=>if y.1=k then (y.1,max y.2 q)::r else (k,q)::y::r
theorem zlV {l:List (Str×Int)} {k:Str} {q:Int}:(ziC l k q).map (·.1)=zg5 (l.map (·.1)) k:=by
 unfold ziC zg5
 rw [List.takeWhile_map,List.dropWhile_map,List.map_append]
 congr 1
 show _=match List.map (·.1) (l.dropWhile fun x=>decide (x.1<k)) with | []=>_ | y::r=>_
 cases l.dropWhile (fun x=>decide (x.1<k)) with
 | nil=>rfl
 | cons y r =>
  simp only [List.map_cons]
  split<;>simp
theorem zbN {α β:Type} [DecidableEq α] (k:α) (x:α×β) (l:List (α×β)):lookA k (x::l)=if k=x.1 then some x.2 else lookA k l:=rfl
theorem zgx {α β:Type} [DecidableEq α] {k:α}:∀ (l r:List (α×β)),lookA k (l++r)=(lookA k l).or (lookA k r)
 | [],r=>rfl
 | x::l,r=>by
  rw [List.cons_append,zbN,zbN]
  split
  · rfl
  · exact zgx l r
theorem zlQ {l:List (Str×Int)} {k j:Str} {q:Int} (h:upS (l.map (·.1))):lookA j (ziC l k q)=if j=k then mx (lookA j l) (some q) else lookA j l:=by
 have e:=List.takeWhile_append_dropWhile (p:=fun x:Str×Int=>decide (x.1<k)) (l:=l)
 have ha:∀ x∈l.takeWhile (fun x=>decide (x.1<k)),x.1<k:=fun x hx=>by
  have:=List.all_takeWhile (p:=fun x:Str×Int=>decide (x.1<k)) (l:=l)
  exact of_decide_eq_true (List.all_eq_true.1 this x hx)
 have hb:∀ y r,l.dropWhile (fun x=>decide (x.1<k))=y::r->¬ y.1<k:=fun y r hy=>by
  have:=List.head?_dropWhile_not (fun x:Str×Int=>decide (x.1<k)) l
  rw [hy] at this
  simpa using this
 unfold ziC
 conv=>rhs;rw [<-e]
 rw [<-e] at h
 generalize l.takeWhile (fun x=>decide (x.1<k))=a at *
 generalize l.dropWhile (fun x=>decide (x.1<k))=b at *
 have han:lookA k a=none:=zbH.2 fun x hx hk=>absurd (hk▸ha x hx) (List.lt_irrefl _)
 rw [zgx,zgx]
 cases b with
 | nil =>
  simp only
  by_cases hj:j=k
  · subst hj;rw [if_pos rfl,han];simp [lookA,mx]
  · rw [if_neg hj];simp [lookA,hj]
 | cons y r =>
  simp only
  by_cases hy:y.1=k
  · rw [if_pos hy]
    by_cases hj:j=k
    · subst hj
      rw [if_pos rfl,han]
      simp only [lookA,hy,if_true,Option.none_or,mx,Option.some.injEq]
      split<;>omega
    · rw [if_neg hj]
      have:¬ j=y.1:=fun e=>hj (e.trans hy)
      simp only [lookA,if_neg this]
  · rw [if_neg hy]
    have hky:k<y.1:=by
     rcases lt_or (hb y r rfl) with h | h
     · exact h
     · exact absurd h hy
    by_cases hj:j=k
    · subst hj
      rw [if_pos rfl,han]
      have hn:lookA j (y::r)=none:=zbH.2 fun x hx hk=>by
       unfold upS at h
       rw [List.map_append,List.map_cons,List.pairwise_append,List.pairwise_cons] at h
       rcases List.mem_cons.1 hx with rfl | hx
       · exact absurd (hk▸hky) (List.lt_irrefl _)
       · have:=List.lt_trans hky (h.2.1.1 x.1 (List.mem_map.2 ⟨x,hx,rfl⟩))
         exact absurd (hk▸this) (List.lt_irrefl _)
      rw [hn]
      simp [lookA,mx]
    · rw [if_neg hj]
      have e1:lookA j ((k,q)::y::r)=lookA j (y::r):=by
       conv=>lhs;unfold lookA
       rw [if_neg hj]
      rw [e1]
def zg2 (L:TL) (n:Str):List (Str×Int):=L.foldl (fun a e=>if zdn e.1.1 n=true then ziC a e.1.2 e.2 else a) []
theorem zfQ (n:Str):∀ (L:TL) (a:List (Str×Int)),upS (a.map (·.1))->upS ((L.foldl (fun a e=>if zdn e.1.1 n=true then ziC a e.1.2 e.2 else a) a).map (·.1)) /\
  ∀ j,lookA j (L.foldl (fun a e=>if zdn e.1.1 n=true then ziC a e.1.2 e.2 else a) a)=zdB (fun e=>if zdn e.1.1 n=true/\e.1.2=j then some e.2 else none) L (lookA j a)
 | [],a,h=>⟨h,fun _=>rfl⟩
 | e::L,a,h=>by
  rw [List.foldl_cons]
  by_cases hm:zdn e.1.1 n=true
  · rw [if_pos hm]
    obtain ⟨h1,h2⟩:=zfQ n L (ziC a e.1.2 e.2) (by rw [zlV];exact zmu h)
    refine ⟨h1,fun j=>?_⟩
    rw [h2,zcq,zlQ h]
    by_cases hj:j=e.1.2
    · rw [if_pos hj,if_pos ⟨hm,hj.symm⟩]
    · rw [if_neg hj,if_neg (fun h=>hj h.2.symm),zjK]
  · rw [if_neg hm]
    obtain ⟨h1,h2⟩:=zfQ n L a h
    refine ⟨h1,fun j=>?_⟩
    rw [h2,zcq,if_neg (fun h=>hm h.1),zjK]
theorem zjl (L:TL) (n:Str):upS ((zg2 L n).map (·.1)):=(zfQ n L [] List.Pairwise.nil).1
theorem zka (L:TL) (n j:Str):lookA j (zg2 L n)=zdB (fun e=>if zdn e.1.1 n=true/\e.1.2=j then some e.2 else none) L none:=(zfQ n L [] List.Pairwise.nil).2 j
theorem zdb {α β:Type} [DecidableEq α] {k:α} {l:List (α×β)}:(lookA k l).isSome=true↔k∈l.map (·.1):=by
 cases h:lookA k l with
 | none =>
  rw [zbH] at h
  simp only [Option.isSome_none,Bool.false_eq_true,false_iff]
  intro hm
  obtain ⟨x,hx,e⟩:=List.mem_map.1 hm
  exact h x hx e.symm
 | some v =>
  simp only [Option.isSome_some,true_iff]
  exact List.mem_map.2 ⟨_,zdq h,rfl⟩
theorem match_fold {L:TL} (hn:(L.map (·.1)).Nodup) (hf:∀ e∈L,filterB e.1.1=true) {n:Str} {S:List (List Str)} (hS:∀ f,filterB f=true->(spl f∈S↔zdn f n=true)) (j:Str):zma (mOf L) [] S j none=lookA j (zg2 L n):=by
 rw [zka]
 have key:∀ q,zma (mOf L) [] S j none=some q↔zdB (fun e:(Str×Str)×Int=>if zdn e.1.1 n=true/\e.1.2=j then some e.2 else none) L none=some q:=by
  intro q
  unfold zma
  rw [zfc,zfc]
  have e1:∀ q',(∃ s∈S,mOf L ([]++s) j=some q')↔∃ e∈L,(if zdn e.1.1 n=true/\e.1.2=j then some e.2 else none)=some q':=by
   intro q'
   constructor
   · rintro ⟨s,hs,h⟩
     rw [List.nil_append] at h
     unfold mOf at h
     split at h
     · rename_i hsp
       have hm:=zdq h
       have hb:=(hS _ (hf _ hm)).1 (by rw [hsp];exact hs)
       exact ⟨_,hm,by rw [if_pos ⟨hb,rfl⟩]⟩
     · cases h
   · rintro ⟨e,he,h⟩
     split at h
     · rename_i hc
       injection h with h
       refine ⟨spl e.1.1,(hS _ (hf _ he)).2 hc.1,?_⟩
       rw [List.nil_append,zgU,<-hc.2,<-h]
       exact zeL hn he
     · cases h
  constructor
  · rintro ⟨h1,h2⟩
    refine ⟨(e1 q).1 h1,fun e he q' hq=>?_⟩
    obtain ⟨s,hs,h⟩:=(e1 q').2 ⟨e,he,hq⟩
    exact h2 s hs q' h
  · rintro ⟨h1,h2⟩
    refine ⟨(e1 q).2 h1,fun s hs q' hq=>?_⟩
    obtain ⟨e,he,h⟩:=(e1 q').1 ⟨s,hs,hq⟩
    exact h2 e he q' h
 cases h1:zma (mOf L) [] S j none with
 | some q=>exact ((key q).1 h1).symm
 | none =>
  cases h2:zdB (fun e:(Str×Str)×Int=>if zdn e.1.1 n=true/\e.1.2=j then some e.2 else none) L none with
  | none=>rfl
  | some q=>rw [(key q).2 h2] at h1;cases h1
theorem zj4:∀ {l:List (Str×Int)},(l.map (·.1)).Nodup->l=(l.map (·.1)).map fun k=>(k,(lookA k l).getD 0)
 | [],_=>rfl
 | x::l,h=>by
  rw [List.map_cons,List.nodup_cons] at h
  rw [List.map_cons,List.map_cons]
  congr 1
  · unfold lookA;rw [if_pos rfl];rfl
  · conv=>lhs;rw [zj4 h.2]
    refine List.map_congr_left fun k hk=>?_
    have:lookA k (x::l)=lookA k l:=by
     rw [zbN,if_neg (fun e=>h.1 (by rw [<-e];exact hk))]
    rw [this]
theorem zoW {l:List Str} (h:upS l):l.Nodup:=h.imp fun hlt e=>absurd (e▸hlt) (List.lt_irrefl _)
def sortS (l:List Str):List Str:=l.mergeSort fun x y=>decide (x<=y)
theorem zip {l:List Str} {x:Str}:x∈sortS l↔x∈l:=(List.mergeSort_perm l _).mem_iff
theorem zeR (l:List Str):(sortS l).length=l.length:=List.length_mergeSort l
theorem zpv {l:List Str} (h:l.Nodup):upS (sortS l):=by
 have htr:∀ a b c:Str,decide (a<=b)=true->decide (b<=c)=true->decide (a<=c)=true:=fun a b c h1 h2=>by simp only [decide_eq_true_eq] at *;exact List.le_trans h1 h2
 have hto:∀ a b:Str,(decide (a<=b)||decide (b<=a))=true:=fun a b=>by simp only [Bool.or_eq_true,decide_eq_true_eq];exact List.le_total a b
 have hs:=List.pairwise_mergeSort htr hto l
 have hn:(sortS l).Nodup:=(List.mergeSort_perm l _).nodup_iff.2 h
 refine (List.Pairwise.and hs hn).imp fun {a b} hab=>?_
 have h1:=of_decide_eq_true hab.1
 rcases List.le_iff_lt_or_eq.1 h1 with h | h
 · exact h
 · exact absurd h hab.2
theorem zjW {l r:List Str} (hn:l.Nodup) (hr:upS r) (hm:∀ x,x∈l↔x∈r):sortS l=r:=up_uniq (zpv hn) hr fun x=>by rw [zip,hm]
theorem match_same {L:TL} {n:Str} {o:List (Str×Int)} (ho:(o.map (·.1)).Nodup) (h:∀ j,lookA j o=lookA j (zg2 L n)) {ss:List Str} (hs:ss.Perm (o.map (·.1))):(sortS ss).map (fun k=>(k,(lookA k o).getD 0))=zg2 L n:=by
 have e:sortS ss=(zg2 L n).map (·.1):=zjW (hs.nodup_iff.2 ho) (zjl L n) fun x=>by rw [hs.mem_iff,<-zdb,<-zdb,h]
 rw [e]
 conv=>rhs;rw [zj4 (zoW (zjl L n))]
 refine List.map_congr_left fun k _=>?_
 rw [h]
theorem zga (l:Str):levs l=spl l:=zfK l.length l (Nat.le_refl _)
theorem znq:∀ {ls:List Str},(∀ i,i+1<ls.length->ls.getD i default≠[35])->endS ls
 | [],_=>trivial
 | [_],_=>trivial
 | x::y::a,h=>⟨h 0 (by simp),znq fun i hi=>by have:=h (i+1) (by simpa using hi);simpa using this⟩
theorem zjp {f:Str} (h:filterB f=true):endS (spl f):=by
 rw [zdH,zga,Bool.and_eq_true] at h
 refine znq fun i hi e=>?_
 have h0:=List.all_eq_true.1 (show (List.range (spl f).length).all (okAt (spl f))=true from h.2) i (List.mem_range.2 (by omega))
 unfold okAt at h0
 rw [e] at h0
 simp only [Bool.or_eq_true,Bool.and_eq_true,beq_iff_eq,decide_eq_true_eq,Bool.not_eq_true'] at h0
 rcases h0 with (h0 | ⟨_,h0⟩) | h0
 · cases h0
 · omega
 · exact absurd h0 (by decide)
theorem zjY {c:UInt8}:∀ {l x:Str},x∈spl l->c∈x->c∈l
 | [],x,h,hc=>by simp [spl] at h;rw [h] at hc;cases hc
 | d::l,x,h,hc=>by
  rw [zla] at h
  have ih:=@zjY c l
  split at h
  · rcases List.mem_cons.1 h with rfl | h
    · cases hc
    · exact List.mem_cons_of_mem _ (ih h hc)
  · cases hs:spl l with
    | nil=>exact absurd hs (znI l)
    | cons y p =>
     rw [hs] at h ih
     simp only [List.headD_cons,List.tail_cons] at h
     rcases List.mem_cons.1 h with rfl | h
     · rcases List.mem_cons.1 hc with rfl | hc
       · exact List.mem_cons_self
       · exact List.mem_cons_of_mem _ (ih List.mem_cons_self hc)
     · exact List.mem_cons_of_mem _ (ih (List.mem_cons_of_mem _ h) hc)
theorem zoP {n:Str} (h:zbD n=true):∀ y∈spl n,y≠[35]/\y≠[43]:=by
 rw [zjA,Bool.and_eq_true,Bool.not_eq_true'] at h
 have hw:=h.2
 unfold zc2 at hw
 rw [List.any_eq_false] at hw
 refine fun y hy=>⟨fun e=>?_,fun e=>?_⟩
 · have:=hw 35 (zjY hy (by rw [e];exact List.mem_cons_self));simp at this
 · have:=hw 43 (zjY hy (by rw [e];exact List.mem_cons_self));simp at this
theorem hid_is (n:Str):hidT ((spl n).getD 0 default)=hidT n:=by
 cases n with
 | nil=>rfl
 | cons c l =>
  rw [zla]
  split
  · rename_i h;subst h;rfl
  · rfl
theorem vis_match {f n:Str} (hf:filterB f=true) (hn:zbD n=true):spl f∈vis (!hidT n) (spl n)↔zdn f n=true:=by
 rw [<-zpt,hf,hn,zga,zga]
 simp only [Bool.true_and]
 unfold zmH
 rw [hid_is]
 have he:=zjp hf
 have hl:=zoP hn
 cases hh:hidT n with
 | false =>
  rw [Bool.not_false,zhQ _ _ he hl];simp
 | true =>
  rw [Bool.not_true]
  cases hs:spl n with
  | nil=>exact absurd hs (znI n)
  | cons y b =>
   rw [hs] at hl
   rw [zmA _ y b he hl]
   have ed:(default:Str)=[]:=rfl
   rw [ed]
   simp only [Bool.true_and,Bool.and_eq_true,Bool.not_eq_true',Bool.or_eq_false_iff,beq_eq_false_iff_ne,ne_eq]
   exact ⟨fun h=>⟨⟨h.2.1,h.2.2⟩,h.1⟩,fun h=>⟨h.2,h.1.1,h.1.2⟩⟩
abbrev pv (c:Nat):V:=.raw (.pointer (some ⟨c,0,none⟩))
def Nd.own (x:Nd):Own:=[.blk x.b [.raw (.map (some x.nm)), .raw (.map (some x.km))], .map x.nm (entM V.str pv x.next), .map x.km (entM V.str (V.int .i64) x.keys)]
def ownH:List Nd->Own
 | []=>[]
 | x::h=>x.own++ownH h
theorem ziH (x:Nd) (h:List Nd) (F:Own):ownH (x::h)++F=x.own++(ownH h++F):=List.append_assoc ..
theorem zcg (h1 h2:List Nd) (x:Nd):ownH (h1++x::h2)=ownH h1++(x.own++ownH h2):=by
 induction h1 with
 | nil=>rfl
 | cons y h1 ih=>show y.own++ownH (h1++x::h2)=y.own++ownH h1++_;rw [ih,List.append_assoc]
theorem zkn (h1 h2:List Nd):ownH (h1++h2)=ownH h1++ownH h2:=by
 induction h1 with
 | nil=>rfl
 | cons y h1 ih=>show y.own++ownH (h1++h2)=y.own++ownH h1++_;rw [ih,List.append_assoc]
theorem OnB.inH {h:List Nd} {H:Own} {b:Nat} {x:Nd} {G:List V->(Ent->Own)->Prop} (hx:fnd h b=some x) (k:∀ C,G [.raw (.map (some x.nm)), .raw (.map (some x.km))] C):OnB (ownH h++H) b G:=by
 obtain ⟨_,rfl⟩:=zck hx
 obtain ⟨h1,h2,e,_⟩:=zdj hx
 refine ⟨_,ownH h1, .map x.nm (entM V.str pv x.next) :: .map x.km (entM V.str (V.int .i64) x.keys)::(ownH h2++H),?_,k _⟩
 rw [e,zcg];simp [Nd.own]
theorem OnM.inN {h:List Nd} {H:Own} {b:Nat} {x:Nd} {G:List (V×V)->(Ent->Own)->Prop} (hx:fnd h b=some x) (k:∀ C:Ent->Own,(∀ nx,C (.map x.nm (entM V.str pv nx))=ownH (setN h { x with next:=nx })++H)->G (entM V.str pv x.next) C):OnM (ownH h++H) x.nm G:=by
 obtain ⟨_,rfl⟩:=zck hx
 obtain ⟨h1,h2,e,es⟩:=zdj hx
 refine ⟨_,ownH h1++[.blk x.b [.raw (.map (some x.nm)), .raw (.map (some x.km))]], .map x.km (entM V.str (V.int .i64) x.keys)::(ownH h2++H),?_,k _ fun nx=>?_⟩
 · rw [e,zcg];simp [Nd.own]
 · rw [es { x with next:=nx } rfl,zcg];simp [Nd.own]
theorem OnM.inK {h:List Nd} {H:Own} {b:Nat} {x:Nd} {G:List (V×V)->(Ent->Own)->Prop} (hx:fnd h b=some x) (k:∀ C:Ent->Own,(∀ ks,C (.map x.km (entM V.str (V.int .i64) ks))=ownH (setN h { x with keys:=ks })++H)->G (entM V.str (V.int .i64) x.keys) C):OnM (ownH h++H) x.km G:=by
 obtain ⟨_,rfl⟩:=zck hx
 obtain ⟨h1,h2,e,es⟩:=zdj hx
 refine ⟨_,ownH h1++[.blk x.b [.raw (.map (some x.nm)), .raw (.map (some x.km))], .map x.nm (entM V.str pv x.next)],ownH h2++H,?_,k _ fun ks=>?_⟩
 · rw [e,zcg];simp [Nd.own]
 · rw [es { x with keys:=ks } rfl,zcg];simp [Nd.own]
section
variable {P:Program} {n:Nat} {Q:Exit->Env->Own->Prop} {e:Env} {H:Own} {cc:Code}
theorem zor {h:List Nd} {x:Nd} (hx:x∈h):Ent.blk x.b [.raw (.map (some x.nm)), .raw (.map (some x.km))]∈ownH h:=by
 obtain ⟨h1,h2,rfl⟩:=List.append_of_mem hx
 rw [zcg];simp [Nd.own]
theorem zqe {y:Nd} {h:List Nd} {F:Own} (ha:(y.own++(ownH h++F)).Pairwise (fun e f=>∀ b,e.touches b->¬ f.touches b)):fnd h y.b=none:=by
 rw [zhG]
 intro x hx e
 rw [List.pairwise_append] at ha
 exact ha.2.2 (.blk y.b [.raw (.map (some y.nm)), .raw (.map (some y.km))]) (by simp [Nd.own]) _ (List.mem_append_left _ (zor hx)) y.b rfl e.symm
theorem DW.grow {x y:Nd} {h:List Nd} {r c:Nat} {m:List Str->Str->Option Int} {p:List Str} {l:Str} (t:Tri h r m) (hp:fol h r p=some c) (hx:fnd h c=some x) (hl:lookA l x.next=none) (hy:y.next=[]/\y.keys=[]) (hd:p.length<65536)
  (ho:OutL H y.own fun F1=>OutL F1 (ownH (setN h { x with next:=updA l y.b x.next })) fun F2=>(∀ h' x',Tri h' r m->fol h' r (p++[l])=some y.b->fnd h' c=some x'->lookA l x'.next=some y.b->DW P n cc Q e (ownH h'++F2))):DW P n cc Q e H:=by
 obtain ⟨F1,h1,F2,h2,h3⟩:=ho
 have hpm:=h1.trans (h2.append_left y.own)
 refine DW.perm hpm (DW.apart fun ha=>?_)
 have hxb:=(zck hx).2
 have hf0:=zqe ha
 have hsx:fnd h ({ x with next:=updA l y.b x.next }:Nd).b=some x:=by show fnd h x.b=some x;rw [hxb];exact hx
 have hyc:y.b≠x.b:=fun e=>by
  rw [zcT hsx,if_pos e] at hf0;cases hf0
 have hf:fnd h y.b=none:=by
  rw [zcT hsx,if_neg hyc] at hf0;exact hf0
 obtain ⟨t1,t2⟩:=t.sprout hp hx hl hf hy.1 hy.2 hd
 have:=h3 _ { x with next:=updA l y.b x.next } t1 (by rw [t2,if_pos rfl]) (by rw [zcV,if_neg (fun e=>hyc (e.trans hxb.symm)),zcT hsx];show (if c=x.b then _ else _)=_;rw [if_pos hxb.symm]) (by show lookA l (updA l y.b x.next)=_;rw [zg1,if_pos rfl])
 rw [ziH] at this
 exact this
theorem DW.unitE {id r mr:Nat} {m left cur:List (V×V)} (ho:Out H (.miter r mr m left cur) fun F=>DW P n (.exit id) Q e (.map mr m::F)):DW P n (.exit id) Q e H:=by
 obtain ⟨F,hp,h⟩:=ho
 refine DW.perm hp fun a w hs hr=>?_
 obtain ⟨g1,g2⟩:=Sim.unit (L1:=[]) (L2:=F) hs
 exact wp_mono (h a w g1 (hr.ext g2)) fun x a1 w1 ⟨hd,e1,H1,s,r,x1,q⟩=>⟨hd,e1,H1,s,r,g2.trans x1,q⟩
theorem DW.openR (id:Nat) {ops:Array Oper} {d:Bool} {h:List Nd} {b:Nat} {x:Nd} (hx:fnd h b=some x) (ho:OutL H (ownH h) fun F=>∀ h1 h2,h=h1++x::h2->DW P n (.region id ops d) Q e (x.own++(ownH (h1++h2)++F))):DW P n (.region id ops d) Q e H:=by
 obtain ⟨F,hp,h0⟩:=ho
 obtain ⟨_,rfl⟩:=zck hx
 obtain ⟨h1,h2,e1,_⟩:=zdj hx
 have:=h0 h1 h2 e1
 refine DW.perm (hp.trans ?_) this
 rw [e1,zcg,zkn,List.append_assoc,List.append_assoc,List.append_assoc]
 exact zeM _ _ _
theorem SubP.closeR {h1 h2:List Nd} {x:Nd} {G:Own} (h:SubP (x.own++(ownH (h1++h2)++G)) H):SubP (ownH (h1++x::h2)++G) H:=by
 obtain ⟨L,l1,l2⟩:=h
 refine ⟨L,l1.trans ?_,l2⟩
 rw [zcg,zkn,List.append_assoc,List.append_assoc,List.append_assoc]
 exact zeM _ _ _
theorem DW_id (h:DW P n cc Q e H):DW P n cc Q e H:=h
end
theorem zkB {α β:Type} {ek:α->V} {ev:β->V} {L:List (α×β)} {P:List (V×V)->V×V->List (V×V)->Prop} {Q:Prop} (h1:∀ A x C,L=A++x::C->P (entM ek ev A) (ek x.1,ev x.2) (entM ek ev C)) (h2:L=[]->Q):Both (∀ l1 y l2,entM ek ev L=l1++y::l2->P l1 y l2) (entM ek ev L=[]->Q):=⟨fun l1 y l2 e=>by
 unfold entM at e
 obtain ⟨A,B,rfl,e1,e2⟩:=List.map_eq_append_iff.1 e
 obtain ⟨x,C,rfl,e3,e4⟩:=List.map_eq_cons_iff.1 e2
 subst e1;subst e3;subst e4
 exact h1 A x C rfl,fun e=>h2 (by unfold entM at e;exact List.map_eq_nil_iff.1 e)⟩
theorem zeF {α β:Type} (ek:α->V) (ev:β->V) (a b:List (α×β)):entM ek ev a++entM ek ev b=entM ek ev (a++b):=(List.map_append).symm
structure TS where
 r:Nat
 h:List Nd
 L:TL
def ownT (t:Nat) (s:TS):Own:=.blk t [.raw (.pointer (some ⟨s.r,0,none⟩)), .int .i64 s.L.length]::ownH s.h
structure TOK (s:TS):Prop where
 tri:Tri s.h s.r (mOf s.L)
 nd:(s.L.map (·.1)).Nodup
 fl:∀ e∈s.L,filterB e.1.1=true
 kl:∀ e∈s.L,e.1.2.length<=1000000000
end
end Go.Proofs.YtgekknefphagbaaGreatDoor
