/- A text is what the document says. -/
import Derived.Test.YtifdpbghkccaoaaGreatDoorPv1x
import Derived.KernelRfl
import Derived.Test.YtifdpbghkccaoaaGreatDoorHtx
import Derived.Test.YtifdpbghkccaoaaGreatDoorRf3x
import Derived.Shelf.Strings.Split
import Derived.Test.YtifdpbghkccaoaaGreatDoorEqx
import Derived.Test.YtifdpbghkccaoaaGreatDoorRe1x
import Derived.Test.YtifdpbghkccaoaaGreatDoorPtdx
namespace Go.Proofs.YtifdpbghkccaoaaGreatDoor
open Go.RowKit
set_option linter.unusedSimpArgs false
set_option linter.unusedVariables false
set_option linter.unusedSectionVars false
set_option maxHeartbeats 4000000
set_option maxRecDepth 100000
section
attribute [local irreducible] DW SeqD DV DOp DC DVX
theorem take_u8q (l:List UInt8):List.take l.length (List.map u8 l)=List.map u8 l:=List.take_of_length_le (by simp)
theorem decS_dc (l:Str) (F:Own):((1<=l.length/\l.length<=1000000000)/\128<=bt l 0)->DC Tryz.prog 191 [.sl (l.map u8)] ([knF,knA]++F) fun d G=>((d = .tup [.int .i32 65533, .int .i64 1]/\(stepM l).2.2=false)\/(∃ r:Int,∃ n:Nat,(d = .tup [.int .i32 r, .int .i64 (n:Int)]/\(stepM l).2.2=true)/\(stepM l).2.1=(n:Int)/\(2<=n/\n<=l.length)/\(stepM l).1≠0))/\G=[knF,knA]++F:=fun ⟨hl,h0⟩=>by
 have hx:accN (bt l 0)=accN (bt l 0):=rfl
 conv at hx=>rhs;unfold accN
 repeat' split at hx
 all_goals first
 | exact dec_c2_dc l F ⟨hl,h0,hx⟩
 | exact dec_e0_dc l F ⟨hl,h0,hx⟩
 | exact dec_e1_dc l F ⟨hl,h0,hx⟩
 | exact dec_ed_dc l F ⟨hl,h0,hx⟩
 | exact dec_f0_dc l F ⟨hl,h0,hx⟩
 | exact dec_f1_dc l F ⟨hl,h0,hx⟩
 | exact dec_f4_dc l F ⟨hl,h0,hx⟩
 | exact dec_no_dc l F ⟨hl,h0,hx⟩
section
attribute [local push_cast 2000] u8 getD0
theorem decR_dc (l:Str) (F:Own):(1<=l.length/\l.length<=1000000000)->DC Tryz.prog 174 [.sl (l.map u8)] ([knF,knA]++F) fun d G=>((bt l 0<128/\d = .tup [.int .i32 (bt l 0), .int .i64 1])\/128<=bt l 0/\((d = .tup [.int .i32 65533, .int .i64 1]/\(stepM l).2.2=false)\/(∃ r:Int,∃ n:Nat,(d = .tup [.int .i32 r, .int .i64 (n:Int)]/\(stepM l).2.2=true)/\(stepM l).2.1=(n:Int)/\(2<=n/\n<=l.length)/\(stepM l).1≠0)))/\G=[knF,knA]++F:=by
 intro hA
 obtain ⟨hl,hl2⟩:=hA
 refine DC.bodyS (n_:=22) (show Tryz.prog.funcs[174]? = some Tryz.f174 by kernel_rfl) rfl rfl (by rfl) ?_
 simp only [env0,List.cons_append,List.nil_append]
 have kw:=ksIs [0,2,3,5,6,7,8,9,13]
 have ow:=ownIs []
 have q0:=u8_b (l.getD 0 0)
 repeat' (first
  | ((with_reducible refine DW.loopB 0 (X:=Nat) (fun x=>x<=0) (fun x=>[(0, .sl (l.map u8)),(6, .sl (l.map u8)),(7, .int .i64 (l.length:Int)),(8, .int .i64 x)]) (fun x=>[knF,knA]) (fun x=>0 - x) (0) ?_ ?_ ?_);exact (Nat.zero_le _);(simp [Sub,get,keepL]<;>fail);(try simp only [List.cons_append,List.nil_append]);refine pl_ ?_;intro k hk;(try simp only [List.cons_append,List.nil_append]);obtain rfl:k=0:=by omega)
  | refine g_ ?_
  | ((with_reducible refine And.intro ?_ ?_);(exact sv))
  | (refine DW.cond (by rfl) ?_ ?_<;>(first | exact i0_ | (refine ic_ ?_;intro hb)))
  | ((with_reducible refine FVg_cases ?_ ?_)<;>(intro hb;rw [hb];revert hb;(first | exact i0_ | (refine i_ ?_;intro hb))))
  | refine r_ ?_
  | refine k_ ?_
  | (refine p_ (decS_dc _ _) ?_;rintro d H1 ⟨⟨rfl,hv⟩ | ⟨r,n,⟨rfl,hv⟩,hs⟩,rfl⟩<;>refine s_ ?_)
  | refine o_ ?_
  | refine f_ ?_
  | with_reducible intro b)
 all_goals first
 | ((refine ⟨_,_,le.rfl_,⟨.inl ⟨by show ((l.getD 0 0).toNat:Int)<128;omega,rfl⟩,rfl⟩,?_⟩;exact sub_;done))
 | ((refine ⟨_,_,le.rfl_,⟨.inr ⟨by show 128<=((l.getD 0 0).toNat:Int);omega, .inl ⟨rfl,hv⟩⟩,rfl⟩,?_⟩;exact sub_;done))
 | ((refine ⟨_,_,le.rfl_,⟨.inr ⟨by show 128<=((l.getD 0 0).toNat:Int);omega, .inr ⟨r,n,⟨rfl,hv⟩,hs⟩⟩,rfl⟩,?_⟩;exact sub_;done))
 | (trivial)
 | (exfalso;omega)
end
theorem bt_drop (l:Str) (k:Nat):bt (l.drop k) 0=((l.getD k 0).toNat:Int):=by unfold bt;simp [List.getD_eq_getElem?_getD,List.getElem?_drop]
theorem decP_dc (l:Str) (k:Nat) (F:Own):(k<l.length/\l.length<=1000000000)->DC Tryz.prog 174 [.sl ((l.map u8).drop k)] ([knF,knA]++F) fun d G =>
  (((((l.getD k 0).toNat:Int)<128/\(stepM (l.drop k)).2.2=true/\(stepM (l.drop k)).1=((l.getD k 0).toNat:Int)/\(stepM (l.drop k)).2.1=1)/\d = .tup [.int .i32 ((l.getD k 0).toNat:Int), .int .i64 1])\/((128<=((l.getD k 0).toNat:Int)/\(stepM (l.drop k)).2.2=false)/\d = .tup [.int .i32 65533, .int .i64 1]) \/
    ∃ r:Int,∃ n:Nat,(128<=((l.getD k 0).toNat:Int)/\(stepM (l.drop k)).2.2=true/\(stepM (l.drop k)).1≠0/\(stepM (l.drop k)).2.1=(n:Int)/\2<=n/\k+n<=l.length)/\d = .tup [.int .i32 r, .int .i64 (n:Int)])/\G=[knF,knA]++F:=fun ⟨h1,h2⟩=>by
 have hm:(l.map u8).drop k=(l.drop k).map u8:=List.map_drop.symm
 rw [hm]
 refine (decR_dc (l.drop k) F ⟨by rw [List.length_drop];omega,by rw [List.length_drop];omega⟩).mono fun d G ⟨h,hG⟩=>⟨?_,hG⟩
 rw [bt_drop] at h
 rcases h with ⟨a,rfl⟩ | ⟨a,⟨rfl,b⟩ | ⟨r,n,⟨rfl,b⟩,c1,c2,c3⟩⟩
 · have e:=stepM_1 (l:=l.drop k) (by show bt (l.drop k) 0<128;rw [bt_drop];exact a)
   have e2:(((l.drop k).getD 0 0).toNat:Int)=((l.getD k 0).toNat:Int):=bt_drop l k
   rw [e2] at e
   exact .inl ⟨⟨a,by rw [e],by rw [e],by rw [e]⟩,rfl⟩
 · exact .inr (.inl ⟨⟨a,b⟩,rfl⟩)
 · rw [List.length_drop] at c2
   exact .inr (.inr ⟨r,n,⟨a,b,c3,c1,c2.1,by omega⟩,rfl⟩)
attribute [local irreducible] stepM
section
attribute [local push_cast 2000] u8 take_u8q getD0
theorem chk_dc (l:Str) (F:Own):(l.length<=1000000000)->DC Tryz.prog 138 [.sl (l.map u8)] ([knF,knA]++F) fun d G=>∃ i:Int,d = .int .i64 i/\decide (i<0)=chkB l/\G=[knF,knA]++F:=by
 intro hA
 have hl:=hA
 refine DC.bodyS (n_:=34) (show Tryz.prog.funcs[138]? = some Tryz.f138 by kernel_rfl) rfl rfl (by rfl) ?_
 simp only [env0,List.cons_append,List.nil_append]
 have kw:=ksIs [0,2,3,4,5,9,29]
 have ow:=ownIs []
 repeat' (first
  | ((with_reducible refine DW.loopB 0 (X:=Nat) (fun x=>x<=l.length/\∃ f,l.length - x<=f/\chkB l=chkF f (l.drop x)) (fun x=>[(0, .sl (l.map u8)),(3, .int .i64 x)]) (fun x=>[knF,knA]) (fun x=>l.length - x) (0) ?_ ?_ ?_);exact (⟨Nat.zero_le _,l.length,by omega,by rw [List.drop_zero];rfl⟩);(simp [Sub,get,keepL]<;>fail);(try simp only [List.cons_append,List.nil_append]);refine pl_ ?_;intro k ⟨hk,f,hf,ha⟩;(try simp only [List.cons_append,List.nil_append]);have q0:=u8_b (l.getD k 0))
  | refine g_ ?_
  | ((with_reducible refine And.intro ?_ ?_);(exact sv))
  | (refine DW.cond (by rfl) ?_ ?_<;>(first | exact i0_ | (refine ic_ ?_;intro hb)))
  | ((with_reducible refine FVg_cases ?_ ?_)<;>(intro hb;rw [hb];revert hb;(first | exact i0_ | (refine i_ ?_;intro hb))))
  | refine r_ ?_
  | refine k_ ?_
  | (refine p_ (decP_dc _ _ _) ?_;rintro d H1 ⟨⟨⟨c0,c1,c2,c3⟩,rfl⟩ | ⟨⟨c0,c1⟩,rfl⟩ | ⟨r,n,⟨c0,c1,c2,c3,c4,c5⟩,rfl⟩,rfl⟩<;>refine s_ ?_)
  | refine o_ ?_
  | refine f_ ?_
  | with_reducible intro b)
 all_goals first
 | (have hkl:k=l.length:=by omega
    subst hkl
    rw [List.drop_length,chkF_nil] at ha
    refine ⟨_,_,le.rfl_,⟨-1,rfl,by rw [ha];rfl,rfl⟩,?_⟩;exact sub_;done)
 | (have hb2:=chk_bad (show k<l.length by omega) hf (by first | (left;assumption) | (right;omega))
    rw [hb2] at ha
    refine ⟨_,_,le.rfl_,⟨(k:Int),rfl,by rw [ha];exact decide_eq_false (by omega),rfl⟩,?_⟩;exact sub_;done)
 | (exact absurd trivial hb)
 | (obtain ⟨m,g,e1,e2,e3,e4,e5⟩:=chk_go (show k<l.length by omega) hf c1 (by omega)
    obtain rfl:m=1:=by omega
    refine ⟨k+1,⟨e3,g,e4,by rw [ha,e5]⟩,by omega,?_,?_⟩;(simp [Sub,get]<;>fail);(exact sub_);done)
 | (obtain ⟨m,g,e1,e2,e3,e4,e5⟩:=chk_go (show k<l.length by omega) hf c1 (by omega)
    obtain rfl:m=n:=by omega
    refine ⟨k+m,⟨e3,g,e4,by rw [ha,e5]⟩,by omega,?_,?_⟩;(simp [Sub,get]<;>fail);(exact sub_);done)
 | (exfalso;omega)
end
section
attribute [local push_cast 2000] u8
theorem textA_dc (l:Str) (F:Own):(l.length<=1000000000)->DC Tryz.prog 93 [.str l] ([knF,knA]++F) fun d G=>d = .bool (textB l)/\G=[knF,knA]++F:=by
 intro hA
 have hl:=hA
 refine DC.bodyS (n_:=16) (show Tryz.prog.funcs[93]? = some Tryz.f93 by kernel_rfl) rfl rfl (by rfl) ?_
 simp only [env0,List.cons_append,List.nil_append]
 have kw:=ksIs [0,2]
 have ow:=ownIs []
 repeat' (first
  | refine g_ ?_
  | ((with_reducible refine And.intro ?_ ?_);(exact sv))
  | (refine DW.cond (by rfl) ?_ ?_<;>(first | exact i0_ | (refine ic_ ?_;intro hb)))
  | ((with_reducible refine FVg_cases ?_ ?_)<;>(intro hb;rw [hb];revert hb;(first | exact i0_ | (refine i_ ?_;intro hb))))
  | refine r_ ?_
  | refine k_ ?_
  | (refine p_ (chk_dc _ _) ?_;rintro d H1 ⟨i,rfl,hi1,rfl⟩<;>refine s_ ?_)
  | refine o_ ?_
  | refine f_ ?_
  | with_reducible intro b)
 all_goals first
 | (have e:textB l=false:=by unfold textB;first | (rw [decide_eq_false (show ¬ l.length<=65535 by omega)];simp) | (rw [(by assumption:l=[])];rfl)
    rw [e];(first | exact fin_ | refine finq_ ?_);done)
 | (have hne:1<=l.length:=by rcases Nat.eq_zero_or_pos l.length with h | h;(exact absurd (List.length_eq_zero_iff.1 h) (by assumption));exact h
    have e:textB l=chkB l:=by unfold textB;rw [decide_eq_true hne,decide_eq_true (by omega)];rfl
    rw [e,<-hi1];(first | exact fin_ | refine finq_ ?_);done)
end
end
section
theorem drop_consW {l:List UInt8} {i:Nat} (h:i<l.length):l.drop i=l.getD i 0::l.drop (i+1):=by
 rw [List.drop_eq_getElem_cons h];simp [List.getD_eq_getElem?_getD,h]
theorem bs_getW (s:List UInt8) (k:Nat):(bs s).get! k=s.getD k 0:=by
 unfold bs ByteArray.get!
 simp [List.getD_eq_getElem?_getD]
 rfl
theorem wild_skip {l:List UInt8}:∀ {w k:Nat},(∀ j,j<w->k+j<l.length/\128<=(l.getD (k+j) 0).toNat)->wildT (l.drop k)=wildT (l.drop (k+w))
 | 0,k,_=>rfl
 | w+1,k,h=>by
  have h0:=h 0 (by omega)
  rw [Nat.add_zero] at h0
  rw [drop_consW h0.1]
  unfold wildT
  rw [List.any_cons]
  have e1:(l.getD k 0==43)=false:=by
   rw [beq_eq_false_iff_ne];intro e;rw [e] at h0;exact absurd h0.2 (by decide)
  have e2:(l.getD k 0==35)=false:=by
   rw [beq_eq_false_iff_ne];intro e;rw [e] at h0;exact absurd h0.2 (by decide)
  rw [e1,e2]
  have:=wild_skip (l:=l) (w:=w) (k:=k+1) (fun j hj=>by have:=h (j+1) (by omega);rwa [show k+(j+1)=k+1+j by omega] at this)
  unfold wildT at this
  rw [Bool.or_self,Bool.false_or,this,show k+1+w=k+(w+1) by omega]
theorem rune_all {l:List UInt8} {k:Nat} (hi:k<l.length):((l.getD k 0).toNat<128/\runeAt l k=(l.getD k 0).toNat/\wideAt l k=1)\/(128<=runeAt l k/\1<=wideAt l k/\∀ j,j<wideAt l k->k+j<l.length/\128<=(l.getD (k+j) 0).toNat):=by
 unfold runeAt wideAt Utf8.decode
 simp only [Nat.add_zero,bs_getW]
 have hsz:(bs l).size=l.length:=by simp [bs,ByteArray.size]
 rw [hsz]
 rcases Nat.lt_or_ge (l.getD k 0).toNat 128 with h0 | h0
 · rw [if_pos h0];exact .inl ⟨h0,rfl,rfl⟩
 · rw [if_neg (by omega)]
   refine .inr ?_
   have one:∀ j,j<1->k+j<l.length/\128<=(l.getD (k+j) 0).toNat:=fun j hj=>by
    obtain rfl:j=0:=by omega
    exact ⟨hi,h0⟩
   have cont:∀ j,(decide (k+j<l.length)&&((l.getD (k+j) 0).toNat / 64==2))=true->k+j<l.length/\128<=(l.getD (k+j) 0).toNat:=fun j h=>by
    simp only [Bool.and_eq_true,decide_eq_true_eq,beq_iff_eq] at h
    exact ⟨h.1,by omega⟩
   split
   · rename_i hc
     simp only [Bool.and_eq_true,beq_iff_eq] at hc
     have c1:=cont 1 (by simp only [Bool.and_eq_true,beq_iff_eq];exact hc.2)
     split
     · rename_i h2
       refine ⟨by simp only;omega,by simp only;omega,fun j hj=>?_⟩
       simp only at hj
       rcases (show j=0\/j=1 by omega) with rfl | rfl
       · exact ⟨hi,h0⟩
       · exact c1
     · exact ⟨by decide,by decide,one⟩
   · split
     · rename_i hc
       simp only [Bool.and_eq_true,beq_iff_eq] at hc
       have c1:=cont 1 (by simp only [Bool.and_eq_true,beq_iff_eq];exact hc.1.2)
       have c2:=cont 2 (by simp only [Bool.and_eq_true,beq_iff_eq];exact hc.2)
       split
       · rename_i h2
         simp only [Bool.and_eq_true,decide_eq_true_eq] at h2
         refine ⟨by simp only;omega,by simp only;omega,fun j hj=>?_⟩
         simp only at hj
         rcases (show j=0\/j=1\/j=2 by omega) with rfl | rfl | rfl
         · exact ⟨hi,h0⟩
         · exact c1
         · exact c2
       · exact ⟨by decide,by decide,one⟩
     · split
       · rename_i hc
         simp only [Bool.and_eq_true,beq_iff_eq] at hc
         have c1:=cont 1 (by simp only [Bool.and_eq_true,beq_iff_eq];exact hc.1.1.2)
         have c2:=cont 2 (by simp only [Bool.and_eq_true,beq_iff_eq];exact hc.1.2)
         have c3:=cont 3 (by simp only [Bool.and_eq_true,beq_iff_eq];exact hc.2)
         split
         · rename_i h2
           simp only [Bool.and_eq_true,decide_eq_true_eq] at h2
           refine ⟨by simp only;omega,by simp only;omega,fun j hj=>?_⟩
           simp only at hj
           rcases (show j=0\/j=1\/j=2\/j=3 by omega) with rfl | rfl | rfl | rfl
           · exact ⟨hi,h0⟩
           · exact c1
           · exact c2
           · exact c3
         · exact ⟨by decide,by decide,one⟩
       · exact ⟨by decide,by decide,one⟩
theorem wild_all {l:List UInt8} {k:Nat}:(l.length<=k/\wildT (l.drop k)=false)\/(k<l.length/\1<=wideAt l k/\k+wideAt l k<=l.length/\wildT (l.drop k)=(((runeAt l k:Int)==43||(runeAt l k:Int)==35)||wildT (l.drop (k+wideAt l k)))):=by
 rcases Nat.lt_or_ge k l.length with hi | hi
 · refine .inr ⟨hi,?_⟩
   rcases rune_all hi with ⟨h0,h1,h2⟩ | ⟨h1,h2,h3⟩
   · rw [h1,h2]
     refine ⟨Nat.le_refl _,by omega,?_⟩
     rw [drop_consW hi]
     unfold wildT
     rw [List.any_cons]
     congr 1
     have q (n:UInt8):(l.getD k 0==n)=(((l.getD k 0).toNat:Int)==(n.toNat:Int)):=by
      rw [Bool.eq_iff_iff]
      simp only [beq_iff_eq]
      constructor
      · intro e;rw [e]
      · intro e;exact UInt8.toNat_inj.1 (by omega)
     rw [q 43,q 35]
     rfl
   · have h4:=(h3 (wideAt l k - 1) (by omega)).1
     refine ⟨h2,by omega,?_⟩
     have e1:((runeAt l k:Int)==43)=false:=by rw [beq_eq_false_iff_ne];omega
     have e2:((runeAt l k:Int)==35)=false:=by rw [beq_eq_false_iff_ne];omega
     rw [e1,e2,wild_skip h3];rfl
 · refine .inl ⟨hi,?_⟩
   rw [List.drop_of_length_le hi];rfl
def spl:Str->List Str
 | []=>[[]]
 | c::l=>if c=47 then []::spl l else (c::(spl l).headD [])::(spl l).tail
theorem spl_cons (l:Str):spl l=(spl l).headD []::(spl l).tail:=by
 cases l with
 | nil=>rfl
 | cons c l=>unfold spl;split<;>rfl
theorem spl_none:∀ {l:Str},(∀ k:Nat,l[k]? ≠ some 47)->spl l=[l]
 | [],_=>rfl
 | c::l,h=>by
  have h0:c≠47:=fun e=>h 0 (by simp [e])
  unfold spl;rw [if_neg h0,spl_none fun k=>by have:=h (k+1);simpa using this];rfl
theorem spl_hit:∀ {l:Str} {i:Nat},l[i]? = some 47->(∀ k:Nat,k<i->l[k]? ≠ some 47)->spl l=l.take i::spl (l.drop (i+1))
 | [],i,h,_=>by simp at h
 | c::l,0,h,_=>by
  have:c=47:=by simpa using h
  conv=>lhs;unfold spl
  rw [if_pos this];simp
 | c::l,i+1,h,h2=>by
  have h0:c≠47:=fun e=>h2 0 (by omega) (by simp [e])
  have ih:=spl_hit (l:=l) (i:=i) (by simpa using h) fun k hk=>by have:=h2 (k+1) (by omega);simpa using this
  conv=>lhs;unfold spl
  rw [if_neg h0,ih];simp
theorem bs_ext (l:Str) (a b:Nat):(bs l).extract a b=bs ((l.take b).drop a):=by
 unfold bs
 apply ByteArray.ext
 simp [ByteArray.data_extract,List.drop_take]
theorem bs_list (l:Str):(bs l).data.toList=l:=by simp [bs]
theorem idx_slash (l:Str):Lib.indexB (bs l) (bs [47])=Lib.indexByte l 47:=by
 rw [Lib.one _ _ (by decide),bs_list];rfl
theorem levs_spl:∀ (n:Nat) (l:Str),l.length<=n->levs l=spl l:=by
 intro n
 induction n with
 | zero =>
  intro l h
  obtain rfl:l=[]:=List.length_eq_zero_iff.1 (by omega)
  rfl
 | succ n ih =>
  intro l h
  have hge:=Lib.indexByte_ge l 47
  rcases (show Lib.indexByte l 47 = -1\/0<=Lib.indexByte l 47 by omega) with hi | hi
  · have hb:Lib.indexB (bs l) (bs [47]) = -1:=by rw [idx_slash,hi]
    unfold levs
    rw [Lib.countB_miss _ _ hb,Lib.splitB_zero]
    simp only [List.map_cons,List.map_nil,bs_list]
    exact (spl_none (Lib.indexByte_none hi)).symm
  · obtain ⟨i,hi⟩:=Int.eq_ofNat_of_zero_le hi
    have hb:Lib.indexB (bs l) (bs [47])=(i:Int):=by rw [idx_slash,hi]
    obtain ⟨h1,h2⟩:=Lib.indexByte_some hi
    have hlt:i<l.length:=by
     rcases Nat.lt_or_ge i l.length with h3 | h3
     · exact h3
     · rw [List.getElem?_eq_none h3] at h1;cases h1
    have e:(bs l).extract (i+(bs [47]).size) (bs l).size=bs (l.drop (i+1)):=by
     rw [bs_ext]
     have:(bs l).size=l.length:=by simp [bs,ByteArray.size]
     rw [this,List.take_length];rfl
    have e0:(bs l).extract 0 (i+0)=bs (l.take i):=by rw [bs_ext];simp
    rw [spl_hit h1 h2,<-ih (l.drop (i+1)) (by rw [List.length_drop];omega)]
    unfold levs
    rw [Lib.countB_hit _ _ i (by decide) hb,Nat.add_comm,Lib.splitB_hit _ _ _ _ i hb,e,e0]
    simp only [List.map_cons,bs_list]
theorem fold_spl:∀ (t:Str) (acc:List Str) (x:Str),t.foldl levStep (acc++[x])=acc++((x++(spl t).headD [])::(spl t).tail)
 | [],acc,x=>by simp [spl]
 | c::t,acc,x=>by
  rw [List.foldl_cons]
  by_cases hc:(c.toNat:Int)=47
  · rw [levStep_1 hc,fold_spl t (acc++[x]) []]
    have:c=47:=UInt8.toNat_inj.1 (by have:(47:UInt8).toNat=47:=rfl;omega)
    have e:spl (c::t)=[]::spl t:=by rw [spl,if_pos this]
    rw [e]
    simp only [List.nil_append,List.headD_cons,List.tail_cons,List.append_nil,List.append_assoc,List.singleton_append]
    rw [<-spl_cons]
  · have:c≠47:=fun e=>hc (by rw [e];rfl)
    have e:spl (c::t)=(c::(spl t).headD [])::(spl t).tail:=by rw [spl,if_neg this]
    rw [levStep_2 hc,e]
    have e2:(acc++[x]).set ((acc++[x]).length - 1) ((acc++[x]).getD ((acc++[x]).length - 1) []++[c])=acc++[x++[c]]:=by
     simp [List.getD_eq_getElem?_getD]
    rw [e2,fold_spl t acc (x++[c])]
    simp
theorem lev_levs (t:Str):lev t t.length=levs t:=by
 rw [levs_spl t.length t (Nat.le_refl _)]
 unfold lev
 rw [List.take_length]
 have:=fold_spl t [] []
 simp only [List.nil_append] at this
 rw [this,<-spl_cons]
theorem hasC_any (t:Str) (c:UInt8):hasC t (c.toNat:Int)=t.any fun x=>x==c:=by
 unfold hasC anyK hasAt
 rw [Bool.eq_iff_iff,List.any_eq_true,List.any_eq_true]
 constructor
 · rintro ⟨i,hi,h⟩
   rw [List.mem_range] at hi
   refine ⟨t[i],List.getElem_mem hi,?_⟩
   simp [List.getD_eq_getElem?_getD,hi] at h
   rw [beq_iff_eq];exact UInt8.toNat_inj.1 (by omega)
 · rintro ⟨x,hx,h⟩
   obtain ⟨i,hi,rfl⟩:=List.getElem_of_mem hx
   refine ⟨i,List.mem_range.2 hi,?_⟩
   rw [beq_iff_eq] at h
   simp [List.getD_eq_getElem?_getD,hi,h]
theorem hasC_wild (t:Str):(hasC t 43||hasC t 35)=wildT t:=by
 have a:=hasC_any t 43
 have b:=hasC_any t 35
 have a:hasC t 43=_:=a
 have b:hasC t 35=_:=b
 rw [a,b]
 unfold wildT
 rw [Bool.eq_iff_iff,Bool.or_eq_true,List.any_eq_true,List.any_eq_true,List.any_eq_true]
 constructor
 · rintro (⟨x,h1,h2⟩ | ⟨x,h1,h2⟩)
   · exact ⟨x,h1,by rw [h2];rfl⟩
   · exact ⟨x,h1,by rw [h2];simp⟩
 · rintro ⟨x,h1,h2⟩
   rcases Bool.or_eq_true_iff.1 h2 with h | h
   · exact .inl ⟨x,h1,h⟩
   · exact .inr ⟨x,h1,h⟩
theorem name_eq (t:Str):nameB t=(textB t && !wildT t):=by
 unfold nameB
 rw [<-hasC_wild]
 cases textB t<;>cases hasC t 43<;>cases hasC t 35<;>rfl
theorem okAt_lvl {L:List Str} {i:Nat} (h:i<L.length):okAt L i=lvlOk L i:=by
 unfold okAt lvlOk
 have e0:L.getD i default=L.getD i []:=rfl
 rw [e0]
 generalize L.getD i []=x
 by_cases h1:x=[43]
 · subst h1
   have a:hasC [43] 43=true:=by decide
   have b:hasC [43] 35=false:=by decide
   rw [a,b];simp
 · by_cases h2:x=[35]
   · subst h2
     have a:hasC [35] 43=false:=by decide
     have b:hasC [35] 35=true:=by decide
     have c:wildT [35]=true:=by decide
     rw [a,b,c]
     rw [Bool.eq_iff_iff];simp;omega
   · have e1:(x==[43])=false:=beq_eq_false_iff_ne.2 h1
     have e2:(x==[35])=false:=beq_eq_false_iff_ne.2 h2
     have e3:(x != [43])=true:=by rw [bne,e1];rfl
     have e4:(x != [35])=true:=by rw [bne,e2];rfl
     rw [e1,e2,e3,e4,<-hasC_wild]
     cases hasC x 43<;>cases hasC x 35<;>rfl
theorem filter_eq (t:Str):filterB t=(textB t&&okF (levs t)):=by
 unfold filterB okF
 rw [lev_levs]
 congr 1
 rw [Bool.eq_iff_iff]
 unfold allK
 rw [List.all_eq_true,List.all_eq_true]
 constructor
 · intro h i hi;rw [okAt_lvl (List.mem_range.1 hi)];exact h i hi
 · intro h i hi;rw [<-okAt_lvl (List.mem_range.1 hi)];exact h i hi
theorem levs_bound (l:Str):(levs l).length<=l.length+1/\∀ k,((levs l).getD k default).length<=l.length:=by
 rw [<-lev_levs]
 exact ⟨(lev_len (Nat.le_refl _)).2,fun k=>lev_bound (Nat.le_refl _) k⟩
attribute [local irreducible] DW SeqD DV DOp DC DVX DVJ textB wildT
theorem idxW_dc (l:List UInt8) (F:Own):(l.length<=1000000000)->DC Tryz.prog 176 [.str l, .fn (.func 96) [] [], .bool true] (([]:Own)++F) fun d G=>((d = .int .i64 (-1)/\wildT l=false)\/(∃ k:Nat,d = .int .i64 k/\wildT l=true))/\G=[]++F:=by
 intro hA
 have hl:=hA
 refine DC.bodyS (n_:=21) (show Tryz.prog.funcs[176]? = some Tryz.f176 by kernel_rfl) rfl rfl (by rfl) ?_
 simp only [env0,List.cons_append,List.nil_append]
 have kw:=ksIs [0,1,2,6,7,8,10,11,12,19]
 have ow:=ownIs []
 repeat' (first
  | ((with_reducible refine DW.loopB 0 (X:=Nat) (fun x=>x<=l.length/\wildT (l.drop x)=wildT l) (fun x=>[(1, .fn (.func 96) [] []),(2, .bool true),(10, .raw (.pointer (some ⟨b,0,none⟩)))]) (fun x=>.siter b l x::([]:Own)) (fun x=>l.length - x) (0) ?_ ?_ ?_);exact (⟨Nat.zero_le _,rfl⟩);(simp [Sub,get,keepL]<;>fail);(try simp only [List.cons_append,List.nil_append]);refine pl_ ?_;intro k ⟨hk,hwk⟩;(try simp only [List.cons_append,List.nil_append]);rcases wild_all (l:=l) (k:=k) with ⟨q0,q1⟩ | ⟨q0,q1,q2,q4⟩)
  | refine g_ ?_
  | ((with_reducible refine And.intro ?_ ?_);(exact sv))
  | (refine DW.cond (by rfl) ?_ ?_<;>(first | exact i0_ | (refine ic_ ?_;intro hb)))
  | ((with_reducible refine FVg_cases ?_ ?_)<;>(intro hb;rw [hb];revert hb;(first | exact i0_ | (refine i_ ?_;intro hb))))
  | ((refine Both.imp ?_ ?_)<;>(first | exact i0_ | (refine i_ ?_;intro hb)))
  | refine r_ ?_
  | refine k_ ?_
  | (refine q_ (wildg_dc _ _) ?_)
  | refine o_ ?_
  | refine f_ ?_
  | ((refine Both.imp (fun hb=>?_) (fun hb=>?_))<;>(try (exfalso;omega)))
  | with_reducible intro b)
 all_goals first
 | ((refine ⟨_,_,le.rfl_,⟨.inl ⟨rfl,?_⟩,rfl⟩,?_⟩);(rw [<-hwk];exact q1);(exact sub_))
 | ((refine ⟨_,_,le.rfl_,⟨.inr ⟨k,rfl,?_⟩,rfl⟩,?_⟩);(rw [<-hwk,q4,hb];rfl);(exact sub_))
 | (refine ⟨k+wideAt l k,?_,?_,?_,?_⟩;((exact ⟨q2,by rw [<-hwk,q4,hb];rfl⟩));(omega);(simp [Sub,get]<;>(fail));(try dsimp only);(exact sub_);done)
theorem idxfW_dc (l:List UInt8) (F:Own):(l.length<=1000000000)->DC Tryz.prog 140 [.str l, .fn (.func 96) [] []] (([]:Own)++F) fun d G=>((d = .int .i64 (-1)/\wildT l=false)\/(∃ k:Nat,d = .int .i64 k/\wildT l=true))/\G=[]++F:=by
 intro hA
 have hl:=hA
 refine DC.bodyS (n_:=8) (show Tryz.prog.funcs[140]? = some Tryz.f140 by kernel_rfl) rfl rfl (by rfl) ?_
 simp only [env0,List.cons_append,List.nil_append]
 have kw:=ksIs [0,1,4]
 have ow:=ownIs []
 repeat' (first
  | refine g_ ?_
  | ((with_reducible refine And.intro ?_ ?_);(exact sv))
  | (refine DW.cond (by rfl) ?_ ?_<;>(first | exact i0_ | (refine ic_ ?_;intro hb)))
  | ((with_reducible refine FVg_cases ?_ ?_)<;>(intro hb;rw [hb];revert hb;(first | exact i0_ | (refine i_ ?_;intro hb))))
  | refine r_ ?_
  | refine k_ ?_
  | (refine p_ (idxW_dc _ _) ?_;rintro d H1 ⟨⟨rfl,hw⟩ | ⟨k,rfl,hw⟩,rfl⟩<;>refine s_ ?_)
  | refine o_ ?_
  | refine f_ ?_
  | with_reducible intro b)
 all_goals first
 | ((refine ⟨_,_,le.rfl_,⟨.inl ⟨rfl,hw⟩,rfl⟩,?_⟩);(exact sub_))
 | ((refine ⟨_,_,le.rfl_,⟨.inr ⟨_,rfl,hw⟩,rfl⟩,?_⟩);(exact sub_))
theorem conW_dc (l:List UInt8) (F:Own):(l.length<=1000000000)->DC Tryz.prog 95 [.str l, .fn (.func 96) [] []] (([]:Own)++F) fun d G=>d = .bool (wildT l)/\G=[]++F:=by
 intro hA
 have hl:=hA
 refine DC.bodyS (n_:=9) (show Tryz.prog.funcs[95]? = some Tryz.f95 by kernel_rfl) rfl rfl (by rfl) ?_
 simp only [env0,List.cons_append,List.nil_append]
 have kw:=ksIs [0,1,4]
 have ow:=ownIs []
 repeat' (first
  | refine g_ ?_
  | ((with_reducible refine And.intro ?_ ?_);(exact sv))
  | (refine DW.cond (by rfl) ?_ ?_<;>(first | exact i0_ | (refine ic_ ?_;intro hb)))
  | ((with_reducible refine FVg_cases ?_ ?_)<;>(intro hb;rw [hb];revert hb;(first | exact i0_ | (refine i_ ?_;intro hb))))
  | refine r_ ?_
  | refine k_ ?_
  | (refine p_ (idxfW_dc _ _) ?_;rintro d H1 ⟨⟨rfl,hw⟩ | ⟨k,rfl,hw⟩,rfl⟩<;>refine s_ ?_)
  | refine o_ ?_
  | refine f_ ?_
  | with_reducible intro b)
 all_goals first
 | ((refine ⟨_,_,le.of_eq ?_,⟨rfl,rfl⟩,?_⟩);(rw [hw];first | rfl | (congr 1;exact decide_eq_true (by omega)) | (congr 1;exact decide_eq_false (by omega)));(exact sub_))
theorem nameA_dc (l:List UInt8) (F:Own):(l.length<=1000000000)->DC Tryz.prog 98 [.str l] ([knF,knA]++F) fun d G=>d = .bool (nameB l)/\G=[knF,knA]++F:=by
 intro hA
 have hl:=hA
 refine DC.bodyS (n_:=14) (show Tryz.prog.funcs[98]? = some Tryz.f98 by kernel_rfl) rfl rfl (by rfl) ?_
 simp only [env0,List.cons_append,List.nil_append]
 have kw:=ksIs [0,2,4,6,7,8,11]
 have ow:=ownIs []
 repeat' (first
  | ((with_reducible refine DW.loopB 0 (X:=Nat) (fun x=>x<=l.length/\wildT (l.drop x)=wildT l) (fun x=>[(0, .str l),(6, .raw (.pointer (some ⟨b,0,none⟩)))]) (fun x=>[.siter b l x,knF,knA]) (fun x=>l.length - x) (0) ?_ ?_ ?_);exact (⟨Nat.zero_le _,rfl⟩);(simp [Sub,get,keepL]<;>fail);(try simp only [List.cons_append,List.nil_append]);refine pl_ ?_;intro k ⟨hk,hwk⟩;(try simp only [List.cons_append,List.nil_append]);rcases wild_all (l:=l) (k:=k) with ⟨q0,q1⟩ | ⟨q0,q1,q2,q4⟩)
  | refine g_ ?_
  | ((with_reducible refine And.intro ?_ ?_);(exact sv))
  | (refine DW.cond (by rfl) ?_ ?_<;>(first | exact i0_ | (refine ic_ ?_;intro hb)))
  | ((with_reducible refine FVg_cases ?_ ?_)<;>(intro hb;rw [hb];revert hb;(first | exact i0_ | (refine i_ ?_;intro hb))))
  | ((refine Both.imp ?_ ?_)<;>(first | exact i0_ | (refine i_ ?_;intro hb)))
  | refine r_ ?_
  | refine k_ ?_
  | ((first | refine q_ (wildg_dc _ _) ?_ | refine q_ (textA_dc _ _) ?_))
  | refine o_ ?_
  | refine f_ ?_
  | ((refine Both.imp (fun hb=>?_) (fun hb=>?_))<;>(try (exfalso;omega)))
  | with_reducible intro b)
 all_goals first
 | ((refine ⟨_,_,le.of_eq ?_,⟨rfl,rfl⟩,?_⟩);(rw [name_eq,<-hwk,q1];simp);(exact sub_))
 | ((refine ⟨_,_,le.of_eq ?_,⟨rfl,rfl⟩,?_⟩);(rw [name_eq,<-hwk,q4,hb];simp);(exact sub_))
 | (refine ⟨k+wideAt l k,?_,?_,?_,?_⟩;((exact ⟨q2,by rw [<-hwk,q4,hb];rfl⟩));(omega);(simp [Sub,get]<;>(fail));(try dsimp only);(exact sub_);done)
theorem sv_filterA_dc {p:Prop} (h:p:=by first | exact sv | (have hq:=hlb2 k;omega) | fail):p:=h
theorem filterA_dc (m:Int) (l:List UInt8) (F:Own):(l.length<=2000000)->DC Tryz.prog 43 [.str l] ([knF,knA,knM m]++F) fun d G=>d = .bool (filterB l)/\G=[knF,knA,knM m]++F:=by
 intro hA
 have hl:=hA
 refine DC.bodyS (n_:=37) (show Tryz.prog.funcs[43]? = some Tryz.f43 by kernel_rfl) rfl rfl (by rfl) ?_
 simp only [env0,List.cons_append,List.nil_append]
 have kw:=ksIs [0,2,3,4,5,8,11,12,13,14,35]
 have ow:=ownIs []
 have hlb1:=(levs_bound l).1
 have hlb2:=(levs_bound l).2
 repeat' (first
  | ((with_reducible refine DW.loopB 0 (X:=Nat) (fun x=>x<=(levs l).length/\∀ i,i<x->okAt (levs l) i=true) (fun x=>[(3, .sl ((levs l).map V.str)),(11, .sl ((levs l).map V.str)),(12, .int .i64 ((levs l).length:Int)),(13, .int .i64 x)]) (fun x=>[knF,knA,knM m]) (fun x=>(levs l).length - x) (0) ?_ ?_ ?_);exact (⟨Nat.zero_le _,fun i h=>absurd h (Nat.not_lt_zero _)⟩);(simp [Sub,get,keepL]<;>fail);(try simp only [List.cons_append,List.nil_append]);refine pl_ ?_;intro k ⟨hk,hok⟩;(try simp only [List.cons_append,List.nil_append]))
  | refine g_ ?_
  | ((with_reducible refine And.intro ?_ ?_);(exact sv_filterA_dc))
  | (refine DW.cond (by rfl) ?_ ?_<;>(first | exact i0_ | (refine ic_ ?_;intro hb)))
  | ((with_reducible refine FVg_cases ?_ ?_)<;>(intro hb;rw [hb];revert hb;(first | exact i0_ | (refine i_ ?_;intro hb))))
  | refine r_ ?_
  | refine k_ ?_
  | ((first | refine q_ (textA_dc _ _) ?_ (ha:=by exact sv_filterA_dc) | refine q_ (levelsg_dc _ _ _) ?_ (ha:=by exact sv_filterA_dc)))
  | (refine q_ (conW_dc _ _) ?_ (ha:=by exact sv_filterA_dc))
  | refine o_ ?_
  | refine f_ ?_
  | with_reducible intro b)
 all_goals first
 | ((refine ⟨_,_,le.of_eq ?_,⟨rfl,rfl⟩,?_⟩);(rw [filter_eq,(by assumption:textB l=false)];rfl);(exact sub_))
 | ((refine ⟨_,_,le.of_eq ?_,⟨rfl,rfl⟩,?_⟩);(rw [filter_eq,(by assumption:textB l=true),okF_t fun i hi=>hok i (by omega)];rfl);(exact sub_))
 | ((refine ⟨_,_,le.of_eq ?_,⟨rfl,rfl⟩,?_⟩);(rw [filter_eq,(by assumption:textB l=true),okF_f (k:=k) (by omega) (by clear hok hlb2;unfold okAt;simp_all)];rfl);(exact sub_))
 | (refine ⟨k+1,?_,?_,?_,?_⟩;((exact ⟨by omega,ok_s hok (by clear hok hlb2;unfold okAt;simp_all)⟩));(((try simp only);omega));(simp [Sub,get]<;>(fail));(try dsimp only);(exact sub_);done)
end
section
def encLine (x:Int×Int×Str):V:=.agg [.int .i64 x.1, .int .i64 x.2.1, .str x.2.2]
def lineL (r:TRoute):Int×Int×Str:=(r.dot.node,r.dot.epoch,r.filter)
theorem dotE:KeyE [2,2,2] true encDot:=⟨fun a b=>⟨⟨rfl,rfl⟩,⟨rfl,rfl⟩,⟨rfl,rfl⟩,trivial⟩,fun a b=>by
 obtain ⟨a1,a2,a3⟩:=a;obtain ⟨b1,b2,b3⟩:=b
 rw [Bool.eq_iff_iff];simp [encDot,V.cs,eqL],fun a=>⟨fun _=>rfl,(fun h=>nomatch h)⟩⟩
theorem lineE:KeyE [2,2,3] true encLine:=⟨fun a b=>⟨⟨rfl,rfl⟩,⟨rfl,rfl⟩,rfl,trivial⟩,fun a b=>by
 obtain ⟨a1,a2,a3⟩:=a;obtain ⟨b1,b2,b3⟩:=b
 rw [Bool.eq_iff_iff];simp [encLine,V.cs,eqL],fun a=>⟨fun _=>rfl,(fun h=>nomatch h)⟩⟩
section
variable {β:Type} {ev:β->V}
theorem look_dot (a b c:Int) (l:List (TDot×β)):lookV (.agg [.int .i64 a, .int .i64 b, .int .i64 c]) (entM encDot ev l)=(lookA ⟨a,b,c⟩ l).map ev:=look_ent dotE ⟨a,b,c⟩ l
theorem upd_dot (a b c:Int) (v:β) (l:List (TDot×β)):updV (.agg [.int .i64 a, .int .i64 b, .int .i64 c]) (ev v) (entM encDot ev l)=entM encDot ev (updA ⟨a,b,c⟩ v l):=upd_ent dotE ⟨a,b,c⟩ v l
theorem look_line (a b:Int) (f:Str) (l:List ((Int×Int×Str)×β)):lookV (.agg [.int .i64 a, .int .i64 b, .str f]) (entM encLine ev l)=(lookA (a,b,f) l).map ev:=look_ent lineE (a,b,f) l
theorem upd_line (a b:Int) (f:Str) (v:β) (l:List ((Int×Int×Str)×β)):updV (.agg [.int .i64 a, .int .i64 b, .str f]) (ev v) (entM encLine ev l)=entM encLine ev (updA (a,b,f) v l):=upd_ent lineE (a,b,f) v l
end
theorem mapT_63:mapT Tryz.prog 63=some ([2,2,3],true):=by kernel_rfl
theorem keyS_63 {β:Type} {ev:β->V} (a b:Int) (f:Str) (l:List (_×β)):KeyS Tryz.prog 63 (.agg [.int .i64 a, .int .i64 b, .str f]) (entM encLine ev l)=True:=eq_true (keyS_ent lineE ((a,b,f)) l mapT_63)
theorem keyS0_63 (a b:Int) (f:Str):KeyS Tryz.prog 63 (.agg [.int .i64 a, .int .i64 b, .str f]) []=True:=eq_true (keyS_nil lineE ((a,b,f)) mapT_63)
theorem zeroD_68:zeroD Tryz.prog 68 = .agg [.int .i64 0, .int .i64 0, .int .i64 0, .str []]:=by kernel_rfl
theorem mapT_80:mapT Tryz.prog 80=some ([2,2,2],true):=by kernel_rfl
theorem keyS_80 {β:Type} {ev:β->V} (a b c:Int) (l:List (_×β)):KeyS Tryz.prog 80 (.agg [.int .i64 a, .int .i64 b, .int .i64 c]) (entM encDot ev l)=True:=eq_true (keyS_ent dotE (⟨a,b,c⟩) l mapT_80)
theorem keyS0_80 (a b c:Int):KeyS Tryz.prog 80 (.agg [.int .i64 a, .int .i64 b, .int .i64 c]) []=True:=eq_true (keyS_nil dotE (⟨a,b,c⟩) mapT_80)
theorem zeroD_4:zeroD Tryz.prog 4 = .bool false:=by kernel_rfl
theorem mapT_81:mapT Tryz.prog 81=some ([2,2,3],true):=by kernel_rfl
theorem keyS_81 {β:Type} {ev:β->V} (a b:Int) (f:Str) (l:List (_×β)):KeyS Tryz.prog 81 (.agg [.int .i64 a, .int .i64 b, .str f]) (entM encLine ev l)=True:=eq_true (keyS_ent lineE ((a,b,f)) l mapT_81)
theorem keyS0_81 (a b:Int) (f:Str):KeyS Tryz.prog 81 (.agg [.int .i64 a, .int .i64 b, .str f]) []=True:=eq_true (keyS_nil lineE ((a,b,f)) mapT_81)
theorem mapT_113:mapT Tryz.prog 113=some ([3],false):=by kernel_rfl
theorem keyS_113 {β:Type} {ev:β->V} (a:Str) (l:List (_×β)):KeyS Tryz.prog 113 (.str a) (entM V.str ev l)=True:=eq_true (keyS_ent strE (a) l mapT_113)
theorem keyS0_113 (a:Str):KeyS Tryz.prog 113 (.str a) []=True:=eq_true (keyS_nil strE (a) mapT_113)
theorem zeroD_76:zeroD Tryz.prog 76 = .agg [.int .i64 0, .int .i64 0, .int .i64 0, .int .i64 0, .int .i64 0, .int .i64 0, .str [], .gs (.slice none 0 0) [], .int .i64 0, .bool false]:=by kernel_rfl
def cellOkB (c:TCell):Bool:=nameB c.topic&&stampedM c.stamp&&decide (0<=c.qos)&&decide (c.qos<=2)&&(c.gone==((c.payload.length:Int)==0))&&(!c.gone||decide (c.qos=0))
attribute [local irreducible] DW SeqD DV DOp DC DVX DVJ nameB
section
attribute [local push_cast 2000] encFence toNat_pred2
theorem pfences_dc (l:List TFence) (F:Own):(l.length<=1000000000)->DC Tryz.prog 42 [.sl (l.map encFence)] (([]:Own)++F) fun d G=>d = .bool (fencesB l)/\G=[]++F:=by
 intro hA
 have hl:=hA
 refine DC.bodyS (n_:=34) (show Tryz.prog.funcs[42]? = some Tryz.f42 by kernel_rfl) rfl rfl (by rfl) ?_
 simp only [env0,List.cons_append,List.nil_append]
 have kw:=ksIs [0,2,3,4,5,6,7,8,32]
 have ow:=ownIs []
 have dw4:=drIs 4 [] [1,3,4,15,17]
 repeat' (first
  | ((with_reducible apply DW.frzB 4 4);(focus (exact rfl));(repeat (with_reducible first | refine Out.here ?_ | refine Out.next ?_));simp only [put_cons,put_nil,Nat.reduceEqDiff,↓reduceIte,if_true,if_false,reduceCtorEq])
  | ((with_reducible refine DW.loopB 0 (X:=Nat) (fun x=>x<=l.length/\allK (fenceOk l) x=true) (fun x=>[(0, .sl (l.map encFence)),(5, .sl (l.map encFence)),(6, .int .i64 l.length),(7, .int .i64 x)]) (fun x=>([]:Own)) (fun x=>l.length - x) (0) ?_ ?_ ?_);exact (⟨Nat.zero_le _,rfl⟩);(simp [Sub,get,keepL]<;>fail);(try simp only [List.cons_append,List.nil_append]);refine pl_ ?_;intro k ⟨hk,ha⟩;(try simp only [List.cons_append,List.nil_append]))
  | refine g_ ?_
  | ((with_reducible refine And.intro ?_ ?_);(exact sv))
  | (refine DW.cond (by rfl) ?_ ?_<;>(first | exact i0_ | (refine ic_ ?_;intro hb)))
  | ((with_reducible first | refine FVg_cases ?_ ?_ | refine FDg_cases ?_ ?_)<;>(intro hb;rw [hb];revert hb;(first | exact i0_ | (refine i_ ?_;intro hb))))
  | refine r_ ?_
  | refine d_ ?_
  | refine k_ ?_
  | ((refine dm_ ?_);(first | (refine v_ (ppair_dc _ _ _) ?_)))
  | refine vo_ ?_
  | (refine q_ (ppair_dc _ _ _) ?_)
  | refine o_ ?_
  | refine f_ ?_
  | refine vm_ ?_
  | with_reducible intro b)
 all_goals first
 | (have e:fencesB l=true:=by unfold fencesB;rw [show l.length=k by omega];exact ha
    rw [e];(first | exact fin_ | refine finq_ ?_);done)
 | (have e0:fenceOk l k=true:=by unfold fenceOk;rw [decide_eq_true (show k=0 by omega)];simp_all
    refine ⟨k+1,⟨by omega,allK_next ha e0⟩,by omega,by simp [Sub,get],?_⟩;(exact sub_);done)
 | (have e0:fenceOk l k=true:=by unfold fenceOk;rw [decide_eq_true (show (l.getD (k - 1) default).node<(l.getD k default).node by omega)];simp_all
    refine ⟨k+1,⟨by omega,allK_next ha e0⟩,by omega,by simp [Sub,get],?_⟩;(exact sub_);done)
 | (have e0:fenceOk l k=false:=by unfold fenceOk;(first | (simp_all;done) | skip)
    have e:fencesB l=false:=allK_not e0 (by omega)
    rw [e];(first | exact fin_ | refine finq_ ?_);done)
 | (have e0:fenceOk l k=false:=by unfold fenceOk;rw [decide_eq_false (show ¬ k=0 by omega),decide_eq_false (show ¬ (l.getD (k - 1) default).node<(l.getD k default).node by omega)];simp
    have e:fencesB l=false:=allK_not e0 (by omega)
    rw [e];(first | exact fin_ | refine finq_ ?_);done)
end
theorem line_dc (a1 a2 a3:Int) (f:Str) (F:Own):(True)->DC Tryz.prog 45 [.agg [.int .i64 a1, .int .i64 a2, .int .i64 a3, .str f]] (([]:Own)++F) fun d G=>d = .agg [.int .i64 a1, .int .i64 a2, .str f]/\G=[]++F:=by
 intro hA
 refine DC.bodyS (n_:=12) (show Tryz.prog.funcs[45]? = some Tryz.f45 by kernel_rfl) rfl rfl (by rfl) ?_
 simp only [env0,List.cons_append,List.nil_append]
 have kw:=ksIs [0,1,2]
 have ow:=ownIs [2]
 have rw_:=rsIs [.cell 2 66]
 repeat' (first
  | refine g_ ?_
  | ((with_reducible refine And.intro ?_ ?_);(exact sv))
  | (refine DW.cond (by rfl) ?_ ?_<;>(first | exact i0_ | (refine ic_ ?_;intro hb)))
  | ((with_reducible refine FVg_cases ?_ ?_)<;>(intro hb;rw [hb];revert hb;(first | exact i0_ | (refine i_ ?_;intro hb))))
  | refine r_ ?_
  | refine k_ ?_
  | refine o_ ?_
  | refine f_ ?_
  | with_reducible intro b)
 (first | exact fin_ | refine finq_ ?_)
 all_goals rfl
theorem pstamped_dc (a1 a2 a3:Int) (F:Own):(True)->DC Tryz.prog 99 [.agg [.int .i64 a1, .int .i64 a2, .int .i64 a3]] (([]:Own)++F) fun d G=>d = .bool (stampedM ⟨a1,a2,a3⟩)/\G=[]++F:=by
 intro hA
 refine DC.bodyS (n_:=31) (show Tryz.prog.funcs[99]? = some Tryz.f99 by kernel_rfl) rfl rfl (by rfl) ?_
 simp only [env0,List.cons_append,List.nil_append]
 have kw:=ksIs [0,1,2]
 have ow:=ownIs []
 repeat' (first
  | refine g_ ?_
  | ((with_reducible refine And.intro ?_ ?_);(exact sv))
  | (refine DW.cond (by rfl) ?_ ?_<;>(first | exact i0_ | (refine ic_ ?_;intro hb)))
  | ((with_reducible refine FVg_cases ?_ ?_)<;>(intro hb;rw [hb];revert hb;(first | exact i0_ | (refine i_ ?_;intro hb))))
  | refine r_ ?_
  | refine k_ ?_
  | refine o_ ?_
  | refine f_ ?_
  | with_reducible intro b)
 all_goals
  refine ⟨_,_,le.of_eq ?_,⟨rfl,rfl⟩,SubP.refl⟩
  unfold stampedM
  simp_all<;>omega
theorem pcell_dc (a1 a2 a3 a4 a5 a6:Int) (a7 a8:Str) (a9:Int) (a10:Bool) (m:Int) (F:Own):(a7.length<=2000000/\a8.length<=1000000000)->DC Tryz.prog 46 [.agg [.int .i64 a1, .int .i64 a2, .int .i64 a3, .int .i64 a4, .int .i64 a5, .int .i64 a6, .str a7, .sl (a8.map u8), .int .i64 a9, .bool a10]] ([knF,knA,knM m]++F) fun d G=>d = .bool (cellOkB (⟨⟨a1,a2,a3⟩,⟨a4,a5,a6⟩,a7,a8,a9,a10⟩:TCell))/\G=[knF,knA,knM m]++F:=by
 intro hA
 obtain ⟨h7,h8⟩:=hA
 refine DC.bodyS (n_:=40) (show Tryz.prog.funcs[46]? = some Tryz.f46 by kernel_rfl) rfl rfl (by rfl) ?_
 simp only [env0,List.cons_append,List.nil_append]
 have kw:=ksIs [0,1,2]
 have ow:=ownIs []
 repeat' (first
  | refine g_ ?_
  | ((with_reducible refine And.intro ?_ ?_);(exact sv))
  | (refine DW.cond (by rfl) ?_ ?_<;>(first | exact i0_ | (refine ic_ ?_;intro hb)))
  | ((with_reducible refine FVg_cases ?_ ?_)<;>(intro hb;rw [hb];revert hb;(first | exact i0_ | (refine i_ ?_;intro hb))))
  | refine r_ ?_
  | refine k_ ?_
  | (refine q_ (nameA_dc _ _) ?_)
  | (refine q_ (pstamped_dc _ _ _ _) ?_)
  | refine o_ ?_
  | refine f_ ?_
  | with_reducible intro b)
 all_goals first
 | ((refine ⟨_,_,le.of_eq ?_,⟨rfl,rfl⟩,?_⟩);(focus (unfold cellOkB;simp_all;done));(exact sub_);done)
 | ((refine ⟨_,_,le.of_eq ?_,⟨rfl,rfl⟩,?_⟩);(focus (congr 1;unfold cellOkB;rw [Bool.eq_iff_iff];simp_all;done));(exact sub_);done)
 | ((refine ⟨_,_,le.of_eq ?_,⟨rfl,rfl⟩,?_⟩);(focus (congr 1;unfold cellOkB;rw [Bool.eq_iff_iff];simp_all;omega));(exact sub_);done)
theorem phas_dc (l:List TDot) (a b c:Int) (F:Own):(l.length<=1000000000)->DC Tryz.prog 44 [.sl (l.map encDot), .agg [.int .i64 a, .int .i64 b, .int .i64 c]] (([]:Own)++F) fun d G=>d = .bool (hasB l ⟨a,b,c⟩)/\G=[]++F:=by
 intro hA
 have hl:=hA
 refine DC.bodyS (n_:=19) (show Tryz.prog.funcs[44]? = some Tryz.f44 by kernel_rfl) rfl rfl (by rfl) ?_
 simp only [env0,List.cons_append,List.nil_append]
 have kw:=ksIs [0,1,3,4]
 have ow:=ownIs []
 have dw1:=drIs 1 [] [1,5,8,10,11]
 repeat' (first
  | refine g_ ?_
  | ((with_reducible refine And.intro ?_ ?_);(exact sv))
  | (refine DW.cond (by rfl) ?_ ?_<;>(first | exact i0_ | (refine ic_ ?_;intro hb)))
  | ((with_reducible first | refine FVg_cases ?_ ?_ | refine FDg_cases ?_ ?_)<;>(intro hb;rw [hb];revert hb;(first | exact i0_ | (refine i_ ?_;intro hb))))
  | refine r_ ?_
  | refine d_ ?_
  | refine k_ ?_
  | ((refine dm_ ?_);(first | (refine v_ (ptop_dc _ _ _ _) ?_)))
  | refine vo_ ?_
  | (refine q_ (ptop_dc _ _ _ _) ?_)
  | refine o_ ?_
  | refine f_ ?_
  | refine vm_ ?_
  | with_reducible intro b)
 all_goals
  refine ⟨_,_,le.of_eq ?_,⟨rfl,rfl⟩,SubP.refl⟩
  unfold hasB
  first | rfl | (simp_all;done) | (simp_all<;>omega)
end
end Go.Proofs.YtifdpbghkccaoaaGreatDoor
