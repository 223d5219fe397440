/- Wild runes in texts of plain runes; names. -/
import Derived.Test.YtgekknefphagbaaGreatDoorPv2x
import Derived.KernelRfl
import Derived.Test.YtgekknefphagbaaGreatDoorLpx
import Derived.Shelf.Strings.Split
import Derived.Test.YtgekknefphagbaaGreatDoorMpx
import Derived.Sort.Walk0
import Derived.Shelf.Slices.CompactS
import Derived.Test.YtgekknefphagbaaGreatDoorProg
import Derived.Test.YtgekknefphagbaaGreatDoorEf
import Derived.Test.YtgekknefphagbaaGreatDoorLib
namespace Go.Proofs.YtgekknefphagbaaGreatDoor
open Go.RowKit
set_option linter.unusedSimpArgs false
set_option linter.unusedVariables false
set_option linter.unusedSectionVars false
set_option maxHeartbeats 4000000
set_option maxRecDepth 100000
section
attribute [local irreducible] DW SeqD DV DOp DC DVX
def zc3 (l:List UInt8):Bool:=l.any fun c=>c==43||c==35
theorem zkr (r:Int) (F:Own):(True)->DC Tryz.prog 143 [.int .i32 r] (([]:Own)++F) fun d G=>d = .bool (r==43||r==35)/\G=[]++F:=by
 intro hA
 refine DC.bodyS (n_:=9) (show Tryz.prog.funcs[143]? = some Tryz.f143 by kernel_rfl) rfl rfl (by rfl) ?_
 simp only [env0,List.cons_append,List.nil_append]
 have kw:=ksIs [0,2]
 have ow:=zaf []
 repeat' (first
  | refine g_ ?_
  | ((with_reducible refine And.intro ?_ ?_);(exact sv))
  | (refine DW.cond (by rfl) ?_ ?_<;>(first | exact i0_ | (refine ic_ ?_;intro hb)))
  | ((with_reducible refine zaa ?_ ?_)<;>(intro hb;rw [hb];revert hb;(first | exact i0_ | (refine i_ ?_;intro hb))))
  | refine r_ ?_
  | refine k_ ?_
  | refine o_ ?_
  | refine f_ ?_
  | with_reducible intro b)
 all_goals
  refine ⟨_,_,le.of_eq ?_,⟨rfl,rfl⟩,SubP.refl⟩
  simp_all
end
section
attribute [local irreducible] DW SeqD DV DOp DC DVX
def okAt (ls:List (List UInt8)) (i:Nat):Bool:=ls.getD i default==[43]||(ls.getD i default==[35]&&decide ((i:Int)=(ls.length:Int) - 1)) || !zc3 (ls.getD i default)
def okF (ls:List (List UInt8)):Bool:=(List.range ls.length).all (okAt ls)
theorem okF_t {ls:List (List UInt8)} (h:∀ i,i<ls.length->okAt ls i=true):okF ls=true:=by
 unfold okF;rw [List.all_eq_true];intro i hi;exact h i (List.mem_range.1 hi)
theorem okF_f {ls:List (List UInt8)} {k:Nat} (hk:k<ls.length) (h:okAt ls k=false):okF ls=false:=by
 cases e:okF ls with
 | false=>rfl
 | true=>unfold okF at e;rw [List.all_eq_true] at e;rw [e k (List.mem_range.2 hk)] at h;cases h
theorem ok_s {ls:List (List UInt8)} {k:Nat} (h:∀ i,i<k->okAt ls i=true) (hk:okAt ls k=true):∀ i,i<k+1->okAt ls i=true:=fun i hi=>by
 rcases Nat.lt_or_eq_of_le (Nat.le_of_lt_succ hi) with h1 | rfl
 · exact h i h1
 · exact hk
end
section
attribute [local irreducible] DW SeqD DV DOp DC DVX
def zgK:List (List UInt8)->List (List UInt8)->Bool
 | [],b=>b.isEmpty
 | x::a,b=>x==[35]||match b with
  | []=>false
  | y::b=>(x==[43]||x==y)&&zgK a b
theorem zeI (l:List (List UInt8)):List.take l.length (List.map V.str l)=List.map V.str l:=List.take_of_length_le (by simp)
def hidT (l:List UInt8):Bool:=l.take 1==[36]
def zmF (a b:List (List UInt8)):Bool:=!(hidT (b.getD 0 default)&&(a.getD 0 default==[43]||a.getD 0 default==[35]))&&zgK a b
section
attribute [local push_cast 2000] zeI
end
end
section
theorem zgX {l:List UInt8} {i:Nat} (h:i<l.length):l.drop i=l.getD i 0::l.drop (i+1):=by
 rw [List.drop_eq_getElem_cons h];simp [List.getD_eq_getElem?_getD,h]
theorem bs_getW (s:List UInt8) (k:Nat):(bs s).get! k=s.getD k 0:=by
 unfold bs ByteArray.get!
 simp [List.getD_eq_getElem?_getD]
 rfl
theorem ziC {l:List UInt8}:∀ {w k:Nat},(∀ j,j<w->k+j<l.length/\128<=(l.getD (k+j) 0).toNat)->zc3 (l.drop k)=zc3 (l.drop (k+w))
 | 0,k,_=>rfl
 | w+1,k,h=>by
  have h0:=h 0 (by omega)
  rw [Nat.add_zero] at h0
  rw [zgX h0.1]
  unfold zc3
  rw [List.any_cons]
  have e1:(l.getD k 0==43)=false:=by
   rw [beq_eq_false_iff_ne];intro e;rw [e] at h0;exact absurd h0.2 (by decide)
  have e2:(l.getD k 0==35)=false:=by
   rw [beq_eq_false_iff_ne];intro e;rw [e] at h0;exact absurd h0.2 (by decide)
  rw [e1,e2]
  have:=ziC (l:=l) (w:=w) (k:=k+1) (fun j hj=>by have:=h (j+1) (by omega);rwa [show k+(j+1)=k+1+j by omega] at this)
  unfold zc3 at this
  rw [Bool.or_self,Bool.false_or,this,show k+1+w=k+(w+1) by omega]
theorem zqv {l:List UInt8} {k:Nat} (hi:k<l.length):((l.getD k 0).toNat<128/\zep l k=(l.getD k 0).toNat/\zdg l k=1)\/(128<=zep l k/\1<=zdg l k/\∀ j,j<zdg l k->k+j<l.length/\128<=(l.getD (k+j) 0).toNat):=by
 unfold zep zdg Utf8.decode
 simp only [Nat.add_zero,bs_getW]
 have hsz:(bs l).size=l.length:=by simp [bs,ByteArray.size]
 rw [hsz]
 rcases Nat.lt_or_ge (l.getD k 0).toNat 128 with h0 | h0
 · rw [if_pos h0];exact .inl ⟨h0,rfl,rfl⟩
 · rw [if_neg (by omega)]
   refine .inr ?_
   have one:∀ j,j<1->k+j<l.length/\128<=(l.getD (k+j) 0).toNat:=fun j hj=>by
    obtain rfl:j=0:=by omega
    exact ⟨hi,h0⟩
   have cont:∀ j,(decide (k+j<l.length)&&((l.getD (k+j) 0).toNat / 64==2))=true->k+j<l.length/\128<=(l.getD (k+j) 0).toNat:=fun j h=>by
    simp only [Bool.and_eq_true,decide_eq_true_eq,beq_iff_eq] at h
    exact ⟨h.1,by omega⟩
   split
   · rename_i hc
     simp only [Bool.and_eq_true,beq_iff_eq] at hc
     have c1:=cont 1 kxb1
     split
     · rename_i h2
       refine ⟨by simp only;omega,by simp only;omega,fun j hj=>?_⟩
       simp only at hj
       rcases (show j=0\/j=1 by omega) with rfl | rfl
       · exact ⟨hi,h0⟩
       · exact c1
     · exact ⟨by decide,by decide,one⟩
   · split
     · rename_i hc
       simp only [Bool.and_eq_true,beq_iff_eq] at hc
       have c1:=cont 1 (by simp only [Bool.and_eq_true,beq_iff_eq];exact hc.1.2)
       have c2:=cont 2 kxb1
       split
       · rename_i h2
         simp only [Bool.and_eq_true,decide_eq_true_eq] at h2
         refine ⟨by simp only;omega,by simp only;omega,fun j hj=>?_⟩
         simp only at hj
         rcases (show j=0\/j=1\/j=2 by omega) with rfl | rfl | rfl
         · exact ⟨hi,h0⟩
         · exact c1
         · exact c2
       · exact ⟨by decide,by decide,one⟩
     · split
       · rename_i hc
         simp only [Bool.and_eq_true,beq_iff_eq] at hc
         have c1:=cont 1 (by simp only [Bool.and_eq_true,beq_iff_eq];exact hc.1.1.2)
         have c2:=cont 2 (by simp only [Bool.and_eq_true,beq_iff_eq];exact hc.1.2)
         have c3:=cont 3 kxb1
         split
         · rename_i h2
           simp only [Bool.and_eq_true,decide_eq_true_eq] at h2
           refine ⟨by simp only;omega,by simp only;omega,fun j hj=>?_⟩
           simp only at hj
           rcases (show j=0\/j=1\/j=2\/j=3 by omega) with rfl | rfl | rfl | rfl
           · exact ⟨hi,h0⟩
           · exact c1
           · exact c2
           · exact c3
         · exact ⟨by decide,by decide,one⟩
       · exact ⟨by decide,by decide,one⟩
theorem zkv {l:List UInt8} {k:Nat}:(l.length<=k/\zc3 (l.drop k)=false)\/(k<l.length/\1<=zdg l k/\k+zdg l k<=l.length/\zc3 (l.drop k)=(((zep l k:Int)==43||(zep l k:Int)==35)||zc3 (l.drop (k+zdg l k)))):=by
 rcases Nat.lt_or_ge k l.length with hi | hi
 · refine .inr ⟨hi,?_⟩
   rcases zqv hi with ⟨h0,h1,h2⟩ | ⟨h1,h2,h3⟩
   · rw [h1,h2]
     refine ⟨Nat.le_refl _,by omega,?_⟩
     rw [zgX hi]
     unfold zc3
     rw [List.any_cons]
     congr 1
     have q (n:UInt8):(l.getD k 0==n)=(((l.getD k 0).toNat:Int)==(n.toNat:Int)):=by
      rw [Bool.eq_iff_iff]
      simp only [beq_iff_eq]
      constructor
      · intro e;rw [e]
      · intro e;exact UInt8.toNat_inj.1 (by omega)
     rw [q 43,q 35]
     rfl
   · have h4:=(h3 (zdg l k - 1) (by omega)).1
     refine ⟨h2,by omega,?_⟩
     have e1:((zep l k:Int)==43)=false:=by rw [beq_eq_false_iff_ne];omega
     have e2:((zep l k:Int)==35)=false:=by rw [beq_eq_false_iff_ne];omega
     rw [e1,e2,ziC h3];rfl
 · refine .inl ⟨hi,?_⟩
   rw [List.drop_of_length_le hi];rfl
def spl:Str->List Str
 | []=>[[]]
 | c::l=>if c=47 then []::spl l else (c::(spl l).headD [])::(spl l).tail
theorem zk6 (l:Str):spl l=(spl l).headD []::(spl l).tail:=by
 cases l with
 | nil=>rfl
 | cons c l=>unfold spl;split<;>rfl
theorem zkq:∀ {l:Str},(∀ k:Nat,l[k]? ≠ some 47)->spl l=[l]
 | [],_=>rfl
 | c::l,h=>by
  have h0:c≠47:=fun e=>h 0 (by simp [e])
  unfold spl;rw [if_neg h0,zkq fun k=>by have:=h (k+1);simpa using this];rfl
theorem znL:∀ {l:Str} {i:Nat},l[i]? = some 47->(∀ k:Nat,k<i->l[k]? ≠ some 47)->spl l=l.take i::spl (l.drop (i+1))
 | [],i,h,_=>by simp at h
 | c::l,0,h,_=>by
  have:c=47:=by simpa using h
  conv=>lhs;unfold spl
  rw [if_pos this];simp
 | c::l,i+1,h,h2=>by
  have h0:c≠47:=fun e=>h2 0 (by omega) (by simp [e])
  have ih:=znL (l:=l) (i:=i) (by simpa using h) fun k hk=>by have:=h2 (k+1) (by omega);simpa using this
  conv=>lhs;unfold spl
  rw [if_neg h0,ih];simp
theorem zqT (l:Str) (a b:Nat):(bs l).extract a b=bs ((l.take b).drop a):=by
 unfold bs
 apply ByteArray.ext
 simp [ByteArray.data_extract,List.drop_take]
theorem zjS (l:Str):(bs l).data.toList=l:=by simp [bs]
theorem zis (l:Str):Lib.indexB (bs l) (bs [47])=Lib.indexByte l 47:=by
 rw [Lib.one _ _ (by decide),zjS];rfl
theorem zfI:∀ (n:Nat) (l:Str),l.length<=n->levs l=spl l:=by
 intro n
 induction n with
 | zero =>
  intro l h
  obtain rfl:l=[]:=List.length_eq_zero_iff.1 (by omega)
  rfl
 | succ n ih =>
  intro l h
  have hge:=Lib.indexByte_ge l 47
  rcases (show Lib.indexByte l 47 = -1\/0<=Lib.indexByte l 47 by omega) with hi | hi
  · have hb:Lib.indexB (bs l) (bs [47]) = -1:=by rw [zis,hi]
    unfold levs
    rw [Lib.countB_miss _ _ hb,Lib.splitB_zero]
    simp only [List.map_cons,List.map_nil,zjS]
    exact (zkq (Lib.indexByte_none hi)).symm
  · obtain ⟨i,hi⟩:=Int.eq_ofNat_of_zero_le hi
    have hb:Lib.indexB (bs l) (bs [47])=(i:Int):=by rw [zis,hi]
    obtain ⟨h1,h2⟩:=Lib.indexByte_some hi
    have hlt:i<l.length:=by
     rcases Nat.lt_or_ge i l.length with h3 | h3
     · exact h3
     · rw [List.getElem?_eq_none h3] at h1;cases h1
    have e:(bs l).extract (i+(bs [47]).size) (bs l).size=bs (l.drop (i+1)):=by
     rw [zqT]
     have:(bs l).size=l.length:=by simp [bs,ByteArray.size]
     rw [this,List.take_length];rfl
    have e0:(bs l).extract 0 (i+0)=bs (l.take i):=by rw [zqT];simp
    rw [znL h1 h2,<-ih (l.drop (i+1)) kxcd]
    unfold levs
    rw [Lib.countB_hit _ _ i (by decide) hb,Nat.add_comm,Lib.splitB_hit _ _ _ _ i hb,e,e0]
    simp only [List.map_cons,zjS]
theorem zh7:∀ (t:Str) (acc:List Str) (x:Str),t.foldl zcT (acc++[x])=acc++((x++(spl t).headD [])::(spl t).tail)
 | [],acc,x=>by simp [spl]
 | c::t,acc,x=>by
  rw [List.foldl_cons]
  by_cases hc:(c.toNat:Int)=47
  · rw [znl hc,zh7 t (acc++[x]) []]
    have:c=47:=UInt8.toNat_inj.1 (by have:(47:UInt8).toNat=47:=rfl;omega)
    have e:spl (c::t)=[]::spl t:=by rw [spl,if_pos this]
    rw [e]
    simp only [List.nil_append,List.headD_cons,List.tail_cons,List.append_nil,List.append_assoc,List.singleton_append]
    rw [<-zk6]
  · have:c≠47:=fun e=>hc (by rw [e];rfl)
    have e:spl (c::t)=(c::(spl t).headD [])::(spl t).tail:=by rw [spl,if_neg this]
    rw [znt hc,e]
    have e2:(acc++[x]).set ((acc++[x]).length - 1) ((acc++[x]).getD ((acc++[x]).length - 1) []++[c])=acc++[x++[c]]:=by
     simp [List.getD_eq_getElem?_getD]
    rw [e2,zh7 t acc (x++[c])]
    simp
theorem zfW (t:Str):lev t t.length=levs t:=by
 rw [zfI t.length t (Nat.le_refl _)]
 unfold lev
 rw [List.take_length]
 have:=zh7 t [] []
 simp only [List.nil_append] at this
 rw [this,<-zk6]
theorem zk4 (t:Str) (c:UInt8):hasC t (c.toNat:Int)=t.any fun x=>x==c:=by
 unfold hasC anyK hasAt
 rw [Bool.eq_iff_iff,List.any_eq_true,List.any_eq_true]
 constructor
 · rintro ⟨i,hi,h⟩
   rw [List.mem_range] at hi
   refine ⟨t[i],List.getElem_mem hi,?_⟩
   simp [List.getD_eq_getElem?_getD,hi] at h
   rw [beq_iff_eq];exact UInt8.toNat_inj.1 (by omega)
 · rintro ⟨x,hx,h⟩
   obtain ⟨i,hi,rfl⟩:=List.getElem_of_mem hx
   refine ⟨i,List.mem_range.2 hi,?_⟩
   rw [beq_iff_eq] at h
   simp [List.getD_eq_getElem?_getD,hi,h]
theorem ziw (t:Str):(hasC t 43||hasC t 35)=zc3 t:=by
 have a:=zk4 t 43
 have b:=zk4 t 35
 have a:hasC t 43=_:=a
 have b:hasC t 35=_:=b
 rw [a,b]
 unfold zc3
 rw [Bool.eq_iff_iff,Bool.or_eq_true,List.any_eq_true,List.any_eq_true,List.any_eq_true]
 constructor
 · rintro (⟨x,h1,h2⟩ | ⟨x,h1,h2⟩)
   · exact ⟨x,h1,by rw [h2];rfl⟩
   · exact ⟨x,h1,by rw [h2];simp⟩
 · rintro ⟨x,h1,h2⟩
   rcases Bool.or_eq_true_iff.1 h2 with h | h
   · exact .inl ⟨x,h1,h⟩
   · exact .inr ⟨x,h1,h⟩
theorem zj4 (t:Str):zb5 t=(zdV t && !zc3 t):=by
 unfold zb5
 rw [<-ziw]
 cases zdV t<;>cases hasC t 43<;>cases hasC t 35<;>rfl
theorem zkZ {L:List Str} {i:Nat} (h:i<L.length):okAt L i=zpH L i:=by
 unfold okAt zpH
 have e0:L.getD i default=L.getD i []:=rfl
 rw [e0]
 generalize L.getD i []=x
 by_cases h1:x=[43]
 · subst h1
   have a:hasC [43] 43=true:=by decide
   have b:hasC [43] 35=false:=by decide
   rw [a,b];simp
 · by_cases h2:x=[35]
   · subst h2
     have a:hasC [35] 43=false:=by decide
     have b:hasC [35] 35=true:=by decide
     have c:zc3 [35]=true:=by decide
     rw [a,b,c]
     rw [Bool.eq_iff_iff];simp;omega
   · have e1:(x==[43])=false:=beq_eq_false_iff_ne.2 h1
     have e2:(x==[35])=false:=beq_eq_false_iff_ne.2 h2
     have e3:(x != [43])=true:=by rw [bne,e1];rfl
     have e4:(x != [35])=true:=by rw [bne,e2];rfl
     rw [e1,e2,e3,e4,<-ziw]
     cases hasC x 43<;>cases hasC x 35<;>rfl
theorem zdT (t:Str):filterB t=(zdV t&&okF (levs t)):=by
 unfold filterB okF
 rw [zfW]
 congr 1
 rw [Bool.eq_iff_iff]
 unfold allK
 rw [List.all_eq_true,List.all_eq_true]
 constructor
 · intro h i hi;rw [zkZ (List.mem_range.1 hi)];exact h i hi
 · intro h i hi;rw [<-zkZ (List.mem_range.1 hi)];exact h i hi
theorem zfq (l:Str):(levs l).length<=l.length+1/\∀ k,((levs l).getD k default).length<=l.length:=by
 rw [<-zfW]
 exact ⟨(lev_len (Nat.le_refl _)).2,fun k=>znu (Nat.le_refl _) k⟩
attribute [local irreducible] DW SeqD DV DOp DC DVX DVJ zdV zc3
theorem idxW_dc (l:List UInt8) (F:Own):(l.length<=1000000000)->DC Tryz.prog 253 [.str l, .fn (.func 143) [] [], .bool true] (([]:Own)++F) fun d G=>((d = .int .i64 (-1)/\zc3 l=false)\/(∃ k:Nat,d = .int .i64 k/\zc3 l=true))/\G=[]++F:=by
 intro hA
 have hl:=hA
 refine DC.bodyS (n_:=21) (show Tryz.prog.funcs[253]? = some Tryz.f253 by kernel_rfl) rfl rfl (by rfl) ?_
 simp only [env0,List.cons_append,List.nil_append]
 have kw:=ksIs [0,1,2,6,7,8,10,11,12,19]
 have ow:=zaf []
 repeat' (first
  | ((with_reducible refine DW.loopB 0 (X:=Nat) (fun x=>x<=l.length/\zc3 (l.drop x)=zc3 l) (fun x=>[(1, .fn (.func 143) [] []),(2, .bool true),(10, .raw (.pointer (some ⟨b,0,none⟩)))]) (fun x=>.siter b l x::([]:Own)) (fun x=>l.length - x) (0) ?_ ?_ ?_);exact (⟨Nat.zero_le _,rfl⟩);(exact kxcm);(try simp only [List.cons_append,List.nil_append]);refine pl_ ?_;intro k ⟨hk,hwk⟩;(try simp only [List.cons_append,List.nil_append]);rcases zkv (l:=l) (k:=k) with ⟨q0,q1⟩ | ⟨q0,q1,q2,q4⟩)
  | refine g_ ?_
  | ((with_reducible refine And.intro ?_ ?_);(exact sv))
  | (refine DW.cond (by rfl) ?_ ?_<;>(first | exact i0_ | (refine ic_ ?_;intro hb)))
  | ((with_reducible refine zaa ?_ ?_)<;>(intro hb;rw [hb];revert hb;(first | exact i0_ | (refine i_ ?_;intro hb))))
  | ((refine Both.imp ?_ ?_)<;>(first | exact i0_ | (refine i_ ?_;intro hb)))
  | refine r_ ?_
  | refine k_ ?_
  | (refine q_ (zkr _ _) ?_)
  | refine o_ ?_
  | refine f_ ?_
  | ((refine Both.imp (fun hb=>?_) (fun hb=>?_))<;>(try (exfalso;omega)))
  | with_reducible intro b)
 all_goals first
 | ((refine ⟨_,_,le.rfl_,⟨.inl ⟨rfl,?_⟩,rfl⟩,?_⟩);(rw [<-hwk];exact q1);(exact sub_))
 | ((refine ⟨_,_,le.rfl_,⟨.inr ⟨k,rfl,?_⟩,rfl⟩,?_⟩);(rw [<-hwk,q4,hb];rfl);(exact sub_))
 | (exact kxbi)
theorem zqd (l:List UInt8) (F:Own):(l.length<=1000000000)->DC Tryz.prog 207 [.str l, .fn (.func 143) [] []] (([]:Own)++F) fun d G=>((d = .int .i64 (-1)/\zc3 l=false)\/(∃ k:Nat,d = .int .i64 k/\zc3 l=true))/\G=[]++F:=by
 intro hA
 have hl:=hA
 refine DC.bodyS (n_:=8) (show Tryz.prog.funcs[207]? = some Tryz.f207 by kernel_rfl) rfl rfl (by rfl) ?_
 simp only [env0,List.cons_append,List.nil_append]
 have kw:=ksIs [0,1,4]
 have ow:=zaf []
 repeat' (first
  | refine g_ ?_
  | ((with_reducible refine And.intro ?_ ?_);(exact sv))
  | (refine DW.cond (by rfl) ?_ ?_<;>(first | exact i0_ | (refine ic_ ?_;intro hb)))
  | ((with_reducible refine zaa ?_ ?_)<;>(intro hb;rw [hb];revert hb;(first | exact i0_ | (refine i_ ?_;intro hb))))
  | refine r_ ?_
  | refine k_ ?_
  | (refine p_ (idxW_dc _ _) ?_;rintro d H1 ⟨⟨rfl,hw⟩ | ⟨k,rfl,hw⟩,rfl⟩<;>refine s_ ?_)
  | refine o_ ?_
  | refine f_ ?_
  | with_reducible intro b)
 all_goals first
 | ((refine ⟨_,_,le.rfl_,⟨.inl ⟨rfl,hw⟩,rfl⟩,?_⟩);(exact sub_))
 | ((refine ⟨_,_,le.rfl_,⟨.inr ⟨_,rfl,hw⟩,rfl⟩,?_⟩);(exact sub_))
theorem conW_dc (l:List UInt8) (F:Own):(l.length<=1000000000)->DC Tryz.prog 157 [.str l, .fn (.func 143) [] []] (([]:Own)++F) fun d G=>d = .bool (zc3 l)/\G=[]++F:=by
 intro hA
 have hl:=hA
 refine DC.bodyS (n_:=9) (show Tryz.prog.funcs[157]? = some Tryz.f157 by kernel_rfl) rfl rfl (by rfl) ?_
 simp only [env0,List.cons_append,List.nil_append]
 have kw:=ksIs [0,1,4]
 have ow:=zaf []
 repeat' (first
  | refine g_ ?_
  | ((with_reducible refine And.intro ?_ ?_);(exact sv))
  | (refine DW.cond (by rfl) ?_ ?_<;>(first | exact i0_ | (refine ic_ ?_;intro hb)))
  | ((with_reducible refine zaa ?_ ?_)<;>(intro hb;rw [hb];revert hb;(first | exact i0_ | (refine i_ ?_;intro hb))))
  | refine r_ ?_
  | refine k_ ?_
  | (refine p_ (zqd _ _) ?_;rintro d H1 ⟨⟨rfl,hw⟩ | ⟨k,rfl,hw⟩,rfl⟩<;>refine s_ ?_)
  | refine o_ ?_
  | refine f_ ?_
  | with_reducible intro b)
 all_goals first
 | ((refine ⟨_,_,le.of_eq ?_,⟨rfl,rfl⟩,?_⟩);(rw [hw];first | rfl | (congr 1;exact decide_eq_true (by omega)) | (congr 1;exact decide_eq_false (by omega)));(exact sub_))
theorem zcx (l:List UInt8) (F:Own):(l.length<=1000000000)->DC Tryz.prog 82 [.str l] ([knF,knA]++F) fun d G=>d = .bool (zb5 l)/\G=[knF,knA]++F:=by
 intro hA
 have hl:=hA
 refine DC.bodyS (n_:=14) (show Tryz.prog.funcs[82]? = some Tryz.f82 by kernel_rfl) rfl rfl (by rfl) ?_
 simp only [env0,List.cons_append,List.nil_append]
 have kw:=ksIs [0,2,4,6,7,8,11]
 have ow:=zaf []
 repeat' (first
  | ((with_reducible refine DW.loopB 0 (X:=Nat) (fun x=>x<=l.length/\zc3 (l.drop x)=zc3 l) (fun x=>[(0, .str l),(6, .raw (.pointer (some ⟨b,0,none⟩)))]) (fun x=>[.siter b l x,knF,knA]) (fun x=>l.length - x) (0) ?_ ?_ ?_);exact (⟨Nat.zero_le _,rfl⟩);(exact kxcm);(try simp only [List.cons_append,List.nil_append]);refine pl_ ?_;intro k ⟨hk,hwk⟩;(try simp only [List.cons_append,List.nil_append]);rcases zkv (l:=l) (k:=k) with ⟨q0,q1⟩ | ⟨q0,q1,q2,q4⟩)
  | refine g_ ?_
  | ((with_reducible refine And.intro ?_ ?_);(exact sv))
  | (refine DW.cond (by rfl) ?_ ?_<;>(first | exact i0_ | (refine ic_ ?_;intro hb)))
  | ((with_reducible refine zaa ?_ ?_)<;>(intro hb;rw [hb];revert hb;(first | exact i0_ | (refine i_ ?_;intro hb))))
  | ((refine Both.imp ?_ ?_)<;>(first | exact i0_ | (refine i_ ?_;intro hb)))
  | refine r_ ?_
  | refine k_ ?_
  | ((first | refine q_ (zkr _ _) ?_ | refine q_ (zkO _ _) ?_))
  | refine o_ ?_
  | refine f_ ?_
  | ((refine Both.imp (fun hb=>?_) (fun hb=>?_))<;>(try (exfalso;omega)))
  | with_reducible intro b)
 all_goals first
 | ((refine ⟨_,_,le.of_eq ?_,⟨rfl,rfl⟩,?_⟩);(rw [zj4,<-hwk,q1];simp);(exact sub_))
 | ((refine ⟨_,_,le.of_eq ?_,⟨rfl,rfl⟩,?_⟩);(rw [zj4,<-hwk,q4,hb];simp);(exact sub_))
 | (exact kxbi)
theorem zcK {p:Prop} (h:p:=by first | exact sv | (have hq:=hlb2 k;omega) | fail):p:=h
theorem zcv (m:Int) (l:List UInt8) (F:Own):(l.length<=2000000)->DC Tryz.prog 94 [.str l] ([knF,knA,knM m]++F) fun d G=>d = .bool (filterB l)/\G=[knF,knA,knM m]++F:=by
 intro hA
 have hl:=hA
 refine DC.bodyS (n_:=37) (show Tryz.prog.funcs[94]? = some Tryz.f94 by kernel_rfl) rfl rfl (by rfl) ?_
 simp only [env0,List.cons_append,List.nil_append]
 have kw:=ksIs [0,2,3,4,5,8,11,12,13,14,35]
 have ow:=zaf []
 have hlb1:=(zfq l).1
 have hlb2:=(zfq l).2
 repeat' (first
  | ((with_reducible refine DW.loopB 0 (X:=Nat) (fun x=>x<=(levs l).length/\∀ i,i<x->okAt (levs l) i=true) (fun x=>[(3, .sl ((levs l).map V.str)),(11, .sl ((levs l).map V.str)),(12, .int .i64 ((levs l).length:Int)),(13, .int .i64 x)]) (fun x=>[knF,knA,knM m]) (fun x=>(levs l).length - x) (0) ?_ ?_ ?_);exact (⟨Nat.zero_le _,fun i h=>absurd h (Nat.not_lt_zero _)⟩);(exact kxcm);(try simp only [List.cons_append,List.nil_append]);refine pl_ ?_;intro k ⟨hk,hok⟩;(try simp only [List.cons_append,List.nil_append]))
  | refine g_ ?_
  | ((with_reducible refine And.intro ?_ ?_);(exact zcK))
  | (refine DW.cond (by rfl) ?_ ?_<;>(first | exact i0_ | (refine ic_ ?_;intro hb)))
  | ((with_reducible refine zaa ?_ ?_)<;>(intro hb;rw [hb];revert hb;(first | exact i0_ | (refine i_ ?_;intro hb))))
  | refine r_ ?_
  | refine k_ ?_
  | ((first | refine q_ (zkO _ _) ?_ (ha:=by exact zcK) | refine q_ (zhi _ _ _) ?_ (ha:=by exact zcK)))
  | (refine q_ (conW_dc _ _) ?_ (ha:=by exact zcK))
  | refine o_ ?_
  | refine f_ ?_
  | with_reducible intro b)
 all_goals first
 | ((refine ⟨_,_,le.of_eq ?_,⟨rfl,rfl⟩,?_⟩);(rw [zdT,(by assumption:zdV l=false)];rfl);(exact sub_))
 | ((refine ⟨_,_,le.of_eq ?_,⟨rfl,rfl⟩,?_⟩);(rw [zdT,(by assumption:zdV l=true),okF_t fun i hi=>hok i (by omega)];rfl);(exact sub_))
 | ((refine ⟨_,_,le.of_eq ?_,⟨rfl,rfl⟩,?_⟩);(rw [zdT,(by assumption:zdV l=true),okF_f (k:=k) (by omega) (by clear hok hlb2;unfold okAt;simp_all)];rfl);(exact sub_))
 | (refine ⟨k+1,?_,?_,?_,?_⟩;((exact ⟨by omega,ok_s hok (by clear hok hlb2;unfold okAt;simp_all)⟩));(((try simp only);omega));(simp [Sub,get]<;>(fail));(try dsimp only);(exact sub_);done)
end
section
attribute [local irreducible] DW SeqD DV DOp DC DVX
def zdr (a b:Str):Bool:=filterB a&&(zb5 b && !((((b.getD 0 0).toNat:Int)==36)&&((((a.getD 0 0).toNat:Int)==43)||(((a.getD 0 0).toNat:Int)==35)))&&zgK (lev a a.length) (lev b b.length))
theorem zgz {t:Str} (h:filterB t=true):1<=t.length/\t.length<=65535:=by
 unfold filterB at h;simp only [Bool.and_eq_true] at h;exact znK h.1
attribute [local irreducible] filterB zb5 lev
section
attribute [local push_cast 2000] zeI
end
section
attribute [local push_cast 2000] u8
end
end
section
theorem zio (c:UInt8) (l:Str):(spl (c::l)).getD 0 default=if c=47 then [] else c::(spl l).headD []:=by
 rw [show spl (c::l)=(if c=47 then []::spl l else (c::(spl l).headD [])::(spl l).tail) from rfl]
 split<;>rfl
theorem zmN (b:Str):hidT ((levs b).getD 0 default)=(((b.getD 0 0).toNat:Int)==36):=by
 rw [zfI _ b (Nat.le_refl _)]
 cases b with
 | nil=>decide
 | cons c l =>
  rw [zio]
  unfold hidT
  have q:(((((c::l).getD 0 0).toNat:Nat):Int)==36)=(c==36):=by
   rw [Bool.eq_iff_iff];simp only [beq_iff_eq,List.getD_cons_zero]
   constructor
   · intro e;exact UInt8.toNat_inj.1 (by have:(36:UInt8).toNat=36:=rfl;omega)
   · rintro rfl;rfl
  rw [q]
  split
  · rename_i h;subst h;rfl
  · rw [Bool.eq_iff_iff];simp
theorem zhm {a:Str} (h:okF (levs a)=true) (w:UInt8) (hw:w=43\/w=35):((levs a).getD 0 default==[w])=(((a.getD 0 0).toNat:Int)==(w.toNat:Int)):=by
 have h0:okAt (levs a) 0=true:=by
  unfold okF at h
  exact List.all_eq_true.1 h 0 (List.mem_range.2 (by rw [zkj];omega))
 rw [zfI _ a (Nat.le_refl _)] at h0 ⊢
 cases a with
 | nil=>rcases hw with rfl | rfl<;>decide
 | cons c l =>
  have q:(((((c::l).getD 0 0).toNat:Nat):Int)==(w.toNat:Int))=(c==w):=by
   rw [Bool.eq_iff_iff];simp only [beq_iff_eq,List.getD_cons_zero]
   constructor
   · intro e;exact UInt8.toNat_inj.1 (by omega)
   · rintro rfl;rfl
  rw [q]
  unfold okAt at h0
  rw [zio] at h0 ⊢
  split
  · rename_i h1;subst h1
    rcases hw with rfl | rfl<;>decide
  · rename_i h1
    rw [if_neg h1] at h0
    by_cases hc:c=w
    · subst hc
      have hwild:zc3 (c::(spl l).headD [])=true:=by unfold zc3;rw [List.any_cons];rcases hw with rfl | rfl<;>rfl
      rw [hwild] at h0
      simp only [Bool.not_true,Bool.or_false,Bool.or_eq_true,Bool.and_eq_true,beq_iff_eq] at h0
      have:(spl l).headD []=[]:=by
       rcases h0 with h0 | ⟨h0,_⟩
       · injection h0
       · injection h0
      rw [this];simp
    · have e1:(c==w)=false:=beq_eq_false_iff_ne.2 hc
      rw [e1,beq_eq_false_iff_ne]
      intro e;injection e with e;exact hc e
theorem zqo (a b:Str):(filterB a&&(zb5 b&&zmF (levs a) (levs b)))=zdr a b:=by
 unfold zdr
 cases hf:filterB a with
 | false=>rfl
 | true =>
  rw [zdT,Bool.and_eq_true] at hf
  rw [zfW,zfW]
  unfold zmF
  rw [zmN,zhm hf.2 43 (.inl rfl),zhm hf.2 35 (.inr rfl)]
  cases zb5 b<;>simp
attribute [local irreducible] DW SeqD DV DOp DC DVX DVJ filterB zb5
end
section
structure Nd where
 b:Nat
 nm:Nat
 km:Nat
 next:List (Str×Nat)
 keys:List (Str×Int)
 deriving Inhabited
def fnd:List Nd->Nat->Option Nd
 | [],_=>none
 | x::h,b=>if x.b=b then some x else fnd h b
def kid (h:List Nd) (b:Nat) (l:Str):Option Nat:=(fnd h b).bind fun x=>lookA l x.next
def fol (h:List Nd):Nat->List Str->Option Nat
 | b,[]=>some b
 | b,l::p=>(kid h b l).bind fun c=>fol h c p
theorem zkI (h:List Nd) (b:Nat) (l:Str) (p:List Str):fol h b (l::p)=(kid h b l).bind fun c=>fol h c p:=rfl
theorem zco (x:Nd) (h:List Nd) (b:Nat):fnd (x::h) b=if x.b=b then some x else fnd h b:=rfl
theorem zfk {h:List Nd}:∀ (p q:List Str) (b:Nat),fol h b (p++q)=(fol h b p).bind fun c=>fol h c q
 | [],q,b=>rfl
 | l::p,q,b=>by
  rw [List.cons_append,zkI,zkI]
  cases kid h b l with
  | none=>rfl
  | some c=>exact zfk p q c
theorem zdj {h:List Nd} (p:List Str) (l:Str) (b:Nat):fol h b (p++[l])=(fol h b p).bind fun c=>kid h c l:=by
 rw [zfk]
 cases fol h b p with
 | none=>rfl
 | some c=>show fol h c [l]=kid h c l;unfold fol;cases kid h c l<;>rfl
theorem zbR {b:Nat} {x:Nd}:∀ {h:List Nd},fnd h b=some x->x∈h/\x.b=b
 | [],e=>by cases e
 | y::h,e=>by
  unfold fnd at e
  split at e
  · rename_i hb;injection e with e;subst e;exact ⟨List.mem_cons_self,hb⟩
  · have:=zbR e;exact ⟨List.mem_cons_of_mem _ this.1,this.2⟩
theorem zhA {b:Nat}:∀ {h:List Nd},fnd h b=none↔∀ x∈h,x.b≠b
 | []=>⟨fun _ _ h=>(nomatch h),fun _=>rfl⟩
 | y::h=>by
  unfold fnd
  split
  · rename_i hb;exact ⟨(fun e=>nomatch e),fun e=>absurd hb (e y List.mem_cons_self)⟩
  · rename_i hb
    rw [zhA]
    exact ⟨fun e x hx=>by
     rcases List.mem_cons.1 hx with rfl | hx
     · exact hb
     · exact e x hx,fun e x hx=>e x (List.mem_cons_of_mem _ hx)⟩
def setN:List Nd->Nd->List Nd
 | [],_=>[]
 | y::h,x=>if y.b=x.b then x::h else y::setN h x
theorem zhL (x:Nd):∀ h:List Nd,(setN h x).map (·.b)=h.map (·.b)
 | []=>rfl
 | y::h=>by
  unfold setN
  split
  · rename_i e;rw [List.map_cons,List.map_cons,e]
  · rw [List.map_cons,List.map_cons,zhL x h]
theorem zde {x y:Nd} {c:Nat}:∀ {h:List Nd},fnd h x.b=some y->fnd (setN h x) c=if c=x.b then some x else fnd h c
 | [],e=>by cases e
 | z::h,e=>by
  rw [zco] at e
  unfold setN
  by_cases hz:z.b=x.b
  · rw [if_pos hz,zco,zco]
    by_cases hc:c=x.b
    · rw [if_pos hc.symm,if_pos hc]
    · rw [if_neg (Ne.symm hc),if_neg hc,if_neg (fun e=>hc (e.symm.trans hz))]
  · rw [if_neg hz] at e ⊢
    rw [zco,zco,zde e]
    by_cases hc:z.b=c
    · rw [if_pos hc,if_neg (fun e2=>hz (hc.trans e2)),if_pos hc]
    · rw [if_neg hc,if_neg hc]
theorem zdq {x y:Nd}:∀ {h:List Nd},fnd h x.b=some y->∃ h1 h2,h=h1++y::h2/\∀ z:Nd,z.b=x.b->setN h z=h1++z::h2
 | [],e=>by cases e
 | w::h,e=>by
  rw [zco] at e
  by_cases hw:w.b=x.b
  · rw [if_pos hw] at e;injection e with e;subst e
    exact ⟨[],h,rfl,fun z hz=>by unfold setN;rw [if_pos (hw.trans hz.symm)];rfl⟩
  · rw [if_neg hw] at e
    obtain ⟨h1,h2,e1,e2⟩:=zdq e
    exact ⟨w::h1,h2,by rw [e1];rfl,fun z hz=>by unfold setN;rw [if_neg (fun e=>hw (e.trans hz)),e2 z hz];rfl⟩
structure Tri (h:List Nd) (r:Nat) (m:List Str->Str->Option Int):Prop where
 nd:(h.map (·.b)).Nodup
 root:(fnd h r).isSome
 cl:∀ b l c,kid h b l=some c->(fnd h c).isSome
 inj:∀ p q c,fol h r p=some c->fol h r q=some c->p=q
 nn:∀ b x,fnd h b=some x->(x.next.map (·.1)).Nodup/\(x.keys.map (·.1)).Nodup
 has:∀ p c x,fol h r p=some c->fnd h c=some x->∀ k,lookA k x.keys=m p k
 all:∀ p k,fol h r p=none->m p k=none
 dep:∀ p c,fol h r p=some c->p.length<=65536
section
variable {h:List Nd} {r:Nat} {m:List Str->Str->Option Int}
theorem Tri.at (t:Tri h r m) {p:List Str}:∀ {c:Nat},fol h r p=some c->∃ x,fnd h c=some x:=by
 have key:∀ (p:List Str) (b c:Nat),(fnd h b).isSome->fol h b p=some c->(fnd h c).isSome:=by
  intro p
  induction p with
  | nil=>intro b c hb e;injection e with e;subst e;exact hb
  | cons l p ih =>
   intro b c hb e
   unfold fol at e
   cases hk:kid h b l with
   | none=>rw [hk] at e;cases e
   | some d=>rw [hk] at e;exact ih d c (t.cl b l d hk) e
 intro c e
 exact Option.isSome_iff_exists.1 (key p r c t.root e)
theorem znV {h:List Nd} {c:Nat} {l:Str} {x y:Nd} (hy:fnd h x.b=some y):kid (setN h x) c l=if c=x.b then lookA l x.next else kid h c l:=by
 unfold kid
 rw [zde hy]
 split<;>rfl
theorem Tri.keys (t:Tri h r m) {p:List Str} {c:Nat} {x:Nd} (hp:fol h r p=some c) (hx:fnd h c=some x) {ks:List (Str×Int)} (hn:(ks.map (·.1)).Nodup) :
  Tri (setN h { x with keys:=ks }) r (fun q k=>if q=p then lookA k ks else m q k)/\∀ q,fol (setN h { x with keys:=ks }) r q=fol h r q:=by
 obtain ⟨_,hxb⟩:=zbR hx
 have ek:∀ b l,kid (setN h { x with keys:=ks }) b l=kid h b l:=fun b l=>by
  rw [znV (x:={ x with keys:=ks }) (hxb.symm▸hx)]
  split
  · rename_i e;rw [e];unfold kid;rw [show fnd h x.b=some x from hxb.symm▸hx];rfl
  · rfl
 have ef:∀ p b,fol (setN h { x with keys:=ks }) b p=fol h b p:=fun p=>by
  induction p with
  | nil=>exact fun b=>rfl
  | cons l p ih=>intro b;unfold fol;rw [ek];congr 1;funext c;exact ih c
 have en:∀ b,fnd (setN h { x with keys:=ks }) b=if b=c then some { x with keys:=ks } else fnd h b:=fun b=>by
  rw [zde (x:={ x with keys:=ks }) (hxb.symm▸hx:fnd h x.b=some x)];show (if b=x.b then _ else _)=_;rw [hxb]
 refine ⟨⟨by rw [zhL];exact t.nd,?_,fun b l d hk=>?_,fun p q d h1 h2=>t.inj p q d (by rw [<-ef];exact h1) (by rw [<-ef];exact h2),fun b y hy=>?_,fun q d y hq hy k=>?_,fun q k hq=>?_,fun q d hq=>t.dep q d (by rw [<-ef];exact hq)⟩,fun q=>ef q r⟩
 · rw [en];split
   · rfl
   · exact t.root
 · rw [en];split
   · rfl
   · exact t.cl b l d (by rw [<-ek];exact hk)
 · rw [en] at hy
   split at hy
   · injection hy with hy;subst hy;exact ⟨(t.nn c x hx).1,hn⟩
   · exact t.nn b y hy
 · rw [ef] at hq
   rw [en] at hy
   split at hy
   · rename_i e;subst e;injection hy with hy;subst hy
     rw [if_pos (t.inj _ _ _ hq hp)]
   · rename_i e
     rw [if_neg (fun e2=>e (by rw [e2,hp] at hq;injection hq with hq;exact hq.symm))]
     exact t.has q d y hq hy k
 · rw [ef] at hq
   show (if q=p then _ else _)=_
   rw [if_neg (fun e=>by rw [e,hp] at hq;cases hq)]
   exact t.all q k hq
theorem Tri.sprout (t:Tri h r m) {p:List Str} {c:Nat} {x y:Nd} {l:Str} (hp:fol h r p=some c) (hx:fnd h c=some x) (hl:lookA l x.next=none) (hy:fnd h y.b=none) (hy1:y.next=[]) (hy2:y.keys=[]) (hd:p.length<65536) :
  Tri (y::setN h { x with next:=updA l y.b x.next }) r m/\∀ q,fol (y::setN h { x with next:=updA l y.b x.next }) r q=if q=p++[l] then some y.b else fol h r q:=by
 obtain ⟨_,hxb⟩:=zbR hx
 have hyc:y.b≠c:=fun e=>by rw [e,hx] at hy;cases hy
 generalize hx':({ x with next:=updA l y.b x.next }:Nd)=x'
 have hxb':x'.b=c:=by rw [<-hx'];exact hxb
 have en:∀ b,fnd (y::setN h x') b=if b=y.b then some y else if b=c then some x' else fnd h b:=fun b=>by
  rw [zco]
  by_cases e:b=y.b
  · rw [if_pos e.symm,if_pos e]
  · rw [if_neg (Ne.symm e),if_neg e,zde (hxb'.symm▸hx:fnd h x'.b=some x),hxb']
 have ek:∀ b l',kid (y::setN h x') b l'=if b=y.b then none else if b=c then (if l'=l then some y.b else kid h b l') else kid h b l':=fun b l'=>by
  have e1:kid (y::setN h x') b l'=(fnd (y::setN h x') b).bind fun z=>lookA l' z.next:=rfl
  rw [e1,en]
  by_cases e:b=y.b
  · rw [if_pos e,if_pos e];show lookA l' y.next=none;rw [hy1];rfl
  · rw [if_neg e,if_neg e]
    by_cases e2:b=c
    · rw [if_pos e2,if_pos e2]
      show lookA l' x'.next=_
      rw [<-hx']
      show lookA l' (updA l y.b x.next)=_
      rw [zdp]
      subst e2
      split
      · rfl
      · unfold kid;rw [hx];rfl
    · rw [if_neg e2,if_neg e2];rfl
 have ekc:kid h c l=none:=by unfold kid;rw [hx];exact hl
 have key:∀ q:List Str,fol (y::setN h x') r q.reverse=if q.reverse=p++[l] then some y.b else fol h r q.reverse:=by
  intro q
  induction q with
  | nil=>rw [if_neg (by simp)];rfl
  | cons l' q ih =>
   rw [List.reverse_cons]
   generalize q.reverse=q at ih ⊢
   rw [zdj,zdj,ih]
   by_cases e:q=p++[l]
   · rw [if_pos e,if_neg (by rw [e];intro h;have:=congrArg List.length h;simp at this)]
     show kid _ y.b l'=_
     rw [ek,if_pos rfl,e,zdj,hp]
     show none=(kid h c l).bind _
     rw [ekc];rfl
   · rw [if_neg e]
     cases hq:fol h r q with
     | none =>
      rw [if_neg]
      · rfl
      · intro e2
        obtain ⟨e3,_⟩:=List.append_inj' e2 rfl
        rw [e3,hp] at hq;cases hq
     | some b =>
      show kid _ b l'=if _ then _ else kid h b l'
      obtain ⟨z,hz⟩:=t.at hq
      rw [ek,if_neg (fun e=>by rw [e,hy] at hz;cases hz)]
      by_cases e2:b=c
      · rw [if_pos e2]
        subst e2
        have:=t.inj _ _ _ hq hp
        subst this
        by_cases e3:l'=l
        · rw [if_pos e3,if_pos (by rw [e3])]
        · rw [if_neg e3,if_neg]
          intro e4
          have:=List.append_cancel_left e4
          injection this with h1 _
          exact e3 h1
      · rw [if_neg e2,if_neg]
        intro e3
        obtain ⟨e4,_⟩:=List.append_inj' e3 rfl
        rw [e4,hp] at hq
        injection hq with hq
        exact e2 hq.symm
 have ef:∀ q,fol (y::setN h x') r q=if q=p++[l] then some y.b else fol h r q:=fun q=>by have:=key q.reverse;rwa [List.reverse_reverse] at this
 have hnp:fol h r (p++[l])=none:=by rw [zdj,hp];exact ekc
 refine ⟨⟨?_,?_,fun b l' d hk=>?_,fun q q' d h1 h2=>?_,fun b z hz=>?_,fun q d z hq hz k=>?_,fun q k hq=>?_,fun q d hq=>?_⟩,ef⟩
 · rw [List.map_cons,List.nodup_cons]
   rw [zhL]
   refine ⟨fun hm=>?_,t.nd⟩
   obtain ⟨z,hz,e⟩:=List.mem_map.1 hm
   exact zhA.1 hy z hz e
 · rw [en];split
   · rfl
   · split
     · rfl
     · exact t.root
 · rw [ek] at hk
   rw [en]
   split at hk
   · cases hk
   · split at hk
     · split at hk
       · injection hk with hk;rw [if_pos hk.symm];rfl
       · split
         · rfl
         · split
           · rfl
           · exact t.cl _ _ _ hk
     · split
       · rfl
       · split
         · rfl
         · exact t.cl _ _ _ hk
 · rw [ef] at h1 h2
   have hd:∀ q:List Str,fol h r q=some y.b->False:=fun q hq=>by obtain ⟨z,hz⟩:=t.at hq;rw [hy] at hz;cases hz
   split at h1
   · rename_i e
     injection h1 with h1;subst h1
     split at h2
     · rename_i e2;rw [e,e2]
     · exact (hd _ h2).elim
   · split at h2
     · injection h2 with h2;subst h2;exact (hd _ h1).elim
     · exact t.inj _ _ _ h1 h2
 · rw [en] at hz
   split at hz
   · injection hz with hz;subst hz;rw [hy1,hy2];exact ⟨List.nodup_nil,List.nodup_nil⟩
   · split at hz
     · injection hz with hz;subst hz
       rw [<-hx']
       exact ⟨zdt (t.nn c x hx).1,(t.nn c x hx).2⟩
     · exact t.nn _ _ hz
 · rw [ef] at hq
   rw [en] at hz
   split at hq
   · rename_i e
     injection hq with hq;subst hq
     rw [if_pos rfl] at hz
     injection hz with hz;subst hz
     rw [hy2,e]
     exact (t.all _ k hnp).symm
   · obtain ⟨z',hz'⟩:=t.at hq
     rw [if_neg (fun e=>by rw [e,hy] at hz';cases hz')] at hz
     split at hz
     · rename_i e;subst e
       injection hz with hz;subst hz
       rw [<-hx']
       exact t.has _ _ _ hq hx k
     · exact t.has _ _ _ hq hz k
 · rw [ef] at hq
   split at hq
   · cases hq
   · exact t.all _ k hq
 · rw [ef] at hq
   split at hq
   · rename_i e;rw [e];simp;omega
   · exact t.dep _ _ hq
theorem Tri.prune (t:Tri h r m) {p:List Str} {c d:Nat} {x y:Nd} {l:Str} (hp:fol h r p=some c) (hx:fnd h c=some x) (hl:lookA l x.next=some d) (hy:fnd h d=some y) (hy1:y.next=[]) (hy2:y.keys=[]) :
  Tri (setN h { x with next:=za0 l x.next }) r m/\∀ q,¬ (p++[l]) <+: q->fol (setN h { x with next:=za0 l x.next }) r q=fol h r q:=by
 obtain ⟨_,hxb⟩:=zbR hx
 have hnx:=(t.nn c x hx).1
 generalize hx':({ x with next:=za0 l x.next }:Nd)=x'
 have hxb':x'.b=c:=by rw [<-hx'];exact hxb
 have en:∀ b,fnd (setN h x') b=if b=c then some x' else fnd h b:=fun b=>by rw [zde (hxb'.symm▸hx:fnd h x'.b=some x),hxb']
 have ek:∀ b l',kid (setN h x') b l'=if b=c/\l'=l then none else kid h b l':=fun b l'=>by
  rw [znV (hxb'.symm▸hx:fnd h x'.b=some x),hxb']
  by_cases e2:b=c
  · rw [if_pos e2,<-hx']
    show lookA l' (za0 l x.next)=_
    rw [zeh hnx]
    subst e2
    by_cases e3:l'=l
    · rw [if_pos e3,if_pos ⟨rfl,e3⟩]
    · rw [if_neg e3,if_neg (fun e=>e3 e.2)];unfold kid;rw [hx];rfl
  · rw [if_neg e2,if_neg (fun e=>e2 e.1)]
 have ekc:kid h c l=some d:=by unfold kid;rw [hx];exact hl
 have hpl:fol h r (p++[l])=some d:=by rw [zdj,hp];exact ekc
 have key:∀ q:List Str,fol (setN h x') r q.reverse=if (p++[l]) <+: q.reverse then none else fol h r q.reverse:=by
  intro q
  induction q with
  | nil=>rw [if_neg (by simp)];rfl
  | cons l' q ih =>
   rw [List.reverse_cons]
   generalize q.reverse=q at ih ⊢
   rw [zdj,zdj,ih]
   by_cases e:(p++[l]) <+: q
   · rw [if_pos e,if_pos (e.trans (List.prefix_append ..))];rfl
   · rw [if_neg e]
     cases hq:fol h r q with
     | none=>show none=if _ then none else none;split<;>rfl
     | some b =>
      show kid _ b l'=if _ then _ else kid h b l'
      rw [ek]
      by_cases e2:b=c/\l'=l
      · obtain ⟨e2,e3⟩:=e2
        subst e2;subst e3
        have:=t.inj _ _ _ hq hp
        subst this
        rw [if_pos ⟨rfl,rfl⟩,if_pos (List.prefix_refl _)]
      · rw [if_neg e2,if_neg]
        intro e3
        rcases List.prefix_concat_iff.1 e3 with e3 | e3
        · obtain ⟨e4,e5⟩:=List.append_inj' e3 rfl
          injection e5 with e5 _
          rw [<-e4,hp] at hq
          injection hq with hq
          exact e2 ⟨hq.symm,e5.symm⟩
        · exact e e3
 have ef:∀ q,fol (setN h x') r q=if (p++[l]) <+: q then none else fol h r q:=fun q=>by have:=key q.reverse;rwa [List.reverse_reverse] at this
 have efs:∀ q e,fol (setN h x') r q=some e->fol h r q=some e:=fun q e he=>by
  rw [ef] at he
  split at he
  · cases he
  · exact he
 refine ⟨⟨by rw [zhL];exact t.nd,?_,fun b l' e hk=>?_,fun q q' e h1 h2=>t.inj _ _ _ (efs _ _ h1) (efs _ _ h2),fun b z hz=>?_,fun q e z hq hz k=>?_,fun q k hq=>?_,fun q e hq=>t.dep _ _ (efs _ _ hq)⟩,fun q hq=>by rw [ef,if_neg hq]⟩
 · rw [en];split
   · rfl
   · exact t.root
 · rw [ek] at hk
   split at hk
   · cases hk
   · rw [en];split
     · rfl
     · exact t.cl _ _ _ hk
 · rw [en] at hz
   split at hz
   · injection hz with hz;subst hz
     rw [<-hx']
     exact ⟨zdx hnx,(t.nn c x hx).2⟩
   · exact t.nn _ _ hz
 · have hq':=efs _ _ hq
   rw [en] at hz
   split at hz
   · rename_i e2;subst e2
     injection hz with hz;subst hz
     rw [<-hx']
     exact t.has _ _ _ hq' hx k
   · exact t.has _ _ _ hq' hz k
 · rw [ef] at hq
   split at hq
   · rename_i e
     obtain ⟨s,rfl⟩:=e
     cases s with
     | nil =>
      rw [List.append_nil,<-t.has _ _ _ hpl hy k,hy2];rfl
     | cons l' s =>
      refine t.all _ k ?_
      rw [zfk,hpl]
      show fol h d (l'::s)=none
      have:kid h d l'=none:=by unfold kid;rw [hy];show lookA l' y.next=none;rw [hy1];rfl
      unfold fol;rw [this];rfl
   · exact t.all _ k hq
end
theorem tri_new (b nm km:Nat):Tri [⟨b,nm,km,[],[]⟩] b fun _ _=>none:=by
 have hk:∀ c l,kid [⟨b,nm,km,[],[]⟩] c l=none:=fun c l=>by
  unfold kid fnd
  split<;>rfl
 have hf:∀ p c,fol [⟨b,nm,km,[],[]⟩] b p=some c->p=[]:=fun p c e=>by
  cases p with
  | nil=>rfl
  | cons l p=>unfold fol at e;rw [hk] at e;cases e
 have hn:∀ c x,fnd [⟨b,nm,km,[],[]⟩] c=some x->x=⟨b,nm,km,[],[]⟩:=fun c x e=>by
  have:=(zbR e).1
  simpa using this
 refine ⟨by simp,?_,fun c l d e=>?_,fun p q c h1 h2=>?_,fun c x e=>?_,fun p c x _ e k=>?_,fun _ _ _=>rfl,fun p c e=>?_⟩
 · unfold fnd;rw [if_pos rfl];rfl
 · rw [hk] at e;cases e
 · rw [hf _ _ h1,hf _ _ h2]
 · rw [hn _ _ e];exact ⟨List.nodup_nil,List.nodup_nil⟩
 · rw [hn _ _ e];rfl
 · rw [hf _ _ e];exact Nat.zero_le _
def mx:Option Int->Option Int->Option Int
 | none,b=>b
 | some a,none=>some a
 | some a,some b=>some (if a<b then b else a)
theorem zjm (a:Option Int):mx a none=a:=by cases a<;>rfl
theorem zmD (a:Option Int):mx none a=a:=rfl
theorem zqx (a b c:Option Int):mx (mx a b) c=mx a (mx b c):=by
 cases a<;>cases b<;>cases c<;>simp only [mx,Option.some.injEq]
 repeat' split
 all_goals first | rfl | omega
def vis:Bool->List Str->List (List Str)
 | wild,[]=>(if wild=true then [[[35]]] else [])++[[]]
 | wild,x::t=>(if wild=true then [[35]]::(vis true t).map ([43] :: ·) else [])++(vis true t).map (x :: ·)
def zdI {α:Type} (g:α->Option Int) (S:List α) (a:Option Int):Option Int:=S.foldl (fun a s=>mx a (g s)) a
section
variable {α:Type} {g:α->Option Int}
theorem zmC (S T:List α) (a:Option Int):zdI g (S++T) a=zdI g T (zdI g S a):=List.foldl_append ..
theorem zcs (s:α) (S:List α) (a:Option Int):zdI g (s::S) a=zdI g S (mx a (g s)):=rfl
theorem zjI:∀ (S:List α) (a:Option Int),zdI g S a=mx a (zdI g S none)
 | [],a=>(zjm a).symm
 | s::S,a=>by rw [zcs,zcs,zjI S (mx a (g s)),zjI S (mx none (g s)),zqx];rfl
theorem zfx:∀ (S:List α) (a:Option Int),a.isSome=true->(zdI g S a).isSome=true
 | [],_,h=>h
 | s::S,a,h=>by
  rw [zcs]
  refine zfx S _ ?_
  cases a with
  | none=>cases h
  | some a=>cases g s<;>rfl
theorem zjE {S:List α} (h:zdI g S none=none):∀ s∈S,g s=none:=by
 intro s hs
 cases hg:g s with
 | none=>rfl
 | some b =>
  obtain ⟨S1,S2,rfl⟩:=List.append_of_mem hs
  rw [zmC,zcs,hg] at h
  have:=zfx (g:=g) S2 (mx (zdI g S1 none) (some b)) (by cases zdI g S1 none<;>rfl)
  rw [h] at this;cases this
theorem zeX:∀ (S:List α) (q:Int),zdI g S none=some q↔(∃ s∈S,g s=some q)/\∀ s∈S,∀ q',g s=some q'->q'<=q
 | [],q=>⟨(fun h=>nomatch h),fun h=>by obtain ⟨⟨_,h,_⟩,_⟩:=h;cases h⟩
 | s::S,q=>by
  have ih:=zeX S
  rw [zcs,zmD,zjI]
  cases h1:g s with
  | none =>
   rw [zmD,ih]
   constructor
   · rintro ⟨⟨t,ht,ht2⟩,h3⟩
     refine ⟨⟨t,List.mem_cons_of_mem _ ht,ht2⟩,fun u hu q' hq=>?_⟩
     rcases List.mem_cons.1 hu with rfl | hu
     · rw [h1] at hq;cases hq
     · exact h3 u hu q' hq
   · rintro ⟨⟨t,ht,ht2⟩,h3⟩
     refine ⟨?_,fun u hu q' hq=>h3 u (List.mem_cons_of_mem _ hu) q' hq⟩
     rcases List.mem_cons.1 ht with rfl | ht
     · rw [h1] at ht2;cases ht2
     · exact ⟨t,ht,ht2⟩
  | some a =>
   cases h2:zdI g S none with
   | none =>
    have hn:=zjE h2
    show some a=some q↔_
    constructor
    · intro e;injection e with e;subst e
      refine ⟨⟨s,List.mem_cons_self,h1⟩,fun u hu q' hq=>?_⟩
      rcases List.mem_cons.1 hu with rfl | hu
      · rw [h1] at hq;injection hq with hq;omega
      · rw [hn u hu] at hq;cases hq
    · rintro ⟨⟨t,ht,ht2⟩,h3⟩
      rcases List.mem_cons.1 ht with rfl | ht
      · rw [h1] at ht2;exact ht2
      · rw [hn t ht] at ht2;cases ht2
   | some b =>
    have h3:=(ih b).1 h2
    show some (if a<b then b else a)=some q↔_
    constructor
    · intro e
      injection e with e
      refine ⟨?_,fun u hu q' hq=>?_⟩
      · split at e
        · subst e
          obtain ⟨t,ht,ht2⟩:=h3.1
          exact ⟨t,List.mem_cons_of_mem _ ht,ht2⟩
        · subst e;exact ⟨s,List.mem_cons_self,h1⟩
      · rcases List.mem_cons.1 hu with rfl | hu
        · rw [h1] at hq;injection hq with hq;split at e<;>omega
        · have:=h3.2 u hu q' hq;split at e<;>omega
    · rintro ⟨⟨t,ht,ht2⟩,h4⟩
      have h5:=h4 s List.mem_cons_self a h1
      obtain ⟨u,hu,hu2⟩:=h3.1
      have h6:=h4 u (List.mem_cons_of_mem _ hu) b hu2
      congr 1
      rcases List.mem_cons.1 ht with rfl | ht
      · rw [h1] at ht2;injection ht2 with ht2;split<;>omega
      · have:=h3.2 t ht q ht2;split<;>omega
end
def zlD (m:List Str->Str->Option Int) (p:List Str) (S:List (List Str)) (k:Str) (a:Option Int):Option Int:=zdI (fun s=>m (p++s) k) S a
def endS:List Str->Prop
 | []=>True
 | [_]=>True
 | x::y::a=>x≠[35]/\endS (y::a)
theorem zif {x:Str} {a:List Str} (h:endS (x::a)):endS a:=by
 cases a with
 | nil=>trivial
 | cons y a=>exact h.2
theorem zhz:∀ (a b:List Str),endS a->(∀ y∈b,y≠[35]/\y≠[43])->(a∈vis true b↔zgK a b=true)
 | [],[],_,_=>by simp [vis,zgK]
 | [],y::b,_,_=>by simp [vis,zgK]
 | x::a,[],ha,_=>by
  simp only [vis,if_true,zgK,List.cons_append,List.nil_append,List.mem_cons,List.not_mem_nil,or_false,Bool.or_false,beq_iff_eq]
  constructor
  · rintro (h | h)
    · injection h
    · cases h
  · intro h
    subst h
    cases a with
    | nil=>exact .inl rfl
    | cons y a=>exact absurd rfl ha.1
 | x::a,y::b,ha,hb=>by
  have ih:=zhz a b (zif ha) fun z hz=>hb z (List.mem_cons_of_mem _ hz)
  have hy:=hb y List.mem_cons_self
  simp only [vis,if_true,zgK,List.cons_append,List.mem_cons,List.mem_append,List.mem_map,Bool.or_eq_true,Bool.and_eq_true,beq_iff_eq]
  constructor
  · rintro (h | ⟨t,ht,h⟩ | ⟨t,ht,h⟩)
    · injection h with h1 h2;exact .inl h1
    · injection h with h1 h2;subst h1;subst h2;exact .inr ⟨.inl rfl,ih.1 ht⟩
    · injection h with h1 h2;subst h1;subst h2;exact .inr ⟨.inr rfl,ih.1 ht⟩
  · rintro (h | ⟨h | h,h2⟩)
    · subst h
      cases a with
      | nil=>exact .inl rfl
      | cons z a=>exact absurd rfl ha.1
    · subst h;exact .inr (.inl ⟨a,ih.2 h2,rfl⟩)
    · subst h;exact .inr (.inr ⟨a,ih.2 h2,rfl⟩)
theorem zmS (a:List Str) (y:Str) (b:List Str) (ha:endS a) (hb:∀ z∈y::b,z≠[35]/\z≠[43]):a∈vis false (y::b)↔(zgK a (y::b)=true/\a.getD 0 []≠[43]/\a.getD 0 []≠[35]):=by
 have hy:=hb y List.mem_cons_self
 cases a with
 | nil=>simp [vis,zgK]
 | cons x a =>
  have ih:=zhz a b (zif ha) fun z hz=>hb z (List.mem_cons_of_mem _ hz)
  simp only [vis,Bool.false_eq_true,if_false,List.nil_append,List.mem_map,zgK,Bool.or_eq_true,Bool.and_eq_true,beq_iff_eq,List.getD_cons_zero]
  constructor
  · rintro ⟨t,ht,h⟩
    injection h with h1 h2;subst h1;subst h2
    exact ⟨.inr ⟨.inr rfl,ih.1 ht⟩,hy.2,hy.1⟩
  · rintro ⟨h | ⟨h | h,h2⟩,h3,h4⟩
    · exact absurd h h4
    · exact absurd h h3
    · subst h;exact ⟨a,ih.2 h2,rfl⟩
def joinS (p:List Str):Str:=[47].intercalate p
theorem zi3 (x:Str):joinS [x]=x:=by simp [joinS,List.intercalate,List.intersperse]
theorem zip (x y:Str) (p:List Str):joinS (x::y::p)=x++47::joinS (y::p):=by simp [joinS,List.intercalate,List.intersperse]
theorem zla (c:UInt8) (l:Str):spl (c::l)=if c=47 then []::spl l else (c::(spl l).headD [])::(spl l).tail:=rfl
theorem zmO (l:Str):spl l≠[]:=by
 cases l with
 | nil=>simp [spl]
 | cons c l=>unfold spl;split<;>simp
theorem zga:∀ l:Str,joinS (spl l)=l
 | []=>zi3 []
 | c::l=>by
  have ih:=zga l
  unfold spl
  cases hs:spl l with
  | nil=>exact absurd hs (zmO l)
  | cons x p =>
   rw [hs] at ih
   split
   · rename_i hc
     rw [zip,ih,hc];rfl
   · simp only [List.headD_cons,List.tail_cons]
     cases p with
     | nil=>rw [zi3] at ih ⊢;rw [ih]
     | cons y p=>rw [zip] at ih ⊢;rw [List.cons_append,ih]
abbrev TL:=List ((Str×Str)×Int)
def mOf (L:TL) (p:List Str) (k:Str):Option Int:=if spl (joinS p)=p then lookA (joinS p,k) L else none
theorem zeB (L:TL) (f k:Str):mOf L (spl f) k=lookA (f,k) L:=by unfold mOf;rw [zga,if_pos rfl]
theorem mOf_nil:mOf []=fun _ _=>none:=by funext p k;unfold mOf;split<;>rfl
theorem mOf_put {L:TL} {f k:Str} {v:Int} {ks:List (Str×Int)} (h:∀ k',lookA k' ks=mOf L (spl f) k'):(fun q k'=>if q=spl f then lookA k' (updA k v ks) else mOf L q k')=mOf (updA (f,k) v L):=by
 funext q k'
 by_cases hq:q=spl f
 · subst hq
   rw [if_pos rfl,zeB,zdp,zdp,h,zeB]
   by_cases e:k'=k
   · rw [if_pos e,if_pos (by rw [e])]
   · rw [if_neg e,if_neg (fun e2=>e (Prod.mk.inj e2).2)]
 · rw [if_neg hq]
   unfold mOf
   by_cases hs:spl (joinS q)=q
   · rw [if_pos hs,if_pos hs,zdp,if_neg (fun e=>hq (by rw [<-hs,(Prod.mk.inj e).1]))]
   · rw [if_neg hs,if_neg hs]
theorem zfd {α β:Type} [DecidableEq α] {k:α}:∀ {l:List (α×β)},lookA k l=none->za0 k l=l
 | [],_=>rfl
 | x::l,h=>by
  unfold lookA at h
  unfold za0
  by_cases e:k=x.1
  · rw [if_pos e] at h;cases h
  · rw [if_neg e] at h ⊢;rw [zfd h]
theorem zjb {α β:Type} [DecidableEq α] {k:α} {v:β}:∀ {l:List (α×β)},lookA k l=some v->(za0 k l).length+1=l.length
 | [],h=>by cases h
 | x::l,h=>by
  unfold lookA at h
  unfold za0
  by_cases e:k=x.1
  · rw [if_pos e];rfl
  · rw [if_neg e] at h ⊢;have:=zjb h;simp only [List.length_cons];omega
theorem zfM {α β:Type} [DecidableEq α] {k:α} {v:β}:∀ {l:List (α×β)},(updA k v l).length=if (lookA k l).isSome=true then l.length else l.length+1
 | []=>rfl
 | x::l=>by
  unfold lookA updA
  by_cases e:k=x.1
  · rw [if_pos e,if_pos e];rfl
  · rw [if_neg e,if_neg e,List.length_cons,zfM]
    split<;>rfl
abbrev upS (l:List Str):Prop:=l.Pairwise (· < ·)
theorem lt_or {a b:Str} (h:¬ a<b):b<a\/a=b:=by
 rcases List.le_iff_lt_or_eq.1 (List.not_lt.1 h) with h | h
 · exact .inl h
 · exact .inr h.symm
def zfD (l:List Str) (s:Str):List Str:=(l.takeWhile fun x=>decide (x<s))++match l.dropWhile fun x=>decide (x<s) with
 | []=>[s]
 | y::r=>if y=s then y::r else s::y::r
theorem zpS {l:List Str} {s x:Str}:x∈zfD l s↔x∈l\/x=s:=by
 unfold zfD
 have e:x∈l↔x∈l.takeWhile (fun x=>decide (x<s))\/x∈l.dropWhile (fun x=>decide (x<s)):=by
  rw [<-List.mem_append,List.takeWhile_append_dropWhile]
 rw [List.mem_append,e]
 generalize l.takeWhile _=a
 generalize l.dropWhile _=b
 cases b with
 | nil=>simp
 | cons y r =>
  simp only
  split
  · rename_i h;subst h
    simp only [List.mem_cons]
    constructor
    · exact fun h=>.inl h
    · rintro (h | h)
      · exact h
      · exact .inr (.inl h)
  · simp only [List.mem_cons]
    constructor
    · rintro (h | h | h | h)
      · exact .inl (.inl h)
      · exact .inr h
      · exact .inl (.inr (.inl h))
      · exact .inl (.inr (.inr h))
    · rintro ((h | h | h) | h)
      · exact .inl h
      · exact .inr (.inr (.inl h))
      · exact .inr (.inr (.inr h))
      · exact .inr (.inl h)
theorem znE {l:List Str} {s:Str} (h:upS l):upS (zfD l s):=by
 have e:=List.takeWhile_append_dropWhile (p:=fun x=>decide (x<s)) (l:=l)
 have ha:∀ x∈l.takeWhile (fun x=>decide (x<s)),x<s:=fun x hx=>by
  have:=List.all_takeWhile (p:=fun x=>decide (x<s)) (l:=l)
  exact of_decide_eq_true (List.all_eq_true.1 this x hx)
 have hb:∀ y r,l.dropWhile (fun x=>decide (x<s))=y::r->¬ y<s:=fun y r hy=>by
  have:=List.head?_dropWhile_not (fun x=>decide (x<s)) l
  rw [hy] at this
  simpa using this
 unfold zfD
 rw [<-e] at h
 generalize l.takeWhile (fun x=>decide (x<s))=a at *
 generalize l.dropWhile (fun x=>decide (x<s))=b at *
 unfold upS at h ⊢
 rw [List.pairwise_append] at h ⊢
 obtain ⟨h1,h2,h3⟩:=h
 cases b with
 | nil=>exact ⟨h1,List.pairwise_singleton _ _,fun x hx y hy=>by rw [List.mem_singleton.1 hy];exact ha x hx⟩
 | cons y r =>
  simp only
  split
  · exact ⟨h1,h2,h3⟩
  · rename_i hne
    have hsy:s<y:=by
     rcases lt_or (hb y r rfl) with h | h
     · exact h
     · exact absurd h hne
    refine ⟨h1,List.pairwise_cons.2 ⟨fun z hz=>?_,h2⟩,fun x hx z hz=>?_⟩
    · rcases List.mem_cons.1 hz with rfl | hz
      · exact hsy
      · exact List.lt_trans hsy ((List.pairwise_cons.1 h2).1 z hz)
    · rcases List.mem_cons.1 hz with rfl | hz
      · exact ha x hx
      · exact h3 x hx z hz
theorem up_uniq {l l':List Str} (h:upS l) (h':upS l') (hm:∀ x,x∈l↔x∈l'):l=l':=by
 have n1:l.Nodup:=h.imp fun hlt e=>absurd (e▸hlt) (List.lt_irrefl _)
 have n2:l'.Nodup:=h'.imp fun hlt e=>absurd (e▸hlt) (List.lt_irrefl _)
 exact List.Perm.eq_of_pairwise (le:=(· < ·)) (fun a b _ _ h1 h2=>absurd (List.lt_trans h1 h2) (List.lt_irrefl _)) h h' ((List.perm_ext_iff_of_nodup n1 n2).2 hm)
def zbG (L:TL):List Str:=L.foldl (fun a e=>zfD a e.1.1) []
def zcl (L:TL) (f:Str):List Str:=L.foldl (fun a e=>if e.1.1=f then zfD a e.1.2 else a) []
theorem zeN {g:(Str×Str)×Int->Option Str}:∀ (L:TL) (a:List Str),upS a->upS (L.foldl (fun a e=>match g e with | some s=>zfD a s | none=>a) a)/\∀ x,x∈L.foldl (fun a e=>match g e with | some s=>zfD a s | none=>a) a↔x∈a\/∃ e∈L,g e=some x
 | [],a,h=>⟨h,fun x=>by simp⟩
 | e::L,a,h=>by
  rw [List.foldl_cons]
  cases hg:g e with
  | none =>
   obtain ⟨h1,h2⟩:=zeN (g:=g) L a h
   refine ⟨h1,fun x=>?_⟩
   rw [h2]
   simp only [List.mem_cons,exists_eq_or_imp,hg]
   simp
  | some s =>
   obtain ⟨h1,h2⟩:=zeN (g:=g) L (zfD a s) (znE h)
   refine ⟨h1,fun x=>?_⟩
   rw [h2,zpS]
   simp only [List.mem_cons,exists_eq_or_imp,hg,Option.some.injEq]
   constructor
   · rintro ((h | h) | h)
     · exact .inl h
     · exact .inr (.inl h.symm)
     · exact .inr (.inr h)
   · rintro (h | h | h)
     · exact .inl (.inl h)
     · exact .inl (.inr h.symm)
     · exact .inr h
theorem zgY (L:TL):upS (zbG L)/\∀ x,x∈zbG L↔∃ e∈L,e.1.1=x:=by
 have:=zeN (g:=fun e=>some e.1.1) L [] List.Pairwise.nil
 simpa [zbG] using this
theorem zjM (L:TL) (f:Str):upS (zcl L f)/\∀ x,x∈zcl L f↔∃ e∈L,e.1.1=f/\e.1.2=x:=by
 have:=zeN (g:=fun e=>if e.1.1=f then some e.1.2 else none) L [] List.Pairwise.nil
 have e:zcl L f=L.foldl (fun a e=>match (if e.1.1=f then some e.1.2 else none) with | some s=>zfD a s | none=>a) []:=by
  unfold zcl
  congr 1
  funext a e
  split<;>rfl
 rw [e]
 refine ⟨this.1,fun x=>?_⟩
 rw [this.2]
 simp only [List.not_mem_nil,false_or]
 constructor
 · rintro ⟨e,he,h⟩
   split at h
   · rename_i hf;injection h with h;exact ⟨e,he,hf,h⟩
   · cases h
 · rintro ⟨e,he,hf,h⟩
   exact ⟨e,he,by rw [if_pos hf,h]⟩
def ziA (l:List (Str×Int)) (k:Str) (q:Int):List (Str×Int):=(l.takeWhile fun x=>decide (x.1<k))++match l.dropWhile fun x=>decide (x.1<k) with
 | []=>[(k,q)]
 | y::r=>if y.1=k then (y.1,max y.2 q)::r else (k,q)::y::r
theorem zlX {l:List (Str×Int)} {k:Str} {q:Int}:(ziA l k q).map (·.1)=zfD (l.map (·.1)) k:=by
 unfold ziA zfD
 rw [List.takeWhile_map,List.dropWhile_map,List.map_append]
 congr 1
 show _=match List.map (·.1) (l.dropWhile fun x=>decide (x.1<k)) with | []=>_ | y::r=>_
 cases l.dropWhile (fun x=>decide (x.1<k)) with
 | nil=>rfl
 | cons y r =>
  simp only [List.map_cons]
  split<;>simp
theorem zb7 {α β:Type} [DecidableEq α] (k:α) (x:α×β) (l:List (α×β)):lookA k (x::l)=if k=x.1 then some x.2 else lookA k l:=rfl
theorem zgs {α β:Type} [DecidableEq α] {k:α}:∀ (l r:List (α×β)),lookA k (l++r)=(lookA k l).or (lookA k r)
 | [],r=>rfl
 | x::l,r=>by
  rw [List.cons_append,zb7,zb7]
  split
  · rfl
  · exact zgs l r
theorem zl0 {l:List (Str×Int)} {k j:Str} {q:Int} (h:upS (l.map (·.1))):lookA j (ziA l k q)=if j=k then mx (lookA j l) (some q) else lookA j l:=by
 have e:=List.takeWhile_append_dropWhile (p:=fun x:Str×Int=>decide (x.1<k)) (l:=l)
 have ha:∀ x∈l.takeWhile (fun x=>decide (x.1<k)),x.1<k:=fun x hx=>by
  have:=List.all_takeWhile (p:=fun x:Str×Int=>decide (x.1<k)) (l:=l)
  exact of_decide_eq_true (List.all_eq_true.1 this x hx)
 have hb:∀ y r,l.dropWhile (fun x=>decide (x.1<k))=y::r->¬ y.1<k:=fun y r hy=>by
  have:=List.head?_dropWhile_not (fun x:Str×Int=>decide (x.1<k)) l
  rw [hy] at this
  simpa using this
 unfold ziA
 conv=>rhs;rw [<-e]
 rw [<-e] at h
 generalize l.takeWhile (fun x=>decide (x.1<k))=a at *
 generalize l.dropWhile (fun x=>decide (x.1<k))=b at *
 have han:lookA k a=none:=zbF.2 fun x hx hk=>absurd (hk▸ha x hx) (List.lt_irrefl _)
 rw [zgs,zgs]
 cases b with
 | nil =>
  simp only
  by_cases hj:j=k
  · subst hj;rw [if_pos rfl,han];simp [lookA,mx]
  · rw [if_neg hj];simp [lookA,hj]
 | cons y r =>
  simp only
  by_cases hy:y.1=k
  · rw [if_pos hy]
    by_cases hj:j=k
    · subst hj
      rw [if_pos rfl,han]
      simp only [lookA,hy,if_true,Option.none_or,mx,Option.some.injEq]
      split<;>omega
    · rw [if_neg hj]
      have:¬ j=y.1:=fun e=>hj (e.trans hy)
      simp only [lookA,if_neg this]
  · rw [if_neg hy]
    have hky:k<y.1:=by
     rcases lt_or (hb y r rfl) with h | h
     · exact h
     · exact absurd h hy
    by_cases hj:j=k
    · subst hj
      rw [if_pos rfl,han]
      have hn:lookA j (y::r)=none:=zbF.2 fun x hx hk=>by
       unfold upS at h
       rw [List.map_append,List.map_cons,List.pairwise_append,List.pairwise_cons] at h
       rcases List.mem_cons.1 hx with rfl | hx
       · exact absurd (hk▸hky) (List.lt_irrefl _)
       · have:=List.lt_trans hky (h.2.1.1 x.1 (List.mem_map.2 ⟨x,hx,rfl⟩))
         exact absurd (hk▸this) (List.lt_irrefl _)
      rw [hn]
      simp [lookA,mx]
    · rw [if_neg hj]
      have e1:lookA j ((k,q)::y::r)=lookA j (y::r):=by
       conv=>lhs;unfold lookA
       rw [if_neg hj]
      rw [e1]
def zgt (L:TL) (n:Str):List (Str×Int):=L.foldl (fun a e=>if zdr e.1.1 n=true then ziA a e.1.2 e.2 else a) []
theorem zfK (n:Str):∀ (L:TL) (a:List (Str×Int)),upS (a.map (·.1))->upS ((L.foldl (fun a e=>if zdr e.1.1 n=true then ziA a e.1.2 e.2 else a) a).map (·.1)) /\
  ∀ j,lookA j (L.foldl (fun a e=>if zdr e.1.1 n=true then ziA a e.1.2 e.2 else a) a)=zdI (fun e=>if zdr e.1.1 n=true/\e.1.2=j then some e.2 else none) L (lookA j a)
 | [],a,h=>⟨h,fun _=>rfl⟩
 | e::L,a,h=>by
  rw [List.foldl_cons]
  by_cases hm:zdr e.1.1 n=true
  · rw [if_pos hm]
    obtain ⟨h1,h2⟩:=zfK n L (ziA a e.1.2 e.2) (by rw [zlX];exact znE h)
    refine ⟨h1,fun j=>?_⟩
    rw [h2,zcs,zl0 h]
    by_cases hj:j=e.1.2
    · rw [if_pos hj,if_pos ⟨hm,hj.symm⟩]
    · rw [if_neg hj,if_neg (fun h=>hj h.2.symm),zjm]
  · rw [if_neg hm]
    obtain ⟨h1,h2⟩:=zfK n L a h
    refine ⟨h1,fun j=>?_⟩
    rw [h2,zcs,if_neg (fun h=>hm h.1),zjm]
theorem zje (L:TL) (n:Str):upS ((zgt L n).map (·.1)):=(zfK n L [] List.Pairwise.nil).1
theorem zjZ (L:TL) (n j:Str):lookA j (zgt L n)=zdI (fun e=>if zdr e.1.1 n=true/\e.1.2=j then some e.2 else none) L none:=(zfK n L [] List.Pairwise.nil).2 j
theorem zcd {α β:Type} [DecidableEq α] {k:α} {l:List (α×β)}:(lookA k l).isSome=true↔k∈l.map (·.1):=by
 cases h:lookA k l with
 | none =>
  rw [zbF] at h
  simp only [Option.isSome_none,Bool.false_eq_true,false_iff]
  intro hm
  obtain ⟨x,hx,e⟩:=List.mem_map.1 hm
  exact h x hx e.symm
 | some v =>
  simp only [Option.isSome_some,true_iff]
  exact List.mem_map.2 ⟨_,zcP h,rfl⟩
theorem match_fold {L:TL} (hn:(L.map (·.1)).Nodup) (hf:∀ e∈L,filterB e.1.1=true) {n:Str} {S:List (List Str)} (hS:∀ f,filterB f=true->(spl f∈S↔zdr f n=true)) (j:Str):zlD (mOf L) [] S j none=lookA j (zgt L n):=by
 rw [zjZ]
 have key:∀ q,zlD (mOf L) [] S j none=some q↔zdI (fun e:(Str×Str)×Int=>if zdr e.1.1 n=true/\e.1.2=j then some e.2 else none) L none=some q:=by
  intro q
  unfold zlD
  rw [zeX,zeX]
  have e1:∀ q',(∃ s∈S,mOf L ([]++s) j=some q')↔∃ e∈L,(if zdr e.1.1 n=true/\e.1.2=j then some e.2 else none)=some q':=by
   intro q'
   constructor
   · rintro ⟨s,hs,h⟩
     rw [List.nil_append] at h
     unfold mOf at h
     split at h
     · rename_i hsp
       have hm:=zcP h
       have hb:=(hS _ (hf _ hm)).1 (by rw [hsp];exact hs)
       exact ⟨_,hm,by rw [if_pos ⟨hb,rfl⟩]⟩
     · cases h
   · rintro ⟨e,he,h⟩
     split at h
     · rename_i hc
       injection h with h
       refine ⟨spl e.1.1,(hS _ (hf _ he)).2 hc.1,?_⟩
       rw [List.nil_append,zeB,<-hc.2,<-h]
       exact zdQ hn he
     · cases h
  constructor
  · rintro ⟨h1,h2⟩
    refine ⟨(e1 q).1 h1,fun e he q' hq=>?_⟩
    obtain ⟨s,hs,h⟩:=(e1 q').2 ⟨e,he,hq⟩
    exact h2 s hs q' h
  · rintro ⟨h1,h2⟩
    refine ⟨(e1 q).2 h1,fun s hs q' hq=>?_⟩
    obtain ⟨e,he,h⟩:=(e1 q').1 ⟨s,hs,hq⟩
    exact h2 e he q' h
 cases h1:zlD (mOf L) [] S j none with
 | some q=>exact ((key q).1 h1).symm
 | none =>
  cases h2:zdI (fun e:(Str×Str)×Int=>if zdr e.1.1 n=true/\e.1.2=j then some e.2 else none) L none with
  | none=>rfl
  | some q=>rw [(key q).2 h2] at h1;cases h1
theorem zj6:∀ {l:List (Str×Int)},(l.map (·.1)).Nodup->l=(l.map (·.1)).map fun k=>(k,(lookA k l).getD 0)
 | [],_=>rfl
 | x::l,h=>by
  rw [List.map_cons,List.nodup_cons] at h
  rw [List.map_cons,List.map_cons]
  congr 1
  · unfold lookA;rw [if_pos rfl];rfl
  · conv=>lhs;rw [zj6 h.2]
    refine List.map_congr_left fun k hk=>?_
    have:lookA k (x::l)=lookA k l:=by
     rw [zb7,if_neg (fun e=>h.1 (by rw [<-e];exact hk))]
    rw [this]
theorem zqk {l:List Str} (h:upS l):l.Nodup:=h.imp fun hlt e=>absurd (e▸hlt) (List.lt_irrefl _)
def sortS (l:List Str):List Str:=l.mergeSort fun x y=>decide (x<=y)
theorem ziR {l:List Str} {x:Str}:x∈sortS l↔x∈l:=(List.mergeSort_perm l _).mem_iff
theorem zeb (l:List Str):(sortS l).length=l.length:=List.length_mergeSort l
theorem zpY {l:List Str} (h:l.Nodup):upS (sortS l):=by
 have htr:∀ a b c:Str,decide (a<=b)=true->decide (b<=c)=true->decide (a<=c)=true:=fun a b c h1 h2=>by simp only [decide_eq_true_eq] at *;exact List.le_trans h1 h2
 have hto:∀ a b:Str,(decide (a<=b)||decide (b<=a))=true:=fun a b=>by simp only [Bool.or_eq_true,decide_eq_true_eq];exact List.le_total a b
 have hs:=List.pairwise_mergeSort htr hto l
 have hn:(sortS l).Nodup:=(List.mergeSort_perm l _).nodup_iff.2 h
 refine (List.Pairwise.and hs hn).imp fun {a b} hab=>?_
 have h1:=of_decide_eq_true hab.1
 rcases List.le_iff_lt_or_eq.1 h1 with h | h
 · exact h
 · exact absurd h hab.2
theorem zhy {l r:List Str} (hn:l.Nodup) (hr:upS r) (hm:∀ x,x∈l↔x∈r):sortS l=r:=up_uniq (zpY hn) hr fun x=>by rw [ziR,hm]
theorem match_same {L:TL} {n:Str} {o:List (Str×Int)} (ho:(o.map (·.1)).Nodup) (h:∀ j,lookA j o=lookA j (zgt L n)) {ss:List Str} (hs:ss.Perm (o.map (·.1))):(sortS ss).map (fun k=>(k,(lookA k o).getD 0))=zgt L n:=by
 have e:sortS ss=(zgt L n).map (·.1):=zhy (hs.nodup_iff.2 ho) (zje L n) fun x=>by rw [hs.mem_iff,<-zcd,<-zcd,h]
 rw [e]
 conv=>rhs;rw [zj6 (zqk (zje L n))]
 refine List.map_congr_left fun k _=>?_
 rw [h]
theorem zgF (l:Str):levs l=spl l:=zfI l.length l (Nat.le_refl _)
theorem zmR:∀ {ls:List Str},(∀ i,i+1<ls.length->ls.getD i default≠[35])->endS ls
 | [],_=>trivial
 | [_],_=>trivial
 | x::y::a,h=>⟨h 0 (by simp),zmR fun i hi=>by have:=h (i+1) (by simpa using hi);simpa using this⟩
theorem zjV {f:Str} (h:filterB f=true):endS (spl f):=by
 rw [zdT,zgF,Bool.and_eq_true] at h
 refine zmR fun i hi e=>?_
 have h0:=List.all_eq_true.1 (show (List.range (spl f).length).all (okAt (spl f))=true from h.2) i (List.mem_range.2 (by omega))
 unfold okAt at h0
 rw [e] at h0
 simp only [Bool.or_eq_true,Bool.and_eq_true,beq_iff_eq,decide_eq_true_eq,Bool.not_eq_true'] at h0
 rcases h0 with (h0 | ⟨_,h0⟩) | h0
 · cases h0
 · omega
 · exact absurd h0 (by decide)
theorem zjl {c:UInt8}:∀ {l x:Str},x∈spl l->c∈x->c∈l
 | [],x,h,hc=>by simp [spl] at h;rw [h] at hc;cases hc
 | d::l,x,h,hc=>by
  rw [zla] at h
  have ih:=@zjl c l
  split at h
  · rcases List.mem_cons.1 h with rfl | h
    · cases hc
    · exact List.mem_cons_of_mem _ (ih h hc)
  · cases hs:spl l with
    | nil=>exact absurd hs (zmO l)
    | cons y p =>
     rw [hs] at h ih
     simp only [List.headD_cons,List.tail_cons] at h
     rcases List.mem_cons.1 h with rfl | h
     · rcases List.mem_cons.1 hc with rfl | hc
       · exact List.mem_cons_self
       · exact List.mem_cons_of_mem _ (ih List.mem_cons_self hc)
     · exact List.mem_cons_of_mem _ (ih (List.mem_cons_of_mem _ h) hc)
theorem zpB {n:Str} (h:zb5 n=true):∀ y∈spl n,y≠[35]/\y≠[43]:=by
 rw [zj4,Bool.and_eq_true,Bool.not_eq_true'] at h
 have hw:=h.2
 unfold zc3 at hw
 rw [List.any_eq_false] at hw
 refine fun y hy=>⟨fun e=>?_,fun e=>?_⟩
 · have:=hw 35 (zjl hy (by rw [e];exact List.mem_cons_self));simp at this
 · have:=hw 43 (zjl hy (by rw [e];exact List.mem_cons_self));simp at this
theorem hid_is (n:Str):hidT ((spl n).getD 0 default)=hidT n:=by
 cases n with
 | nil=>rfl
 | cons c l =>
  rw [zla]
  split
  · rename_i h;subst h;rfl
  · rfl
theorem vis_match {f n:Str} (hf:filterB f=true) (hn:zb5 n=true):spl f∈vis (!hidT n) (spl n)↔zdr f n=true:=by
 rw [<-zqo,hf,hn,zgF,zgF]
 simp only [Bool.true_and]
 unfold zmF
 rw [hid_is]
 have he:=zjV hf
 have hl:=zpB hn
 cases hh:hidT n with
 | false =>
  rw [Bool.not_false,zhz _ _ he hl];simp
 | true =>
  rw [Bool.not_true]
  cases hs:spl n with
  | nil=>exact absurd hs (zmO n)
  | cons y b =>
   rw [hs] at hl
   rw [zmS _ y b he hl]
   have ed:(default:Str)=[]:=rfl
   rw [ed]
   simp only [Bool.true_and,Bool.and_eq_true,Bool.not_eq_true',Bool.or_eq_false_iff,beq_eq_false_iff_ne,ne_eq]
   exact ⟨fun h=>⟨⟨h.2.1,h.2.2⟩,h.1⟩,fun h=>⟨h.2,h.1.1,h.1.2⟩⟩
abbrev pv (c:Nat):V:=.raw (.pointer (some ⟨c,0,none⟩))
def Nd.own (x:Nd):Own:=[.blk x.b [.raw (.map (some x.nm)), .raw (.map (some x.km))], .map x.nm (entM V.str pv x.next), .map x.km (entM V.str (V.int .i64) x.keys)]
def ownH:List Nd->Own
 | []=>[]
 | x::h=>x.own++ownH h
theorem zie (x:Nd) (h:List Nd) (F:Own):ownH (x::h)++F=x.own++(ownH h++F):=List.append_assoc ..
theorem zch (h1 h2:List Nd) (x:Nd):ownH (h1++x::h2)=ownH h1++(x.own++ownH h2):=by
 induction h1 with
 | nil=>rfl
 | cons y h1 ih=>show y.own++ownH (h1++x::h2)=y.own++ownH h1++_;rw [ih,List.append_assoc]
theorem zkl (h1 h2:List Nd):ownH (h1++h2)=ownH h1++ownH h2:=by
 induction h1 with
 | nil=>rfl
 | cons y h1 ih=>show y.own++ownH (h1++h2)=y.own++ownH h1++_;rw [ih,List.append_assoc]
theorem OnB.inH {h:List Nd} {H:Own} {b:Nat} {x:Nd} {G:List V->(Ent->Own)->Prop} (hx:fnd h b=some x) (k:∀ C,G [.raw (.map (some x.nm)), .raw (.map (some x.km))] C):OnB (ownH h++H) b G:=by
 obtain ⟨_,rfl⟩:=zbR hx
 obtain ⟨h1,h2,e,_⟩:=zdq hx
 refine ⟨_,ownH h1, .map x.nm (entM V.str pv x.next) :: .map x.km (entM V.str (V.int .i64) x.keys)::(ownH h2++H),?_,k _⟩
 rw [e,zch];simp [Nd.own]
theorem OnM.inN {h:List Nd} {H:Own} {b:Nat} {x:Nd} {G:List (V×V)->(Ent->Own)->Prop} (hx:fnd h b=some x) (k:∀ C:Ent->Own,(∀ nx,C (.map x.nm (entM V.str pv nx))=ownH (setN h { x with next:=nx })++H)->G (entM V.str pv x.next) C):OnM (ownH h++H) x.nm G:=by
 obtain ⟨_,rfl⟩:=zbR hx
 obtain ⟨h1,h2,e,es⟩:=zdq hx
 refine ⟨_,ownH h1++[.blk x.b [.raw (.map (some x.nm)), .raw (.map (some x.km))]], .map x.km (entM V.str (V.int .i64) x.keys)::(ownH h2++H),?_,k _ fun nx=>?_⟩
 · rw [e,zch];simp [Nd.own]
 · rw [es { x with next:=nx } rfl,zch];simp [Nd.own]
theorem OnM.inK {h:List Nd} {H:Own} {b:Nat} {x:Nd} {G:List (V×V)->(Ent->Own)->Prop} (hx:fnd h b=some x) (k:∀ C:Ent->Own,(∀ ks,C (.map x.km (entM V.str (V.int .i64) ks))=ownH (setN h { x with keys:=ks })++H)->G (entM V.str (V.int .i64) x.keys) C):OnM (ownH h++H) x.km G:=by
 obtain ⟨_,rfl⟩:=zbR hx
 obtain ⟨h1,h2,e,es⟩:=zdq hx
 refine ⟨_,ownH h1++[.blk x.b [.raw (.map (some x.nm)), .raw (.map (some x.km))], .map x.nm (entM V.str pv x.next)],ownH h2++H,?_,k _ fun ks=>?_⟩
 · rw [e,zch];simp [Nd.own]
 · rw [es { x with keys:=ks } rfl,zch];simp [Nd.own]
section
variable {P:Program} {n:Nat} {Q:Exit->Env->Own->Prop} {e:Env} {H:Own} {cc:Code}
theorem zil {h:List Nd} {x:Nd} (hx:x∈h):Ent.blk x.b [.raw (.map (some x.nm)), .raw (.map (some x.km))]∈ownH h:=by
 obtain ⟨h1,h2,rfl⟩:=List.append_of_mem hx
 rw [zch];simp [Nd.own]
theorem blk_in {h:List Nd} {b:Nat} {x:Nd} (hx:fnd h b=some x):Ent.blk b [.raw (.map (some x.nm)), .raw (.map (some x.km))]∈ownH h:=by
 obtain ⟨h1,rfl⟩:=zbR hx
 exact zil h1
theorem zpx {y:Nd} {h:List Nd} {F:Own} (ha:(y.own++(ownH h++F)).Pairwise (fun e f=>∀ b,e.touches b->¬ f.touches b)):fnd h y.b=none:=by
 rw [zhA]
 intro x hx e
 rw [List.pairwise_append] at ha
 exact ha.2.2 (.blk y.b [.raw (.map (some y.nm)), .raw (.map (some y.km))]) (by simp [Nd.own]) _ (List.mem_append_left _ (zil hx)) y.b rfl e.symm
theorem DW.grow {x y:Nd} {h:List Nd} {r c:Nat} {m:List Str->Str->Option Int} {p:List Str} {l:Str} (t:Tri h r m) (hp:fol h r p=some c) (hx:fnd h c=some x) (hl:lookA l x.next=none) (hy:y.next=[]/\y.keys=[]) (hd:p.length<65536)
  (ho:OutL H y.own fun F1=>OutL F1 (ownH (setN h { x with next:=updA l y.b x.next })) fun F2=>(∀ h' x',Tri h' r m->fol h' r (p++[l])=some y.b->fnd h' c=some x'->lookA l x'.next=some y.b->DW P n cc Q e (ownH h'++F2))):DW P n cc Q e H:=by
 obtain ⟨F1,h1,F2,h2,h3⟩:=ho
 have hpm:=h1.trans (h2.append_left y.own)
 refine DW.perm hpm (DW.apart fun ha=>?_)
 have hxb:=(zbR hx).2
 have hf0:=zpx ha
 have hsx:fnd h ({ x with next:=updA l y.b x.next }:Nd).b=some x:=by show fnd h x.b=some x;rw [hxb];exact hx
 have hyc:y.b≠x.b:=fun e=>by
  rw [zde hsx,if_pos e] at hf0;cases hf0
 have hf:fnd h y.b=none:=by
  rw [zde hsx,if_neg hyc] at hf0;exact hf0
 obtain ⟨t1,t2⟩:=t.sprout hp hx hl hf hy.1 hy.2 hd
 have:=h3 _ { x with next:=updA l y.b x.next } t1 (by rw [t2,if_pos rfl]) (by rw [zco,if_neg (fun e=>hyc (e.trans hxb.symm)),zde hsx];show (if c=x.b then _ else _)=_;rw [if_pos hxb.symm]) (by show lookA l (updA l y.b x.next)=_;rw [zdp,if_pos rfl])
 rw [zie] at this
 exact this
theorem DW.unitE {id r mr:Nat} {m left cur:List (V×V)} (ho:Out H (.miter r mr m left cur) fun F=>DW P n (.exit id) Q e (.map mr m::F)):DW P n (.exit id) Q e H:=by
 obtain ⟨F,hp,h⟩:=ho
 refine DW.perm hp fun a w hs hr=>?_
 obtain ⟨g1,g2⟩:=Sim.unit (L1:=[]) (L2:=F) hs
 exact wp_mono (h a w g1 (hr.ext g2)) fun x a1 w1 ⟨hd,e1,H1,s,r,x1,q⟩=>⟨hd,e1,H1,s,r,g2.trans x1,q⟩
theorem DW.openR (id:Nat) {ops:Array Oper} {d:Bool} {h:List Nd} {b:Nat} {x:Nd} (hx:fnd h b=some x) (ho:OutL H (ownH h) fun F=>∀ h1 h2,h=h1++x::h2->DW P n (.region id ops d) Q e (x.own++(ownH (h1++h2)++F))):DW P n (.region id ops d) Q e H:=by
 obtain ⟨F,hp,h0⟩:=ho
 obtain ⟨_,rfl⟩:=zbR hx
 obtain ⟨h1,h2,e1,_⟩:=zdq hx
 have:=h0 h1 h2 e1
 refine DW.perm (hp.trans ?_) this
 rw [e1,zch,zkl,List.append_assoc,List.append_assoc,List.append_assoc]
 exact zeF _ _ _
theorem SubP.closeR {h1 h2:List Nd} {x:Nd} {G:Own} (h:SubP (x.own++(ownH (h1++h2)++G)) H):SubP (ownH (h1++x::h2)++G) H:=by
 obtain ⟨L,l1,l2⟩:=h
 refine ⟨L,l1.trans ?_,l2⟩
 rw [zch,zkl,List.append_assoc,List.append_assoc,List.append_assoc]
 exact zeF _ _ _
theorem zqq (h:DW P n cc Q e H):DW P n cc Q e H:=h
end
theorem zhQ {α β:Type} {ek:α->V} {ev:β->V} {L:List (α×β)} {P:List (V×V)->V×V->List (V×V)->Prop} {Q:Prop} (h1:∀ A x C,L=A++x::C->P (entM ek ev A) (ek x.1,ev x.2) (entM ek ev C)) (h2:L=[]->Q):Both (∀ l1 y l2,entM ek ev L=l1++y::l2->P l1 y l2) (entM ek ev L=[]->Q):=⟨fun l1 y l2 e=>by
 unfold entM at e
 obtain ⟨A,B,rfl,e1,e2⟩:=List.map_eq_append_iff.1 e
 obtain ⟨x,C,rfl,e3,e4⟩:=List.map_eq_cons_iff.1 e2
 subst e1;subst e3;subst e4
 exact h1 A x C rfl,fun e=>h2 (by unfold entM at e;exact List.map_eq_nil_iff.1 e)⟩
theorem ze4 {α β:Type} (ek:α->V) (ev:β->V) (a b:List (α×β)):entM ek ev a++entM ek ev b=entM ek ev (a++b):=(List.map_append).symm
structure TS where
 r:Nat
 h:List Nd
 L:TL
def ownT (t:Nat) (s:TS):Own:=.blk t [.raw (.pointer (some ⟨s.r,0,none⟩)), .int .i64 s.L.length]::ownH s.h
structure TOK (s:TS):Prop where
 tri:Tri s.h s.r (mOf s.L)
 nd:(s.L.map (·.1)).Nodup
 fl:∀ e∈s.L,filterB e.1.1=true
 kl:∀ e∈s.L,e.1.2.length<=1000000000
end
section
open Go.Shelf Go.RowKit
def zmA:Go.Shelf.Ren:=⟨fun | 194=>106 | n=>n,fun | 31=>36 | 9=>9 | 3=>3 | 4=>4 | 0=>0 | n=>n,fun | n=>n⟩
theorem layCs:Go.Proofs.Lays.n194 Tryz.prog zmA:={
 mixed:=by kernel_rfl
 f194:=Tryz.func106.trans (congrArg some (by kernel_rfl))
 t0:=Tryz.underlying0
 a0:=Tryz.isAgg0
 z0:=Tryz.sizeOf0
 v0:=Tryz.zeroValue0
 t3:=Tryz.underlying3
 a3:=Tryz.isAgg3
 z3:=Tryz.sizeOf3
 v3:=Tryz.zeroValue3
 t4:=Tryz.underlying4
 a4:=Tryz.isAgg4
 z4:=Tryz.sizeOf4
 v4:=Tryz.zeroValue4
 t9:=Tryz.underlying9
 a9:=Tryz.isAgg9
 z9:=Tryz.sizeOf9
 v9:=Tryz.zeroValue9
 t31:=Tryz.underlying36
 a31:=Tryz.isAgg36
 z31:=Tryz.sizeOf36
 v31:=Tryz.zeroValue36 }
end
section
open Go.RowKit Go.ChangeShapes Go.WideShapes Go.Deep
theorem Sim.none (w:World):Sim w []:=⟨(fun _ h=>nomatch h),List.Pairwise.nil,List.Pairwise.nil⟩
section
variable {H:Type} {enc:TypeId×Value->H} {P:Program} {w:World}
end
end
end Go.Proofs.YtgekknefphagbaaGreatDoor
