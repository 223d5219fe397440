/- Names and filters of any bytes: just as the document says. -/
import Derived.Test.YtgekknefphagbaaGreatDoorPv1x
import Derived.Test.YtgekknefphagbaaGreatDoorPthx
import Derived.Test.YtgekknefphagbaaGreatDoorLpx
import Derived.KernelRfl
import Derived.Shelf.Strings.Split
namespace Go.Proofs.YtgekknefphagbaaGreatDoor
open Go.RowKit
set_option linter.unusedSimpArgs false
set_option linter.unusedVariables false
set_option linter.unusedSectionVars false
set_option maxHeartbeats 4000000
set_option maxRecDepth 100000
section
theorem drop_consW {l:List UInt8} {i:Nat} (h:i<l.length):l.drop i=l.getD i 0::l.drop (i+1):=by
 rw [List.drop_eq_getElem_cons h];simp [List.getD_eq_getElem?_getD,h]
theorem bs_getW (s:List UInt8) (k:Nat):(bs s).get! k=s.getD k 0:=by
 unfold bs ByteArray.get!
 simp [List.getD_eq_getElem?_getD]
 rfl
theorem wild_skip {l:List UInt8}:∀ {w k:Nat},(∀ j,j<w->k+j<l.length/\128<=(l.getD (k+j) 0).toNat)->wildT (l.drop k)=wildT (l.drop (k+w))
 | 0,k,_=>rfl
 | w+1,k,h=>by
  have h0:=h 0 (by omega)
  rw [Nat.add_zero] at h0
  rw [drop_consW h0.1]
  unfold wildT
  rw [List.any_cons]
  have e1:(l.getD k 0==43)=false:=by
   rw [beq_eq_false_iff_ne];intro e;rw [e] at h0;exact absurd h0.2 (by decide)
  have e2:(l.getD k 0==35)=false:=by
   rw [beq_eq_false_iff_ne];intro e;rw [e] at h0;exact absurd h0.2 (by decide)
  rw [e1,e2]
  have:=wild_skip (l:=l) (w:=w) (k:=k+1) (fun j hj=>by have:=h (j+1) (by omega);rwa [show k+(j+1)=k+1+j by omega] at this)
  unfold wildT at this
  rw [Bool.or_self,Bool.false_or,this,show k+1+w=k+(w+1) by omega]
theorem rune_all {l:List UInt8} {k:Nat} (hi:k<l.length):((l.getD k 0).toNat<128/\runeAt l k=(l.getD k 0).toNat/\wideAt l k=1)\/(128<=runeAt l k/\1<=wideAt l k/\∀ j,j<wideAt l k->k+j<l.length/\128<=(l.getD (k+j) 0).toNat):=by
 unfold runeAt wideAt Utf8.decode
 simp only [Nat.add_zero,bs_getW]
 have hsz:(bs l).size=l.length:=by simp [bs,ByteArray.size]
 rw [hsz]
 rcases Nat.lt_or_ge (l.getD k 0).toNat 128 with h0 | h0
 · rw [if_pos h0];exact .inl ⟨h0,rfl,rfl⟩
 · rw [if_neg (by omega)]
   refine .inr ?_
   have one:∀ j,j<1->k+j<l.length/\128<=(l.getD (k+j) 0).toNat:=fun j hj=>by
    obtain rfl:j=0:=by omega
    exact ⟨hi,h0⟩
   have cont:∀ j,(decide (k+j<l.length)&&((l.getD (k+j) 0).toNat / 64==2))=true->k+j<l.length/\128<=(l.getD (k+j) 0).toNat:=fun j h=>by
    simp only [Bool.and_eq_true,decide_eq_true_eq,beq_iff_eq] at h
    exact ⟨h.1,by omega⟩
   split
   · rename_i hc
     simp only [Bool.and_eq_true,beq_iff_eq] at hc
     have c1:=cont 1 (by simp only [Bool.and_eq_true,beq_iff_eq];exact hc.2)
     split
     · rename_i h2
       refine ⟨by simp only;omega,by simp only;omega,fun j hj=>?_⟩
       simp only at hj
       rcases (show j=0\/j=1 by omega) with rfl | rfl
       · exact ⟨hi,h0⟩
       · exact c1
     · exact ⟨by decide,by decide,one⟩
   · split
     · rename_i hc
       simp only [Bool.and_eq_true,beq_iff_eq] at hc
       have c1:=cont 1 (by simp only [Bool.and_eq_true,beq_iff_eq];exact hc.1.2)
       have c2:=cont 2 (by simp only [Bool.and_eq_true,beq_iff_eq];exact hc.2)
       split
       · rename_i h2
         simp only [Bool.and_eq_true,decide_eq_true_eq] at h2
         refine ⟨by simp only;omega,by simp only;omega,fun j hj=>?_⟩
         simp only at hj
         rcases (show j=0\/j=1\/j=2 by omega) with rfl | rfl | rfl
         · exact ⟨hi,h0⟩
         · exact c1
         · exact c2
       · exact ⟨by decide,by decide,one⟩
     · split
       · rename_i hc
         simp only [Bool.and_eq_true,beq_iff_eq] at hc
         have c1:=cont 1 (by simp only [Bool.and_eq_true,beq_iff_eq];exact hc.1.1.2)
         have c2:=cont 2 (by simp only [Bool.and_eq_true,beq_iff_eq];exact hc.1.2)
         have c3:=cont 3 (by simp only [Bool.and_eq_true,beq_iff_eq];exact hc.2)
         split
         · rename_i h2
           simp only [Bool.and_eq_true,decide_eq_true_eq] at h2
           refine ⟨by simp only;omega,by simp only;omega,fun j hj=>?_⟩
           simp only at hj
           rcases (show j=0\/j=1\/j=2\/j=3 by omega) with rfl | rfl | rfl | rfl
           · exact ⟨hi,h0⟩
           · exact c1
           · exact c2
           · exact c3
         · exact ⟨by decide,by decide,one⟩
       · exact ⟨by decide,by decide,one⟩
theorem wild_all {l:List UInt8} {k:Nat}:(l.length<=k/\wildT (l.drop k)=false)\/(k<l.length/\1<=wideAt l k/\k+wideAt l k<=l.length/\wildT (l.drop k)=(((runeAt l k:Int)==43||(runeAt l k:Int)==35)||wildT (l.drop (k+wideAt l k)))):=by
 rcases Nat.lt_or_ge k l.length with hi | hi
 · refine .inr ⟨hi,?_⟩
   rcases rune_all hi with ⟨h0,h1,h2⟩ | ⟨h1,h2,h3⟩
   · rw [h1,h2]
     refine ⟨Nat.le_refl _,by omega,?_⟩
     rw [drop_consW hi]
     unfold wildT
     rw [List.any_cons]
     congr 1
     have q (n:UInt8):(l.getD k 0==n)=(((l.getD k 0).toNat:Int)==(n.toNat:Int)):=by
      rw [Bool.eq_iff_iff]
      simp only [beq_iff_eq]
      constructor
      · intro e;rw [e]
      · intro e;exact UInt8.toNat_inj.1 (by omega)
     rw [q 43,q 35]
     rfl
   · have h4:=(h3 (wideAt l k - 1) (by omega)).1
     refine ⟨h2,by omega,?_⟩
     have e1:((runeAt l k:Int)==43)=false:=by rw [beq_eq_false_iff_ne];omega
     have e2:((runeAt l k:Int)==35)=false:=by rw [beq_eq_false_iff_ne];omega
     rw [e1,e2,wild_skip h3];rfl
 · refine .inl ⟨hi,?_⟩
   rw [List.drop_of_length_le hi];rfl
def spl:Str->List Str
 | []=>[[]]
 | c::l=>if c=47 then []::spl l else (c::(spl l).headD [])::(spl l).tail
theorem spl_cons (l:Str):spl l=(spl l).headD []::(spl l).tail:=by
 cases l with
 | nil=>rfl
 | cons c l=>unfold spl;split<;>rfl
theorem spl_none:∀ {l:Str},(∀ k:Nat,l[k]? ≠ some 47)->spl l=[l]
 | [],_=>rfl
 | c::l,h=>by
  have h0:c≠47:=fun e=>h 0 (by simp [e])
  unfold spl;rw [if_neg h0,spl_none fun k=>by have:=h (k+1);simpa using this];rfl
theorem spl_hit:∀ {l:Str} {i:Nat},l[i]? = some 47->(∀ k:Nat,k<i->l[k]? ≠ some 47)->spl l=l.take i::spl (l.drop (i+1))
 | [],i,h,_=>by simp at h
 | c::l,0,h,_=>by
  have:c=47:=by simpa using h
  conv=>lhs;unfold spl
  rw [if_pos this];simp
 | c::l,i+1,h,h2=>by
  have h0:c≠47:=fun e=>h2 0 (by omega) (by simp [e])
  have ih:=spl_hit (l:=l) (i:=i) (by simpa using h) fun k hk=>by have:=h2 (k+1) (by omega);simpa using this
  conv=>lhs;unfold spl
  rw [if_neg h0,ih];simp
theorem bs_ext (l:Str) (a b:Nat):(bs l).extract a b=bs ((l.take b).drop a):=by
 unfold bs
 apply ByteArray.ext
 simp [ByteArray.data_extract,List.drop_take]
theorem bs_list (l:Str):(bs l).data.toList=l:=by simp [bs]
theorem idx_slash (l:Str):Lib.indexB (bs l) (bs [47])=Lib.indexByte l 47:=by
 rw [Lib.one _ _ (by decide),bs_list];rfl
theorem levs_spl:∀ (n:Nat) (l:Str),l.length<=n->levs l=spl l:=by
 intro n
 induction n with
 | zero =>
  intro l h
  obtain rfl:l=[]:=List.length_eq_zero_iff.1 (by omega)
  rfl
 | succ n ih =>
  intro l h
  have hge:=Lib.indexByte_ge l 47
  rcases (show Lib.indexByte l 47 = -1\/0<=Lib.indexByte l 47 by omega) with hi | hi
  · have hb:Lib.indexB (bs l) (bs [47]) = -1:=by rw [idx_slash,hi]
    unfold levs
    rw [Lib.countB_miss _ _ hb,Lib.splitB_zero]
    simp only [List.map_cons,List.map_nil,bs_list]
    exact (spl_none (Lib.indexByte_none hi)).symm
  · obtain ⟨i,hi⟩:=Int.eq_ofNat_of_zero_le hi
    have hb:Lib.indexB (bs l) (bs [47])=(i:Int):=by rw [idx_slash,hi]
    obtain ⟨h1,h2⟩:=Lib.indexByte_some hi
    have hlt:i<l.length:=by
     rcases Nat.lt_or_ge i l.length with h3 | h3
     · exact h3
     · rw [List.getElem?_eq_none h3] at h1;cases h1
    have e:(bs l).extract (i+(bs [47]).size) (bs l).size=bs (l.drop (i+1)):=by
     rw [bs_ext]
     have:(bs l).size=l.length:=by simp [bs,ByteArray.size]
     rw [this,List.take_length];rfl
    have e0:(bs l).extract 0 (i+0)=bs (l.take i):=by rw [bs_ext];simp
    rw [spl_hit h1 h2,<-ih (l.drop (i+1)) (by rw [List.length_drop];omega)]
    unfold levs
    rw [Lib.countB_hit _ _ i (by decide) hb,Nat.add_comm,Lib.splitB_hit _ _ _ _ i hb,e,e0]
    simp only [List.map_cons,bs_list]
theorem fold_spl:∀ (t:Str) (acc:List Str) (x:Str),t.foldl levStep (acc++[x])=acc++((x++(spl t).headD [])::(spl t).tail)
 | [],acc,x=>by simp [spl]
 | c::t,acc,x=>by
  rw [List.foldl_cons]
  by_cases hc:(c.toNat:Int)=47
  · rw [levStep_1 hc,fold_spl t (acc++[x]) []]
    have:c=47:=UInt8.toNat_inj.1 (by have:(47:UInt8).toNat=47:=rfl;omega)
    have e:spl (c::t)=[]::spl t:=by rw [spl,if_pos this]
    rw [e]
    simp only [List.nil_append,List.headD_cons,List.tail_cons,List.append_nil,List.append_assoc,List.singleton_append]
    rw [<-spl_cons]
  · have:c≠47:=fun e=>hc (by rw [e];rfl)
    have e:spl (c::t)=(c::(spl t).headD [])::(spl t).tail:=by rw [spl,if_neg this]
    rw [levStep_2 hc,e]
    have e2:(acc++[x]).set ((acc++[x]).length - 1) ((acc++[x]).getD ((acc++[x]).length - 1) []++[c])=acc++[x++[c]]:=by
     simp [List.getD_eq_getElem?_getD]
    rw [e2,fold_spl t acc (x++[c])]
    simp
theorem lev_levs (t:Str):lev t t.length=levs t:=by
 rw [levs_spl t.length t (Nat.le_refl _)]
 unfold lev
 rw [List.take_length]
 have:=fold_spl t [] []
 simp only [List.nil_append] at this
 rw [this,<-spl_cons]
theorem hasC_any (t:Str) (c:UInt8):hasC t (c.toNat:Int)=t.any fun x=>x==c:=by
 unfold hasC anyK hasAt
 rw [Bool.eq_iff_iff,List.any_eq_true,List.any_eq_true]
 constructor
 · rintro ⟨i,hi,h⟩
   rw [List.mem_range] at hi
   refine ⟨t[i],List.getElem_mem hi,?_⟩
   simp [List.getD_eq_getElem?_getD,hi] at h
   rw [beq_iff_eq];exact UInt8.toNat_inj.1 (by omega)
 · rintro ⟨x,hx,h⟩
   obtain ⟨i,hi,rfl⟩:=List.getElem_of_mem hx
   refine ⟨i,List.mem_range.2 hi,?_⟩
   rw [beq_iff_eq] at h
   simp [List.getD_eq_getElem?_getD,hi,h]
theorem hasC_wild (t:Str):(hasC t 43||hasC t 35)=wildT t:=by
 have a:=hasC_any t 43
 have b:=hasC_any t 35
 have a:hasC t 43=_:=a
 have b:hasC t 35=_:=b
 rw [a,b]
 unfold wildT
 rw [Bool.eq_iff_iff,Bool.or_eq_true,List.any_eq_true,List.any_eq_true,List.any_eq_true]
 constructor
 · rintro (⟨x,h1,h2⟩ | ⟨x,h1,h2⟩)
   · exact ⟨x,h1,by rw [h2];rfl⟩
   · exact ⟨x,h1,by rw [h2];simp⟩
 · rintro ⟨x,h1,h2⟩
   rcases Bool.or_eq_true_iff.1 h2 with h | h
   · exact .inl ⟨x,h1,h⟩
   · exact .inr ⟨x,h1,h⟩
theorem name_eq (t:Str):nameB t=(textB t && !wildT t):=by
 unfold nameB
 rw [<-hasC_wild]
 cases textB t<;>cases hasC t 43<;>cases hasC t 35<;>rfl
theorem okAt_lvl {L:List Str} {i:Nat} (h:i<L.length):okAt L i=lvlOk L i:=by
 unfold okAt lvlOk
 have e0:L.getD i default=L.getD i []:=rfl
 rw [e0]
 generalize L.getD i []=x
 by_cases h1:x=[43]
 · subst h1
   have a:hasC [43] 43=true:=by decide
   have b:hasC [43] 35=false:=by decide
   rw [a,b];simp
 · by_cases h2:x=[35]
   · subst h2
     have a:hasC [35] 43=false:=by decide
     have b:hasC [35] 35=true:=by decide
     have c:wildT [35]=true:=by decide
     rw [a,b,c]
     rw [Bool.eq_iff_iff];simp;omega
   · have e1:(x==[43])=false:=beq_eq_false_iff_ne.2 h1
     have e2:(x==[35])=false:=beq_eq_false_iff_ne.2 h2
     have e3:(x != [43])=true:=by rw [bne,e1];rfl
     have e4:(x != [35])=true:=by rw [bne,e2];rfl
     rw [e1,e2,e3,e4,<-hasC_wild]
     cases hasC x 43<;>cases hasC x 35<;>rfl
theorem filter_eq (t:Str):filterB t=(textB t&&okF (levs t)):=by
 unfold filterB okF
 rw [lev_levs]
 congr 1
 rw [Bool.eq_iff_iff]
 unfold allK
 rw [List.all_eq_true,List.all_eq_true]
 constructor
 · intro h i hi;rw [okAt_lvl (List.mem_range.1 hi)];exact h i hi
 · intro h i hi;rw [<-okAt_lvl (List.mem_range.1 hi)];exact h i hi
theorem levs_bound (l:Str):(levs l).length<=l.length+1/\∀ k,((levs l).getD k default).length<=l.length:=by
 rw [<-lev_levs]
 exact ⟨(lev_len (Nat.le_refl _)).2,fun k=>lev_bound (Nat.le_refl _) k⟩
attribute [local irreducible] DW SeqD DV DOp DC DVX DVJ textB wildT
theorem idxW_dc (l:List UInt8) (F:Own):(l.length<=1000000000)->DC Tryz.prog 253 [.str l, .fn (.func 143) [] [], .bool true] (([]:Own)++F) fun d G=>((d = .int .i64 (-1)/\wildT l=false)\/(∃ k:Nat,d = .int .i64 k/\wildT l=true))/\G=[]++F:=by
 intro hA
 have hl:=hA
 refine DC.bodyS (n_:=21) (show Tryz.prog.funcs[253]? = some Tryz.f253 by kernel_rfl) rfl rfl (by rfl) ?_
 simp only [env0,List.cons_append,List.nil_append]
 have kw:=ksIs [0,1,2,6,7,8,10,11,12,19]
 have ow:=ownIs []
 repeat' (first
  | ((with_reducible refine DW.loopB 0 (X:=Nat) (fun x=>x<=l.length/\wildT (l.drop x)=wildT l) (fun x=>[(1, .fn (.func 143) [] []),(2, .bool true),(10, .raw (.pointer (some ⟨b,0,none⟩)))]) (fun x=>.siter b l x::([]:Own)) (fun x=>l.length - x) (0) ?_ ?_ ?_);exact (⟨Nat.zero_le _,rfl⟩);(simp [Sub,get,keepL]<;>fail);(try simp only [List.cons_append,List.nil_append]);refine pl_ ?_;intro k ⟨hk,hwk⟩;(try simp only [List.cons_append,List.nil_append]);rcases wild_all (l:=l) (k:=k) with ⟨q0,q1⟩ | ⟨q0,q1,q2,q4⟩)
  | refine g_ ?_
  | ((with_reducible refine And.intro ?_ ?_);(exact sv))
  | (refine DW.cond (by rfl) ?_ ?_<;>(first | exact i0_ | (refine ic_ ?_;intro hb)))
  | ((with_reducible refine FVg_cases ?_ ?_)<;>(intro hb;rw [hb];revert hb;(first | exact i0_ | (refine i_ ?_;intro hb))))
  | ((refine Both.imp ?_ ?_)<;>(first | exact i0_ | (refine i_ ?_;intro hb)))
  | refine r_ ?_
  | refine k_ ?_
  | (refine q_ (wildg_dc _ _) ?_)
  | refine o_ ?_
  | refine f_ ?_
  | ((refine Both.imp (fun hb=>?_) (fun hb=>?_))<;>(try (exfalso;omega)))
  | with_reducible intro b)
 all_goals first
 | ((refine ⟨_,_,le.rfl_,⟨.inl ⟨rfl,?_⟩,rfl⟩,?_⟩);(rw [<-hwk];exact q1);(exact sub_))
 | ((refine ⟨_,_,le.rfl_,⟨.inr ⟨k,rfl,?_⟩,rfl⟩,?_⟩);(rw [<-hwk,q4,hb];rfl);(exact sub_))
 | (refine ⟨k+wideAt l k,?_,?_,?_,?_⟩;((exact ⟨q2,by rw [<-hwk,q4,hb];rfl⟩));(omega);(simp [Sub,get]<;>(fail));(try dsimp only);(exact sub_);done)
theorem idxfW_dc (l:List UInt8) (F:Own):(l.length<=1000000000)->DC Tryz.prog 207 [.str l, .fn (.func 143) [] []] (([]:Own)++F) fun d G=>((d = .int .i64 (-1)/\wildT l=false)\/(∃ k:Nat,d = .int .i64 k/\wildT l=true))/\G=[]++F:=by
 intro hA
 have hl:=hA
 refine DC.bodyS (n_:=8) (show Tryz.prog.funcs[207]? = some Tryz.f207 by kernel_rfl) rfl rfl (by rfl) ?_
 simp only [env0,List.cons_append,List.nil_append]
 have kw:=ksIs [0,1,4]
 have ow:=ownIs []
 repeat' (first
  | refine g_ ?_
  | ((with_reducible refine And.intro ?_ ?_);(exact sv))
  | (refine DW.cond (by rfl) ?_ ?_<;>(first | exact i0_ | (refine ic_ ?_;intro hb)))
  | ((with_reducible refine FVg_cases ?_ ?_)<;>(intro hb;rw [hb];revert hb;(first | exact i0_ | (refine i_ ?_;intro hb))))
  | refine r_ ?_
  | refine k_ ?_
  | (refine p_ (idxW_dc _ _) ?_;rintro d H1 ⟨⟨rfl,hw⟩ | ⟨k,rfl,hw⟩,rfl⟩<;>refine s_ ?_)
  | refine o_ ?_
  | refine f_ ?_
  | with_reducible intro b)
 all_goals first
 | ((refine ⟨_,_,le.rfl_,⟨.inl ⟨rfl,hw⟩,rfl⟩,?_⟩);(exact sub_))
 | ((refine ⟨_,_,le.rfl_,⟨.inr ⟨_,rfl,hw⟩,rfl⟩,?_⟩);(exact sub_))
theorem conW_dc (l:List UInt8) (F:Own):(l.length<=1000000000)->DC Tryz.prog 157 [.str l, .fn (.func 143) [] []] (([]:Own)++F) fun d G=>d = .bool (wildT l)/\G=[]++F:=by
 intro hA
 have hl:=hA
 refine DC.bodyS (n_:=9) (show Tryz.prog.funcs[157]? = some Tryz.f157 by kernel_rfl) rfl rfl (by rfl) ?_
 simp only [env0,List.cons_append,List.nil_append]
 have kw:=ksIs [0,1,4]
 have ow:=ownIs []
 repeat' (first
  | refine g_ ?_
  | ((with_reducible refine And.intro ?_ ?_);(exact sv))
  | (refine DW.cond (by rfl) ?_ ?_<;>(first | exact i0_ | (refine ic_ ?_;intro hb)))
  | ((with_reducible refine FVg_cases ?_ ?_)<;>(intro hb;rw [hb];revert hb;(first | exact i0_ | (refine i_ ?_;intro hb))))
  | refine r_ ?_
  | refine k_ ?_
  | (refine p_ (idxfW_dc _ _) ?_;rintro d H1 ⟨⟨rfl,hw⟩ | ⟨k,rfl,hw⟩,rfl⟩<;>refine s_ ?_)
  | refine o_ ?_
  | refine f_ ?_
  | with_reducible intro b)
 all_goals first
 | ((refine ⟨_,_,le.of_eq ?_,⟨rfl,rfl⟩,?_⟩);(rw [hw];first | rfl | (congr 1;exact decide_eq_true (by omega)) | (congr 1;exact decide_eq_false (by omega)));(exact sub_))
theorem nameA_dc (l:List UInt8) (F:Own):(l.length<=1000000000)->DC Tryz.prog 82 [.str l] ([knF,knA]++F) fun d G=>d = .bool (nameB l)/\G=[knF,knA]++F:=by
 intro hA
 have hl:=hA
 refine DC.bodyS (n_:=14) (show Tryz.prog.funcs[82]? = some Tryz.f82 by kernel_rfl) rfl rfl (by rfl) ?_
 simp only [env0,List.cons_append,List.nil_append]
 have kw:=ksIs [0,2,4,6,7,8,11]
 have ow:=ownIs []
 repeat' (first
  | ((with_reducible refine DW.loopB 0 (X:=Nat) (fun x=>x<=l.length/\wildT (l.drop x)=wildT l) (fun x=>[(0, .str l),(6, .raw (.pointer (some ⟨b,0,none⟩)))]) (fun x=>[.siter b l x,knF,knA]) (fun x=>l.length - x) (0) ?_ ?_ ?_);exact (⟨Nat.zero_le _,rfl⟩);(simp [Sub,get,keepL]<;>fail);(try simp only [List.cons_append,List.nil_append]);refine pl_ ?_;intro k ⟨hk,hwk⟩;(try simp only [List.cons_append,List.nil_append]);rcases wild_all (l:=l) (k:=k) with ⟨q0,q1⟩ | ⟨q0,q1,q2,q4⟩)
  | refine g_ ?_
  | ((with_reducible refine And.intro ?_ ?_);(exact sv))
  | (refine DW.cond (by rfl) ?_ ?_<;>(first | exact i0_ | (refine ic_ ?_;intro hb)))
  | ((with_reducible refine FVg_cases ?_ ?_)<;>(intro hb;rw [hb];revert hb;(first | exact i0_ | (refine i_ ?_;intro hb))))
  | ((refine Both.imp ?_ ?_)<;>(first | exact i0_ | (refine i_ ?_;intro hb)))
  | refine r_ ?_
  | refine k_ ?_
  | ((first | refine q_ (wildg_dc _ _) ?_ | refine q_ (textA_dc _ _) ?_))
  | refine o_ ?_
  | refine f_ ?_
  | ((refine Both.imp (fun hb=>?_) (fun hb=>?_))<;>(try (exfalso;omega)))
  | with_reducible intro b)
 all_goals first
 | ((refine ⟨_,_,le.of_eq ?_,⟨rfl,rfl⟩,?_⟩);(rw [name_eq,<-hwk,q1];simp);(exact sub_))
 | ((refine ⟨_,_,le.of_eq ?_,⟨rfl,rfl⟩,?_⟩);(rw [name_eq,<-hwk,q4,hb];simp);(exact sub_))
 | (refine ⟨k+wideAt l k,?_,?_,?_,?_⟩;((exact ⟨q2,by rw [<-hwk,q4,hb];rfl⟩));(omega);(simp [Sub,get]<;>(fail));(try dsimp only);(exact sub_);done)
theorem sv_filterA_dc {p:Prop} (h:p:=by first | exact sv | (have hq:=hlb2 k;omega) | fail):p:=h
theorem filterA_dc (m:Int) (l:List UInt8) (F:Own):(l.length<=2000000)->DC Tryz.prog 94 [.str l] ([knF,knA,knM m]++F) fun d G=>d = .bool (filterB l)/\G=[knF,knA,knM m]++F:=by
 intro hA
 have hl:=hA
 refine DC.bodyS (n_:=37) (show Tryz.prog.funcs[94]? = some Tryz.f94 by kernel_rfl) rfl rfl (by rfl) ?_
 simp only [env0,List.cons_append,List.nil_append]
 have kw:=ksIs [0,2,3,4,5,8,11,12,13,14,35]
 have ow:=ownIs []
 have hlb1:=(levs_bound l).1
 have hlb2:=(levs_bound l).2
 repeat' (first
  | ((with_reducible refine DW.loopB 0 (X:=Nat) (fun x=>x<=(levs l).length/\∀ i,i<x->okAt (levs l) i=true) (fun x=>[(3, .sl ((levs l).map V.str)),(11, .sl ((levs l).map V.str)),(12, .int .i64 ((levs l).length:Int)),(13, .int .i64 x)]) (fun x=>[knF,knA,knM m]) (fun x=>(levs l).length - x) (0) ?_ ?_ ?_);exact (⟨Nat.zero_le _,fun i h=>absurd h (Nat.not_lt_zero _)⟩);(simp [Sub,get,keepL]<;>fail);(try simp only [List.cons_append,List.nil_append]);refine pl_ ?_;intro k ⟨hk,hok⟩;(try simp only [List.cons_append,List.nil_append]))
  | refine g_ ?_
  | ((with_reducible refine And.intro ?_ ?_);(exact sv_filterA_dc))
  | (refine DW.cond (by rfl) ?_ ?_<;>(first | exact i0_ | (refine ic_ ?_;intro hb)))
  | ((with_reducible refine FVg_cases ?_ ?_)<;>(intro hb;rw [hb];revert hb;(first | exact i0_ | (refine i_ ?_;intro hb))))
  | refine r_ ?_
  | refine k_ ?_
  | ((first | refine q_ (textA_dc _ _) ?_ (ha:=by exact sv_filterA_dc) | refine q_ (levelsg_dc _ _ _) ?_ (ha:=by exact sv_filterA_dc) | refine q_ (conW_dc _ _) ?_ (ha:=by exact sv_filterA_dc)))
  | refine o_ ?_
  | refine f_ ?_
  | with_reducible intro b)
 all_goals first
 | ((refine ⟨_,_,le.of_eq ?_,⟨rfl,rfl⟩,?_⟩);(rw [filter_eq,(by assumption:textB l=false)];rfl);(exact sub_))
 | ((refine ⟨_,_,le.of_eq ?_,⟨rfl,rfl⟩,?_⟩);(rw [filter_eq,(by assumption:textB l=true),okF_t fun i hi=>hok i (by omega)];rfl);(exact sub_))
 | ((refine ⟨_,_,le.of_eq ?_,⟨rfl,rfl⟩,?_⟩);(rw [filter_eq,(by assumption:textB l=true),okF_f (k:=k) (by omega) (by clear hok hlb2;unfold okAt;simp_all)];rfl);(exact sub_))
 | (refine ⟨k+1,?_,?_,?_,?_⟩;((exact ⟨by omega,ok_s hok (by clear hok hlb2;unfold okAt;simp_all)⟩));(((try simp only);omega));(simp [Sub,get]<;>(fail));(try dsimp only);(exact sub_);done)
end
section
attribute [local irreducible] DW SeqD DV DOp DC DVX
def matchB (a b:Str):Bool:=filterB a&&(nameB b && !((((b.getD 0 0).toNat:Int)==36)&&((((a.getD 0 0).toNat:Int)==43)||(((a.getD 0 0).toNat:Int)==35)))&&goesM (lev a a.length) (lev b b.length))
theorem filterB_len {t:Str} (h:filterB t=true):1<=t.length/\t.length<=65535:=by
 unfold filterB at h;simp only [Bool.and_eq_true] at h;exact textB_len h.1
attribute [local irreducible] filterB nameB lev
section
attribute [local push_cast 2000] take_str
end
section
attribute [local push_cast 2000] u8
end
end
section
theorem spl_first (c:UInt8) (l:Str):(spl (c::l)).getD 0 default=if c=47 then [] else c::(spl l).headD []:=by
 rw [show spl (c::l)=(if c=47 then []::spl l else (c::(spl l).headD [])::(spl l).tail) from rfl]
 split<;>rfl
theorem hid_first (b:Str):hidT ((levs b).getD 0 default)=(((b.getD 0 0).toNat:Int)==36):=by
 rw [levs_spl _ b (Nat.le_refl _)]
 cases b with
 | nil=>decide
 | cons c l =>
  rw [spl_first]
  unfold hidT
  have q:(((((c::l).getD 0 0).toNat:Nat):Int)==36)=(c==36):=by
   rw [Bool.eq_iff_iff];simp only [beq_iff_eq,List.getD_cons_zero]
   constructor
   · intro e;exact UInt8.toNat_inj.1 (by have:(36:UInt8).toNat=36:=rfl;omega)
   · rintro rfl;rfl
  rw [q]
  split
  · rename_i h;subst h;rfl
  · rw [Bool.eq_iff_iff];simp
theorem wild_first {a:Str} (h:okF (levs a)=true) (w:UInt8) (hw:w=43\/w=35):((levs a).getD 0 default==[w])=(((a.getD 0 0).toNat:Int)==(w.toNat:Int)):=by
 have h0:okAt (levs a) 0=true:=by
  unfold okF at h
  exact List.all_eq_true.1 h 0 (List.mem_range.2 (by rw [levs_len];omega))
 rw [levs_spl _ a (Nat.le_refl _)] at h0 ⊢
 cases a with
 | nil=>rcases hw with rfl | rfl<;>decide
 | cons c l =>
  have q:(((((c::l).getD 0 0).toNat:Nat):Int)==(w.toNat:Int))=(c==w):=by
   rw [Bool.eq_iff_iff];simp only [beq_iff_eq,List.getD_cons_zero]
   constructor
   · intro e;exact UInt8.toNat_inj.1 (by omega)
   · rintro rfl;rfl
  rw [q]
  unfold okAt at h0
  rw [spl_first] at h0 ⊢
  split
  · rename_i h1;subst h1
    rcases hw with rfl | rfl<;>decide
  · rename_i h1
    rw [if_neg h1] at h0
    by_cases hc:c=w
    · subst hc
      have hwild:wildT (c::(spl l).headD [])=true:=by unfold wildT;rw [List.any_cons];rcases hw with rfl | rfl<;>rfl
      rw [hwild] at h0
      simp only [Bool.not_true,Bool.or_false,Bool.or_eq_true,Bool.and_eq_true,beq_iff_eq] at h0
      have:(spl l).headD []=[]:=by
       rcases h0 with h0 | ⟨h0,_⟩
       · injection h0
       · injection h0
      rw [this];simp
    · have e1:(c==w)=false:=beq_eq_false_iff_ne.2 hc
      rw [e1,beq_eq_false_iff_ne]
      intro e;injection e with e;exact hc e
theorem match_eq (a b:Str):(filterB a&&(nameB b&&matchM (levs a) (levs b)))=matchB a b:=by
 unfold matchB
 cases hf:filterB a with
 | false=>rfl
 | true =>
  rw [filter_eq,Bool.and_eq_true] at hf
  rw [lev_levs,lev_levs]
  unfold matchM
  rw [hid_first,wild_first hf.2 43 (.inl rfl),wild_first hf.2 35 (.inr rfl)]
  cases nameB b<;>simp
attribute [local irreducible] DW SeqD DV DOp DC DVX DVJ filterB nameB
end
end Go.Proofs.YtgekknefphagbaaGreatDoor
