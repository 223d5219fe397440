/- Words, numbers, bytes of a line. -/
import Derived.Test.YtphhijelneaedaaDoorYbx
import Derived.KernelRfl
namespace Go.Proofs.YtphhijelneaedaaDoor
open Go.RowKit
set_option linter.unusedSimpArgs false
set_option linter.unusedVariables false
set_option linter.unusedSectionVars false
set_option maxHeartbeats 4000000
set_option maxRecDepth 100000
section
def encK (k:YS×YS):V:=.agg [.str k.1, .str k.2]
theorem kinds_is:kindsY.map encK=[.agg [.str [111,112,101,110], .str [110,99]], .agg [.str [98,121,116,101,115], .str [110,99,120]], .agg [.str [108,111,115,116], .str [110,99]], .agg [.str [116,105,99,107], .str []], .agg [.str [97,114,114,105,118,101], .str [107]], .agg [.str [116,119,105,99,101], .str [107]], .agg [.str [100,114,111,112], .str [107]], .agg [.str [99,114,97,115,104], .str [110]], .agg [.str [115,116,97,114,116], .str [110]], .agg [.str [115,112,108,105,116], .str [107]]]:=rfl
abbrev LYS:=List YS
theorem bs_getY (s:List UInt8) (k:Nat):(bs s).get! k=s.getD k 0:=by
 unfold bs ByteArray.get!
 simp [List.getD_eq_getElem?_getD]
 rfl
theorem rune_allY {l:List UInt8} {k:Nat} (hi:k<l.length):((l.getD k 0).toNat<128/\runeAt l k=(l.getD k 0).toNat/\wideAt l k=1)\/(128<=runeAt l k/\1<=wideAt l k/\∀ j,j<wideAt l k->k+j<l.length/\128<=(l.getD (k+j) 0).toNat):=by
 unfold runeAt wideAt Utf8.decode
 simp only [Nat.add_zero,bs_getY]
 have hsz:(bs l).size=l.length:=by simp [bs,ByteArray.size]
 rw [hsz]
 rcases Nat.lt_or_ge (l.getD k 0).toNat 128 with h0 | h0
 · rw [if_pos h0];exact .inl ⟨h0,rfl,rfl⟩
 · rw [if_neg (by omega)]
   refine .inr ?_
   have one:∀ j,j<1->k+j<l.length/\128<=(l.getD (k+j) 0).toNat:=fun j hj=>by
    obtain rfl:j=0:=by omega
    exact ⟨hi,h0⟩
   have cont:∀ j,(decide (k+j<l.length)&&((l.getD (k+j) 0).toNat / 64==2))=true->k+j<l.length/\128<=(l.getD (k+j) 0).toNat:=fun j h=>by
    simp only [Bool.and_eq_true,decide_eq_true_eq,beq_iff_eq] at h
    exact ⟨h.1,by omega⟩
   split
   · rename_i hc
     simp only [Bool.and_eq_true,beq_iff_eq] at hc
     have c1:=cont 1 (by simp only [Bool.and_eq_true,beq_iff_eq];exact hc.2)
     split
     · rename_i h2
       refine ⟨by simp only;omega,by simp only;omega,fun j hj=>?_⟩
       simp only at hj
       rcases (show j=0\/j=1 by omega) with rfl | rfl
       · exact ⟨hi,h0⟩
       · exact c1
     · exact ⟨by decide,by decide,one⟩
   · split
     · rename_i hc
       simp only [Bool.and_eq_true,beq_iff_eq] at hc
       have c1:=cont 1 (by simp only [Bool.and_eq_true,beq_iff_eq];exact hc.1.2)
       have c2:=cont 2 (by simp only [Bool.and_eq_true,beq_iff_eq];exact hc.2)
       split
       · rename_i h2
         simp only [Bool.and_eq_true,decide_eq_true_eq] at h2
         refine ⟨by simp only;omega,by simp only;omega,fun j hj=>?_⟩
         simp only at hj
         rcases (show j=0\/j=1\/j=2 by omega) with rfl | rfl | rfl
         · exact ⟨hi,h0⟩
         · exact c1
         · exact c2
       · exact ⟨by decide,by decide,one⟩
     · split
       · rename_i hc
         simp only [Bool.and_eq_true,beq_iff_eq] at hc
         have c1:=cont 1 (by simp only [Bool.and_eq_true,beq_iff_eq];exact hc.1.1.2)
         have c2:=cont 2 (by simp only [Bool.and_eq_true,beq_iff_eq];exact hc.1.2)
         have c3:=cont 3 (by simp only [Bool.and_eq_true,beq_iff_eq];exact hc.2)
         split
         · rename_i h2
           simp only [Bool.and_eq_true,decide_eq_true_eq] at h2
           refine ⟨by simp only;omega,by simp only;omega,fun j hj=>?_⟩
           simp only at hj
           rcases (show j=0\/j=1\/j=2\/j=3 by omega) with rfl | rfl | rfl | rfl
           · exact ⟨hi,h0⟩
           · exact c1
           · exact c2
           · exact c3
         · exact ⟨by decide,by decide,one⟩
       · exact ⟨by decide,by decide,one⟩
theorem wide_pos {l:List UInt8} {k:Nat} (hk:k<l.length):1<=wideAt l k:=by
 rcases rune_allY hk with ⟨_,_,h⟩ | ⟨_,h,_⟩<;>omega
def partR (r:Int):Bool:=(decide (97<=r)&&decide (r<=122))||((decide (48<=r)&&decide (r<=57))||decide (r=45))
theorem partR_b (c:UInt8):partR ((c.toNat:Nat):Int)=isPart c:=by
 unfold partR isPart
 have e:∀ n:Nat,decide ((n:Int)<=((c.toNat:Nat):Int))=decide (n<=c.toNat):=fun n=>by simp only [Int.ofNat_le]
 have e':∀ n:Nat,decide (((c.toNat:Nat):Int)<=(n:Int))=decide (c.toNat<=n):=fun n=>by simp only [Int.ofNat_le]
 have e2:decide (((c.toNat:Nat):Int)=45)=decide (c.toNat=45):=by
  rw [decide_eq_decide];omega
 rw [show (97:Int)=((97:Nat):Int) from rfl,show (122:Int)=((122:Nat):Int) from rfl,show (48:Int)=((48:Nat):Int) from rfl,show (57:Int)=((57:Nat):Int) from rfl,e,e,e',e',e2]
theorem partR_big {r:Int} (h:128<=r):partR r=false:=by
 unfold partR
 rw [decide_eq_false (by omega:¬ r<=122),decide_eq_false (by omega:¬ r<=57),decide_eq_false (by omega:¬ r=45)];simp
theorem part_big {c:UInt8} (h:128<=c.toNat):isPart c=false:=by
 unfold isPart
 rw [decide_eq_false (by omega:¬ c.toNat<=122),decide_eq_false (by omega:¬ c.toNat<=57),decide_eq_false (by omega:¬ c.toNat=45)];simp
theorem drop_consY {l:YS} {k:Nat} (h:k<l.length):l.drop k=l.getD k 0::l.drop (k+1):=by
 rw [List.drop_eq_getElem_cons h,List.getD_eq_getElem?_getD,List.getElem?_eq_getElem h];rfl
def curY (l:YS) (fr:Int) (k:Nat):YS:=if fr<0 then [] else (l.take k).drop fr.toNat
structure WI (l:YS) (out:List YS) (fr:Int) (k:Nat):Prop where
 lo : -1<=fr
 hi:fr<k
 le:k<=l.length
 eq:out++sw (curY l fr k) (l.drop k)=sw [] l
 len:out.length<=k
theorem WI.zero (l:YS):WI l [] (-1) 0:=⟨by decide,by decide,Nat.zero_le _,rfl,Nat.le_refl _⟩
theorem skip_big {l:YS}:∀ (w k:Nat),(∀ j,j<w->k+j<l.length/\128<=(l.getD (k+j) 0).toNat)->sw [] (l.drop k)=sw [] (l.drop (k+w))
 | 0,k,_=>rfl
 | w+1,k,h=>by
  have h0:=h 0 (by omega)
  rw [Nat.add_zero] at h0
  rw [drop_consY h0.1,sw_gap (part_big h0.2),skip_big w (k+1) fun j hj=>by have:=h (j+1) (by omega);rwa [show k+(j+1)=k+1+j by omega] at this,show k+1+w=k+(w+1) by omega]
theorem cur_ne {l:YS} {fr:Int} {k:Nat} (h0:¬ fr<0) (h1:fr<k) (h2:k<=l.length):curY l fr k≠[]:=by
 unfold curY
 rw [if_neg h0]
 intro e
 have:=congrArg List.length e
 rw [List.length_drop,List.length_take,List.length_nil] at this
 omega
theorem WI.go {l:YS} {out:List YS} {fr:Int} {k:Nat} (h:WI l out fr k) (hk:k<l.length) :
  (partR (runeAt l k)=true/\fr<0/\WI l out k (k+wideAt l k))\/(partR (runeAt l k)=true/\0<=fr/\WI l out fr (k+wideAt l k)) \/
  (partR (runeAt l k)=false/\0<=fr/\WI l (out++[(l.take k).drop fr.toNat]) (-1) (k+wideAt l k))\/(partR (runeAt l k)=false/\fr<0/\WI l out fr (k+wideAt l k)):=by
 obtain ⟨h1,h2,h3,h4,h5⟩:=h
 rcases rune_allY hk with ⟨g0,g1,g2⟩ | ⟨g1,g2,g3⟩
 · rw [g1,partR_b,g2]
   rw [drop_consY hk] at h4
   rcases hb:isPart (l.getD k 0) with _ | _
   · by_cases hf:fr<0
     · refine .inr (.inr (.inr ⟨rfl,hf,h1,by omega,hk,?_,by omega⟩))
       have e:∀ k,curY l fr k=[]:=fun k=>by unfold curY;rw [if_pos hf]
       rw [e] at h4 ⊢
       rw [sw_gap hb] at h4;exact h4
     · refine .inr (.inr (.inl ⟨rfl,by omega,by decide,by omega,hk,?_,by rw [List.length_append];simp;omega⟩))
       rw [sw_cut hb (cur_ne hf h2 h3)] at h4
       have e1:curY l (-1) (k+1)=[]:=by unfold curY;rw [if_pos (by decide)]
       have e2:curY l fr k=(l.take k).drop fr.toNat:=by unfold curY;rw [if_neg hf]
       rw [e1,List.append_assoc,<-e2];exact h4
   · have e0:sw (curY l fr k) (l.getD k 0::l.drop (k+1))=sw (curY l fr k++[l.getD k 0]) (l.drop (k+1)):=by
      show (if isPart (l.getD k 0)=true then _ else _)=_
      rw [if_pos hb]
     rw [e0] at h4
     by_cases hf:fr<0
     · refine .inl ⟨rfl,hf,by omega,by omega,hk,?_,by omega⟩
       have e1:curY l fr k=[]:=by unfold curY;rw [if_pos hf]
       have e2:curY l (k:Int) (k+1)=[l.getD k 0]:=by
        unfold curY
        rw [if_neg (by omega),Int.toNat_natCast,List.take_add_one,List.drop_append,List.drop_of_length_le (by rw [List.length_take];omega),List.getElem?_eq_getElem hk,List.getD_eq_getElem?_getD,List.getElem?_eq_getElem hk,List.length_take,Nat.min_eq_left (by omega),Nat.sub_self]
        rfl
       rw [e1,List.nil_append] at h4
       rw [e2];exact h4
     · refine .inr (.inl ⟨rfl,by omega,h1,by omega,hk,?_,by omega⟩)
       have e2:curY l fr (k+1)=curY l fr k++[l.getD k 0]:=by
        unfold curY
        rw [if_neg hf,if_neg hf,List.take_add_one,List.drop_append,List.length_take,Nat.min_eq_left (by omega),show fr.toNat - k=0 by omega,List.getElem?_eq_getElem hk,List.getD_eq_getElem?_getD,List.getElem?_eq_getElem hk]
        rfl
       rw [e2];exact h4
 · have hle:k+wideAt l k<=l.length:=by have:=(g3 (wideAt l k - 1) (by omega)).1;omega
   rw [partR_big g1]
   by_cases hf:fr<0
   · refine .inr (.inr (.inr ⟨rfl,hf,h1,by omega,hle,?_,by omega⟩))
     have e:∀ k,curY l fr k=[]:=fun k=>by unfold curY;rw [if_pos hf]
     rw [e] at h4 ⊢
     rw [<-skip_big _ _ g3];exact h4
   · refine .inr (.inr (.inl ⟨rfl,by omega,by decide,by omega,hle,?_,by rw [List.length_append];simp;omega⟩))
     have g4:=g3 0 (by omega)
     rw [Nat.add_zero] at g4
     rw [drop_consY hk,sw_cut (part_big g4.2) (cur_ne hf h2 h3)] at h4
     have e1:curY l (-1) (k+wideAt l k)=[]:=by unfold curY;rw [if_pos (by decide)]
     have e2:curY l fr k=(l.take k).drop fr.toNat:=by unfold curY;rw [if_neg hf]
     have e3:sw [] (l.drop (k+1))=sw [] (l.drop (k+wideAt l k)):=by
      have:=skip_big (wideAt l k) k g3
      rw [drop_consY hk,sw_gap (part_big g4.2)] at this
      exact this
     rw [e1,List.append_assoc,<-e2,<-e3];exact h4
theorem WI.end_ {l:YS} {out:List YS} {fr:Int} {k:Nat} (h:WI l out fr k) (hk:¬ k<l.length):sw [] l=if fr<0 then out else out++[l.drop fr.toNat]:=by
 obtain ⟨h1,h2,h3,h4,h5⟩:=h
 have e:k=l.length:=by omega
 subst e
 rw [List.drop_of_length_le (Nat.le_refl _)] at h4
 by_cases hf:fr<0
 · have e:curY l fr l.length=[]:=by unfold curY;rw [if_pos hf]
   rw [if_pos hf,<-h4,e];simp [sw]
 · rw [if_neg hf,<-h4,sw_end (cur_ne hf h2 h3)]
   unfold curY
   rw [if_neg hf,List.take_length]
attribute [local irreducible] DW SeqD DV DOp DC DVX
theorem part_dc (r:Int) (F:Own):(True)->DC Tryd.prog 76 [.int .i32 r] (([]:Own)++F) fun d G=>d = .bool (partR r)/\G=[]++F:=by
 intro hA
 refine DC.bodyS (n_:=21) (show Tryd.prog.funcs[76]? = some Tryd.f76 by kernel_rfl) rfl rfl (by rfl) ?_
 simp only [env0,List.cons_append,List.nil_append]
 have kw:=ksIs [0,2]
 have ow:=ownIs []
 repeat' (first
  | refine g_ ?_
  | ((with_reducible refine And.intro ?_ ?_);(exact sv))
  | (refine DW.cond (by rfl) ?_ ?_<;>(first | exact i0_ | (refine ic_ ?_;intro hb)))
  | ((with_reducible refine FVg_cases ?_ ?_)<;>(intro hb;rw [hb];revert hb;(first | exact i0_ | (refine i_ ?_;intro hb))))
  | refine r_ ?_
  | refine k_ ?_
  | refine o_ ?_
  | refine f_ ?_
  | with_reducible intro b)
 all_goals first
 | ((refine ⟨_,_,le.of_eq ?_,⟨rfl,rfl⟩,SubP.refl⟩);congr 1;rw [Bool.eq_iff_iff];(simp [partR,inY]<;>omega);done)
 | (trace_state;fail)
theorem inY_dc (n:Int) (F:Own):(True)->DC Tryd.prog 50 [.int .i64 n] (([]:Own)++F) fun d G=>d = .bool (inY n)/\G=[]++F:=by
 intro hA
 refine DC.bodyS (n_:=9) (show Tryd.prog.funcs[50]? = some Tryd.f50 by kernel_rfl) rfl rfl (by rfl) ?_
 simp only [env0,List.cons_append,List.nil_append]
 have kw:=ksIs [0,2]
 have ow:=ownIs []
 repeat' (first
  | refine g_ ?_
  | ((with_reducible refine And.intro ?_ ?_);(exact sv))
  | (refine DW.cond (by rfl) ?_ ?_<;>(first | exact i0_ | (refine ic_ ?_;intro hb)))
  | ((with_reducible refine FVg_cases ?_ ?_)<;>(intro hb;rw [hb];revert hb;(first | exact i0_ | (refine i_ ?_;intro hb))))
  | refine r_ ?_
  | refine k_ ?_
  | refine o_ ?_
  | refine f_ ?_
  | with_reducible intro b)
 all_goals first
 | ((refine ⟨_,_,le.of_eq ?_,⟨rfl,rfl⟩,SubP.refl⟩);congr 1;rw [Bool.eq_iff_iff];(simp [partR,inY]<;>omega);done)
 | (trace_state;fail)
theorem digit_dc (c:UInt8) (F:Own):(True)->DC Tryd.prog 135 [.int .u8 (c.toNat:Int)] (([]:Own)++F) fun d G=>d = .int .i64 (Lib.indexByte digsY c)/\G=[]++F:=by
 intro hA
 refine DC.bodyS (n_:=5) (show Tryd.prog.funcs[135]? = some Tryd.f135 by kernel_rfl) rfl rfl (by rfl) ?_
 simp only [env0,List.cons_append,List.nil_append]
 have kw:=ksIs [0,2]
 have ow:=ownIs []
 repeat' (first
  | refine g_ ?_
  | ((with_reducible refine And.intro ?_ ?_);(exact sv))
  | (refine DW.cond (by rfl) ?_ ?_<;>(first | exact i0_ | (refine ic_ ?_;intro hb)))
  | ((with_reducible refine FVg_cases ?_ ?_)<;>(intro hb;rw [hb];revert hb;(first | exact i0_ | (refine i_ ?_;intro hb))))
  | refine r_ ?_
  | refine k_ ?_
  | (refine q_ (idxb_dc _ _) ?_)
  | refine o_ ?_
  | refine f_ ?_
  | with_reducible intro b)
 (first | exact fin_ | refine finq_ ?_)
 all_goals rfl
section
attribute [local push_cast 2000] kinds_is encK
theorem kinds_dc  (F:Own):(True)->DC Tryd.prog 49 [] (([]:Own)++F) fun d G=>d = .sl (kindsY.map encK)/\G=[]++F:=by
 intro hA
 refine DC.bodyS (n_:=12) (show Tryd.prog.funcs[49]? = some Tryd.f49 by kernel_rfl) rfl rfl (by rfl) ?_
 simp only [env0,List.cons_append,List.nil_append]
 have kw:=ksIs [0]
 have ow:=ownIs []
 repeat' (first
  | refine g_ ?_
  | ((with_reducible refine And.intro ?_ ?_);(exact sv))
  | (refine DW.cond (by rfl) ?_ ?_<;>(first | exact i0_ | (refine ic_ ?_;intro hb)))
  | ((with_reducible refine FVg_cases ?_ ?_)<;>(intro hb;rw [hb];revert hb;(first | exact i0_ | (refine i_ ?_;intro hb))))
  | refine r_ ?_
  | refine k_ ?_
  | refine o_ ?_
  | refine f_ ?_
  | with_reducible intro b)
 (first | exact fin_ | refine finq_ ?_)
 all_goals rfl
end
end
end Go.Proofs.YtphhijelneaedaaDoor
