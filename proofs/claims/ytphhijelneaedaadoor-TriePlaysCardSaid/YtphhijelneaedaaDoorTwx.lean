/- The trie: the document's pairs. -/
import Derived.Test.YtphhijelneaedaaDoorTnx
import Derived.Test.YtphhijelneaedaaDoorRf2x
import Derived.KernelRfl
namespace Go.Proofs.YtphhijelneaedaaDoor
open Go.RowKit
set_option linter.unusedSimpArgs false
set_option linter.unusedVariables false
set_option linter.unusedSectionVars false
set_option maxHeartbeats 4000000
set_option maxRecDepth 100000
section
def encP (e:(Str×Str)×Int):V:=.agg [.str e.1.1, .str e.1.2, .int .i64 e.2]
theorem encP_n (L:TL):∀ y∈L.map encP,y.n=3:=fun y hy=>by obtain ⟨x,_,rfl⟩:=List.mem_map.1 hy;rfl
theorem cells_pl (L:TL):(cells (L.map encP)).length=L.length * 3:=by rw [cells_len _ (encP_n L),List.length_map]
theorem cells_pk {L:TL} {k j:Nat} (h:k<L.length) (hj:j<3):(cells (L.map encP)).getD (k * 3+j) .any=(encP (L.getD k default)).cell j:=by
 rw [cells_at (sz:=3) _ k j (encP_n L) (by rw [List.length_map];exact h) hj]
 simp [List.getD_eq_getElem?_getD,h]
theorem cells_p0 {L:TL} {k:Nat} (h:k<L.length):(cells (L.map encP)).getD (k * 3) .any = .str (L.getD k default).1.1:=cells_pk (j:=0) h (by decide)
theorem cells_p1 {L:TL} {k:Nat} (h:k<L.length):(cells (L.map encP)).getD (k * 3+1) .any = .str (L.getD k default).1.2:=cells_pk (j:=1) h (by decide)
theorem cells_p2 {L:TL} {k:Nat} (h:k<L.length):(cells (L.map encP)).getD (k * 3+2) .any = .int .i64 (L.getD k default).2:=cells_pk (j:=2) h (by decide)
theorem cells_p:∀ (L:TL) (k:Nat),k<L.length->List.take 3 (List.drop (k * 3) (cells (L.map encP)))=[.str (L.getD k default).1.1, .str (L.getD k default).1.2, .int .i64 (L.getD k default).2]
 | [],k,h=>absurd h (Nat.not_lt_zero _)
 | d::l,0,_=>rfl
 | d::l,k+1,h=>by
  have:=cells_p l k (by simpa using h)
  rw [List.getD_cons_succ,<-this]
  show List.take 3 (List.drop ((k+1) * 3) ([V.str d.1.1, .str d.1.2, .int .i64 d.2]++cells (l.map encP)))=_
  rw [show (k+1) * 3=([V.str d.1.1, .str d.1.2, .int .i64 d.2]:List V).length+k * 3 from by simp;omega,List.drop_append,List.drop_of_length_le (by omega),List.nil_append,Nat.add_sub_cancel_left]
theorem cells_setp:∀ (L:TL) (k:Nat) (q:Int),k<L.length->layV (cells (L.map encP)) (k * 3+2) [.int .i64 q]=cells ((L.set k ((L.getD k default).1,q)).map encP)
 | [],k,q,h=>absurd h (Nat.not_lt_zero _)
 | d::l,0,q,_=>rfl
 | d::l,k+1,q,h=>by
  have:=cells_setp l k q (by simpa using h)
  rw [List.getD_cons_succ,List.set_cons_succ,List.map_cons,List.map_cons,cells_cons,cells_cons,<-this]
  have e:(k+1) * 3+2=(encP d).cs.length+(k * 3+2):=by show _=3+_;omega
  rw [e,lay_app6]
theorem cells_ps (L:TL) (e:(Str×Str)×Int):cells (L.map encP)++[.str e.1.1, .str e.1.2, .int .i64 e.2]=cells ((L++[e]).map encP):=by
 rw [List.map_append,cells_append];rfl
theorem look_take {L:TL} {p:Str×Str} {k:Nat} (hk:k<L.length) (h:lookA p (L.take k)=none) (hne:¬ (L.getD k default).1=p):lookA p (L.take (k+1))=none:=by
 rw [List.take_add_one,List.getElem?_eq_getElem hk,lookA_app,h]
 rw [List.getD_eq_getElem?_getD,List.getElem?_eq_getElem hk] at hne
 show (if p=L[k].1 then some L[k].2 else none)=none
 rw [if_neg fun e=>hne e.symm]
theorem look_hit {L:TL} {p:Str×Str} {k:Nat} (hk:k<L.length) (h:lookA p (L.take k)=none) (he:(L.getD k default).1=p):lookA p L=some (L.getD k default).2:=by
 conv=>lhs;rw [<-List.take_append_drop k L]
 rw [List.drop_eq_getElem_cons hk,lookA_app,h,List.getD_eq_getElem?_getD,List.getElem?_eq_getElem hk]
 rw [List.getD_eq_getElem?_getD,List.getElem?_eq_getElem hk] at he
 exact if_pos he.symm
theorem upd_hit {p:Str×Str} {q:Int}:∀ {L:TL} {k:Nat},k<L.length->lookA p (L.take k)=none->(L.getD k default).1=p->updA p q L=L.set k ((L.getD k default).1,q)
 | [],k,h,_,_=>absurd h (Nat.not_lt_zero _)
 | e::L,0,_,_,he=>by
  have he:e.1=p:=he
  show (if p=e.1 then _ else _)=_
  rw [if_pos he.symm];rfl
 | e::L,k+1,hk,h,he=>by
  rw [List.take_succ_cons,lookA_cons] at h
  have hne:¬ p=e.1:=fun hp=>by rw [if_pos hp] at h;cases h
  rw [if_neg hne] at h
  show (if p=e.1 then _ else _)=_
  rw [if_neg hne,upd_hit (by simpa using hk) h he];rfl
theorem drop_hit {p:Str×Str}:∀ {L:TL} {k:Nat},k<L.length->lookA p (L.take k)=none->(L.getD k default).1=p->dropA p L=L.take k++L.drop (k+1)
 | [],k,h,_,_=>absurd h (Nat.not_lt_zero _)
 | e::L,0,_,_,he=>by
  have he:e.1=p:=he
  show (if p=e.1 then _ else _)=_
  rw [if_pos he.symm];rfl
 | e::L,k+1,hk,h,he=>by
  rw [List.take_succ_cons,lookA_cons] at h
  have hne:¬ p=e.1:=fun hp=>by rw [if_pos hp] at h;cases h
  rw [if_neg hne] at h
  show (if p=e.1 then _ else _)=_
  rw [if_neg hne,drop_hit (by simpa using hk) h he];rfl
def AtP (L:TL) (p:Str×Str) (j:Int):Prop:=(lookA p L=none/\j = -1)\/∃ i:Nat,(i<L.length/\(L.getD i default).1=p/\lookA p (L.take i)=none)/\j=i
attribute [local irreducible] DW SeqD DV DOp DC DVX
section
attribute [local push_cast 2000] cells_p0 cells_p1 cells_p2 cells_pl
theorem rat_dc (w:Nat) (v:Value) (L:TL) (f ky:Str) (F:Own):(L.length<=1000000000)->DC Tryd.prog 33 [.raw (.pointer (some ⟨w,0,none⟩)), .str f, .str ky] ([.blk w [.ar v L.length], .arr 3 v (cells (L.map encP))]++F) fun d G=>∃ j:Int,AtP L (f,ky) j/\d = .int .i64 j/\G=[.blk w [.ar v L.length], .arr 3 v (cells (L.map encP))]++F:=by
 intro hA
 have hl:=hA
 refine DC.bodyS (n_:=40) (show Tryd.prog.funcs[33]? = some Tryd.f33 by kernel_rfl) rfl rfl (by rfl) ?_
 simp only [env0,List.cons_append,List.nil_append]
 have kw:=ksIs [0,1,2,6,7,14,38]
 have ow:=ownIs []
 repeat' (first
  | ((with_reducible refine DW.loopB 0 (X:=Nat) (fun x=>x<=L.length/\lookA (f,ky) (L.take x)=none) (fun x=>[(0, .raw (.pointer (some ⟨w,0,none⟩))),(1, .str f),(2, .str ky),(7, .int .i64 x)]) (fun x=>.blk w [.ar v L.length] :: .arr 3 v (cells (L.map encP))::([]:Own)) (fun x=>L.length - x) (0) ?_ ?_ ?_);exact (⟨Nat.zero_le _,rfl⟩);(simp [Sub,get,keepL]<;>fail);(try simp only [List.cons_append,List.nil_append]);refine pl_ ?_;intro i ⟨hi,ht⟩;(try simp only [List.cons_append,List.nil_append]))
  | refine g_ ?_
  | ((with_reducible refine And.intro ?_ ?_);(exact sv))
  | (refine DW.cond (by rfl) ?_ ?_<;>(first | exact i0_ | (refine ic_ ?_;intro hb)))
  | ((with_reducible refine FVg_cases ?_ ?_)<;>(intro hb;rw [hb];revert hb;(first | exact i0_ | (refine i_ ?_;intro hb))))
  | refine r_ ?_
  | refine k_ ?_
  | refine o_ ?_
  | refine f_ ?_
  | with_reducible intro b)
 all_goals first
 | (refine ⟨_,_,le.rfl_,⟨i, .inr ⟨i,⟨by omega,?_,ht⟩,rfl⟩,rfl,rfl⟩,?_⟩;(focus (apply Prod.ext;(focus (first | assumption | simp_all));(focus (first | assumption | simp_all))));(exact sub_);done)
 | (refine ⟨i+1,⟨by omega,look_take (by omega) ht (fun e=>?_)⟩,by omega,by simp [Sub,get],?_⟩;(focus (exact hb (by rw [e])));(exact sub_);done)
 | (have e:i=L.length:=by omega
    subst e
    rw [List.take_length] at ht
    refine ⟨_,_,le.rfl_,⟨-1, .inl ⟨ht,rfl⟩,rfl,rfl⟩,?_⟩;(exact sub_);done)
 | (trace_state;fail)
end
end
section
theorem wasL_0 {L:TL} {f k:Str} (h:lookA (f,k) L=none):wasL L f k=0/\hadL L f k=false:=by unfold wasL hadL;rw [h];simp
theorem wasL_1 {L:TL} {f k:Str} {q:Int} (hf:filterB f=true) (h:lookA (f,k) L=some q):wasL L f k=q/\hadL L f k=true:=by unfold wasL hadL;rw [h,hf];simp
theorem wasL_2 {L:TL} {f k:Str} (h:filterB f=false):wasL L f k=0/\hadL L f k=false:=by unfold wasL hadL;rw [h];simp
attribute [local irreducible] DW SeqD DV DOp DC DVX filterB
theorem sv_rput_dc {p:Prop} (h:p:=by first | exact sv | exact encP_n _ | fail):p:=h
section
attribute [local push_cast 2000] cells_p2 cells_pl cells_setp
theorem rput_dc (w:Nat) (v:Value) (L:TL) (f ky:Str) (q:Int) (F:Own):(L.length<=1000000/\f.length<=1000000)->DC Tryd.prog 9 [.raw (.pointer (some ⟨w,0,none⟩)), .str f, .str ky, .int .i64 q] ([.blk w [.ar v L.length], .arr 3 v (cells (L.map encP))]++F) fun d G=>∃ v',d = .tup [.int .i64 (wasL L f ky), .bool (hadL L f ky)]/\G = .blk w [.ar v' (putL L f ky q).length] :: .arr 3 v' (cells ((putL L f ky q).map encP))::F:=by
 intro hA
 obtain ⟨hl,hf⟩:=hA
 refine DC.bodyS (n_:=51) (show Tryd.prog.funcs[9]? = some Tryd.f9 by kernel_rfl) rfl rfl (by rfl) ?_
 simp only [env0,List.cons_append,List.nil_append]
 have kw:=ksIs [0,1,2,3,8,9,10,11,14,20]
 have ow:=ownIs []
 repeat' (first
  | refine g_ ?_
  | ((with_reducible refine And.intro ?_ ?_);(exact sv_rput_dc))
  | (refine DW.cond (by rfl) ?_ ?_<;>(first | exact i0_ | (refine ic_ ?_;intro hb)))
  | ((with_reducible refine FVg_cases ?_ ?_)<;>(intro hb;rw [hb];revert hb;(first | exact i0_ | (refine i_ ?_;intro hb))))
  | refine r_ ?_
  | refine k_ ?_
  | (refine q_ (rfilter_dc _ _) ?_ (ha:=by exact sv_rput_dc))
  | (refine p_ (rat_dc _ _ _ _ _ _) ?_ (ha:=by exact sv_rput_dc);rintro d H1 ⟨j,(⟨hno,rfl⟩ | ⟨i,⟨hi,he,ht⟩,rfl⟩),rfl,rfl⟩<;>refine s_ ?_)
  | refine o_ ?_
  | refine f_ ?_
  | with_reducible intro b)
 all_goals first
 | (obtain ⟨e1,e2⟩:=wasL_2 (L:=L) (k:=ky) (by assumption:filterB f=false)
    rw [e1,e2,putL,if_neg (by rw [hb];decide)];(refine ⟨_,_,le.rfl_,⟨v,rfl,rfl⟩,?_⟩);(exact sub_);done)
 | (have hfb:filterB f=true:=by assumption
    obtain ⟨e1,e2⟩:=wasL_0 hno
    rw [e1,e2,putL,if_pos hfb,updA_new hno]
    (refine ⟨_,_,le.rfl_,⟨b,rfl,rfl⟩,?_⟩);(rw [<-cells_ps,List.length_append,List.length_singleton]);(exact sub_);done)
 | (have hfb:filterB f=true:=by assumption
    obtain ⟨e1,e2⟩:=wasL_1 hfb (look_hit hi ht he)
    rw [e1,e2,putL,if_pos hfb,upd_hit hi ht he]
    (refine ⟨_,_,le.rfl_,⟨v,rfl,rfl⟩,?_⟩);(rw [List.length_set]);(exact sub_);done)
 | (exfalso;omega)
 | (trace_state;fail)
end
end
end Go.Proofs.YtphhijelneaedaaDoor
