/- Which topics a filter matches, as the document says; numbers held against one another. -/
import Derived.Test.YtphhijelneaedaaDoorPv3x
import Derived.KernelRfl
namespace Go.Proofs.YtphhijelneaedaaDoor
open Go.RowKit
set_option linter.unusedSimpArgs false
set_option linter.unusedVariables false
set_option linter.unusedSectionVars false
set_option maxHeartbeats 4000000
set_option maxRecDepth 100000
section
attribute [local irreducible] DW SeqD DV DOp DC DVX
def matchB (a b:Str):Bool:=filterB a&&(nameB b && !((((b.getD 0 0).toNat:Int)==36)&&((((a.getD 0 0).toNat:Int)==43)||(((a.getD 0 0).toNat:Int)==35)))&&goesM (lev a a.length) (lev b b.length))
theorem filterB_len {t:Str} (h:filterB t=true):1<=t.length/\t.length<=65535:=by
 unfold filterB at h;simp only [Bool.and_eq_true] at h;exact textB_len h.1
theorem nameB_len {t:Str} (h:nameB t=true):1<=t.length/\t.length<=65535:=by
 unfold nameB at h;simp only [Bool.and_eq_true] at h;exact textB_len h.1.1
theorem levl_len (t:Str):(lev t t.length).length<=t.length+1:=(lev_len (Nat.le_refl _)).2
attribute [local irreducible] filterB nameB lev
theorem rgoes0_dc (b:List (List UInt8)) (F:Own):(b.length<=1000000000)->DC Tryd.prog 75 [.sl [], .sl (b.map V.str)] (([]:Own)++F) fun d G=>d = .bool (goesM [] b)/\G=[]++F:=by
 intro hA
 have hl:=hA
 refine DC.bodyS (n_:=47) (show Tryd.prog.funcs[75]? = some Tryd.f75 by kernel_rfl) rfl rfl (by rfl) ?_
 simp only [env0,List.cons_append,List.nil_append]
 have kw:=ksIs [0,1,4,13,21]
 have ow:=ownIs []
 have dw5:=drIs 5 [] [2,7,10,18]
 repeat' (first
  | refine g_ ?_
  | ((with_reducible refine And.intro ?_ ?_);(exact sv))
  | (refine DW.cond (by rfl) ?_ ?_<;>(first | exact i0_ | (refine ic_ ?_;intro hb)))
  | ((with_reducible first | refine FVg_cases ?_ ?_ | refine FDg_cases ?_ ?_)<;>(intro hb;rw [hb];revert hb;(first | exact i0_ | (refine i_ ?_;intro hb))))
  | refine r_ ?_
  | refine d_ ?_
  | refine k_ ?_
  | refine vo_ ?_
  | refine o_ ?_
  | refine f_ ?_
  | refine vm_ ?_
  | with_reducible intro b)
 all_goals first
 | ((refine ⟨_,_,le.of_eq ?_,⟨rfl,rfl⟩,?_⟩);(cases b with | nil=>rfl | cons y b=>(simp [goesM];try omega));(exact sub_))
theorem rgoes1_dc (x:List UInt8) (a:List (List UInt8)) (F:Own):(a.length<=1000000000)->DC Tryd.prog 75 [.sl (.str x::a.map V.str), .sl []] (([]:Own)++F) fun d G=>d = .bool (goesM (x::a) [])/\G=[]++F:=by
 intro hA
 have hl:=hA
 refine DC.bodyS (n_:=47) (show Tryd.prog.funcs[75]? = some Tryd.f75 by kernel_rfl) rfl rfl (by rfl) ?_
 simp only [env0,List.cons_append,List.nil_append]
 have kw:=ksIs [0,1,4,13,21]
 have ow:=ownIs []
 have dw5:=drIs 5 [] [2,7,10,18]
 repeat' (first
  | refine g_ ?_
  | ((with_reducible refine And.intro ?_ ?_);(exact sv))
  | (refine DW.cond (by rfl) ?_ ?_<;>(first | exact i0_ | (refine ic_ ?_;intro hb)))
  | ((with_reducible first | refine FVg_cases ?_ ?_ | refine FDg_cases ?_ ?_)<;>(intro hb;rw [hb];revert hb;(first | exact i0_ | (refine i_ ?_;intro hb))))
  | refine r_ ?_
  | refine d_ ?_
  | refine k_ ?_
  | refine vo_ ?_
  | refine o_ ?_
  | refine f_ ?_
  | refine vm_ ?_
  | with_reducible intro b)
 all_goals first
 | ((have e1:((a.length:Int)+1==0)=false:=beq_eq_false_iff_ne.2 (by omega));(refine ⟨_,_,le.of_eq ?_,⟨rfl,rfl⟩,?_⟩);(focus (simp_all [goesM];done));(exact sub_))
 | ((have e1:((a.length:Int)+1==0)=false:=beq_eq_false_iff_ne.2 (by omega));(have e2:(x==[35])=false:=beq_eq_false_iff_ne.2 (by assumption));(refine ⟨_,_,le.of_eq ?_,⟨rfl,rfl⟩,?_⟩);(focus (rw [e1,goesM,e2];rfl));(exact sub_))
 | ((obtain rfl:x=[35]:=by assumption);(refine ⟨_,_,le.of_eq ?_,⟨rfl,rfl⟩,?_⟩);(focus rfl);(exact sub_))
section
attribute [local push_cast 2000] take_str
theorem rgoes2_dc (x y:List UInt8) (a b:List (List UInt8)) (F:Own):((∀ F:Own,True->DC Tryd.prog 75 [.sl (a.map V.str), .sl (b.map V.str)] (([]:Own)++F) fun d G=>d = .bool (goesM a b)/\G=[]++F)/\(a.length<=1000000000/\b.length<=1000000000))->DC Tryd.prog 75 [.sl (.str x::a.map V.str), .sl (.str y::b.map V.str)] (([]:Own)++F) fun d G=>d = .bool (goesM (x::a) (y::b))/\G=[]++F:=by
 intro hA
 obtain ⟨hcl,hla,hlb⟩:=hA
 refine DC.bodyS (n_:=47) (show Tryd.prog.funcs[75]? = some Tryd.f75 by kernel_rfl) rfl rfl (by rfl) ?_
 simp only [env0,List.cons_append,List.nil_append]
 have kw:=ksIs [0,1,4,13,21]
 have ow:=ownIs []
 have dw5:=drIs 5 [] [2,7,10,18]
 repeat' (first
  | refine g_ ?_
  | ((with_reducible refine And.intro ?_ ?_);(exact sv))
  | (refine DW.cond (by rfl) ?_ ?_<;>(first | exact i0_ | (refine ic_ ?_;intro hb)))
  | ((with_reducible first | refine FVg_cases ?_ ?_ | refine FDg_cases ?_ ?_)<;>(intro hb;rw [hb];revert hb;(first | exact i0_ | (refine i_ ?_;intro hb))))
  | refine r_ ?_
  | refine d_ ?_
  | refine k_ ?_
  | ((refine dm_ ?_);(first | (refine v_ (hcl _) ?_)))
  | refine vo_ ?_
  | (refine q_ (hcl _) ?_)
  | refine o_ ?_
  | refine f_ ?_
  | refine vm_ ?_
  | with_reducible intro b)
 all_goals first
 | ((refine ⟨_,_,le.of_eq ?_,⟨rfl,rfl⟩,?_⟩);(simp_all [goesM]);(exact sub_))
end
theorem rgoes_dc:∀ (a b:List (List UInt8)) (F:Own),(a.length<=1000000000/\b.length<=1000000000)->DC Tryd.prog 75 [.sl (a.map V.str), .sl (b.map V.str)] (([]:Own)++F) fun d G=>d = .bool (goesM a b)/\G=[]++F
 | [],b,F,h=>rgoes0_dc b F h.2
 | x::a,[],F,h=>rgoes1_dc x a F (by have:=h.1;simp only [List.length_cons] at this;omega)
 | x::a,y::b,F,h=>by
  obtain ⟨h1,h2⟩:=h
  simp only [List.length_cons] at h1 h2
  exact rgoes2_dc x y a b F ⟨fun F _=>rgoes_dc a b F ⟨by omega,by omega⟩,by omega,by omega⟩
theorem lev2_dc (t:Str) (F:Own):(t.length<=65535)->DC Tryd.prog 65 [.str t] (([]:Own)++F) fun d G=>d = .sl ((lev t t.length).map V.str)/\G=[]++F:=levels_dc t F
theorem sv_rmatch_dc {p:Prop} (h:p:=by first | exact sv | exact ⟨Nat.le_trans (levl_len a) (by omega),Nat.le_trans (levl_len b) (by omega)⟩ | (have hq:=nameB_len (by assumption);omega) | (have hq:=filterB_len (by assumption);omega) | fail):p:=h
section
attribute [local push_cast 2000] u8
theorem rmatch_dc (a b:Str) (F:Own):(a.length<=65535/\b.length<=65535)->DC Tryd.prog 44 [.str a, .str b] (([]:Own)++F) fun d G=>d = .bool (matchB a b)/\G=[]++F:=by
 intro hA
 obtain ⟨hla,hlb⟩:=hA
 refine DC.bodyS (n_:=33) (show Tryd.prog.funcs[44]? = some Tryd.f44 by kernel_rfl) rfl rfl (by rfl) ?_
 simp only [env0,List.cons_append,List.nil_append]
 have kw:=ksIs [0,1,4,27]
 have ow:=ownIs []
 repeat' (first
  | refine g_ ?_
  | ((with_reducible refine And.intro ?_ ?_);(exact sv_rmatch_dc))
  | (refine DW.cond (by rfl) ?_ ?_<;>(first | exact i0_ | (refine ic_ ?_;intro hb)))
  | ((with_reducible refine FVg_cases ?_ ?_)<;>(intro hb;rw [hb];revert hb;(first | exact i0_ | (refine i_ ?_;intro hb))))
  | refine r_ ?_
  | refine k_ ?_
  | ((first | refine q_ (rfilter_dc _ _) ?_ (ha:=by exact sv_rmatch_dc) | refine q_ (rname_dc _ _) ?_ (ha:=by exact sv_rmatch_dc) | refine q_ (lev2_dc _ _) ?_ (ha:=by exact sv_rmatch_dc) | refine q_ (rgoes_dc _ _ _) ?_ (ha:=by exact sv_rmatch_dc)))
  | refine o_ ?_
  | refine f_ ?_
  | with_reducible intro b)
 all_goals first
 | ((refine ⟨_,_,le.of_eq ?_,⟨rfl,rfl⟩,?_⟩);(focus (unfold matchB;simp_all;done));(exact sub_);done)
 | ((refine ⟨_,_,le.of_eq ?_,⟨rfl,rfl⟩,?_⟩);(focus (unfold matchB;simp_all;omega));(exact sub_);done)
end
end
section
theorem spl_first (c:UInt8) (l:Str):(spl (c::l)).getD 0 default=if c=47 then [] else c::(spl l).headD []:=by
 rw [show spl (c::l)=(if c=47 then []::spl l else (c::(spl l).headD [])::(spl l).tail) from rfl]
 split<;>rfl
theorem hid_first (b:Str):hidT ((levs b).getD 0 default)=(((b.getD 0 0).toNat:Int)==36):=by
 rw [levs_spl _ b (Nat.le_refl _)]
 cases b with
 | nil=>decide
 | cons c l =>
  rw [spl_first]
  unfold hidT
  have q:(((((c::l).getD 0 0).toNat:Nat):Int)==36)=(c==36):=by
   rw [Bool.eq_iff_iff];simp only [beq_iff_eq,List.getD_cons_zero]
   constructor
   · intro e;exact UInt8.toNat_inj.1 (by have:(36:UInt8).toNat=36:=rfl;omega)
   · rintro rfl;rfl
  rw [q]
  split
  · rename_i h;subst h;rfl
  · rw [Bool.eq_iff_iff];simp
theorem wild_first {a:Str} (h:okF (levs a)=true) (w:UInt8) (hw:w=43\/w=35):((levs a).getD 0 default==[w])=(((a.getD 0 0).toNat:Int)==(w.toNat:Int)):=by
 have h0:okAt (levs a) 0=true:=by
  unfold okF at h
  exact List.all_eq_true.1 h 0 (List.mem_range.2 (by rw [levs_len];omega))
 rw [levs_spl _ a (Nat.le_refl _)] at h0 ⊢
 cases a with
 | nil=>rcases hw with rfl | rfl<;>decide
 | cons c l =>
  have q:(((((c::l).getD 0 0).toNat:Nat):Int)==(w.toNat:Int))=(c==w):=by
   rw [Bool.eq_iff_iff];simp only [beq_iff_eq,List.getD_cons_zero]
   constructor
   · intro e;exact UInt8.toNat_inj.1 (by omega)
   · rintro rfl;rfl
  rw [q]
  unfold okAt at h0
  rw [spl_first] at h0 ⊢
  split
  · rename_i h1;subst h1
    rcases hw with rfl | rfl<;>decide
  · rename_i h1
    rw [if_neg h1] at h0
    by_cases hc:c=w
    · subst hc
      have hwild:wildT (c::(spl l).headD [])=true:=by unfold wildT;rw [List.any_cons];rcases hw with rfl | rfl<;>rfl
      rw [hwild] at h0
      simp only [Bool.not_true,Bool.or_false,Bool.or_eq_true,Bool.and_eq_true,beq_iff_eq] at h0
      have:(spl l).headD []=[]:=by
       rcases h0 with h0 | ⟨h0,_⟩
       · injection h0
       · injection h0
      rw [this];simp
    · have e1:(c==w)=false:=beq_eq_false_iff_ne.2 hc
      rw [e1,beq_eq_false_iff_ne]
      intro e;injection e with e;exact hc e
theorem match_eq (a b:Str):(filterB a&&(nameB b&&matchM (levs a) (levs b)))=matchB a b:=by
 unfold matchB
 cases hf:filterB a with
 | false=>rfl
 | true =>
  rw [filter_eq,Bool.and_eq_true] at hf
  rw [lev_levs,lev_levs]
  unfold matchM
  rw [hid_first,wild_first hf.2 43 (.inl rfl),wild_first hf.2 35 (.inr rfl)]
  cases nameB b<;>simp
attribute [local irreducible] DW SeqD DV DOp DC DVX DVJ filterB nameB
end
end Go.Proofs.YtphhijelneaedaaDoor
