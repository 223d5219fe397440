/- Lines are read. -/
import Derived.Test.YtphhijelneaedaaDoorYgx
import Derived.KernelRfl
namespace Go.Proofs.YtphhijelneaedaaDoor
open Go.RowKit
set_option linter.unusedSimpArgs false
set_option linter.unusedVariables false
set_option linter.unusedSectionVars false
set_option maxHeartbeats 4000000
set_option maxRecDepth 100000
section
abbrev LEv:=List Ev
theorem sw_bound:∀ (l cur:YS),(sw cur l).length<=l.length+1/\∀ w∈sw cur l,w.length<=cur.length+l.length
 | [],cur=>by
  unfold sw
  split
  · exact ⟨Nat.zero_le _,fun w h=>nomatch h⟩
  · exact ⟨by simp,fun w h=>by rw [List.mem_singleton] at h;subst h;simp⟩
 | c::l,cur=>by
  unfold sw
  split
  · obtain ⟨h1,h2⟩:=sw_bound l (cur++[c])
    exact ⟨by rw [List.length_cons];omega,fun w h=>by have:=h2 w h;rw [List.length_append,List.length_singleton] at this;rw [List.length_cons];omega⟩
  · obtain ⟨h1,h2⟩:=sw_bound l []
    split
    · exact ⟨by rw [List.length_cons];omega,fun w h=>by have:=h2 w h;simp only [List.length_nil,List.length_cons] at *;omega⟩
    · refine ⟨by simp only [List.length_cons];omega,fun w h=>?_⟩
      rcases List.mem_cons.1 h with rfl | h
      · omega
      · have:=h2 w h;simp only [List.length_nil,List.length_cons] at *;omega
theorem splC_bound (x:UInt8):∀ l:YS,(splC x l).length<=l.length+1/\∀ w∈splC x l,w.length<=l.length
 | []=>⟨by simp [splC],fun w h=>by simp [splC] at h;subst h;simp⟩
 | c::l=>by
  obtain ⟨h1,h2⟩:=splC_bound x l
  unfold splC
  split
  · refine ⟨by simp only [List.length_cons];omega,fun w h=>?_⟩
    rcases List.mem_cons.1 h with rfl | h
    · simp
    · have:=h2 w h;simp only [List.length_cons];omega
  · rw [splC_cons] at h1 h2
    refine ⟨by simp only [List.length_cons] at *;omega,fun w h=>?_⟩
    rcases List.mem_cons.1 h with rfl | h
    · have:=h2 _ (List.mem_cons_self ..);simp only [List.length_cons];omega
    · have:=h2 w (List.mem_cons_of_mem _ h);simp only [List.length_cons];omega
theorem getD_sub {l:List YS} {n:Nat} (h:∀ w∈l,w.length<=n) (k:Nat):(l.getD k []).length<=n:=by
 by_cases hk:k<l.length
 · exact h _ (getD_inY hk)
 · rw [List.getD_eq_getElem?_getD,List.getElem?_eq_none (by omega)];exact Nat.zero_le _
theorem line_eo {l:YS} {k:Nat} (hl:l.length<=100000000) (hf:FitL (splC 10 l)) (hk:k<(splC 10 l).length) (hne:0<(sw [] ((splC 10 l).getD k default)).length):EO (sw [] ((splC 10 l).getD k default)):=by
 have h1:=(splC_bound 10 l).2 _ (getD_inY (d:=default) hk)
 obtain ⟨h2,h3⟩:=sw_bound ((splC 10 l).getD k default) []
 exact ⟨hne,hf _ (getD_inY hk) (fun e=>by rw [e] at hne;exact absurd hne (by decide)),getD_sub fun w hw=>by have:=h3 w hw;rw [List.length_nil] at this;omega,by omega⟩
theorem drop_line {ls:List YS} {k:Nat} (h:k<ls.length):ls.drop k=ls.getD k default::ls.drop (k+1):=by
 rw [List.drop_eq_getElem_cons h,List.getD_eq_getElem?_getD,List.getElem?_eq_getElem h];rfl
structure PI (ls:List YS) (k:Nat) (out:List Ev):Prop where
 le:k<=ls.length
 eq:parseY (ls.drop k) k out=parseY ls 0 []
 len:out.length<=k
theorem PI.zero (ls:List YS):PI ls 0 []:=⟨Nat.zero_le _,rfl,Nat.le_refl _⟩
theorem PI.skip {ls:List YS} {k:Nat} {out:List Ev} (h:PI ls k out) (hk:k<ls.length) (h0:sw [] (ls.getD k default)=[]):PI ls (k+1) out:=by
 refine ⟨hk,?_,Nat.le_succ_of_le h.len⟩
 have:=h.eq
 rw [drop_line hk] at this
 conv at this=>lhs;unfold parseY
 rw [if_pos h0] at this
 exact this
theorem PI.next {ls:List YS} {k:Nat} {out:List Ev} (h:PI ls k out) (hk:k<ls.length) (h0:¬ sw [] (ls.getD k default)=[]) (h1:(evY (sw [] (ls.getD k default))).2=true):PI ls (k+1) (out++[(evY (sw [] (ls.getD k default))).1]):=by
 refine ⟨hk,?_,by rw [List.length_append];simp;exact h.len⟩
 have:=h.eq
 rw [drop_line hk] at this
 conv at this=>lhs;unfold parseY
 rw [if_neg h0,if_pos h1] at this
 exact this
theorem PI.bad {ls:List YS} {k:Nat} {out:List Ev} (h:PI ls k out) (hk:k<ls.length) (h0:¬ sw [] (ls.getD k default)=[]) (h1:(evY (sw [] (ls.getD k default))).2=false):parseY ls 0 []=([],k,33):=by
 rw [<-h.eq,drop_line hk]
 conv=>lhs;unfold parseY
 rw [if_neg h0,if_neg (by rw [h1];decide)]
theorem PI.end_ {ls:List YS} {k:Nat} {out:List Ev} (h:PI ls k out) (hk:¬ k<ls.length):parseY ls 0 []=(out,0,0):=by
 rw [<-h.eq,List.drop_of_length_le (by omega)];rfl
attribute [local irreducible] DW SeqD DV DOp DC DVX sw splC evY parseY
theorem sv_parse_dc {p:Prop} (h:p:=by first | exact sv | exact line_eo hl hf (by omega) (by omega) | (exact ⟨by omega,by omega,fun _ _=>rfl⟩) | fail):p:=h
section
attribute [local push_cast 2000] encE
theorem parse_dc (T5:TypeId) (fr:Nat×Nat) (m:Int) (l:YS) (F:Own):(l.length<=100000000/\FitL (splC 10 l))->DC Tryd.prog 26 [.str l] ([knP T5 fr,knM m]++F) fun d G=>d = .tup [.sl ((parseY (splC 10 l) 0 []).1.map encE), .int .i64 (parseY (splC 10 l) 0 []).2.1, .int .i64 (parseY (splC 10 l) 0 []).2.2]/\G=[knP T5 fr,knM m]++F:=by
 intro hA
 obtain ⟨hl,hf⟩:=hA
 refine DC.bodyS (n_:=38) (show Tryd.prog.funcs[26]? = some Tryd.f26 by kernel_rfl) rfl rfl (by rfl) ?_
 simp only [env0,List.cons_append,List.nil_append]
 have kw:=ksIs [0,2,3,4,5,6,7,8,9,10,12,13,14,15,23,30]
 have ow:=ownIs []
 have hb1:=(splC_bound 10 l).1
 have hb2:=(splC_bound 10 l).2
 refine DW.tail0 5 ?_
 repeat' (first
  | ((with_reducible refine DW.loopB 0 (X:=Nat×LEv×Value) (fun x=>PI (splC 10 l) x.1 x.2.1) (fun x=>[(5, .gs x.2.2 (x.2.1.map encE)),(12, .sl ((splC 10 l).map V.str)),(13, .int .i64 (splC 10 l).length),(14, .int .i64 x.1)]) (fun x=>.tail 5 x.2.2::([knP T5 fr,knM m]:Own)) (fun x=>(splC 10 l).length - x.1) ((0,[], .slice none 0 0)) ?_ ?_ ?_);exact (PI.zero _);(simp [Sub,get,keepL]<;>fail);(try simp only [List.cons_append,List.nil_append]);refine pl_ ?_;intro ⟨k,out,v⟩ hP;(try simp only [List.cons_append,List.nil_append]);(try simp only at hP);have hP1:=hP.le;have hP2:=hP.len;have hP4:((splC 10 l).getD k default).length<=l.length:=getD_sub hb2 k;have hP3:=(sw_bound ((splC 10 l).getD k default) []).1)
  | refine g_ ?_
  | ((with_reducible refine And.intro ?_ ?_);(exact sv_parse_dc))
  | (refine DW.cond (by rfl) ?_ ?_<;>(first | exact i0_ | (refine ic_ ?_;intro hb)))
  | ((with_reducible refine FVg_cases ?_ ?_)<;>(intro hb;rw [hb];revert hb;(first | exact i0_ | (refine i_ ?_;intro hb))))
  | refine r_ ?_
  | refine k_ ?_
  | ((first | refine q_ (splitY_dc _ _ _) ?_ (ha:=by exact sv_parse_dc) | refine q_ (words_dc _ _) ?_ (ha:=by exact sv_parse_dc) | refine q_ (event_dc _ _ _ _) ?_ (ha:=by exact sv_parse_dc)))
  | refine o_ ?_
  | refine f_ ?_
  | ((fail_if_success (have zz:=b9));with_reducible intro b9)
  | with_reducible intro b)
 all_goals first
 | (refine ⟨(k+1,out,v),hP.skip (by omega) (List.length_eq_zero_iff.1 (by omega)),by (try simp only);omega,by simp [Sub,get],?_⟩;((try dsimp only);(exact sub_));done)
 | ((have hne:¬ sw [] ((splC 10 l).getD k default)=[]:=fun e=>by have:=congrArg List.length e;rw [List.length_nil] at this;omega)
    refine ⟨(k+1,out++[(evY (sw [] ((splC 10 l).getD k default))).1],b),hP.next (by omega) hne hb,by (try simp only);omega,by simp [Sub,get,encE],?_⟩;((try dsimp only);(exact sub_));done)
 | ((have hne:¬ sw [] ((splC 10 l).getD k default)=[]:=fun e=>by have:=congrArg List.length e;rw [List.length_nil] at this;omega)
    (rw [hP.bad (by omega) hne hb];(refine ⟨_,_,le.tup (Les.cons (le.gs rfl) (Les.cons le.rfl_ (Les.cons le.rfl_ Les.nil))),⟨rfl,rfl⟩,?_⟩);(exact sub_);done))
 | ((rw [hP.end_ (by omega)];(refine ⟨_,_,le.tup (Les.cons (le.gs rfl) (Les.cons le.rfl_ (Les.cons le.rfl_ Les.nil))),⟨rfl,rfl⟩,?_⟩);(exact sub_);done))
 | (trace_state;fail)
end
end
end Go.Proofs.YtphhijelneaedaaDoor
