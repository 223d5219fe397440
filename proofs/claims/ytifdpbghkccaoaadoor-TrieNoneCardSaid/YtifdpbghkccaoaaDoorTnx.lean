/- The trie: what scripts say; what is left when all is dropped. -/
import Derived.Test.YtifdpbghkccaoaaDoorTqx
import Derived.Test.YtifdpbghkccaoaaDoorTlx
import Derived.KernelRfl
namespace Go.Proofs.YtifdpbghkccaoaaDoor
open Go.RowKit
set_option linter.unusedSimpArgs false
set_option linter.unusedVariables false
set_option linter.unusedSectionVars false
set_option maxHeartbeats 4000000
set_option maxRecDepth 100000
section
structure TAct where
 what:Int
 k:Int
 f:Int
 q:Int
 s:Str
 deriving DecidableEq,Inhabited
def encAct (a:TAct):V:=.agg [.int .u8 a.what, .int .u8 a.k, .int .u8 a.f, .int .u8 a.q, .str a.s]
def actR (a:TAct):Prop:=(0<=a.what/\a.what<=255)/\(0<=a.k/\a.k<=255)/\(0<=a.f/\a.f<=255)/\(0<=a.q/\a.q<=255)
theorem act_r {l:List TAct} (h:∀ a∈l,actR a) (i:Nat):actR (l.getD i default):=by
 by_cases hi:i<l.length
 · rw [List.getD_eq_getElem?_getD,List.getElem?_eq_getElem hi,Option.getD_some];exact h _ (List.getElem_mem hi)
 · rw [List.getD_eq_getElem?_getD,List.getElem?_eq_none (by omega),Option.getD_none]
   exact ⟨by decide,by decide,by decide,by decide⟩
def topT_:List Str:=[[97],[97,47,98],[98,47,99],[36,115,47,97],[97,47,47,98],[195,169,47,97],[99]]
def filT_:List Str:=[[97],[35],[97,47,43],[43,47,98],[97,47,35],[98,47,99],[36,115,47,35],[43],[43,47,43],[195,169,47,35]]
def topT (k:Int):Str:=topT_.getD (k.tmod 7).toNat default
def filT (k:Int):Str:=filT_.getD (k.tmod 10).toNat default
theorem getD_in {α:Type} {d:α} {l:List α} {n:Nat} (h:n<l.length):l.getD n d∈l:=by
 rw [List.getD_eq_getElem?_getD,List.getElem?_eq_getElem h];exact List.getElem_mem h
theorem filT_ok {k:Int} (h:0<=k):filterB (filT k)=true/\(filT k).length<=1000:=by
 have key:∀ f∈filT_,filterB f=true/\f.length<=1000:=by decide +kernel
 have q0:=Int.tmod_nonneg 10 h;have q1:=Int.tmod_lt_of_pos k (show (0:Int)<10 by decide)
 exact key _ (getD_in (show _<10 by omega))
theorem topT_ok {k:Int} (h:0<=k):(topT k).length<=1000:=by
 have key:∀ f∈topT_,f.length<=1000:=by decide +kernel
 have q0:=Int.tmod_nonneg 7 h;have q1:=Int.tmod_lt_of_pos k (show (0:Int)<7 by decide)
 exact key _ (getD_in (show _<7 by omega))
theorem mem_upd2 {α β:Type} [DecidableEq α] {k:α} {v:β} {x:α×β}:∀ {l:List (α×β)},x∈updA k v l->x=(k,v)\/x∈l
 | [],h=>.inl (List.mem_singleton.1 h)
 | y::l,h=>by
  rw [updA] at h
  split at h
  · rename_i e
    rcases List.mem_cons.1 h with rfl | h
    · exact .inl (by rw [e])
    · exact .inr (List.mem_cons_of_mem _ h)
  · rcases List.mem_cons.1 h with rfl | h
    · exact .inr List.mem_cons_self
    · rcases mem_upd2 h with h | h
      · exact .inl h
      · exact .inr (List.mem_cons_of_mem _ h)
theorem upd_len1 {α β:Type} [DecidableEq α] {k:α} {v:β} {l:List (α×β)}:(updA k v l).length<=l.length+1:=by
 rw [updA_len];split<;>omega
theorem drop_len1 {α β:Type} [DecidableEq α] {k:α} {l:List (α×β)}:(dropA k l).length<=l.length:=dropA_sub.length_le
structure NI (l:List TAct) (a b c d:Nat) (L:TL):Prop where
 len:L.length<=b+d
 mem:∀ e∈L,(e.1.2=[107]/\∃ j,a<=j/\j<b/\e.1.1=filT (l.getD j default).f)\/(e.1.2=[106]/\e.2=1/\∃ j,c<=j/\j<d/\e.1.1=filT (l.getD j default).k)
section
variable {l:List TAct} {L:TL} {a b c d i:Nat} {q:Int}
theorem ni_0 (l:List TAct):NI l 0 0 0 0 []:=⟨Nat.le_refl _,fun _ h=>nomatch h⟩
theorem ni_putk (h:NI l 0 i 0 i L):NI l 0 (i+1) 0 i (updA (filT (l.getD i default).f,[107]) q L):=by
 refine ⟨?_,fun e he=>?_⟩
 · have:=h.len;have:=upd_len1 (k:=(filT (l.getD i default).f,[107])) (v:=q) (l:=L);omega
 · rcases mem_upd2 he with rfl | he
   · exact .inl ⟨rfl,i,Nat.zero_le _,Nat.lt_succ_self _,rfl⟩
   · rcases h.mem e he with ⟨h1,j,h2,h3,h4⟩ | h1
     · exact .inl ⟨h1,j,h2,by omega,h4⟩
     · exact .inr h1
theorem ni_putj (h:NI l 0 (i+1) 0 i L):NI l 0 (i+1) 0 (i+1) (updA (filT (l.getD i default).k,[106]) 1 L):=by
 refine ⟨?_,fun e he=>?_⟩
 · have:=h.len;have:=upd_len1 (k:=(filT (l.getD i default).k,[106])) (v:=(1:Int)) (l:=L);omega
 · rcases mem_upd2 he with rfl | he
   · exact .inr ⟨rfl,rfl,i,Nat.zero_le _,Nat.lt_succ_self _,rfl⟩
   · rcases h.mem e he with h1 | ⟨h1,h5,j,h2,h3,h4⟩
     · exact .inl h1
     · exact .inr ⟨h1,h5,j,h2,by omega,h4⟩
theorem ni_dropk (hn:(L.map (·.1)).Nodup) (h:NI l i b c d L):NI l (i+1) b c d (dropA (filT (l.getD i default).f,[107]) L):=by
 refine ⟨Nat.le_trans drop_len1 h.len,fun e he=>?_⟩
 obtain ⟨he,hne⟩:=(mem_dropA hn e).1 he
 rcases h.mem e he with ⟨h1,j,h2,h3,h4⟩ | h1
 · refine .inl ⟨h1,j,?_,h3,h4⟩
   rcases Nat.lt_or_eq_of_le h2 with h5 | rfl
   · exact h5
   · exact absurd (Prod.ext h4 h1) hne
 · exact .inr h1
theorem ni_dropj (hn:(L.map (·.1)).Nodup) (h:NI l a b i d L):NI l a b (i+1) d (dropA (filT (l.getD i default).k,[106]) L):=by
 refine ⟨Nat.le_trans drop_len1 h.len,fun e he=>?_⟩
 obtain ⟨he,hne⟩:=(mem_dropA hn e).1 he
 rcases h.mem e he with h1 | ⟨h1,h6,j,h2,h3,h4⟩
 · exact .inl h1
 · refine .inr ⟨h1,h6,j,?_,h3,h4⟩
   rcases Nat.lt_or_eq_of_le h2 with h5 | rfl
   · exact h5
   · exact absurd (Prod.ext h4 h1) hne
theorem ni_end (h:NI l a b c d L) (h1:b<=a) (h2:d<=c):L=[]:=List.eq_nil_iff_forall_not_mem.2 fun e he=>by
 rcases h.mem e he with ⟨_,j,_,_,_⟩ | ⟨_,_,j,_,_,_⟩<;>omega
theorem ni_len (h:NI l a b c d L) (h1:b+d<=1000):L.length<=1000:=Nat.le_trans h.len h1
theorem ni_mat (h:NI l a b c d L) (h1:b<=a) (n:Str):matchL L n=[]\/matchL L n=[([106],1)]:=by
 have hm:∀ e∈L,e.1.2=[106]/\e.2=1:=fun e he=>by
  rcases h.mem e he with ⟨_,j,_,_,_⟩ | ⟨h2,h3,_⟩
  · omega
  · exact ⟨h2,h3⟩
 have hk:∀ x∈matchL L n,∀ q,lookA x.1 (matchL L n)=some q->x.1=[106]/\q=1:=fun x _ q hq=>by
  rw [matchL_look] at hq
  obtain ⟨⟨e,he,h3⟩,_⟩:=(foldG_some _ _).1 hq
  split at h3
  · rename_i hc
    injection h3 with h3
    exact ⟨by rw [<-hc.2];exact (hm e he).1,by rw [<-h3];exact (hm e he).2⟩
  · cases h3
 have hu:=matchL_up L n
 generalize matchL L n=M at hk hu
 cases M with
 | nil=>exact .inl rfl
 | cons x M =>
  obtain ⟨x1,x2⟩:=hk x List.mem_cons_self x.2 (by rw [lookA_cons,if_pos rfl])
  cases M with
  | nil=>exact .inr (by rw [show x=([106],1) from Prod.ext x1 x2])
  | cons y M =>
   have hlt:x.1<y.1:=List.rel_of_pairwise_cons hu (by simp)
   have hy:(lookA y.1 (x::y::M)).isSome=true:=lookA_isSome.2 (by simp)
   obtain ⟨q,hq⟩:=Option.isSome_iff_exists.1 hy
   obtain ⟨y1,_⟩:=hk y (by simp) q hq
   rw [x1,y1] at hlt
   exact absurd hlt (List.lt_irrefl _)
end
theorem nputk_dc (m:Int) (t:Nat) (s:TS) (k q:Int) (F:Own):(TOK s/\s.L.length<=1000/\0<=k)->DC Tryd.prog 9 [.raw (.pointer (some ⟨t,0,none⟩)), .str (filT k), .str [107], .int .i64 q] ((knF::knA::knM m::(ownT t s++[]))++F) fun d G=>∃ s':TS,(TOK s'/\s'.L=updA (filT k,[107]) q s.L)/\d = .tup [.int .i64 (wasL s.L (filT k) [107]), .bool (hadL s.L (filT k) [107])]/\G=knF::knA::knM m::(ownT t s'++F):=fun ⟨h,h1,h2⟩=>by
 have hf:=filT_ok h2
 refine (put_dc m t s (filT k) [107] q F ⟨h,by omega,by omega,by decide⟩).mono fun d G hd=>?_
 obtain ⟨s',h3,h4,h5,h6⟩:=hd
 exact ⟨s',⟨h3,by rw [h4,putL,if_pos hf.1]⟩,h5,h6⟩
theorem nputj_dc (m:Int) (t:Nat) (s:TS) (k q:Int) (F:Own):(TOK s/\s.L.length<=1000/\0<=k)->DC Tryd.prog 9 [.raw (.pointer (some ⟨t,0,none⟩)), .str (filT k), .str [106], .int .i64 q] ((knF::knA::knM m::(ownT t s++[]))++F) fun d G=>∃ s':TS,(TOK s'/\s'.L=updA (filT k,[106]) q s.L)/\d = .tup [.int .i64 (wasL s.L (filT k) [106]), .bool (hadL s.L (filT k) [106])]/\G=knF::knA::knM m::(ownT t s'++F):=fun ⟨h,h1,h2⟩=>by
 have hf:=filT_ok h2
 refine (put_dc m t s (filT k) [106] q F ⟨h,by omega,by omega,by decide⟩).mono fun d G hd=>?_
 obtain ⟨s',h3,h4,h5,h6⟩:=hd
 exact ⟨s',⟨h3,by rw [h4,putL,if_pos hf.1]⟩,h5,h6⟩
theorem ndrop_dc (m:Int) (t:Nat) (s:TS) (k:Int) (ky:Str) (F:Own):(TOK s/\s.L.length<=1000/\0<=k)->DC Tryd.prog 13 [.raw (.pointer (some ⟨t,0,none⟩)), .str (filT k), .str ky] ((knF::knA::knM m::(ownT t s++[]))++F) fun d G=>∃ s':TS,(TOK s'/\s'.L=dropA (filT k,ky) s.L)/\d = .bool (lookA (filT k,ky) s.L).isSome/\G=knF::knA::knM m::(ownT t s'++F):=fun ⟨h,h1,h2⟩=>by
 have hf:=filT_ok h2
 exact droptop_dc m t s (filT k) ky F ⟨h,by omega,by omega⟩
theorem nmat_dc (m:Int) (t:Nat) (s:TS) (k:Int) (F:Own):(TOK s/\s.L.length<=1000/\0<=k/\(matchL s.L (topT k)=[]\/matchL s.L (topT k)=[([106],1)]))->DC Tryd.prog 10 [.raw (.pointer (some ⟨t,0,none⟩)), .str (topT k)] ((loose::knF::knA::knM m::(ownT t s++[]))++F) fun d G=>(d = .sl []\/d = .sl [.agg [.str [106], .int .i64 1]])/\G=(loose::knF::knA::knM m::(ownT t s++[]))++F:=fun ⟨h,h1,h2,h3⟩=>by
 have hf:=topT_ok h2
 refine (tmatchT_dc m t s (topT k) F ⟨h,by omega,by omega⟩).mono fun d G hd=>⟨?_,hd.2⟩
 rcases h3 with h3 | h3
 · exact .inl (by rw [hd.1,h3];rfl)
 · exact .inr (by rw [hd.1,h3];rfl)
theorem nmat0_dc (m:Int) (t:Nat) (s:TS) (k:Int) (F:Own):(TOK s/\s.L=[]/\0<=k)->DC Tryd.prog 10 [.raw (.pointer (some ⟨t,0,none⟩)), .str (topT k)] ((loose::knF::knA::knM m::(ownT t s++[]))++F) fun d G=>d = .sl []/\G=(loose::knF::knA::knM m::(ownT t s++[]))++F:=fun ⟨h,h1,h2⟩=>by
 have hf:=topT_ok h2
 refine (tmatchT_dc m t s (topT k) F ⟨h,by omega,by rw [h1];decide⟩).mono fun d G hd=>⟨?_,hd.2⟩
 rw [hd.1,h1];rfl
theorem nfil0_dc (t:Nat) (s:TS) (F:Own):(TOK s/\s.L=[])->DC Tryd.prog 15 [.raw (.pointer (some ⟨t,0,none⟩))] ((loose::(ownT t s++[]))++F) fun d G=>d = .sl []/\G=(loose::(ownT t s++[]))++F:=fun ⟨h,h1⟩=>by
 refine (tfil_dc t s F ⟨h,by rw [h1];decide⟩).mono fun d G hd=>⟨?_,hd.2⟩
 rw [hd.1,h1];rfl
theorem nlen0_dc (t:Nat) (s:TS) (F:Own):s.L=[]->DC Tryd.prog 11 [.raw (.pointer (some ⟨t,0,none⟩))] ((ownT t s++[])++F) fun d G=>d = .int .i64 0/\G=(ownT t s++[])++F:=fun h=>by
 have:=tlen_dc t s F trivial
 rw [h] at this;exact this
attribute [local irreducible] DW SeqD DV DOp DC DVX
theorem s_top7_dc {P Q:Prop} (q:Q) (h:Hid Q->P:=by (intro q;simp (maxSteps:=1000000) (disch:=omega) only [push_cast,↓reduceIte,reduceCtorEq,Nat.reduceAdd,Nat.reduceMul,Nat.reduceLT,Nat.reduceLeDiff,Nat.reduceEqDiff,Nat.reduceSub,Int.reduceToNat,Int.reduceLT,Int.reduceLE,Int.reduceAdd,Int.reduceSub,Int.reduceMul,Int.reduceNeg,Nat.reduceBEq,Int.reduceBEq,Int.reduceBNe,Nat.reduceBNe,Int.reduceEq,hkm];exact q.1)):P:=h ⟨q⟩
theorem top7_dc (k:Int) (F:Own):(0<=k/\k<=255)->DC Tryd.prog 14 [.int .u8 k] (([]:Own)++F) fun d G=>d = .str (topT k)/\G=[]++F:=by
 intro hA
 obtain ⟨h0,h1⟩:=hA
 refine DC.bodyS (n_:=8) (show Tryd.prog.funcs[14]? = some Tryd.f14 by kernel_rfl) rfl rfl (by rfl) ?_
 simp only [env0,List.cons_append,List.nil_append]
 have kw:=ksIs [0,2]
 have ow:=ownIs []
 have q0:=Int.tmod_nonneg 7 h0;have q1:=Int.tmod_lt_of_pos k (show (0:Int)<7 by decide)
 rcases (show k.tmod 7=0\/k.tmod 7=1\/k.tmod 7=2\/k.tmod 7=3\/k.tmod 7=4\/k.tmod 7=5\/k.tmod 7=6 by omega) with hkm | hkm | hkm | hkm | hkm | hkm | hkm
 repeat' (first
  | refine g_ ?_
  | ((with_reducible refine And.intro ?_ ?_);(exact sv))
  | (refine DW.cond (by rfl) ?_ ?_<;>(first | exact i0_ | (intro hb;(try simp only [↓reduceCtorEq,not_true_eq_false,not_false_eq_true,hbs,Int.reduceBEq,Int.reduceBNe,Int.reduceEq] at hb);(try refine s_top7_dc ?_))))
  | ((with_reducible refine FVg_cases ?_ ?_)<;>(intro hb;rw [hb];revert hb;(first | exact i0_ | (intro hb;(try simp only [↓reduceCtorEq,not_true_eq_false,not_false_eq_true,hbs,Int.reduceBEq,Int.reduceBNe,Int.reduceEq] at hb);(try refine s_top7_dc ?_)))))
  | ((first | refine rn_ ?_ | refine kn_ ?_)<;>(refine s_top7_dc ?_))
  | ((refine on_ ?_);refine s_top7_dc ?_)
  | refine f_ ?_
  | with_reducible intro b)
 all_goals (refine ⟨_,_,le.of_eq ?_,⟨rfl,rfl⟩,SubP.refl⟩;rw [topT,hkm];rfl)
theorem s_fil7_dc {P Q:Prop} (q:Q) (h:Hid Q->P:=by (intro q;simp (maxSteps:=1000000) (disch:=omega) only [push_cast,↓reduceIte,reduceCtorEq,Nat.reduceAdd,Nat.reduceMul,Nat.reduceLT,Nat.reduceLeDiff,Nat.reduceEqDiff,Nat.reduceSub,Int.reduceToNat,Int.reduceLT,Int.reduceLE,Int.reduceAdd,Int.reduceSub,Int.reduceMul,Int.reduceNeg,Nat.reduceBEq,Int.reduceBEq,Int.reduceBNe,Nat.reduceBNe,Int.reduceEq,hkm];exact q.1)):P:=h ⟨q⟩
theorem fil7_dc (k:Int) (F:Own):(0<=k/\k<=255)->DC Tryd.prog 12 [.int .u8 k] (([]:Own)++F) fun d G=>d = .str (filT k)/\G=[]++F:=by
 intro hA
 obtain ⟨h0,h1⟩:=hA
 refine DC.bodyS (n_:=8) (show Tryd.prog.funcs[12]? = some Tryd.f12 by kernel_rfl) rfl rfl (by rfl) ?_
 simp only [env0,List.cons_append,List.nil_append]
 have kw:=ksIs [0,2]
 have ow:=ownIs []
 have q0:=Int.tmod_nonneg 10 h0;have q1:=Int.tmod_lt_of_pos k (show (0:Int)<10 by decide)
 rcases (show k.tmod 10=0\/k.tmod 10=1\/k.tmod 10=2\/k.tmod 10=3\/k.tmod 10=4\/k.tmod 10=5\/k.tmod 10=6\/k.tmod 10=7\/k.tmod 10=8\/k.tmod 10=9 by omega) with hkm | hkm | hkm | hkm | hkm | hkm | hkm | hkm | hkm | hkm
 repeat' (first
  | refine g_ ?_
  | ((with_reducible refine And.intro ?_ ?_);(exact sv))
  | (refine DW.cond (by rfl) ?_ ?_<;>(first | exact i0_ | (intro hb;(try simp only [↓reduceCtorEq,not_true_eq_false,not_false_eq_true,hbs,Int.reduceBEq,Int.reduceBNe,Int.reduceEq] at hb);(try refine s_fil7_dc ?_))))
  | ((with_reducible refine FVg_cases ?_ ?_)<;>(intro hb;rw [hb];revert hb;(first | exact i0_ | (intro hb;(try simp only [↓reduceCtorEq,not_true_eq_false,not_false_eq_true,hbs,Int.reduceBEq,Int.reduceBNe,Int.reduceEq] at hb);(try refine s_fil7_dc ?_)))))
  | ((first | refine rn_ ?_ | refine kn_ ?_)<;>(refine s_fil7_dc ?_))
  | ((refine on_ ?_);refine s_fil7_dc ?_)
  | refine f_ ?_
  | with_reducible intro b)
 all_goals (refine ⟨_,_,le.of_eq ?_,⟨rfl,rfl⟩,SubP.refl⟩;rw [filT,hkm];rfl)
end
end Go.Proofs.YtifdpbghkccaoaaDoor
