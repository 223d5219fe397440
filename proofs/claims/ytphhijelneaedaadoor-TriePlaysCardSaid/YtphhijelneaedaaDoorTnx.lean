/- The trie: what scripts say; what is left when all is dropped. -/
import Derived.Test.YtphhijelneaedaaDoorTqx
import Derived.Test.YtphhijelneaedaaDoorTlx
import Derived.KernelRfl
namespace Go.Proofs.YtphhijelneaedaaDoor
open Go.RowKit
set_option linter.unusedSimpArgs false
set_option linter.unusedVariables false
set_option linter.unusedSectionVars false
set_option maxHeartbeats 4000000
set_option maxRecDepth 100000
section
structure TAct where
 what:Int
 k:Int
 f:Int
 q:Int
 s:Str
 deriving DecidableEq,Inhabited
def encAct (a:TAct):V:=.agg [.int .u8 a.what, .int .u8 a.k, .int .u8 a.f, .int .u8 a.q, .str a.s]
def actR (a:TAct):Prop:=(0<=a.what/\a.what<=255)/\(0<=a.k/\a.k<=255)/\(0<=a.f/\a.f<=255)/\(0<=a.q/\a.q<=255)
theorem act_r {l:List TAct} (h:∀ a∈l,actR a) (i:Nat):actR (l.getD i default):=by
 by_cases hi:i<l.length
 · rw [List.getD_eq_getElem?_getD,List.getElem?_eq_getElem hi,Option.getD_some];exact h _ (List.getElem_mem hi)
 · rw [List.getD_eq_getElem?_getD,List.getElem?_eq_none (by omega),Option.getD_none]
   exact ⟨by decide,by decide,by decide,by decide⟩
def topT_:List Str:=[[97],[97,47,98],[98,47,99],[36,115,47,97],[97,47,47,98],[195,169,47,97],[99]]
def filT_:List Str:=[[97],[35],[97,47,43],[43,47,98],[97,47,35],[98,47,99],[36,115,47,35],[43],[43,47,43],[195,169,47,35]]
def topT (k:Int):Str:=topT_.getD (k.tmod 7).toNat default
def filT (k:Int):Str:=filT_.getD (k.tmod 10).toNat default
theorem getD_in {α:Type} {d:α} {l:List α} {n:Nat} (h:n<l.length):l.getD n d∈l:=by
 rw [List.getD_eq_getElem?_getD,List.getElem?_eq_getElem h];exact List.getElem_mem h
theorem filT_ok {k:Int} (h:0<=k):filterB (filT k)=true/\(filT k).length<=1000:=by
 have key:∀ f∈filT_,filterB f=true/\f.length<=1000:=by decide +kernel
 have q0:=Int.tmod_nonneg 10 h;have q1:=Int.tmod_lt_of_pos k (show (0:Int)<10 by decide)
 exact key _ (getD_in (show _<10 by omega))
theorem topT_ok {k:Int} (h:0<=k):(topT k).length<=1000:=by
 have key:∀ f∈topT_,f.length<=1000:=by decide +kernel
 have q0:=Int.tmod_nonneg 7 h;have q1:=Int.tmod_lt_of_pos k (show (0:Int)<7 by decide)
 exact key _ (getD_in (show _<7 by omega))
theorem upd_len1 {α β:Type} [DecidableEq α] {k:α} {v:β} {l:List (α×β)}:(updA k v l).length<=l.length+1:=by
 rw [updA_len];split<;>omega
theorem drop_len1 {α β:Type} [DecidableEq α] {k:α} {l:List (α×β)}:(dropA k l).length<=l.length:=dropA_sub.length_le
structure NI (l:List TAct) (a b c d:Nat) (L:TL):Prop where
 len:L.length<=b+d
 mem:∀ e∈L,(e.1.2=[107]/\∃ j,a<=j/\j<b/\e.1.1=filT (l.getD j default).f)\/(e.1.2=[106]/\e.2=1/\∃ j,c<=j/\j<d/\e.1.1=filT (l.getD j default).k)
section
variable {l:List TAct} {L:TL} {a b c d i:Nat} {q:Int}
end
attribute [local irreducible] DW SeqD DV DOp DC DVX
theorem s_top7_dc {P Q:Prop} (q:Q) (h:Hid Q->P:=by (intro q;simp (maxSteps:=1000000) (disch:=omega) only [push_cast,↓reduceIte,reduceCtorEq,Nat.reduceAdd,Nat.reduceMul,Nat.reduceLT,Nat.reduceLeDiff,Nat.reduceEqDiff,Nat.reduceSub,Int.reduceToNat,Int.reduceLT,Int.reduceLE,Int.reduceAdd,Int.reduceSub,Int.reduceMul,Int.reduceNeg,Nat.reduceBEq,Int.reduceBEq,Int.reduceBNe,Nat.reduceBNe,Int.reduceEq,hkm];exact q.1)):P:=h ⟨q⟩
theorem top7_dc (k:Int) (F:Own):(0<=k/\k<=255)->DC Tryd.prog 18 [.int .u8 k] (([]:Own)++F) fun d G=>d = .str (topT k)/\G=[]++F:=by
 intro hA
 obtain ⟨h0,h1⟩:=hA
 refine DC.bodyS (n_:=8) (show Tryd.prog.funcs[18]? = some Tryd.f18 by kernel_rfl) rfl rfl (by rfl) ?_
 simp only [env0,List.cons_append,List.nil_append]
 have kw:=ksIs [0,2]
 have ow:=ownIs []
 have q0:=Int.tmod_nonneg 7 h0;have q1:=Int.tmod_lt_of_pos k (show (0:Int)<7 by decide)
 rcases (show k.tmod 7=0\/k.tmod 7=1\/k.tmod 7=2\/k.tmod 7=3\/k.tmod 7=4\/k.tmod 7=5\/k.tmod 7=6 by omega) with hkm | hkm | hkm | hkm | hkm | hkm | hkm
 repeat' (first
  | refine g_ ?_
  | ((with_reducible refine And.intro ?_ ?_);(exact sv))
  | (refine DW.cond (by rfl) ?_ ?_<;>(first | exact i0_ | (intro hb;(try simp only [↓reduceCtorEq,not_true_eq_false,not_false_eq_true,hbs,Int.reduceBEq,Int.reduceBNe,Int.reduceEq] at hb);(try refine s_top7_dc ?_))))
  | ((with_reducible refine FVg_cases ?_ ?_)<;>(intro hb;rw [hb];revert hb;(first | exact i0_ | (intro hb;(try simp only [↓reduceCtorEq,not_true_eq_false,not_false_eq_true,hbs,Int.reduceBEq,Int.reduceBNe,Int.reduceEq] at hb);(try refine s_top7_dc ?_)))))
  | ((first | refine rn_ ?_ | refine kn_ ?_)<;>(refine s_top7_dc ?_))
  | ((refine on_ ?_);refine s_top7_dc ?_)
  | refine f_ ?_
  | with_reducible intro b)
 all_goals (refine ⟨_,_,le.of_eq ?_,⟨rfl,rfl⟩,SubP.refl⟩;rw [topT,hkm];rfl)
theorem s_fil7_dc {P Q:Prop} (q:Q) (h:Hid Q->P:=by (intro q;simp (maxSteps:=1000000) (disch:=omega) only [push_cast,↓reduceIte,reduceCtorEq,Nat.reduceAdd,Nat.reduceMul,Nat.reduceLT,Nat.reduceLeDiff,Nat.reduceEqDiff,Nat.reduceSub,Int.reduceToNat,Int.reduceLT,Int.reduceLE,Int.reduceAdd,Int.reduceSub,Int.reduceMul,Int.reduceNeg,Nat.reduceBEq,Int.reduceBEq,Int.reduceBNe,Nat.reduceBNe,Int.reduceEq,hkm];exact q.1)):P:=h ⟨q⟩
theorem fil7_dc (k:Int) (F:Own):(0<=k/\k<=255)->DC Tryd.prog 7 [.int .u8 k] (([]:Own)++F) fun d G=>d = .str (filT k)/\G=[]++F:=by
 intro hA
 obtain ⟨h0,h1⟩:=hA
 refine DC.bodyS (n_:=8) (show Tryd.prog.funcs[7]? = some Tryd.f7 by kernel_rfl) rfl rfl (by rfl) ?_
 simp only [env0,List.cons_append,List.nil_append]
 have kw:=ksIs [0,2]
 have ow:=ownIs []
 have q0:=Int.tmod_nonneg 10 h0;have q1:=Int.tmod_lt_of_pos k (show (0:Int)<10 by decide)
 rcases (show k.tmod 10=0\/k.tmod 10=1\/k.tmod 10=2\/k.tmod 10=3\/k.tmod 10=4\/k.tmod 10=5\/k.tmod 10=6\/k.tmod 10=7\/k.tmod 10=8\/k.tmod 10=9 by omega) with hkm | hkm | hkm | hkm | hkm | hkm | hkm | hkm | hkm | hkm
 repeat' (first
  | refine g_ ?_
  | ((with_reducible refine And.intro ?_ ?_);(exact sv))
  | (refine DW.cond (by rfl) ?_ ?_<;>(first | exact i0_ | (intro hb;(try simp only [↓reduceCtorEq,not_true_eq_false,not_false_eq_true,hbs,Int.reduceBEq,Int.reduceBNe,Int.reduceEq] at hb);(try refine s_fil7_dc ?_))))
  | ((with_reducible refine FVg_cases ?_ ?_)<;>(intro hb;rw [hb];revert hb;(first | exact i0_ | (intro hb;(try simp only [↓reduceCtorEq,not_true_eq_false,not_false_eq_true,hbs,Int.reduceBEq,Int.reduceBNe,Int.reduceEq] at hb);(try refine s_fil7_dc ?_)))))
  | ((first | refine rn_ ?_ | refine kn_ ?_)<;>(refine s_fil7_dc ?_))
  | ((refine on_ ?_);refine s_fil7_dc ?_)
  | refine f_ ?_
  | with_reducible intro b)
 all_goals (refine ⟨_,_,le.of_eq ?_,⟨rfl,rfl⟩,SubP.refl⟩;rw [filT,hkm];rfl)
end
section
def kyT (k:Int):Str:=if k.tmod 2=0 then [107] else [106]
def pairT (a:TAct):Str×Str:=(filT a.f,kyT a.k)
structure KS (l:List TAct) (a b:Nat) (L:TL):Prop where
 len:L.length<=b - a
 mem:∀ p,p∈L.map (·.1)↔∃ j,a<=j/\j<b/\p=pairT (l.getD j default)
section
variable {l:List TAct} {L L':TL} {a b i:Nat} {q:Int}
theorem matchL_len (L:TL) (n:Str):(matchL L n).length<=L.length:=by
 have:=len_le (l:=(matchL L n).map (·.1)) (l':=L.map (·.1.2)) (up_nodup (matchL_up L n)) fun x hx=>by
  rw [<-lookA_isSome,matchL_look] at hx
  obtain ⟨q,hq⟩:=Option.isSome_iff_exists.1 hx
  obtain ⟨⟨e,he,h3⟩,_⟩:=(foldG_some _ _).1 hq
  split at h3
  · rename_i hc;exact List.mem_map.2 ⟨e,he,hc.2⟩
  · cases h3
 simpa using this
theorem filtersL_len:∀ L:TL,(filtersL L).length<=L.length:=fun L=>by
 have:=len_le (l:=filtersL L) (l':=L.map (·.1.1)) (up_nodup (filters_is L).1) fun x hx=>by
  obtain ⟨e,he,h⟩:=((filters_is L).2 x).1 hx
  exact List.mem_map.2 ⟨e,he,h⟩
 simpa using this
end
def eqK {α:Type} [Inhabited α] (l m:List α) (k:Nat):Prop:=∀ j,j<k->l.getD j default=m.getD j default
theorem eqK_0 {α:Type} [Inhabited α] (l m:List α):eqK l m 0:=fun j h=>absurd h (Nat.not_lt_zero _)
theorem eqK_s {α:Type} [Inhabited α] {l m:List α} {k:Nat} (h:eqK l m k) (e:l.getD k default=m.getD k default):eqK l m (k+1):=fun j hj=>by
 rcases Nat.lt_or_eq_of_le (Nat.le_of_lt_succ hj) with h1 | rfl
 · exact h j h1
 · exact e
theorem eqK_all {α:Type} [Inhabited α] {l m:List α} {k:Nat} (h:eqK l m k) (hk:l.length<=k) (hl:l.length=m.length):l=m:=by
 apply List.ext_getElem hl
 intro i h1 h2
 have:=h i (by omega)
 rwa [List.getD_eq_getElem?_getD,List.getD_eq_getElem?_getD,List.getElem?_eq_getElem h1,List.getElem?_eq_getElem h2] at this
attribute [local irreducible] DW SeqD DV DOp DC DVX
theorem strsH_dc (l q:List Str) (F:Own):(l.length<=1000000000/\q.length<=1000000000)->DC Tryd.prog 13 [.sl (l.map V.str), .sl (q.map V.str)] (([]:Own)++F) fun d G=>d = .bool (decide (l=q))/\G=[]++F:=by
 intro hA
 obtain ⟨hl,hq⟩:=hA
 refine DC.bodyS (n_:=26) (show Tryd.prog.funcs[13]? = some Tryd.f13 by kernel_rfl) rfl rfl (by rfl) ?_
 simp only [env0,List.cons_append,List.nil_append]
 have kw:=ksIs [0,1,4,5,10,14,25]
 have ow:=ownIs []
 have dw6:=drIs 6 [] [3,7]
 repeat' (first
  | ((with_reducible refine DW.loopB 0 (X:=Nat) (fun x=>x<=l.length/\eqK l q x) (fun x=>[(0, .sl (l.map V.str)),(1, .sl (q.map V.str)),(5, .int .i64 x)]) (fun x=>([]:Own)) (fun x=>l.length - x) (0) ?_ ?_ ?_);exact (⟨Nat.zero_le _,eqK_0 _ _⟩);(simp [Sub,get,keepL]<;>fail);(try simp only [List.cons_append,List.nil_append]);refine pl_ ?_;intro k ⟨hk,ek⟩;(try simp only [List.cons_append,List.nil_append]))
  | refine g_ ?_
  | ((with_reducible refine And.intro ?_ ?_);(exact sv))
  | (refine DW.cond (by rfl) ?_ ?_<;>(first | exact i0_ | (refine ic_ ?_;intro hb)))
  | ((with_reducible first | refine FVg_cases ?_ ?_ | refine FDg_cases ?_ ?_)<;>(intro hb;rw [hb];revert hb;(first | exact i0_ | (refine i_ ?_;intro hb))))
  | refine r_ ?_
  | refine d_ ?_
  | refine k_ ?_
  | refine vo_ ?_
  | refine o_ ?_
  | refine f_ ?_
  | refine vm_ ?_
  | with_reducible intro b)
 all_goals first
 | ((rw [show decide (l=q)=true from decide_eq_true (eqK_all ek (by omega) (by omega))];(first | exact fin_ | refine finq_ ?_);done))
 | (refine ⟨k+1,⟨by omega,eqK_s ek hb⟩,by omega,by simp [Sub,get],?_⟩;(exact sub_);done)
 | ((rw [show decide (l=q)=false from decide_eq_false (fun e=>by subst e;first | (exact absurd rfl hb) | (simp at hb;done) | omega)];(first | exact fin_ | refine finq_ ?_);done))
end
end Go.Proofs.YtphhijelneaedaaDoor
