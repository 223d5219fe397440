/- The trie: what scripts say; what is left when all is dropped. -/
import Derived.Test.YtifdpbghkccaoaaDoorTqx
import Derived.Test.YtifdpbghkccaoaaDoorTlx
import Derived.KernelRfl
namespace Go.Proofs.YtifdpbghkccaoaaDoor
open Go.RowKit
set_option linter.unusedSimpArgs false
set_option linter.unusedVariables false
set_option linter.unusedSectionVars false
set_option maxHeartbeats 4000000
set_option maxRecDepth 100000
section
structure TAct where
 what:Int
 k:Int
 f:Int
 q:Int
 s:Str
 deriving DecidableEq,Inhabited
def encAct (a:TAct):V:=.agg [.int .u8 a.what, .int .u8 a.k, .int .u8 a.f, .int .u8 a.q, .str a.s]
def actR (a:TAct):Prop:=(0<=a.what/\a.what<=255)/\(0<=a.k/\a.k<=255)/\(0<=a.f/\a.f<=255)/\(0<=a.q/\a.q<=255)
theorem act_r {l:List TAct} (h:∀ a∈l,actR a) (i:Nat):actR (l.getD i default):=by
 by_cases hi:i<l.length
 · rw [List.getD_eq_getElem?_getD,List.getElem?_eq_getElem hi,Option.getD_some];exact h _ (List.getElem_mem hi)
 · rw [List.getD_eq_getElem?_getD,List.getElem?_eq_none (by omega),Option.getD_none]
   exact ⟨by decide,by decide,by decide,by decide⟩
def topT_:List Str:=[[97],[97,47,98],[98,47,99],[36,115,47,97],[97,47,47,98],[195,169,47,97],[99]]
def filT_:List Str:=[[97],[35],[97,47,43],[43,47,98],[97,47,35],[98,47,99],[36,115,47,35],[43],[43,47,43],[195,169,47,35]]
def topT (k:Int):Str:=topT_.getD (k.tmod 7).toNat default
def filT (k:Int):Str:=filT_.getD (k.tmod 10).toNat default
theorem getD_in {α:Type} {d:α} {l:List α} {n:Nat} (h:n<l.length):l.getD n d∈l:=by
 rw [List.getD_eq_getElem?_getD,List.getElem?_eq_getElem h];exact List.getElem_mem h
theorem filT_ok {k:Int} (h:0<=k):filterB (filT k)=true/\(filT k).length<=1000:=by
 have key:∀ f∈filT_,filterB f=true/\f.length<=1000:=by decide +kernel
 have q0:=Int.tmod_nonneg 10 h;have q1:=Int.tmod_lt_of_pos k (show (0:Int)<10 by decide)
 exact key _ (getD_in (show _<10 by omega))
theorem topT_ok {k:Int} (h:0<=k):(topT k).length<=1000:=by
 have key:∀ f∈topT_,f.length<=1000:=by decide +kernel
 have q0:=Int.tmod_nonneg 7 h;have q1:=Int.tmod_lt_of_pos k (show (0:Int)<7 by decide)
 exact key _ (getD_in (show _<7 by omega))
theorem upd_len1 {α β:Type} [DecidableEq α] {k:α} {v:β} {l:List (α×β)}:(updA k v l).length<=l.length+1:=by
 rw [updA_len];split<;>omega
structure NI (l:List TAct) (a b c d:Nat) (L:TL):Prop where
 len:L.length<=b+d
 mem:∀ e∈L,(e.1.2=[107]/\∃ j,a<=j/\j<b/\e.1.1=filT (l.getD j default).f)\/(e.1.2=[106]/\e.2=1/\∃ j,c<=j/\j<d/\e.1.1=filT (l.getD j default).k)
section
variable {l:List TAct} {L:TL} {a b c d i:Nat} {q:Int}
end
attribute [local irreducible] DW SeqD DV DOp DC DVX
theorem s_top7_dc {P Q:Prop} (q:Q) (h:Hid Q->P:=by (intro q;simp (maxSteps:=1000000) (disch:=omega) only [push_cast,↓reduceIte,reduceCtorEq,Nat.reduceAdd,Nat.reduceMul,Nat.reduceLT,Nat.reduceLeDiff,Nat.reduceEqDiff,Nat.reduceSub,Int.reduceToNat,Int.reduceLT,Int.reduceLE,Int.reduceAdd,Int.reduceSub,Int.reduceMul,Int.reduceNeg,Nat.reduceBEq,Int.reduceBEq,Int.reduceBNe,Nat.reduceBNe,Int.reduceEq,hkm];exact q.1)):P:=h ⟨q⟩
theorem top7_dc (k:Int) (F:Own):(0<=k/\k<=255)->DC Tryd.prog 14 [.int .u8 k] (([]:Own)++F) fun d G=>d = .str (topT k)/\G=[]++F:=by
 intro hA
 obtain ⟨h0,h1⟩:=hA
 refine DC.bodyS (n_:=8) (show Tryd.prog.funcs[14]? = some Tryd.f14 by kernel_rfl) rfl rfl (by rfl) ?_
 simp only [env0,List.cons_append,List.nil_append]
 have kw:=ksIs [0,2]
 have ow:=ownIs []
 have q0:=Int.tmod_nonneg 7 h0;have q1:=Int.tmod_lt_of_pos k (show (0:Int)<7 by decide)
 rcases (show k.tmod 7=0\/k.tmod 7=1\/k.tmod 7=2\/k.tmod 7=3\/k.tmod 7=4\/k.tmod 7=5\/k.tmod 7=6 by omega) with hkm | hkm | hkm | hkm | hkm | hkm | hkm
 repeat' (first
  | refine g_ ?_
  | ((with_reducible refine And.intro ?_ ?_);(exact sv))
  | (refine DW.cond (by rfl) ?_ ?_<;>(first | exact i0_ | (intro hb;(try simp only [↓reduceCtorEq,not_true_eq_false,not_false_eq_true,hbs,Int.reduceBEq,Int.reduceBNe,Int.reduceEq] at hb);(try refine s_top7_dc ?_))))
  | ((with_reducible refine FVg_cases ?_ ?_)<;>(intro hb;rw [hb];revert hb;(first | exact i0_ | (intro hb;(try simp only [↓reduceCtorEq,not_true_eq_false,not_false_eq_true,hbs,Int.reduceBEq,Int.reduceBNe,Int.reduceEq] at hb);(try refine s_top7_dc ?_)))))
  | ((first | refine rn_ ?_ | refine kn_ ?_)<;>(refine s_top7_dc ?_))
  | ((refine on_ ?_);refine s_top7_dc ?_)
  | refine f_ ?_
  | with_reducible intro b)
 all_goals (refine ⟨_,_,le.of_eq ?_,⟨rfl,rfl⟩,SubP.refl⟩;rw [topT,hkm];rfl)
theorem s_fil7_dc {P Q:Prop} (q:Q) (h:Hid Q->P:=by (intro q;simp (maxSteps:=1000000) (disch:=omega) only [push_cast,↓reduceIte,reduceCtorEq,Nat.reduceAdd,Nat.reduceMul,Nat.reduceLT,Nat.reduceLeDiff,Nat.reduceEqDiff,Nat.reduceSub,Int.reduceToNat,Int.reduceLT,Int.reduceLE,Int.reduceAdd,Int.reduceSub,Int.reduceMul,Int.reduceNeg,Nat.reduceBEq,Int.reduceBEq,Int.reduceBNe,Nat.reduceBNe,Int.reduceEq,hkm];exact q.1)):P:=h ⟨q⟩
theorem fil7_dc (k:Int) (F:Own):(0<=k/\k<=255)->DC Tryd.prog 12 [.int .u8 k] (([]:Own)++F) fun d G=>d = .str (filT k)/\G=[]++F:=by
 intro hA
 obtain ⟨h0,h1⟩:=hA
 refine DC.bodyS (n_:=8) (show Tryd.prog.funcs[12]? = some Tryd.f12 by kernel_rfl) rfl rfl (by rfl) ?_
 simp only [env0,List.cons_append,List.nil_append]
 have kw:=ksIs [0,2]
 have ow:=ownIs []
 have q0:=Int.tmod_nonneg 10 h0;have q1:=Int.tmod_lt_of_pos k (show (0:Int)<10 by decide)
 rcases (show k.tmod 10=0\/k.tmod 10=1\/k.tmod 10=2\/k.tmod 10=3\/k.tmod 10=4\/k.tmod 10=5\/k.tmod 10=6\/k.tmod 10=7\/k.tmod 10=8\/k.tmod 10=9 by omega) with hkm | hkm | hkm | hkm | hkm | hkm | hkm | hkm | hkm | hkm
 repeat' (first
  | refine g_ ?_
  | ((with_reducible refine And.intro ?_ ?_);(exact sv))
  | (refine DW.cond (by rfl) ?_ ?_<;>(first | exact i0_ | (intro hb;(try simp only [↓reduceCtorEq,not_true_eq_false,not_false_eq_true,hbs,Int.reduceBEq,Int.reduceBNe,Int.reduceEq] at hb);(try refine s_fil7_dc ?_))))
  | ((with_reducible refine FVg_cases ?_ ?_)<;>(intro hb;rw [hb];revert hb;(first | exact i0_ | (intro hb;(try simp only [↓reduceCtorEq,not_true_eq_false,not_false_eq_true,hbs,Int.reduceBEq,Int.reduceBNe,Int.reduceEq] at hb);(try refine s_fil7_dc ?_)))))
  | ((first | refine rn_ ?_ | refine kn_ ?_)<;>(refine s_fil7_dc ?_))
  | ((refine on_ ?_);refine s_fil7_dc ?_)
  | refine f_ ?_
  | with_reducible intro b)
 all_goals (refine ⟨_,_,le.of_eq ?_,⟨rfl,rfl⟩,SubP.refl⟩;rw [filT,hkm];rfl)
end
section
def kyT (k:Int):Str:=if k.tmod 2=0 then [107] else [106]
def pairT (a:TAct):Str×Str:=(filT a.f,kyT a.k)
theorem pairT_0 {a:TAct} (h:a.k.tmod 2=0):pairT a=(filT a.f,[107]):=by unfold pairT kyT;rw [if_pos h]
theorem pairT_1 {a:TAct} (h:a.k.tmod 2=1):pairT a=(filT a.f,[106]):=by unfold pairT kyT;rw [if_neg (by omega)]
structure KS (l:List TAct) (a b:Nat) (L:TL):Prop where
 len:L.length<=b - a
 mem:∀ p,p∈L.map (·.1)↔∃ j,a<=j/\j<b/\p=pairT (l.getD j default)
section
variable {l:List TAct} {L L':TL} {a b i:Nat} {q:Int}
theorem ks_0 (l:List TAct) (a:Nat):KS l a a []:=⟨Nat.zero_le _,fun p=>⟨fun h=>(nomatch h),fun ⟨j,h1,h2,_⟩=>absurd h2 (by omega)⟩⟩
theorem ks_up (h:KS l a i L) (hi:a<=i):KS l a (i+1) (updA (pairT (l.getD i default)) q L):=by
 refine ⟨?_,fun p=>?_⟩
 · have:=h.len;have:=upd_len1 (k:=pairT (l.getD i default)) (v:=q) (l:=L);omega
 · rw [updA_keys,h.mem]
   constructor
   · rintro (rfl | ⟨j,h1,h2,h3⟩)
     · exact ⟨i,hi,Nat.lt_succ_self _,rfl⟩
     · exact ⟨j,h1,by omega,h3⟩
   · rintro ⟨j,h1,h2,h3⟩
     rcases Nat.lt_or_eq_of_le (Nat.le_of_lt_succ h2) with h4 | rfl
     · exact .inr ⟨j,h1,h4,h3⟩
     · exact .inl h3
theorem ks_down (h:KS l (i+1) b L) (hi:i<b):KS l i b (updA (pairT (l.getD i default)) q L):=by
 refine ⟨?_,fun p=>?_⟩
 · have:=h.len;have:=upd_len1 (k:=pairT (l.getD i default)) (v:=q) (l:=L);omega
 · rw [updA_keys,h.mem]
   constructor
   · rintro (rfl | ⟨j,h1,h2,h3⟩)
     · exact ⟨i,Nat.le_refl _,hi,rfl⟩
     · exact ⟨j,by omega,h2,h3⟩
   · rintro ⟨j,h1,h2,h3⟩
     rcases Nat.lt_or_eq_of_le h1 with h4 | rfl
     · exact .inr ⟨j,h4,h2,h3⟩
     · exact .inl h3
theorem ks_len (h:KS l a b L) (hb:b<=1000):L.length<=1000:=by have:=h.len;omega
theorem ks_all (hn:(L.map (·.1)).Nodup) (hn':(L'.map (·.1)).Nodup) (h:KS l a b L) (h':KS l a b L') (n:Str) :
  (matchL L n).map (·.1)=(matchL L' n).map (·.1)/\L.length=L'.length/\filtersL L=filtersL L':=by
 have hk:∀ p,p∈L.map (·.1)↔p∈L'.map (·.1):=fun p=>by rw [h.mem,h'.mem]
 refine ⟨up_uniq (matchL_up L n) (matchL_up L' n) fun x=>?_,Nat.le_antisymm ?_ ?_,up_uniq (filters_is L).1 (filters_is L').1 fun x=>?_⟩
 · have key:∀ M:TL,x∈(matchL M n).map (·.1)↔∃ p∈M.map (·.1),matchB p.1 n=true/\p.2=x:=fun M=>by
    rw [<-lookA_isSome,matchL_look]
    constructor
    · intro hs
      obtain ⟨q,hq⟩:=Option.isSome_iff_exists.1 hs
      obtain ⟨⟨e,he,h3⟩,_⟩:=(foldG_some _ _).1 hq
      split at h3
      · rename_i hc;exact ⟨e.1,List.mem_map.2 ⟨e,he,rfl⟩,hc⟩
      · cases h3
    · rintro ⟨p,hp,hc⟩
      obtain ⟨e,he,rfl⟩:=List.mem_map.1 hp
      cases hq:foldG (fun e=>if matchB e.1.1 n=true/\e.1.2=x then some e.2 else none) M none with
      | some q=>rfl
      | none=>have:=foldG_empty hq e he;rw [if_pos hc] at this;cases this
   rw [key,key]
   exact ⟨fun ⟨p,h1,h2⟩=>⟨p,(hk p).1 h1,h2⟩,fun ⟨p,h1,h2⟩=>⟨p,(hk p).2 h1,h2⟩⟩
 · have:=len_le hn fun p hp=>(hk p).1 hp
   simpa using this
 · have:=len_le hn' fun p hp=>(hk p).2 hp
   simpa using this
 · rw [(filters_is L).2,(filters_is L').2]
   constructor
   · rintro ⟨e,he,rfl⟩
     obtain ⟨e',he',h1⟩:=List.mem_map.1 ((hk e.1).1 (List.mem_map.2 ⟨e,he,rfl⟩))
     exact ⟨e',he',by rw [h1]⟩
   · rintro ⟨e,he,rfl⟩
     obtain ⟨e',he',h1⟩:=List.mem_map.1 ((hk e.1).2 (List.mem_map.2 ⟨e,he,rfl⟩))
     exact ⟨e',he',by rw [h1]⟩
theorem keys_get {X Y:List (Str×Int)} (h:X.map (·.1)=Y.map (·.1)) (k:Nat):(X.getD k default).1=(Y.getD k default).1:=by
 have:=congrArg (fun z=>z.getD k default) h
 simp only [List.getD_eq_getElem?_getD,List.getElem?_map] at this ⊢
 cases hx:X[k]? <;> cases hy:Y[k]? <;> rw [hx,hy] at this<;>exact this
theorem keys_up {X:List (Str×Int)} (h:upS (X.map (·.1))) {k:Nat} (hk:k+1<X.length):(X.getD k default).1<(X.getD (k+1) default).1:=by
 have:=List.pairwise_iff_getElem.1 h k (k+1) (by rw [List.length_map];omega) (by rw [List.length_map];omega) (Nat.lt_succ_self _)
 rw [List.getElem_map,List.getElem_map] at this
 rw [List.getD_eq_getElem?_getD,List.getD_eq_getElem?_getD,List.getElem?_eq_getElem (by omega),List.getElem?_eq_getElem hk]
 exact this
theorem matchL_len (L:TL) (n:Str):(matchL L n).length<=L.length:=by
 have:=len_le (l:=(matchL L n).map (·.1)) (l':=L.map (·.1.2)) (up_nodup (matchL_up L n)) fun x hx=>by
  rw [<-lookA_isSome,matchL_look] at hx
  obtain ⟨q,hq⟩:=Option.isSome_iff_exists.1 hx
  obtain ⟨⟨e,he,h3⟩,_⟩:=(foldG_some _ _).1 hq
  split at h3
  · rename_i hc;exact List.mem_map.2 ⟨e,he,hc.2⟩
  · cases h3
 simpa using this
theorem keys_pre {X:List (Str×Int)} (h:upS (X.map (·.1))) {k:Nat} (h0:0<k) (hk:k<X.length):Op.bytesLess (X.getD ((k:Int) - 1).toNat default).1 (X.getD k default).1=true:=by
 obtain ⟨k,rfl⟩:∃ j,k=j+1:=⟨k - 1,by omega⟩
 rw [show (((k+1:Nat):Int) - 1).toNat=k by omega,Go.Proofs.bytesLess_eq]
 exact decide_eq_true (keys_up h hk)
theorem filtersL_len:∀ L:TL,(filtersL L).length<=L.length:=fun L=>by
 have:=len_le (l:=filtersL L) (l':=L.map (·.1.1)) (up_nodup (filters_is L).1) fun x hx=>by
  obtain ⟨e,he,h⟩:=((filters_is L).2 x).1 hx
  exact List.mem_map.2 ⟨e,he,h⟩
 simpa using this
end
def fsV (l:List TAct) (k:Nat):List V:=(l.take k).map fun a=>.str (filT a.f)
theorem fsV_0 (l:List TAct):fsV l 0=[]:=rfl
theorem fsV_len {l:List TAct} {k:Nat} (h:k<=l.length):(fsV l k).length=k:=by unfold fsV;rw [List.length_map,List.length_take];omega
theorem fsV_n (l:List TAct) (k:Nat):∀ y∈fsV l k,y.n=1:=fun y hy=>by
 obtain ⟨x,_,rfl⟩:=List.mem_map.1 hy;rfl
theorem fsV_s {l:List TAct} {k:Nat} (h:k<l.length):fsV l k++[.str (filT (l.getD k default).f)]=fsV l (k+1):=by
 unfold fsV;rw [List.take_add_one,List.map_append,List.getElem?_eq_getElem h,List.getD_eq_getElem?_getD,List.getElem?_eq_getElem h];rfl
theorem fsV_at {l:List TAct} {j k:Nat} (h:j<k) (hk:k<=l.length):(fsV l k).getD j .any = .str (filT (l.getD j default).f):=by
 unfold fsV
 rw [List.getD_eq_getElem?_getD,List.getElem?_map,List.getElem?_take,if_pos h,List.getD_eq_getElem?_getD,List.getElem?_eq_getElem (by omega)]
 rfl
def eqK {α:Type} [Inhabited α] (l m:List α) (k:Nat):Prop:=∀ j,j<k->l.getD j default=m.getD j default
theorem eqK_0 {α:Type} [Inhabited α] (l m:List α):eqK l m 0:=fun j h=>absurd h (Nat.not_lt_zero _)
theorem eqK_s {α:Type} [Inhabited α] {l m:List α} {k:Nat} (h:eqK l m k) (e:l.getD k default=m.getD k default):eqK l m (k+1):=fun j hj=>by
 rcases Nat.lt_or_eq_of_le (Nat.le_of_lt_succ hj) with h1 | rfl
 · exact h j h1
 · exact e
theorem eqK_all {α:Type} [Inhabited α] {l m:List α} {k:Nat} (h:eqK l m k) (hk:l.length<=k) (hl:l.length=m.length):l=m:=by
 apply List.ext_getElem hl
 intro i h1 h2
 have:=h i (by omega)
 rwa [List.getD_eq_getElem?_getD,List.getD_eq_getElem?_getD,List.getElem?_eq_getElem h1,List.getElem?_eq_getElem h2] at this
theorem oput_dc (m:Int) (t:Nat) (s:TS) (k:Int) (ky:Str) (q:Int) (F:Own):(TOK s/\s.L.length<=1000/\0<=k/\ky.length<=1000)->DC Tryd.prog 9 [.raw (.pointer (some ⟨t,0,none⟩)), .str (filT k), .str ky, .int .i64 q] ((knF::knA::knM m::(ownT t s++[]))++F) fun d G=>∃ s':TS,(TOK s'/\s'.L=updA (filT k,ky) q s.L)/\d = .tup [.int .i64 (wasL s.L (filT k) ky), .bool (hadL s.L (filT k) ky)]/\G=knF::knA::knM m::(ownT t s'++F):=fun ⟨h,h1,h2,h7⟩=>by
 have hf:=filT_ok h2
 refine (put_dc m t s (filT k) ky q F ⟨h,by omega,by omega,by omega⟩).mono fun d G hd=>?_
 obtain ⟨s',h3,h4,h5,h6⟩:=hd
 exact ⟨s',⟨h3,by rw [h4,putL,if_pos hf.1]⟩,h5,h6⟩
theorem omat_dc (m:Int) (t:Nat) (s:TS) (k:Int) (F:Own):(TOK s/\s.L.length<=1000/\0<=k)->DC Tryd.prog 10 [.raw (.pointer (some ⟨t,0,none⟩)), .str (topT k)] ((loose::knF::knA::knM m::(ownT t s++[]))++F) fun d G=>d = .sl ((matchL s.L (topT k)).map encHit)/\G=(loose::knF::knA::knM m::(ownT t s++[]))++F:=fun ⟨h,h1,h2⟩=>by
 have hf:=topT_ok h2
 exact tmatchT_dc m t s (topT k) F ⟨h,by omega,by omega⟩
theorem ofil_dc (t:Nat) (s:TS) (F:Own):(TOK s/\s.L.length<=1000)->DC Tryd.prog 15 [.raw (.pointer (some ⟨t,0,none⟩))] ((loose::(ownT t s++[]))++F) fun d G=>d = .sl ((filtersL s.L).map V.str)/\G=(loose::(ownT t s++[]))++F:=fun ⟨h,h1⟩=>tfil_dc t s F ⟨h,by omega⟩
attribute [local irreducible] DW SeqD DV DOp DC DVX
theorem strsH_dc (l q:List Str) (F:Own):(l.length<=1000000000/\q.length<=1000000000)->DC Tryd.prog 16 [.sl (l.map V.str), .sl (q.map V.str)] (([]:Own)++F) fun d G=>d = .bool (decide (l=q))/\G=[]++F:=by
 intro hA
 obtain ⟨hl,hq⟩:=hA
 refine DC.bodyS (n_:=26) (show Tryd.prog.funcs[16]? = some Tryd.f16 by kernel_rfl) rfl rfl (by rfl) ?_
 simp only [env0,List.cons_append,List.nil_append]
 have kw:=ksIs [0,1,4,5,10,14,25]
 have ow:=ownIs []
 have dw6:=drIs 6 [] [3,7]
 repeat' (first
  | ((with_reducible refine DW.loopB 0 (X:=Nat) (fun x=>x<=l.length/\eqK l q x) (fun x=>[(0, .sl (l.map V.str)),(1, .sl (q.map V.str)),(5, .int .i64 x)]) (fun x=>([]:Own)) (fun x=>l.length - x) (0) ?_ ?_ ?_);exact (⟨Nat.zero_le _,eqK_0 _ _⟩);(simp [Sub,get,keepL]<;>fail);(try simp only [List.cons_append,List.nil_append]);refine pl_ ?_;intro k ⟨hk,ek⟩;(try simp only [List.cons_append,List.nil_append]))
  | refine g_ ?_
  | ((with_reducible refine And.intro ?_ ?_);(exact sv))
  | (refine DW.cond (by rfl) ?_ ?_<;>(first | exact i0_ | (refine ic_ ?_;intro hb)))
  | ((with_reducible first | refine FVg_cases ?_ ?_ | refine FDg_cases ?_ ?_)<;>(intro hb;rw [hb];revert hb;(first | exact i0_ | (refine i_ ?_;intro hb))))
  | refine r_ ?_
  | refine d_ ?_
  | refine k_ ?_
  | refine vo_ ?_
  | refine o_ ?_
  | refine f_ ?_
  | refine vm_ ?_
  | with_reducible intro b)
 all_goals first
 | ((rw [show decide (l=q)=true from decide_eq_true (eqK_all ek (by omega) (by omega))];(first | exact fin_ | refine finq_ ?_);done))
 | (refine ⟨k+1,⟨by omega,eqK_s ek hb⟩,by omega,by simp [Sub,get],?_⟩;(exact sub_);done)
 | ((rw [show decide (l=q)=false from decide_eq_false (fun e=>by subst e;first | (exact absurd rfl hb) | (simp at hb;done) | omega)];(first | exact fin_ | refine finq_ ?_);done))
end
end Go.Proofs.YtifdpbghkccaoaaDoor
