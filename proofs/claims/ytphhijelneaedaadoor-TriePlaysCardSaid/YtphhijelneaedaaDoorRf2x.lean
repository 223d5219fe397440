/- Which bytes are texts: from rune to rune. -/
import Derived.Test.YtphhijelneaedaaDoorLpx
import Derived.KernelRfl
import Derived.Test.YtphhijelneaedaaDoorEu
namespace Go.Proofs.YtphhijelneaedaaDoor
open Go.RowKit
set_option linter.unusedSimpArgs false
set_option linter.unusedVariables false
set_option linter.unusedSectionVars false
set_option maxHeartbeats 4000000
set_option maxRecDepth 100000
section
attribute [local irreducible] DW SeqD DV DOp DC DVX
def chkF:Nat->Str->Bool
 | 0,_=>true
 | f+1,l=>if l.length=0 then true else (stepM l).2.2&&(stepM l).1 != 0&&chkF f (l.drop (stepM l).2.1.toNat)
def chkB (l:Str):Bool:=chkF l.length l
theorem chkF_nil:∀ f,chkF f []=true
 | 0=>rfl
 | f+1=>by unfold chkF;simp
theorem chkF_more (f:Nat) {l:Str} (h:l.length≠0):chkF (f+1) l=((stepM l).2.2&&(stepM l).1 != 0&&chkF f (l.drop (stepM l).2.1.toNat)):=by
 conv=>lhs;unfold chkF
 rw [if_neg h]
theorem dropM1 (n:Nat) (l:Str):List.drop n (List.map u8 l)=List.map u8 (List.drop n l):=List.map_drop.symm
theorem takeM1 (n:Nat) (l:Str):List.take n (List.map u8 l)=List.map u8 (List.take n l):=List.map_take.symm
theorem takeL1 (l:Str):List.take l.length l=l:=List.take_length
theorem chk_bad {l:Str} {f k:Nat} (hk:k<l.length) (hf:l.length - k<=f) (h:(stepM (l.drop k)).2.2=false\/(stepM (l.drop k)).1=0):chkF f (l.drop k)=false:=by
 obtain ⟨g,rfl⟩:∃ g,f=g+1:=⟨f - 1,by omega⟩
 rw [chkF_more g (by rw [List.length_drop];omega)]
 rcases h with h | h<;>rw [h]<;>simp
theorem chk_go {l:Str} {f k:Nat} (hk:k<l.length) (hf:l.length - k<=f) (h1:(stepM (l.drop k)).2.2=true) (h2:¬ (stepM (l.drop k)).1=0):∃ m g:Nat,((stepM (l.drop k)).2.1=(m:Int))/\1<=m/\k+m<=l.length/\l.length - (k+m)<=g/\chkF f (l.drop k)=chkF g (l.drop (k+m)):=by
 obtain ⟨g,rfl⟩:∃ g,f=g+1:=⟨f - 1,by omega⟩
 have hne:l.drop k≠[]:=fun e=>by have:=congrArg List.length e;rw [List.length_drop] at this;simp at this;omega
 obtain ⟨a1,a2⟩:=stepM_ok hne h1
 rw [List.length_drop] at a2
 refine ⟨(stepM (l.drop k)).2.1.toNat,g,by omega,by omega,by omega,by omega,?_⟩
 rw [chkF_more g (by rw [List.length_drop];omega),h1,List.drop_drop]
 have:((stepM (l.drop k)).1 != 0)=true:=by simpa using h2
 rw [this]
 rfl
theorem sv_check_dc {p:Prop} (h:p:=by first | exact sv | (simp [u8];omega) | (simp [u8]<;>omega) | (simp only [List.length_drop];omega) | fail):p:=h
section
attribute [local push_cast 2000] dropM1 takeM1 takeL1 List.length_drop
theorem check_dc (l:Str) (F:Own):(l.length<=1000000000)->DC Tryd.prog 86 [.sl (l.map u8)] (([]:Own)++F) fun d G=>∃ i:Int,d = .int .i64 i/\decide (i<0)=chkB l/\G=[]++F:=by
 intro hA
 have hl:=hA
 refine DC.bodyS (n_:=29) (show Tryd.prog.funcs[86]? = some Tryd.f86 by kernel_rfl) rfl rfl (by rfl) ?_
 simp only [env0,List.cons_append,List.nil_append]
 have kw:=ksIs [0,2,3,4,5,6,10,24]
 have ow:=ownIs []
 repeat' (first
  | ((with_reducible refine DW.loopB 0 (X:=Nat) (fun x=>x<=l.length/\∃ f,l.length - x<=f/\chkB l=chkF f (l.drop x)) (fun x=>[(0, .sl (l.map u8)),(3, .int .i64 x)]) (fun x=>([]:Own)) (fun x=>l.length - x) (0) ?_ ?_ ?_);exact (⟨Nat.zero_le _,l.length,by omega,by rw [List.drop_zero];rfl⟩);(simp [Sub,get,keepL]<;>fail);(try simp only [List.cons_append,List.nil_append]);refine pl_ ?_;intro k ⟨hk,f,hf,ha⟩;(try simp only [List.cons_append,List.nil_append]))
  | refine g_ ?_
  | ((with_reducible refine And.intro ?_ ?_);(exact sv_check_dc))
  | (refine DW.cond (by rfl) ?_ ?_<;>(first | exact i0_ | (refine ic_ ?_;intro hb)))
  | ((with_reducible refine FVg_cases ?_ ?_)<;>(intro hb;rw [hb];revert hb;(first | exact i0_ | (refine i_ ?_;intro hb))))
  | refine r_ ?_
  | refine k_ ?_
  | (refine q_ (step_dc _ _) ?_ (ha:=by exact sv_check_dc))
  | refine o_ ?_
  | refine f_ ?_
  | with_reducible intro b)
 all_goals first
 | (have hkl:k=l.length:=by omega
    subst hkl
    rw [List.drop_length,chkF_nil] at ha
    refine ⟨_,_,le.rfl_,⟨-1,rfl,by rw [ha];rfl,rfl⟩,SubP.refl⟩)
 | (have hb2:=chk_bad (show k<l.length by omega) hf (by first | (left;assumption) | (right;assumption))
    rw [hb2] at ha
    refine ⟨_,_,le.rfl_,⟨(k:Int),rfl,by rw [ha];exact decide_eq_false (by omega),rfl⟩,SubP.refl⟩)
 | (obtain ⟨m,g,e1,e2,e3,e4,e5⟩:=chk_go (show k<l.length by omega) hf (by assumption) (by assumption)
    refine ⟨k+m,⟨e3,g,e4,by rw [ha,e5]⟩,by omega,?_,?_⟩;(simp [Sub,get,e1,wrap_i64 ((k:Int)+(m:Int)) (by omega) (by omega)]<;>fail);(exact sub_);done)
end
def textB (t:Str):Bool:=decide (1<=t.length)&&decide (t.length<=65535)&&chkB t
theorem rtext6_dc (t:Str) (F:Own):(t.length<=1000000000)->DC Tryd.prog 64 [.str t] (([]:Own)++F) fun d G=>d = .bool (textB t)/\G=[]++F:=by
 intro hA
 have ht:=hA
 refine DC.bodyS (n_:=17) (show Tryd.prog.funcs[64]? = some Tryd.f64 by kernel_rfl) rfl rfl (by rfl) ?_
 simp only [env0,List.cons_append,List.nil_append]
 have kw:=ksIs [0,2]
 have ow:=ownIs []
 repeat' (first
  | refine g_ ?_
  | ((with_reducible refine And.intro ?_ ?_);(exact sv))
  | (refine DW.cond (by rfl) ?_ ?_<;>(first | exact i0_ | (refine ic_ ?_;intro hb)))
  | ((with_reducible refine FVg_cases ?_ ?_)<;>(intro hb;rw [hb];revert hb;(first | exact i0_ | (refine i_ ?_;intro hb))))
  | refine r_ ?_
  | refine k_ ?_
  | (refine p_ (check_dc _ _) ?_;rintro d H1 ⟨i1,rfl,hi1,rfl⟩<;>refine s_ ?_)
  | refine o_ ?_
  | refine f_ ?_
  | with_reducible intro b)
 all_goals first
 | (have e:textB t=false:=by unfold textB;first | (rw [decide_eq_false (by omega)];rfl) | (rw [decide_eq_false (show ¬ t.length<=65535 by omega)];simp)
    rw [e];refine ⟨_,_,le.rfl_,⟨rfl,rfl⟩,?_⟩;(exact sub_);done)
 | (have e:textB t=chkB t:=by unfold textB;rw [decide_eq_true (by omega),decide_eq_true (by omega)];rfl
    rw [e,<-hi1];refine ⟨_,_,le.rfl_,⟨rfl,rfl⟩,?_⟩;(exact sub_);done)
def nameB (t:Str):Bool:=textB t && !hasC t 43 && !hasC t 35
theorem rname_dc (t:Str) (F:Own):(t.length<=1000000000)->DC Tryd.prog 74 [.str t] (([]:Own)++F) fun d G=>d = .bool (nameB t)/\G=[]++F:=by
 intro hA
 have ht:=hA
 refine DC.bodyS (n_:=15) (show Tryd.prog.funcs[74]? = some Tryd.f74 by kernel_rfl) rfl rfl (by rfl) ?_
 simp only [env0,List.cons_append,List.nil_append]
 have kw:=ksIs [0,2]
 have ow:=ownIs []
 repeat' (first
  | refine g_ ?_
  | ((with_reducible refine And.intro ?_ ?_);(exact sv))
  | (refine DW.cond (by rfl) ?_ ?_<;>(first | exact i0_ | (refine ic_ ?_;intro hb)))
  | ((with_reducible refine FVg_cases ?_ ?_)<;>(intro hb;rw [hb];revert hb;(first | exact i0_ | (refine i_ ?_;intro hb))))
  | refine r_ ?_
  | refine k_ ?_
  | ((first | refine q_ (rtext6_dc _ _) ?_ | refine q_ (hasc_dc _ _ _) ?_))
  | refine o_ ?_
  | refine f_ ?_
  | with_reducible intro b)
 all_goals
  refine ⟨_,_,le.of_eq ?_,⟨rfl,rfl⟩,SubP.refl⟩
  unfold nameB
  first | rfl | simp_all
end
section
attribute [local irreducible] DW SeqD DV DOp DC DVX
def levStep (acc:List Str) (c:UInt8):List Str:=if (c.toNat:Int)=47 then acc++[[]] else acc.set (acc.length - 1) (acc.getD (acc.length - 1) []++[c])
def lev (t:Str) (k:Nat):List Str:=(t.take k).foldl levStep [[]]
theorem lev_0 (t:Str):lev t 0=[[]]:=rfl
theorem take_more0 (l:Str) (k:Nat) (h:k<l.length):l.take (k+1)=l.take k++[l.getD k 0]:=by rw [List.take_add_one];simp [List.getD_eq_getElem?_getD,h]
theorem lev_more {t:Str} {k:Nat} (h:k<t.length):lev t (k+1)=levStep (lev t k) (t.getD k 0):=by rw [lev,take_more0 t k h,List.foldl_append];rfl
theorem levStep_len (acc:List Str) (c:UInt8):acc.length<=(levStep acc c).length/\(levStep acc c).length<=acc.length+1:=by
 unfold levStep;split<;>simp
theorem toNat_pred {n:Nat} (h:1<=n):((n:Int) - 1).toNat=n - 1:=by omega
theorem drop_take1 {t:Str} {k:Nat} (h:k<t.length):List.drop k (List.take ((k:Int)+1).toNat t)=[t.getD k 0]:=by
 rw [show ((k:Int)+1).toNat=k+1 from by omega,take_more0 t k h,List.drop_append,List.drop_of_length_le (by rw [List.length_take];omega),List.nil_append,List.length_take,Nat.min_eq_left (by omega),Nat.sub_self];rfl
theorem lev_bound {t:Str} {k:Nat} (h:k<=t.length):∀ j,((lev t k).getD j []).length<=k:=by
 induction k with
 | zero=>intro j;rw [lev_0];cases j<;>simp
 | succ k ih =>
  intro j
  rw [lev_more (by omega),levStep]
  have h1:=ih (by omega)
  split
  · by_cases hj:j<(lev t k).length
    · have:=h1 j
      rw [List.getD_eq_getElem?_getD,List.getElem?_append_left hj,<-List.getD_eq_getElem?_getD];omega
    · rw [List.getD_eq_getElem?_getD,List.getElem?_append_right (by omega)]
      cases hq:j - (lev t k).length<;>simp
  · by_cases hj:j=(lev t k).length - 1
    · subst hj
      have:=h1 ((lev t k).length - 1)
      by_cases hl:(lev t k).length - 1<(lev t k).length
      · simp only [List.getD_eq_getElem?_getD,List.getElem?_set_self hl,Option.getD_some,List.length_append,List.length_singleton] at this ⊢;omega
      · rw [List.getD_eq_getElem?_getD,List.getElem?_eq_none (by simp;omega)];simp
    · have:=h1 j
      simp only [List.getD_eq_getElem?_getD,List.getElem?_set_ne (Ne.symm hj)] at this ⊢;omega
theorem lev_len {t:Str} {k:Nat} (h:k<=t.length):1<=(lev t k).length/\(lev t k).length<=k+1:=by
 induction k with
 | zero=>simp [lev_0]
 | succ k ih=>rw [lev_more (by omega)];have:=levStep_len (lev t k) (t.getD k 0);have:=ih (by omega);omega
theorem lay_app6 (a b d:List V) (m:Nat):layV (a++b) (a.length+m) d=a++layV b m d:=by
 unfold layV
 rw [List.take_append,List.take_of_length_le (by omega),List.drop_append,List.drop_of_length_le (by omega),List.nil_append,Nat.add_sub_cancel_left,show a.length+m+d.length - a.length=m+d.length from by omega]
 simp [List.append_assoc]
def strs (l:List Str):List V:=l.map .str
theorem strs_one:strs [[]]=[V.str []]:=rfl
theorem strs_len (l:List Str):(strs l).length=l.length:=by simp [strs]
theorem strs_cells (l:List Str):cells (strs l)=strs l:=by
 induction l with
 | nil=>rfl
 | cons a l ih=>show cells (.str a::strs l) = .str a::strs l;rw [cells_cons,ih];rfl
theorem strs_get (l:List Str) (k:Nat) (h:k<l.length):(strs l).getD k .any = .str (l.getD k []):=by simp [strs,List.getD_eq_getElem?_getD,h]
theorem strs_set (l:List Str) (k:Nat) (s:Str) (h:k<l.length):layV (strs l) k [.str s]=strs (l.set k s):=by
 unfold strs
 induction l generalizing k with
 | nil=>cases h
 | cons a l ih =>
  cases k with
  | zero=>rfl
  | succ k =>
   have:=ih k (by simpa using h)
   rw [List.set_cons_succ,List.map_cons,List.map_cons,<-this]
   show layV ([V.str a]++_) (k+1) _=_
   rw [show k+1=([V.str a]:List V).length+k from by simp;omega,lay_app6];rfl
theorem strs_snoc (l:List Str) (s:Str):strs l++[V.str s]=strs (l++[s]):=by simp [strs]
theorem levStep_1 {acc:List Str} {c:UInt8} (h:(c.toNat:Int)=47):levStep acc c=acc++[[]]:=by rw [levStep,if_pos h]
theorem levStep_2 {acc:List Str} {c:UInt8} (h:¬ (c.toNat:Int)=47):levStep acc c=acc.set (acc.length - 1) (acc.getD (acc.length - 1) []++[c]):=by rw [levStep,if_neg h]
theorem sv_levels_dc {p:Prop} (h:p:=by first | exact sv | (have hlb1:=hlb ((((lev t k).length:Int) - 1).toNat);simp only [List.length_take];omega) | fail):p:=h
section
attribute [local push_cast 2000] u8 strs_len strs_get strs_set strs_snoc lev_0 strs_one
theorem levels_dc (t:Str) (F:Own):(t.length<=65535)->DC Tryd.prog 65 [.str t] (([]:Own)++F) fun d G=>d = .sl (strs (lev t t.length))/\G=[]++F:=by
 intro hA
 have ht:=hA
 refine DC.bodyS (n_:=33) (show Tryd.prog.funcs[65]? = some Tryd.f65 by kernel_rfl) rfl rfl (by rfl) ?_
 simp only [env0,lev_0,strs_one,List.cons_append,List.nil_append]
 have kw:=ksIs [0,2,3,4,9,15]
 have ow:=ownIs [5]
 have dw7:=drIs 7 [13] [5]
 repeat' (first
  | ((with_reducible apply DW.frzR 8);(repeat (with_reducible first | refine OnA.here ?_ | refine OnA.next ?_));refine ⟨(strs_cells _).symm,by decide,(by intro y hy;obtain ⟨z,_,rfl⟩:=List.mem_map.1 hy;rfl),?_,?_⟩;(repeat (first | exact CvE.nil | apply CvE.cons (Cv.hit _) | apply CvE.cons (Cv.rfl _))))
  | ((with_reducible refine DW.loopB 0 (X:=Nat×Value) (fun x=>x.1<=t.length) (fun x=>[(0, .str t),(3, .ar x.2 (lev t x.1).length),(4, .int .i64 x.1)]) (fun x=>.arr 1 x.2 (strs (lev t x.1))::([]:Own)) (fun x=>t.length - x.1) ((0,b)) ?_ ?_ ?_);exact (Nat.zero_le _);(simp [Sub,get,keepL,lev_0]<;>fail);(try simp only [lev_0,strs_one,List.cons_append,List.nil_append]);refine pl_ ?_;intro ⟨k,v⟩ hk;(try simp only [lev_0,strs_one,List.cons_append,List.nil_append]);have hll:=lev_len hk;simp only at hk hll;have hlb:=lev_bound hk)
  | refine g_ ?_
  | ((with_reducible refine And.intro ?_ ?_);(exact sv_levels_dc))
  | (refine DW.cond (by rfl) ?_ ?_<;>(first | exact i0_ | (refine ic_ ?_;intro hb)))
  | ((with_reducible first | refine FVg_cases ?_ ?_ | refine FDg_cases ?_ ?_)<;>(intro hb;rw [hb];revert hb;(first | exact i0_ | (refine i_ ?_;intro hb))))
  | refine r_ ?_
  | refine d_ ?_
  | refine k_ ?_
  | refine vo_ ?_
  | ((first | (refine DOp.lista_ [5] rfl rfl ?_) | (refine DOp.makea_ [5] rfl rfl rfl rfl ?_))<;>(refine s_ ?_))
  | refine o_ ?_
  | refine f_ ?_
  | refine vm_ ?_
  | with_reducible intro b)
 all_goals first
 | (have e:=(lev_more (show k<t.length by omega)).trans (levStep_1 hb)
    rw [<-e]
    refine ⟨(k+1,b),?_,?_,?_,?_⟩;(((try simp only);omega));(((try simp only);omega));(simp [Sub,get,e]<;>(fail));(try dsimp only);(exact sub_);done)
 | (have e:=(lev_more (show k<t.length by omega)).trans (levStep_2 hb)
    rw [toNat_pred (show 1<=(lev t k).length by omega),drop_take1 (show k<t.length by omega),<-e]
    refine ⟨(k+1,v),?_,?_,?_,?_⟩;(((try simp only);omega));(((try simp only);omega));(simp [Sub,get,e]<;>(fail));(try dsimp only);(exact sub_);done)
 | (have hkl:k=t.length:=by omega
    subst hkl
    (first | exact fin_ | refine finq_ ?_);done)
end
def lvlOk (L:List Str) (i:Nat):Bool:=!(hasC (L.getD i []) 43&&L.getD i [] != [43]||hasC (L.getD i []) 35&&(L.getD i [] != [35]||decide (i+1<L.length)))
def filterB (t:Str):Bool:=textB t&&allK (lvlOk (lev t t.length)) (lev t t.length).length
theorem textB_len {t:Str} (h:textB t=true):1<=t.length/\t.length<=65535:=by
 unfold textB at h;simp only [Bool.and_eq_true,decide_eq_true_eq] at h;omega
def sNe (a b:Str):Bool:=a != b
theorem sNe_fold (a b:Str):(!(a==b))=sNe a b:=rfl
theorem lvl_no1 {L:List Str} {k:Nat} (h1:hasC (L.getD k []) 43=true) (h2:sNe (L.getD k []) [43]=true):lvlOk L k=false:=by
 unfold sNe at h2;unfold lvlOk;rw [h1,h2];rfl
theorem lvl_no2 {L:List Str} {k:Nat} (h1:hasC (L.getD k []) 35=true) (h2:sNe (L.getD k []) [35]=true\/k+1<L.length):lvlOk L k=false:=by
 unfold lvlOk
 rcases h2 with h2 | h2
 · unfold sNe at h2;rw [h1,h2];simp
 · rw [h1,decide_eq_true h2];simp
theorem lvl_ok {L:List Str} {k:Nat} (h1:hasC (L.getD k []) 43=false\/sNe (L.getD k []) [43]=false) (h2:hasC (L.getD k []) 35=false\/(sNe (L.getD k []) [35]=false/\L.length<=k+1)):lvlOk L k=true:=by
 unfold lvlOk
 have e1:(hasC (L.getD k []) 43&&L.getD k [] != [43])=false:=by
  rcases h1 with h | h
  · rw [h];rfl
  · unfold sNe at h;rw [h];simp
 have e2:(hasC (L.getD k []) 35&&(L.getD k [] != [35]||decide (k+1<L.length)))=false:=by
  rcases h2 with h | ⟨h,h'⟩
  · rw [h];rfl
  · unfold sNe at h;rw [h,decide_eq_false (by omega)];simp
 rw [e1,e2];rfl
theorem filterB_no1 {t:Str} (h:textB t=false):filterB t=false:=by rw [filterB,h];rfl
theorem filterB_no2 {t:Str} {k:Nat} (hk:k<(lev t t.length).length) (h:lvlOk (lev t t.length) k=false):filterB t=false:=by rw [filterB,allK_not h hk];simp
theorem filterB_ok {t:Str} (h:textB t=true) (h2:allK (lvlOk (lev t t.length)) (lev t t.length).length=true):filterB t=true:=by rw [filterB,h,h2];rfl
attribute [local irreducible] textB hasC lev lvlOk sNe
theorem sv_rfilter_dc {p:Prop} (h:p:=by first | exact sv | (have hq:=textB_len ‹textB t=true›;omega) | (have hq:=hlb k;omega) | fail):p:=h
section
attribute [local push_cast 2000] strs_len strs_get sNe_fold
theorem rfilter_dc (t:Str) (F:Own):(t.length<=1000000000)->DC Tryd.prog 32 [.str t] (([]:Own)++F) fun d G=>d = .bool (filterB t)/\G=[]++F:=by
 intro hA
 have ht:=hA
 refine DC.bodyS (n_:=49) (show Tryd.prog.funcs[32]? = some Tryd.f32 by kernel_rfl) rfl rfl (by rfl) ?_
 simp only [env0,List.cons_append,List.nil_append]
 have kw:=ksIs [0,2,3,4,7,13,48]
 have ow:=ownIs []
 repeat' (first
  | (have htx:=textB_len ‹textB t=true›;((with_reducible refine DW.loopB 0 (X:=Nat) (fun x=>x<=(lev t t.length).length/\allK (lvlOk (lev t t.length)) x=true) (fun x=>[(3, .sl (strs (lev t t.length))),(4, .int .i64 x)]) (fun x=>([]:Own)) (fun x=>(lev t t.length).length - x) (0) ?_ ?_ ?_);exact (⟨Nat.zero_le _,rfl⟩);(simp [Sub,get,keepL]<;>fail);(try simp only [List.cons_append,List.nil_append]);refine pl_ ?_;intro k ⟨hk,ha⟩;(try simp only [List.cons_append,List.nil_append]);have hlb:=lev_bound (t:=t) (Nat.le_refl _);have hll:=lev_len (t:=t) (Nat.le_refl _)))
  | refine g_ ?_
  | ((with_reducible refine And.intro ?_ ?_);(exact sv_rfilter_dc))
  | (refine DW.cond (by rfl) ?_ ?_<;>(first | exact i0_ | (refine ic_ ?_;intro hb)))
  | ((with_reducible refine FVg_cases ?_ ?_)<;>(intro hb;rw [hb];revert hb;(first | exact i0_ | (refine i_ ?_;intro hb))))
  | refine r_ ?_
  | refine k_ ?_
  | ((first | refine q_ (rtext6_dc _ _) ?_ (ha:=by exact sv_rfilter_dc) | refine q_ (hasc_dc _ _ _) ?_ (ha:=by exact sv_rfilter_dc) | refine q_ (levels_dc _ _) ?_ (ha:=by exact sv_rfilter_dc)))
  | refine o_ ?_
  | refine f_ ?_
  | with_reducible intro b)
 all_goals first
 | (rw [filterB_no1 (by assumption)];(first | exact fin_ | refine finq_ ?_);done)
 | (have e:filterB t=false:=filterB_no2 (k:=k) (by omega) (lvl_no1 (by assumption) (by assumption))
    rw [e];(first | exact fin_ | refine finq_ ?_);done)
 | (have e:filterB t=false:=filterB_no2 (k:=k) (by omega) (lvl_no2 (by assumption) (by first | assumption | (left;assumption) | (right;assumption) | (right;omega) | (right;exact ⟨by assumption,by omega⟩)))
    rw [e];(first | exact fin_ | refine finq_ ?_);done)
 | (have e:lvlOk (lev t t.length) k=true:=lvl_ok (by first | assumption | (left;assumption) | (right;assumption) | (right;omega) | (right;exact ⟨by assumption,by omega⟩)) (by first | assumption | (left;assumption) | (right;assumption) | (right;omega) | (right;exact ⟨by assumption,by omega⟩))
    refine ⟨k+1,⟨by omega,allK_next ha e⟩,by omega,by simp [Sub,get],?_⟩;(exact sub_);done)
 | (have hkl:k=(lev t t.length).length:=by omega
    rw [hkl] at ha
    rw [filterB_ok (by assumption) ha];(first | exact fin_ | refine finq_ ?_);done)
end
end
end Go.Proofs.YtphhijelneaedaaDoor
