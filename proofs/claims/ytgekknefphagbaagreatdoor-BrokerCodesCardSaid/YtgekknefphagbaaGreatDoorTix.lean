/- The trie: a pair goes. -/
import Derived.Test.YtgekknefphagbaaGreatDoorCzx
import Derived.KernelRfl
namespace Go.Proofs.YtgekknefphagbaaGreatDoor
open Go.RowKit
set_option linter.unusedSimpArgs false
set_option linter.unusedVariables false
set_option linter.unusedSectionVars false
set_option maxHeartbeats 4000000
set_option maxRecDepth 100000
section
def mDrop (m:List Str->Str->Option Int) (p:List Str) (k:Str):List Str->Str->Option Int:=fun q j=>if q=p/\j=k then none else m q j
theorem zkI {m:List Str->Str->Option Int} {p:List Str} {k:Str} (h:m p k=none):mDrop m p k=m:=by
 funext q j
 unfold mDrop
 split
 · rename_i e;rw [e.1,e.2,h]
 · rfl
structure DropP (h h':List Nd) (r:Nat) (m:List Str->Str->Option Int) (p l:List Str) (k:Str):Prop where
 tri:Tri h' r (mDrop m (p++l) k)
 keep:∀ q,(¬ p <+: q\/q=p)->fol h' r q=fol h r q
section
variable {h h1:List Nd} {r b c:Nat} {m:List Str->Str->Option Int} {p t:List Str} {x key:Str} {nd:Nd}
theorem znS (ht:Tri h r m) (hp:fol h r p=some b) (hx:fnd h b=some nd):DropP h (setN h { nd with keys:=za1 key nd.keys }) r m p [] key/\(m p key).isSome=(lookA key nd.keys).isSome:=by
 have hk:=ht.has _ _ _ hp hx
 have hn:=(ht.nn _ _ hx).2
 obtain ⟨t1,t2⟩:=ht.keys hp hx (zdn (k:=key) hn)
 have e:(fun q k=>if q=p then lookA k (za1 key nd.keys) else m q k)=mDrop m p key:=by
  funext q j
  unfold mDrop
  by_cases hq:q=p
  · subst hq
    rw [if_pos rfl,zdP hn,hk]
    by_cases hj:j=key
    · rw [if_pos hj,if_pos ⟨rfl,hj⟩]
    · rw [if_neg hj,if_neg (fun e=>hj e.2)]
  · rw [if_neg hq,if_neg (fun e=>hq e.1)]
 rw [e] at t1
 refine ⟨⟨by rw [List.append_nil];exact t1,fun q _=>t2 q⟩,by rw [hk]⟩
theorem zn6 (ht:Tri h r m) (hp:fol h r p=some b) (hx:fnd h b=some nd) (hl:lookA x nd.next=none):DropP h h r m p (x::t) key/\(m (p++x::t) key).isSome=false:=by
 have e:m (p++x::t) key=none:=ht.all _ _ (by
  rw [show p++x::t=(p++[x])++t by simp,zeX,ht.fkid hp hx,hl];rfl)
 exact ⟨⟨by rw [zkI e];exact ht,fun _ _=>rfl⟩,by rw [e];rfl⟩
theorem zmH (p:List Str) (x:Str):¬ (p++[x]) <+: p:=fun e=>by have:=e.length_le;simp at this;omega
theorem zmx (hp:fol h r p=some b) (hf:fol h r (p++[x])=some c) (D:DropP h h1 r m (p++[x]) t key):∃ nd1 nd2,fnd h1 c=some nd1/\fnd h1 b=some nd2/\lookA x nd2.next=some c/\fol h1 r p=some b/\fol h1 r (p++[x])=some c:=by
 have e1:fol h1 r p=some b:=by rw [D.keep _ (.inl (zmH p x)),hp]
 have e2:fol h1 r (p++[x])=some c:=by rw [D.keep _ (.inr rfl),hf]
 obtain ⟨nd1,h1'⟩:=D.tri.at e2
 obtain ⟨nd2,h2'⟩:=D.tri.at e1
 exact ⟨nd1,nd2,h1',h2',by rw [<-D.tri.fkid e1 h2',e2],e1,e2⟩
theorem zlM (D:DropP h h1 r m (p++[x]) t key):DropP h h1 r m p (x::t) key:=by
 have:=D.tri
 refine ⟨by rw [show p++x::t=(p++[x])++t by simp];exact this,fun q hq=>D.keep q ?_⟩
 rcases hq with hq | rfl
 · exact .inl fun e=>hq ((List.prefix_append p [x]).trans e)
 · exact .inl (zmH _ x)
theorem zl9 {nd1 nd2:Nd} (D:DropP h h1 r m (p++[x]) t key) (hy:fnd h1 c=some nd1) (hz:fnd h1 b=some nd2) (hl:lookA x nd2.next=some c) (e1:fol h1 r p=some b) (hn:nd1.next=[]) (hk:nd1.keys=[]):DropP h (setN h1 { nd2 with next:=za1 x nd2.next }) r m p (x::t) key:=by
 have D2:=zlM D
 obtain ⟨t1,t2⟩:=D2.tri.prune e1 hz hl hy hn hk
 refine ⟨t1,fun q hq=>?_⟩
 rw [t2 q,D2.keep q hq]
 rcases hq with hq | rfl
 · exact fun e=>hq ((List.prefix_append p [x]).trans e)
 · exact zmH _ x
theorem app_one (p:List Str) (x:Str) (t:List Str):(p++[x])++t=p++x::t:=by simp
end
theorem fst_do {p q:Prop} (h:p) (k:p->q):q:=k h
theorem zmg {α:Type} {l:List α} (h:(l.length:Int)=0):l=[]:=List.length_eq_zero_iff.1 (by omega)
attribute [local irreducible] DW SeqD DV DOp DC DVX Nd.own ownH
theorem zbH {P Q:Prop} (q:Q) (h:Hid Q->P:=by (intro q;simp (maxSteps:=1000000) (disch:=omega) only [push_cast,↓reduceIte,reduceCtorEq,Nat.reduceAdd,Nat.reduceMul,Nat.reduceLT,Nat.reduceLeDiff,Nat.reduceEqDiff,Nat.reduceSub,Int.reduceToNat,Int.reduceLT,Int.reduceLE,Int.reduceAdd,Int.reduceSub,Int.reduceMul,Int.reduceNeg,Nat.reduceBEq,Int.reduceBEq,Int.reduceBNe,Nat.reduceBNe,Int.reduceEq,hlk,hC];exact q.1)):P:=h ⟨q⟩
attribute [local push_cast 2000] za8 zbb zaE zaX zaF zaA zbe za9 za4 za7 zbd zaI zaC zba zaG zaw zaH zav zbc zaB zay zbf zaD zax zau zaZ zcQ zaM zaP Option.getD_some Option.getD_none Option.isSome_some Option.isSome_none
section
theorem zpp (r:Nat) (m:List Str->Str->Option Int) (key:Str) (h:List Nd) (p:List Str) (b:Nat) (nd:Nd) (F:Own):(Tri h r m/\fol h r p=some b/\fnd h b=some nd)->DC Tryz.prog 159 [.raw (.pointer (some ⟨b,0,none⟩)), .sl [], .str key] (ownH h++[]++F) fun d G=>∃ h':List Nd,DropP h h' r m p [] key/\d = .bool (m (p++[]) key).isSome/\G=ownH h'++F:=by
 intro hA
 obtain ⟨ht,hp,hx⟩:=hA
 refine DC.bodyS (n_:=66) (show Tryz.prog.funcs[159]? = some Tryz.f159 by kernel_rfl) rfl rfl (by rfl) ?_
 simp only [env0,List.append_assoc,List.cons_append,List.nil_append]
 have kw:=ksIs [0,1,2,6,8,9,10,13,38,57]
 have ow:=zaf []
 have dw5:=drIs 5 [] [3,6,7]
 have dw10:=drIs 10 [7] [3,6]
 have hlk:True:=trivial
 have hC:True:=trivial
 have hfa:=znS (key:=key) ht hp hx
 repeat' (first
  | ((refine DOp.load_ rfl rfl ?_);(repeat (with_reducible first | refine OnB.here ?_ | refine OnB.next ?_ | (refine OnB.inH (by assumption) ?_;with_reducible intro C) | refine OnB.skip ?_));refine zbH ?_)
  | ((refine DOp.look_ rfl rfl ?_);(repeat (with_reducible first | refine OnM.here ?_ | refine OnM.next ?_ | (refine OnM.inN (by assumption) ?_;with_reducible intro C hC) | (refine OnM.inK (by assumption) ?_;with_reducible intro C hC) | refine OnM.skip ?_));refine zbH ?_)
  | ((refine DOp.delm_ rfl rfl ?_);(repeat (with_reducible first | refine OnM.here ?_ | refine OnM.next ?_ | (refine OnM.inN (by assumption) ?_;with_reducible intro C hC) | (refine OnM.inK (by assumption) ?_;with_reducible intro C hC) | refine OnM.skip ?_));refine zbH ?_)
  | refine g_ ?_
  | ((with_reducible refine And.intro ?_ ?_);(exact sv))
  | (refine DW.cond (by rfl) ?_ ?_<;>(first | exact i0_ | (intro hb;(try simp only [↓reduceCtorEq,not_true_eq_false,not_false_eq_true,hbs,Int.reduceBEq,Int.reduceBNe,Int.reduceEq] at hb);(try refine zbH ?_))))
  | ((with_reducible first | refine zaa ?_ ?_ | refine zai ?_ ?_)<;>(intro hb;rw [hb];revert hb;(first | exact i0_ | (intro hb;(try simp only [↓reduceCtorEq,not_true_eq_false,not_false_eq_true,hbs,Int.reduceBEq,Int.reduceBNe,Int.reduceEq] at hb);(try refine zbH ?_)))))
  | ((first | refine rn_ ?_ | refine dn_ ?_ | refine kn_ ?_)<;>(refine zbH ?_))
  | ((refine dm_ ?_);(first | (refine DVop.look_ rfl rfl rfl rfl ?_;(repeat (with_reducible first | refine OnM.here ?_ | refine OnM.next ?_));refine zbH ?_)))
  | ((refine von_ ?_);refine zbH ?_)
  | ((first | (refine DOp.look_ rfl rfl ?_;(repeat (with_reducible first | refine OnM.here ?_ | refine OnM.next ?_))) | (refine DOp.lenm_ rfl rfl ?_;(repeat (with_reducible first | refine OnM.here ?_ | refine OnM.next ?_))) | (refine DOp.delm_ rfl rfl ?_;(repeat (with_reducible first | refine OnM.here ?_ | refine OnM.next ?_))))<;>(refine zbH ?_))
  | ((refine on_ ?_);refine zbH ?_)
  | refine f_ ?_
  | refine vm_ ?_
  | with_reducible intro b)
 all_goals first
 | (refine ⟨_,_,le.of_eq ?_,⟨_,hfa.1,rfl,rfl⟩,?_⟩;(focus (rw [hfa.2]));(exact sub_);done)
 | (trace_state;fail)
end
section
attribute [local push_cast 2000] ze7
theorem zpt (r:Nat) (m:List Str->Str->Option Int) (key:Str) (h:List Nd) (p:List Str) (b:Nat) (nd:Nd) (x:Str) (t:List Str) (F:Own):((Tri h r m/\fol h r p=some b/\fnd h b=some nd)/\lookA x nd.next=none/\t.length<=1000000000)->DC Tryz.prog 159 [.raw (.pointer (some ⟨b,0,none⟩)), .sl (.str x::t.map V.str), .str key] (ownH h++[]++F) fun d G=>∃ h':List Nd,DropP h h' r m p (x::t) key/\d = .bool (m (p++(x::t)) key).isSome/\G=ownH h'++F:=by
 intro hA
 obtain ⟨⟨ht,hp,hx⟩,hlk,hlt⟩:=hA
 refine DC.bodyS (n_:=66) (show Tryz.prog.funcs[159]? = some Tryz.f159 by kernel_rfl) rfl rfl (by rfl) ?_
 simp only [env0,List.append_assoc,List.cons_append,List.nil_append]
 have kw:=ksIs [0,1,2,6,8,9,10,13,38,57]
 have ow:=zaf []
 have dw5:=drIs 5 [] [3,6,7]
 have dw10:=drIs 10 [7] [3,6]
 have hC:True:=trivial
 have hfa:=zn6 (t:=t) (key:=key) ht hp hx hlk
 repeat' (first
  | ((refine dm_ ?_);(refine DVop.load_ rfl rfl rfl rfl ?_);(repeat (with_reducible first | refine OnB.here ?_ | refine OnB.next ?_ | (refine OnB.inH (by assumption) ?_;with_reducible intro C) | refine OnB.skip ?_));refine zbH ?_)
  | ((refine dm_ ?_);(refine DVop.look_ rfl rfl rfl rfl ?_);(repeat (with_reducible first | refine OnM.here ?_ | refine OnM.next ?_ | (refine OnM.inN (by assumption) ?_;with_reducible intro C hC) | (refine OnM.inK (by assumption) ?_;with_reducible intro C hC) | refine OnM.skip ?_));refine zbH ?_)
  | ((refine DOp.load_ rfl rfl ?_);(repeat (with_reducible first | refine OnB.here ?_ | refine OnB.next ?_ | (refine OnB.inH (by assumption) ?_;with_reducible intro C) | refine OnB.skip ?_));refine zbH ?_)
  | ((refine DOp.look_ rfl rfl ?_);(repeat (with_reducible first | refine OnM.here ?_ | refine OnM.next ?_ | (refine OnM.inN (by assumption) ?_;with_reducible intro C hC) | (refine OnM.inK (by assumption) ?_;with_reducible intro C hC) | refine OnM.skip ?_));refine zbH ?_)
  | refine g_ ?_
  | ((with_reducible refine And.intro ?_ ?_);(exact sv))
  | (refine DW.cond (by rfl) ?_ ?_<;>(first | exact i0_ | (intro hb;(try simp only [↓reduceCtorEq,not_true_eq_false,not_false_eq_true,hbs,Int.reduceBEq,Int.reduceBNe,Int.reduceEq] at hb);(try refine zbH ?_))))
  | ((with_reducible first | refine zaa ?_ ?_ | refine zai ?_ ?_)<;>(intro hb;rw [hb];revert hb;(first | exact i0_ | (intro hb;(try simp only [↓reduceCtorEq,not_true_eq_false,not_false_eq_true,hbs,Int.reduceBEq,Int.reduceBNe,Int.reduceEq] at hb);(try refine zbH ?_)))))
  | ((first | refine rn_ ?_ | refine dn_ ?_ | refine kn_ ?_)<;>(refine zbH ?_))
  | ((refine dm_ ?_);(first | (refine DVop.look_ rfl rfl rfl rfl ?_;(repeat (with_reducible first | refine OnM.here ?_ | refine OnM.next ?_));refine zbH ?_)))
  | ((refine von_ ?_);refine zbH ?_)
  | ((first | (refine DOp.look_ rfl rfl ?_;(repeat (with_reducible first | refine OnM.here ?_ | refine OnM.next ?_))) | (refine DOp.lenm_ rfl rfl ?_;(repeat (with_reducible first | refine OnM.here ?_ | refine OnM.next ?_))) | (refine DOp.delm_ rfl rfl ?_;(repeat (with_reducible first | refine OnM.here ?_ | refine OnM.next ?_))))<;>(refine zbH ?_))
  | ((refine on_ ?_);refine zbH ?_)
  | refine f_ ?_
  | refine vm_ ?_
  | with_reducible intro b)
 all_goals first
 | (refine ⟨_,_,le.of_eq ?_,⟨_,hfa.1,rfl,rfl⟩,?_⟩;(focus (rw [hfa.2]));(exact sub_);done)
 | (trace_state;fail)
end
theorem zfG {p:Prop} (h:p:=by first | exact sv | (refine ⟨ht,?_⟩;exact hfc) | fail):p:=h
section
attribute [local push_cast 2000] ze7 app_one
theorem zpl (r:Nat) (m:List Str->Str->Option Int) (key:Str) (h:List Nd) (p:List Str) (b:Nat) (nd:Nd) (x:Str) (t:List Str) (c:Nat) (F:Own):((Tri h r m/\fol h r p=some b/\fnd h b=some nd)/\lookA x nd.next=some c/\t.length<=1000000000/\(∀ (h:List Nd) (p:List Str) (b:Nat) (F:Own),(Tri h r m/\fol h r p=some b)->DC Tryz.prog 159 [.raw (.pointer (some ⟨b,0,none⟩)), .sl (t.map V.str), .str key] ((ownH h++[])++F) fun d G=>∃ h':List Nd,DropP h h' r m p t key/\d = .bool (m (p++t) key).isSome/\G=ownH h'++F))->DC Tryz.prog 159 [.raw (.pointer (some ⟨b,0,none⟩)), .sl (.str x::t.map V.str), .str key] (ownH h++[]++F) fun d G=>∃ h':List Nd,DropP h h' r m p (x::t) key/\d = .bool (m (p++(x::t)) key).isSome/\G=ownH h'++F:=by
 intro hA
 obtain ⟨⟨ht,hp,hx⟩,hlk,hlt,hcl⟩:=hA
 refine DC.bodyS (n_:=66) (show Tryz.prog.funcs[159]? = some Tryz.f159 by kernel_rfl) rfl rfl (by rfl) ?_
 simp only [env0,List.append_assoc,List.cons_append,List.nil_append]
 have kw:=ksIs [0,1,2,6,8,9,10,13,38,57]
 have ow:=zaf [48,55]
 have dw5:=drIs 5 [] [3,6,7]
 have dw10:=drIs 10 [7] [3,6]
 have hC:True:=trivial
 have hfc:=(ht.fkid hp hx x).trans hlk
 repeat' (first
  | ((fail_if_success (have zz:=hA5));(refine fst_do (zmx hp hfc hD1) ?_);(rintro ⟨nd1,nd2,hx1,hx2,hlk,hq1,hq2⟩);(have hA5:True:=trivial))
  | ((refine dm_ ?_);(refine DVop.load_ rfl rfl rfl rfl ?_);(repeat (with_reducible first | refine OnB.here ?_ | refine OnB.next ?_ | (refine OnB.inH (by assumption) ?_;with_reducible intro C) | refine OnB.skip ?_));refine zbH ?_)
  | ((refine dm_ ?_);(refine DVop.look_ rfl rfl rfl rfl ?_);(repeat (with_reducible first | refine OnM.here ?_ | refine OnM.next ?_ | (refine OnM.inN (by assumption) ?_;with_reducible intro C hC) | (refine OnM.inK (by assumption) ?_;with_reducible intro C hC) | refine OnM.skip ?_));refine zbH ?_)
  | ((refine DOp.load_ rfl rfl ?_);(repeat (with_reducible first | refine OnB.here ?_ | refine OnB.next ?_ | (refine OnB.inH (by assumption) ?_;with_reducible intro C) | refine OnB.skip ?_));refine zbH ?_)
  | ((refine DOp.look_ rfl rfl ?_);(repeat (with_reducible first | refine OnM.here ?_ | refine OnM.next ?_ | (refine OnM.inN (by assumption) ?_;with_reducible intro C hC) | (refine OnM.inK (by assumption) ?_;with_reducible intro C hC) | refine OnM.skip ?_));refine zbH ?_)
  | ((refine DOp.lenm_ rfl rfl ?_);(repeat (with_reducible first | refine OnM.here ?_ | refine OnM.next ?_ | (refine OnM.inN (by assumption) ?_;with_reducible intro C hC) | (refine OnM.inK (by assumption) ?_;with_reducible intro C hC) | refine OnM.skip ?_));refine zbH ?_)
  | ((refine DOp.delm_ rfl rfl ?_);(repeat (with_reducible first | refine OnM.here ?_ | refine OnM.next ?_ | (refine OnM.inN (by assumption) ?_;with_reducible intro C hC) | (refine OnM.inK (by assumption) ?_;with_reducible intro C hC) | refine OnM.skip ?_));refine zbH ?_)
  | refine g_ ?_
  | ((with_reducible refine And.intro ?_ ?_);(exact zfG))
  | (refine DW.cond (by rfl) ?_ ?_<;>(first | exact i0_ | (intro hb;(try simp only [↓reduceCtorEq,not_true_eq_false,not_false_eq_true,hbs,Int.reduceBEq,Int.reduceBNe,Int.reduceEq] at hb);(try refine zbH ?_))))
  | ((with_reducible first | refine zaa ?_ ?_ | refine zai ?_ ?_)<;>(intro hb;rw [hb];revert hb;(first | exact i0_ | (intro hb;(try simp only [↓reduceCtorEq,not_true_eq_false,not_false_eq_true,hbs,Int.reduceBEq,Int.reduceBNe,Int.reduceEq] at hb);(try refine zbH ?_)))))
  | ((first | refine rn_ ?_ | refine dn_ ?_ | refine kn_ ?_)<;>(refine zbH ?_))
  | ((refine dm_ ?_);(first | (refine DVop.look_ rfl rfl rfl rfl ?_;(repeat (with_reducible first | refine OnM.here ?_ | refine OnM.next ?_));refine zbH ?_)))
  | ((refine von_ ?_);refine zbH ?_)
  | ((first | (refine DOp.look_ rfl rfl ?_;(repeat (with_reducible first | refine OnM.here ?_ | refine OnM.next ?_))) | (refine DOp.lenm_ rfl rfl ?_;(repeat (with_reducible first | refine OnM.here ?_ | refine OnM.next ?_))) | (refine DOp.delm_ rfl rfl ?_;(repeat (with_reducible first | refine OnM.here ?_ | refine OnM.next ?_))))<;>(refine zbH ?_))
  | (refine p_ (hcl _ _ _ _) ?_ (ha:=by exact zfG);rintro d H1 ⟨h1,hD1,rfl,rfl⟩<;>refine zbH ?_)
  | ((refine on_ ?_);refine zbH ?_)
  | refine f_ ?_
  | refine vm_ ?_
  | with_reducible intro b)
 all_goals first
 | (refine ⟨_,_,le.of_eq ?_,⟨_,zl9 hD1 hx1 hx2 hlk hq1 (zmg (by assumption)) (zmg (by assumption)),rfl,rfl⟩,?_⟩;(focus rfl);(exact sub_);done)
 | (refine ⟨_,_,le.of_eq ?_,⟨_,zlM hD1,rfl,rfl⟩,?_⟩;(focus rfl);(exact sub_);done)
 | (trace_state;fail)
end
end
end Go.Proofs.YtgekknefphagbaaGreatDoor
