/- The trie: a pair goes. -/
import Derived.Test.YtgekknefphagbaaGreatDoorTgx
import Derived.KernelRfl
import Derived.Test.YtgekknefphagbaaGreatDoorItx
import Derived.Test.YtgekknefphagbaaGreatDoorFxx
namespace Go.Proofs.YtgekknefphagbaaGreatDoor
open Go.RowKit
set_option linter.unusedSimpArgs false
set_option linter.unusedVariables false
set_option linter.unusedSectionVars false
set_option maxHeartbeats 4000000
set_option maxRecDepth 100000
section
def mDrop (m:List Str->Str->Option Int) (p:List Str) (k:Str):List Str->Str->Option Int:=fun q j=>if q=p/\j=k then none else m q j
theorem zlB {m:List Str->Str->Option Int} {p:List Str} {k:Str} (h:m p k=none):mDrop m p k=m:=by
 funext q j
 unfold mDrop
 split
 · rename_i e;rw [e.1,e.2,h]
 · rfl
structure DropP (h h':List Nd) (r:Nat) (m:List Str->Str->Option Int) (p l:List Str) (k:Str):Prop where
 tri:Tri h' r (mDrop m (p++l) k)
 keep:∀ q,(¬ p <+: q\/q=p)->fol h' r q=fol h r q
section
variable {h h1:List Nd} {r b c:Nat} {m:List Str->Str->Option Int} {p t:List Str} {x key:Str} {nd:Nd}
theorem zmt (ht:Tri h r m) (hp:fol h r p=some b) (hx:fnd h b=some nd):DropP h (setN h { nd with keys:=zaz key nd.keys }) r m p [] key/\(m p key).isSome=(lookA key nd.keys).isSome:=by
 have hk:=ht.has _ _ _ hp hx
 have hn:=(ht.nn _ _ hx).2
 obtain ⟨t1,t2⟩:=ht.keys hp hx (zd5 (k:=key) hn)
 have e:(fun q k=>if q=p then lookA k (zaz key nd.keys) else m q k)=mDrop m p key:=by
  funext q j
  unfold mDrop
  by_cases hq:q=p
  · subst hq
    rw [if_pos rfl,zef hn,hk]
    by_cases hj:j=key
    · rw [if_pos hj,if_pos ⟨rfl,hj⟩]
    · rw [if_neg hj,if_neg (fun e=>hj e.2)]
  · rw [if_neg hq,if_neg (fun e=>hq e.1)]
 rw [e] at t1
 refine ⟨⟨by rw [List.append_nil];exact t1,fun q _=>t2 q⟩,by rw [hk]⟩
theorem zoi (ht:Tri h r m) (hp:fol h r p=some b) (hx:fnd h b=some nd) (hl:lookA x nd.next=none):DropP h h r m p (x::t) key/\(m (p++x::t) key).isSome=false:=by
 have e:m (p++x::t) key=none:=ht.all _ _ (by
  rw [show p++x::t=(p++[x])++t by simp,zfl,ht.fkid hp hx,hl];rfl)
 exact ⟨⟨by rw [zlB e];exact ht,fun _ _=>rfl⟩,by rw [e];rfl⟩
theorem znm (p:List Str) (x:Str):¬ (p++[x]) <+: p:=fun e=>by have:=e.length_le;simp at this;omega
theorem zop (hp:fol h r p=some b) (hf:fol h r (p++[x])=some c) (D:DropP h h1 r m (p++[x]) t key):∃ nd1 nd2,fnd h1 c=some nd1/\fnd h1 b=some nd2/\lookA x nd2.next=some c/\fol h1 r p=some b/\fol h1 r (p++[x])=some c:=by
 have e1:fol h1 r p=some b:=by rw [D.keep _ (.inl (znm p x)),hp]
 have e2:fol h1 r (p++[x])=some c:=by rw [D.keep _ (.inr rfl),hf]
 obtain ⟨nd1,h1'⟩:=D.tri.at e2
 obtain ⟨nd2,h2'⟩:=D.tri.at e1
 exact ⟨nd1,nd2,h1',h2',by rw [<-D.tri.fkid e1 h2',e2],e1,e2⟩
theorem zmy (D:DropP h h1 r m (p++[x]) t key):DropP h h1 r m p (x::t) key:=by
 have:=D.tri
 refine ⟨by rw [show p++x::t=(p++[x])++t by simp];exact this,fun q hq=>D.keep q ?_⟩
 rcases hq with hq | rfl
 · exact .inl fun e=>hq ((List.prefix_append p [x]).trans e)
 · exact .inl (znm _ x)
theorem zlP {nd1 nd2:Nd} (D:DropP h h1 r m (p++[x]) t key) (hy:fnd h1 c=some nd1) (hz:fnd h1 b=some nd2) (hl:lookA x nd2.next=some c) (e1:fol h1 r p=some b) (hn:nd1.next=[]) (hk:nd1.keys=[]):DropP h (setN h1 { nd2 with next:=zaz x nd2.next }) r m p (x::t) key:=by
 have D2:=zmy D
 obtain ⟨t1,t2⟩:=D2.tri.prune e1 hz hl hy hn hk
 refine ⟨t1,fun q hq=>?_⟩
 rw [t2 q,D2.keep q hq]
 rcases hq with hq | rfl
 · exact fun e=>hq ((List.prefix_append p [x]).trans e)
 · exact znm _ x
theorem app_one (p:List Str) (x:Str) (t:List Str):(p++[x])++t=p++x::t:=by simp
end
theorem fst_do {p q:Prop} (h:p) (k:p->q):q:=k h
theorem znU {α:Type} {l:List α} (h:(l.length:Int)=0):l=[]:=List.length_eq_zero_iff.1 (by omega)
attribute [local irreducible] DW SeqD DV DOp DC DVX Nd.own ownH
theorem zbb {P Q:Prop} (q:Q) (h:Hid Q->P:=by (intro q;simp (maxSteps:=1000000) (disch:=omega) only [push_cast,↓reduceIte,reduceCtorEq,Nat.reduceAdd,Nat.reduceMul,Nat.reduceLT,Nat.reduceLeDiff,Nat.reduceEqDiff,Nat.reduceSub,Int.reduceToNat,Int.reduceLT,Int.reduceLE,Int.reduceAdd,Int.reduceSub,Int.reduceMul,Int.reduceNeg,Nat.reduceBEq,Int.reduceBEq,Int.reduceBNe,Nat.reduceBNe,Int.reduceEq,hlk,hC];exact q.1)):P:=h ⟨q⟩
attribute [local push_cast 2000] zaM zbp zaN zbj zaQ zaL zbu zaT zaD zaJ zbr zaP zaU zbt zaO za9 zaS zaA zbq zaK zaB zbo zaR za8 za6 zb5 zeJ zbm zbl Option.getD_some Option.getD_none Option.isSome_some Option.isSome_none
section
theorem zqn (r:Nat) (m:List Str->Str->Option Int) (key:Str) (h:List Nd) (p:List Str) (b:Nat) (nd:Nd) (F:Own):(Tri h r m/\fol h r p=some b/\fnd h b=some nd)->DC Tryz.prog 159 [.raw (.pointer (some ⟨b,0,none⟩)), .sl [], .str key] (ownH h++[]++F) fun d G=>∃ h':List Nd,DropP h h' r m p [] key/\d = .bool (m (p++[]) key).isSome/\G=ownH h'++F:=by
 intro hA
 obtain ⟨ht,hp,hx⟩:=hA
 refine DC.bodyS (n_:=66) (show Tryz.prog.funcs[159]? = some Tryz.f159 by kernel_rfl) rfl rfl (by rfl) ?_
 simp only [env0,List.append_assoc,List.cons_append,List.nil_append]
 have kw:=ksIs [0,1,2,6,8,9,10,13,38,57]
 have ow:=zai []
 have dw5:=drIs 5 [] [3,6,7]
 have dw10:=drIs 10 [7] [3,6]
 have hlk:True:=trivial
 have hC:True:=trivial
 have hfa:=zmt (key:=key) ht hp hx
 repeat' (first
  | ((refine DOp.load_ rfl rfl ?_);(repeat (with_reducible first | refine OnB.here ?_ | refine OnB.next ?_ | (refine OnB.inH (by assumption) ?_;with_reducible intro C) | refine OnB.skip ?_));refine zbb ?_)
  | ((refine DOp.look_ rfl rfl ?_);(repeat (with_reducible first | refine OnM.here ?_ | refine OnM.next ?_ | (refine OnM.inN (by assumption) ?_;with_reducible intro C hC) | (refine OnM.inK (by assumption) ?_;with_reducible intro C hC) | refine OnM.skip ?_));refine zbb ?_)
  | ((refine DOp.delm_ rfl rfl ?_);(repeat (with_reducible first | refine OnM.here ?_ | refine OnM.next ?_ | (refine OnM.inN (by assumption) ?_;with_reducible intro C hC) | (refine OnM.inK (by assumption) ?_;with_reducible intro C hC) | refine OnM.skip ?_));refine zbb ?_)
  | refine g_ ?_
  | ((with_reducible refine And.intro ?_ ?_);(exact sv))
  | (refine DW.cond (by rfl) ?_ ?_<;>(first | exact i0_ | (intro hb;(try simp only [↓reduceCtorEq,not_true_eq_false,not_false_eq_true,hbs,Int.reduceBEq,Int.reduceBNe,Int.reduceEq] at hb);(try refine zbb ?_))))
  | ((with_reducible first | refine zaa ?_ ?_ | refine zak ?_ ?_)<;>(intro hb;rw [hb];revert hb;(first | exact i0_ | (intro hb;(try simp only [↓reduceCtorEq,not_true_eq_false,not_false_eq_true,hbs,Int.reduceBEq,Int.reduceBNe,Int.reduceEq] at hb);(try refine zbb ?_)))))
  | ((first | refine rn_ ?_ | refine dn_ ?_ | refine kn_ ?_)<;>(refine zbb ?_))
  | ((refine dm_ ?_);(first | (refine DVop.look_ rfl rfl rfl rfl ?_;(repeat (with_reducible first | refine OnM.here ?_ | refine OnM.next ?_));refine zbb ?_)))
  | ((refine von_ ?_);refine zbb ?_)
  | ((first | (refine DOp.look_ rfl rfl ?_;(repeat (with_reducible first | refine OnM.here ?_ | refine OnM.next ?_))) | (refine DOp.lenm_ rfl rfl ?_;(repeat (with_reducible first | refine OnM.here ?_ | refine OnM.next ?_))) | (refine DOp.delm_ rfl rfl ?_;(repeat (with_reducible first | refine OnM.here ?_ | refine OnM.next ?_))))<;>(refine zbb ?_))
  | ((refine on_ ?_);refine zbb ?_)
  | refine f_ ?_
  | refine vm_ ?_
  | with_reducible intro b)
 all_goals first
 | (refine ⟨_,_,le.of_eq ?_,⟨_,hfa.1,rfl,rfl⟩,?_⟩;(focus (rw [hfa.2]));(exact sub_);done)
 | (trace_state;fail)
end
section
attribute [local push_cast 2000] ze7
theorem zoM (r:Nat) (m:List Str->Str->Option Int) (key:Str) (h:List Nd) (p:List Str) (b:Nat) (nd:Nd) (x:Str) (t:List Str) (F:Own):((Tri h r m/\fol h r p=some b/\fnd h b=some nd)/\lookA x nd.next=none/\t.length<=1000000000)->DC Tryz.prog 159 [.raw (.pointer (some ⟨b,0,none⟩)), .sl (.str x::t.map V.str), .str key] (ownH h++[]++F) fun d G=>∃ h':List Nd,DropP h h' r m p (x::t) key/\d = .bool (m (p++(x::t)) key).isSome/\G=ownH h'++F:=by
 intro hA
 obtain ⟨⟨ht,hp,hx⟩,hlk,hlt⟩:=hA
 refine DC.bodyS (n_:=66) (show Tryz.prog.funcs[159]? = some Tryz.f159 by kernel_rfl) rfl rfl (by rfl) ?_
 simp only [env0,List.append_assoc,List.cons_append,List.nil_append]
 have kw:=ksIs [0,1,2,6,8,9,10,13,38,57]
 have ow:=zai []
 have dw5:=drIs 5 [] [3,6,7]
 have dw10:=drIs 10 [7] [3,6]
 have hC:True:=trivial
 have hfa:=zoi (t:=t) (key:=key) ht hp hx hlk
 repeat' (first
  | ((refine dm_ ?_);(refine DVop.load_ rfl rfl rfl rfl ?_);(repeat (with_reducible first | refine OnB.here ?_ | refine OnB.next ?_ | (refine OnB.inH (by assumption) ?_;with_reducible intro C) | refine OnB.skip ?_));refine zbb ?_)
  | ((refine dm_ ?_);(refine DVop.look_ rfl rfl rfl rfl ?_);(repeat (with_reducible first | refine OnM.here ?_ | refine OnM.next ?_ | (refine OnM.inN (by assumption) ?_;with_reducible intro C hC) | (refine OnM.inK (by assumption) ?_;with_reducible intro C hC) | refine OnM.skip ?_));refine zbb ?_)
  | ((refine DOp.load_ rfl rfl ?_);(repeat (with_reducible first | refine OnB.here ?_ | refine OnB.next ?_ | (refine OnB.inH (by assumption) ?_;with_reducible intro C) | refine OnB.skip ?_));refine zbb ?_)
  | ((refine DOp.look_ rfl rfl ?_);(repeat (with_reducible first | refine OnM.here ?_ | refine OnM.next ?_ | (refine OnM.inN (by assumption) ?_;with_reducible intro C hC) | (refine OnM.inK (by assumption) ?_;with_reducible intro C hC) | refine OnM.skip ?_));refine zbb ?_)
  | refine g_ ?_
  | ((with_reducible refine And.intro ?_ ?_);(exact sv))
  | (refine DW.cond (by rfl) ?_ ?_<;>(first | exact i0_ | (intro hb;(try simp only [↓reduceCtorEq,not_true_eq_false,not_false_eq_true,hbs,Int.reduceBEq,Int.reduceBNe,Int.reduceEq] at hb);(try refine zbb ?_))))
  | ((with_reducible first | refine zaa ?_ ?_ | refine zak ?_ ?_)<;>(intro hb;rw [hb];revert hb;(first | exact i0_ | (intro hb;(try simp only [↓reduceCtorEq,not_true_eq_false,not_false_eq_true,hbs,Int.reduceBEq,Int.reduceBNe,Int.reduceEq] at hb);(try refine zbb ?_)))))
  | ((first | refine rn_ ?_ | refine dn_ ?_ | refine kn_ ?_)<;>(refine zbb ?_))
  | ((refine dm_ ?_);(first | (refine DVop.look_ rfl rfl rfl rfl ?_;(repeat (with_reducible first | refine OnM.here ?_ | refine OnM.next ?_));refine zbb ?_)))
  | ((refine von_ ?_);refine zbb ?_)
  | ((first | (refine DOp.look_ rfl rfl ?_;(repeat (with_reducible first | refine OnM.here ?_ | refine OnM.next ?_))) | (refine DOp.lenm_ rfl rfl ?_;(repeat (with_reducible first | refine OnM.here ?_ | refine OnM.next ?_))) | (refine DOp.delm_ rfl rfl ?_;(repeat (with_reducible first | refine OnM.here ?_ | refine OnM.next ?_))))<;>(refine zbb ?_))
  | ((refine on_ ?_);refine zbb ?_)
  | refine f_ ?_
  | refine vm_ ?_
  | with_reducible intro b)
 all_goals first
 | (refine ⟨_,_,le.of_eq ?_,⟨_,hfa.1,rfl,rfl⟩,?_⟩;(focus (rw [hfa.2]));(exact sub_);done)
 | (trace_state;fail)
end
theorem zgw {p:Prop} (h:p:=by first | exact sv | (refine ⟨ht,?_⟩;exact hfc) | fail):p:=h
section
attribute [local push_cast 2000] ze7 app_one
theorem zoO (r:Nat) (m:List Str->Str->Option Int) (key:Str) (h:List Nd) (p:List Str) (b:Nat) (nd:Nd) (x:Str) (t:List Str) (c:Nat) (F:Own):((Tri h r m/\fol h r p=some b/\fnd h b=some nd)/\lookA x nd.next=some c/\t.length<=1000000000/\(∀ (h:List Nd) (p:List Str) (b:Nat) (F:Own),(Tri h r m/\fol h r p=some b)->DC Tryz.prog 159 [.raw (.pointer (some ⟨b,0,none⟩)), .sl (t.map V.str), .str key] ((ownH h++[])++F) fun d G=>∃ h':List Nd,DropP h h' r m p t key/\d = .bool (m (p++t) key).isSome/\G=ownH h'++F))->DC Tryz.prog 159 [.raw (.pointer (some ⟨b,0,none⟩)), .sl (.str x::t.map V.str), .str key] (ownH h++[]++F) fun d G=>∃ h':List Nd,DropP h h' r m p (x::t) key/\d = .bool (m (p++(x::t)) key).isSome/\G=ownH h'++F:=by
 intro hA
 obtain ⟨⟨ht,hp,hx⟩,hlk,hlt,hcl⟩:=hA
 refine DC.bodyS (n_:=66) (show Tryz.prog.funcs[159]? = some Tryz.f159 by kernel_rfl) rfl rfl (by rfl) ?_
 simp only [env0,List.append_assoc,List.cons_append,List.nil_append]
 have kw:=ksIs [0,1,2,6,8,9,10,13,38,57]
 have ow:=zai [48,55]
 have dw5:=drIs 5 [] [3,6,7]
 have dw10:=drIs 10 [7] [3,6]
 have hC:True:=trivial
 have hfc:=(ht.fkid hp hx x).trans hlk
 repeat' (first
  | ((fail_if_success (have zz:=hA5));(refine fst_do (zop hp hfc hD1) ?_);(rintro ⟨nd1,nd2,hx1,hx2,hlk,hq1,hq2⟩);(have hA5:True:=trivial))
  | ((refine dm_ ?_);(refine DVop.load_ rfl rfl rfl rfl ?_);(repeat (with_reducible first | refine OnB.here ?_ | refine OnB.next ?_ | (refine OnB.inH (by assumption) ?_;with_reducible intro C) | refine OnB.skip ?_));refine zbb ?_)
  | ((refine dm_ ?_);(refine DVop.look_ rfl rfl rfl rfl ?_);(repeat (with_reducible first | refine OnM.here ?_ | refine OnM.next ?_ | (refine OnM.inN (by assumption) ?_;with_reducible intro C hC) | (refine OnM.inK (by assumption) ?_;with_reducible intro C hC) | refine OnM.skip ?_));refine zbb ?_)
  | ((refine DOp.load_ rfl rfl ?_);(repeat (with_reducible first | refine OnB.here ?_ | refine OnB.next ?_ | (refine OnB.inH (by assumption) ?_;with_reducible intro C) | refine OnB.skip ?_));refine zbb ?_)
  | ((refine DOp.look_ rfl rfl ?_);(repeat (with_reducible first | refine OnM.here ?_ | refine OnM.next ?_ | (refine OnM.inN (by assumption) ?_;with_reducible intro C hC) | (refine OnM.inK (by assumption) ?_;with_reducible intro C hC) | refine OnM.skip ?_));refine zbb ?_)
  | ((refine DOp.lenm_ rfl rfl ?_);(repeat (with_reducible first | refine OnM.here ?_ | refine OnM.next ?_ | (refine OnM.inN (by assumption) ?_;with_reducible intro C hC) | (refine OnM.inK (by assumption) ?_;with_reducible intro C hC) | refine OnM.skip ?_));refine zbb ?_)
  | ((refine DOp.delm_ rfl rfl ?_);(repeat (with_reducible first | refine OnM.here ?_ | refine OnM.next ?_ | (refine OnM.inN (by assumption) ?_;with_reducible intro C hC) | (refine OnM.inK (by assumption) ?_;with_reducible intro C hC) | refine OnM.skip ?_));refine zbb ?_)
  | refine g_ ?_
  | ((with_reducible refine And.intro ?_ ?_);(exact zgw))
  | (refine DW.cond (by rfl) ?_ ?_<;>(first | exact i0_ | (intro hb;(try simp only [↓reduceCtorEq,not_true_eq_false,not_false_eq_true,hbs,Int.reduceBEq,Int.reduceBNe,Int.reduceEq] at hb);(try refine zbb ?_))))
  | ((with_reducible first | refine zaa ?_ ?_ | refine zak ?_ ?_)<;>(intro hb;rw [hb];revert hb;(first | exact i0_ | (intro hb;(try simp only [↓reduceCtorEq,not_true_eq_false,not_false_eq_true,hbs,Int.reduceBEq,Int.reduceBNe,Int.reduceEq] at hb);(try refine zbb ?_)))))
  | ((first | refine rn_ ?_ | refine dn_ ?_ | refine kn_ ?_)<;>(refine zbb ?_))
  | ((refine dm_ ?_);(first | (refine DVop.look_ rfl rfl rfl rfl ?_;(repeat (with_reducible first | refine OnM.here ?_ | refine OnM.next ?_));refine zbb ?_)))
  | ((refine von_ ?_);refine zbb ?_)
  | ((first | (refine DOp.look_ rfl rfl ?_;(repeat (with_reducible first | refine OnM.here ?_ | refine OnM.next ?_))) | (refine DOp.lenm_ rfl rfl ?_;(repeat (with_reducible first | refine OnM.here ?_ | refine OnM.next ?_))) | (refine DOp.delm_ rfl rfl ?_;(repeat (with_reducible first | refine OnM.here ?_ | refine OnM.next ?_))))<;>(refine zbb ?_))
  | (refine p_ (hcl _ _ _ _) ?_ (ha:=by exact zgw);rintro d H1 ⟨h1,hD1,rfl,rfl⟩<;>refine zbb ?_)
  | ((refine on_ ?_);refine zbb ?_)
  | refine f_ ?_
  | refine vm_ ?_
  | with_reducible intro b)
 all_goals first
 | (refine ⟨_,_,le.of_eq ?_,⟨_,zlP hD1 hx1 hx2 hlk hq1 (znU (by assumption)) (znU (by assumption)),rfl,rfl⟩,?_⟩;(focus rfl);(exact sub_);done)
 | (refine ⟨_,_,le.of_eq ?_,⟨_,zmy hD1,rfl,rfl⟩,?_⟩;(focus rfl);(exact sub_);done)
 | (trace_state;fail)
end
end
section
theorem zmS (r:Nat) (m:List Str->Str->Option Int) (key:Str):∀ (l:List Str) (h:List Nd) (p:List Str) (b:Nat) (F:Own),(Tri h r m/\fol h r p=some b/\l.length<=1000000000)->DC Tryz.prog 159 [.raw (.pointer (some ⟨b,0,none⟩)), .sl (l.map V.str), .str key] ((ownH h++[])++F) fun d G=>∃ h':List Nd,DropP h h' r m p l key/\d = .bool (m (p++l) key).isSome/\G=ownH h'++F
 | [],h,p,b,F,⟨ht,hp,_⟩=>by
  obtain ⟨x,hx⟩:=ht.at hp
  exact zqn r m key h p b x F ⟨ht,hp,hx⟩
 | y::t,h,p,b,F,⟨ht,hp,hl⟩=>by
  obtain ⟨x,hx⟩:=ht.at hp
  rw [List.length_cons] at hl
  cases hlk:lookA y x.next with
  | none=>exact zoM r m key h p b x y t F ⟨⟨ht,hp,hx⟩,hlk,by omega⟩
  | some c=>exact zoO r m key h p b x y t c F ⟨⟨ht,hp,hx⟩,hlk,by omega,fun h p b F hq=>zmS r m key t h p b F ⟨hq.1,hq.2,by omega⟩⟩
theorem znf {L:TL} (hn:(L.map (·.1)).Nodup) (f k:Str):mDrop (mOf L) (spl f) k=mOf (zaz (f,k) L):=by
 funext q j
 unfold mDrop
 by_cases hq:q=spl f
 · subst hq
   rw [zhm,zhm,zef hn]
   by_cases e:j=k
   · rw [if_pos ⟨rfl,e⟩,if_pos (by rw [e])]
   · rw [if_neg (fun h=>e h.2),if_neg (fun h=>e (Prod.mk.inj h).2)]
 · rw [if_neg (fun h=>hq h.1)]
   unfold mOf
   by_cases hs:spl (joinS q)=q
   · rw [if_pos hs,if_pos hs,zef hn,if_neg (fun e=>hq (by rw [<-hs,(Prod.mk.inj e).1]))]
   · rw [if_neg hs,if_neg hs]
theorem zjg {s:TS} (hs:TOK s) {f:Str} (hf:filterB f=false) (k:Str):lookA (f,k) s.L=none:=zbI.2 fun x hx e=>by
 have:=hs.fl x hx
 rw [<-e,hf] at this;cases this
theorem drop_ok {s:TS} (hs:TOK s) {f ky:Str} {h':List Nd} (D:DropP s.h h' s.r (mOf s.L) [] (spl f) ky):TOK ⟨s.r,h',zaz (f,ky) s.L⟩:=by
 have:=D.tri
 rw [List.nil_append,znf hs.nd] at this
 exact ⟨this,zd5 hs.nd,fun e he=>hs.fl e (dropA_sub.subset he),fun e he=>hs.kl e (dropA_sub.subset he)⟩
theorem zpm (ts:TS) (f ky:Str) (F:Own):(TOK ts/\(spl f).length<=1000000000)->DC Tryz.prog 159 [.raw (.pointer (some ⟨ts.r,0,none⟩)), .sl ((spl f).map V.str), .str ky] ((ownH ts.h++[])++F) fun d G=>∃ ts':TS,(TOK ts'/\ts'.r=ts.r/\ts'.L=zaz (f,ky) ts.L)/\d = .bool (lookA (f,ky) ts.L).isSome/\G=ownH ts'.h++F:=fun ⟨hs,hl⟩=>by
 refine (zmS ts.r (mOf ts.L) ky (spl f) ts.h [] ts.r F ⟨hs.tri,rfl,hl⟩).mono fun d G hd=>?_
 obtain ⟨h',D,hd,hG⟩:=hd
 rw [List.nil_append,zhm] at hd
 exact ⟨⟨ts.r,h',zaz (f,ky) ts.L⟩,⟨drop_ok hs D,rfl,rfl⟩,hd,hG⟩
theorem zq3 {α:Type} [DecidableEq α]:∀ {l l':List α},l.Nodup->(∀ x∈l,x∈l')->l.length<=l'.length
 | [],_,_,_=>Nat.zero_le _
 | x::l,l',hn,hs=>by
  rw [List.nodup_cons] at hn
  obtain ⟨a,b,rfl⟩:=List.append_of_mem (hs x List.mem_cons_self)
  have:=zq3 (l':=a++b) hn.2 fun y hy=>by
   have h1:=hs y (List.mem_cons_of_mem _ hy)
   rcases List.mem_append.1 h1 with h1 | h1
   · exact List.mem_append_left _ h1
   · rcases List.mem_cons.1 h1 with rfl | h1
     · exact absurd hy hn.1
     · exact List.mem_append_right _ h1
  simp only [List.length_append,List.length_cons] at this ⊢
  omega
theorem nodeK {s:TS} (hs:TOK s) {f:Str} {c:Nat} {nd:Nd} (hf:fol s.h s.r (spl f)=some c) (hx:fnd s.h c=some nd):zoB nd.keys/\nd.keys.length<=s.L.length/\(∀ x∈nd.keys,x.1.length<=1000000000)/\∀ x,x∈nd.keys.map (·.1)↔x∈zcM s.L f:=by
 have hn:=(hs.tri.nn _ _ hx).2
 have hl:=nd_keys hs.tri hf hx
 have hm:∀ x,x∈nd.keys.map (·.1)↔(f,x)∈s.L.map (·.1):=fun x=>by rw [<-zcY,<-zcY,hl]
 refine ⟨hn,?_,fun x hx'=>?_,fun x=>?_⟩
 · have:=zq3 (l:=(nd.keys.map (·.1)).map fun k=>(f,k)) (l':=s.L.map (·.1)) (by
    rw [List.Nodup,List.pairwise_map];exact hn.imp fun h e=>h (Prod.mk.inj e).2) fun x hx'=>by
    obtain ⟨k,hk,rfl⟩:=List.mem_map.1 hx'
    exact (hm k).1 hk
   simpa using this
 · obtain ⟨e,he,e1⟩:=List.mem_map.1 ((hm x.1).1 (List.mem_map.2 ⟨x,hx',rfl⟩))
   have:=hs.kl e he
   rw [e1] at this;exact this
 · rw [hm,(zjZ s.L f).2]
   constructor
   · intro h
     obtain ⟨e,he,e1⟩:=List.mem_map.1 h
     exact ⟨e,he,by rw [e1],by rw [e1]⟩
   · rintro ⟨e,he,e1,e2⟩
     exact List.mem_map.2 ⟨e,he,by rw [<-e1,<-e2]⟩
theorem zht {s:TS} {f:Str} (h:∀ k,lookA (f,k) s.L=none):zcM s.L f=[]:=List.eq_nil_iff_forall_not_mem.2 fun x hx=>by
 obtain ⟨e,he,e1,e2⟩:=((zjZ s.L f).2 x).1 hx
 exact zbI.1 (h x) e he (by rw [<-e1,<-e2])
theorem none_of {α:Type} {o:Option α} (h:o.isSome=false):o=none:=by cases o with
 | none=>rfl
 | some _=>cases h
theorem zpU {L:TL} {f k:Str} (h:(lookA (f,k) L).isSome=true):(((zaz (f,k) L).length:Nat):Int)=(L.length:Int) - 1:=by
 obtain ⟨v,hv⟩:=Option.isSome_iff_exists.1 h
 have:=zil hv
 omega
theorem zmR {s:TS} (hs:TOK s) {f:Str} {k:Nat} (h:fol s.h s.r ((spl f).take k)=none) (j:Str):lookA (f,j) s.L=none:=by
 rw [<-zhm]
 refine hs.tri.all _ j ?_
 rw [<-List.take_append_drop k (spl f),zfl,h];rfl
theorem zqo {s:TS} {f:Str} {l:IM} (hn:zoB l) (hm:∀ x,x∈l.map (·.1)↔x∈zcM s.L f):sortS (l.map (·.1))=zcM s.L f:=zj5 hn (zjZ s.L f).1 hm
theorem zoI (mk:Nat) (F:Own):True->DC Tryz.prog 123 [.raw (.map (some mk))] (([]:Own)++F) fun d G=>∃ nb,d = .fn (.func 176) [] [.raw (.pointer (some ⟨nb,0,none⟩))]/\G = .row nb (.cells #[.map (some mk)] 172)::F:=DC.mkeys (by kernel_rfl) mk F
theorem zpe (mk nb:Nat) (l:IM) (F:Own):(zoB l/\l.length<=1000000000/\(∀ x∈l,x.1.length<=1000000000))->DC Tryz.prog 122 [.fn (.func 176) [] [.raw (.pointer (some ⟨nb,0,none⟩))]] ([loose, .row nb (.cells #[.map (some mk)] 172), .map mk (entM V.str (V.int .i64) l)]++F) fun d G=>d = .sl ((sortS (l.map (·.1))).map V.str)/\G=[loose, .row nb (.cells #[.map (some mk)] 172), .map mk (entM V.str (V.int .i64) l)]++F :=
 DC.sortedKeys (by kernel_rfl) (enters_of Tryz.func105 (by kernel_rfl) rfl) (enters_of Tryz.func176 (by kernel_rfl) rfl) mk nb l F
attribute [local irreducible] DW SeqD DV DOp DC DVX Nd.own ownH filterB spl zcM
theorem zbP {p:Prop} (h:p:=by first | exact sv | (refine ⟨hs,?_⟩;(have hl6:(spl f).length<=65536:=zgF hb);omega) | fail):p:=h
section
theorem zma (m:Int) (t:Nat) (ts:TS) (f ky:Str) (F:Own):(TOK ts/\f.length<=1000000/\ts.L.length<=1000000000)->DC Tryz.prog 100 [.raw (.pointer (some ⟨t,0,none⟩)), .str f, .str ky] (knF::knA::knM m::(ownT t ts++[])++F) fun d G=>∃ ts':TS,(TOK ts'/\ts'.L=zaz (f,ky) ts.L)/\d = .bool (lookA (f,ky) ts.L).isSome/\G=knF::knA::knM m::(ownT t ts'++F):=by
 intro hA
 obtain ⟨hs,hlf,hln⟩:=hA
 refine DC.bodyS (n_:=29) (show Tryz.prog.funcs[100]? = some Tryz.f100 by kernel_rfl) rfl rfl (by rfl) ?_
 simp only [env0,List.append_assoc,List.cons_append,List.nil_append]
 have kw:=ksIs [0,1,2,6,7,20]
 have ow:=zai []
 have dw1:=drIs 1 [10] [1,6,8]
 have hlk:True:=trivial
 have hC:True:=trivial
 simp only [ownT,List.cons_append,List.append_assoc,List.nil_append]
 repeat' (first
  | ((refine DOp.load_ rfl rfl ?_);(repeat (with_reducible first | refine OnB.here ?_ | refine OnB.next ?_ | (refine OnB.inH (by assumption) ?_;with_reducible intro C) | refine OnB.skip ?_));refine zbb ?_)
  | ((refine dm_ ?_);(refine DVop.load_ rfl rfl rfl rfl ?_);(repeat (with_reducible first | refine OnB.here ?_ | refine OnB.next ?_ | (refine OnB.inH (by assumption) ?_;with_reducible intro C) | refine OnB.skip ?_));refine zbb ?_)
  | refine g_ ?_
  | ((with_reducible refine And.intro ?_ ?_);(exact zbP))
  | (refine DW.cond (by rfl) ?_ ?_<;>(first | exact i0_ | (intro hb;(try simp only [↓reduceCtorEq,not_true_eq_false,not_false_eq_true,hbs,Int.reduceBEq,Int.reduceBNe,Int.reduceEq] at hb);(try refine zbb ?_))))
  | ((with_reducible first | refine zaa ?_ ?_ | refine zak ?_ ?_)<;>(intro hb;rw [hb];revert hb;(first | exact i0_ | (intro hb;(try simp only [↓reduceCtorEq,not_true_eq_false,not_false_eq_true,hbs,Int.reduceBEq,Int.reduceBNe,Int.reduceEq] at hb);(try refine zbb ?_)))))
  | ((first | refine rn_ ?_ | refine dn_ ?_ | refine kn_ ?_)<;>(refine zbb ?_))
  | ((refine dm_ ?_);(first | ((first | refine v_ (zfd _ _ _) ?_ (ha:=by exact zbP) (hk:=fun q=>q.1) | refine v_ (zj0 _ _ _) ?_ (ha:=by exact zbP) (hk:=fun q=>q.1));refine zbb ?_)))
  | ((refine von_ ?_);refine zbb ?_)
  | ((first | refine q_ (zfd _ _ _) ?_ (ha:=by exact zbP) (hk:=fun q=>q.1) | refine q_ (zj0 _ _ _) ?_ (ha:=by exact zbP) (hk:=fun q=>q.1));refine zbb ?_)
  | (refine p_ (zpm _ _ _ _) ?_ (ha:=by exact zbP);rintro d H1 ⟨ts2,⟨hs2,hr2,hL2⟩,rfl,rfl⟩<;>refine zbb ?_)
  | ((refine on_ ?_);refine zbb ?_)
  | refine f_ ?_
  | refine vm_ ?_
  | with_reducible intro b)
 all_goals first
 | (refine ⟨_,_,le.rfl_,⟨ts2,⟨hs2,hL2⟩,rfl,rfl⟩,?_⟩;(try unfold ownT);(rw [hr2,hL2,zpU hb]);(exact sub_);done)
 | (refine ⟨_,_,le.rfl_,⟨ts2,⟨hs2,hL2⟩,rfl,rfl⟩,?_⟩;(try unfold ownT);(rw [hr2,hL2,zfj (none_of hb)]);(exact sub_);done)
 | (have hno:=zjg hs hb ky
    refine ⟨_,_,le.of_eq ?_,⟨ts,⟨hs,(zfj hno).symm⟩,rfl,rfl⟩,?_⟩;(focus (rw [hno];rfl));(try unfold ownT);(try simp only [List.cons_append]);(exact sub_);done)
 | (trace_state;fail)
end
theorem zcL {p:Prop} (h:p:=by first | exact sv | (show (spl f).length<=_;omega) | exact ⟨hkn,Nat.le_trans hkz hln,hkb⟩ | fail):p:=h
section
theorem zk4 (m:Int) (t:Nat) (ts:TS) (f:Str) (F:Own):(TOK ts/\f.length<=1000000/\ts.L.length<=1000000000)->DC Tryz.prog 95 [.raw (.pointer (some ⟨t,0,none⟩)), .str f] (loose::knF::knA::knM m::(ownT t ts++[])++F) fun d G=>d = .sl ((zcM ts.L f).map V.str)/\G=(loose::knF::knA::knM m::(ownT t ts++[]))++F:=by
 intro hA
 obtain ⟨hs,hlf,hln⟩:=hA
 refine DC.bodyS (n_:=37) (show Tryz.prog.funcs[95]? = some Tryz.f95 by kernel_rfl) rfl rfl (by rfl) ?_
 simp only [env0,List.append_assoc,List.cons_append,List.nil_append]
 have kw:=ksIs [0,1,4,5,7,10,16,17,18,19,29]
 have ow:=zai []
 have hlk:True:=trivial
 have hC:True:=trivial
 simp only [ownT,List.cons_append,List.append_assoc,List.nil_append]
 repeat' (first
  | ((fail_if_success (have zz:=hop));(obtain ⟨_,rfl⟩:=zcj hx);(with_reducible apply DW.openR 11 hx);(repeat (with_reducible first | refine OutL.here ?_ | refine OutL.next ?_ | refine OutL.skip ?_));(intro g1 g2 hg);(have hop:True:=trivial);(unfold Nd.own;simp only [List.cons_append,List.nil_append]))
  | ((refine DOp.load_ rfl rfl ?_);(repeat (with_reducible first | refine OnB.here ?_ | refine OnB.next ?_ | (refine OnB.inH (by assumption) ?_;with_reducible intro C) | refine OnB.skip ?_));refine zbb ?_)
  | ((refine DOp.look_ rfl rfl ?_);(repeat (with_reducible first | refine OnM.here ?_ | refine OnM.next ?_ | (refine OnM.inN (by assumption) ?_;with_reducible intro C hC) | (refine OnM.inK (by assumption) ?_;with_reducible intro C hC) | refine OnM.skip ?_));refine zbb ?_)
  | ((with_reducible refine DW.loopB 0 (X:=Nat×Nat) (fun x=>x.1<=(spl f).length/\fol ts.h ts.r ((spl f).take x.1)=some x.2) (fun x=>[(5, .raw (.pointer (some ⟨x.2,0,none⟩))),(16, .sl ((spl f).map V.str)),(17, .int .i64 (spl f).length),(18, .int .i64 x.1)]) (fun x=>([]:Own)) (fun x=>(spl f).length - x.1) ((0,ts.r)) ?_ ?_ ?_);exact (⟨Nat.zero_le _,rfl⟩);(simp [Sub,get,zbn]<;>fail);(try simp only [List.append_assoc,List.cons_append,List.nil_append]);refine pl_ ?_;intro ⟨k,c⟩ ⟨hk,hf⟩;(try simp only [List.append_assoc,List.cons_append,List.nil_append]);(try simp only at hk hf);have hl6:(spl f).length<=65536:=zgF (by assumption);(obtain ⟨nd,hx⟩:=hs.tri.at hf);by_cases hkl:k<(spl f).length;(rcases hlk:lookA ((spl f).getD k default) nd.next with _ | c2);rotate_left 2;((have hkl2:k=(spl f).length:=by omega);(rw [hkl2,List.take_length] at hf);(obtain ⟨hkn,hkz,hkb,hkm⟩:=nodeK hs hf hx)))
  | refine g_ ?_
  | ((with_reducible refine And.intro ?_ ?_);(exact zcL))
  | (refine DW.cond (by rfl) ?_ ?_<;>(first | exact i0_ | (intro hb;(try simp only [↓reduceCtorEq,not_true_eq_false,not_false_eq_true,hbs,Int.reduceBEq,Int.reduceBNe,Int.reduceEq] at hb);(try refine zbb ?_))))
  | ((with_reducible refine zaa ?_ ?_)<;>(intro hb;rw [hb];revert hb;(first | exact i0_ | (intro hb;(try simp only [↓reduceCtorEq,not_true_eq_false,not_false_eq_true,hbs,Int.reduceBEq,Int.reduceBNe,Int.reduceEq] at hb);(try refine zbb ?_)))))
  | ((first | refine rn_ ?_ | refine kn_ ?_)<;>(refine zbb ?_))
  | ((first | (refine DOp.look_ rfl rfl ?_;(repeat (with_reducible first | refine OnM.here ?_ | refine OnM.next ?_))) | (refine DOp.lenm_ rfl rfl ?_;(repeat (with_reducible first | refine OnM.here ?_ | refine OnM.next ?_))))<;>(refine zbb ?_))
  | ((first | refine q_ (zfd _ _ _) ?_ (ha:=by exact zcL) (hk:=fun q=>q.1) | refine q_ (zj0 _ _ _) ?_ (ha:=by exact zcL) (hk:=fun q=>q.1));refine zbb ?_)
  | (refine p_ (zoI _ _) ?_ (ha:=by exact zcL);rintro d H1 ⟨nb,rfl,rfl⟩<;>refine zbb ?_)
  | (refine q_ (zpe _ _ _ _) ?_ (ha:=by exact zcL) (hk:=fun q=>q.1);refine zbb ?_)
  | ((refine on_ ?_);refine zbb ?_)
  | refine f_ ?_
  | with_reducible intro b)
 all_goals first
 | (have hno:=fun k=>zjg hs (by assumption) k
    rw [zht hno];(first | exact fin_ | refine finq_ ?_);done)
 | (have hno:∀ j,lookA (f,j) ts.L=none:=zmR hs (k:=k+1) (by rw [zqO hkl,hs.tri.fkid hf hx];exact hlk)
    rw [zht hno];(first | exact fin_ | refine finq_ ?_);done)
 | (refine ⟨(k+1,c2),⟨by (try simp only);omega,?_⟩,by (try simp only);omega,by simp [Sub,get],?_⟩;(focus ((try dsimp only);rw [zqO hkl,hs.tri.fkid hf hx];exact hlk));((try dsimp only);(exact sub_));done)
 | (rw [zqo hkn hkm,hg];(refine ⟨_,_,le.rfl_,⟨rfl,rfl⟩,?_⟩);(repeat (first | refine SubP.pick ?_ | refine Out.here ?_ | refine Out.next ?_ | refine Out.skip ?_));(refine SubP.closeR ?_);(unfold Nd.own;simp only [List.cons_append,List.nil_append]);(exact sub_);done)
 | (trace_state;fail)
end
end
section
attribute [local irreducible] DW SeqD DV DOp DC DVX Nd.own ownH zbF spl zfP vis zlL hidT sortS
section
end
end
end Go.Proofs.YtgekknefphagbaaGreatDoor
