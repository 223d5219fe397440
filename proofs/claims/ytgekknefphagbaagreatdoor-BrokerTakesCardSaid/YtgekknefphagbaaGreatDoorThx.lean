/- The trie: a pair comes. -/
import Derived.Test.YtgekknefphagbaaGreatDoorTex
import Derived.KernelRfl
namespace Go.Proofs.YtgekknefphagbaaGreatDoor
open Go.RowKit
set_option linter.unusedSimpArgs false
set_option linter.unusedVariables false
set_option linter.unusedSectionVars false
set_option maxHeartbeats 4000000
set_option maxRecDepth 100000
section
abbrev Hp:=List Nd
theorem zks {l:List Str} {k:Nat} (h:k<l.length):l.take (k+1)=l.take k++[l.getD k default]:=by
 rw [List.take_add_one];simp [List.getD_eq_getElem?_getD,h]
theorem zew {f:Str} (h:filterB f=true):(spl f).length<=65536:=by
 have h1:=(zgz h).2
 have h2:=(zfq f).1
 rw [zgF] at h2
 omega
def putL (L:TL) (f k:Str) (q:Int):TL:=if filterB f=true then updA (f,k) q L else L
def wasL (L:TL) (f k:Str):Int:=if filterB f=true then (lookA (f,k) L).getD 0 else 0
def hadL (L:TL) (f k:Str):Bool:=filterB f&&(lookA (f,k) L).isSome
theorem zj1 {α β:Type} [DecidableEq α] {k:α} {v:β} {x:α×β}:∀ {l:List (α×β)},x∈updA k v l->x.1=k\/x∈l
 | [],h=>by rw [List.mem_singleton.1 h];exact .inl rfl
 | y::l,h=>by
  unfold updA at h
  split at h
  · rename_i e
    rcases List.mem_cons.1 h with rfl | h
    · exact .inl e.symm
    · exact .inr (List.mem_cons_of_mem _ h)
  · rcases List.mem_cons.1 h with rfl | h
    · exact .inr List.mem_cons_self
    · exact (zj1 h).imp id (List.mem_cons_of_mem _)
theorem zjs {s:TS} {h:List Nd} {f:Str} {c:Nat} {nd:Nd} (ht:Tri h s.r (mOf s.L)) (hf:fol h s.r (spl f)=some c) (hx:fnd h c=some nd) (k:Str):lookA k nd.keys=lookA (f,k) s.L:=by rw [ht.has _ _ _ hf hx,zeB]
theorem zqO {s:TS} (hs:TOK s) {f ky:Str} {q:Int} {h:List Nd} {c:Nat} {nd:Nd} (hkl:ky.length<=1000000000) (hfb:filterB f=true) (ht:Tri h s.r (mOf s.L)) (hf:fol h s.r (spl f)=some c) (hx:fnd h c=some nd):TOK ⟨s.r,setN h { nd with keys:=updA ky q nd.keys },updA (f,ky) q s.L⟩:=by
 refine ⟨?_,zdt hs.nd,fun e he=>?_,fun e he=>?_⟩
 · have:=(ht.keys hf hx (zdt (k:=ky) (v:=q) (ht.nn _ _ hx).2)).1
   rwa [mOf_put (fun k'=>ht.has _ _ _ hf hx k')] at this
 · rcases zj1 he with h | h
   · rw [h];exact hfb
   · exact hs.fl e h
 · rcases zj1 he with h | h
   · rw [h];exact hkl
   · exact hs.kl e h
theorem put_len (L:TL) (f k:Str) (q:Int):(lookA (f,k) L).isSome=true->(((updA (f,k) q L).length:Nat):Int)=(L.length:Int):=fun h=>by rw [zfM,if_pos h]
theorem zo7 (L:TL) (f k:Str) (q:Int):(lookA (f,k) L).isSome=false->(((updA (f,k) q L).length:Nat):Int)=(L.length:Int)+1:=fun h=>by rw [zfM,if_neg (by rw [h];simp)];simp
theorem zht (m:Int) (f:Str) (F:Own):f.length<=1000000->DC Tryz.prog 120 [.str f] ([knM m]++F) fun d G=>d = .sl ((spl f).map V.str)/\G=[knM m]++F:=fun h=>by
 have:=zhi m f F (by omega)
 rwa [zgF] at this
attribute [local irreducible] DW SeqD DV DOp DC DVX Nd.own ownH filterB spl
theorem zeS {p:Prop} (h:p:=by first | exact sv | (show (spl f).length<=_;omega) | ((repeat (first | exact List.mem_append_left _ (blk_in hx) | refine List.mem_append_right _ ?_ | refine List.mem_cons_of_mem _ ?_));done) | fail):p:=h
theorem zfi {P Q:Prop} (q:Q) (h:Hid Q->P:=by (intro q;simp (maxSteps:=1000000) (disch:=omega) only [push_cast,↓reduceIte,reduceCtorEq,Nat.reduceAdd,Nat.reduceMul,Nat.reduceLT,Nat.reduceLeDiff,Nat.reduceEqDiff,Nat.reduceSub,Int.reduceToNat,Int.reduceLT,Int.reduceLE,Int.reduceAdd,Int.reduceSub,Int.reduceMul,Int.reduceNeg,Nat.reduceBEq,Int.reduceBEq,Int.reduceBNe,Nat.reduceBNe,Int.reduceEq,hlk,hC,klS,klV];exact q.1)):P:=h ⟨q⟩
section
attribute [local push_cast 2000] za9 zaW za8 zaL za3 zaG zaV za7 zax za2 zaX zaB zaC zaY zaE zaq za6 zat zaZ za5 zas zba zaD zar zap zaR zcO zaH zaF Option.getD_some Option.getD_none Option.isSome_some Option.isSome_none
theorem put_dc (m:Int) (t:Nat) (ts:TS) (f ky:Str) (q:Int) (F:Own):(TOK ts/\f.length<=1000000/\ts.L.length<=1000000000/\ky.length<=1000000000)->DC Tryz.prog 97 [.raw (.pointer (some ⟨t,0,none⟩)), .str f, .str ky, .int .i64 q] (knF::knA::knM m::(ownT t ts++[])++F) fun d G=>∃ ts':TS,TOK ts'/\ts'.L=putL ts.L f ky q/\d = .tup [.int .i64 (wasL ts.L f ky), .bool (hadL ts.L f ky)]/\G=knF::knA::knM m::(ownT t ts'++F):=by
 intro hA
 obtain ⟨hs,hlf,hln,hlk9⟩:=hA
 refine DC.bodyS (n_:=75) (show Tryz.prog.funcs[97]? = some Tryz.f97 by kernel_rfl) rfl rfl (by rfl) ?_
 simp only [env0,List.append_assoc,List.cons_append,List.nil_append]
 have kw:=ksIs [0,1,2,3,8,9,10,12,13,14,17,23,24,25,26,35,65]
 have ow:=zaf []
 have hlk:True:=trivial
 have hC:True:=trivial
 simp only [ownT,List.cons_append,List.append_assoc,List.nil_append]
 repeat' (first
  | ((with_reducible apply DW.drawJ (id:=8) 10 [0,1,2,3,8,9,10,12,13,14,17,23,24,25,26,35,65] [5,6] [3] [5] (hm:=by kernel_rfl) (hd:=by kernel_rfl) (hB:=by kernel_rfl) (hN:=by kernel_rfl));(focus (exact rfl));(repeat (with_reducible first | refine OnB.here ?_ | refine OnB.next ?_ | (refine OnB.inH (by assumption) ?_;with_reducible intro C) | refine OnB.skip ?_));refine zfi ?_)
  | ((fail_if_success (have zz:=hgr));(with_reducible apply DW.grow (y:=y) ht hf hx hlk ⟨hy1,hy2⟩ (by rw [List.length_take];omega));(repeat (with_reducible first | refine OutL.here ?_ | refine OutL.next ?_ | refine OutL.skip ?_));(intro h2 nd2 ht2 hf2 hx2 hlk);(have hgr:True:=trivial))
  | ((refine DOp.load_ rfl rfl ?_);(repeat (with_reducible first | refine OnB.here ?_ | refine OnB.next ?_ | (refine OnB.inH (by assumption) ?_;with_reducible intro C) | refine OnB.skip ?_));refine zfi ?_)
  | ((refine DOp.look_ rfl rfl ?_);(repeat (with_reducible first | refine OnM.here ?_ | refine OnM.next ?_ | (refine OnM.inN (by assumption) ?_;with_reducible intro C hC) | (refine OnM.inK (by assumption) ?_;with_reducible intro C hC) | refine OnM.skip ?_));refine zfi ?_)
  | ((refine DOp.upd_ rfl rfl ?_);(repeat (with_reducible first | refine OnM.here ?_ | refine OnM.next ?_ | (refine OnM.inN (by assumption) ?_;with_reducible intro C hC) | (refine OnM.inK (by assumption) ?_;with_reducible intro C hC) | refine OnM.skip ?_));refine zfi ?_)
  | ((refine dm_ ?_);(refine DVop.load_ rfl rfl rfl rfl ?_);(repeat (with_reducible first | refine OnB.here ?_ | refine OnB.next ?_ | (refine OnB.inH (by assumption) ?_;with_reducible intro C) | refine OnB.skip ?_));refine zfi ?_)
  | ((refine dm_ ?_);(refine DVop.look_ rfl rfl rfl rfl ?_);(repeat (with_reducible first | refine OnM.here ?_ | refine OnM.next ?_ | (refine OnM.inN (by assumption) ?_;with_reducible intro C hC) | (refine OnM.inK (by assumption) ?_;with_reducible intro C hC) | refine OnM.skip ?_));refine zfi ?_)
  | ((with_reducible refine DW.loopB 0 (X:=Nat×Nat×Hp) (fun x=>x.1<=(spl f).length/\Tri x.2.2 ts.r (mOf ts.L)/\fol x.2.2 ts.r ((spl f).take x.1)=some x.2.1) (fun x=>[(0, .raw (.pointer (some ⟨t,0,none⟩))),(2, .str ky),(3, .int .i64 q),(10, .raw (.pointer (some ⟨x.2.1,0,none⟩))),(23, .sl ((spl f).map V.str)),(24, .int .i64 (spl f).length),(25, .int .i64 x.1)]) (fun x=>(ownH x.2.2++[])) (fun x=>(spl f).length - x.1) ((0,ts.r,ts.h)) ?_ ?_ ?_);exact (⟨Nat.zero_le _,hs.tri,rfl⟩);(exact kxcm);(try simp only [List.append_assoc,List.cons_append,List.nil_append]);refine pl_ ?_;intro ⟨k,c,h⟩ ⟨hk,ht,hf⟩;(try simp only [List.append_assoc,List.cons_append,List.nil_append]);(try simp only at hk ht hf);have hl6:(spl f).length<=65536:=zew (by assumption);(obtain ⟨nd,hx⟩:=ht.at hf);by_cases hkl:k<(spl f).length;(rcases hlk:lookA ((spl f).getD k default) nd.next with _ | c2);skip)
  | refine g_ ?_
  | ((with_reducible refine And.intro ?_ ?_);(exact zeS))
  | (refine DW.cond (by rfl) ?_ ?_<;>(first | exact i0_ | (intro hb;(try simp only [↓reduceCtorEq,not_true_eq_false,not_false_eq_true,hbs,Int.reduceBEq,Int.reduceBNe,Int.reduceEq] at hb);(try refine zfi ?_))))
  | ((with_reducible refine zaa ?_ ?_)<;>(intro hb;rw [hb];revert hb;(first | exact i0_ | (intro hb;(try simp only [↓reduceCtorEq,not_true_eq_false,not_false_eq_true,hbs,Int.reduceBEq,Int.reduceBNe,Int.reduceEq] at hb);(try refine zfi ?_)))))
  | ((first | refine rn_ ?_ | refine kn_ ?_)<;>(refine zfi ?_))
  | ((first | ((with_reducible apply DW.drawJ (id:=8) 10 [0,1,2,3,8,9,10,12,13,14,17,23,24,25,26,35,65] [5,6] [3] [5] (hm:=by kernel_rfl) (hd:=by kernel_rfl) (hB:=by kernel_rfl) (hN:=by kernel_rfl));(focus (exact rfl));(repeat (with_reducible first | refine OnB.here ?_ | refine OnB.mid ?_ | refine OnB.next ?_))) | (refine DVJ.k_ rfl rfl rfl ?_) | (refine DVJ.f_ rfl rfl rfl ?_) | (refine DOp.look_ rfl rfl ?_;(repeat (with_reducible first | refine OnM.here ?_ | refine OnM.next ?_))) | (refine DOp.upd_ rfl rfl ?_;(repeat (with_reducible first | refine OnM.here ?_ | refine OnM.next ?_))) | (refine DOp.lenm_ rfl rfl ?_;(repeat (with_reducible first | refine OnM.here ?_ | refine OnM.next ?_))))<;>(simp (maxSteps:=1000000) (disch:=omega) only [push_cast,↓reduceIte,reduceCtorEq,Nat.reduceAdd,Nat.reduceMul,Nat.reduceLT,Nat.reduceLeDiff,Nat.reduceEqDiff,Nat.reduceSub,Int.reduceToNat,Int.reduceLT,Int.reduceLE,Int.reduceAdd,Int.reduceSub,Int.reduceMul,Int.reduceNeg,Nat.reduceBEq,Int.reduceBEq,Int.reduceBNe,Nat.reduceBNe,Int.reduceEq,hlk,hC,za9,zaW,za8,zaL,za3,zaG,zaV,za7,zax,za2,zaX,zaB,zaC,zaY,zaE,zaq,za6,zat,zaZ,za5,zas,zba,zaD,zar,zap,zaR,zcO,za3,zaH,zaF,Option.getD_some,Option.getD_none,Option.isSome_some,Option.isSome_none,klS,klV]))
  | (refine q_ (zcv _ _ _) ?_ (ha:=by exact zeS) (hk:=fun q=>q.1);refine zfi ?_)
  | (refine q_ (zht _ _ _) ?_ (ha:=by exact zeS) (hk:=fun q=>q.1);refine zfi ?_)
  | (refine p_ (zii _) ?_ (ha:=by exact zeS);rintro d H1 ⟨y,rfl,⟨hy1,hy2⟩,rfl⟩<;>refine zfi ?_)
  | ((refine on_ ?_);refine zfi ?_)
  | refine f_ ?_
  | (first | refine DVJ.ma_ rfl rfl rfl ?_ | refine DVJ.mb_ rfl rfl rfl ?_)
  | with_reducible intro b)
 all_goals first
 | (refine ⟨(k+1,y.b,h2),⟨by (try simp only);omega,ht2,?_⟩,by (try simp only);omega,by simp [Sub,get],?_⟩;(focus ((try dsimp only);rw [zks hkl];exact hf2));(exact kxce);done)
 | (refine ⟨(k+1,c2,h),⟨by (try simp only);omega,ht,?_⟩,by (try simp only);omega,by simp [Sub,get],?_⟩;(focus ((try dsimp only);rw [zks hkl];rw [ht.fkid hf hx];exact hlk));(exact kxce);done)
 | ((have hkl2:k=(spl f).length:=by omega)
    subst hkl2
    rw [List.take_length] at hf
    have e1:=zjs ht hf hx ky
    have hfb:filterB f=true:=by assumption
    refine ⟨_,_,le.of_eq ?_,⟨_,zqO (ky:=ky) (q:=q) hs hlk9 hfb ht hf hx,?_,rfl,rfl⟩,?_⟩;(focus (unfold wasL hadL;rw [hfb,if_pos rfl,e1];rfl));(focus (unfold putL;rw [if_pos hfb]));((try unfold ownT);(try simp only [List.cons_append]);rw [put_len _ f ky q (by rw [<-e1];assumption)];(exact sub_));done)
 | ((have hkl2:k=(spl f).length:=by omega)
    subst hkl2
    rw [List.take_length] at hf
    have e1:=zjs ht hf hx ky
    have hfb:filterB f=true:=by assumption
    refine ⟨_,_,le.of_eq ?_,⟨_,zqO (ky:=ky) (q:=q) hs hlk9 hfb ht hf hx,?_,rfl,rfl⟩,?_⟩;(focus (unfold wasL hadL;rw [hfb,if_pos rfl,e1];rfl));(focus (unfold putL;rw [if_pos hfb]));((try unfold ownT);(try simp only [List.cons_append]);rw [zo7 _ f ky q (by rw [<-e1];assumption)];(exact sub_));done)
 | (refine ⟨_,_,le.of_eq ?_,⟨ts,hs,?_,rfl,rfl⟩,?_⟩;(focus (unfold wasL hadL;rw [if_neg (by simp_all)];simp_all));(focus (unfold putL;rw [if_neg (by simp_all)]));((try unfold ownT);(try simp only [List.cons_append]);(exact sub_));done)
 | (trace_state;fail)
end
end
section
def mDrop (m:List Str->Str->Option Int) (p:List Str) (k:Str):List Str->Str->Option Int:=fun q j=>if q=p/\j=k then none else m q j
theorem zle {m:List Str->Str->Option Int} {p:List Str} {k:Str} (h:m p k=none):mDrop m p k=m:=by
 funext q j
 unfold mDrop
 split
 · rename_i e;rw [e.1,e.2,h]
 · rfl
structure DropP (h h':List Nd) (r:Nat) (m:List Str->Str->Option Int) (p l:List Str) (k:Str):Prop where
 tri:Tri h' r (mDrop m (p++l) k)
 keep:∀ q,(¬ p <+: q\/q=p)->fol h' r q=fol h r q
section
variable {h h1:List Nd} {r b c:Nat} {m:List Str->Str->Option Int} {p t:List Str} {x key:Str} {nd:Nd}
theorem zni (ht:Tri h r m) (hp:fol h r p=some b) (hx:fnd h b=some nd):DropP h (setN h { nd with keys:=za0 key nd.keys }) r m p [] key/\(m p key).isSome=(lookA key nd.keys).isSome:=by
 have hk:=ht.has _ _ _ hp hx
 have hn:=(ht.nn _ _ hx).2
 obtain ⟨t1,t2⟩:=ht.keys hp hx (zdx (k:=key) hn)
 have e:(fun q k=>if q=p then lookA k (za0 key nd.keys) else m q k)=mDrop m p key:=by
  funext q j
  unfold mDrop
  by_cases hq:q=p
  · subst hq
    rw [if_pos rfl,zeh hn,hk]
    by_cases hj:j=key
    · rw [if_pos hj,if_pos ⟨rfl,hj⟩]
    · rw [if_neg hj,if_neg (fun e=>hj e.2)]
  · rw [if_neg hq,if_neg (fun e=>hq e.1)]
 rw [e] at t1
 refine ⟨⟨by rw [List.append_nil];exact t1,fun q _=>t2 q⟩,by rw [hk]⟩
theorem zox (ht:Tri h r m) (hp:fol h r p=some b) (hx:fnd h b=some nd) (hl:lookA x nd.next=none):DropP h h r m p (x::t) key/\(m (p++x::t) key).isSome=false:=by
 have e:m (p++x::t) key=none:=ht.all _ _ (by
  rw [show p++x::t=(p++[x])++t by simp,zfk,ht.fkid hp hx,hl];rfl)
 exact ⟨⟨by rw [zle e];exact ht,fun _ _=>rfl⟩,by rw [e];rfl⟩
theorem zkK (p:List Str) (x:Str):¬ (p++[x]) <+: p:=fun e=>by have:=e.length_le;simp at this;omega
theorem zm5 (hp:fol h r p=some b) (hf:fol h r (p++[x])=some c) (D:DropP h h1 r m (p++[x]) t key):∃ nd1 nd2,fnd h1 c=some nd1/\fnd h1 b=some nd2/\lookA x nd2.next=some c/\fol h1 r p=some b/\fol h1 r (p++[x])=some c:=by
 have e1:fol h1 r p=some b:=by rw [D.keep _ (.inl (zkK p x)),hp]
 have e2:fol h1 r (p++[x])=some c:=by rw [D.keep _ (.inr rfl),hf]
 obtain ⟨nd1,h1'⟩:=D.tri.at e2
 obtain ⟨nd2,h2'⟩:=D.tri.at e1
 exact ⟨nd1,nd2,h1',h2',by rw [<-D.tri.fkid e1 h2',e2],e1,e2⟩
theorem zng (D:DropP h h1 r m (p++[x]) t key):DropP h h1 r m p (x::t) key:=by
 have:=D.tri
 refine ⟨by rw [show p++x::t=(p++[x])++t by simp];exact this,fun q hq=>D.keep q ?_⟩
 rcases hq with hq | rfl
 · exact .inl fun e=>hq ((List.prefix_append p [x]).trans e)
 · exact .inl (zkK _ x)
theorem zlm {nd1 nd2:Nd} (D:DropP h h1 r m (p++[x]) t key) (hy:fnd h1 c=some nd1) (hz:fnd h1 b=some nd2) (hl:lookA x nd2.next=some c) (e1:fol h1 r p=some b) (hn:nd1.next=[]) (hk:nd1.keys=[]):DropP h (setN h1 { nd2 with next:=za0 x nd2.next }) r m p (x::t) key:=by
 have D2:=zng D
 obtain ⟨t1,t2⟩:=D2.tri.prune e1 hz hl hy hn hk
 refine ⟨t1,fun q hq=>?_⟩
 rw [t2 q,D2.keep q hq]
 rcases hq with hq | rfl
 · exact fun e=>hq ((List.prefix_append p [x]).trans e)
 · exact zkK _ x
theorem app_one (p:List Str) (x:Str) (t:List Str):(p++[x])++t=p++x::t:=by simp
end
theorem fst_do {p q:Prop} (h:p) (k:p->q):q:=k h
theorem zjx {α:Type} {l:List α} (h:(l.length:Int)=0):l=[]:=List.length_eq_zero_iff.1 (by omega)
attribute [local irreducible] DW SeqD DV DOp DC DVX Nd.own ownH
theorem zbM {P Q:Prop} (q:Q) (h:Hid Q->P:=by (intro q;simp (maxSteps:=1000000) (disch:=omega) only [push_cast,↓reduceIte,reduceCtorEq,Nat.reduceAdd,Nat.reduceMul,Nat.reduceLT,Nat.reduceLeDiff,Nat.reduceEqDiff,Nat.reduceSub,Int.reduceToNat,Int.reduceLT,Int.reduceLE,Int.reduceAdd,Int.reduceSub,Int.reduceMul,Int.reduceNeg,Nat.reduceBEq,Int.reduceBEq,Int.reduceBNe,Nat.reduceBNe,Int.reduceEq,hlk,hC];exact q.1)):P:=h ⟨q⟩
attribute [local push_cast 2000] za9 zaW za8 zaL za3 zaG zaV za7 zax za2 zaX zaB zaC zaY zaE zaq za6 zat zaZ za5 zas zba zaD zar zap zaR zcO zaH zaF Option.getD_some Option.getD_none Option.isSome_some Option.isSome_none
section
theorem zpT (r:Nat) (m:List Str->Str->Option Int) (key:Str) (h:List Nd) (p:List Str) (b:Nat) (nd:Nd) (F:Own):(Tri h r m/\fol h r p=some b/\fnd h b=some nd)->DC Tryz.prog 159 [.raw (.pointer (some ⟨b,0,none⟩)), .sl [], .str key] (ownH h++[]++F) fun d G=>∃ h':List Nd,DropP h h' r m p [] key/\d = .bool (m (p++[]) key).isSome/\G=ownH h'++F:=by
 intro hA
 obtain ⟨ht,hp,hx⟩:=hA
 refine DC.bodyS (n_:=66) (show Tryz.prog.funcs[159]? = some Tryz.f159 by kernel_rfl) rfl rfl (by rfl) ?_
 simp only [env0,List.append_assoc,List.cons_append,List.nil_append]
 have kw:=ksIs [0,1,2,6,8,9,10,13,38,57]
 have ow:=zaf []
 have dw5:=drIs 5 [] [3,6,7]
 have dw10:=drIs 10 [7] [3,6]
 have hlk:True:=trivial
 have hC:True:=trivial
 have hfa:=zni (key:=key) ht hp hx
 repeat' (first
  | ((refine DOp.load_ rfl rfl ?_);(repeat (with_reducible first | refine OnB.here ?_ | refine OnB.next ?_ | (refine OnB.inH (by assumption) ?_;with_reducible intro C) | refine OnB.skip ?_));refine zbM ?_)
  | ((refine DOp.look_ rfl rfl ?_);(repeat (with_reducible first | refine OnM.here ?_ | refine OnM.next ?_ | (refine OnM.inN (by assumption) ?_;with_reducible intro C hC) | (refine OnM.inK (by assumption) ?_;with_reducible intro C hC) | refine OnM.skip ?_));refine zbM ?_)
  | ((refine DOp.delm_ rfl rfl ?_);(repeat (with_reducible first | refine OnM.here ?_ | refine OnM.next ?_ | (refine OnM.inN (by assumption) ?_;with_reducible intro C hC) | (refine OnM.inK (by assumption) ?_;with_reducible intro C hC) | refine OnM.skip ?_));refine zbM ?_)
  | refine g_ ?_
  | ((with_reducible refine And.intro ?_ ?_);(exact sv))
  | (refine DW.cond (by rfl) ?_ ?_<;>(first | exact i0_ | (intro hb;(try simp only [↓reduceCtorEq,not_true_eq_false,not_false_eq_true,hbs,Int.reduceBEq,Int.reduceBNe,Int.reduceEq] at hb);(try refine zbM ?_))))
  | ((with_reducible first | refine zaa ?_ ?_ | refine zak ?_ ?_)<;>(intro hb;rw [hb];revert hb;(first | exact i0_ | (intro hb;(try simp only [↓reduceCtorEq,not_true_eq_false,not_false_eq_true,hbs,Int.reduceBEq,Int.reduceBNe,Int.reduceEq] at hb);(try refine zbM ?_)))))
  | ((first | refine rn_ ?_ | refine dn_ ?_ | refine kn_ ?_)<;>(refine zbM ?_))
  | ((refine dm_ ?_);(first | (refine DVop.look_ rfl rfl rfl rfl ?_;(repeat (with_reducible first | refine OnM.here ?_ | refine OnM.next ?_));refine zbM ?_)))
  | ((refine von_ ?_);refine zbM ?_)
  | ((first | (refine DOp.look_ rfl rfl ?_;(repeat (with_reducible first | refine OnM.here ?_ | refine OnM.next ?_))) | (refine DOp.lenm_ rfl rfl ?_;(repeat (with_reducible first | refine OnM.here ?_ | refine OnM.next ?_))) | (refine DOp.delm_ rfl rfl ?_;(repeat (with_reducible first | refine OnM.here ?_ | refine OnM.next ?_))))<;>(refine zbM ?_))
  | ((refine on_ ?_);refine zbM ?_)
  | refine f_ ?_
  | refine vm_ ?_
  | with_reducible intro b)
 all_goals first
 | (refine ⟨_,_,le.of_eq ?_,⟨_,hfa.1,rfl,rfl⟩,?_⟩;(focus (rw [hfa.2]));(exact sub_);done)
 | (trace_state;fail)
end
section
attribute [local push_cast 2000] zeI
theorem zpM (r:Nat) (m:List Str->Str->Option Int) (key:Str) (h:List Nd) (p:List Str) (b:Nat) (nd:Nd) (x:Str) (t:List Str) (F:Own):((Tri h r m/\fol h r p=some b/\fnd h b=some nd)/\lookA x nd.next=none/\t.length<=1000000000)->DC Tryz.prog 159 [.raw (.pointer (some ⟨b,0,none⟩)), .sl (.str x::t.map V.str), .str key] (ownH h++[]++F) fun d G=>∃ h':List Nd,DropP h h' r m p (x::t) key/\d = .bool (m (p++(x::t)) key).isSome/\G=ownH h'++F:=by
 intro hA
 obtain ⟨⟨ht,hp,hx⟩,hlk,hlt⟩:=hA
 refine DC.bodyS (n_:=66) (show Tryz.prog.funcs[159]? = some Tryz.f159 by kernel_rfl) rfl rfl (by rfl) ?_
 simp only [env0,List.append_assoc,List.cons_append,List.nil_append]
 have kw:=ksIs [0,1,2,6,8,9,10,13,38,57]
 have ow:=zaf []
 have dw5:=drIs 5 [] [3,6,7]
 have dw10:=drIs 10 [7] [3,6]
 have hC:True:=trivial
 have hfa:=zox (t:=t) (key:=key) ht hp hx hlk
 repeat' (first
  | ((refine dm_ ?_);(refine DVop.load_ rfl rfl rfl rfl ?_);(repeat (with_reducible first | refine OnB.here ?_ | refine OnB.next ?_ | (refine OnB.inH (by assumption) ?_;with_reducible intro C) | refine OnB.skip ?_));refine zbM ?_)
  | ((refine dm_ ?_);(refine DVop.look_ rfl rfl rfl rfl ?_);(repeat (with_reducible first | refine OnM.here ?_ | refine OnM.next ?_ | (refine OnM.inN (by assumption) ?_;with_reducible intro C hC) | (refine OnM.inK (by assumption) ?_;with_reducible intro C hC) | refine OnM.skip ?_));refine zbM ?_)
  | ((refine DOp.load_ rfl rfl ?_);(repeat (with_reducible first | refine OnB.here ?_ | refine OnB.next ?_ | (refine OnB.inH (by assumption) ?_;with_reducible intro C) | refine OnB.skip ?_));refine zbM ?_)
  | ((refine DOp.look_ rfl rfl ?_);(repeat (with_reducible first | refine OnM.here ?_ | refine OnM.next ?_ | (refine OnM.inN (by assumption) ?_;with_reducible intro C hC) | (refine OnM.inK (by assumption) ?_;with_reducible intro C hC) | refine OnM.skip ?_));refine zbM ?_)
  | refine g_ ?_
  | ((with_reducible refine And.intro ?_ ?_);(exact sv))
  | (refine DW.cond (by rfl) ?_ ?_<;>(first | exact i0_ | (intro hb;(try simp only [↓reduceCtorEq,not_true_eq_false,not_false_eq_true,hbs,Int.reduceBEq,Int.reduceBNe,Int.reduceEq] at hb);(try refine zbM ?_))))
  | ((with_reducible first | refine zaa ?_ ?_ | refine zak ?_ ?_)<;>(intro hb;rw [hb];revert hb;(first | exact i0_ | (intro hb;(try simp only [↓reduceCtorEq,not_true_eq_false,not_false_eq_true,hbs,Int.reduceBEq,Int.reduceBNe,Int.reduceEq] at hb);(try refine zbM ?_)))))
  | ((first | refine rn_ ?_ | refine dn_ ?_ | refine kn_ ?_)<;>(refine zbM ?_))
  | ((refine dm_ ?_);(first | (refine DVop.look_ rfl rfl rfl rfl ?_;(repeat (with_reducible first | refine OnM.here ?_ | refine OnM.next ?_));refine zbM ?_)))
  | ((refine von_ ?_);refine zbM ?_)
  | ((first | (refine DOp.look_ rfl rfl ?_;(repeat (with_reducible first | refine OnM.here ?_ | refine OnM.next ?_))) | (refine DOp.lenm_ rfl rfl ?_;(repeat (with_reducible first | refine OnM.here ?_ | refine OnM.next ?_))) | (refine DOp.delm_ rfl rfl ?_;(repeat (with_reducible first | refine OnM.here ?_ | refine OnM.next ?_))))<;>(refine zbM ?_))
  | ((refine on_ ?_);refine zbM ?_)
  | refine f_ ?_
  | refine vm_ ?_
  | with_reducible intro b)
 all_goals first
 | (refine ⟨_,_,le.of_eq ?_,⟨_,hfa.1,rfl,rfl⟩,?_⟩;(focus (rw [hfa.2]));(exact sub_);done)
 | (trace_state;fail)
end
theorem zgL {p:Prop} (h:p:=by first | exact sv | (refine ⟨ht,?_⟩;exact hfc) | fail):p:=h
section
attribute [local push_cast 2000] zeI app_one
theorem zoP (r:Nat) (m:List Str->Str->Option Int) (key:Str) (h:List Nd) (p:List Str) (b:Nat) (nd:Nd) (x:Str) (t:List Str) (c:Nat) (F:Own):((Tri h r m/\fol h r p=some b/\fnd h b=some nd)/\lookA x nd.next=some c/\t.length<=1000000000/\(∀ (h:List Nd) (p:List Str) (b:Nat) (F:Own),(Tri h r m/\fol h r p=some b)->DC Tryz.prog 159 [.raw (.pointer (some ⟨b,0,none⟩)), .sl (t.map V.str), .str key] ((ownH h++[])++F) fun d G=>∃ h':List Nd,DropP h h' r m p t key/\d = .bool (m (p++t) key).isSome/\G=ownH h'++F))->DC Tryz.prog 159 [.raw (.pointer (some ⟨b,0,none⟩)), .sl (.str x::t.map V.str), .str key] (ownH h++[]++F) fun d G=>∃ h':List Nd,DropP h h' r m p (x::t) key/\d = .bool (m (p++(x::t)) key).isSome/\G=ownH h'++F:=by
 intro hA
 obtain ⟨⟨ht,hp,hx⟩,hlk,hlt,hcl⟩:=hA
 refine DC.bodyS (n_:=66) (show Tryz.prog.funcs[159]? = some Tryz.f159 by kernel_rfl) rfl rfl (by rfl) ?_
 simp only [env0,List.append_assoc,List.cons_append,List.nil_append]
 have kw:=ksIs [0,1,2,6,8,9,10,13,38,57]
 have ow:=zaf [48,55]
 have dw5:=drIs 5 [] [3,6,7]
 have dw10:=drIs 10 [7] [3,6]
 have hC:True:=trivial
 have hfc:=(ht.fkid hp hx x).trans hlk
 repeat' (first
  | ((fail_if_success (have zz:=hA5));(refine fst_do (zm5 hp hfc hD1) ?_);(rintro ⟨nd1,nd2,hx1,hx2,hlk,hq1,hq2⟩);(have hA5:True:=trivial))
  | ((refine dm_ ?_);(refine DVop.load_ rfl rfl rfl rfl ?_);(repeat (with_reducible first | refine OnB.here ?_ | refine OnB.next ?_ | (refine OnB.inH (by assumption) ?_;with_reducible intro C) | refine OnB.skip ?_));refine zbM ?_)
  | ((refine dm_ ?_);(refine DVop.look_ rfl rfl rfl rfl ?_);(repeat (with_reducible first | refine OnM.here ?_ | refine OnM.next ?_ | (refine OnM.inN (by assumption) ?_;with_reducible intro C hC) | (refine OnM.inK (by assumption) ?_;with_reducible intro C hC) | refine OnM.skip ?_));refine zbM ?_)
  | ((refine DOp.load_ rfl rfl ?_);(repeat (with_reducible first | refine OnB.here ?_ | refine OnB.next ?_ | (refine OnB.inH (by assumption) ?_;with_reducible intro C) | refine OnB.skip ?_));refine zbM ?_)
  | ((refine DOp.look_ rfl rfl ?_);(repeat (with_reducible first | refine OnM.here ?_ | refine OnM.next ?_ | (refine OnM.inN (by assumption) ?_;with_reducible intro C hC) | (refine OnM.inK (by assumption) ?_;with_reducible intro C hC) | refine OnM.skip ?_));refine zbM ?_)
  | ((refine DOp.lenm_ rfl rfl ?_);(repeat (with_reducible first | refine OnM.here ?_ | refine OnM.next ?_ | (refine OnM.inN (by assumption) ?_;with_reducible intro C hC) | (refine OnM.inK (by assumption) ?_;with_reducible intro C hC) | refine OnM.skip ?_));refine zbM ?_)
  | ((refine DOp.delm_ rfl rfl ?_);(repeat (with_reducible first | refine OnM.here ?_ | refine OnM.next ?_ | (refine OnM.inN (by assumption) ?_;with_reducible intro C hC) | (refine OnM.inK (by assumption) ?_;with_reducible intro C hC) | refine OnM.skip ?_));refine zbM ?_)
  | refine g_ ?_
  | ((with_reducible refine And.intro ?_ ?_);(exact zgL))
  | (refine DW.cond (by rfl) ?_ ?_<;>(first | exact i0_ | (intro hb;(try simp only [↓reduceCtorEq,not_true_eq_false,not_false_eq_true,hbs,Int.reduceBEq,Int.reduceBNe,Int.reduceEq] at hb);(try refine zbM ?_))))
  | ((with_reducible first | refine zaa ?_ ?_ | refine zak ?_ ?_)<;>(intro hb;rw [hb];revert hb;(first | exact i0_ | (intro hb;(try simp only [↓reduceCtorEq,not_true_eq_false,not_false_eq_true,hbs,Int.reduceBEq,Int.reduceBNe,Int.reduceEq] at hb);(try refine zbM ?_)))))
  | ((first | refine rn_ ?_ | refine dn_ ?_ | refine kn_ ?_)<;>(refine zbM ?_))
  | ((refine dm_ ?_);(first | (refine DVop.look_ rfl rfl rfl rfl ?_;(repeat (with_reducible first | refine OnM.here ?_ | refine OnM.next ?_));refine zbM ?_)))
  | ((refine von_ ?_);refine zbM ?_)
  | ((first | (refine DOp.look_ rfl rfl ?_;(repeat (with_reducible first | refine OnM.here ?_ | refine OnM.next ?_))) | (refine DOp.lenm_ rfl rfl ?_;(repeat (with_reducible first | refine OnM.here ?_ | refine OnM.next ?_))) | (refine DOp.delm_ rfl rfl ?_;(repeat (with_reducible first | refine OnM.here ?_ | refine OnM.next ?_))))<;>(refine zbM ?_))
  | (refine p_ (hcl _ _ _ _) ?_ (ha:=by exact zgL);rintro d H1 ⟨h1,hD1,rfl,rfl⟩<;>refine zbM ?_)
  | ((refine on_ ?_);refine zbM ?_)
  | refine f_ ?_
  | refine vm_ ?_
  | with_reducible intro b)
 all_goals first
 | (refine ⟨_,_,le.of_eq ?_,⟨_,zlm hD1 hx1 hx2 hlk hq1 (zjx (by assumption)) (zjx (by assumption)),rfl,rfl⟩,?_⟩;(focus rfl);(exact sub_);done)
 | (refine ⟨_,_,le.of_eq ?_,⟨_,zng hD1,rfl,rfl⟩,?_⟩;(focus rfl);(exact sub_);done)
 | (trace_state;fail)
end
end
end Go.Proofs.YtgekknefphagbaaGreatDoor
