/- The trie: pairs that go; how many there are; who has a filter. -/
import Derived.Test.YtgekknefphagbaaGreatDoorThx
import Derived.Test.YtgekknefphagbaaGreatDoorItx
import Derived.KernelRfl
import Derived.Test.YtgekknefphagbaaGreatDoorFxx
import Derived.Test.YtgekknefphagbaaGreatDoorEn
import Derived.Test.YtgekknefphagbaaGreatDoorMpx
import Derived.Shelf.Strings.BuilderK
import Derived.Shelf.Strings.OnBuilder
import Derived.Shelf.Strconv.Itoa4
import Derived.Test.YtgekknefphagbaaGreatDoorLkx
namespace Go.Proofs.YtgekknefphagbaaGreatDoor
open Go.RowKit
set_option linter.unusedSimpArgs false
set_option linter.unusedVariables false
set_option linter.unusedSectionVars false
set_option maxHeartbeats 4000000
set_option maxRecDepth 100000
section
theorem zmm (r:Nat) (m:List Str->Str->Option Int) (key:Str):∀ (l:List Str) (h:List Nd) (p:List Str) (b:Nat) (F:Own),(Tri h r m/\fol h r p=some b/\l.length<=1000000000)->DC Tryz.prog 159 [.raw (.pointer (some ⟨b,0,none⟩)), .sl (l.map V.str), .str key] ((ownH h++[])++F) fun d G=>∃ h':List Nd,DropP h h' r m p l key/\d = .bool (m (p++l) key).isSome/\G=ownH h'++F
 | [],h,p,b,F,⟨ht,hp,_⟩=>by
  obtain ⟨x,hx⟩:=ht.at hp
  exact zpS r m key h p b x F ⟨ht,hp,hx⟩
 | y::t,h,p,b,F,⟨ht,hp,hl⟩=>by
  obtain ⟨x,hx⟩:=ht.at hp
  rw [List.length_cons] at hl
  cases hlk:lookA y x.next with
  | none=>exact zoy r m key h p b x y t F ⟨⟨ht,hp,hx⟩,hlk,by omega⟩
  | some c=>exact zpE r m key h p b x y t c F ⟨⟨ht,hp,hx⟩,hlk,by omega,fun h p b F hq=>zmm r m key t h p b F ⟨hq.1,hq.2,by omega⟩⟩
theorem zoo {L:TL} (hn:(L.map (·.1)).Nodup) (f k:Str):mDrop (mOf L) (spl f) k=mOf (za4 (f,k) L):=by
 funext q j
 unfold mDrop
 by_cases hq:q=spl f
 · subst hq
   rw [zgU,zgU,zed hn]
   by_cases e:j=k
   · rw [if_pos ⟨rfl,e⟩,if_pos (by rw [e])]
   · rw [if_neg (fun h=>e h.2),if_neg (fun h=>e (Prod.mk.inj h).2)]
 · rw [if_neg (fun h=>hq h.1)]
   unfold mOf
   by_cases hs:spl (joinS q)=q
   · rw [if_pos hs,if_pos hs,zed hn,if_neg (fun e=>hq (by rw [<-hs,(Prod.mk.inj e).1]))]
   · rw [if_neg hs,if_neg hs]
theorem ziY {s:TS} (hs:TOK s) {f:Str} (hf:filterB f=false) (k:Str):lookA (f,k) s.L=none:=zbH.2 fun x hx e=>by
 have:=hs.fl x hx
 rw [<-e,hf] at this;cases this
theorem drop_ok {s:TS} (hs:TOK s) {f ky:Str} {h':List Nd} (D:DropP s.h h' s.r (mOf s.L) [] (spl f) ky):TOK ⟨s.r,h',za4 (f,ky) s.L⟩:=by
 have:=D.tri
 rw [List.nil_append,zoo hs.nd] at this
 exact ⟨this,zd4 hs.nd,fun e he=>hs.fl e (dropA_sub.subset he),fun e he=>hs.kl e (dropA_sub.subset he)⟩
theorem zpq (ts:TS) (f ky:Str) (F:Own):(TOK ts/\(spl f).length<=1000000000)->DC Tryz.prog 159 [.raw (.pointer (some ⟨ts.r,0,none⟩)), .sl ((spl f).map V.str), .str ky] ((ownH ts.h++[])++F) fun d G=>∃ ts':TS,(TOK ts'/\ts'.r=ts.r/\ts'.L=za4 (f,ky) ts.L)/\d = .bool (lookA (f,ky) ts.L).isSome/\G=ownH ts'.h++F:=fun ⟨hs,hl⟩=>by
 refine (zmm ts.r (mOf ts.L) ky (spl f) ts.h [] ts.r F ⟨hs.tri,rfl,hl⟩).mono fun d G hd=>?_
 obtain ⟨h',D,hd,hG⟩:=hd
 rw [List.nil_append,zgU] at hd
 exact ⟨⟨ts.r,h',za4 (f,ky) ts.L⟩,⟨drop_ok hs D,rfl,rfl⟩,hd,hG⟩
theorem zqw {α:Type} [DecidableEq α]:∀ {l l':List α},l.Nodup->(∀ x∈l,x∈l')->l.length<=l'.length
 | [],_,_,_=>Nat.zero_le _
 | x::l,l',hn,hs=>by
  rw [List.nodup_cons] at hn
  obtain ⟨a,b,rfl⟩:=List.append_of_mem (hs x List.mem_cons_self)
  have:=zqw (l':=a++b) hn.2 fun y hy=>by
   have h1:=hs y (List.mem_cons_of_mem _ hy)
   rcases List.mem_append.1 h1 with h1 | h1
   · exact List.mem_append_left _ h1
   · rcases List.mem_cons.1 h1 with rfl | h1
     · exact absurd hy hn.1
     · exact List.mem_append_right _ h1
  simp only [List.length_append,List.length_cons] at this ⊢
  omega
theorem nodeK {s:TS} (hs:TOK s) {f:Str} {c:Nat} {nd:Nd} (hf:fol s.h s.r (spl f)=some c) (hx:fnd s.h c=some nd):zpu nd.keys/\nd.keys.length<=s.L.length/\(∀ x∈nd.keys,x.1.length<=1000000000)/\∀ x,x∈nd.keys.map (·.1)↔x∈zcN s.L f:=by
 have hn:=(hs.tri.nn _ _ hx).2
 have hl:=nd_keys hs.tri hf hx
 have hm:∀ x,x∈nd.keys.map (·.1)↔(f,x)∈s.L.map (·.1):=fun x=>by rw [<-zdb,<-zdb,hl]
 refine ⟨hn,?_,fun x hx'=>?_,fun x=>?_⟩
 · have:=zqw (l:=(nd.keys.map (·.1)).map fun k=>(f,k)) (l':=s.L.map (·.1)) (by
    rw [List.Nodup,List.pairwise_map];exact hn.imp fun h e=>h (Prod.mk.inj e).2) fun x hx'=>by
    obtain ⟨k,hk,rfl⟩:=List.mem_map.1 hx'
    exact (hm k).1 hk
   simpa using this
 · obtain ⟨e,he,e1⟩:=List.mem_map.1 ((hm x.1).1 (List.mem_map.2 ⟨x,hx',rfl⟩))
   have:=hs.kl e he
   rw [e1] at this;exact this
 · rw [hm,(zkg s.L f).2]
   constructor
   · intro h
     obtain ⟨e,he,e1⟩:=List.mem_map.1 h
     exact ⟨e,he,by rw [e1],by rw [e1]⟩
   · rintro ⟨e,he,e1,e2⟩
     exact List.mem_map.2 ⟨e,he,by rw [<-e1,<-e2]⟩
theorem zht {s:TS} {f:Str} (h:∀ k,lookA (f,k) s.L=none):zcN s.L f=[]:=List.eq_nil_iff_forall_not_mem.2 fun x hx=>by
 obtain ⟨e,he,e1,e2⟩:=((zkg s.L f).2 x).1 hx
 exact zbH.1 (h x) e he (by rw [<-e1,<-e2])
theorem none_of {α:Type} {o:Option α} (h:o.isSome=false):o=none:=by cases o with
 | none=>rfl
 | some _=>cases h
theorem zqq {L:TL} {f k:Str} (h:(lookA (f,k) L).isSome=true):(((za4 (f,k) L).length:Nat):Int)=(L.length:Int) - 1:=by
 obtain ⟨v,hv⟩:=Option.isSome_iff_exists.1 h
 have:=zi4 hv
 omega
theorem zn6 {s:TS} (hs:TOK s) {f:Str} {k:Nat} (h:fol s.h s.r ((spl f).take k)=none) (j:Str):lookA (f,j) s.L=none:=by
 rw [<-zgU]
 refine hs.tri.all _ j ?_
 rw [<-List.take_append_drop k (spl f),zfj,h];rfl
theorem zpD {s:TS} {f:Str} {l:IM} (hn:zpu l) (hm:∀ x,x∈l.map (·.1)↔x∈zcN s.L f):sortS (l.map (·.1))=zcN s.L f:=zjW hn (zkg s.L f).1 hm
theorem zpb (mk:Nat) (F:Own):True->DC Tryz.prog 123 [.raw (.map (some mk))] (([]:Own)++F) fun d G=>∃ nb,d = .fn (.func 176) [] [.raw (.pointer (some ⟨nb,0,none⟩))]/\G = .row nb (.cells #[.map (some mk)] 172)::F:=DC.mkeys (by kernel_rfl) mk F
theorem zoY (mk nb:Nat) (l:IM) (F:Own):(zpu l/\l.length<=1000000000/\(∀ x∈l,x.1.length<=1000000000))->DC Tryz.prog 122 [.fn (.func 176) [] [.raw (.pointer (some ⟨nb,0,none⟩))]] ([loose, .row nb (.cells #[.map (some mk)] 172), .map mk (entM V.str (V.int .i64) l)]++F) fun d G=>d = .sl ((sortS (l.map (·.1))).map V.str)/\G=[loose, .row nb (.cells #[.map (some mk)] 172), .map mk (entM V.str (V.int .i64) l)]++F :=
 DC.sortedKeys (by kernel_rfl) (enters_of Tryz.func105 (by kernel_rfl) rfl) (enters_of Tryz.func176 (by kernel_rfl) rfl) mk nb l F
attribute [local irreducible] DW SeqD DV DOp DC DVX Nd.own ownH filterB spl zcN
theorem zbQ {p:Prop} (h:p:=by first | exact sv | (refine ⟨hs,?_⟩;(have hl6:(spl f).length<=65536:=zgt hb);omega) | fail):p:=h
theorem zdl {P Q:Prop} (q:Q) (h:Hid Q->P:=by (intro q;simp (maxSteps:=1000000) (disch:=omega) only [push_cast,↓reduceIte,reduceCtorEq,Nat.reduceAdd,Nat.reduceMul,Nat.reduceLT,Nat.reduceLeDiff,Nat.reduceEqDiff,Nat.reduceSub,Int.reduceToNat,Int.reduceLT,Int.reduceLE,Int.reduceAdd,Int.reduceSub,Int.reduceMul,Int.reduceNeg,Nat.reduceBEq,Int.reduceBEq,Int.reduceBNe,Nat.reduceBNe,Int.reduceEq,hlk,hC];exact q.1)):P:=h ⟨q⟩
attribute [local push_cast 2000] zaK zbd zaI zaV zaA zaD zbe zaF za6 za7 zba zaH zaG zbb zaC za1 zaJ zaz zbc zaE za0 zaZ zaB zax za2 zaY zcQ zaM zaL Option.getD_some Option.getD_none Option.isSome_some Option.isSome_none
section
theorem zlf (m:Int) (t:Nat) (ts:TS) (f ky:Str) (F:Own):(TOK ts/\f.length<=1000000/\ts.L.length<=1000000000)->DC Tryz.prog 100 [.raw (.pointer (some ⟨t,0,none⟩)), .str f, .str ky] (knF::knA::knM m::(ownT t ts++[])++F) fun d G=>∃ ts':TS,(TOK ts'/\ts'.L=za4 (f,ky) ts.L)/\d = .bool (lookA (f,ky) ts.L).isSome/\G=knF::knA::knM m::(ownT t ts'++F):=by
 intro hA
 obtain ⟨hs,hlf,hln⟩:=hA
 refine DC.bodyS (n_:=29) (show Tryz.prog.funcs[100]? = some Tryz.f100 by kernel_rfl) rfl rfl (by rfl) ?_
 simp only [env0,List.append_assoc,List.cons_append,List.nil_append]
 have kw:=ksIs [0,1,2,6,7,20]
 have ow:=zai []
 have dw1:=drIs 1 [10] [1,6,8]
 have hlk:True:=trivial
 have hC:True:=trivial
 simp only [ownT,List.cons_append,List.append_assoc,List.nil_append]
 repeat' (first
  | ((refine DOp.load_ rfl rfl ?_);(repeat (with_reducible first | refine OnB.here ?_ | refine OnB.next ?_ | (refine OnB.inH (by assumption) ?_;with_reducible intro C) | refine OnB.skip ?_));refine zdl ?_)
  | ((refine dm_ ?_);(refine DVop.load_ rfl rfl rfl rfl ?_);(repeat (with_reducible first | refine OnB.here ?_ | refine OnB.next ?_ | (refine OnB.inH (by assumption) ?_;with_reducible intro C) | refine OnB.skip ?_));refine zdl ?_)
  | refine g_ ?_
  | ((with_reducible refine And.intro ?_ ?_);(exact zbQ))
  | (refine DW.cond (by rfl) ?_ ?_<;>(first | exact i0_ | (intro hb;(try simp only [↓reduceCtorEq,not_true_eq_false,not_false_eq_true,hbs,Int.reduceBEq,Int.reduceBNe,Int.reduceEq] at hb);(try refine zdl ?_))))
  | ((with_reducible first | refine zaa ?_ ?_ | refine zak ?_ ?_)<;>(intro hb;rw [hb];revert hb;(first | exact i0_ | (intro hb;(try simp only [↓reduceCtorEq,not_true_eq_false,not_false_eq_true,hbs,Int.reduceBEq,Int.reduceBNe,Int.reduceEq] at hb);(try refine zdl ?_)))))
  | ((first | refine rn_ ?_ | refine dn_ ?_ | refine kn_ ?_)<;>(refine zdl ?_))
  | ((refine dm_ ?_);(first | ((first | refine v_ (zfh _ _ _) ?_ (ha:=by exact zbQ) (hk:=fun q=>q.1) | refine v_ (zjT _ _ _) ?_ (ha:=by exact zbQ) (hk:=fun q=>q.1));refine zdl ?_)))
  | ((refine von_ ?_);refine zdl ?_)
  | ((first | refine q_ (zfh _ _ _) ?_ (ha:=by exact zbQ) (hk:=fun q=>q.1) | refine q_ (zjT _ _ _) ?_ (ha:=by exact zbQ) (hk:=fun q=>q.1));refine zdl ?_)
  | (refine p_ (zpq _ _ _ _) ?_ (ha:=by exact zbQ);rintro d H1 ⟨ts2,⟨hs2,hr2,hL2⟩,rfl,rfl⟩<;>refine zdl ?_)
  | ((refine on_ ?_);refine zdl ?_)
  | refine f_ ?_
  | refine vm_ ?_
  | with_reducible intro b)
 all_goals first
 | (refine ⟨_,_,le.rfl_,⟨ts2,⟨hs2,hL2⟩,rfl,rfl⟩,?_⟩;(try unfold ownT);(rw [hr2,hL2,zqq hb]);(exact sub_);done)
 | (refine ⟨_,_,le.rfl_,⟨ts2,⟨hs2,hL2⟩,rfl,rfl⟩,?_⟩;(try unfold ownT);(rw [hr2,hL2,zfb (none_of hb)]);(exact sub_);done)
 | (have hno:=ziY hs hb ky
    refine ⟨_,_,le.of_eq ?_,⟨ts,⟨hs,(zfb hno).symm⟩,rfl,rfl⟩,?_⟩;(focus (rw [hno];rfl));(try unfold ownT);(try simp only [List.cons_append]);(exact sub_);done)
 | (trace_state;fail)
end
theorem zcM {p:Prop} (h:p:=by first | exact sv | (show (spl f).length<=_;omega) | exact ⟨hkn,Nat.le_trans hkz hln,hkb⟩ | fail):p:=h
section
theorem zlb (m:Int) (t:Nat) (ts:TS) (f:Str) (F:Own):(TOK ts/\f.length<=1000000/\ts.L.length<=1000000000)->DC Tryz.prog 95 [.raw (.pointer (some ⟨t,0,none⟩)), .str f] (loose::knF::knA::knM m::(ownT t ts++[])++F) fun d G=>d = .sl ((zcN ts.L f).map V.str)/\G=(loose::knF::knA::knM m::(ownT t ts++[]))++F:=by
 intro hA
 obtain ⟨hs,hlf,hln⟩:=hA
 refine DC.bodyS (n_:=37) (show Tryz.prog.funcs[95]? = some Tryz.f95 by kernel_rfl) rfl rfl (by rfl) ?_
 simp only [env0,List.append_assoc,List.cons_append,List.nil_append]
 have kw:=ksIs [0,1,4,5,7,10,16,17,18,19,29]
 have ow:=zai []
 have hlk:True:=trivial
 have hC:True:=trivial
 simp only [ownT,List.cons_append,List.append_assoc,List.nil_append]
 repeat' (first
  | ((fail_if_success (have zz:=hop));(obtain ⟨_,rfl⟩:=zck hx);(with_reducible apply DW.openR 11 hx);(repeat (with_reducible first | refine OutL.here ?_ | refine OutL.next ?_ | refine OutL.skip ?_));(intro g1 g2 hg);(have hop:True:=trivial);(unfold Nd.own;simp only [List.cons_append,List.nil_append]))
  | ((refine DOp.load_ rfl rfl ?_);(repeat (with_reducible first | refine OnB.here ?_ | refine OnB.next ?_ | (refine OnB.inH (by assumption) ?_;with_reducible intro C) | refine OnB.skip ?_));refine zdl ?_)
  | ((refine DOp.look_ rfl rfl ?_);(repeat (with_reducible first | refine OnM.here ?_ | refine OnM.next ?_ | (refine OnM.inN (by assumption) ?_;with_reducible intro C hC) | (refine OnM.inK (by assumption) ?_;with_reducible intro C hC) | refine OnM.skip ?_));refine zdl ?_)
  | ((with_reducible refine DW.loopB 0 (X:=Nat×Nat) (fun x=>x.1<=(spl f).length/\fol ts.h ts.r ((spl f).take x.1)=some x.2) (fun x=>[(5, .raw (.pointer (some ⟨x.2,0,none⟩))),(16, .sl ((spl f).map V.str)),(17, .int .i64 (spl f).length),(18, .int .i64 x.1)]) (fun x=>([]:Own)) (fun x=>(spl f).length - x.1) ((0,ts.r)) ?_ ?_ ?_);exact (⟨Nat.zero_le _,rfl⟩);(simp [Sub,get,zbu]<;>fail);(try simp only [List.append_assoc,List.cons_append,List.nil_append]);refine pl_ ?_;intro ⟨k,c⟩ ⟨hk,hf⟩;(try simp only [List.append_assoc,List.cons_append,List.nil_append]);(try simp only at hk hf);have hl6:(spl f).length<=65536:=zgt (by assumption);(obtain ⟨nd,hx⟩:=hs.tri.at hf);by_cases hkl:k<(spl f).length;(rcases hlk:lookA ((spl f).getD k default) nd.next with _ | c2);rotate_left 2;((have hkl2:k=(spl f).length:=by omega);(rw [hkl2,List.take_length] at hf);(obtain ⟨hkn,hkz,hkb,hkm⟩:=nodeK hs hf hx)))
  | refine g_ ?_
  | ((with_reducible refine And.intro ?_ ?_);(exact zcM))
  | (refine DW.cond (by rfl) ?_ ?_<;>(first | exact i0_ | (intro hb;(try simp only [↓reduceCtorEq,not_true_eq_false,not_false_eq_true,hbs,Int.reduceBEq,Int.reduceBNe,Int.reduceEq] at hb);(try refine zdl ?_))))
  | ((with_reducible refine zaa ?_ ?_)<;>(intro hb;rw [hb];revert hb;(first | exact i0_ | (intro hb;(try simp only [↓reduceCtorEq,not_true_eq_false,not_false_eq_true,hbs,Int.reduceBEq,Int.reduceBNe,Int.reduceEq] at hb);(try refine zdl ?_)))))
  | ((first | refine rn_ ?_ | refine kn_ ?_)<;>(refine zdl ?_))
  | ((first | (refine DOp.look_ rfl rfl ?_;(repeat (with_reducible first | refine OnM.here ?_ | refine OnM.next ?_))) | (refine DOp.lenm_ rfl rfl ?_;(repeat (with_reducible first | refine OnM.here ?_ | refine OnM.next ?_))))<;>(refine zdl ?_))
  | ((first | refine q_ (zfh _ _ _) ?_ (ha:=by exact zcM) (hk:=fun q=>q.1) | refine q_ (zjT _ _ _) ?_ (ha:=by exact zcM) (hk:=fun q=>q.1));refine zdl ?_)
  | (refine p_ (zpb _ _) ?_ (ha:=by exact zcM);rintro d H1 ⟨nb,rfl,rfl⟩<;>refine zdl ?_)
  | (refine q_ (zoY _ _ _ _) ?_ (ha:=by exact zcM) (hk:=fun q=>q.1);refine zdl ?_)
  | ((refine on_ ?_);refine zdl ?_)
  | refine f_ ?_
  | with_reducible intro b)
 all_goals first
 | (have hno:=fun k=>ziY hs (by assumption) k
    rw [zht hno];(first | exact fin_ | refine finq_ ?_);done)
 | (have hno:∀ j,lookA (f,j) ts.L=none:=zn6 hs (k:=k+1) (by rw [zqI hkl,hs.tri.fkid hf hx];exact hlk)
    rw [zht hno];(first | exact fin_ | refine finq_ ?_);done)
 | (refine ⟨(k+1,c2),⟨by (try simp only);omega,?_⟩,by (try simp only);omega,by simp [Sub,get],?_⟩;(focus ((try dsimp only);rw [zqI hkl,hs.tri.fkid hf hx];exact hlk));((try dsimp only);(exact sub_));done)
 | (rw [zpD hkn hkm,hg];(refine ⟨_,_,le.rfl_,⟨rfl,rfl⟩,?_⟩);(repeat (first | refine SubP.pick ?_ | refine Out.here ?_ | refine Out.next ?_ | refine Out.skip ?_));(refine SubP.closeR ?_);(unfold Nd.own;simp only [List.cons_append,List.nil_append]);(exact sub_);done)
 | (trace_state;fail)
end
end
section
attribute [local irreducible] DW SeqD DV DOp DC DVX Nd.own ownH zbD spl zg2 vis zma hidT sortS
section
attribute [local push_cast 2000] zaK zbd zaI zaV zaA zaD zbe zaF za6 za7 zba zaH zaG zbb zaC za1 zaJ zaz zbc zaE za0 zaZ zaB zax za2 zaY zcQ zaM zaL Option.getD_some Option.getD_none Option.isSome_some Option.isSome_none
end
end
section
open Go.RowKit Go.Shelf
section
variable {P:Program} {ρ : Go.Shelf.Ren}
end
theorem one_ofB {xs:Array Value} (h:xs.size=1):∃ a,xs = #[a]:=by
 obtain ⟨l⟩:=xs
 match l,h with
 | [a],_=>exact ⟨a,rfl⟩
def OnTb (H:Own) (b:Nat) (G:TypeId->List V->(Ent->Own)->Prop):Prop:=∃ T cs,On H (.tb T b cs) (G T cs)
theorem OnTb.here {H:Own} {T:TypeId} {b:Nat} {cs:List V} {G:TypeId->List V->(Ent->Own)->Prop} (h:G T cs fun x=>x::H):OnTb (.tb T b cs::H) b G:=⟨T,cs,On.here h⟩
theorem OnTb.next {H:Own} {b:Nat} {y:Ent} {G:TypeId->List V->(Ent->Own)->Prop} (h:OnTb H b fun T cs C=>G T cs fun x=>y::C x):OnTb (y::H) b G:=by
 obtain ⟨T,cs,h⟩:=h
 exact ⟨T,cs,On.next h⟩
def OnBa (H:Own) (v:Value) (G:TypeId->List UInt8->(Ent->Own)->Prop):Prop:=∃ T l,On H (.ba T v l) (G T l)
theorem OnBa.here {H:Own} {T:TypeId} {v:Value} {l:List UInt8} {G:TypeId->List UInt8->(Ent->Own)->Prop} (h:G T l fun x=>x::H):OnBa (.ba T v l::H) v G:=⟨T,l,On.here h⟩
theorem OnBa.next {H:Own} {v:Value} {y:Ent} {G:TypeId->List UInt8->(Ent->Own)->Prop} (h:OnBa H v fun T l C=>G T l fun x=>y::C x):OnBa (y::H) v G:=by
 obtain ⟨T,l,h⟩:=h
 exact ⟨T,l,On.next h⟩
section
variable {P:Program} {o:Oper} {f:Operand->V} {H:Own} {K:V->Own->Prop}
end
section
variable {P:Program} {ρ : Go.Shelf.Ren}
def zeO (T:TypeId) (fr:Nat×Nat):Obj:=.cells ((Lib.pow10Tab.map fun z=>Value.int .u64 z).toArray) T fr
theorem DC.itoa (L:LaysM.n171 P ρ) (he:zdA P (ρ.f 171)=true) {g:Nat} (hg:P.globalNamed "internal/strconv.uint64pow10" = some g) (T:TypeId) (fr:Nat×Nat) (n:Int) (F:Own) (h : -9223372036854775808<=n/\n<=9223372036854775807) :
  DC P (ρ.f 171) [.int .i64 n] ([.row g (zeO T fr)]++F) fun d G=>d = .str (Lib.itoa n)/\G=[.row g (zeO T fr)]++F:=by
 refine ⟨he,fun xs w hs hz hr=>?_⟩
 have h0:=hr 0 (by simp)
 obtain ⟨x0,rfl⟩:=one_ofB hz
 have e0:x0 = .int .i64 n:=by
  have h0:R (stable w ([.row g (zeO T fr)]++F)) w x0 (.int .i64 n):=h0
  cases h0;rfl
 subst e0
 have hh:w.heap[g]? = some (zeO T fr):=hs.holds (.row g (zeO T fr)) (by simp)
 have htab:Lib.TabIs P w "internal/strconv.uint64pow10" .u64 Lib.pow10Tab:=by
  unfold Lib.TabIs World.var?
  rw [hg]
  simp [hh,zeO]
 refine (Any.strconv_Itoa L n h.1 h.2 w htab).mono ?_
 rintro e w' ⟨rfl,k,os,rfl⟩
 obtain ⟨k1,k2⟩:=hs.more (w':=Go.Sort.grow (w.drewN k) os) rfl rfl rfl (by simp [Go.Sort.grow,World.drewN]) (fun b hb=>by simp [Go.Sort.grow,World.drewN,Array.getElem?_append,hb]) (Nat.le_add_right _ _)
 exact ⟨_,_,_,rfl,k1,k2, .str _,rfl,rfl⟩
end
end
section
theorem zb4:∀ l:List Str,cells (l.map V.str)=l.map V.str
 | []=>rfl
 | x::l=>by rw [List.map_cons,zaU,zb4 l];rfl
attribute [local irreducible] DW SeqD DV DOp DC DVX
structure WI (m:List Str->Str->Option Int) (p:List Str) (Q0:List (List Str)) (Lf:List (Str×Nat)) (Q:List (List Str)):Prop where
 nl:(Lf.map (·.1)).Nodup
 nd:Q.Nodup
 mem:∀ q,q∈Q↔q∈Q0\/(p <+: q/\(∃ k,(m q k).isSome=true)/\∀ e∈Lf,¬ (p++[e.1]) <+: q)
structure WQ (m:List Str->Str->Option Int) (p:List Str) (Q:List (List Str)):Prop where
 nd:Q.Nodup
 has:∀ q∈Q,∃ k,(m q k).isSome=true
 off:∀ q∈Q,¬ p <+: q
section
variable {h:List Nd} {r b:Nat} {m:List Str->Str->Option Int} {p:List Str} {nd:Nd} {Q0 Q:List (List Str)} (ht:Tri h r m) (hp:fol h r p=some b) (hx:fnd h b=some nd)
include ht hp hx
end
structure WB (m:List Str->Str->Option Int):Prop where
 few:∀ Q:List (List Str),Q.Nodup->(∀ q∈Q,∃ k,(m q k).isSome=true)->Q.length<=1000000000
 small:∀ p k,(m p k).isSome=true->(joinS p).length<=65535
attribute [local irreducible] Nd.own ownH joinS
section
attribute [local push_cast 2000] zaK zbd zaI zaV zaA zaD zbe zaF za6 za7 zba zaH zaG zbb zaC za1 zaJ zaz zbc zaE za0 zaZ zaB zax za2 zaY zcQ zaM zaL Option.getD_some Option.getD_none Option.isSome_some Option.isSome_none zeF
end
end
section
attribute [local irreducible] DW SeqD DV DOp DC DVX Nd.own ownH sortS
section
attribute [local push_cast 2000] zaK zbd zaI zaV zaA zaD zbe zaF za6 za7 zba zaH zaG zbb zaC za1 zaJ zaz zbc zaE za0 zaZ zaB zax za2 zaY zcQ zaM zaL Option.getD_some Option.getD_none Option.isSome_some Option.isSome_none
end
end
section
open Go.RowKit Go.ChangeShapes Go.WideShapes Go.Deep
theorem row_sim {w:World} {K:Own} {g:Nat} {o:Obj} (h:Sim w K) (hk:∀ e∈K,∃ b cs,e = .know b cs) (hg:w.heap[g]? = some o):Sim w (loose :: .row g o::K):=by
 have st:∀ a,stable w K a->stable w (loose :: .row g o::K) a/\w.cell? a=w.cell? a:=fun a ha=>⟨⟨ha.1,fun e he=>by
  rcases List.mem_cons.1 he with rfl | he
  · exact fun h=>h
  · rcases List.mem_cons.1 he with rfl | he
    · exact fun h=>h
    · exact ha.2 e he⟩,rfl⟩
 refine ⟨fun e he=>?_,?_,?_⟩
 · rcases List.mem_cons.1 he with rfl | he
   · exact fun k hk=>absurd hk (Nat.not_lt_zero _)
   · rcases List.mem_cons.1 he with rfl | he
     · exact hg
     · exact Ent.holds_mono (h.holds e he) st fun _ _=>rfl
 · exact List.pairwise_cons.2 ⟨fun f hf a ha=>ha.elim,List.pairwise_cons.2 ⟨fun f hf a ha=>ha.elim,h.disj⟩⟩
 · refine List.pairwise_cons.2 ⟨fun f hf a ha=>ha.elim,List.pairwise_cons.2 ⟨fun f hf a ha hb=>?_,h.apart⟩⟩
   obtain ⟨b,cs,rfl⟩:=hk f hf
   exact hb
theorem DC.lawR {P:Program} {f:FuncId} {args:List V} {K:Own} {g:Nat} {o:Obj} {xs:Array Value} {w:World} (h:DC P f args (loose :: .row g o::K) fun d H'=>d = .bool true/\H'=loose :: .row g o::K) (hK:Sim w K) (hk:∀ e∈K,∃ b cs,e = .know b cs) (hg:w.heap[g]? = some o)
  (hn:xs.size=args.length) (hr:∀ k,k<args.length->R (stable w []) w (xs.getD k undef) (args.getD k .any)) :
  Calls P f xs w fun e w'=>e = .returned (.bool true)/\Below w.heap.size w w':=by
 have own:∀ e∈(loose :: .row g o::K:Own),∀ a,¬ e.owns a:=fun e he a=>by
  rcases List.mem_cons.1 he with rfl | he
  · exact fun h=>h
  · rcases List.mem_cons.1 he with rfl | he
    · exact fun h=>h
    · obtain ⟨b,cs,rfl⟩:=hk e he
      exact fun h=>h
 have st:∀ a,stable w [] a->stable w (loose :: .row g o::K) a/\w.cell? a=w.cell? a:=fun a ha=>⟨⟨ha.1,fun e he=>own e he a⟩,rfl⟩
 refine (h.2 xs w (row_sim hK hk hg) hn fun k hk=>(hr k hk).mono st).mono fun e w' ⟨v,d,H',he,s,x,r,hd,hH⟩=>?_
 subst hd
 subst hH
 cases r
 refine ⟨he,x.os,x.tape,x.output,x.size,fun b hb=>?_⟩
 by_cases hbg:b=g
 · subst hbg
   have h1:w'.heap[b]? = some o:=s.holds (.row b o) (by simp)
   rw [h1,hg]
 · refine (x.full b hb fun e he ht=>?_).1
   rcases List.mem_cons.1 he with rfl | he
   · exact ht
   · rcases List.mem_cons.1 he with rfl | he
     · exact hbg ht
     · obtain ⟨b,cs,rfl⟩:=hk e he
       exact ht
theorem zhg {m:Int}:∀ e∈([knF,knA, .know 3 [.int .i64 m]]:Own),∃ b cs,e = .know b cs:=fun e he=>by
 simp only [List.mem_cons,List.not_mem_nil,or_false] at he
 rcases he with rfl | rfl | rfl<;>exact ⟨_,_,rfl⟩
theorem zoi {w:World} (h:Go.Lib.VarReads Tryz.prog w "internal/strconv.uint64pow10" (Go.Lib.tabData .u64 Go.Lib.pow10Tab)):∃ T fr,w.heap[0]? = some (zeO T fr):=by
 obtain ⟨g,t,cs,fuel,p,h1,h2,h3,h4⟩:=h
 have e1:g=0:=Option.some.inj (h1.symm.trans (by kernel_rfl))
 subst e1
 have e2:t=326:=Option.some.inj (h2.symm.trans (by kernel_rfl))
 subst e2
 have e3:=Go.Lib.cells_of_tab (e:=283) (n:=20) Tryz.underlying326 Tryz.underlying283 (by kernel_rfl) (by kernel_rfl) h4
 unfold World.var? at h3
 rw [show Program.globalNamed Tryz.prog "internal/strconv.uint64pow10" = some 0 from by kernel_rfl] at h3
 simp only [Option.bind_some] at h3
 cases hh:w.heap[0]? with
 | none=>rw [hh] at h3;exact absurd h3 (by simp)
 | some o =>
  rw [hh] at h3
  cases o with
  | cells xs T fr =>
   simp only [Option.some.injEq] at h3
   subst h3
   refine ⟨T,fr,?_⟩
   unfold zeO
   rw [<-e3]
  | _=>exact absurd h3 (by simp)
end
end Go.Proofs.YtgekknefphagbaaGreatDoor
