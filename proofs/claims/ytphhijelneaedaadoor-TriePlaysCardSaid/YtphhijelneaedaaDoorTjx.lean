/- The trie: pairs that go; how many there are; who has a filter. -/
import Derived.Test.YtphhijelneaedaaDoorThx
import Derived.Test.YtphhijelneaedaaDoorItx
import Derived.KernelRfl
import Derived.Test.YtphhijelneaedaaDoorFzx
namespace Go.Proofs.YtphhijelneaedaaDoor
open Go.RowKit
set_option linter.unusedSimpArgs false
set_option linter.unusedVariables false
set_option linter.unusedSectionVars false
set_option maxHeartbeats 4000000
set_option maxRecDepth 100000
section
theorem drop_dc (r:Nat) (m:List Str->Str->Option Int) (key:Str):∀ (l:List Str) (h:List Nd) (p:List Str) (b:Nat) (F:Own),(Tri h r m/\fol h r p=some b/\l.length<=1000000000)->DC Tryd.prog 34 [.raw (.pointer (some ⟨b,0,none⟩)), .sl (l.map V.str), .str key] ((ownH h++[])++F) fun d G=>∃ h':List Nd,DropP h h' r m p l key/\d = .bool (m (p++l) key).isSome/\G=ownH h'++F
 | [],h,p,b,F,⟨ht,hp,_⟩=>by
  obtain ⟨x,hx⟩:=ht.at hp
  exact drop1_dc r m key h p b x F ⟨ht,hp,hx⟩
 | y::t,h,p,b,F,⟨ht,hp,hl⟩=>by
  obtain ⟨x,hx⟩:=ht.at hp
  rw [List.length_cons] at hl
  cases hlk:lookA y x.next with
  | none=>exact drop2_dc r m key h p b x y t F ⟨⟨ht,hp,hx⟩,hlk,by omega⟩
  | some c=>exact drop3_dc r m key h p b x y t c F ⟨⟨ht,hp,hx⟩,hlk,by omega,fun h p b F hq=>drop_dc r m key t h p b F ⟨hq.1,hq.2,by omega⟩⟩
theorem mDrop_mOf {L:TL} (hn:(L.map (·.1)).Nodup) (f k:Str):mDrop (mOf L) (spl f) k=mOf (dropA (f,k) L):=by
 funext q j
 unfold mDrop
 by_cases hq:q=spl f
 · subst hq
   rw [mOf_at,mOf_at,lookA_drop hn]
   by_cases e:j=k
   · rw [if_pos ⟨rfl,e⟩,if_pos (by rw [e])]
   · rw [if_neg (fun h=>e h.2),if_neg (fun h=>e (Prod.mk.inj h).2)]
 · rw [if_neg (fun h=>hq h.1)]
   unfold mOf
   by_cases hs:spl (joinS q)=q
   · rw [if_pos hs,if_pos hs,lookA_drop hn,if_neg (fun e=>hq (by rw [<-hs,(Prod.mk.inj e).1]))]
   · rw [if_neg hs,if_neg hs]
theorem no_filter {s:TS} (hs:TOK s) {f:Str} (hf:filterB f=false) (k:Str):lookA (f,k) s.L=none:=lookA_none.2 fun x hx e=>by
 have:=hs.fl x hx
 rw [<-e,hf] at this;cases this
theorem drop_ok {s:TS} (hs:TOK s) {f ky:Str} {h':List Nd} (D:DropP s.h h' s.r (mOf s.L) [] (spl f) ky):TOK ⟨s.r,h',dropA (f,ky) s.L⟩:=by
 have:=D.tri
 rw [List.nil_append,mDrop_mOf hs.nd] at this
 exact ⟨this,dropA_nodup hs.nd,fun e he=>hs.fl e (dropA_sub.subset he),fun e he=>hs.kl e (dropA_sub.subset he)⟩
theorem tdrop_dc (ts:TS) (f ky:Str) (F:Own):(TOK ts/\(spl f).length<=1000000000)->DC Tryd.prog 34 [.raw (.pointer (some ⟨ts.r,0,none⟩)), .sl ((spl f).map V.str), .str ky] ((ownH ts.h++[])++F) fun d G=>∃ ts':TS,(TOK ts'/\ts'.r=ts.r/\ts'.L=dropA (f,ky) ts.L)/\d = .bool (lookA (f,ky) ts.L).isSome/\G=ownH ts'.h++F:=fun ⟨hs,hl⟩=>by
 refine (drop_dc ts.r (mOf ts.L) ky (spl f) ts.h [] ts.r F ⟨hs.tri,rfl,hl⟩).mono fun d G hd=>?_
 obtain ⟨h',D,hd,hG⟩:=hd
 rw [List.nil_append,mOf_at] at hd
 exact ⟨⟨ts.r,h',dropA (f,ky) ts.L⟩,⟨drop_ok hs D,rfl,rfl⟩,hd,hG⟩
theorem len_le {α:Type} [DecidableEq α]:∀ {l l':List α},l.Nodup->(∀ x∈l,x∈l')->l.length<=l'.length
 | [],_,_,_=>Nat.zero_le _
 | x::l,l',hn,hs=>by
  rw [List.nodup_cons] at hn
  obtain ⟨a,b,rfl⟩:=List.append_of_mem (hs x List.mem_cons_self)
  have:=len_le (l':=a++b) hn.2 fun y hy=>by
   have h1:=hs y (List.mem_cons_of_mem _ hy)
   rcases List.mem_append.1 h1 with h1 | h1
   · exact List.mem_append_left _ h1
   · rcases List.mem_cons.1 h1 with rfl | h1
     · exact absurd hy hn.1
     · exact List.mem_append_right _ h1
  simp only [List.length_append,List.length_cons] at this ⊢
  omega
theorem nodeK {s:TS} (hs:TOK s) {f:Str} {c:Nat} {nd:Nd} (hf:fol s.h s.r (spl f)=some c) (hx:fnd s.h c=some nd):keyNd nd.keys/\nd.keys.length<=s.L.length/\(∀ x∈nd.keys,x.1.length<=1000000000)/\∀ x,x∈nd.keys.map (·.1)↔x∈keysL s.L f:=by
 have hn:=(hs.tri.nn _ _ hx).2
 have hl:=nd_keys hs.tri hf hx
 have hm:∀ x,x∈nd.keys.map (·.1)↔(f,x)∈s.L.map (·.1):=fun x=>by rw [<-lookA_isSome,<-lookA_isSome,hl]
 refine ⟨hn,?_,fun x hx'=>?_,fun x=>?_⟩
 · have:=len_le (l:=(nd.keys.map (·.1)).map fun k=>(f,k)) (l':=s.L.map (·.1)) (by
    rw [List.Nodup,List.pairwise_map];exact hn.imp fun h e=>h (Prod.mk.inj e).2) fun x hx'=>by
    obtain ⟨k,hk,rfl⟩:=List.mem_map.1 hx'
    exact (hm k).1 hk
   simpa using this
 · obtain ⟨e,he,e1⟩:=List.mem_map.1 ((hm x.1).1 (List.mem_map.2 ⟨x,hx',rfl⟩))
   have:=hs.kl e he
   rw [e1] at this;exact this
 · rw [hm,(keys_is s.L f).2]
   constructor
   · intro h
     obtain ⟨e,he,e1⟩:=List.mem_map.1 h
     exact ⟨e,he,by rw [e1],by rw [e1]⟩
   · rintro ⟨e,he,e1,e2⟩
     exact List.mem_map.2 ⟨e,he,by rw [<-e1,<-e2]⟩
theorem keysL_none {s:TS} {f:Str} (h:∀ k,lookA (f,k) s.L=none):keysL s.L f=[]:=List.eq_nil_iff_forall_not_mem.2 fun x hx=>by
 obtain ⟨e,he,e1,e2⟩:=((keys_is s.L f).2 x).1 hx
 exact lookA_none.1 (h x) e he (by rw [<-e1,<-e2])
theorem none_of {α:Type} {o:Option α} (h:o.isSome=false):o=none:=by cases o with
 | none=>rfl
 | some _=>cases h
theorem drop_int {L:TL} {f k:Str} (h:(lookA (f,k) L).isSome=true):(((dropA (f,k) L).length:Nat):Int)=(L.length:Int) - 1:=by
 obtain ⟨v,hv⟩:=Option.isSome_iff_exists.1 h
 have:=dropA_len hv
 omega
theorem path_none {s:TS} (hs:TOK s) {f:Str} {k:Nat} (h:fol s.h s.r ((spl f).take k)=none) (j:Str):lookA (f,j) s.L=none:=by
 rw [<-mOf_at]
 refine hs.tri.all _ j ?_
 rw [<-List.take_append_drop k (spl f),fol_app,h];rfl
theorem keys_end {s:TS} {f:Str} {l:IM} (hn:keyNd l) (hm:∀ x,x∈l.map (·.1)↔x∈keysL s.L f):sortS (l.map (·.1))=keysL s.L f:=sort_is hn (keys_is s.L f).1 hm
theorem mkeys_dc (mk:Nat) (F:Own):True->DC Tryd.prog 36 [.raw (.map (some mk))] (([]:Own)++F) fun d G=>∃ nb,d = .fn (.func 68) [] [.raw (.pointer (some ⟨nb,0,none⟩))]/\G = .row nb (.cells #[.map (some mk)] 71)::F:=DC.mkeys (by kernel_rfl) mk F
theorem sortk_dc (mk nb:Nat) (l:IM) (F:Own):(keyNd l/\l.length<=1000000000/\(∀ x∈l,x.1.length<=1000000000))->DC Tryd.prog 35 [.fn (.func 68) [] [.raw (.pointer (some ⟨nb,0,none⟩))]] ([loose, .row nb (.cells #[.map (some mk)] 71), .map mk (entM V.str (V.int .i64) l)]++F) fun d G=>d = .sl ((sortS (l.map (·.1))).map V.str)/\G=[loose, .row nb (.cells #[.map (some mk)] 71), .map mk (entM V.str (V.int .i64) l)]++F :=
 DC.sortedKeys (by kernel_rfl) (enters_of Tryd.func40 (by kernel_rfl) rfl) (enters_of Tryd.func68 (by kernel_rfl) rfl) mk nb l F
attribute [local irreducible] DW SeqD DV DOp DC DVX Nd.own ownH filterB spl keysL
theorem tlen_dc (t:Nat) (ts:TS) (F:Own):(True)->DC Tryd.prog 12 [.raw (.pointer (some ⟨t,0,none⟩))] (ownT t ts++[]++F) fun d G=>d = .int .i64 ts.L.length/\G=(ownT t ts++[])++F:=by
 intro hA
 refine DC.bodyS (n_:=7) (show Tryd.prog.funcs[12]? = some Tryd.f12 by kernel_rfl) rfl rfl (by rfl) ?_
 simp only [env0,List.cons_append,List.nil_append]
 have kw:=ksIs [0,2]
 have ow:=ownIs []
 simp only [ownT,List.cons_append,List.append_assoc,List.nil_append]
 repeat' (first
  | refine g_ ?_
  | ((with_reducible refine And.intro ?_ ?_);(exact sv))
  | (refine DW.cond (by rfl) ?_ ?_<;>(first | exact i0_ | (refine ic_ ?_;intro hb)))
  | ((with_reducible refine FVg_cases ?_ ?_)<;>(intro hb;rw [hb];revert hb;(first | exact i0_ | (refine i_ ?_;intro hb))))
  | refine r_ ?_
  | refine k_ ?_
  | refine o_ ?_
  | refine f_ ?_
  | with_reducible intro b)
 all_goals first
 | ((try unfold ownT);(try simp only [List.cons_append,List.append_assoc,List.nil_append]);(first | exact fin_ | refine finq_ ?_);done)
 | (trace_state;fail)
theorem sv_droptop_dc {p:Prop} (h:p:=by first | exact sv | (refine ⟨hs,?_⟩;(have hl6:(spl f).length<=65536:=filterB_lev hb);omega) | fail):p:=h
theorem s_droptop_dc {P Q:Prop} (q:Q) (h:Hid Q->P:=by (intro q;simp (maxSteps:=1000000) (disch:=omega) only [push_cast,↓reduceIte,reduceCtorEq,Nat.reduceAdd,Nat.reduceMul,Nat.reduceLT,Nat.reduceLeDiff,Nat.reduceEqDiff,Nat.reduceSub,Int.reduceToNat,Int.reduceLT,Int.reduceLE,Int.reduceAdd,Int.reduceSub,Int.reduceMul,Int.reduceNeg,Nat.reduceBEq,Int.reduceBEq,Int.reduceBNe,Nat.reduceBNe,Int.reduceEq,hlk,hC,look_nil,upd_nil,look_str,upd_str,drop_str,opt_bool,opt_int,opt_some,entM_nil,entM_len,keyS_70,keyS0_70,zeroD_65,keyS_71,keyS0_71,zeroD_3,upd_strP,upd_strI,drop_str,some_mapC,none_mapC,Option.getD_some,Option.getD_none,Option.isSome_some,Option.isSome_none];exact q.1)):P:=h ⟨q⟩
section
attribute [local push_cast 2000] look_nil upd_nil look_str upd_str drop_str opt_bool opt_int opt_some entM_nil entM_len keyS_70 keyS0_70 zeroD_65 keyS_71 keyS0_71 zeroD_3 upd_strP upd_strI some_mapC none_mapC Option.getD_some Option.getD_none Option.isSome_some Option.isSome_none
theorem droptop_dc (m:Int) (t:Nat) (ts:TS) (f ky:Str) (F:Own):(TOK ts/\f.length<=1000000/\ts.L.length<=1000000000)->DC Tryd.prog 10 [.raw (.pointer (some ⟨t,0,none⟩)), .str f, .str ky] (knF::knA::knM m::(ownT t ts++[])++F) fun d G=>∃ ts':TS,(TOK ts'/\ts'.L=dropA (f,ky) ts.L)/\d = .bool (lookA (f,ky) ts.L).isSome/\G=knF::knA::knM m::(ownT t ts'++F):=by
 intro hA
 obtain ⟨hs,hlf,hln⟩:=hA
 refine DC.bodyS (n_:=29) (show Tryd.prog.funcs[10]? = some Tryd.f10 by kernel_rfl) rfl rfl (by rfl) ?_
 simp only [env0,List.append_assoc,List.cons_append,List.nil_append]
 have kw:=ksIs [0,1,2,6,7,20]
 have ow:=ownIs []
 have dw1:=drIs 1 [10] [1,6,8]
 have hlk:True:=trivial
 have hC:True:=trivial
 simp only [ownT,List.cons_append,List.append_assoc,List.nil_append]
 repeat' (first
  | ((refine DOp.load_ rfl rfl ?_);(repeat (with_reducible first | refine OnB.here ?_ | refine OnB.next ?_ | (refine OnB.inH (by assumption) ?_;with_reducible intro C) | refine OnB.skip ?_));refine s_droptop_dc ?_)
  | ((refine dm_ ?_);(refine DVop.load_ rfl rfl rfl rfl ?_);(repeat (with_reducible first | refine OnB.here ?_ | refine OnB.next ?_ | (refine OnB.inH (by assumption) ?_;with_reducible intro C) | refine OnB.skip ?_));refine s_droptop_dc ?_)
  | refine g_ ?_
  | ((with_reducible refine And.intro ?_ ?_);(exact sv_droptop_dc))
  | (refine DW.cond (by rfl) ?_ ?_<;>(first | exact i0_ | (intro hb;(try simp only [↓reduceCtorEq,not_true_eq_false,not_false_eq_true,hbs,Int.reduceBEq,Int.reduceBNe,Int.reduceEq] at hb);(try refine s_droptop_dc ?_))))
  | ((with_reducible first | refine FVg_cases ?_ ?_ | refine FDg_cases ?_ ?_)<;>(intro hb;rw [hb];revert hb;(first | exact i0_ | (intro hb;(try simp only [↓reduceCtorEq,not_true_eq_false,not_false_eq_true,hbs,Int.reduceBEq,Int.reduceBNe,Int.reduceEq] at hb);(try refine s_droptop_dc ?_)))))
  | ((first | refine rn_ ?_ | refine dn_ ?_ | refine kn_ ?_)<;>(refine s_droptop_dc ?_))
  | ((refine dm_ ?_);(first | ((first | refine v_ (filterA_dc _ _ _) ?_ (ha:=by exact sv_droptop_dc) (hk:=fun q=>q.1) | refine v_ (lev7_dc _ _ _) ?_ (ha:=by exact sv_droptop_dc) (hk:=fun q=>q.1));refine s_droptop_dc ?_)))
  | ((refine von_ ?_);refine s_droptop_dc ?_)
  | ((first | refine q_ (filterA_dc _ _ _) ?_ (ha:=by exact sv_droptop_dc) (hk:=fun q=>q.1) | refine q_ (lev7_dc _ _ _) ?_ (ha:=by exact sv_droptop_dc) (hk:=fun q=>q.1));refine s_droptop_dc ?_)
  | (refine p_ (tdrop_dc _ _ _ _) ?_ (ha:=by exact sv_droptop_dc);rintro d H1 ⟨ts2,⟨hs2,hr2,hL2⟩,rfl,rfl⟩<;>refine s_droptop_dc ?_)
  | ((refine on_ ?_);refine s_droptop_dc ?_)
  | refine f_ ?_
  | refine vm_ ?_
  | with_reducible intro b)
 all_goals first
 | (refine ⟨_,_,le.rfl_,⟨ts2,⟨hs2,hL2⟩,rfl,rfl⟩,?_⟩;(try unfold ownT);(rw [hr2,hL2,drop_int hb]);(exact sub_);done)
 | (refine ⟨_,_,le.rfl_,⟨ts2,⟨hs2,hL2⟩,rfl,rfl⟩,?_⟩;(try unfold ownT);(rw [hr2,hL2,dropA_none (none_of hb)]);(exact sub_);done)
 | (have hno:=no_filter hs hb ky
    refine ⟨_,_,le.of_eq ?_,⟨ts,⟨hs,(dropA_none hno).symm⟩,rfl,rfl⟩,?_⟩;(focus (rw [hno];rfl));(try unfold ownT);(try simp only [List.cons_append]);(exact sub_);done)
 | (trace_state;fail)
end
theorem sv_tkeys_dc {p:Prop} (h:p:=by first | exact sv | (show (spl f).length<=_;omega) | exact ⟨hkn,Nat.le_trans hkz hln,hkb⟩ | fail):p:=h
theorem s_tkeys_dc {P Q:Prop} (q:Q) (h:Hid Q->P:=by (intro q;simp (maxSteps:=1000000) (disch:=omega) only [push_cast,↓reduceIte,reduceCtorEq,Nat.reduceAdd,Nat.reduceMul,Nat.reduceLT,Nat.reduceLeDiff,Nat.reduceEqDiff,Nat.reduceSub,Int.reduceToNat,Int.reduceLT,Int.reduceLE,Int.reduceAdd,Int.reduceSub,Int.reduceMul,Int.reduceNeg,Nat.reduceBEq,Int.reduceBEq,Int.reduceBNe,Nat.reduceBNe,Int.reduceEq,hlk,hC,look_nil,upd_nil,look_str,upd_str,drop_str,opt_bool,opt_int,opt_some,entM_nil,entM_len,keyS_70,keyS0_70,zeroD_65,keyS_71,keyS0_71,zeroD_3,upd_strP,upd_strI,drop_str,some_mapC,none_mapC,Option.getD_some,Option.getD_none,Option.isSome_some,Option.isSome_none];exact q.1)):P:=h ⟨q⟩
section
attribute [local push_cast 2000] look_nil upd_nil look_str upd_str drop_str opt_bool opt_int opt_some entM_nil entM_len keyS_70 keyS0_70 zeroD_65 keyS_71 keyS0_71 zeroD_3 upd_strP upd_strI some_mapC none_mapC Option.getD_some Option.getD_none Option.isSome_some Option.isSome_none
theorem tkeys_dc (m:Int) (t:Nat) (ts:TS) (f:Str) (F:Own):(TOK ts/\f.length<=1000000/\ts.L.length<=1000000000)->DC Tryd.prog 14 [.raw (.pointer (some ⟨t,0,none⟩)), .str f] (loose::knF::knA::knM m::(ownT t ts++[])++F) fun d G=>d = .sl ((keysL ts.L f).map V.str)/\G=(loose::knF::knA::knM m::(ownT t ts++[]))++F:=by
 intro hA
 obtain ⟨hs,hlf,hln⟩:=hA
 refine DC.bodyS (n_:=37) (show Tryd.prog.funcs[14]? = some Tryd.f14 by kernel_rfl) rfl rfl (by rfl) ?_
 simp only [env0,List.append_assoc,List.cons_append,List.nil_append]
 have kw:=ksIs [0,1,4,5,7,10,16,17,18,19,29]
 have ow:=ownIs []
 have hlk:True:=trivial
 have hC:True:=trivial
 simp only [ownT,List.cons_append,List.append_assoc,List.nil_append]
 repeat' (first
  | ((fail_if_success (have zz:=hop));(obtain ⟨_,rfl⟩:=fnd_some hx);(with_reducible apply DW.openR 11 hx);(repeat (with_reducible first | refine OutL.here ?_ | refine OutL.next ?_ | refine OutL.skip ?_));(intro g1 g2 hg);(have hop:True:=trivial);(unfold Nd.own;simp only [List.cons_append,List.nil_append]))
  | ((refine DOp.load_ rfl rfl ?_);(repeat (with_reducible first | refine OnB.here ?_ | refine OnB.next ?_ | (refine OnB.inH (by assumption) ?_;with_reducible intro C) | refine OnB.skip ?_));refine s_tkeys_dc ?_)
  | ((refine DOp.look_ rfl rfl ?_);(repeat (with_reducible first | refine OnM.here ?_ | refine OnM.next ?_ | (refine OnM.inN (by assumption) ?_;with_reducible intro C hC) | (refine OnM.inK (by assumption) ?_;with_reducible intro C hC) | refine OnM.skip ?_));refine s_tkeys_dc ?_)
  | ((with_reducible refine DW.loopB 0 (X:=Nat×Nat) (fun x=>x.1<=(spl f).length/\fol ts.h ts.r ((spl f).take x.1)=some x.2) (fun x=>[(5, .raw (.pointer (some ⟨x.2,0,none⟩))),(16, .sl ((spl f).map V.str)),(17, .int .i64 (spl f).length),(18, .int .i64 x.1)]) (fun x=>([]:Own)) (fun x=>(spl f).length - x.1) ((0,ts.r)) ?_ ?_ ?_);exact (⟨Nat.zero_le _,rfl⟩);(simp [Sub,get,keepL]<;>fail);(try simp only [List.append_assoc,List.cons_append,List.nil_append]);refine pl_ ?_;intro ⟨k,c⟩ ⟨hk,hf⟩;(try simp only [List.append_assoc,List.cons_append,List.nil_append]);(try simp only at hk hf);have hl6:(spl f).length<=65536:=filterB_lev (by assumption);(obtain ⟨nd,hx⟩:=hs.tri.at hf);by_cases hkl:k<(spl f).length;(rcases hlk:lookA ((spl f).getD k default) nd.next with _ | c2);rotate_left 2;((have hkl2:k=(spl f).length:=by omega);(rw [hkl2,List.take_length] at hf);(obtain ⟨hkn,hkz,hkb,hkm⟩:=nodeK hs hf hx)))
  | refine g_ ?_
  | ((with_reducible refine And.intro ?_ ?_);(exact sv_tkeys_dc))
  | (refine DW.cond (by rfl) ?_ ?_<;>(first | exact i0_ | (intro hb;(try simp only [↓reduceCtorEq,not_true_eq_false,not_false_eq_true,hbs,Int.reduceBEq,Int.reduceBNe,Int.reduceEq] at hb);(try refine s_tkeys_dc ?_))))
  | ((with_reducible refine FVg_cases ?_ ?_)<;>(intro hb;rw [hb];revert hb;(first | exact i0_ | (intro hb;(try simp only [↓reduceCtorEq,not_true_eq_false,not_false_eq_true,hbs,Int.reduceBEq,Int.reduceBNe,Int.reduceEq] at hb);(try refine s_tkeys_dc ?_)))))
  | ((first | refine rn_ ?_ | refine kn_ ?_)<;>(refine s_tkeys_dc ?_))
  | ((first | (refine DOp.look_ rfl rfl ?_;(repeat (with_reducible first | refine OnM.here ?_ | refine OnM.next ?_))) | (refine DOp.lenm_ rfl rfl ?_;(repeat (with_reducible first | refine OnM.here ?_ | refine OnM.next ?_))))<;>(refine s_tkeys_dc ?_))
  | ((first | refine q_ (filterA_dc _ _ _) ?_ (ha:=by exact sv_tkeys_dc) (hk:=fun q=>q.1) | refine q_ (lev7_dc _ _ _) ?_ (ha:=by exact sv_tkeys_dc) (hk:=fun q=>q.1) | refine q_ (sortk_dc _ _ _ _) ?_ (ha:=by exact sv_tkeys_dc) (hk:=fun q=>q.1));refine s_tkeys_dc ?_)
  | (refine p_ (mkeys_dc _ _) ?_ (ha:=by exact sv_tkeys_dc);rintro d H1 ⟨nb,rfl,rfl⟩<;>refine s_tkeys_dc ?_)
  | ((refine on_ ?_);refine s_tkeys_dc ?_)
  | refine f_ ?_
  | with_reducible intro b)
 all_goals first
 | (have hno:=fun k=>no_filter hs (by assumption) k
    rw [keysL_none hno];(first | exact fin_ | refine finq_ ?_);done)
 | (have hno:∀ j,lookA (f,j) ts.L=none:=path_none hs (k:=k+1) (by rw [take_s hkl,hs.tri.fkid hf hx];exact hlk)
    rw [keysL_none hno];(first | exact fin_ | refine finq_ ?_);done)
 | (refine ⟨(k+1,c2),⟨by (try simp only);omega,?_⟩,by (try simp only);omega,by simp [Sub,get],?_⟩;(focus ((try dsimp only);rw [take_s hkl,hs.tri.fkid hf hx];exact hlk));((try dsimp only);(exact sub_));done)
 | (rw [keys_end hkn hkm,hg];(refine ⟨_,_,le.rfl_,⟨rfl,rfl⟩,?_⟩);(repeat (first | refine SubP.pick ?_ | refine Out.here ?_ | refine Out.next ?_ | refine Out.skip ?_));(refine SubP.closeR ?_);(unfold Nd.own;simp only [List.cons_append,List.nil_append]);(exact sub_);done)
 | (trace_state;fail)
end
end
section
def encHit (x:Str×Int):V:=.agg [.str x.1, .int .i64 x.2]
def hitsK (o:IM) (ks:List Str) (k:Nat):List (Str×Int):=(ks.take k).map fun x=>(x,(lookA x o).getD 0)
theorem hitsK_0 (o:IM) (ks:List Str):hitsK o ks 0=[]:=rfl
theorem hitsK_s {o:IM} {ks:List Str} {k:Nat} (h:k<ks.length):hitsK o ks (k+1)=hitsK o ks k++[(ks.getD k default,(lookA (ks.getD k default) o).getD 0)]:=by unfold hitsK;rw [take_s h,List.map_append];rfl
theorem hitsK_len {o:IM} {ks:List Str} {k:Nat} (h:k<=ks.length):(hitsK o ks k).length=k:=by unfold hitsK;rw [List.length_map,List.length_take];omega
theorem hits1 (R:List (Str×Int)) (c:Str×Int):cells ((R++[c]).map encHit)=cells (R.map encHit)++[.str c.1, .int .i64 c.2]:=by
 rw [List.map_append,cells_append];rfl
theorem match_noname {L:TL} {n:Str} (h:nameB n=false):matchL L n=[]:=by
 have hm:∀ f,matchB f n=false:=fun f=>by unfold matchB;rw [h];simp
 unfold matchL
 induction L with
 | nil=>rfl
 | cons e L ih=>rw [List.foldl_cons,if_neg (by rw [hm];simp)];exact ih
theorem outK {ts:TS} (hs:TOK ts) {n:Str} (hn:nameB n=true) {o:IM} (ho:keyNd o) (h:∀ k,lookA k o=foldM (mOf ts.L) [] (vis (!hidT n) (spl n)) k none):o.length<=ts.L.length/\(∀ x∈o,x.1.length<=1000000000)/\∀ j,lookA j o=lookA j (matchL ts.L n):=by
 have hj:∀ j,lookA j o=lookA j (matchL ts.L n):=fun j=>by rw [h,match_fold hs.nd hs.fl (fun f hf=>vis_match hf hn)]
 have hm:∀ x,x∈o.map (·.1)->∃ e∈ts.L,e.1.2=x:=fun x hx=>by
  rw [<-lookA_isSome,hj,matchL_look] at hx
  obtain ⟨q,hq⟩:=Option.isSome_iff_exists.1 hx
  obtain ⟨⟨e,he,h1⟩,_⟩:=(foldG_some _ _).1 hq
  split at h1
  · rename_i hc;exact ⟨e,he,hc.2⟩
  · cases h1
 refine ⟨?_,fun x hx=>?_,hj⟩
 · have:=len_le (l:=o.map (·.1)) (l':=ts.L.map (·.1.2)) ho fun x hx=>by
    obtain ⟨e,he,h1⟩:=hm x hx
    exact List.mem_map.2 ⟨e,he,h1⟩
   simpa using this
 · obtain ⟨e,he,h1⟩:=hm x.1 (List.mem_map.2 ⟨x,hx,rfl⟩)
   have:=hs.kl e he
   rw [h1] at this;exact this
theorem match_end {L:TL} {n:Str} {o:IM} (ho:keyNd o) (h:∀ j,lookA j o=lookA j (matchL L n)):hitsK o (sortS (o.map (·.1))) (sortS (o.map (·.1))).length=matchL L n:=by
 unfold hitsK
 rw [List.take_length]
 exact match_same ho h (List.Perm.refl _)
theorem tmatch_dc (ts:TS) (n:Str) (o:Nat) (F:Own):(TOK ts/\(spl n).length<=1000000000)->DC Tryd.prog 42 [.raw (.pointer (some ⟨ts.r,0,none⟩)), .sl ((spl n).map V.str), .bool (!hidT n), .raw (.map (some o))] ((.map o []::(ownH ts.h++[]))++F) fun d G=>∃ out':IM,(keyNd out'/\∀ k,lookA k out'=foldM (mOf ts.L) [] (vis (!hidT n) (spl n)) k none)/\d = .tup []/\G = .map o (entM V.str (V.int .i64) out')::(ownH ts.h++F):=fun ⟨hs,hl⟩=>by
 refine (bmatch_dc ts.h ts.r (mOf ts.L) hs.tri o (spl n) (some ts.r) [] (!hidT n) [] F ⟨rfl,List.nodup_nil,hl⟩).mono fun d G hd=>?_
 obtain ⟨out',h1,h2,h3⟩:=hd
 exact ⟨out',⟨h1,h2⟩,h3⟩
theorem nameB_lev {f:Str} (h:nameB f=true):(spl f).length<=65536:=by
 have h1:=(nameB_len h).2
 have h2:=(levs_bound f).1
 rw [levs_is] at h2
 omega
attribute [local irreducible] DW SeqD DV DOp DC DVX Nd.own ownH nameB spl matchL vis foldM hitsK hidT sortS
theorem sv_tmatchA_dc {p:Prop} (h:p:=by first | exact sv | (refine ⟨hs,?_⟩;(have hl6:(spl n).length<=65536:=nameB_lev hnb);omega) | exact ⟨hn2,Nat.le_trans hoz hln,hob⟩ | (rw [hitsK_len (by assumption)];omega) | fail):p:=h
theorem s_tmatchA_dc {P Q:Prop} (q:Q) (h:Hid Q->P:=by (intro q;simp (maxSteps:=1000000) (disch:=omega) only [push_cast,↓reduceIte,reduceCtorEq,Nat.reduceAdd,Nat.reduceMul,Nat.reduceLT,Nat.reduceLeDiff,Nat.reduceEqDiff,Nat.reduceSub,Int.reduceToNat,Int.reduceLT,Int.reduceLE,Int.reduceAdd,Int.reduceSub,Int.reduceMul,Int.reduceNeg,Nat.reduceBEq,Int.reduceBEq,Int.reduceBNe,Nat.reduceBNe,Int.reduceEq,hlk,hC,encHit,hnb,look_nil,upd_nil,look_str,upd_str,drop_str,opt_bool,opt_int,opt_some,entM_nil,entM_len,keyS_70,keyS0_70,zeroD_65,keyS_71,keyS0_71,zeroD_3,upd_strP,upd_strI,drop_str,some_mapC,none_mapC,Option.getD_some,Option.getD_none,Option.isSome_some,Option.isSome_none];exact q.1)):P:=h ⟨q⟩
section
attribute [local push_cast 2000] encHit look_nil upd_nil look_str upd_str drop_str opt_bool opt_int opt_some entM_nil entM_len keyS_70 keyS0_70 zeroD_65 keyS_71 keyS0_71 zeroD_3 upd_strP upd_strI some_mapC none_mapC Option.getD_some Option.getD_none Option.isSome_some Option.isSome_none
theorem tmatchA_dc (m:Int) (t:Nat) (ts:TS) (n:Str) (F:Own):(TOK ts/\n.length<=1000000/\ts.L.length<=1000000000/\nameB n=true)->DC Tryd.prog 19 [.raw (.pointer (some ⟨t,0,none⟩)), .str n] (loose::knF::knA::knM m::(ownT t ts++[])++F) fun d G=>∃ v,d = .ar v (matchL ts.L n).length/\G = .arr 2 v (cells ((matchL ts.L n).map encHit))::((loose::knF::knA::knM m::(ownT t ts++[]))++F):=by
 intro hA
 obtain ⟨hs,hlf,hln,hnb⟩:=hA
 refine DC.bodyS (n_:=42) (show Tryd.prog.funcs[19]? = some Tryd.f19 by kernel_rfl) rfl rfl (by rfl) ?_
 simp only [env0,List.append_assoc,hitsK_0,List.map_nil,cells_nil,List.cons_append,List.nil_append]
 have kw:=ksIs [0,1,4,5,6,8,11,26,27,28,29]
 have ow:=ownIs []
 have dw4:=drIs 4 [10] [3,5,7]
 have hlk:True:=trivial
 have hC:True:=trivial
 simp only [ownT,List.cons_append,List.append_assoc,List.nil_append]
 repeat' (first
  | ((fail_if_success (have zz:=hoj));(refine fst_do (outK hs hnb hn2 ho2) ?_);(rintro ⟨hoz,hob,hoj⟩);(have hsl:((sortS (o2.map (·.1)))).length=o2.length:=by rw [sortS_len,List.length_map]))
  | ((refine dm_ ?_);(refine DVop.load_ rfl rfl rfl rfl ?_);(repeat (with_reducible first | refine OnB.here ?_ | refine OnB.next ?_ | (refine OnB.inH (by assumption) ?_;with_reducible intro C) | refine OnB.skip ?_));refine s_tmatchA_dc ?_)
  | ((refine DOp.look_ rfl rfl ?_);(repeat (with_reducible first | refine OnM.here ?_ | refine OnM.next ?_ | (refine OnM.inN (by assumption) ?_;with_reducible intro C hC) | (refine OnM.inK (by assumption) ?_;with_reducible intro C hC) | refine OnM.skip ?_));refine s_tmatchA_dc ?_)
  | ((refine DW.own0 2 6 (by rfl) ?_);(simp only [put_cons,put_nil,Nat.reduceEqDiff,↓reduceIte,if_true,if_false,reduceCtorEq]);((with_reducible refine DW.loopB 0 (X:=Nat×Value) (fun x=>x.1<=(sortS (o2.map (·.1))).length) (fun x=>[(5, .raw (.map (some o1))),(6, .ar x.2 (hitsK o2 (sortS (o2.map (·.1))) x.1).length),(26, .sl ((sortS (o2.map (·.1))).map V.str)),(27, .int .i64 (sortS (o2.map (·.1))).length),(28, .int .i64 x.1)]) (fun x=>[.arr 2 x.2 (cells ((hitsK o2 (sortS (o2.map (·.1))) x.1).map encHit)), .map o1 (entM V.str (V.int .i64) o2)]) (fun x=>(sortS (o2.map (·.1))).length - x.1) ((0, .slice none 0 0)) ?_ ?_ ?_);exact (Nat.zero_le _);(simp [Sub,get,keepL,hitsK_0]<;>fail);(try simp only [List.append_assoc,hitsK_0,List.map_nil,cells_nil,List.cons_append,List.nil_append]);refine pl_ ?_;intro ⟨k,v⟩ hk;(try simp only [List.append_assoc,hitsK_0,List.map_nil,cells_nil,List.cons_append,List.nil_append]);try simp only at hk))
  | refine g_ ?_
  | ((with_reducible refine And.intro ?_ ?_);(exact sv_tmatchA_dc))
  | (refine DW.cond (by rfl) ?_ ?_<;>(first | exact i0_ | (intro hb;(try simp only [↓reduceCtorEq,not_true_eq_false,not_false_eq_true,hbs,Int.reduceBEq,Int.reduceBNe,Int.reduceEq] at hb);(try refine s_tmatchA_dc ?_))))
  | ((with_reducible first | refine FVg_cases ?_ ?_ | refine FDg_cases ?_ ?_)<;>(intro hb;rw [hb];revert hb;(first | exact i0_ | (intro hb;(try simp only [↓reduceCtorEq,not_true_eq_false,not_false_eq_true,hbs,Int.reduceBEq,Int.reduceBNe,Int.reduceEq] at hb);(try refine s_tmatchA_dc ?_)))))
  | ((first | refine rn_ ?_ | refine dn_ ?_ | refine kn_ ?_)<;>(refine s_tmatchA_dc ?_))
  | ((refine dm_ ?_);(first | ((first | refine v_ (nameA_dc _ _) ?_ (ha:=by exact sv_tmatchA_dc) (hk:=fun q=>q.1) | refine v_ (lev7_dc _ _ _) ?_ (ha:=by exact sv_tmatchA_dc) (hk:=fun q=>q.1) | refine v_ (hasq_dc _ _) ?_ (ha:=by exact sv_tmatchA_dc) (hk:=fun q=>q.1) | refine v_ (sortk_dc _ _ _ _) ?_ (ha:=by exact sv_tmatchA_dc) (hk:=fun q=>q.1));refine s_tmatchA_dc ?_) | (refine DVop.look_ rfl rfl rfl rfl ?_;(repeat (with_reducible first | refine OnM.here ?_ | refine OnM.next ?_));refine s_tmatchA_dc ?_)))
  | ((refine von_ ?_);refine s_tmatchA_dc ?_)
  | ((first | (refine DOp.look_ rfl rfl ?_;(repeat (with_reducible first | refine OnM.here ?_ | refine OnM.next ?_))) | (refine DOp.lenm_ rfl rfl ?_;(repeat (with_reducible first | refine OnM.here ?_ | refine OnM.next ?_))))<;>(refine s_tmatchA_dc ?_))
  | ((first | refine q_ (nameA_dc _ _) ?_ (ha:=by exact sv_tmatchA_dc) (hk:=fun q=>q.1) | refine q_ (lev7_dc _ _ _) ?_ (ha:=by exact sv_tmatchA_dc) (hk:=fun q=>q.1) | refine q_ (hasq_dc _ _) ?_ (ha:=by exact sv_tmatchA_dc) (hk:=fun q=>q.1) | refine q_ (sortk_dc _ _ _ _) ?_ (ha:=by exact sv_tmatchA_dc) (hk:=fun q=>q.1));refine s_tmatchA_dc ?_)
  | (refine p_ (tmatch_dc _ _ _ _) ?_ (ha:=by exact sv_tmatchA_dc);rintro d H1 ⟨o2,⟨hn2,ho2⟩,rfl,rfl⟩<;>refine s_tmatchA_dc ?_)
  | (refine p_ (mkeys_dc _ _) ?_ (ha:=by exact sv_tmatchA_dc);rintro d H1 ⟨nb,rfl,rfl⟩<;>refine s_tmatchA_dc ?_)
  | ((refine on_ ?_);refine s_tmatchA_dc ?_)
  | refine f_ ?_
  | refine vm_ ?_
  | ((fail_if_success (have zz:=o1));with_reducible intro o1)
  | with_reducible intro b)
 all_goals first
 | (refine ⟨(k+1,b),by (try simp only);omega,by (try simp only);omega,?_,?_⟩;((try dsimp only);rw [hitsK_s (by omega)];simp [Sub,get]);((try dsimp only);rw [hitsK_s (by omega),hits1];(exact sub_));done)
 | ((have hkl:k=(sortS (o2.map (·.1))).length:=by omega)
    subst hkl
    rw [match_end hn2 hoj]
    refine ⟨_,_,le.rfl_,⟨v,rfl,rfl⟩,?_⟩;(exact sub_);done)
 | (trace_state;fail)
end
theorem s_tmatchN_dc {P Q:Prop} (q:Q) (h:Hid Q->P:=by (intro q;simp (maxSteps:=1000000) (disch:=omega) only [push_cast,↓reduceIte,reduceCtorEq,Nat.reduceAdd,Nat.reduceMul,Nat.reduceLT,Nat.reduceLeDiff,Nat.reduceEqDiff,Nat.reduceSub,Int.reduceToNat,Int.reduceLT,Int.reduceLE,Int.reduceAdd,Int.reduceSub,Int.reduceMul,Int.reduceNeg,Nat.reduceBEq,Int.reduceBEq,Int.reduceBNe,Nat.reduceBNe,Int.reduceEq,hnb];exact q.1)):P:=h ⟨q⟩
theorem tmatchN_dc (t:Nat) (n:Str) (F:Own):(n.length<=1000000/\nameB n=false)->DC Tryd.prog 19 [.raw (.pointer (some ⟨t,0,none⟩)), .str n] ([knF,knA]++F) fun d G=>d = .sl []/\G=[knF,knA]++F:=by
 intro hA
 obtain ⟨hlf,hnb⟩:=hA
 refine DC.bodyS (n_:=42) (show Tryd.prog.funcs[19]? = some Tryd.f19 by kernel_rfl) rfl rfl (by rfl) ?_
 simp only [env0,List.cons_append,List.nil_append]
 have kw:=ksIs [0,1,4,5,6,8,11,26,27,28,29]
 have ow:=ownIs []
 have dw4:=drIs 4 [] [3,5,7,10]
 repeat' (first
  | refine g_ ?_
  | ((with_reducible refine And.intro ?_ ?_);(exact sv))
  | (refine DW.cond (by rfl) ?_ ?_<;>(first | exact i0_ | (intro hb;(try simp only [↓reduceCtorEq,not_true_eq_false,not_false_eq_true,hbs,Int.reduceBEq,Int.reduceBNe,Int.reduceEq] at hb);(try refine s_tmatchN_dc ?_))))
  | ((with_reducible first | refine FVg_cases ?_ ?_ | refine FDg_cases ?_ ?_)<;>(intro hb;rw [hb];revert hb;(first | exact i0_ | (intro hb;(try simp only [↓reduceCtorEq,not_true_eq_false,not_false_eq_true,hbs,Int.reduceBEq,Int.reduceBNe,Int.reduceEq] at hb);(try refine s_tmatchN_dc ?_)))))
  | ((first | refine rn_ ?_ | refine dn_ ?_ | refine kn_ ?_)<;>(refine s_tmatchN_dc ?_))
  | ((refine dm_ ?_);(first | (refine v_ (nameA_dc _ _) ?_ (hk:=fun q=>q.1);refine s_tmatchN_dc ?_)))
  | ((refine von_ ?_);refine s_tmatchN_dc ?_)
  | (refine q_ (nameA_dc _ _) ?_ (hk:=fun q=>q.1);refine s_tmatchN_dc ?_)
  | ((refine on_ ?_);refine s_tmatchN_dc ?_)
  | refine f_ ?_
  | refine vm_ ?_
  | with_reducible intro b)
 (first | exact fin_ | refine finq_ ?_)
 all_goals rfl
theorem tmatchT_dc (m:Int) (t:Nat) (ts:TS) (n:Str) (F:Own):(TOK ts/\n.length<=1000000/\ts.L.length<=1000000000)->DC Tryd.prog 19 [.raw (.pointer (some ⟨t,0,none⟩)), .str n] ((loose::knF::knA::knM m::(ownT t ts++[]))++F) fun d G=>d = .sl ((matchL ts.L n).map encHit)/\G=(loose::knF::knA::knM m::(ownT t ts++[]))++F:=fun ⟨hs,hn,hl⟩=>by
 cases hb:nameB n with
 | true =>
  have h:=tmatchA_dc m t ts n F ⟨hs,hn,hl,hb⟩
  have h2:=DC.frzX (X:=List (Str×Int)) (Q:=fun x=>x=matchL ts.L n) (sz:=2) (l:=fun x=>x.map encHit) (by decide) (fun x y hy=>by obtain ⟨z,_,rfl⟩:=List.mem_map.1 hy;rfl)
   (h.mono fun d G hd=>by
     obtain ⟨v,h1,h2⟩:=hd
     exact ⟨v,_,by rw [List.length_map];exact h1,rfl,h2⟩)
  exact h2.mono fun d G hd=>by
   obtain ⟨x,rfl,h1,h2⟩:=hd
   exact ⟨h1,h2⟩
 | false =>
  rw [match_noname hb]
  have hp:((loose::knF::knA::knM m::(ownT t ts++[]))++F).Perm ([knF,knA]++(loose::knM m::(ownT t ts++F))):=by
   simp only [List.cons_append,List.nil_append,List.append_nil]
   exact (List.Perm.swap _ _ _).trans ((List.Perm.swap _ _ _).cons _)
  exact DC.keep (K:=fun d=>d = .sl []) hp (tmatchN_dc t n (loose::knM m::(ownT t ts++F)) ⟨hn,hb⟩)
end
end Go.Proofs.YtphhijelneaedaaDoor
