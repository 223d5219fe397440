/- The trie: a pair comes. -/
import Derived.Test.YtifdpbghkccaoaaDoorTgx
import Derived.KernelRfl
namespace Go.Proofs.YtifdpbghkccaoaaDoor
open Go.RowKit
set_option linter.unusedSimpArgs false
set_option linter.unusedVariables false
set_option linter.unusedSectionVars false
set_option maxHeartbeats 4000000
set_option maxRecDepth 100000
section
abbrev Hp:=List Nd
theorem take_s {l:List Str} {k:Nat} (h:k<l.length):l.take (k+1)=l.take k++[l.getD k default]:=by
 rw [List.take_add_one];simp [List.getD_eq_getElem?_getD,h]
theorem filterB_lev {f:Str} (h:filterB f=true):(spl f).length<=65536:=by
 have h1:=(filterB_len h).2
 have h2:=(levs_bound f).1
 rw [levs_is] at h2
 omega
def putL (L:TL) (f k:Str) (q:Int):TL:=if filterB f=true then updA (f,k) q L else L
def wasL (L:TL) (f k:Str):Int:=if filterB f=true then (lookA (f,k) L).getD 0 else 0
def hadL (L:TL) (f k:Str):Bool:=filterB f&&(lookA (f,k) L).isSome
theorem mem_upd {α β:Type} [DecidableEq α] {k:α} {v:β} {x:α×β}:∀ {l:List (α×β)},x∈updA k v l->x.1=k\/x∈l
 | [],h=>by rw [List.mem_singleton.1 h];exact .inl rfl
 | y::l,h=>by
  unfold updA at h
  split at h
  · rename_i e
    rcases List.mem_cons.1 h with rfl | h
    · exact .inl e.symm
    · exact .inr (List.mem_cons_of_mem _ h)
  · rcases List.mem_cons.1 h with rfl | h
    · exact .inr List.mem_cons_self
    · exact (mem_upd h).imp id (List.mem_cons_of_mem _)
theorem nd_keys {s:TS} {h:List Nd} {f:Str} {c:Nat} {nd:Nd} (ht:Tri h s.r (mOf s.L)) (hf:fol h s.r (spl f)=some c) (hx:fnd h c=some nd) (k:Str):lookA k nd.keys=lookA (f,k) s.L:=by rw [ht.has _ _ _ hf hx,mOf_at]
theorem put_ok {s:TS} (hs:TOK s) {f ky:Str} {q:Int} {h:List Nd} {c:Nat} {nd:Nd} (hkl:ky.length<=1000000000) (hfb:filterB f=true) (ht:Tri h s.r (mOf s.L)) (hf:fol h s.r (spl f)=some c) (hx:fnd h c=some nd):TOK ⟨s.r,setN h { nd with keys:=updA ky q nd.keys },updA (f,ky) q s.L⟩:=by
 refine ⟨?_,updA_nodup hs.nd,fun e he=>?_,fun e he=>?_⟩
 · have:=(ht.keys hf hx (updA_nodup (k:=ky) (v:=q) (ht.nn _ _ hx).2)).1
   rwa [mOf_put (fun k'=>ht.has _ _ _ hf hx k')] at this
 · rcases mem_upd he with h | h
   · rw [h];exact hfb
   · exact hs.fl e h
 · rcases mem_upd he with h | h
   · rw [h];exact hkl
   · exact hs.kl e h
theorem put_len (L:TL) (f k:Str) (q:Int):(lookA (f,k) L).isSome=true->(((updA (f,k) q L).length:Nat):Int)=(L.length:Int):=fun h=>by rw [updA_len,if_pos h]
theorem put_len2 (L:TL) (f k:Str) (q:Int):(lookA (f,k) L).isSome=false->(((updA (f,k) q L).length:Nat):Int)=(L.length:Int)+1:=fun h=>by rw [updA_len,if_neg (by rw [h];simp)];simp
theorem lev7_dc (m:Int) (f:Str) (F:Own):f.length<=1000000->DC Tryd.prog 25 [.str f] ([knM m]++F) fun d G=>d = .sl ((spl f).map V.str)/\G=[knM m]++F:=fun h=>by
 have:=levelsg_dc m f F (by omega)
 rwa [levs_is] at this
attribute [local irreducible] DW SeqD DV DOp DC DVX Nd.own ownH filterB spl
theorem sv_put_dc {p:Prop} (h:p:=by first | exact sv | (show (spl f).length<=_;omega) | ((repeat (first | exact List.mem_append_left _ (blk_in hx) | refine List.mem_append_right _ ?_ | refine List.mem_cons_of_mem _ ?_));done) | fail):p:=h
theorem s_put_dc {P Q:Prop} (q:Q) (h:Hid Q->P:=by (intro q;simp (maxSteps:=1000000) (disch:=omega) only [push_cast,↓reduceIte,reduceCtorEq,Nat.reduceAdd,Nat.reduceMul,Nat.reduceLT,Nat.reduceLeDiff,Nat.reduceEqDiff,Nat.reduceSub,Int.reduceToNat,Int.reduceLT,Int.reduceLE,Int.reduceAdd,Int.reduceSub,Int.reduceMul,Int.reduceNeg,Nat.reduceBEq,Int.reduceBEq,Int.reduceBNe,Nat.reduceBNe,Int.reduceEq,hlk,hC,look_nil,upd_nil,look_str,upd_str,drop_str,opt_bool,opt_int,opt_some,entM_nil,entM_len,keyS_56,keyS0_56,zeroD_51,keyS_57,keyS0_57,zeroD_3,upd_strP,upd_strI,drop_str,some_mapC,none_mapC,Option.getD_some,Option.getD_none,Option.isSome_some,Option.isSome_none,klS,klV];exact q.1)):P:=h ⟨q⟩
section
attribute [local push_cast 2000] look_nil upd_nil look_str upd_str drop_str opt_bool opt_int opt_some entM_nil entM_len keyS_56 keyS0_56 zeroD_51 keyS_57 keyS0_57 zeroD_3 upd_strP upd_strI some_mapC none_mapC Option.getD_some Option.getD_none Option.isSome_some Option.isSome_none
theorem put_dc (m:Int) (t:Nat) (ts:TS) (f ky:Str) (q:Int) (F:Own):(TOK ts/\f.length<=1000000/\ts.L.length<=1000000000/\ky.length<=1000000000)->DC Tryd.prog 9 [.raw (.pointer (some ⟨t,0,none⟩)), .str f, .str ky, .int .i64 q] (knF::knA::knM m::(ownT t ts++[])++F) fun d G=>∃ ts':TS,TOK ts'/\ts'.L=putL ts.L f ky q/\d = .tup [.int .i64 (wasL ts.L f ky), .bool (hadL ts.L f ky)]/\G=knF::knA::knM m::(ownT t ts'++F):=by
 intro hA
 obtain ⟨hs,hlf,hln,hlk9⟩:=hA
 refine DC.bodyS (n_:=75) (show Tryd.prog.funcs[9]? = some Tryd.f9 by kernel_rfl) rfl rfl (by rfl) ?_
 simp only [env0,List.append_assoc,List.cons_append,List.nil_append]
 have kw:=ksIs [0,1,2,3,8,9,10,12,13,14,17,23,24,25,26,35,65]
 have ow:=ownIs []
 have hlk:True:=trivial
 have hC:True:=trivial
 simp only [ownT,List.cons_append,List.append_assoc,List.nil_append]
 repeat' (first
  | ((with_reducible apply DW.drawJ (id:=8) 10 [0,1,2,3,8,9,10,12,13,14,17,23,24,25,26,35,65] [5,6] [3] [5] (hm:=by kernel_rfl) (hd:=by kernel_rfl) (hB:=by kernel_rfl) (hN:=by kernel_rfl));(focus (exact rfl));(repeat (with_reducible first | refine OnB.here ?_ | refine OnB.next ?_ | (refine OnB.inH (by assumption) ?_;with_reducible intro C) | refine OnB.skip ?_));refine s_put_dc ?_)
  | ((fail_if_success (have zz:=hgr));(with_reducible apply DW.grow (y:=y) ht hf hx hlk ⟨hy1,hy2⟩ (by rw [List.length_take];omega));(repeat (with_reducible first | refine OutL.here ?_ | refine OutL.next ?_ | refine OutL.skip ?_));(intro h2 nd2 ht2 hf2 hx2 hlk);(have hgr:True:=trivial))
  | ((refine DOp.load_ rfl rfl ?_);(repeat (with_reducible first | refine OnB.here ?_ | refine OnB.next ?_ | (refine OnB.inH (by assumption) ?_;with_reducible intro C) | refine OnB.skip ?_));refine s_put_dc ?_)
  | ((refine DOp.look_ rfl rfl ?_);(repeat (with_reducible first | refine OnM.here ?_ | refine OnM.next ?_ | (refine OnM.inN (by assumption) ?_;with_reducible intro C hC) | (refine OnM.inK (by assumption) ?_;with_reducible intro C hC) | refine OnM.skip ?_));refine s_put_dc ?_)
  | ((refine DOp.upd_ rfl rfl ?_);(repeat (with_reducible first | refine OnM.here ?_ | refine OnM.next ?_ | (refine OnM.inN (by assumption) ?_;with_reducible intro C hC) | (refine OnM.inK (by assumption) ?_;with_reducible intro C hC) | refine OnM.skip ?_));refine s_put_dc ?_)
  | ((refine dm_ ?_);(refine DVop.load_ rfl rfl rfl rfl ?_);(repeat (with_reducible first | refine OnB.here ?_ | refine OnB.next ?_ | (refine OnB.inH (by assumption) ?_;with_reducible intro C) | refine OnB.skip ?_));refine s_put_dc ?_)
  | ((refine dm_ ?_);(refine DVop.look_ rfl rfl rfl rfl ?_);(repeat (with_reducible first | refine OnM.here ?_ | refine OnM.next ?_ | (refine OnM.inN (by assumption) ?_;with_reducible intro C hC) | (refine OnM.inK (by assumption) ?_;with_reducible intro C hC) | refine OnM.skip ?_));refine s_put_dc ?_)
  | ((with_reducible refine DW.loopB 0 (X:=Nat×Nat×Hp) (fun x=>x.1<=(spl f).length/\Tri x.2.2 ts.r (mOf ts.L)/\fol x.2.2 ts.r ((spl f).take x.1)=some x.2.1) (fun x=>[(0, .raw (.pointer (some ⟨t,0,none⟩))),(2, .str ky),(3, .int .i64 q),(10, .raw (.pointer (some ⟨x.2.1,0,none⟩))),(23, .sl ((spl f).map V.str)),(24, .int .i64 (spl f).length),(25, .int .i64 x.1)]) (fun x=>(ownH x.2.2++[])) (fun x=>(spl f).length - x.1) ((0,ts.r,ts.h)) ?_ ?_ ?_);exact (⟨Nat.zero_le _,hs.tri,rfl⟩);(simp [Sub,get,keepL]<;>fail);(try simp only [List.append_assoc,List.cons_append,List.nil_append]);refine pl_ ?_;intro ⟨k,c,h⟩ ⟨hk,ht,hf⟩;(try simp only [List.append_assoc,List.cons_append,List.nil_append]);(try simp only at hk ht hf);have hl6:(spl f).length<=65536:=filterB_lev (by assumption);(obtain ⟨nd,hx⟩:=ht.at hf);by_cases hkl:k<(spl f).length;(rcases hlk:lookA ((spl f).getD k default) nd.next with _ | c2);skip)
  | refine g_ ?_
  | ((with_reducible refine And.intro ?_ ?_);(exact sv_put_dc))
  | (refine DW.cond (by rfl) ?_ ?_<;>(first | exact i0_ | (intro hb;(try simp only [↓reduceCtorEq,not_true_eq_false,not_false_eq_true,hbs,Int.reduceBEq,Int.reduceBNe,Int.reduceEq] at hb);(try refine s_put_dc ?_))))
  | ((with_reducible refine FVg_cases ?_ ?_)<;>(intro hb;rw [hb];revert hb;(first | exact i0_ | (intro hb;(try simp only [↓reduceCtorEq,not_true_eq_false,not_false_eq_true,hbs,Int.reduceBEq,Int.reduceBNe,Int.reduceEq] at hb);(try refine s_put_dc ?_)))))
  | ((first | refine rn_ ?_ | refine kn_ ?_)<;>(refine s_put_dc ?_))
  | ((first | ((with_reducible apply DW.drawJ (id:=8) 10 [0,1,2,3,8,9,10,12,13,14,17,23,24,25,26,35,65] [5,6] [3] [5] (hm:=by kernel_rfl) (hd:=by kernel_rfl) (hB:=by kernel_rfl) (hN:=by kernel_rfl));(focus (exact rfl));(repeat (with_reducible first | refine OnB.here ?_ | refine OnB.mid ?_ | refine OnB.next ?_))) | (refine DVJ.k_ rfl rfl rfl ?_) | (refine DVJ.f_ rfl rfl rfl ?_) | (refine DOp.look_ rfl rfl ?_;(repeat (with_reducible first | refine OnM.here ?_ | refine OnM.next ?_))) | (refine DOp.upd_ rfl rfl ?_;(repeat (with_reducible first | refine OnM.here ?_ | refine OnM.next ?_))) | (refine DOp.lenm_ rfl rfl ?_;(repeat (with_reducible first | refine OnM.here ?_ | refine OnM.next ?_))))<;>(simp (maxSteps:=1000000) (disch:=omega) only [push_cast,↓reduceIte,reduceCtorEq,Nat.reduceAdd,Nat.reduceMul,Nat.reduceLT,Nat.reduceLeDiff,Nat.reduceEqDiff,Nat.reduceSub,Int.reduceToNat,Int.reduceLT,Int.reduceLE,Int.reduceAdd,Int.reduceSub,Int.reduceMul,Int.reduceNeg,Nat.reduceBEq,Int.reduceBEq,Int.reduceBNe,Nat.reduceBNe,Int.reduceEq,hlk,hC,look_nil,upd_nil,look_str,upd_str,drop_str,opt_bool,opt_int,opt_some,entM_nil,entM_len,keyS_56,keyS0_56,zeroD_51,keyS_57,keyS0_57,zeroD_3,upd_strP,upd_strI,drop_str,some_mapC,none_mapC,Option.getD_some,Option.getD_none,Option.isSome_some,Option.isSome_none,klS,klV]))
  | ((first | refine q_ (filterA_dc _ _ _) ?_ (ha:=by exact sv_put_dc) (hk:=fun q=>q.1) | refine q_ (lev7_dc _ _ _) ?_ (ha:=by exact sv_put_dc) (hk:=fun q=>q.1));refine s_put_dc ?_)
  | (refine p_ (sprout_dc _) ?_ (ha:=by exact sv_put_dc);rintro d H1 ⟨y,rfl,⟨hy1,hy2⟩,rfl⟩<;>refine s_put_dc ?_)
  | ((refine on_ ?_);refine s_put_dc ?_)
  | refine f_ ?_
  | (first | refine DVJ.ma_ rfl rfl rfl ?_ | refine DVJ.mb_ rfl rfl rfl ?_)
  | with_reducible intro b)
 all_goals first
 | (refine ⟨(k+1,y.b,h2),⟨by (try simp only);omega,ht2,?_⟩,by (try simp only);omega,by simp [Sub,get],?_⟩;(focus ((try dsimp only);rw [take_s hkl];exact hf2));((try dsimp only);(exact sub_));done)
 | (refine ⟨(k+1,c2,h),⟨by (try simp only);omega,ht,?_⟩,by (try simp only);omega,by simp [Sub,get],?_⟩;(focus ((try dsimp only);rw [take_s hkl];rw [ht.fkid hf hx];exact hlk));((try dsimp only);(exact sub_));done)
 | ((have hkl2:k=(spl f).length:=by omega)
    subst hkl2
    rw [List.take_length] at hf
    have e1:=nd_keys ht hf hx ky
    have hfb:filterB f=true:=by assumption
    refine ⟨_,_,le.of_eq ?_,⟨_,put_ok (ky:=ky) (q:=q) hs hlk9 hfb ht hf hx,?_,rfl,rfl⟩,?_⟩;(focus (unfold wasL hadL;rw [hfb,if_pos rfl,e1];rfl));(focus (unfold putL;rw [if_pos hfb]));((try unfold ownT);(try simp only [List.cons_append]);rw [put_len _ f ky q (by rw [<-e1];assumption)];(exact sub_));done)
 | ((have hkl2:k=(spl f).length:=by omega)
    subst hkl2
    rw [List.take_length] at hf
    have e1:=nd_keys ht hf hx ky
    have hfb:filterB f=true:=by assumption
    refine ⟨_,_,le.of_eq ?_,⟨_,put_ok (ky:=ky) (q:=q) hs hlk9 hfb ht hf hx,?_,rfl,rfl⟩,?_⟩;(focus (unfold wasL hadL;rw [hfb,if_pos rfl,e1];rfl));(focus (unfold putL;rw [if_pos hfb]));((try unfold ownT);(try simp only [List.cons_append]);rw [put_len2 _ f ky q (by rw [<-e1];assumption)];(exact sub_));done)
 | (refine ⟨_,_,le.of_eq ?_,⟨ts,hs,?_,rfl,rfl⟩,?_⟩;(focus (unfold wasL hadL;rw [if_neg (by simp_all)];simp_all));(focus (unfold putL;rw [if_neg (by simp_all)]));((try unfold ownT);(try simp only [List.cons_append]);(exact sub_));done)
 | (trace_state;fail)
end
end
end Go.Proofs.YtifdpbghkccaoaaDoor
