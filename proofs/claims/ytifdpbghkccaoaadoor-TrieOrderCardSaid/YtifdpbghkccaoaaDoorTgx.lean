/- The trie: all branches that match a name. -/
import Derived.Test.YtifdpbghkccaoaaDoorLkx
import Derived.KernelRfl
namespace Go.Proofs.YtifdpbghkccaoaaDoor
open Go.RowKit
set_option linter.unusedSimpArgs false
set_option linter.unusedVariables false
set_option linter.unusedSectionVars false
set_option maxHeartbeats 4000000
set_option maxRecDepth 100000
section
section
variable {h:List Nd} {r:Nat} {m:List Str->Str->Option Int} (t:Tri h r m)
include t
theorem Tri.fkid {p:List Str} {b:Nat} {x:Nd} (hp:fol h r p=some b) (hx:fnd h b=some x) (l:Str):fol h r (p++[l])=lookA l x.next:=by
 rw [fol_snoc,hp];show kid h b l=_;unfold kid;rw [hx];rfl
theorem Tri.okid {b c:Nat} {x:Nd} {l:Str} (hx:fnd h b=some x) (hl:lookA l x.next=some c):∃ y,fnd h c=some y/\keyNd y.keys:=by
 have hk:kid h b l=some c:=by unfold kid;rw [hx];exact hl
 obtain ⟨y,hy⟩:=Option.isSome_iff_exists.1 (t.cl b l c hk)
 exact ⟨y,hy,(t.nn c y hy).2⟩
theorem Tri.vals {p:List Str} {b:Nat} {x:Nd} (hp:fol h r p=some b) (hx:fnd h b=some x) (l k:Str):vals h (lookA l x.next) k=m (p++[l]) k:=by
 have hf:=t.fkid hp hx l
 cases hl:lookA l x.next with
 | none=>rw [hl] at hf;exact (t.all _ k hf).symm
 | some c =>
  rw [hl] at hf
  obtain ⟨y,hy,_⟩:=t.okid hx hl
  unfold Go.Proofs.YtifdpbghkccaoaaDoor.vals
  simp only [Option.bind_some,hy]
  exact t.has _ _ _ hf hy k
theorem Tri.gone {p:List Str} (hp:fol h r p=none) (q:List Str) (k:Str):m (p++q) k=none:=t.all _ k (by rw [fol_app,hp];rfl)
end
theorem vis_nil (m:List Str->Str->Option Int) (p:List Str) (k:Str) (a:Option Int):foldM m p (vis true []) k a=mx (mx a (m (p++[[35]]) k)) (m p k)/\foldM m p (vis false []) k a=mx a (m p k):=by
 unfold vis foldM foldG;simp
theorem vis_true (m:List Str->Str->Option Int) (p:List Str) (y:Str) (t:List Str) (k:Str) (a:Option Int):foldM m p (vis true (y::t)) k a=foldM m (p++[y]) (vis true t) k (foldM m (p++[[43]]) (vis true t) k (mx a (m (p++[[35]]) k))):=by
 conv=>lhs;unfold vis
 simp only [if_true]
 rw [List.cons_append]
 show foldM m p ((vis true t).map ([43] :: ·)++(vis true t).map (y :: ·)) k (mx a (m (p++[[35]]) k))=_
 rw [foldM_app,foldM_map,foldM_map]
theorem vis_false (m:List Str->Str->Option Int) (p:List Str) (y:Str) (t:List Str) (k:Str) (a:Option Int):foldM m p (vis false (y::t)) k a=foldM m (p++[y]) (vis true t) k a:=by
 conv=>lhs;unfold vis
 simp only [Bool.false_eq_true,if_false,List.nil_append]
 rw [foldM_map]
attribute [local irreducible] DW SeqD DV DOp DC DVX Nd.own ownH ownT vis foldM vals
theorem match0_dc (l:List Str) (wild:Bool) (o:Nat) (F:Own):(True)->DC Tryd.prog 27 [.raw (.pointer none), .sl (l.map V.str), .bool wild, .raw (.map (some o))] (([]:Own)++F) fun d G=>d = .tup []/\G=[]++F:=by
 intro hA
 refine DC.bodyS (n_:=46) (show Tryd.prog.funcs[27]? = some Tryd.f27 by kernel_rfl) rfl rfl (by rfl) ?_
 simp only [env0,List.cons_append,List.nil_append]
 have kw:=ksIs [0,1,2,3,9,10,20,24]
 have ow:=ownIs []
 have dw6:=drIs 6 [] [3,4,8]
 have dw7:=drIs 7 [] [3,6,7,11]
 repeat' (first
  | refine g_ ?_
  | ((with_reducible refine And.intro ?_ ?_);(exact sv))
  | (refine DW.cond (by rfl) ?_ ?_<;>(first | exact i0_ | (refine ic_ ?_;intro hb)))
  | ((with_reducible first | refine FVg_cases ?_ ?_ | refine FDg_cases ?_ ?_)<;>(intro hb;rw [hb];revert hb;(first | exact i0_ | (refine i_ ?_;intro hb))))
  | refine r_ ?_
  | refine d_ ?_
  | refine k_ ?_
  | refine vo_ ?_
  | refine o_ ?_
  | refine f_ ?_
  | refine vm_ ?_
  | with_reducible intro b)
 (first | exact fin_ | refine finq_ ?_)
 all_goals rfl
theorem sv_match1_dc {p:Prop} (h:p:=by first | exact sv | (refine ⟨fun _=>ht.okid hx,?_⟩;assumption) | (refine ⟨hx,hkx,?_⟩;assumption) | (refine ⟨ht.fkid hp hx _,?_⟩;assumption) | fail):p:=h
theorem s_match1_dc {P Q:Prop} (q:Q) (h:Hid Q->P:=by (intro q;simp (maxSteps:=1000000) (disch:=omega) only [push_cast,↓reduceIte,reduceCtorEq,Nat.reduceAdd,Nat.reduceMul,Nat.reduceLT,Nat.reduceLeDiff,Nat.reduceEqDiff,Nat.reduceSub,Int.reduceToNat,Int.reduceLT,Int.reduceLE,Int.reduceAdd,Int.reduceSub,Int.reduceMul,Int.reduceNeg,Nat.reduceBEq,Int.reduceBEq,Int.reduceBNe,Nat.reduceBNe,Int.reduceEq,hlk,look_nil,upd_nil,look_str,upd_str,drop_str,opt_bool,opt_int,opt_some,entM_nil,entM_len,keyS_56,keyS0_56,zeroD_51,keyS_57,keyS0_57,zeroD_3];exact q.1)):P:=h ⟨q⟩
section
attribute [local push_cast 2000] look_nil upd_nil look_str upd_str drop_str opt_bool opt_int opt_some entM_nil entM_len keyS_56 keyS0_56 zeroD_51 keyS_57 keyS0_57 zeroD_3
theorem match1_dc (h:List Nd) (r:Nat) (m:List Str->Str->Option Int) (p:List Str) (b:Nat) (nd:Nd) (wild:Bool) (o:Nat) (out:IM) (F:Own):(Tri h r m/\fol h r p=some b/\fnd h b=some nd/\keyNd out)->DC Tryd.prog 27 [.raw (.pointer (some ⟨b,0,none⟩)), .sl [], .bool wild, .raw (.map (some o))] (.map o (entM V.str (V.int .i64) out)::(ownH h++[])++F) fun d G=>∃ out':IM,keyNd out'/\(∀ k,lookA k out'=foldM m p (vis wild []) k (lookA k out))/\d = .tup []/\G = .map o (entM V.str (V.int .i64) out')::(ownH h++F):=by
 intro hA
 obtain ⟨ht,hp,hx,ho⟩:=hA
 refine DC.bodyS (n_:=46) (show Tryd.prog.funcs[27]? = some Tryd.f27 by kernel_rfl) rfl rfl (by rfl) ?_
 simp only [env0,List.append_assoc,List.cons_append,List.nil_append]
 have kw:=ksIs [0,1,2,3,9,10,20,24]
 have ow:=ownIs []
 have dw6:=drIs 6 [8] [3,4]
 have dw7:=drIs 7 [11] [3,6,7]
 have hkx:keyNd nd.keys:=(ht.nn _ _ hx).2
 have hlk:True:=trivial
 have hmp:=ht.has _ _ _ hp hx
 have hvl:=ht.vals hp hx
 repeat' (first
  | ((refine DOp.load_ rfl rfl ?_);(repeat (with_reducible first | refine OnB.here ?_ | refine OnB.next ?_ | (refine OnB.inH (by assumption) ?_;with_reducible intro C) | refine OnB.skip ?_));refine s_match1_dc ?_)
  | ((refine DOp.look_ rfl rfl ?_);(repeat (with_reducible first | refine OnM.here ?_ | refine OnM.next ?_ | (refine OnM.inN (by assumption) ?_;with_reducible intro C hC) | (refine OnM.inK (by assumption) ?_;with_reducible intro C hC) | refine OnM.skip ?_));refine s_match1_dc ?_)
  | ((refine dm_ ?_);(refine DVop.load_ rfl rfl rfl rfl ?_);(repeat (with_reducible first | refine OnB.here ?_ | refine OnB.next ?_ | (refine OnB.inH (by assumption) ?_;with_reducible intro C) | refine OnB.skip ?_));refine s_match1_dc ?_)
  | ((refine dm_ ?_);(refine DVop.look_ rfl rfl rfl rfl ?_);(repeat (with_reducible first | refine OnM.here ?_ | refine OnM.next ?_ | (refine OnM.inN (by assumption) ?_;with_reducible intro C hC) | (refine OnM.inK (by assumption) ?_;with_reducible intro C hC) | refine OnM.skip ?_));refine s_match1_dc ?_)
  | refine g_ ?_
  | ((with_reducible refine And.intro ?_ ?_);(exact sv_match1_dc))
  | (refine DW.cond (by rfl) ?_ ?_<;>(first | exact i0_ | (intro hb;(try simp only [↓reduceCtorEq,not_true_eq_false,not_false_eq_true,hbs,Int.reduceBEq,Int.reduceBNe,Int.reduceEq] at hb);(try refine s_match1_dc ?_))))
  | ((with_reducible first | refine FVg_cases ?_ ?_ | refine FDg_cases ?_ ?_)<;>(intro hb;rw [hb];revert hb;(first | exact i0_ | (intro hb;(try simp only [↓reduceCtorEq,not_true_eq_false,not_false_eq_true,hbs,Int.reduceBEq,Int.reduceBNe,Int.reduceEq] at hb);(try refine s_match1_dc ?_)))))
  | ((first | refine rn_ ?_ | refine dn_ ?_ | refine kn_ ?_)<;>(refine s_match1_dc ?_))
  | ((refine dm_ ?_);(first | (refine DVop.look_ rfl rfl rfl rfl ?_;(repeat (with_reducible first | refine OnM.here ?_ | refine OnM.next ?_));refine s_match1_dc ?_)))
  | ((refine von_ ?_);refine s_match1_dc ?_)
  | ((first | (refine DOp.look_ rfl rfl ?_;(repeat (with_reducible first | refine OnM.here ?_ | refine OnM.next ?_))) | (refine DOp.lenm_ rfl rfl ?_;(repeat (with_reducible first | refine OnM.here ?_ | refine OnM.next ?_))))<;>(refine s_match1_dc ?_))
  | (refine p_ (found_dc _ _ _ _ _) ?_ (ha:=by exact sv_match1_dc);rintro d H1 ⟨out1,hn1,hv1,rfl,rfl⟩<;>refine s_match1_dc ?_)
  | (refine p_ (found1_dc _ _ _ _ _ _) ?_ (ha:=by exact sv_match1_dc);rintro d H1 ⟨out2,hn2,hv2,rfl,rfl⟩<;>refine s_match1_dc ?_)
  | ((refine on_ ?_);refine s_match1_dc ?_)
  | refine f_ ?_
  | refine vm_ ?_
  | with_reducible intro b)
 all_goals first
 | (subst hb;(refine ⟨_,_,le.rfl_,⟨out2,hn2,fun k=>?_,rfl,rfl⟩,?_⟩);(focus (first | (rw [(vis_nil m p k _).1,hv2,hv1,hvl,hmp]) | (rw [(vis_nil m p k _).2,hv2,hmp])));(exact sub_);done)
 | (trace_state;fail)
end
theorem sv_match2_dc {p:Prop} (h:p:=by first | exact sv | (refine ⟨fun _=>ht.okid hx,?_⟩;assumption) | (refine ⟨hx,hkx,?_⟩;assumption) | (refine ⟨ht.fkid hp hx _,?_⟩;assumption) | fail):p:=h
theorem s_match2_dc {P Q:Prop} (q:Q) (h:Hid Q->P:=by (intro q;simp (maxSteps:=1000000) (disch:=omega) only [push_cast,↓reduceIte,reduceCtorEq,Nat.reduceAdd,Nat.reduceMul,Nat.reduceLT,Nat.reduceLeDiff,Nat.reduceEqDiff,Nat.reduceSub,Int.reduceToNat,Int.reduceLT,Int.reduceLE,Int.reduceAdd,Int.reduceSub,Int.reduceMul,Int.reduceNeg,Nat.reduceBEq,Int.reduceBEq,Int.reduceBNe,Nat.reduceBNe,Int.reduceEq,hlk,take_str,look_nil,upd_nil,look_str,upd_str,drop_str,opt_bool,opt_int,opt_some,entM_nil,entM_len,keyS_56,keyS0_56,zeroD_51,keyS_57,keyS0_57,zeroD_3];exact q.1)):P:=h ⟨q⟩
section
attribute [local push_cast 2000] take_str look_nil upd_nil look_str upd_str drop_str opt_bool opt_int opt_some entM_nil entM_len keyS_56 keyS0_56 zeroD_51 keyS_57 keyS0_57 zeroD_3
theorem match2_dc (h:List Nd) (r:Nat) (m:List Str->Str->Option Int) (p:List Str) (b:Nat) (nd:Nd) (wild:Bool) (o:Nat) (out:IM) (y:Str) (t:List Str) (F:Own):((Tri h r m/\fol h r p=some b/\fnd h b=some nd/\keyNd out)/\(∀ (ob:Option Nat) (p:List Str) (out:IM) (F:Own),(fol h r p=ob/\keyNd out)->DC Tryd.prog 27 [(ob.map pv).getD (.raw (.pointer none)), .sl (t.map V.str), .bool true, .raw (.map (some o))] ((.map o (entM V.str (V.int .i64) out)::(ownH h++[]))++F) fun d G=>∃ out':IM,keyNd out'/\(∀ k,lookA k out'=foldM m p (vis true t) k (lookA k out))/\d = .tup []/\G = .map o (entM V.str (V.int .i64) out')::(ownH h++F))/\t.length<=1000000000)->DC Tryd.prog 27 [.raw (.pointer (some ⟨b,0,none⟩)), .sl (.str y::t.map V.str), .bool wild, .raw (.map (some o))] (.map o (entM V.str (V.int .i64) out)::(ownH h++[])++F) fun d G=>∃ out':IM,keyNd out'/\(∀ k,lookA k out'=foldM m p (vis wild (y::t)) k (lookA k out))/\d = .tup []/\G = .map o (entM V.str (V.int .i64) out')::(ownH h++F):=by
 intro hA
 obtain ⟨⟨ht,hp,hx,ho⟩,hcl,hlt⟩:=hA
 refine DC.bodyS (n_:=46) (show Tryd.prog.funcs[27]? = some Tryd.f27 by kernel_rfl) rfl rfl (by rfl) ?_
 simp only [env0,List.append_assoc,List.cons_append,List.nil_append]
 have kw:=ksIs [0,1,2,3,9,10,20,24]
 have ow:=ownIs []
 have dw6:=drIs 6 [8] [3,4]
 have dw7:=drIs 7 [11] [3,6,7]
 have hkx:keyNd nd.keys:=(ht.nn _ _ hx).2
 have hlk:True:=trivial
 have hmp:=ht.has _ _ _ hp hx
 have hvl:=ht.vals hp hx
 repeat' (first
  | ((refine DOp.load_ rfl rfl ?_);(repeat (with_reducible first | refine OnB.here ?_ | refine OnB.next ?_ | (refine OnB.inH (by assumption) ?_;with_reducible intro C) | refine OnB.skip ?_));refine s_match2_dc ?_)
  | ((refine DOp.look_ rfl rfl ?_);(repeat (with_reducible first | refine OnM.here ?_ | refine OnM.next ?_ | (refine OnM.inN (by assumption) ?_;with_reducible intro C hC) | (refine OnM.inK (by assumption) ?_;with_reducible intro C hC) | refine OnM.skip ?_));refine s_match2_dc ?_)
  | ((refine dm_ ?_);(refine DVop.load_ rfl rfl rfl rfl ?_);(repeat (with_reducible first | refine OnB.here ?_ | refine OnB.next ?_ | (refine OnB.inH (by assumption) ?_;with_reducible intro C) | refine OnB.skip ?_));refine s_match2_dc ?_)
  | ((refine dm_ ?_);(refine DVop.look_ rfl rfl rfl rfl ?_);(repeat (with_reducible first | refine OnM.here ?_ | refine OnM.next ?_ | (refine OnM.inN (by assumption) ?_;with_reducible intro C hC) | (refine OnM.inK (by assumption) ?_;with_reducible intro C hC) | refine OnM.skip ?_));refine s_match2_dc ?_)
  | refine g_ ?_
  | ((with_reducible refine And.intro ?_ ?_);(exact sv_match2_dc))
  | (refine DW.cond (by rfl) ?_ ?_<;>(first | exact i0_ | (intro hb;(try simp only [↓reduceCtorEq,not_true_eq_false,not_false_eq_true,hbs,Int.reduceBEq,Int.reduceBNe,Int.reduceEq] at hb);(try refine s_match2_dc ?_))))
  | ((with_reducible first | refine FVg_cases ?_ ?_ | refine FDg_cases ?_ ?_)<;>(intro hb;rw [hb];revert hb;(first | exact i0_ | (intro hb;(try simp only [↓reduceCtorEq,not_true_eq_false,not_false_eq_true,hbs,Int.reduceBEq,Int.reduceBNe,Int.reduceEq] at hb);(try refine s_match2_dc ?_)))))
  | ((first | refine rn_ ?_ | refine dn_ ?_ | refine kn_ ?_)<;>(refine s_match2_dc ?_))
  | ((refine dm_ ?_);(first | (refine DVop.look_ rfl rfl rfl rfl ?_;(repeat (with_reducible first | refine OnM.here ?_ | refine OnM.next ?_));refine s_match2_dc ?_)))
  | ((refine von_ ?_);refine s_match2_dc ?_)
  | ((first | (refine DOp.look_ rfl rfl ?_;(repeat (with_reducible first | refine OnM.here ?_ | refine OnM.next ?_))) | (refine DOp.lenm_ rfl rfl ?_;(repeat (with_reducible first | refine OnM.here ?_ | refine OnM.next ?_))))<;>(refine s_match2_dc ?_))
  | (refine p_ (found_dc _ _ _ _ _) ?_ (ha:=by exact sv_match2_dc);rintro d H1 ⟨out1,hn1,hv1,rfl,rfl⟩<;>refine s_match2_dc ?_)
  | (refine p_ (found1_dc _ _ _ _ _ _) ?_ (ha:=by exact sv_match2_dc);rintro d H1 ⟨out2,hn2,hv2,rfl,rfl⟩<;>refine s_match2_dc ?_)
  | (refine p_ (hcl _ _ _ _) ?_ (ha:=by exact sv_match2_dc);rintro d H1 ⟨out3,hn3,hv3,rfl,rfl⟩<;>refine s_match2_dc ?_)
  | ((refine on_ ?_);refine s_match2_dc ?_)
  | refine f_ ?_
  | refine vm_ ?_
  | with_reducible intro b)
 all_goals first
 | ((exfalso;have e1:wild=true:=by assumption);(have e2:wild=false:=by assumption);rw [e1] at e2;cases e2)
 | (subst hb;(refine ⟨_,_,le.rfl_,⟨out3,hn3,fun k=>?_,rfl,rfl⟩,?_⟩);(focus (first | (rw [vis_true];simp only [*];done) | (rw [vis_false];simp only [*];done)));(exact sub_);done)
 | (trace_state;fail)
end
theorem bmatch_dc (h:List Nd) (r:Nat) (m:List Str->Str->Option Int) (ht:Tri h r m) (o:Nat):∀ (l:List Str) (ob:Option Nat) (p:List Str) (wild:Bool) (out:IM) (F:Own),(fol h r p=ob/\keyNd out/\l.length<=1000000000)->DC Tryd.prog 27 [(ob.map pv).getD (.raw (.pointer none)), .sl (l.map V.str), .bool wild, .raw (.map (some o))] ((.map o (entM V.str (V.int .i64) out)::(ownH h++[]))++F) fun d G=>∃ out':IM,keyNd out'/\(∀ k,lookA k out'=foldM m p (vis wild l) k (lookA k out))/\d = .tup []/\G = .map o (entM V.str (V.int .i64) out')::(ownH h++F)
 | l,none,p,wild,out,F,⟨hp,ho,_⟩=>by
  refine (match0_dc l wild o ((.map o (entM V.str (V.int .i64) out)::(ownH h++[]))++F) trivial).mono fun d G hd=>?_
  obtain ⟨rfl,rfl⟩:=hd
  exact ⟨out,ho,fun k=>(foldM_none (fun s k=>ht.gone hp s k) _ k _).symm,rfl,by simp only [List.nil_append,List.cons_append,List.append_assoc]⟩
 | [],some b,p,wild,out,F,⟨hp,ho,_⟩=>by
  obtain ⟨x,hx⟩:=ht.at hp
  exact match1_dc h r m p b x wild o out F ⟨ht,hp,hx,ho⟩
 | y::t,some b,p,wild,out,F,⟨hp,ho,hl⟩=>by
  obtain ⟨x,hx⟩:=ht.at hp
  rw [List.length_cons] at hl
  exact match2_dc h r m p b x wild o out y t F ⟨⟨ht,hp,hx,ho⟩,fun ob p out F hq=>bmatch_dc h r m ht o t ob p true out F ⟨hq.1,hq.2,by omega⟩,by omega⟩
end
end Go.Proofs.YtifdpbghkccaoaaDoor
