/- The trie: of each key the greatest number. -/
import Derived.Test.YtphhijelneaedaaDoorTdx
import Derived.KernelRfl
namespace Go.Proofs.YtphhijelneaedaaDoor
open Go.RowKit
set_option linter.unusedSimpArgs false
set_option linter.unusedVariables false
set_option linter.unusedSectionVars false
set_option maxHeartbeats 4000000
set_option maxRecDepth 100000
section
abbrev IM:=List (Str×Int)
abbrev keyNd (l:IM):Prop:=(l.map (·.1)).Nodup
theorem look_mid {A C:IM} {y:Str×Int} (hn:keyNd (A++y::C)) (k:Str):lookA k (A++y::C)=if k=y.1 then some y.2 else lookA k (A++C):=by
 unfold keyNd at hn
 rw [List.map_append,List.map_cons,List.nodup_append,List.nodup_cons] at hn
 rw [lookA_app,lookA_app,lookA_cons]
 by_cases hk:k=y.1
 · rw [if_pos hk,if_pos hk]
   have:lookA k A=none:=lookA_none.2 fun x hx e=>hn.2.2 x.1 (List.mem_map.2 ⟨x,hx,rfl⟩) y.1 List.mem_cons_self (e.symm.trans hk)
   rw [this];rfl
 · rw [if_neg hk,if_neg hk]
theorem nd_mid {A C:IM} {y:Str×Int} (hn:keyNd (A++y::C)):keyNd (A++C):=by
 unfold keyNd at hn ⊢
 rw [List.map_append,List.map_cons] at hn
 rw [List.map_append]
 exact hn.sublist ((List.sublist_cons_self _ _).append_left _)
section
variable {A C o:IM} {y:Str×Int} (hn:keyNd (A++y::C))
include hn
theorem look_gone:lookA y.1 (A++C)=none:=by
 unfold keyNd at hn
 rw [List.map_append,List.map_cons,List.nodup_append,List.nodup_cons] at hn
 rw [lookA_none]
 intro x hx e
 rcases List.mem_append.1 hx with hx | hx
 · exact hn.2.2 x.1 (List.mem_map.2 ⟨x,hx,rfl⟩) y.1 List.mem_cons_self e.symm
 · exact hn.2.1.1 (e▸List.mem_map.2 ⟨x,hx,rfl⟩)
theorem kept_upd {g:Str->Option Int} (h:∀ k,mx (lookA k o) (lookA k (A++y::C))=g k) (hq:mx (lookA y.1 o) (some y.2)=some y.2):∀ k,mx (lookA k (updA y.1 y.2 o)) (lookA k (A++C))=g k:=fun k=>by
 rw [<-h,look_mid hn,lookA_upd]
 by_cases hk:k=y.1
 · rw [if_pos hk,if_pos hk,hk,look_gone hn,mx_none,hq]
 · rw [if_neg hk,if_neg hk]
theorem kept_same {g:Str->Option Int} (h:∀ k,mx (lookA k o) (lookA k (A++y::C))=g k) (hq:mx (lookA y.1 o) (some y.2)=lookA y.1 o):∀ k,mx (lookA k o) (lookA k (A++C))=g k:=fun k=>by
 rw [<-h,look_mid hn]
 by_cases hk:k=y.1
 · rw [if_pos hk,hk,look_gone hn,mx_none,hq]
 · rw [if_neg hk]
end
theorem mx_new {a:Option Int} {q:Int} (h:a.isSome=false\/a.getD 0<q):mx a (some q)=some q:=by
 cases a with
 | none=>rfl
 | some a =>
  rcases h with h | h
  · cases h
  · show some (if a<q then q else a)=some q;rw [if_pos (show a<q from h)]
theorem mx_old {a:Option Int} {q:Int} (h:a.isSome=true) (h2:¬ a.getD 0<q):mx a (some q)=a:=by
 cases a with
 | none=>cases h
 | some a=>show some (if a<q then q else a)=some a;rw [if_neg (show ¬ a<q from h2)]
def vals (h:List Nd) (ob:Option Nat) (k:Str):Option Int:=(ob.bind (fnd h)).bind fun x=>lookA k x.keys
attribute [local irreducible] DW SeqD DV DOp DC DVX Nd.own ownH ownT
theorem found0_dc (o:Nat) (F:Own):(True)->DC Tryd.prog 72 [.raw (.pointer none), .raw (.map (some o))] (([]:Own)++F) fun d G=>d = .tup []/\G=[]++F:=by
 intro hA
 refine DC.bodyS (n_:=36) (show Tryd.prog.funcs[72]? = some Tryd.f72 by kernel_rfl) rfl rfl (by rfl) ?_
 simp only [env0,List.cons_append,List.nil_append]
 have kw:=ksIs [0,1,4,5,6,7,9,14,16,32]
 have ow:=ownIs []
 repeat' (first
  | refine g_ ?_
  | ((with_reducible refine And.intro ?_ ?_);(exact sv))
  | (refine DW.cond (by rfl) ?_ ?_<;>(first | exact i0_ | (refine ic_ ?_;intro hb)))
  | ((with_reducible refine FVg_cases ?_ ?_)<;>(intro hb;rw [hb];revert hb;(first | exact i0_ | (refine i_ ?_;intro hb))))
  | ((refine Both.imp ?_ ?_)<;>(first | exact i0_ | (refine i_ ?_;intro hb)))
  | refine r_ ?_
  | refine k_ ?_
  | refine o_ ?_
  | refine f_ ?_
  | with_reducible intro b)
 (first | exact fin_ | refine finq_ ?_)
 all_goals rfl
theorem s_found1_dc {P Q:Prop} (q:Q) (h:Hid Q->P:=by (intro q;simp (maxSteps:=1000000) (disch:=omega) only [push_cast,↓reduceIte,reduceCtorEq,Nat.reduceAdd,Nat.reduceMul,Nat.reduceLT,Nat.reduceLeDiff,Nat.reduceEqDiff,Nat.reduceSub,Int.reduceToNat,Int.reduceLT,Int.reduceLE,Int.reduceAdd,Int.reduceSub,Int.reduceMul,Int.reduceNeg,Nat.reduceBEq,Int.reduceBEq,Int.reduceBNe,Nat.reduceBNe,Int.reduceEq,hlk,look_nil,upd_nil,look_str,upd_str,drop_str,opt_bool,opt_int,opt_some,entM_nil,entM_len,keyS_70,keyS0_70,zeroD_65,keyS_71,keyS0_71,zeroD_3,upd_strI,entM_app];exact q.1)):P:=h ⟨q⟩
section
attribute [local push_cast 2000] look_nil upd_nil look_str upd_str drop_str opt_bool opt_int opt_some entM_nil entM_len keyS_70 keyS0_70 zeroD_65 keyS_71 keyS0_71 zeroD_3 upd_strI entM_app
theorem found1_dc (b o:Nat) (out:IM) (h:List Nd) (nd:Nd) (F:Own):(fnd h b=some nd/\keyNd nd.keys/\keyNd out)->DC Tryd.prog 72 [.raw (.pointer (some ⟨b,0,none⟩)), .raw (.map (some o))] (.map o (entM V.str (V.int .i64) out)::(ownH h++[])++F) fun d G=>∃ out':IM,keyNd out'/\(∀ k,lookA k out'=mx (lookA k out) (lookA k nd.keys))/\d = .tup []/\G = .map o (entM V.str (V.int .i64) out')::(ownH h++F):=by
 intro hA
 obtain ⟨hx,hk,ho⟩:=hA
 refine DC.bodyS (n_:=36) (show Tryd.prog.funcs[72]? = some Tryd.f72 by kernel_rfl) rfl rfl (by rfl) ?_
 simp only [env0,List.cons_append,List.nil_append]
 have kw:=ksIs [0,1,4,5,6,7,9,14,16,32]
 have ow:=ownIs []
 obtain ⟨_,rfl⟩:=fnd_some hx
 obtain ⟨h1,h2,rfl,_⟩:=setN_split hx
 have hlk:True:=trivial
 simp only [List.append_assoc,List.nil_append]
 (with_reducible refine DW.openH (h1:=h1) (h2:=h2) (x:=nd) ?_);(repeat (with_reducible first | refine OutL.here ?_ | refine OutL.next ?_ | refine OutL.skip ?_));(unfold Nd.own;simp only [List.cons_append,List.nil_append])
 repeat' (first
  | ((refine DOp.rangem_ rfl rfl ?_);(repeat (with_reducible first | refine OnM.here ?_ | refine OnM.next ?_ | (refine OnM.inN (by assumption) ?_;with_reducible intro C hC) | (refine OnM.inK (by assumption) ?_;with_reducible intro C hC) | refine OnM.skip ?_));(refine And.intro (by rw [ty_71]) ?_);(with_reducible intro rI);refine s_found1_dc ?_)
  | ((refine DOp.entrym_ rfl rfl ?_);(repeat (with_reducible first | refine OnG.here ?_ | refine OnG.next ?_ | refine OnG.skip ?_));(refine ⟨_,rfl,?_⟩);refine s_found1_dc ?_)
  | ((refine DOp.nextm_ (t:=0) rfl rfl ?_);(repeat (with_reducible first | refine OnG.here ?_ | refine OnG.next ?_ | refine OnG.skip ?_));(refine both_ent (fun A x C hL=>?_) (fun hL=>?_))<;>(subst hL)<;>(refine s_found1_dc ?_))
  | ((with_reducible apply DW.unitE (r:=rI));(repeat (with_reducible first | refine Out.here ?_ | refine Out.next ?_ | refine Out.skip ?_));(with_reducible refine DW_id ?_))
  | ((refine DOp.look_ rfl rfl ?_);(repeat (with_reducible first | refine OnM.here ?_ | refine OnM.next ?_ | (refine OnM.inN (by assumption) ?_;with_reducible intro C hC) | (refine OnM.inK (by assumption) ?_;with_reducible intro C hC) | refine OnM.skip ?_));refine s_found1_dc ?_)
  | ((refine DOp.upd_ rfl rfl ?_);(repeat (with_reducible first | refine OnM.here ?_ | refine OnM.next ?_ | (refine OnM.inN (by assumption) ?_;with_reducible intro C hC) | (refine OnM.inK (by assumption) ?_;with_reducible intro C hC) | refine OnM.skip ?_));refine s_found1_dc ?_)
  | ((with_reducible refine DW.loopB 0 (X:=IM×IM×VM) (fun x=>(keyNd x.1/\keyNd x.2.1)/\∀ k,mx (lookA k x.2.1) (lookA k x.1)=mx (lookA k out) (lookA k nd.keys)) (fun x=>[(1, .raw (.map (some o))),(14, .raw (.pointer (some ⟨rI,0,none⟩)))]) (fun x=>[.map o (entM V.str (V.int .i64) x.2.1), .miter rI nd.km (entM V.str (V.int .i64) nd.keys) (entM V.str (V.int .i64) x.1) x.2.2]) (fun x=>x.1.length) ((nd.keys,out,[])) ?_ ?_ ?_);exact (⟨⟨hk,ho⟩,fun _=>rfl⟩);(simp [Sub,get,keepL]<;>fail);(try simp only [List.cons_append,List.nil_append]);refine pl_ ?_;intro ⟨Lf,o2,cur⟩ ⟨⟨hn1,hn2⟩,hmx⟩;(try simp only [List.cons_append,List.nil_append]);try simp only at hn1 hn2 hmx)
  | refine g_ ?_
  | ((with_reducible refine And.intro ?_ ?_);(exact sv))
  | (refine DW.cond (by rfl) ?_ ?_<;>(first | exact i0_ | (intro hb;(try simp only [↓reduceCtorEq,not_true_eq_false,not_false_eq_true,hbs,Int.reduceBEq,Int.reduceBNe,Int.reduceEq] at hb);(try refine s_found1_dc ?_))))
  | ((with_reducible refine FVg_cases ?_ ?_)<;>(intro hb;rw [hb];revert hb;(first | exact i0_ | (intro hb;(try simp only [↓reduceCtorEq,not_true_eq_false,not_false_eq_true,hbs,Int.reduceBEq,Int.reduceBNe,Int.reduceEq] at hb);(try refine s_found1_dc ?_)))))
  | ((refine Both.imp ?_ ?_)<;>(first | exact i0_ | (intro hb;(try simp only [↓reduceCtorEq,not_true_eq_false,not_false_eq_true,hbs,Int.reduceBEq,Int.reduceBNe,Int.reduceEq] at hb);(try refine s_found1_dc ?_))))
  | ((first | refine rn_ ?_ | refine kn_ ?_)<;>(refine s_found1_dc ?_))
  | ((first | (refine DOp.look_ rfl rfl ?_;(repeat (with_reducible first | refine OnM.here ?_ | refine OnM.next ?_))) | (refine DOp.upd_ rfl rfl ?_;(repeat (with_reducible first | refine OnM.here ?_ | refine OnM.next ?_))) | (refine DOp.rangem_ rfl rfl ?_;(repeat (with_reducible first | refine OnM.here ?_ | refine OnM.next ?_))) | (refine DOp.nextm_ (t:=0) rfl rfl ?_;(repeat (with_reducible first | refine OnG.here ?_ | refine OnG.next ?_))) | (refine DOp.entrym_ rfl rfl ?_;(repeat (with_reducible first | refine OnG.here ?_ | refine OnG.next ?_))))<;>(refine s_found1_dc ?_))
  | ((refine on_ ?_);refine s_found1_dc ?_)
  | refine f_ ?_
  | with_reducible intro b)
 all_goals first
 | (refine ⟨_,_,le.rfl_,⟨o2,hn2,fun k=>by have:=hmx k;rw [show lookA k ([]:IM)=none from rfl,mx_none] at this;exact this,rfl,rfl⟩,?_⟩;(refine SubP.pick ?_);(repeat (with_reducible first | refine Out.here ?_ | refine Out.next ?_ | refine Out.skip ?_));(refine SubP.closeH ?_);(unfold Nd.own;simp only [List.cons_append,List.nil_append]);(exact sub_);done)
 | (refine ⟨(A++C,updA x.1 x.2 o2,[(.str x.1, .int .i64 x.2)]),⟨⟨nd_mid hn1,updA_nodup hn2⟩,kept_upd hn1 hmx (mx_new (.inl (by assumption)))⟩,by (try simp only);simp only [List.length_append,List.length_cons];omega,by simp [Sub,get],?_⟩;((try dsimp only);(exact sub_));done)
 | (refine ⟨(A++C,updA x.1 x.2 o2,[(.str x.1, .int .i64 x.2)]),⟨⟨nd_mid hn1,updA_nodup hn2⟩,kept_upd hn1 hmx (mx_new (.inr (by assumption)))⟩,by (try simp only);simp only [List.length_append,List.length_cons];omega,by simp [Sub,get],?_⟩;((try dsimp only);(exact sub_));done)
 | (refine ⟨(A++C,o2,[(.str x.1, .int .i64 x.2)]),⟨⟨nd_mid hn1,hn2⟩,kept_same hn1 hmx (mx_old (by assumption) (Int.not_lt.2 (by assumption)))⟩,by (try simp only);simp only [List.length_append,List.length_cons];omega,by simp [Sub,get],?_⟩;((try dsimp only);(exact sub_));done)
 | (trace_state;fail)
end
theorem found_dc (ob:Option Nat) (o:Nat) (out:IM) (h:List Nd) (F:Own):((∀ b,ob=some b->∃ x,fnd h b=some x/\keyNd x.keys)/\keyNd out)->DC Tryd.prog 72 [(ob.map pv).getD (.raw (.pointer none)), .raw (.map (some o))] ((.map o (entM V.str (V.int .i64) out)::(ownH h++[]))++F) fun d G=>∃ out':IM,keyNd out'/\(∀ k,lookA k out'=mx (lookA k out) (vals h ob k))/\d = .tup []/\G = .map o (entM V.str (V.int .i64) out')::(ownH h++F):=fun ⟨h1,h2⟩=>by
 cases ob with
 | none =>
  refine (found0_dc o ((.map o (entM V.str (V.int .i64) out)::(ownH h++[]))++F) trivial).mono fun d G hd=>?_
  obtain ⟨rfl,rfl⟩:=hd
  exact ⟨out,h2,fun k=>(mx_none _).symm,rfl,by simp only [List.nil_append,List.cons_append,List.append_assoc]⟩
 | some b =>
  obtain ⟨x,hx,hk⟩:=h1 b rfl
  refine (found1_dc b o out h x F ⟨hx,hk,h2⟩).mono fun d G hd=>?_
  obtain ⟨out',g1,g2,g3⟩:=hd
  exact ⟨out',g1,fun k=>by rw [g2];unfold vals;simp only [Option.bind_some,hx],g3⟩
end
section
section
variable {h:List Nd} {r:Nat} {m:List Str->Str->Option Int} (t:Tri h r m)
include t
theorem Tri.fkid {p:List Str} {b:Nat} {x:Nd} (hp:fol h r p=some b) (hx:fnd h b=some x) (l:Str):fol h r (p++[l])=lookA l x.next:=by
 rw [fol_snoc,hp];show kid h b l=_;unfold kid;rw [hx];rfl
theorem Tri.okid {b c:Nat} {x:Nd} {l:Str} (hx:fnd h b=some x) (hl:lookA l x.next=some c):∃ y,fnd h c=some y/\keyNd y.keys:=by
 have hk:kid h b l=some c:=by unfold kid;rw [hx];exact hl
 obtain ⟨y,hy⟩:=Option.isSome_iff_exists.1 (t.cl b l c hk)
 exact ⟨y,hy,(t.nn c y hy).2⟩
theorem Tri.vals {p:List Str} {b:Nat} {x:Nd} (hp:fol h r p=some b) (hx:fnd h b=some x) (l k:Str):vals h (lookA l x.next) k=m (p++[l]) k:=by
 have hf:=t.fkid hp hx l
 cases hl:lookA l x.next with
 | none=>rw [hl] at hf;exact (t.all _ k hf).symm
 | some c =>
  rw [hl] at hf
  obtain ⟨y,hy,_⟩:=t.okid hx hl
  unfold Go.Proofs.YtphhijelneaedaaDoor.vals
  simp only [Option.bind_some,hy]
  exact t.has _ _ _ hf hy k
theorem Tri.gone {p:List Str} (hp:fol h r p=none) (q:List Str) (k:Str):m (p++q) k=none:=t.all _ k (by rw [fol_app,hp];rfl)
end
theorem vis_nil (m:List Str->Str->Option Int) (p:List Str) (k:Str) (a:Option Int):foldM m p (vis true []) k a=mx (mx a (m (p++[[35]]) k)) (m p k)/\foldM m p (vis false []) k a=mx a (m p k):=by
 unfold vis foldM foldG;simp
theorem vis_true (m:List Str->Str->Option Int) (p:List Str) (y:Str) (t:List Str) (k:Str) (a:Option Int):foldM m p (vis true (y::t)) k a=foldM m (p++[y]) (vis true t) k (foldM m (p++[[43]]) (vis true t) k (mx a (m (p++[[35]]) k))):=by
 conv=>lhs;unfold vis
 simp only [if_true]
 rw [List.cons_append]
 show foldM m p ((vis true t).map ([43] :: ·)++(vis true t).map (y :: ·)) k (mx a (m (p++[[35]]) k))=_
 rw [foldM_app,foldM_map,foldM_map]
theorem vis_false (m:List Str->Str->Option Int) (p:List Str) (y:Str) (t:List Str) (k:Str) (a:Option Int):foldM m p (vis false (y::t)) k a=foldM m (p++[y]) (vis true t) k a:=by
 conv=>lhs;unfold vis
 simp only [Bool.false_eq_true,if_false,List.nil_append]
 rw [foldM_map]
attribute [local irreducible] DW SeqD DV DOp DC DVX Nd.own ownH ownT vis foldM vals
theorem match0_dc (l:List Str) (wild:Bool) (o:Nat) (F:Own):(True)->DC Tryd.prog 42 [.raw (.pointer none), .sl (l.map V.str), .bool wild, .raw (.map (some o))] (([]:Own)++F) fun d G=>d = .tup []/\G=[]++F:=by
 intro hA
 refine DC.bodyS (n_:=46) (show Tryd.prog.funcs[42]? = some Tryd.f42 by kernel_rfl) rfl rfl (by rfl) ?_
 simp only [env0,List.cons_append,List.nil_append]
 have kw:=ksIs [0,1,2,3,9,10,20,24]
 have ow:=ownIs []
 have dw6:=drIs 6 [] [3,4,8]
 have dw7:=drIs 7 [] [3,6,7,11]
 repeat' (first
  | refine g_ ?_
  | ((with_reducible refine And.intro ?_ ?_);(exact sv))
  | (refine DW.cond (by rfl) ?_ ?_<;>(first | exact i0_ | (refine ic_ ?_;intro hb)))
  | ((with_reducible first | refine FVg_cases ?_ ?_ | refine FDg_cases ?_ ?_)<;>(intro hb;rw [hb];revert hb;(first | exact i0_ | (refine i_ ?_;intro hb))))
  | refine r_ ?_
  | refine d_ ?_
  | refine k_ ?_
  | refine vo_ ?_
  | refine o_ ?_
  | refine f_ ?_
  | refine vm_ ?_
  | with_reducible intro b)
 (first | exact fin_ | refine finq_ ?_)
 all_goals rfl
theorem sv_match1_dc {p:Prop} (h:p:=by first | exact sv | (refine ⟨fun _=>ht.okid hx,?_⟩;assumption) | (refine ⟨hx,hkx,?_⟩;assumption) | (refine ⟨ht.fkid hp hx _,?_⟩;assumption) | fail):p:=h
theorem s_match1_dc {P Q:Prop} (q:Q) (h:Hid Q->P:=by (intro q;simp (maxSteps:=1000000) (disch:=omega) only [push_cast,↓reduceIte,reduceCtorEq,Nat.reduceAdd,Nat.reduceMul,Nat.reduceLT,Nat.reduceLeDiff,Nat.reduceEqDiff,Nat.reduceSub,Int.reduceToNat,Int.reduceLT,Int.reduceLE,Int.reduceAdd,Int.reduceSub,Int.reduceMul,Int.reduceNeg,Nat.reduceBEq,Int.reduceBEq,Int.reduceBNe,Nat.reduceBNe,Int.reduceEq,hlk,look_nil,upd_nil,look_str,upd_str,drop_str,opt_bool,opt_int,opt_some,entM_nil,entM_len,keyS_70,keyS0_70,zeroD_65,keyS_71,keyS0_71,zeroD_3];exact q.1)):P:=h ⟨q⟩
section
attribute [local push_cast 2000] look_nil upd_nil look_str upd_str drop_str opt_bool opt_int opt_some entM_nil entM_len keyS_70 keyS0_70 zeroD_65 keyS_71 keyS0_71 zeroD_3
theorem match1_dc (h:List Nd) (r:Nat) (m:List Str->Str->Option Int) (p:List Str) (b:Nat) (nd:Nd) (wild:Bool) (o:Nat) (out:IM) (F:Own):(Tri h r m/\fol h r p=some b/\fnd h b=some nd/\keyNd out)->DC Tryd.prog 42 [.raw (.pointer (some ⟨b,0,none⟩)), .sl [], .bool wild, .raw (.map (some o))] (.map o (entM V.str (V.int .i64) out)::(ownH h++[])++F) fun d G=>∃ out':IM,keyNd out'/\(∀ k,lookA k out'=foldM m p (vis wild []) k (lookA k out))/\d = .tup []/\G = .map o (entM V.str (V.int .i64) out')::(ownH h++F):=by
 intro hA
 obtain ⟨ht,hp,hx,ho⟩:=hA
 refine DC.bodyS (n_:=46) (show Tryd.prog.funcs[42]? = some Tryd.f42 by kernel_rfl) rfl rfl (by rfl) ?_
 simp only [env0,List.append_assoc,List.cons_append,List.nil_append]
 have kw:=ksIs [0,1,2,3,9,10,20,24]
 have ow:=ownIs []
 have dw6:=drIs 6 [8] [3,4]
 have dw7:=drIs 7 [11] [3,6,7]
 have hkx:keyNd nd.keys:=(ht.nn _ _ hx).2
 have hlk:True:=trivial
 have hmp:=ht.has _ _ _ hp hx
 have hvl:=ht.vals hp hx
 repeat' (first
  | ((refine DOp.load_ rfl rfl ?_);(repeat (with_reducible first | refine OnB.here ?_ | refine OnB.next ?_ | (refine OnB.inH (by assumption) ?_;with_reducible intro C) | refine OnB.skip ?_));refine s_match1_dc ?_)
  | ((refine DOp.look_ rfl rfl ?_);(repeat (with_reducible first | refine OnM.here ?_ | refine OnM.next ?_ | (refine OnM.inN (by assumption) ?_;with_reducible intro C hC) | (refine OnM.inK (by assumption) ?_;with_reducible intro C hC) | refine OnM.skip ?_));refine s_match1_dc ?_)
  | ((refine dm_ ?_);(refine DVop.load_ rfl rfl rfl rfl ?_);(repeat (with_reducible first | refine OnB.here ?_ | refine OnB.next ?_ | (refine OnB.inH (by assumption) ?_;with_reducible intro C) | refine OnB.skip ?_));refine s_match1_dc ?_)
  | ((refine dm_ ?_);(refine DVop.look_ rfl rfl rfl rfl ?_);(repeat (with_reducible first | refine OnM.here ?_ | refine OnM.next ?_ | (refine OnM.inN (by assumption) ?_;with_reducible intro C hC) | (refine OnM.inK (by assumption) ?_;with_reducible intro C hC) | refine OnM.skip ?_));refine s_match1_dc ?_)
  | refine g_ ?_
  | ((with_reducible refine And.intro ?_ ?_);(exact sv_match1_dc))
  | (refine DW.cond (by rfl) ?_ ?_<;>(first | exact i0_ | (intro hb;(try simp only [↓reduceCtorEq,not_true_eq_false,not_false_eq_true,hbs,Int.reduceBEq,Int.reduceBNe,Int.reduceEq] at hb);(try refine s_match1_dc ?_))))
  | ((with_reducible first | refine FVg_cases ?_ ?_ | refine FDg_cases ?_ ?_)<;>(intro hb;rw [hb];revert hb;(first | exact i0_ | (intro hb;(try simp only [↓reduceCtorEq,not_true_eq_false,not_false_eq_true,hbs,Int.reduceBEq,Int.reduceBNe,Int.reduceEq] at hb);(try refine s_match1_dc ?_)))))
  | ((first | refine rn_ ?_ | refine dn_ ?_ | refine kn_ ?_)<;>(refine s_match1_dc ?_))
  | ((refine dm_ ?_);(first | (refine DVop.look_ rfl rfl rfl rfl ?_;(repeat (with_reducible first | refine OnM.here ?_ | refine OnM.next ?_));refine s_match1_dc ?_)))
  | ((refine von_ ?_);refine s_match1_dc ?_)
  | ((first | (refine DOp.look_ rfl rfl ?_;(repeat (with_reducible first | refine OnM.here ?_ | refine OnM.next ?_))) | (refine DOp.lenm_ rfl rfl ?_;(repeat (with_reducible first | refine OnM.here ?_ | refine OnM.next ?_))))<;>(refine s_match1_dc ?_))
  | (refine p_ (found_dc _ _ _ _ _) ?_ (ha:=by exact sv_match1_dc);rintro d H1 ⟨out1,hn1,hv1,rfl,rfl⟩<;>refine s_match1_dc ?_)
  | (refine p_ (found1_dc _ _ _ _ _ _) ?_ (ha:=by exact sv_match1_dc);rintro d H1 ⟨out2,hn2,hv2,rfl,rfl⟩<;>refine s_match1_dc ?_)
  | ((refine on_ ?_);refine s_match1_dc ?_)
  | refine f_ ?_
  | refine vm_ ?_
  | with_reducible intro b)
 all_goals first
 | (subst hb;(refine ⟨_,_,le.rfl_,⟨out2,hn2,fun k=>?_,rfl,rfl⟩,?_⟩);(focus (first | (rw [(vis_nil m p k _).1,hv2,hv1,hvl,hmp]) | (rw [(vis_nil m p k _).2,hv2,hmp])));(exact sub_);done)
 | (trace_state;fail)
end
theorem sv_match2_dc {p:Prop} (h:p:=by first | exact sv | (refine ⟨fun _=>ht.okid hx,?_⟩;assumption) | (refine ⟨hx,hkx,?_⟩;assumption) | (refine ⟨ht.fkid hp hx _,?_⟩;assumption) | fail):p:=h
theorem s_match2_dc {P Q:Prop} (q:Q) (h:Hid Q->P:=by (intro q;simp (maxSteps:=1000000) (disch:=omega) only [push_cast,↓reduceIte,reduceCtorEq,Nat.reduceAdd,Nat.reduceMul,Nat.reduceLT,Nat.reduceLeDiff,Nat.reduceEqDiff,Nat.reduceSub,Int.reduceToNat,Int.reduceLT,Int.reduceLE,Int.reduceAdd,Int.reduceSub,Int.reduceMul,Int.reduceNeg,Nat.reduceBEq,Int.reduceBEq,Int.reduceBNe,Nat.reduceBNe,Int.reduceEq,hlk,take_str,look_nil,upd_nil,look_str,upd_str,drop_str,opt_bool,opt_int,opt_some,entM_nil,entM_len,keyS_70,keyS0_70,zeroD_65,keyS_71,keyS0_71,zeroD_3];exact q.1)):P:=h ⟨q⟩
section
attribute [local push_cast 2000] take_str look_nil upd_nil look_str upd_str drop_str opt_bool opt_int opt_some entM_nil entM_len keyS_70 keyS0_70 zeroD_65 keyS_71 keyS0_71 zeroD_3
theorem match2_dc (h:List Nd) (r:Nat) (m:List Str->Str->Option Int) (p:List Str) (b:Nat) (nd:Nd) (wild:Bool) (o:Nat) (out:IM) (y:Str) (t:List Str) (F:Own):((Tri h r m/\fol h r p=some b/\fnd h b=some nd/\keyNd out)/\(∀ (ob:Option Nat) (p:List Str) (out:IM) (F:Own),(fol h r p=ob/\keyNd out)->DC Tryd.prog 42 [(ob.map pv).getD (.raw (.pointer none)), .sl (t.map V.str), .bool true, .raw (.map (some o))] ((.map o (entM V.str (V.int .i64) out)::(ownH h++[]))++F) fun d G=>∃ out':IM,keyNd out'/\(∀ k,lookA k out'=foldM m p (vis true t) k (lookA k out))/\d = .tup []/\G = .map o (entM V.str (V.int .i64) out')::(ownH h++F))/\t.length<=1000000000)->DC Tryd.prog 42 [.raw (.pointer (some ⟨b,0,none⟩)), .sl (.str y::t.map V.str), .bool wild, .raw (.map (some o))] (.map o (entM V.str (V.int .i64) out)::(ownH h++[])++F) fun d G=>∃ out':IM,keyNd out'/\(∀ k,lookA k out'=foldM m p (vis wild (y::t)) k (lookA k out))/\d = .tup []/\G = .map o (entM V.str (V.int .i64) out')::(ownH h++F):=by
 intro hA
 obtain ⟨⟨ht,hp,hx,ho⟩,hcl,hlt⟩:=hA
 refine DC.bodyS (n_:=46) (show Tryd.prog.funcs[42]? = some Tryd.f42 by kernel_rfl) rfl rfl (by rfl) ?_
 simp only [env0,List.append_assoc,List.cons_append,List.nil_append]
 have kw:=ksIs [0,1,2,3,9,10,20,24]
 have ow:=ownIs []
 have dw6:=drIs 6 [8] [3,4]
 have dw7:=drIs 7 [11] [3,6,7]
 have hkx:keyNd nd.keys:=(ht.nn _ _ hx).2
 have hlk:True:=trivial
 have hmp:=ht.has _ _ _ hp hx
 have hvl:=ht.vals hp hx
 repeat' (first
  | ((refine DOp.load_ rfl rfl ?_);(repeat (with_reducible first | refine OnB.here ?_ | refine OnB.next ?_ | (refine OnB.inH (by assumption) ?_;with_reducible intro C) | refine OnB.skip ?_));refine s_match2_dc ?_)
  | ((refine DOp.look_ rfl rfl ?_);(repeat (with_reducible first | refine OnM.here ?_ | refine OnM.next ?_ | (refine OnM.inN (by assumption) ?_;with_reducible intro C hC) | (refine OnM.inK (by assumption) ?_;with_reducible intro C hC) | refine OnM.skip ?_));refine s_match2_dc ?_)
  | ((refine dm_ ?_);(refine DVop.load_ rfl rfl rfl rfl ?_);(repeat (with_reducible first | refine OnB.here ?_ | refine OnB.next ?_ | (refine OnB.inH (by assumption) ?_;with_reducible intro C) | refine OnB.skip ?_));refine s_match2_dc ?_)
  | ((refine dm_ ?_);(refine DVop.look_ rfl rfl rfl rfl ?_);(repeat (with_reducible first | refine OnM.here ?_ | refine OnM.next ?_ | (refine OnM.inN (by assumption) ?_;with_reducible intro C hC) | (refine OnM.inK (by assumption) ?_;with_reducible intro C hC) | refine OnM.skip ?_));refine s_match2_dc ?_)
  | refine g_ ?_
  | ((with_reducible refine And.intro ?_ ?_);(exact sv_match2_dc))
  | (refine DW.cond (by rfl) ?_ ?_<;>(first | exact i0_ | (intro hb;(try simp only [↓reduceCtorEq,not_true_eq_false,not_false_eq_true,hbs,Int.reduceBEq,Int.reduceBNe,Int.reduceEq] at hb);(try refine s_match2_dc ?_))))
  | ((with_reducible first | refine FVg_cases ?_ ?_ | refine FDg_cases ?_ ?_)<;>(intro hb;rw [hb];revert hb;(first | exact i0_ | (intro hb;(try simp only [↓reduceCtorEq,not_true_eq_false,not_false_eq_true,hbs,Int.reduceBEq,Int.reduceBNe,Int.reduceEq] at hb);(try refine s_match2_dc ?_)))))
  | ((first | refine rn_ ?_ | refine dn_ ?_ | refine kn_ ?_)<;>(refine s_match2_dc ?_))
  | ((refine dm_ ?_);(first | (refine DVop.look_ rfl rfl rfl rfl ?_;(repeat (with_reducible first | refine OnM.here ?_ | refine OnM.next ?_));refine s_match2_dc ?_)))
  | ((refine von_ ?_);refine s_match2_dc ?_)
  | ((first | (refine DOp.look_ rfl rfl ?_;(repeat (with_reducible first | refine OnM.here ?_ | refine OnM.next ?_))) | (refine DOp.lenm_ rfl rfl ?_;(repeat (with_reducible first | refine OnM.here ?_ | refine OnM.next ?_))))<;>(refine s_match2_dc ?_))
  | (refine p_ (found_dc _ _ _ _ _) ?_ (ha:=by exact sv_match2_dc);rintro d H1 ⟨out1,hn1,hv1,rfl,rfl⟩<;>refine s_match2_dc ?_)
  | (refine p_ (found1_dc _ _ _ _ _ _) ?_ (ha:=by exact sv_match2_dc);rintro d H1 ⟨out2,hn2,hv2,rfl,rfl⟩<;>refine s_match2_dc ?_)
  | (refine p_ (hcl _ _ _ _) ?_ (ha:=by exact sv_match2_dc);rintro d H1 ⟨out3,hn3,hv3,rfl,rfl⟩<;>refine s_match2_dc ?_)
  | ((refine on_ ?_);refine s_match2_dc ?_)
  | refine f_ ?_
  | refine vm_ ?_
  | with_reducible intro b)
 all_goals first
 | ((exfalso;have e1:wild=true:=by assumption);(have e2:wild=false:=by assumption);rw [e1] at e2;cases e2)
 | (subst hb;(refine ⟨_,_,le.rfl_,⟨out3,hn3,fun k=>?_,rfl,rfl⟩,?_⟩);(focus (first | (rw [vis_true];simp only [*];done) | (rw [vis_false];simp only [*];done)));(exact sub_);done)
 | (trace_state;fail)
end
theorem bmatch_dc (h:List Nd) (r:Nat) (m:List Str->Str->Option Int) (ht:Tri h r m) (o:Nat):∀ (l:List Str) (ob:Option Nat) (p:List Str) (wild:Bool) (out:IM) (F:Own),(fol h r p=ob/\keyNd out/\l.length<=1000000000)->DC Tryd.prog 42 [(ob.map pv).getD (.raw (.pointer none)), .sl (l.map V.str), .bool wild, .raw (.map (some o))] ((.map o (entM V.str (V.int .i64) out)::(ownH h++[]))++F) fun d G=>∃ out':IM,keyNd out'/\(∀ k,lookA k out'=foldM m p (vis wild l) k (lookA k out))/\d = .tup []/\G = .map o (entM V.str (V.int .i64) out')::(ownH h++F)
 | l,none,p,wild,out,F,⟨hp,ho,_⟩=>by
  refine (match0_dc l wild o ((.map o (entM V.str (V.int .i64) out)::(ownH h++[]))++F) trivial).mono fun d G hd=>?_
  obtain ⟨rfl,rfl⟩:=hd
  exact ⟨out,ho,fun k=>(foldM_none (fun s k=>ht.gone hp s k) _ k _).symm,rfl,by simp only [List.nil_append,List.cons_append,List.append_assoc]⟩
 | [],some b,p,wild,out,F,⟨hp,ho,_⟩=>by
  obtain ⟨x,hx⟩:=ht.at hp
  exact match1_dc h r m p b x wild o out F ⟨ht,hp,hx,ho⟩
 | y::t,some b,p,wild,out,F,⟨hp,ho,hl⟩=>by
  obtain ⟨x,hx⟩:=ht.at hp
  rw [List.length_cons] at hl
  exact match2_dc h r m p b x wild o out y t F ⟨⟨ht,hp,hx,ho⟩,fun ob p out F hq=>bmatch_dc h r m ht o t ob p true out F ⟨hq.1,hq.2,by omega⟩,by omega⟩
end
end Go.Proofs.YtphhijelneaedaaDoor
