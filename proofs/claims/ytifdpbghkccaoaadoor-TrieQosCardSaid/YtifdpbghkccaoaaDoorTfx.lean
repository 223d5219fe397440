/- The trie: of each key the greatest number. -/
import Derived.Test.YtifdpbghkccaoaaDoorLkx
import Derived.KernelRfl
namespace Go.Proofs.YtifdpbghkccaoaaDoor
open Go.RowKit
set_option linter.unusedSimpArgs false
set_option linter.unusedVariables false
set_option linter.unusedSectionVars false
set_option maxHeartbeats 4000000
set_option maxRecDepth 100000
section
abbrev IM:=List (Str×Int)
abbrev keyNd (l:IM):Prop:=(l.map (·.1)).Nodup
theorem look_mid {A C:IM} {y:Str×Int} (hn:keyNd (A++y::C)) (k:Str):lookA k (A++y::C)=if k=y.1 then some y.2 else lookA k (A++C):=by
 unfold keyNd at hn
 rw [List.map_append,List.map_cons,List.nodup_append,List.nodup_cons] at hn
 rw [lookA_app,lookA_app,lookA_cons]
 by_cases hk:k=y.1
 · rw [if_pos hk,if_pos hk]
   have:lookA k A=none:=lookA_none.2 fun x hx e=>hn.2.2 x.1 (List.mem_map.2 ⟨x,hx,rfl⟩) y.1 List.mem_cons_self (e.symm.trans hk)
   rw [this];rfl
 · rw [if_neg hk,if_neg hk]
theorem nd_mid {A C:IM} {y:Str×Int} (hn:keyNd (A++y::C)):keyNd (A++C):=by
 unfold keyNd at hn ⊢
 rw [List.map_append,List.map_cons] at hn
 rw [List.map_append]
 exact hn.sublist ((List.sublist_cons_self _ _).append_left _)
section
variable {A C o:IM} {y:Str×Int} (hn:keyNd (A++y::C))
include hn
theorem look_gone:lookA y.1 (A++C)=none:=by
 unfold keyNd at hn
 rw [List.map_append,List.map_cons,List.nodup_append,List.nodup_cons] at hn
 rw [lookA_none]
 intro x hx e
 rcases List.mem_append.1 hx with hx | hx
 · exact hn.2.2 x.1 (List.mem_map.2 ⟨x,hx,rfl⟩) y.1 List.mem_cons_self e.symm
 · exact hn.2.1.1 (e▸List.mem_map.2 ⟨x,hx,rfl⟩)
theorem kept_upd {g:Str->Option Int} (h:∀ k,mx (lookA k o) (lookA k (A++y::C))=g k) (hq:mx (lookA y.1 o) (some y.2)=some y.2):∀ k,mx (lookA k (updA y.1 y.2 o)) (lookA k (A++C))=g k:=fun k=>by
 rw [<-h,look_mid hn,lookA_upd]
 by_cases hk:k=y.1
 · rw [if_pos hk,if_pos hk,hk,look_gone hn,mx_none,hq]
 · rw [if_neg hk,if_neg hk]
theorem kept_same {g:Str->Option Int} (h:∀ k,mx (lookA k o) (lookA k (A++y::C))=g k) (hq:mx (lookA y.1 o) (some y.2)=lookA y.1 o):∀ k,mx (lookA k o) (lookA k (A++C))=g k:=fun k=>by
 rw [<-h,look_mid hn]
 by_cases hk:k=y.1
 · rw [if_pos hk,hk,look_gone hn,mx_none,hq]
 · rw [if_neg hk]
end
theorem mx_new {a:Option Int} {q:Int} (h:a.isSome=false\/a.getD 0<q):mx a (some q)=some q:=by
 cases a with
 | none=>rfl
 | some a =>
  rcases h with h | h
  · cases h
  · show some (if a<q then q else a)=some q;rw [if_pos (show a<q from h)]
theorem mx_old {a:Option Int} {q:Int} (h:a.isSome=true) (h2:¬ a.getD 0<q):mx a (some q)=a:=by
 cases a with
 | none=>cases h
 | some a=>show some (if a<q then q else a)=some a;rw [if_neg (show ¬ a<q from h2)]
def vals (h:List Nd) (ob:Option Nat) (k:Str):Option Int:=(ob.bind (fnd h)).bind fun x=>lookA k x.keys
attribute [local irreducible] DW SeqD DV DOp DC DVX Nd.own ownH ownT
theorem found0_dc (o:Nat) (F:Own):(True)->DC Tryd.prog 43 [.raw (.pointer none), .raw (.map (some o))] (([]:Own)++F) fun d G=>d = .tup []/\G=[]++F:=by
 intro hA
 refine DC.bodyS (n_:=36) (show Tryd.prog.funcs[43]? = some Tryd.f43 by kernel_rfl) rfl rfl (by rfl) ?_
 simp only [env0,List.cons_append,List.nil_append]
 have kw:=ksIs [0,1,4,5,6,7,9,14,16,32]
 have ow:=ownIs []
 repeat' (first
  | refine g_ ?_
  | ((with_reducible refine And.intro ?_ ?_);(exact sv))
  | (refine DW.cond (by rfl) ?_ ?_<;>(first | exact i0_ | (refine ic_ ?_;intro hb)))
  | ((with_reducible refine FVg_cases ?_ ?_)<;>(intro hb;rw [hb];revert hb;(first | exact i0_ | (refine i_ ?_;intro hb))))
  | ((refine Both.imp ?_ ?_)<;>(first | exact i0_ | (refine i_ ?_;intro hb)))
  | refine r_ ?_
  | refine k_ ?_
  | refine o_ ?_
  | refine f_ ?_
  | with_reducible intro b)
 (first | exact fin_ | refine finq_ ?_)
 all_goals rfl
theorem s_found1_dc {P Q:Prop} (q:Q) (h:Hid Q->P:=by (intro q;simp (maxSteps:=1000000) (disch:=omega) only [push_cast,↓reduceIte,reduceCtorEq,Nat.reduceAdd,Nat.reduceMul,Nat.reduceLT,Nat.reduceLeDiff,Nat.reduceEqDiff,Nat.reduceSub,Int.reduceToNat,Int.reduceLT,Int.reduceLE,Int.reduceAdd,Int.reduceSub,Int.reduceMul,Int.reduceNeg,Nat.reduceBEq,Int.reduceBEq,Int.reduceBNe,Nat.reduceBNe,Int.reduceEq,hlk,look_nil,upd_nil,look_str,upd_str,drop_str,opt_bool,opt_int,opt_some,entM_nil,entM_len,keyS_56,keyS0_56,zeroD_51,keyS_57,keyS0_57,zeroD_3,upd_strI,entM_app];exact q.1)):P:=h ⟨q⟩
section
attribute [local push_cast 2000] look_nil upd_nil look_str upd_str drop_str opt_bool opt_int opt_some entM_nil entM_len keyS_56 keyS0_56 zeroD_51 keyS_57 keyS0_57 zeroD_3 upd_strI entM_app
theorem found1_dc (b o:Nat) (out:IM) (h:List Nd) (nd:Nd) (F:Own):(fnd h b=some nd/\keyNd nd.keys/\keyNd out)->DC Tryd.prog 43 [.raw (.pointer (some ⟨b,0,none⟩)), .raw (.map (some o))] (.map o (entM V.str (V.int .i64) out)::(ownH h++[])++F) fun d G=>∃ out':IM,keyNd out'/\(∀ k,lookA k out'=mx (lookA k out) (lookA k nd.keys))/\d = .tup []/\G = .map o (entM V.str (V.int .i64) out')::(ownH h++F):=by
 intro hA
 obtain ⟨hx,hk,ho⟩:=hA
 refine DC.bodyS (n_:=36) (show Tryd.prog.funcs[43]? = some Tryd.f43 by kernel_rfl) rfl rfl (by rfl) ?_
 simp only [env0,List.cons_append,List.nil_append]
 have kw:=ksIs [0,1,4,5,6,7,9,14,16,32]
 have ow:=ownIs []
 obtain ⟨_,rfl⟩:=fnd_some hx
 obtain ⟨h1,h2,rfl,_⟩:=setN_split hx
 have hlk:True:=trivial
 simp only [List.append_assoc,List.nil_append]
 (with_reducible refine DW.openH (h1:=h1) (h2:=h2) (x:=nd) ?_);(repeat (with_reducible first | refine OutL.here ?_ | refine OutL.next ?_ | refine OutL.skip ?_));(unfold Nd.own;simp only [List.cons_append,List.nil_append])
 repeat' (first
  | ((refine DOp.rangem_ rfl rfl ?_);(repeat (with_reducible first | refine OnM.here ?_ | refine OnM.next ?_ | (refine OnM.inN (by assumption) ?_;with_reducible intro C hC) | (refine OnM.inK (by assumption) ?_;with_reducible intro C hC) | refine OnM.skip ?_));(refine And.intro (by rw [ty_57]) ?_);(with_reducible intro rI);refine s_found1_dc ?_)
  | ((refine DOp.entrym_ rfl rfl ?_);(repeat (with_reducible first | refine OnG.here ?_ | refine OnG.next ?_ | refine OnG.skip ?_));(refine ⟨_,rfl,?_⟩);refine s_found1_dc ?_)
  | ((refine DOp.nextm_ (t:=0) rfl rfl ?_);(repeat (with_reducible first | refine OnG.here ?_ | refine OnG.next ?_ | refine OnG.skip ?_));(refine both_ent (fun A x C hL=>?_) (fun hL=>?_))<;>(subst hL)<;>(refine s_found1_dc ?_))
  | ((with_reducible apply DW.unitE (r:=rI));(repeat (with_reducible first | refine Out.here ?_ | refine Out.next ?_ | refine Out.skip ?_));(with_reducible refine DW_id ?_))
  | ((refine DOp.look_ rfl rfl ?_);(repeat (with_reducible first | refine OnM.here ?_ | refine OnM.next ?_ | (refine OnM.inN (by assumption) ?_;with_reducible intro C hC) | (refine OnM.inK (by assumption) ?_;with_reducible intro C hC) | refine OnM.skip ?_));refine s_found1_dc ?_)
  | ((refine DOp.upd_ rfl rfl ?_);(repeat (with_reducible first | refine OnM.here ?_ | refine OnM.next ?_ | (refine OnM.inN (by assumption) ?_;with_reducible intro C hC) | (refine OnM.inK (by assumption) ?_;with_reducible intro C hC) | refine OnM.skip ?_));refine s_found1_dc ?_)
  | ((with_reducible refine DW.loopB 0 (X:=IM×IM×VM) (fun x=>(keyNd x.1/\keyNd x.2.1)/\∀ k,mx (lookA k x.2.1) (lookA k x.1)=mx (lookA k out) (lookA k nd.keys)) (fun x=>[(1, .raw (.map (some o))),(14, .raw (.pointer (some ⟨rI,0,none⟩)))]) (fun x=>[.map o (entM V.str (V.int .i64) x.2.1), .miter rI nd.km (entM V.str (V.int .i64) nd.keys) (entM V.str (V.int .i64) x.1) x.2.2]) (fun x=>x.1.length) ((nd.keys,out,[])) ?_ ?_ ?_);exact (⟨⟨hk,ho⟩,fun _=>rfl⟩);(simp [Sub,get,keepL]<;>fail);(try simp only [List.cons_append,List.nil_append]);refine pl_ ?_;intro ⟨Lf,o2,cur⟩ ⟨⟨hn1,hn2⟩,hmx⟩;(try simp only [List.cons_append,List.nil_append]);try simp only at hn1 hn2 hmx)
  | refine g_ ?_
  | ((with_reducible refine And.intro ?_ ?_);(exact sv))
  | (refine DW.cond (by rfl) ?_ ?_<;>(first | exact i0_ | (intro hb;(try simp only [↓reduceCtorEq,not_true_eq_false,not_false_eq_true,hbs,Int.reduceBEq,Int.reduceBNe,Int.reduceEq] at hb);(try refine s_found1_dc ?_))))
  | ((with_reducible refine FVg_cases ?_ ?_)<;>(intro hb;rw [hb];revert hb;(first | exact i0_ | (intro hb;(try simp only [↓reduceCtorEq,not_true_eq_false,not_false_eq_true,hbs,Int.reduceBEq,Int.reduceBNe,Int.reduceEq] at hb);(try refine s_found1_dc ?_)))))
  | ((refine Both.imp ?_ ?_)<;>(first | exact i0_ | (intro hb;(try simp only [↓reduceCtorEq,not_true_eq_false,not_false_eq_true,hbs,Int.reduceBEq,Int.reduceBNe,Int.reduceEq] at hb);(try refine s_found1_dc ?_))))
  | ((first | refine rn_ ?_ | refine kn_ ?_)<;>(refine s_found1_dc ?_))
  | ((first | (refine DOp.look_ rfl rfl ?_;(repeat (with_reducible first | refine OnM.here ?_ | refine OnM.next ?_))) | (refine DOp.upd_ rfl rfl ?_;(repeat (with_reducible first | refine OnM.here ?_ | refine OnM.next ?_))) | (refine DOp.rangem_ rfl rfl ?_;(repeat (with_reducible first | refine OnM.here ?_ | refine OnM.next ?_))) | (refine DOp.nextm_ (t:=0) rfl rfl ?_;(repeat (with_reducible first | refine OnG.here ?_ | refine OnG.next ?_))) | (refine DOp.entrym_ rfl rfl ?_;(repeat (with_reducible first | refine OnG.here ?_ | refine OnG.next ?_))))<;>(refine s_found1_dc ?_))
  | ((refine on_ ?_);refine s_found1_dc ?_)
  | refine f_ ?_
  | with_reducible intro b)
 all_goals first
 | (refine ⟨_,_,le.rfl_,⟨o2,hn2,fun k=>by have:=hmx k;rw [show lookA k ([]:IM)=none from rfl,mx_none] at this;exact this,rfl,rfl⟩,?_⟩;(refine SubP.pick ?_);(repeat (with_reducible first | refine Out.here ?_ | refine Out.next ?_ | refine Out.skip ?_));(refine SubP.closeH ?_);(unfold Nd.own;simp only [List.cons_append,List.nil_append]);(exact sub_);done)
 | (refine ⟨(A++C,updA x.1 x.2 o2,[(.str x.1, .int .i64 x.2)]),⟨⟨nd_mid hn1,updA_nodup hn2⟩,kept_upd hn1 hmx (mx_new (.inl (by assumption)))⟩,by (try simp only);simp only [List.length_append,List.length_cons];omega,by simp [Sub,get],?_⟩;((try dsimp only);(exact sub_));done)
 | (refine ⟨(A++C,updA x.1 x.2 o2,[(.str x.1, .int .i64 x.2)]),⟨⟨nd_mid hn1,updA_nodup hn2⟩,kept_upd hn1 hmx (mx_new (.inr (by assumption)))⟩,by (try simp only);simp only [List.length_append,List.length_cons];omega,by simp [Sub,get],?_⟩;((try dsimp only);(exact sub_));done)
 | (refine ⟨(A++C,o2,[(.str x.1, .int .i64 x.2)]),⟨⟨nd_mid hn1,hn2⟩,kept_same hn1 hmx (mx_old (by assumption) (Int.not_lt.2 (by assumption)))⟩,by (try simp only);simp only [List.length_append,List.length_cons];omega,by simp [Sub,get],?_⟩;((try dsimp only);(exact sub_));done)
 | (trace_state;fail)
end
theorem found_dc (ob:Option Nat) (o:Nat) (out:IM) (h:List Nd) (F:Own):((∀ b,ob=some b->∃ x,fnd h b=some x/\keyNd x.keys)/\keyNd out)->DC Tryd.prog 43 [(ob.map pv).getD (.raw (.pointer none)), .raw (.map (some o))] ((.map o (entM V.str (V.int .i64) out)::(ownH h++[]))++F) fun d G=>∃ out':IM,keyNd out'/\(∀ k,lookA k out'=mx (lookA k out) (vals h ob k))/\d = .tup []/\G = .map o (entM V.str (V.int .i64) out')::(ownH h++F):=fun ⟨h1,h2⟩=>by
 cases ob with
 | none =>
  refine (found0_dc o ((.map o (entM V.str (V.int .i64) out)::(ownH h++[]))++F) trivial).mono fun d G hd=>?_
  obtain ⟨rfl,rfl⟩:=hd
  exact ⟨out,h2,fun k=>(mx_none _).symm,rfl,by simp only [List.nil_append,List.cons_append,List.append_assoc]⟩
 | some b =>
  obtain ⟨x,hx,hk⟩:=h1 b rfl
  refine (found1_dc b o out h x F ⟨hx,hk,h2⟩).mono fun d G hd=>?_
  obtain ⟨out',g1,g2,g3⟩:=hd
  exact ⟨out',g1,fun k=>by rw [g2];unfold vals;simp only [Option.bind_some,hx],g3⟩
end
end Go.Proofs.YtifdpbghkccaoaaDoor
