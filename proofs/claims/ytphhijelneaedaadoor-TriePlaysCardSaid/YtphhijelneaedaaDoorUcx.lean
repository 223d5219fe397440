/- The trie: any script comes to the document's (contracts). -/
import Derived.Test.YtphhijelneaedaaDoorUax
import Derived.KernelRfl
namespace Go.Proofs.YtphhijelneaedaaDoor
open Go.RowKit
set_option linter.unusedSimpArgs false
set_option linter.unusedVariables false
set_option linter.unusedSectionVars false
set_option maxHeartbeats 4000000
set_option maxRecDepth 100000
section
def kyF_:List Str:=[[107],[106],[195,169],[],[107,50]]
def kyF (k:Int):Str:=kyF_.getD (k.tmod 5).toNat default
theorem kyF_at {k:Int} (h:0<=k):([.str [107], .str [106], .str [195,169], .str [], .str [107,50]]:List V).getD (k.tmod 5).toNat .any = .str (kyF k):=by
 have q0:=Int.tmod_nonneg 5 h;have q1:=Int.tmod_lt_of_pos k (show (0:Int)<5 by decide)
 unfold kyF
 generalize hj:(k.tmod 5).toNat=j
 have hj5:j<5:=by omega
 match j,hj5 with
 | 0,_=>rfl
 | 1,_=>rfl
 | 2,_=>rfl
 | 3,_=>rfl
 | 4,_=>rfl
theorem kyF_len (k:Int):(kyF k).length<=1000:=by
 have key:∀ f∈kyF_,f.length<=1000:=by decide +kernel
 unfold kyF
 by_cases h:(k.tmod 5).toNat<kyF_.length
 · exact key _ (getD_in h)
 · rw [List.getD_eq_getElem?_getD,List.getElem?_eq_none (by omega)];decide
theorem putL_len (L:TL) (f k:Str) (q:Int):(putL L f k q).length<=L.length+1:=by
 unfold putL;split
 · exact upd_len1
 · omega
theorem fl_small {s:TS} (h:TOK s):∀ e∈s.L,e.1.1.length<=65535:=fun e he=>(filterB_len (h.fl e he)).2
theorem DW.own0T (id:Nat) {ops:Array Oper} {dr:Bool} {P:Program} {n:Nat} {Q:Exit->Env->Own->Prop} {e:Env} {H F:Own} (b:Nat) {L:TL} (hL:L=[]) (hq:Pulled H [.blk b [.gs (.slice none 0 0) []]] F)
  (h:DW P n (.region id ops dr) Q e (.arr 3 (.slice none 0 0) (cells (L.map encP)) :: .blk b [.ar (.slice none 0 0) L.length]::F)):DW P n (.region id ops dr) Q e H:=by
 subst hL;exact DW.own0P 3 b 0 hq rfl h
theorem rmatX_dc (w:Nat) (v:Value) (L:TL) (n:Str) (F:Own):(L.length<=1000/\(∀ e∈L,e.1.1.length<=65535)/\n.length<=1000)->DC Tryd.prog 20 [.raw (.pointer (some ⟨w,0,none⟩)), .str n] ([.blk w [.ar v L.length], .arr 3 v (cells (L.map encP))]++F) fun d G=>d = .sl ((matchL L n).map encHit)/\G=[.blk w [.ar v L.length], .arr 3 v (cells (L.map encP))]++F:=fun ⟨h1,h2,h3⟩=>by
 refine (DC.frzX (F:=[.blk w [.ar v L.length], .arr 3 v (cells (L.map encP))]++F) (X:=HL) (Q:=fun x=>x=matchL L n) (sz:=2) (l:=fun x=>x.map encHit) (by decide) (fun x=>hit_n x) ((rmatT_dc w v L n F ⟨by omega,h2,by omega⟩).mono fun d G hd=>?_)).mono fun d G hd=>?_
 · obtain ⟨u,h4,h5⟩:=hd
   exact ⟨u,_,by rw [List.length_map];exact h4,rfl,h5⟩
 · obtain ⟨x,rfl,h4,h5⟩:=hd
   exact ⟨h4,h5⟩
theorem strsE_dc (l:List Str) (F:Own):l.length<=1000->DC Tryd.prog 13 [.sl (l.map V.str), .sl (l.map V.str)] (([]:Own)++F) fun d G=>d = .bool true/\G=[]++F:=fun h=>by
 have:=strsH_dc l l F ⟨by omega,by omega⟩
 rw [decide_eq_true rfl] at this;exact this
end
section
attribute [local irreducible] DW SeqD DV DOp DC DVX ownT filT topT kyF matchL filtersL keysL putL dropA wasL hadL encP
theorem sv_triePlays_dc {p:Prop} (h:p:=by first | exact sv | (refine ⟨hs,?_,?_,?_⟩<;>omega) | (refine ⟨hs,?_,?_⟩<;>omega) | (refine ⟨hs2,?_,?_⟩<;>(try rw [hL2])<;>omega) | (refine ⟨?_,fl_small hs,?_⟩<;>omega) | (refine ⟨hs,?_⟩;omega) | exact Nat.le_trans (keysL_len _ _) (by first | omega | (rw [hL2];omega)) | exact Nat.le_trans (filtersL_len _) (by omega) | fail):p:=h
theorem s_triePlays_dc {P Q:Prop} (q:Q) (h:Hid Q->P:=by (intro q;simp (maxSteps:=1000000) (disch:=omega) only [push_cast,↓reduceIte,reduceCtorEq,Nat.reduceAdd,Nat.reduceMul,Nat.reduceLT,Nat.reduceLeDiff,Nat.reduceEqDiff,Nat.reduceSub,Int.reduceToNat,Int.reduceLT,Int.reduceLE,Int.reduceAdd,Int.reduceSub,Int.reduceMul,Int.reduceNeg,Nat.reduceBEq,Int.reduceBEq,Int.reduceBNe,Nat.reduceBNe,Int.reduceEq,encAct,encHit,kyF_at,hL2];exact q.1)):P:=h ⟨q⟩
section
attribute [local push_cast 2000] encAct encHit kyF_at
theorem triePlays_dc (m:Int) (l:List TAct) (nm:Str) (F:Own):(∀ a∈l,actR a)->DC Tryd.prog 3 [.sl (l.map encAct), .str nm] ([loose,knF,knA,knM m]++F) fun d G=>d = .bool true/\G=[loose,knF,knA,knM m]++F:=by
 intro hA
 have hl:=hA
 refine DC.bodyS (n_:=184) (show Tryd.prog.funcs[3]? = some Tryd.f3 by kernel_rfl) rfl rfl (by rfl) ?_
 simp only [env0,List.append_assoc,List.cons_append,List.nil_append]
 have kw:=ksIs [0,1,4,5,6,7,8,9,10,11,12,13,14,15,16,17,18,19,21,29,36,46,58,63,64,98,99,109,127,133,135,141,153,157,183]
 have ow:=ownIs [32]
 have dw12:=drIs 12 [] [1,2,5,8]
 have dw27:=drIs 27 [] [1,5,11,14,15]
 have dw43:=drIs 43 [] [4,9,16,21]
 have hL2:True:=trivial
 repeat' (first
  | ((fail_if_success (have zz:=hoj));(with_reducible apply DW.own0T 6 w hL1);(focus (with_reducible repeat (first | exact Pulled.nil | apply Pulled.cons | exact Took.here | apply Took.next | apply Took.skip)));(have hoj:True:=trivial))
  | ((with_reducible refine DW.loopB 0 (X:=Nat×TS×Value) (fun x=>x.1<=l.length/\TOK x.2.1/\x.2.1.L.length<=x.1) (fun x=>[(0, .sl (l.map encAct)),(1, .str nm),(5, .raw (.pointer (some ⟨t,0,none⟩))),(6, .raw (.pointer (some ⟨w,0,none⟩))),(7, .int .i64 x.1)]) (fun x=>.blk w [.ar x.2.2 x.2.1.L.length] :: .arr 3 x.2.2 (cells (x.2.1.L.map encP))::knF::knA::knM m::(ownT t x.2.1++[])) (fun x=>l.length - x.1) ((0,s1, .slice none 0 0)) ?_ ?_ ?_);exact (⟨Nat.zero_le _,hs1,by rw [hL1];exact Nat.le_refl _⟩);(simp [Sub,get,keepL]<;>fail);(try simp only [List.append_assoc,List.cons_append,List.nil_append]);refine pl_ ?_;intro ⟨i,s,v⟩ ⟨hi,hs,hn⟩;(try simp only [List.append_assoc,List.cons_append,List.nil_append]);(try simp only at hi hs hn);have hr:=act_r hl i;have hrw:=hr.1;have hrk:=hr.2.1;have hrf:=hr.2.2.1;have hrq:=hr.2.2.2;have q0:=Int.tmod_nonneg 3 hrq.1;have q1:=Int.tmod_lt_of_pos (l.getD i default).q (show (0:Int)<3 by decide);have q2:=Int.tmod_nonneg 5 hrk.1;have q3:=Int.tmod_lt_of_pos (l.getD i default).k (show (0:Int)<5 by decide);have q4:=Int.tmod_nonneg 8 hrw.1;have q5:=Int.tmod_lt_of_pos (l.getD i default).what (show (0:Int)<8 by decide);have hfl:=(filT_ok hrf.1).2;have hkl:=kyF_len (l.getD i default).k;have hp1:=putL_len s.L (filT (l.getD i default).f) (kyF (l.getD i default).k) ((l.getD i default).q.tmod 3);have hp2:=putL_len s.L (l.getD i default).s (kyF (l.getD i default).k) ((l.getD i default).q.tmod 3);have hd1:=drop_len1 (k:=(filT (l.getD i default).f,kyF (l.getD i default).k)) (l:=s.L);have hd2:=drop_len1 (k:=((l.getD i default).s,kyF (l.getD i default).k)) (l:=s.L))
  | ((with_reducible refine DW.loopB 3 (X:=Nat) (fun x=>x<=8) (fun x=>[(1, .str nm),(5, .raw (.pointer (some ⟨t,0,none⟩))),(6, .raw (.pointer (some ⟨w,0,none⟩))),(15, .int .u8 x)]) (fun x=>([]:Own)) (fun x=>8 - x) (0) ?_ ?_ ?_);exact (Nat.zero_le _);(simp [Sub,get,keepL]<;>fail);(try simp only [List.append_assoc,List.cons_append,List.nil_append]);refine pl_ ?_;intro j hj;(try simp only [List.append_assoc,List.cons_append,List.nil_append]);(try simp only at hj);have htl:=topT_ok (show (0:Int)<=j by omega))
  | ((with_reducible refine DW.loopB 5 (X:=Nat) (fun x=>x<=(matchL s.L (topT j)).length) (fun x=>[(1, .str nm),(5, .raw (.pointer (some ⟨t,0,none⟩))),(6, .raw (.pointer (some ⟨w,0,none⟩))),(15, .int .u8 j),(17, .sl ((matchL s.L (topT j)).map encHit)),(18, .sl ((matchL s.L (topT j)).map encHit)),(19, .int .i64 x)]) (fun x=>([]:Own)) (fun x=>(matchL s.L (topT j)).length - x) (0) ?_ ?_ ?_);exact (Nat.zero_le _);(simp [Sub,get,keepL]<;>fail);(try simp only [List.append_assoc,List.cons_append,List.nil_append]);refine pl_ ?_;intro k hk;(try simp only [List.append_assoc,List.cons_append,List.nil_append]);(try simp only at hk);have hml:=matchL_len s.L (topT j))
  | ((with_reducible refine DW.loopB 5 (X:=Nat) (fun x=>x<=(matchL s.L nm).length) (fun x=>[(1, .str nm),(5, .raw (.pointer (some ⟨t,0,none⟩))),(6, .raw (.pointer (some ⟨w,0,none⟩))),(15, .int .u8 j),(17, .sl ((matchL s.L nm).map encHit)),(18, .sl ((matchL s.L nm).map encHit)),(19, .int .i64 x)]) (fun x=>([]:Own)) (fun x=>(matchL s.L nm).length - x) (0) ?_ ?_ ?_);exact (Nat.zero_le _);(simp [Sub,get,keepL]<;>fail);(try simp only [List.append_assoc,List.cons_append,List.nil_append]);refine pl_ ?_;intro k hk;(try simp only [List.append_assoc,List.cons_append,List.nil_append]);(try simp only at hk);have hml:=matchL_len s.L nm)
  | refine g_ ?_
  | ((with_reducible refine And.intro ?_ ?_);(exact sv_triePlays_dc))
  | (refine DW.cond (by rfl) ?_ ?_<;>(first | exact i0_ | (intro hb;(try simp only [↓reduceCtorEq,not_true_eq_false,not_false_eq_true,hbs,Int.reduceBEq,Int.reduceBNe,Int.reduceEq] at hb);(try refine s_triePlays_dc ?_))))
  | ((with_reducible first | refine FVg_cases ?_ ?_ | refine FDg_cases ?_ ?_)<;>(intro hb;rw [hb];revert hb;(first | exact i0_ | (intro hb;(try simp only [↓reduceCtorEq,not_true_eq_false,not_false_eq_true,hbs,Int.reduceBEq,Int.reduceBNe,Int.reduceEq] at hb);(try refine s_triePlays_dc ?_)))))
  | ((first | refine rn_ ?_ | refine dn_ ?_ | refine kn_ ?_)<;>(refine s_triePlays_dc ?_))
  | ((refine dm_ ?_);(first | ((first | refine v_ (known7_dc _ _) ?_ (ha:=by exact sv_triePlays_dc) (hk:=fun q=>q.1) | refine v_ (fil7_dc _ _) ?_ (ha:=by exact sv_triePlays_dc) (hk:=fun q=>q.1) | refine v_ (top7_dc _ _) ?_ (ha:=by exact sv_triePlays_dc) (hk:=fun q=>q.1) | refine v_ (tlen_dc _ _ _) ?_ (ha:=by exact sv_triePlays_dc) (hk:=fun q=>q.1) | refine v_ (tkeys_dc _ _ _ _ _) ?_ (ha:=by exact sv_triePlays_dc) (hk:=fun q=>q.1) | refine v_ (rkeys_dc _ _ _ _ _) ?_ (ha:=by exact sv_triePlays_dc) (hk:=fun q=>q.1) | refine v_ (tfil_dc _ _ _) ?_ (ha:=by exact sv_triePlays_dc) (hk:=fun q=>q.1) | refine v_ (rfils_dc _ _ _ _) ?_ (ha:=by exact sv_triePlays_dc) (hk:=fun q=>q.1) | refine v_ (strsE_dc _ _) ?_ (ha:=by exact sv_triePlays_dc) (hk:=fun q=>q.1) | refine v_ (tmatchT_dc _ _ _ _ _) ?_ (ha:=by exact sv_triePlays_dc) (hk:=fun q=>q.1) | refine v_ (rmatX_dc _ _ _ _ _) ?_ (ha:=by exact sv_triePlays_dc) (hk:=fun q=>q.1));refine s_triePlays_dc ?_)))
  | ((refine von_ ?_);refine s_triePlays_dc ?_)
  | ((first | refine q_ (known7_dc _ _) ?_ (ha:=by exact sv_triePlays_dc) (hk:=fun q=>q.1) | refine q_ (fil7_dc _ _) ?_ (ha:=by exact sv_triePlays_dc) (hk:=fun q=>q.1) | refine q_ (top7_dc _ _) ?_ (ha:=by exact sv_triePlays_dc) (hk:=fun q=>q.1) | refine q_ (tlen_dc _ _ _) ?_ (ha:=by exact sv_triePlays_dc) (hk:=fun q=>q.1) | refine q_ (tkeys_dc _ _ _ _ _) ?_ (ha:=by exact sv_triePlays_dc) (hk:=fun q=>q.1) | refine q_ (rkeys_dc _ _ _ _ _) ?_ (ha:=by exact sv_triePlays_dc) (hk:=fun q=>q.1) | refine q_ (tfil_dc _ _ _) ?_ (ha:=by exact sv_triePlays_dc) (hk:=fun q=>q.1) | refine q_ (rfils_dc _ _ _ _) ?_ (ha:=by exact sv_triePlays_dc) (hk:=fun q=>q.1) | refine q_ (strsE_dc _ _) ?_ (ha:=by exact sv_triePlays_dc) (hk:=fun q=>q.1) | refine q_ (tmatchT_dc _ _ _ _ _) ?_ (ha:=by exact sv_triePlays_dc) (hk:=fun q=>q.1) | refine q_ (rmatX_dc _ _ _ _ _) ?_ (ha:=by exact sv_triePlays_dc) (hk:=fun q=>q.1));refine s_triePlays_dc ?_)
  | (refine p_ (newX_dc _) ?_ (ha:=by exact sv_triePlays_dc);rintro d H1 ⟨t,s1,⟨hs1,hL1⟩,rfl,rfl⟩<;>refine s_triePlays_dc ?_)
  | (refine p_ (put_dc _ _ _ _ _ _ _) ?_ (ha:=by exact sv_triePlays_dc);rintro d H1 ⟨s2,hs2,hL2,rfl,rfl⟩<;>refine s_triePlays_dc ?_)
  | ((first | refine p_ (rput_dc _ _ _ _ _ _ _) ?_ (ha:=by exact sv_triePlays_dc) | refine p_ (rdrop_dc _ _ _ _ _ _) ?_ (ha:=by exact sv_triePlays_dc));rintro d H1 ⟨v2,rfl,rfl⟩<;>refine s_triePlays_dc ?_)
  | (refine p_ (droptop_dc _ _ _ _ _ _) ?_ (ha:=by exact sv_triePlays_dc);rintro d H1 ⟨s2,⟨hs2,hL2⟩,rfl,rfl⟩<;>refine s_triePlays_dc ?_)
  | ((refine on_ ?_);refine s_triePlays_dc ?_)
  | refine f_ ?_
  | refine vm_ ?_
  | ((fail_if_success (have zz:=w));with_reducible intro w)
  | ((fail_if_success (have zz:=p1));with_reducible intro p1)
  | with_reducible intro b)
 all_goals first
 | ((first | exact fin_ | refine finq_ ?_);done)
 | (refine ⟨(i+1,s2,v2),⟨by (try simp only);omega,hs2,by (try simp only);rw [hL2];omega⟩,by (try simp only);omega,by simp [Sub,get],?_⟩;((try dsimp only);(try rw [hL2]);(exact sub_));done)
 | (refine ⟨(i+1,s,v),⟨by (try simp only);omega,hs,by (try simp only);omega⟩,by (try simp only);omega,by simp [Sub,get],?_⟩;((try dsimp only);(exact sub_));done)
 | (refine ⟨k+1,by omega,by omega,by simp [Sub,get],?_⟩;(exact sub_);done)
 | (refine ⟨j+1,by omega,by omega,by simp [Sub,get],?_⟩;(exact sub_);done)
 | (exfalso;omega)
 | (trace_state;fail)
end
end
end Go.Proofs.YtphhijelneaedaaDoor
