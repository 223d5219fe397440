/- Which cells are kept of two tables. -/
import Derived.Test.YtifdpbghkccaoaaGreatDoorHtx
import Derived.Test.YtifdpbghkccaoaaGreatDoorMnx
import Derived.Test.YtifdpbghkccaoaaGreatDoorEqx
import Derived.KernelRfl
namespace Go.Proofs.YtifdpbghkccaoaaGreatDoor
open Go.RowKit
set_option linter.unusedSimpArgs false
set_option linter.unusedVariables false
set_option linter.unusedSectionVars false
set_option maxHeartbeats 4000000
set_option maxRecDepth 100000
section
abbrev CMap:=List (Str×TCell)
abbrev VM:=List (V×V)
theorem updA_len {α β:Type} [DecidableEq α] (k:α) (v:β):∀ l:List (α×β),(updA k v l).length<=l.length+1
 | []=>by simp [updA]
 | x::m=>by
  have:=updA_len k v m
  unfold updA
  split<;>simp<;>omega
theorem entM_app {α β:Type} (ek:α->V) (ev:β->V) (A C:List (α×β)):entM ek ev A++entM ek ev C=entM ek ev (A++C):=(List.map_append ..).symm
theorem both_ent {α β:Type} {ek:α->V} {ev:β->V} {L:List (α×β)} {P:List (V×V)->V×V->List (V×V)->Prop} {Q:Prop} (h1:∀ A x C,L=A++x::C->P (entM ek ev A) (ek x.1,ev x.2) (entM ek ev C)) (h2:L=[]->Q):Both (∀ l1 y l2,entM ek ev L=l1++y::l2->P l1 y l2) (entM ek ev L=[]->Q):=⟨fun l1 y l2 e=>by
 unfold entM at e
 obtain ⟨A,r,rfl,rfl,h⟩:=List.map_eq_append_iff.1 e
 obtain ⟨x,C,rfl,rfl,rfl⟩:=List.map_eq_cons_iff.1 h
 exact h1 A x C rfl,fun e=>h2 (List.map_eq_nil_iff.1 e)⟩
def byTopic (ce:List TCell) (k:Nat):CMap:=(ce.take k).foldl (fun L c=>updA c.topic c L) []
theorem byTopic_0 (ce:List TCell):byTopic ce 0=[]:=rfl
theorem byTopic_s {ce:List TCell} {k:Nat} (h:k<ce.length):byTopic ce (k+1)=updA (ce.getD k default).topic (ce.getD k default) (byTopic ce k):=foldl_more _ _ h
def keptS (q:TTable) (st:CMap×List TCell) (c:TCell):CMap×List TCell:=(dropA c.topic st.1,match lookA c.topic st.1 with
 | some g=>st.2++[if newerM g c=true then g else c]
 | none=>if hasB q.seen c.dot=true then st.2 else st.2++[c])
def keptK (p q:TTable) (k:Nat):CMap×List TCell:=(p.cells.take k).foldl (keptS q) (byTopic q.cells q.cells.length,[])
theorem keptK_s {p q:TTable} {k:Nat} (h:k<p.cells.length):keptK p q (k+1)=keptS q (keptK p q k) (p.cells.getD k default):=foldl_more _ _ h
def kM (p q:TTable) (k:Nat):CMap:=(keptK p q k).1
def kR (p q:TTable) (k:Nat):List TCell:=(keptK p q k).2
theorem kM_0 (p q:TTable):kM p q 0=byTopic q.cells q.cells.length:=rfl
theorem kR_0 (p q:TTable):kR p q 0=[]:=rfl
section
variable {p q:TTable} {k:Nat} (h:k<p.cells.length)
include h
theorem kM_s:kM p q (k+1)=dropA (p.cells.getD k default).topic (kM p q k):=by unfold kM;rw [keptK_s h];rfl
theorem kR_1 {g:TCell} (hl:lookA (p.cells.getD k default).topic (kM p q k)=some g) (hn:newerM g (p.cells.getD k default)=true):kR p q (k+1)=kR p q k++[g]:=by
 unfold kM at hl;unfold kR;rw [keptK_s h,keptS,hl];simp only;rw [if_pos hn]
theorem kR_2 {g:TCell} (hl:lookA (p.cells.getD k default).topic (kM p q k)=some g) (hn:newerM g (p.cells.getD k default)=false):kR p q (k+1)=kR p q k++[p.cells.getD k default]:=by
 unfold kM at hl;unfold kR;rw [keptK_s h,keptS,hl];simp only;rw [if_neg (by rw [hn];simp)]
theorem kR_3 (hl:lookA (p.cells.getD k default).topic (kM p q k)=none) (hn:hasB q.seen (p.cells.getD k default).dot=true):kR p q (k+1)=kR p q k:=by
 unfold kM at hl;unfold kR;rw [keptK_s h,keptS,hl];simp only;rw [if_pos hn]
theorem kR_4 (hl:lookA (p.cells.getD k default).topic (kM p q k)=none) (hn:hasB q.seen (p.cells.getD k default).dot=false):kR p q (k+1)=kR p q k++[p.cells.getD k default]:=by
 unfold kM at hl;unfold kR;rw [keptK_s h,keptS,hl];simp only;rw [if_neg (by rw [hn];simp)]
end
theorem kR_len {p q:TTable}:∀ k,k<=p.cells.length->(kR p q k).length<=k
 | 0,_=>Nat.le_refl _
 | k+1,h=>by
  have:=kR_len (p:=p) (q:=q) k (by omega)
  unfold kR at *
  rw [keptK_s (by omega),keptS]
  simp only
  split
  · simp;omega
  · split
    · omega
    · simp;omega
theorem byTopic_len (ce:List TCell):∀ k,k<=ce.length->(byTopic ce k).length<=k
 | 0,_=>Nat.le_refl _
 | k+1,h=>by
  rw [byTopic_s (by omega)]
  have:=byTopic_len ce k (by omega)
  have hl:=updA_len (ce.getD k default).topic (ce.getD k default) (byTopic ce k)
  omega
theorem kM_len {p q:TTable}:∀ k,k<=p.cells.length->(kM p q k).length<=q.cells.length
 | 0,_=>byTopic_len q.cells q.cells.length (Nat.le_refl _)
 | k+1,h=>by rw [kM_s (by omega)];exact Nat.le_trans (dropA_sub.length_le) (kM_len k (by omega))
def restL (p:TTable) (M:CMap):List TCell:=(M.map (·.2)).filter fun c=>!hasB p.seen c.dot
theorem restL_0 (p:TTable):restL p []=[]:=rfl
theorem restL_y {p:TTable} {D:CMap} {x:Str×TCell} (h:hasB p.seen x.2.dot=true):restL p (D++[x])=restL p D:=by
 unfold restL;rw [List.map_append,List.filter_append];simp [h]
theorem restL_n {p:TTable} {D:CMap} {x:Str×TCell} (h:hasB p.seen x.2.dot=false):restL p (D++[x])=restL p D++[x.2]:=by
 unfold restL;rw [List.map_append,List.filter_append];simp [h]
theorem restL_len (p:TTable) (D:CMap):(restL p D).length<=D.length:=by
 unfold restL;exact Nat.le_trans (List.length_filter_le _ _) (by simp)
def keptAll (p q:TTable) (D:CMap):List TCell:=kR p q p.cells.length++restL p D
theorem keptAll_0 (p q:TTable):keptAll p q []=kR p q p.cells.length:=by unfold keptAll;rw [restL_0,List.append_nil]
theorem keptAll_len {p q:TTable} {D L:CMap} (h:(D++L).Perm (kM p q p.cells.length)):(keptAll p q D).length<=p.cells.length+q.cells.length:=by
 have h1:=h.length_eq
 have h2:=kM_len (p:=p) (q:=q) p.cells.length (Nat.le_refl _)
 have h3:=kR_len (p:=p) (q:=q) p.cells.length (Nat.le_refl _)
 have h4:=restL_len p D
 unfold keptAll
 rw [List.length_append] at *
 omega
theorem perm_move {A C D:CMap} {x:Str×TCell} {M:CMap} (h:(D++(A++x::C)).Perm M):((D++[x])++(A++C)).Perm M:=by
 refine List.Perm.trans ?_ h
 rw [List.append_assoc]
 exact List.Perm.append_left D (show (x::(A++C)).Perm (A++x::C) from List.perm_middle.symm)
theorem cells1 (R:List TCell) (c:TCell):cells ((R++[c]).map encCell)=cells (R.map encCell)++[.int .i64 c.dot.node, .int .i64 c.dot.epoch, .int .i64 c.dot.n, .int .i64 c.stamp.l, .int .i64 c.stamp.c, .int .i64 c.stamp.node, .str c.topic, .sl (c.payload.map u8), .int .i64 c.qos, .bool c.gone]:=by
 rw [List.map_append,cells_append];rfl
theorem cell_opt (o:Option TCell):o=none\/∃ g,o=some g:=by cases o with
 | none=>exact .inl rfl
 | some g=>exact .inr ⟨g,rfl⟩
theorem upd_strC (a:Str) (c1 c2 c3 c4 c5 c6:Int) (c7 c8:Str) (c9:Int) (c10:Bool) (l:CMap):updV (.str a) (.agg [.int .i64 c1, .int .i64 c2, .int .i64 c3, .int .i64 c4, .int .i64 c5, .int .i64 c6, .str c7, .sl (c8.map u8), .int .i64 c9, .bool c10]) (entM V.str encCell l)=entM V.str encCell (updA a ⟨⟨c1,c2,c3⟩,⟨c4,c5,c6⟩,c7,c8,c9,c10⟩ l):=upd_str (ev:=encCell) a ⟨⟨c1,c2,c3⟩,⟨c4,c5,c6⟩,c7,c8,c9,c10⟩ l
theorem some_mapC {α β:Type} (f:α->β) (x:α):(some x).map f=some (f x):=rfl
theorem none_mapC {α β:Type} (f:α->β):(none:Option α).map f=none:=rfl
attribute [local irreducible] DW SeqD DV DOp DC DVX DVJ byTopic kM kR restL keptAll hasB newerM
theorem sv_kept_dc {p:Prop} (h:p:=by first | exact sv | exact ⟨rfl,by omega⟩ | fail):p:=h
theorem s_kept_dc {P Q:Prop} (q:Q) (h:Hid Q->P:=by (intro q;simp (maxSteps:=1000000) (disch:=omega) only [push_cast,↓reduceIte,reduceCtorEq,Nat.reduceAdd,Nat.reduceMul,Nat.reduceLT,Nat.reduceLeDiff,Nat.reduceEqDiff,Nat.reduceSub,Int.reduceToNat,Int.reduceLT,Int.reduceLE,Int.reduceAdd,Int.reduceSub,Int.reduceMul,Int.reduceNeg,Nat.reduceBEq,Int.reduceBEq,Int.reduceBNe,Nat.reduceBNe,Int.reduceEq,encCell,cell_eta,stamp_eta,dot_eta,hlk,look_nil,upd_nil,look_str,upd_str,drop_str,opt_bool,opt_int,opt_some,entM_nil,entM_len,look_dot,upd_dot,look_line,upd_line,keyS_63,keyS0_63,zeroD_68,keyS_80,keyS0_80,zeroD_4,keyS_81,keyS0_81,keyS_113,keyS0_113,zeroD_76,look_str,upd_strC,drop_str,entM_app,some_mapC,none_mapC,Option.getD_some,Option.getD_none,Option.isSome_some,Option.isSome_none];exact q.1)):P:=h ⟨q⟩
section
attribute [local push_cast 2000] encCell cell_eta stamp_eta dot_eta look_nil upd_nil look_str upd_str drop_str opt_bool opt_int opt_some entM_nil entM_len look_dot upd_dot look_line upd_line keyS_63 keyS0_63 zeroD_68 keyS_80 keyS0_80 zeroD_4 keyS_81 keyS0_81 keyS_113 keyS0_113 zeroD_76 upd_strC entM_app some_mapC none_mapC Option.getD_some Option.getD_none Option.isSome_some Option.isSome_none
theorem kept_dc (p q:TTable) (F:Own):(p.cells.length<=100000000/\q.cells.length<=100000000/\p.seen.length<=100000000/\q.seen.length<=100000000)->DC Tryz.prog 29 [.agg [.sl (p.seen.map encDot), .sl (p.fences.map encFence), .sl (p.routes.map encRoute), .sl (p.cells.map encCell)], .agg [.sl (q.seen.map encDot), .sl (q.fences.map encFence), .sl (q.routes.map encRoute), .sl (q.cells.map encCell)]] (([]:Own)++F) fun d G=>∃ (v:Value) (ce':List TCell),d = .ar v ce'.length/\(∃ D:CMap,D.Perm (kM p q p.cells.length)/\ce'.Perm (keptAll p q D))/\ce'.Pairwise (fun x y=>Op.bytesLess y.topic x.topic=false)/\G = .arr 10 v (cells (ce'.map encCell))::F:=by
 intro hA
 obtain ⟨hlp,hlq,hsp,hsq⟩:=hA
 refine DC.bodyS (n_:=90) (show Tryz.prog.funcs[29]? = some Tryz.f29 by kernel_rfl) rfl rfl (by rfl) ?_
 simp only [env0,byTopic_0,kM_0,kR_0,entM_nil,restL_0,keptAll_0,List.map_nil,cells_nil,List.cons_append,List.nil_append]
 have kw:=ksIs [0,1,2,3,4,5,7,8,10,11,12,14,17,18,19,20,29,30,31,32,45,56,72,74,82]
 have ow:=ownIs []
 have hlk:True:=trivial
 repeat' (first
  | ((refine DOp.rangem_ rfl rfl ?_);(repeat (with_reducible first | refine OnM.here ?_ | refine OnM.next ?_));(refine And.intro (by rw [ty_113]) ?_);(with_reducible intro rI);refine s_kept_dc ?_)
  | ((with_reducible apply DW.frzB 5 7);(focus (exact rfl));(repeat (with_reducible first | refine Out.here ?_ | refine Out.next ?_));simp only [put_cons,put_nil,Nat.reduceEqDiff,↓reduceIte,if_true,if_false,reduceCtorEq])
  | ((with_reducible apply DW.frzB 11 10);(focus (exact rfl));(repeat (with_reducible first | refine Out.here ?_ | refine Out.next ?_));simp only [put_cons,put_nil,Nat.reduceEqDiff,↓reduceIte,if_true,if_false,reduceCtorEq])
  | ((with_reducible apply DW.frzB 12 10);(focus (exact rfl));(repeat (with_reducible first | refine Out.here ?_ | refine Out.next ?_));simp only [put_cons,put_nil,Nat.reduceEqDiff,↓reduceIte,if_true,if_false,reduceCtorEq])
  | ((with_reducible apply DW.frzB 13 11);(focus (exact rfl));(repeat (with_reducible first | refine Out.here ?_ | refine Out.next ?_));simp only [put_cons,put_nil,Nat.reduceEqDiff,↓reduceIte,if_true,if_false,reduceCtorEq])
  | ((with_reducible apply DW.frzB 21 14);(focus (exact rfl));(repeat (with_reducible first | refine Out.here ?_ | refine Out.next ?_));simp only [put_cons,put_nil,Nat.reduceEqDiff,↓reduceIte,if_true,if_false,reduceCtorEq])
  | ((refine DOp.entrym_ rfl rfl ?_);(repeat (with_reducible first | refine OnG.here ?_ | refine OnG.next ?_));(refine ⟨_,rfl,?_⟩);refine s_kept_dc ?_)
  | ((refine DOp.nextm_ (t:=0) rfl rfl ?_);(repeat (with_reducible first | refine OnG.here ?_ | refine OnG.next ?_));(refine both_ent (fun A x C hL=>?_) (fun hL=>?_))<;>(subst hL)<;>(refine s_kept_dc ?_))
  | ((with_reducible refine DW.loopB 0 (X:=Nat) (fun x=>x<=q.cells.length) (fun x=>[(2, .sp [.sl (p.seen.map encDot), .sl (p.fences.map encFence), .sl (p.routes.map encRoute), .sl (p.cells.map encCell)]),(3, .sp [.sl (q.seen.map encDot), .sl (q.fences.map encFence), .sl (q.routes.map encRoute), .sl (q.cells.map encCell)]),(5, .raw (.map (some b1))),(17, .sl (q.cells.map encCell)),(18, .int .i64 q.cells.length),(19, .int .i64 x)]) (fun x=>[.map b1 (entM V.str encCell (byTopic q.cells x))]) (fun x=>q.cells.length - x) (0) ?_ ?_ ?_);exact (Nat.zero_le _);(simp [Sub,get,keepL]<;>fail);(try simp only [byTopic_0,kM_0,kR_0,entM_nil,restL_0,keptAll_0,List.map_nil,cells_nil,List.cons_append,List.nil_append]);refine pl_ ?_;intro k hk;(try simp only [byTopic_0,kM_0,kR_0,entM_nil,restL_0,keptAll_0,List.map_nil,cells_nil,List.cons_append,List.nil_append]))
  | ((have hkl:k=q.cells.length:=by omega);(subst hkl);(refine DW.own0 10 8 (by rfl) ?_);(simp only [put_cons,put_nil,Nat.reduceEqDiff,↓reduceIte,if_true,if_false,reduceCtorEq]);((with_reducible refine DW.loopB 2 (X:=Nat×Value) (fun x=>x.1<=p.cells.length) (fun x=>[(2, .sp [.sl (p.seen.map encDot), .sl (p.fences.map encFence), .sl (p.routes.map encRoute), .sl (p.cells.map encCell)]),(3, .sp [.sl (q.seen.map encDot), .sl (q.fences.map encFence), .sl (q.routes.map encRoute), .sl (q.cells.map encCell)]),(5, .raw (.map (some b1))),(8, .ar x.2 (kR p q x.1).length),(29, .sl (p.cells.map encCell)),(30, .int .i64 p.cells.length),(31, .int .i64 x.1)]) (fun x=>[.arr 10 x.2 (cells ((kR p q x.1).map encCell)), .map b1 (entM V.str encCell (kM p q x.1))]) (fun x=>p.cells.length - x.1) ((0, .slice none 0 0)) ?_ ?_ ?_);exact (Nat.zero_le _);(simp [Sub,get,keepL,kR_0]<;>fail);(try simp only [byTopic_0,kM_0,kR_0,entM_nil,restL_0,keptAll_0,List.map_nil,cells_nil,List.cons_append,List.nil_append]);refine pl_ ?_;intro ⟨k2,v⟩ hk2;(try simp only [byTopic_0,kM_0,kR_0,entM_nil,restL_0,keptAll_0,List.map_nil,cells_nil,List.cons_append,List.nil_append]);(try simp only at hk2);have hkr:=kR_len (p:=p) (q:=q) k2 hk2;rcases cell_opt (lookA (p.cells.getD k2 default).topic (kM p q k2)) with hlk | ⟨g,hlk⟩))
  | ((have hkl2:k2=p.cells.length:=by omega);(subst hkl2);((with_reducible refine DW.loopB 5 (X:=CMap×CMap×Value×VM) (fun x=>(x.2.1++x.1).Perm (kM p q p.cells.length)) (fun x=>[(2, .sp [.sl (p.seen.map encDot), .sl (p.fences.map encFence), .sl (p.routes.map encRoute), .sl (p.cells.map encCell)]),(8, .ar x.2.2.1 (keptAll p q x.2.1).length),(72, .raw (.pointer (some ⟨rI,0,none⟩)))]) (fun x=>[.arr 10 x.2.2.1 (cells ((keptAll p q x.2.1).map encCell)), .miter rI b1 (entM V.str encCell (kM p q p.cells.length)) (entM V.str encCell x.1) x.2.2.2]) (fun x=>x.1.length) ((kM p q p.cells.length,[],v,[])) ?_ ?_ ?_);exact (List.Perm.refl _);(simp [Sub,get,keepL,keptAll_0]<;>fail);(try simp only [byTopic_0,kM_0,kR_0,entM_nil,restL_0,keptAll_0,List.map_nil,cells_nil,List.cons_append,List.nil_append]);refine pl_ ?_;intro ⟨Lf,D,v2,cur⟩ hpm;(try simp only [byTopic_0,kM_0,kR_0,entM_nil,restL_0,keptAll_0,List.map_nil,cells_nil,List.cons_append,List.nil_append]);(try simp only at hpm);have hka:=keptAll_len hpm))
  | refine g_ ?_
  | ((with_reducible refine And.intro ?_ ?_);(exact sv_kept_dc))
  | (refine DW.cond (by rfl) ?_ ?_<;>(first | exact i0_ | (intro hb;(try simp only [↓reduceCtorEq,not_true_eq_false,not_false_eq_true,hbs,Int.reduceBEq,Int.reduceBNe,Int.reduceEq] at hb);(try refine s_kept_dc ?_))))
  | ((with_reducible refine FVg_cases ?_ ?_)<;>(intro hb;rw [hb];revert hb;(first | exact i0_ | (intro hb;(try simp only [↓reduceCtorEq,not_true_eq_false,not_false_eq_true,hbs,Int.reduceBEq,Int.reduceBNe,Int.reduceEq] at hb);(try refine s_kept_dc ?_)))))
  | ((refine Both.imp ?_ ?_)<;>(first | exact i0_ | (intro hb;(try simp only [↓reduceCtorEq,not_true_eq_false,not_false_eq_true,hbs,Int.reduceBEq,Int.reduceBNe,Int.reduceEq] at hb);(try refine s_kept_dc ?_))))
  | ((first | refine rn_ ?_ | refine kn_ ?_)<;>(refine s_kept_dc ?_))
  | ((first | (refine DOp.look_ rfl rfl ?_;(repeat (with_reducible first | refine OnM.here ?_ | refine OnM.next ?_))) | (refine DOp.upd_ rfl rfl ?_;(repeat (with_reducible first | refine OnM.here ?_ | refine OnM.next ?_))) | (refine DOp.lenm_ rfl rfl ?_;(repeat (with_reducible first | refine OnM.here ?_ | refine OnM.next ?_))) | (refine DOp.delm_ rfl rfl ?_;(repeat (with_reducible first | refine OnM.here ?_ | refine OnM.next ?_))) | (refine DOp.rangem_ rfl rfl ?_;(repeat (with_reducible first | refine OnM.here ?_ | refine OnM.next ?_))) | (refine DOp.nextm_ (t:=0) rfl rfl ?_;(repeat (with_reducible first | refine OnG.here ?_ | refine OnG.next ?_))) | (refine DOp.entrym_ rfl rfl ?_;(repeat (with_reducible first | refine OnG.here ?_ | refine OnG.next ?_))) | (refine DOp.app0a_ [8] rfl rfl rfl rfl (by intro h;cases h) ?_))<;>(refine s_kept_dc ?_))
  | ((first | refine q_ (pnewer_dc _ _ _ _ _ _ _ _ _ _ _ _ _ _ _ _ _ _ _ _ _) ?_ (ha:=by exact sv_kept_dc) (hk:=fun q=>q.1) | refine q_ (phas_dc _ _ _ _ _) ?_ (ha:=by exact sv_kept_dc) (hk:=fun q=>q.1));refine s_kept_dc ?_)
  | (refine p_ (sortC_dc _ _ _ _) ?_ (ha:=by exact sv_kept_dc);rintro d H1 ⟨ce',⟨hpm',hsr⟩,rfl,rfl⟩<;>refine s_kept_dc ?_)
  | ((refine on_ ?_);refine s_kept_dc ?_)
  | refine f_ ?_
  | ((fail_if_success (have zz:=b1));with_reducible intro b1)
  | with_reducible intro b)
 all_goals first
 | (refine ⟨k+1,by omega,by omega,by simp [Sub,get],?_⟩;(rw [byTopic_s (by omega)]);(exact sub_);done)
 | ((have e:=kR_1 (show k2<p.cells.length by omega) hlk (by first | assumption | omega))
    (have e2:=kM_s (q:=q) (show k2<p.cells.length by omega))
    refine ⟨(k2+1,b),by (try simp only);omega,by (try simp only);omega,?_,?_⟩;((try dsimp only);rw [e];simp [Sub,get]);((try dsimp only);rw [e,e2];(try rw [cells1]);(exact sub_));done)
 | ((have e:=kR_2 (show k2<p.cells.length by omega) hlk (by first | assumption | omega))
    (have e2:=kM_s (q:=q) (show k2<p.cells.length by omega))
    refine ⟨(k2+1,b),by (try simp only);omega,by (try simp only);omega,?_,?_⟩;((try dsimp only);rw [e];simp [Sub,get]);((try dsimp only);rw [e,e2];(try rw [cells1]);(exact sub_));done)
 | ((have e:=kR_3 (show k2<p.cells.length by omega) hlk (by first | assumption | omega))
    (have e2:=kM_s (q:=q) (show k2<p.cells.length by omega))
    refine ⟨(k2+1,v),by (try simp only);omega,by (try simp only);omega,?_,?_⟩;((try dsimp only);rw [e];simp [Sub,get]);((try dsimp only);rw [e,e2];(try rw [cells1]);(exact sub_));done)
 | ((have e:=kR_4 (show k2<p.cells.length by omega) hlk (by first | assumption | omega))
    (have e2:=kM_s (q:=q) (show k2<p.cells.length by omega))
    refine ⟨(k2+1,b),by (try simp only);omega,by (try simp only);omega,?_,?_⟩;((try dsimp only);rw [e];simp [Sub,get]);((try dsimp only);rw [e,e2];(try rw [cells1]);(exact sub_));done)
 | (rw [<-hpm'.length_eq]
    refine ⟨_,_,le.rfl_,⟨_,ce',rfl,⟨D,by simpa using hpm,hpm'⟩,hsr,rfl⟩,?_⟩;(exact sub_);done)
 | ((have e:keptAll p q (D++[x])=keptAll p q D:=by unfold keptAll;rw [restL_y (by assumption)];(try rw [List.append_assoc]))
    refine ⟨(A++C,D++[x],v2,[(.str x.1, .agg [.int .i64 x.2.dot.node, .int .i64 x.2.dot.epoch, .int .i64 x.2.dot.n, .int .i64 x.2.stamp.l, .int .i64 x.2.stamp.c, .int .i64 x.2.stamp.node, .str x.2.topic, .sl (x.2.payload.map u8), .int .i64 x.2.qos, .bool x.2.gone])]),perm_move hpm,by (try simp only);simp only [List.length_append,List.length_cons];omega,?_,?_⟩;((try dsimp only);rw [e];simp [Sub,get]);((try dsimp only);rw [e];(try rw [cells1]);(exact sub_));done)
 | ((have e:keptAll p q (D++[x])=keptAll p q D++[x.2]:=by unfold keptAll;rw [restL_n (by assumption)];(try rw [List.append_assoc]))
    refine ⟨(A++C,D++[x],b,[(.str x.1, .agg [.int .i64 x.2.dot.node, .int .i64 x.2.dot.epoch, .int .i64 x.2.dot.n, .int .i64 x.2.stamp.l, .int .i64 x.2.stamp.c, .int .i64 x.2.stamp.node, .str x.2.topic, .sl (x.2.payload.map u8), .int .i64 x.2.qos, .bool x.2.gone])]),perm_move hpm,by (try simp only);simp only [List.length_append,List.length_cons];omega,?_,?_⟩;((try dsimp only);rw [e];simp [Sub,get]);((try dsimp only);rw [e];(try rw [cells1]);(exact sub_));done)
 | (trace_state;fail)
end
end
end Go.Proofs.YtifdpbghkccaoaaGreatDoor
