/- The trie: the document's keys, filters. -/
import Derived.Test.YtphhijelneaedaaDoorTyx
import Derived.KernelRfl
namespace Go.Proofs.YtphhijelneaedaaDoor
open Go.RowKit
set_option linter.unusedSimpArgs false
set_option linter.unusedVariables false
set_option linter.unusedSectionVars false
set_option maxHeartbeats 4000000
set_option maxRecDepth 100000
section
def keysT (L:TL) (f:Str) (k:Nat):List Str:=keysL (L.take k) f
def filsT (L:TL) (k:Nat):List Str:=filtersL (L.take k)
section
variable {L:TL} {f:Str} {k:Nat}
theorem take_sL (h:k<L.length):L.take (k+1)=L.take k++[L.getD k default]:=by
 rw [List.take_add_one];simp [List.getD_eq_getElem?_getD,h]
theorem keysT_0 (L:TL) (f:Str):keysT L f 0=[]:=rfl
theorem filsT_0 (L:TL):filsT L 0=[]:=rfl
theorem keysT_s (h:k<L.length):keysT L f (k+1)=if (L.getD k default).1.1=f then intoS (keysT L f k) (L.getD k default).1.2 else keysT L f k:=by
 unfold keysT keysL;rw [take_sL h,List.foldl_append];rfl
theorem filsT_s (h:k<L.length):filsT L (k+1)=intoS (filsT L k) (L.getD k default).1.1:=by
 unfold filsT filtersL;rw [take_sL h,List.foldl_append];rfl
theorem keysT_e (L:TL) (f:Str):keysT L f L.length=keysL L f:=by unfold keysT;rw [List.take_length]
theorem filsT_e (L:TL):filsT L L.length=filtersL L:=by unfold filsT;rw [List.take_length]
theorem keysL_len (L:TL) (f:Str):(keysL L f).length<=L.length:=by
 have:=len_le (l:=keysL L f) (l':=L.map (·.1.2)) (up_nodup (keys_is L f).1) fun x hx=>by
  obtain ⟨e,he,h,h2⟩:=((keys_is L f).2 x).1 hx
  exact List.mem_map.2 ⟨e,he,h2⟩
 simpa using this
theorem keysT_len (L:TL) (f:Str) (k:Nat):(keysT L f k).length<=L.length:=Nat.le_trans (keysL_len _ f) (by rw [List.length_take];omega)
theorem filsT_len (L:TL) (k:Nat):(filsT L k).length<=L.length:=Nat.le_trans (filtersL_len _) (by rw [List.length_take];omega)
end
attribute [local irreducible] DW SeqD DV DOp DC DVX intoS keysT filsT
theorem sv_rkeys_dc {p:Prop} (h:p:=by first | exact sv | exact Nat.le_trans (keysT_len _ _ _) hl | fail):p:=h
section
attribute [local push_cast 2000] cells_p0 cells_p1 cells_p2 cells_pl
theorem rkeys_dc (w:Nat) (v:Value) (L:TL) (f:Str) (F:Own):(L.length<=1000000)->DC Tryd.prog 15 [.raw (.pointer (some ⟨w,0,none⟩)), .str f] ([.blk w [.ar v L.length], .arr 3 v (cells (L.map encP))]++F) fun d G=>d = .sl ((keysL L f).map V.str)/\G=[.blk w [.ar v L.length], .arr 3 v (cells (L.map encP))]++F:=by
 intro hA
 have hl:=hA
 refine DC.bodyS (n_:=37) (show Tryd.prog.funcs[15]? = some Tryd.f15 by kernel_rfl) rfl rfl (by rfl) ?_
 simp only [env0,List.cons_append,List.nil_append]
 have kw:=ksIs [0,1,4,5,6,13,25]
 have ow:=ownIs []
 repeat' (first
  | ((with_reducible apply DW.lesB 0 5);(focus (exact rfl));simp only [put_cons,put_nil,Nat.reduceEqDiff,↓reduceIte,if_true,if_false,reduceCtorEq])
  | ((with_reducible refine DW.loopB 0 (X:=Nat) (fun x=>x<=L.length) (fun x=>[(0, .raw (.pointer (some ⟨w,0,none⟩))),(1, .str f),(5, .sl ((keysT L f x).map V.str)),(6, .int .i64 x)]) (fun x=>.blk w [.ar v L.length] :: .arr 3 v (cells (L.map encP))::([]:Own)) (fun x=>L.length - x) (0) ?_ ?_ ?_);exact (Nat.zero_le _);(simp [Sub,get,keepL,keysT_0]<;>fail);(try simp only [List.cons_append,List.nil_append]);refine pl_ ?_;intro k hk;(try simp only [List.cons_append,List.nil_append]))
  | refine g_ ?_
  | ((with_reducible refine And.intro ?_ ?_);(exact sv_rkeys_dc))
  | (refine DW.cond (by rfl) ?_ ?_<;>(first | exact i0_ | (refine ic_ ?_;intro hb)))
  | ((with_reducible refine FVg_cases ?_ ?_)<;>(intro hb;rw [hb];revert hb;(first | exact i0_ | (refine i_ ?_;intro hb))))
  | refine r_ ?_
  | refine k_ ?_
  | (refine q_ (rinto_dc _ _ _) ?_ (ha:=by exact sv_rkeys_dc))
  | refine o_ ?_
  | refine f_ ?_
  | with_reducible intro b)
 all_goals first
 | (have e:=keysT_s (f:=f) (show k<L.length by omega)
    rw [if_pos hb] at e
    refine ⟨k+1,by omega,by omega,by simp [Sub,get,e],?_⟩;(exact sub_);done)
 | (have e:=keysT_s (f:=f) (show k<L.length by omega)
    rw [if_neg hb] at e
    refine ⟨k+1,by omega,by omega,by simp [Sub,get,e],?_⟩;(exact sub_);done)
 | (have hkl:k=L.length:=by omega
    subst hkl
    rw [keysT_e];(first | exact fin_ | refine finq_ ?_);done)
 | (trace_state;fail)
end
theorem sv_rfils_dc {p:Prop} (h:p:=by first | exact sv | exact Nat.le_trans (filsT_len _ _) hl | fail):p:=h
section
attribute [local push_cast 2000] cells_p0 cells_p1 cells_p2 cells_pl
theorem rfils_dc (w:Nat) (v:Value) (L:TL) (F:Own):(L.length<=1000000)->DC Tryd.prog 17 [.raw (.pointer (some ⟨w,0,none⟩))] ([.blk w [.ar v L.length], .arr 3 v (cells (L.map encP))]++F) fun d G=>d = .sl ((filtersL L).map V.str)/\G=[.blk w [.ar v L.length], .arr 3 v (cells (L.map encP))]++F:=by
 intro hA
 have hl:=hA
 refine DC.bodyS (n_:=25) (show Tryd.prog.funcs[17]? = some Tryd.f17 by kernel_rfl) rfl rfl (by rfl) ?_
 simp only [env0,List.cons_append,List.nil_append]
 have kw:=ksIs [0,2,3,4,11]
 have ow:=ownIs []
 repeat' (first
  | ((with_reducible apply DW.lesB 0 3);(focus (exact rfl));simp only [put_cons,put_nil,Nat.reduceEqDiff,↓reduceIte,if_true,if_false,reduceCtorEq])
  | ((with_reducible refine DW.loopB 0 (X:=Nat) (fun x=>x<=L.length) (fun x=>[(0, .raw (.pointer (some ⟨w,0,none⟩))),(3, .sl ((filsT L x).map V.str)),(4, .int .i64 x)]) (fun x=>.blk w [.ar v L.length] :: .arr 3 v (cells (L.map encP))::([]:Own)) (fun x=>L.length - x) (0) ?_ ?_ ?_);exact (Nat.zero_le _);(simp [Sub,get,keepL,filsT_0]<;>fail);(try simp only [List.cons_append,List.nil_append]);refine pl_ ?_;intro k hk;(try simp only [List.cons_append,List.nil_append]))
  | refine g_ ?_
  | ((with_reducible refine And.intro ?_ ?_);(exact sv_rfils_dc))
  | (refine DW.cond (by rfl) ?_ ?_<;>(first | exact i0_ | (refine ic_ ?_;intro hb)))
  | ((with_reducible refine FVg_cases ?_ ?_)<;>(intro hb;rw [hb];revert hb;(first | exact i0_ | (refine i_ ?_;intro hb))))
  | refine r_ ?_
  | refine k_ ?_
  | (refine q_ (rinto_dc _ _ _) ?_ (ha:=by exact sv_rfils_dc))
  | refine o_ ?_
  | refine f_ ?_
  | with_reducible intro b)
 all_goals first
 | (have e:=filsT_s (show k<L.length by omega)
    refine ⟨k+1,by omega,by omega,by simp [Sub,get,e],?_⟩;(exact sub_);done)
 | (have hkl:k=L.length:=by omega
    subst hkl
    rw [filsT_e];(first | exact fin_ | refine finq_ ?_);done)
 | (trace_state;fail)
end
end
section
abbrev HL:=List (Str×Int)
theorem hit_n (R:HL):∀ y∈R.map encHit,y.n=2:=fun y hy=>by obtain ⟨x,_,rfl⟩:=List.mem_map.1 hy;rfl
theorem cells_hl (R:HL):(cells (R.map encHit)).length=R.length * 2:=by rw [cells_len _ (hit_n R),List.length_map]
theorem cells_hk {R:HL} {k j:Nat} (h:k<R.length) (hj:j<2):(cells (R.map encHit)).getD (k * 2+j) .any=(encHit (R.getD k default)).cell j:=by
 rw [cells_at (sz:=2) _ k j (hit_n R) (by rw [List.length_map];exact h) hj]
 simp [List.getD_eq_getElem?_getD,h]
theorem cells_h0 {R:HL} {k:Nat} (h:k<R.length):(cells (R.map encHit)).getD (k * 2) .any = .str (R.getD k default).1:=cells_hk (j:=0) h (by decide)
theorem cells_h1 {R:HL} {k:Nat} (h:k<R.length):(cells (R.map encHit)).getD (k * 2+1) .any = .int .i64 (R.getD k default).2:=cells_hk (j:=1) h (by decide)
theorem cells_seth:∀ (R:HL) (k:Nat) (q:Int),k<R.length->layV (cells (R.map encHit)) (k * 2+1) [.int .i64 q]=cells ((R.set k ((R.getD k default).1,q)).map encHit)
 | [],k,q,h=>absurd h (Nat.not_lt_zero _)
 | d::l,0,q,_=>rfl
 | d::l,k+1,q,h=>by
  have:=cells_seth l k q (by simpa using h)
  rw [List.getD_cons_succ,List.set_cons_succ,List.map_cons,List.map_cons,cells_cons,cells_cons,<-this]
  have e:(k+1) * 2+1=(encHit d).cs.length+(k * 2+1):=by show _=2+_;omega
  rw [e,lay_app6]
theorem takeH (n:Nat) (R:HL):List.take n (R.map encHit)=(R.take n).map encHit:=List.map_take.symm
theorem dropH (n:Nat) (R:HL):List.drop n (R.map encHit)=(R.drop n).map encHit:=List.map_drop.symm
def altH (R:HL) (z:Str) (k:Nat):Prop:=∀ j,j<k->Op.bytesLess (R.getD j default).1 z=true
theorem altH_0 (R:HL) (z:Str):altH R z 0:=fun j h=>absurd h (Nat.not_lt_zero _)
theorem altH_s {R:HL} {z:Str} {k:Nat} (h:altH R z k) (e:Op.bytesLess (R.getD k default).1 z=true):altH R z (k+1):=fun j hj=>by
 rcases Nat.lt_or_eq_of_le (Nat.le_of_lt_succ hj) with h1 | rfl
 · exact h j h1
 · exact e
theorem twh_at {z:Str}:∀ {R:HL} {k:Nat},k<=R.length->altH R z k->(k=R.length\/Op.bytesLess (R.getD k default).1 z=false)->(R.takeWhile fun y=>decide (y.1<z))=R.take k/\(R.dropWhile fun y=>decide (y.1<z))=R.drop k
 | [],k,hk,_,_=>by simp
 | y::R,0,_,_,h=>by
  rcases h with h | h
  · cases h
  · have h2:decide (y.1<z)=false:=by rw [<-Go.Proofs.bytesLess_eq];exact h
    rw [List.takeWhile_cons,List.dropWhile_cons,h2];exact ⟨rfl,rfl⟩
 | y::R,k+1,hk,ha,h=>by
  have h2:decide (y.1<z)=true:=by rw [<-Go.Proofs.bytesLess_eq];exact ha 0 (Nat.succ_pos _)
  obtain ⟨e1,e2⟩:=twh_at (z:=z) (R:=R) (k:=k) (by simpa using hk) (fun j hj=>ha (j+1) (by omega)) (by
   rcases h with h | h
   · exact .inl (by simpa using h)
   · exact .inr h)
  rw [List.takeWhile_cons,List.dropWhile_cons,h2]
  exact ⟨by rw [if_pos rfl,e1];rfl,by rw [if_pos rfl,e2];rfl⟩
theorem intoH_new {R:HL} {z:Str} {q:Int} {k:Nat} (hk:k<=R.length) (ha:altH R z k) (hb:k=R.length\/Op.bytesLess (R.getD k default).1 z=false) (hne:k=R.length\/¬ (R.getD k default).1=z):intoH R z q=R.take k++[(z,q)]++R.drop k:=by
 obtain ⟨e1,e2⟩:=twh_at hk ha hb
 unfold intoH
 rw [e1,e2]
 rcases Nat.lt_or_eq_of_le hk with h | rfl
 · rw [List.drop_eq_getElem_cons h]
   have hne2:¬ R[k].1=z:=by
    rcases hne with h1 | h1
    · omega
    · rw [List.getD_eq_getElem?_getD,List.getElem?_eq_getElem h] at h1;exact h1
   show R.take k++(if R[k].1=z then _ else _)=_
   rw [if_neg hne2];simp
 · rw [List.drop_length];simp
theorem set_mid {α:Type} {R:List α} {k:Nat} {a:α} (h:k<R.length):R.set k a=R.take k++a::R.drop (k+1):=by
 rw [List.set_eq_take_append_cons_drop,if_pos h]
theorem intoH_old {R:HL} {z:Str} {q:Int} {k:Nat} (hk:k<R.length) (ha:altH R z k) (he:(R.getD k default).1=z):intoH R z q=R.set k ((R.getD k default).1,max (R.getD k default).2 q):=by
 have hb:Op.bytesLess (R.getD k default).1 z=false:=by rw [he,Go.Proofs.bytesLess_eq];exact decide_eq_false (List.lt_irrefl _)
 obtain ⟨e1,e2⟩:=twh_at (Nat.le_of_lt hk) ha (.inr hb)
 unfold intoH
 rw [e1,e2,set_mid hk,List.drop_eq_getElem_cons hk]
 rw [List.getD_eq_getElem?_getD,List.getElem?_eq_getElem hk] at he ⊢
 have he:R[k].1=z:=he
 show R.take k++(if R[k].1=z then _ else _)=_
 rw [if_pos he]
 first | rfl | (rw [<-he];rfl) | (subst he;rfl)
def matchT (L:TL) (n:Str) (k:Nat):HL:=matchL (L.take k) n
section
variable {L:TL} {n:Str} {k:Nat}
theorem matchT_0 (L:TL) (n:Str):matchT L n 0=[]:=rfl
theorem matchT_s (h:k<L.length):matchT L n (k+1)=if matchB (L.getD k default).1.1 n=true then intoH (matchT L n k) (L.getD k default).1.2 (L.getD k default).2 else matchT L n k:=by
 unfold matchT matchL;rw [take_sL h,List.foldl_append];rfl
theorem matchT_e (L:TL) (n:Str):matchT L n L.length=matchL L n:=by unfold matchT;rw [List.take_length]
theorem matchT_len (L:TL) (n:Str) (k:Nat):(matchT L n k).length<=L.length:=Nat.le_trans (matchL_len _ n) (by rw [List.length_take];omega)
end
theorem hit_len (R:HL) (z:Str) (q:Int) (k:Nat):(R.take k++[(z,q)]++R.drop k).length=min k R.length+1+(min R.length R.length - k):=by
 rw [List.length_append,List.length_append,List.length_take,List.length_drop,Nat.min_self];rfl
theorem hit_cells (R:HL) (z:Str) (q:Int) (k:Nat):cells ((R.take k++[(z,q)]++R.drop k).map encHit)=cells ((R.take k).map encHit)++V.str z::V.int .i64 q::cells ((List.drop k (List.take R.length R)).map encHit):=by
 rw [List.take_length,List.map_append,List.map_append,cells_append,cells_append,List.append_assoc];rfl
attribute [local irreducible] DW SeqD DV DOp DC DVX intoH matchT matchB
theorem sv_rmatT_dc {p:Prop} (h:p:=by first | exact sv | exact ⟨hfl (by omega),hn⟩ | ((repeat (first | refine And.intro ?_ ?_ | (exact fun _ _=>rfl) | (exact fun _ _=>⟨rfl,rfl⟩) | exact hit_app _ _ _ | omega));done) | ((repeat (first | exact List.mem_cons_self | apply List.mem_cons_of_mem));done) | fail):p:=h
section
attribute [local push_cast 2000] encHit cells_p cells_p0 cells_p1 cells_p2 cells_pl cells_h0 cells_h1 cells_hl cells_seth takeH dropH List.length_take List.length_drop
theorem rmatT_dc (w:Nat) (v:Value) (L:TL) (n:Str) (F:Own):(L.length<=1000000/\(∀ e∈L,e.1.1.length<=65535)/\n.length<=65535)->DC Tryd.prog 20 [.raw (.pointer (some ⟨w,0,none⟩)), .str n] ([.blk w [.ar v L.length], .arr 3 v (cells (L.map encP))]++F) fun d G=>∃ u,d = .ar u (matchL L n).length/\G = .arr 2 u (cells ((matchL L n).map encHit))::([.blk w [.ar v L.length], .arr 3 v (cells (L.map encP))]++F):=by
 intro hA
 obtain ⟨hl,hL,hn⟩:=hA
 refine DC.bodyS (n_:=88) (show Tryd.prog.funcs[20]? = some Tryd.f20 by kernel_rfl) rfl rfl (by rfl) ?_
 simp only [env0,matchT_0,List.map_nil,cells_nil,List.cons_append,List.nil_append]
 have kw:=ksIs [0,1,4,5,6,7,8,15,29,43,59]
 have ow:=ownIs []
 have dw8:=drIs 8 [] [9,11]
 have dw10:=drIs 10 [] [9,11]
 have dw11:=drIs 11 [12] [6,8]
 repeat' (first
  | ((with_reducible apply DW.frzR 12 u);(repeat (with_reducible first | refine OnA.here ?_ | refine OnA.next ?_));refine ⟨rfl,by decide,(hit_n _),?_,?_⟩;(repeat (first | exact CvE.nil | apply CvE.cons (Cv.hit _) | apply CvE.cons (Cv.rfl _))))
  | ((refine DW.own0 2 5 (by rfl) ?_);(simp only [put_cons,put_nil,Nat.reduceEqDiff,↓reduceIte,if_true,if_false,reduceCtorEq]);((with_reducible refine DW.loopB 0 (X:=Nat×Value) (fun x=>x.1<=L.length) (fun x=>[(0, .raw (.pointer (some ⟨w,0,none⟩))),(1, .str n),(5, .ar x.2 (matchT L n x.1).length),(6, .int .i64 x.1)]) (fun x=>.arr 2 x.2 (cells ((matchT L n x.1).map encHit)) :: .blk w [.ar v L.length] :: .arr 3 v (cells (L.map encP))::([]:Own)) (fun x=>L.length - x.1) ((0, .slice none 0 0)) ?_ ?_ ?_);exact (Nat.zero_le _);(simp [Sub,get,keepL,matchT_0]<;>fail);(try simp only [matchT_0,List.map_nil,cells_nil,List.cons_append,List.nil_append]);refine pl_ ?_;intro ⟨i,u⟩ hi;(try simp only [matchT_0,List.map_nil,cells_nil,List.cons_append,List.nil_append]);(try simp only at hi);(have hml:=matchT_len L n i);(have hfl:i<L.length->(L.getD i default).1.1.length<=65535:=fun h=>hL _ (getD_in h))))
  | ((with_reducible refine DW.loopB 2 (X:=Nat) (fun x=>x<=(matchT L n i).length/\altH (matchT L n i) (L.getD i default).1.2 x) (fun x=>[(0, .raw (.pointer (some ⟨w,0,none⟩))),(1, .str n),(5, .ar u (matchT L n i).length),(6, .int .i64 i),(7, .raw (.pointer (some ⟨p1,0,none⟩))),(8, .int .i64 x)]) (fun x=>.blk p1 [.str (L.getD i default).1.1, .str (L.getD i default).1.2, .int .i64 (L.getD i default).2] :: .arr 2 u (cells ((matchT L n i).map encHit))::([]:Own)) (fun x=>(matchT L n i).length - x) (0) ?_ ?_ ?_);exact (⟨Nat.zero_le _,altH_0 _ _⟩);(simp [Sub,get,keepL]<;>fail);(try simp only [matchT_0,List.map_nil,cells_nil,List.cons_append,List.nil_append]);refine pl_ ?_;intro k ⟨hk,ha⟩;(try simp only [matchT_0,List.map_nil,cells_nil,List.cons_append,List.nil_append]))
  | refine g_ ?_
  | ((with_reducible refine And.intro ?_ ?_);(exact sv_rmatT_dc))
  | (refine DW.cond (by rfl) ?_ ?_<;>(first | exact i0_ | (refine ic_ ?_;intro hb)))
  | ((with_reducible first | refine FVg_cases ?_ ?_ | refine FDg_cases ?_ ?_)<;>(intro hb;rw [hb];revert hb;(first | exact i0_ | (refine i_ ?_;intro hb))))
  | refine r_ ?_
  | refine d_ ?_
  | refine k_ ?_
  | ((refine dm_ ?_);(first | (refine v_ (rmatch_dc _ _ _) ?_ (ha:=by exact sv_rmatT_dc))))
  | refine vo_ ?_
  | ((first | ((with_reducible apply DW.drawJ (id:=12) 7 [0,1,4,5,6,7,8,15,29,43,59] [3,10,14] [5,7] [3] (hm:=by kernel_rfl) (hd:=by kernel_rfl) (hB:=by kernel_rfl) (hN:=by kernel_rfl));(focus (exact rfl));(repeat (with_reducible first | refine OnB.here ?_ | refine OnB.mid ?_ | refine OnB.next ?_))) | (refine DVJ.k_ rfl rfl rfl ?_) | (refine DVJ.f_ rfl rfl rfl ?_) | (refine DOp.app0a_ [75] rfl rfl rfl rfl (by intro h;cases h) ?_))<;>(simp (maxSteps:=1000000) (disch:=omega) only [push_cast,↓reduceIte,reduceCtorEq,Nat.reduceAdd,Nat.reduceMul,Nat.reduceLT,Nat.reduceLeDiff,Nat.reduceEqDiff,Nat.reduceSub,Int.reduceToNat,Int.reduceLT,Int.reduceLE,Int.reduceAdd,Int.reduceSub,Int.reduceMul,Int.reduceNeg,Nat.reduceBEq,Int.reduceBEq,Int.reduceBNe,Nat.reduceBNe,Int.reduceEq,encHit,cells_p,cells_p0,cells_p1,cells_p2,cells_pl,cells_h0,cells_h1,cells_hl,cells_seth,takeH,dropH,List.length_take,List.length_drop,klS,klV]))
  | (refine q_ (rmatch_dc _ _ _) ?_ (ha:=by exact sv_rmatT_dc))
  | refine o_ ?_
  | refine f_ ?_
  | (first | refine DVJ.ma_ rfl rfl rfl ?_ | refine DVJ.mb_ rfl rfl rfl ?_)
  | refine vm_ ?_
  | ((fail_if_success (have zz:=p1));with_reducible intro p1)
  | with_reducible intro b)
 all_goals first
 | (refine ⟨k+1,⟨by omega,altH_s ha (by assumption)⟩,by omega,by simp [Sub,get],?_⟩;(exact sub_);done)
 | (have e:=matchT_s (n:=n) (show i<L.length by omega)
    rw [if_pos (by assumption),intoH_old (by omega) ha (by assumption)] at e
    refine ⟨(i+1,u),by (try simp only);omega,by (try simp only);omega,?_,?_⟩;(focus ((try dsimp only);rw [e];simp [Sub,get]));((try dsimp only);rw [e];(exact sub_));done)
 | (have e:=matchT_s (n:=n) (show i<L.length by omega)
    rw [if_pos (by assumption),intoH_new hk ha (by first | (right;assumption) | (left;omega)) (by first | (right;assumption) | (left;omega))] at e
    have e1:=congrArg List.length e
    rw [hit_len] at e1
    have e2:=congrArg (fun z:HL=>cells (z.map encHit)) e
    try simp only at e2
    rw [hit_cells] at e2
    refine ⟨(i+1,b),by (try simp only);omega,by (try simp only);omega,?_,?_⟩;(focus ((try dsimp only);rw [e1];simp [Sub,get];done));((try dsimp only);rw [e2];(exact sub_));done)
 | (have e:=matchT_s (n:=n) (show i<L.length by omega)
    rw [if_neg (by simp_all)] at e
    refine ⟨(i+1,u),by (try simp only);omega,by (try simp only);omega,?_,?_⟩;(focus ((try dsimp only);rw [e];simp [Sub,get]));((try dsimp only);rw [e];(exact sub_));done)
 | (have hil:i=L.length:=by omega
    subst hil
    rw [<-matchT_e];(refine ⟨_,_,le.rfl_,⟨u,rfl,rfl⟩,?_⟩);(exact sub_);done)
 | (trace_state;fail)
end
end
end Go.Proofs.YtphhijelneaedaaDoor
