/- The trie: the document's pairs, dropped. -/
import Derived.Test.YtphhijelneaedaaDoorTwx
import Derived.Test.YtphhijelneaedaaDoorPu5x
import Derived.KernelRfl
namespace Go.Proofs.YtphhijelneaedaaDoor
open Go.RowKit
set_option linter.unusedSimpArgs false
set_option linter.unusedVariables false
set_option linter.unusedSectionVars false
set_option maxHeartbeats 4000000
set_option maxRecDepth 100000
section
theorem DW.frzO2 {P:Program} {n:Nat} {Q:Exit->Env->Own->Prop} {e e':Env} {H H':Own} (id:Nat) {ops:Array Oper} {d:Bool} (v:Value) {l:List V} (h:OnA H v fun sz cs C=>cs=cells l/\0<sz/\(∀ y∈l,y.n=sz)/\CvE v l e e'/\CvO v l (C (.tail sz v)) H'/\DW P n (.region id ops d) Q e' H'):DW P n (.region id ops d) Q e H:=by
 obtain ⟨sz,cs,L1,L2,h0,h1,h2,h3,h4,h5,h6⟩:=h
 exact DW.frzOR id v ⟨sz,cs,L1,L2,h0,h1,h2,h3,h4,H',h5,h6⟩
theorem takeP (n:Nat) (L:TL):List.take n (L.map encP)=(L.take n).map encP:=List.map_take.symm
theorem dropP (n:Nat) (L:TL):List.drop n (L.map encP)=(L.drop n).map encP:=List.map_drop.symm
attribute [local irreducible] DW SeqD DV DOp DC DVX filterB
theorem sv_rdrop_dc {p:Prop} (h:p:=by first | exact sv | exact encP_n _ | ((repeat (first | refine And.intro ?_ ?_ | (exact fun _ _=>rfl) | (exact fun _ _=>⟨rfl,rfl⟩) | exact encP_n _ | omega));done) | ((repeat (first | exact List.mem_cons_self | apply List.mem_cons_of_mem));done) | fail):p:=h
section
attribute [local push_cast 2000] takeP dropP List.length_take List.length_drop
theorem rdrop_dc (w:Nat) (v:Value) (L:TL) (f ky:Str) (F:Own):(L.length<=1000000)->DC Tryd.prog 11 [.raw (.pointer (some ⟨w,0,none⟩)), .str f, .str ky] ([.blk w [.ar v L.length], .arr 3 v (cells (L.map encP))]++F) fun d G=>∃ v',d = .bool (lookA (f,ky) L).isSome/\G = .blk w [.ar v' (dropA (f,ky) L).length] :: .arr 3 v' (cells ((dropA (f,ky) L).map encP))::F:=by
 intro hA
 have hl:=hA
 refine DC.bodyS (n_:=32) (show Tryd.prog.funcs[11]? = some Tryd.f11 by kernel_rfl) rfl rfl (by rfl) ?_
 simp only [env0,List.cons_append,List.nil_append]
 have kw:=ksIs [0,1,2,6,7,13]
 have ow:=ownIs []
 repeat' (first
  | ((with_reducible apply DW.frzO2 4 v);(repeat (with_reducible first | refine OnA.here ?_ | refine OnA.next ?_));refine ⟨rfl,by decide,(by intro y hy;obtain ⟨x,_,rfl⟩:=List.mem_map.1 hy;rfl),?_,?_,?_⟩;(focus (repeat (first | exact CvE.nil | apply CvE.cons (Cv.hit _) | apply CvE.cons (Cv.rfl _))));(focus ((repeat (first | apply CvO.blk _ (by repeat (first | exact CvL.nil | apply CvL.cons (Cv.hit _) | apply CvL.cons (Cv.rfl _))) | apply CvO.keep | exact CvO.rfl_ _ _ _)))))
  | refine g_ ?_
  | ((with_reducible refine And.intro ?_ ?_);(exact sv_rdrop_dc))
  | (refine DW.cond (by rfl) ?_ ?_<;>(first | exact i0_ | (refine ic_ ?_;intro hb)))
  | ((with_reducible refine FVg_cases ?_ ?_)<;>(intro hb;rw [hb];revert hb;(first | exact i0_ | (refine i_ ?_;intro hb))))
  | refine r_ ?_
  | refine k_ ?_
  | ((first | ((with_reducible apply DW.drawJ (id:=4) 0 [0,1,2,6,7,13] [7,15,18] [4,11] [7] (hm:=by kernel_rfl) (hd:=by kernel_rfl) (hB:=by kernel_rfl) (hN:=by kernel_rfl));(focus (exact rfl));(repeat (with_reducible first | refine OnB.here ?_ | refine OnB.mid ?_ | refine OnB.next ?_))) | (refine DVJ.k_ rfl rfl rfl ?_) | (refine DVJ.f_ rfl rfl rfl ?_) | (refine DOp.app0a_ [21] rfl rfl rfl rfl (by intro h;cases h) ?_))<;>(simp (maxSteps:=1000000) (disch:=omega) only [push_cast,↓reduceIte,reduceCtorEq,Nat.reduceAdd,Nat.reduceMul,Nat.reduceLT,Nat.reduceLeDiff,Nat.reduceEqDiff,Nat.reduceSub,Int.reduceToNat,Int.reduceLT,Int.reduceLE,Int.reduceAdd,Int.reduceSub,Int.reduceMul,Int.reduceNeg,Nat.reduceBEq,Int.reduceBEq,Int.reduceBNe,Nat.reduceBNe,Int.reduceEq,takeP,dropP,List.length_take,List.length_drop,klS,klV]))
  | (refine p_ (rat_dc _ _ _ _ _ _) ?_ (ha:=by exact sv_rdrop_dc);rintro d H1 ⟨j,(⟨hno,rfl⟩ | ⟨i,⟨hi,he,ht⟩,rfl⟩),rfl,rfl⟩<;>refine s_ ?_)
  | refine o_ ?_
  | refine f_ ?_
  | (first | refine DVJ.ma_ rfl rfl rfl ?_ | refine DVJ.mb_ rfl rfl rfl ?_)
  | with_reducible intro b)
 all_goals first
 | (rw [dropA_none hno,hno];(refine ⟨_,_,le.rfl_,⟨v,rfl,rfl⟩,?_⟩);(exact sub_);done)
 | (rw [drop_hit hi ht he,look_hit hi ht he]
    (refine ⟨_,_,le.rfl_,⟨b,rfl,rfl⟩,?_⟩);(rw [show ((i:Int)+1).toNat=i+1 by omega,List.take_length,Nat.min_self,List.map_append,cells_append,List.length_append,List.length_take,List.length_drop]);(exact sub_);done)
 | (exfalso;omega)
 | (trace_state;fail)
end
end
section
theorem sn_app (l:List Str) (z:Str):∀ y∈l.map V.str++[V.str z],y.n=1:=fun y hy=>by
 rcases List.mem_append.1 hy with hy | hy
 · obtain ⟨x,_,rfl⟩:=List.mem_map.1 hy;rfl
 · rw [List.mem_singleton.1 hy];rfl
theorem takeS (n:Nat) (l:List Str):List.take n (l.map V.str)=(l.take n).map V.str:=List.map_take.symm
theorem dropS (n:Nat) (l:List Str):List.drop n (l.map V.str)=(l.drop n).map V.str:=List.map_drop.symm
def allLt (l:List Str) (x:Str) (k:Nat):Prop:=∀ j,j<k->Op.bytesLess (l.getD j default) x=true
theorem allLt_0 (l:List Str) (x:Str):allLt l x 0:=fun j h=>absurd h (Nat.not_lt_zero _)
theorem allLt_s {l:List Str} {x:Str} {k:Nat} (h:allLt l x k) (e:Op.bytesLess (l.getD k default) x=true):allLt l x (k+1):=fun j hj=>by
 rcases Nat.lt_or_eq_of_le (Nat.le_of_lt_succ hj) with h1 | rfl
 · exact h j h1
 · exact e
theorem tw_at {x:Str}:∀ {l:List Str} {k:Nat},k<=l.length->allLt l x k->(k=l.length\/Op.bytesLess (l.getD k default) x=false)->(l.takeWhile fun y=>decide (y<x))=l.take k/\(l.dropWhile fun y=>decide (y<x))=l.drop k
 | [],k,hk,_,_=>by simp
 | y::l,0,_,_,h=>by
  rcases h with h | h
  · cases h
  · have h2:decide (y<x)=false:=by rw [<-Go.Proofs.bytesLess_eq];exact h
    rw [List.takeWhile_cons,List.dropWhile_cons,h2];exact ⟨rfl,rfl⟩
 | y::l,k+1,hk,ha,h=>by
  have h2:decide (y<x)=true:=by rw [<-Go.Proofs.bytesLess_eq];exact ha 0 (Nat.succ_pos _)
  obtain ⟨e1,e2⟩:=tw_at (x:=x) (l:=l) (k:=k) (by simpa using hk) (fun j hj=>ha (j+1) (by omega)) (by
   rcases h with h | h
   · exact .inl (by simpa using h)
   · exact .inr h)
  rw [List.takeWhile_cons,List.dropWhile_cons,h2]
  exact ⟨by rw [if_pos rfl,e1];rfl,by rw [if_pos rfl,e2];rfl⟩
theorem into_old {l:List Str} {x:Str} {k:Nat} (hk:k<l.length) (ha:allLt l x k) (he:l.getD k default=x):intoS l x=l:=by
 have hb:Op.bytesLess (l.getD k default) x=false:=by rw [he,Go.Proofs.bytesLess_eq];exact decide_eq_false (List.lt_irrefl _)
 obtain ⟨e1,e2⟩:=tw_at (Nat.le_of_lt hk) ha (.inr hb)
 unfold intoS
 rw [e1,e2,List.drop_eq_getElem_cons hk]
 rw [List.getD_eq_getElem?_getD,List.getElem?_eq_getElem hk] at he
 have he:l[k]=x:=he
 show l.take k++(if l[k]=x then _ else _)=l
 rw [if_pos he,<-List.drop_eq_getElem_cons hk,List.take_append_drop]
theorem into_new {l:List Str} {x:Str} {k:Nat} (hk:k<=l.length) (ha:allLt l x k) (hb:k=l.length\/Op.bytesLess (l.getD k default) x=false) (hne:k=l.length\/¬ l.getD k default=x):intoS l x=l.take k++[x]++l.drop k:=by
 obtain ⟨e1,e2⟩:=tw_at hk ha hb
 unfold intoS
 rw [e1,e2]
 rcases Nat.lt_or_eq_of_le hk with h | rfl
 · rw [List.drop_eq_getElem_cons h]
   have hne2:¬ l[k]=x:=by
    rcases hne with h1 | h1
    · omega
    · rw [List.getD_eq_getElem?_getD,List.getElem?_eq_getElem h] at h1;exact h1
   show l.take k++(if l[k]=x then _ else _)=_
   rw [if_neg hne2];simp
 · rw [List.drop_length];simp
attribute [local irreducible] DW SeqD DV DOp DC DVX intoS
theorem sv_rinto_dc {p:Prop} (h:p:=by first | exact sv | ((repeat (first | refine And.intro ?_ ?_ | (exact fun _ _=>rfl) | (exact fun _ _=>⟨rfl,rfl⟩) | exact sn_app _ _ | omega));done) | fail):p:=h
section
attribute [local push_cast 2000] takeS dropS List.length_take List.length_drop
theorem rinto_dc (l:List Str) (z:Str) (F:Own):(l.length<=1000000)->DC Tryd.prog 37 [.sl (l.map V.str), .str z] (([]:Own)++F) fun d G=>d = .sl ((intoS l z).map V.str)/\G=[]++F:=by
 intro hA
 have hl:=hA
 refine DC.bodyS (n_:=44) (show Tryd.prog.funcs[37]? = some Tryd.f37 by kernel_rfl) rfl rfl (by rfl) ?_
 simp only [env0,List.cons_append,List.nil_append]
 have kw:=ksIs [0,1,4,5,17,31]
 have ow:=ownIs []
 have dw6:=drIs 6 [3,6,10] []
 repeat' (first
  | ((with_reducible refine DW.loopB 0 (X:=Nat) (fun x=>x<=l.length/\allLt l z x) (fun x=>[(0, .sl (l.map V.str)),(1, .str z),(5, .int .i64 x)]) (fun x=>([]:Own)) (fun x=>l.length - x) (0) ?_ ?_ ?_);exact (⟨Nat.zero_le _,allLt_0 _ _⟩);(simp [Sub,get,keepL]<;>fail);(try simp only [List.cons_append,List.nil_append]);refine pl_ ?_;intro k ⟨hk,ha⟩;(try simp only [List.cons_append,List.nil_append]))
  | refine g_ ?_
  | ((with_reducible refine And.intro ?_ ?_);(exact sv_rinto_dc))
  | (refine DW.cond (by rfl) ?_ ?_<;>(first | exact i0_ | (refine ic_ ?_;intro hb)))
  | ((with_reducible first | refine FVg_cases ?_ ?_ | refine FDg_cases ?_ ?_)<;>(intro hb;rw [hb];revert hb;(first | exact i0_ | (refine i_ ?_;intro hb))))
  | refine r_ ?_
  | refine d_ ?_
  | refine k_ ?_
  | refine vo_ ?_
  | refine o_ ?_
  | refine f_ ?_
  | refine vm_ ?_
  | with_reducible intro b)
 all_goals first
 | (refine ⟨k+1,⟨by omega,allLt_s ha (by assumption)⟩,by omega,by simp [Sub,get],?_⟩;(exact sub_);done)
 | (rw [into_old (by omega) ha hb];(first | exact fin_ | refine finq_ ?_);done)
 | (rw [into_new hk ha (by first | (right;assumption) | (left;omega)) (by first | (right;assumption) | (left;omega))];refine ⟨_,_,le.gs ?_,⟨rfl,rfl⟩,?_⟩;(focus (simp;done));(exact sub_);done)
 | (trace_state;fail)
end
end
end Go.Proofs.YtphhijelneaedaaDoor
