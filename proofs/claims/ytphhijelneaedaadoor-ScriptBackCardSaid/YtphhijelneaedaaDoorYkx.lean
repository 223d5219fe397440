/- Events are printed. -/
import Derived.Test.YtphhijelneaedaaDoorYjx
import Derived.Test.YtphhijelneaedaaDoorLpx
import Derived.KernelRfl
namespace Go.Proofs.YtphhijelneaedaaDoor
open Go.RowKit
set_option linter.unusedSimpArgs false
set_option linter.unusedVariables false
set_option linter.unusedSectionVars false
set_option maxHeartbeats 4000000
set_option maxRecDepth 100000
section
theorem wnlY_dc (T:TypeId) (bk off:Nat) (cs:List V) (v:Value) (l:List UInt8) (F:Own):(BAt T bk off cs v l.length/\l.length+1<=140737488355328)->DC Tryd.prog 59 [.raw (.pointer (some ⟨bk,off,none⟩)), .int .u8 10] ([.tb T bk cs, .ba 5 v l]++F) fun d G=>∃ v',d = .raw .nilIface/\G=[.tb T bk (lay2 bk off cs v' (l++[10]).length), .ba 5 v' (l++[10])]++F:=fun h=>by
 have:=wbyte_dc T bk off cs v l 10 F h
 exact this
theorem joinS_dc (ws:List (List UInt8)) (F:Own):(ws.length<=1000000/\(Lib.join ws [32]).length<=140737488355328)->DC Tryd.prog 58 [.sl (ws.map V.str), .str [32]] ([loose]++F) fun d G=>d = .str (Lib.join ws [32])/\G=[loose]++F:=fun h=>join_dc ws [32] F h
def wsT (e:Ev) (k:Nat):List YS:=wdY e.kind.toNat::((spY e.kind.toNat).take k).map (wordY e)
theorem wsT_0 (e:Ev):(wsT e 0).map V.str=[.str (wdY e.kind.toNat)]:=rfl
theorem wsT_s {e:Ev} {k:Nat} (h:k<(spY e.kind.toNat).length):(wsT e k).map V.str++[.str (wordY e ((spY e.kind.toNat).getD k 0))]=(wsT e (k+1)).map V.str:=by
 unfold wsT
 rw [List.take_add_one,List.getElem?_eq_getElem h,List.map_append,List.map_cons,List.map_cons,List.map_append,List.getD_eq_getElem?_getD,List.getElem?_eq_getElem h]
 rfl
theorem wsT_len {e:Ev} {k:Nat} (h:k<=(spY e.kind.toNat).length):(wsT e k).length=1+k:=by
 unfold wsT;rw [List.length_cons,List.length_map,List.length_take,Nat.min_eq_left h,Nat.add_comm]
theorem wsT_all (e:Ev):wsT e (spY e.kind.toNat).length=wordsY e:=by unfold wsT wordsY;rw [List.take_length];rfl
theorem strs_cellsY:∀ l:List YS,cells (l.map V.str)=l.map V.str
 | []=>rfl
 | a::l=>by
  have:=strs_cellsY l
  rw [List.map_cons,cells_cons,this];rfl
theorem right_rng {e:Ev} (h:rightY e=true):0<=e.kind/\e.kind<10:=by
 simp only [rightY,Bool.and_eq_true,decide_eq_true_eq] at h
 exact h.1.1
theorem word_len {e:Ev} (h:EvB e) (c:UInt8):(wordY e c).length<=20001:=by
 have h1:=itoa_len h.1.1
 have h2:=itoa_len h.1.2.1
 have h3:=itoa_len h.1.2.2
 have h4:=h.2
 unfold wordY
 split
 · omega
 · split
   · omega
   · split
     · omega
     · by_cases hb:e.b=[]
       · rw [hb,hexW_0];decide
       · rw [hexW_n hb,hexZ_len];omega
theorem wd_len (k:Nat):(wdY k).length<=10:=by
 by_cases h:k<10
 · have:∀ k,k<10->(wdY k).length<=10:=by decide
   exact this k h
 · unfold wdY
   rw [List.getD_eq_getElem?_getD,List.getElem?_eq_none (show kindsY.length<=k by show 10<=k;omega)];decide
theorem joinBY:∀ (ws:List YS) (m:Nat),(∀ x∈ws,x.length<=m)->(Lib.join ws [32]).length<=(m+1) * ws.length
 | [],m,_=>by simp [Lib.join,List.intercalate]
 | [x],m,h=>by have:=h x (by simp);rw [join_one];simp;omega
 | x::y::l,m,h=>by
  have h1:=h x (by simp)
  have h2:=joinBY (y::l) m fun z hz=>h z (List.mem_cons_of_mem _ hz)
  rw [join_two]
  simp only [List.length_append,List.length_cons,List.length_nil] at h2 ⊢
  rw [Nat.mul_add (m+1) (l.length+1) 1]
  omega
theorem words_len4 (e:Ev):(wordsY e).length<=4:=by
 rw [<-wsT_all,wsT_len (Nat.le_refl _)];have:=spY_l2 e.kind.toNat;omega
theorem line_len {e:Ev} (h:EvB e):(Lib.join (wordsY e) [32]).length<=80008:=by
 have hl:(wordsY e).length<=4:=by
  rw [<-wsT_all,wsT_len (Nat.le_refl _)];have:=spY_l2 e.kind.toNat;omega
 have hb:∀ x∈wordsY e,x.length<=20001:=fun x hx=>by
  rw [<-wsT_all] at hx
  rcases List.mem_cons.1 hx with rfl | hx
  · have:=wd_len e.kind.toNat;omega
  · obtain ⟨c,_,rfl⟩:=List.mem_map.1 hx;exact word_len h c
 have:=joinBY (wordsY e) 20001 hb
 have h2:(20001+1) * (wordsY e).length<=20002 * 4:=Nat.mul_le_mul_left _ hl
 omega
theorem take_sY {l:List Ev} {k:Nat} (h:k<l.length):l.take (k+1)=l.take k++[l.getD k default]:=by
 rw [List.take_add_one,List.getElem?_eq_getElem h,List.getD_eq_getElem?_getD,List.getElem?_eq_getElem h];rfl
theorem print_0 (l:List Ev):printY (l.take 0)=[]:=rfl
theorem print_s1 {l:List Ev} {k:Nat} (h:k<l.length) (hr:rightY (l.getD k default)=false):printY (l.take (k+1))=printY (l.take k):=by
 unfold printY;rw [take_sY h,List.filter_append,List.filter_cons,hr];simp
theorem print_s2 {l:List Ev} {k:Nat} (h:k<l.length) (hr:rightY (l.getD k default)=true):printY (l.take (k+1))=printY (l.take k)++(Lib.join (wordsY (l.getD k default)) [32]++[10]):=by
 unfold printY;rw [take_sY h,List.filter_append,List.filter_cons,hr];simp [lineY]
theorem print_len {l:List Ev} (h:∀ k,EvB (l.getD k default)):∀ k,k<=l.length->(printY (l.take k)).length<=80009 * k
 | 0,_=>Nat.zero_le _
 | k+1,hk=>by
  have ih:=print_len h k (by omega)
  rcases hr:rightY (l.getD k default) with _ | _
  · rw [print_s1 (by omega) hr];omega
  · rw [print_s2 (by omega) hr]
    have:=line_len (h k)
    simp only [List.length_append,List.length_cons,List.length_nil]
    omega
attribute [local irreducible] DW SeqD DV DOp DC DVX lay2 selfP liesB Lib.itoa wsT wdY spY wordY printY wordsY rightY
theorem sv_print_dc {p:Prop} (h:p:=by first | exact sv | exact ⟨hev k,spY_c _ (by omega) _ (getD_inY (by omega))⟩ | (have hw4:=words_len4 (l.getD k default);(refine ⟨?_,?_⟩<;>omega)) | (refine ⟨hB1,?_⟩;omega) | (refine ⟨(hB1.next _ _).cast ?_,?_⟩;(simp only [List.length_append]);(simp only [List.length_append];omega)) | (rw [wsT_len]<;>omega) | fail):p:=h
section
attribute [local push_cast 2000] kinds_atI encE
theorem print_dc (T5:TypeId) (fr:Nat×Nat) (l:LEv) (F:Own):(l.length<=1000/\∀ k,EvB (l.getD k default))->DC Tryd.prog 27 [.sl (l.map encE)] ([loose,knP T5 fr]++F) fun d G=>d = .str (printY l)/\G=[loose,knP T5 fr]++F:=by
 intro hA
 obtain ⟨hl,hev⟩:=hA
 refine DC.bodyS (n_:=48) (show Tryd.prog.funcs[27]? = some Tryd.f27 by kernel_rfl) rfl rfl (by rfl) ?_
 simp only [env0,print_0,wsT_0,List.cons_append,List.nil_append]
 have kw:=ksIs [0,2,3,5,6,7,8,9,10,11,12,17,28,29,30]
 have ow:=ownIs [25]
 have dw11:=drIs 11 [8] [1,3,6]
 have hKL:kindsY.length=10:=rfl
 repeat' (first
  | ((refine DOp.allocS_ rfl ?_);(with_reducible intro b3);refine s_ ?_)
  | ((with_reducible apply DW.frzB 5 5);(focus (exact rfl));(repeat (with_reducible first | refine Out.here ?_ | refine Out.next ?_));simp only [put_cons,put_nil,Nat.reduceEqDiff,↓reduceIte,if_true,if_false,reduceCtorEq])
  | ((with_reducible apply DW.frzB 7 6);(focus (exact rfl));(repeat (with_reducible first | refine Out.here ?_ | refine Out.next ?_));simp only [put_cons,put_nil,Nat.reduceEqDiff,↓reduceIte,if_true,if_false,reduceCtorEq])
  | ((fail_if_success (have zz:=hrg));(have hrg:=right_rng (show rightY (l.getD k default)=true by assumption));(with_reducible refine DW.sq ?_))
  | ((have hil:i=(spY (l.getD k default).kind.toNat).length:=by omega);(subst hil);(rw [wsT_all]);((with_reducible apply DW.frzR 13);(repeat (with_reducible first | refine OnA.here ?_ | refine OnA.next ?_));refine ⟨(strs_cellsY _).symm,by decide,(by intro y hy;obtain ⟨x,_,rfl⟩:=List.mem_map.1 hy;rfl),?_,?_⟩;(repeat (first | exact CvE.nil | apply CvE.cons (Cv.hit _) | apply CvE.cons (Cv.rfl _)))))
  | ((with_reducible refine DW.loopB 0 (X:=Nat×Value×VS) (fun x=>x.1<=l.length/\BAt 105 b3 0 x.2.2 x.2.1 (printY (l.take x.1)).length) (fun x=>[(3, .raw (.pointer (some ⟨b3,0,none⟩))),(9, .sl (l.map encE)),(10, .int .i64 l.length),(11, .int .i64 x.1)]) (fun x=>[.tb 105 b3 x.2.2, .ba 5 x.2.1 (printY (l.take x.1)),loose,knP T5 fr]) (fun x=>l.length - x.1) ((0, .slice none 0 0,[.raw (.pointer none), .ar (.slice none 0 0) 0])) ?_ ?_ ?_);exact (⟨Nat.zero_le _,by (simp only [print_0,List.length_nil];exact bat0 _)⟩);(simp [Sub,get,keepL]<;>fail);(try simp only [print_0,wsT_0,List.cons_append,List.nil_append]);refine pl_ ?_;intro ⟨k,v1,c1⟩ ⟨hk,hB1⟩;(try simp only [print_0,wsT_0,List.cons_append,List.nil_append]);(try simp only at hk hB1);have hpl:=print_len hev k hk;have hll:=line_len (hev k);have hsl:=spY_l2 (l.getD k default).kind.toNat)
  | ((with_reducible refine DW.loopB 2 (X:=Nat×Value) (fun x=>x.1<=(spY (l.getD k default).kind.toNat).length) (fun x=>[(3, .raw (.pointer (some ⟨b3,0,none⟩))),(5, .sp [.int .i64 (l.getD k default).kind, .int .i64 (l.getD k default).node, .int .i64 (l.getD k default).conn, .int .i64 (l.getD k default).n, .sl ((l.getD k default).b.map u8)]),(6, .sp [.str (wdY (l.getD k default).kind.toNat), .str (spY (l.getD k default).kind.toNat)]),(7, .ar x.2 (1+x.1)),(9, .sl (l.map encE)),(10, .int .i64 l.length),(11, .int .i64 k),(28, .int .i64 (spY (l.getD k default).kind.toNat).length),(29, .int .i64 x.1)]) (fun x=>.arr 1 x.2 ((wsT (l.getD k default) x.1).map V.str)::([.tb 105 b3 c1, .ba 5 v1 (printY (l.take k)),loose,knP T5 fr]:Own)) (fun x=>(spY (l.getD k default).kind.toNat).length - x.1) ((0,b)) ?_ ?_ ?_);exact (Nat.zero_le _);(simp [Sub,get,keepL]<;>fail);(try simp only [print_0,wsT_0,List.cons_append,List.nil_append]);refine pl_ ?_;intro ⟨i,y⟩ hi;(try simp only [print_0,wsT_0,List.cons_append,List.nil_append]);(try simp only at hi))
  | refine g_ ?_
  | ((with_reducible refine And.intro ?_ ?_);(exact sv_print_dc))
  | (refine DW.cond (by rfl) ?_ ?_<;>(first | exact i0_ | (refine ic_ ?_;intro hb)))
  | ((with_reducible first | refine FVg_cases ?_ ?_ | refine FDg_cases ?_ ?_)<;>(intro hb;rw [hb];revert hb;(first | exact i0_ | (refine i_ ?_;intro hb))))
  | refine r_ ?_
  | refine d_ ?_
  | refine k_ ?_
  | ((refine dm_ ?_);(first | ((first | refine v_ (right_dc _ _) ?_ (ha:=by exact sv_print_dc) | refine v_ (kinds_dc _) ?_ (ha:=by exact sv_print_dc) | refine v_ (word_dc _ _ _ _ _) ?_ (ha:=by exact sv_print_dc) | refine v_ (joinS_dc _ _) ?_ (ha:=by exact sv_print_dc)))))
  | refine vo_ ?_
  | ((first | ((with_reducible refine DW.drawX (id:=6) [0,2,3,5,6,7,8,9,10,11,12,17,28,29,30] [0,6] 5 99 (some 6) (by kernel_rfl) (by kernel_rfl) (by kernel_rfl) (by kernel_rfl) rfl (by kernel_rfl) ?_ ?_)) | (refine DVX.fl_ rfl rfl rfl ?_) | (refine DVX.f_ rfl rfl (by decide) ?_) | ((refine DVX.mv_ rfl rfl (by decide) ?_);intro X;(try simp only [List.cons_append,List.nil_append]);(first | (refine qq_ (right_dc _ _) ?_ (ha:=by exact sv_print_dc);rintro d rfl) | (refine qq_ (kinds_dc _) ?_ (ha:=by exact sv_print_dc);rintro d rfl) | (refine qq_ (word_dc _ _ _ _ _) ?_ (ha:=by exact sv_print_dc);rintro d rfl) | (refine qq_ (joinS_dc _ _) ?_ (ha:=by exact sv_print_dc);rintro d rfl) | (refine p_ (wstr_dc _ _ _ _ _ _ _ _) ?_ (ha:=by exact sv_print_dc);rintro d H1 ⟨w1,rfl,rfl⟩) | (refine p_ (wnlY_dc _ _ _ _ _ _ _) ?_ (ha:=by exact sv_print_dc);rintro d H1 ⟨w2,rfl,rfl⟩) | (refine p_ (bstr_dc _ _ _ _ _ _ _) ?_ (ha:=by exact sv_print_dc);rintro d H1 ⟨rfl,rfl⟩) | ((refine DOp.load_ rfl rfl ?_);(repeat (with_reducible first | refine OnB.here ?_ | refine OnB.mid ?_ | refine OnB.next ?_));(refine And.intro (by simp (maxSteps:=1000000) (disch:=omega) only [push_cast,↓reduceIte,reduceCtorEq,Nat.reduceAdd,Nat.reduceMul,Nat.reduceLT,Nat.reduceLeDiff,Nat.reduceEqDiff,Nat.reduceSub,Int.reduceToNat,Int.reduceLT,Int.reduceLE,Int.reduceAdd,Int.reduceSub,Int.reduceMul,Int.reduceNeg,Nat.reduceBEq,Int.reduceBEq,Int.reduceBNe,Nat.reduceBNe,Int.reduceEq,kinds_atI,encE]) ?_)));(try simp only [List.cons_append,List.nil_append]);(repeat (with_reducible first | refine PXK.base ?_ | refine PXK.none ?_ | refine PXK.cons ?_))) | (refine DOp.lista_ [25] rfl rfl ?_) | (refine DOp.makea_ [25] rfl rfl rfl rfl ?_))<;>(simp (maxSteps:=1000000) (disch:=omega) only [push_cast,↓reduceIte,reduceCtorEq,Nat.reduceAdd,Nat.reduceMul,Nat.reduceLT,Nat.reduceLeDiff,Nat.reduceEqDiff,Nat.reduceSub,Int.reduceToNat,Int.reduceLT,Int.reduceLE,Int.reduceAdd,Int.reduceSub,Int.reduceMul,Int.reduceNeg,Nat.reduceBEq,Int.reduceBEq,Int.reduceBNe,Nat.reduceBNe,Int.reduceEq,kinds_atI,encE]))
  | ((first | refine q_ (right_dc _ _) ?_ (ha:=by exact sv_print_dc) | refine q_ (kinds_dc _) ?_ (ha:=by exact sv_print_dc) | refine q_ (word_dc _ _ _ _ _) ?_ (ha:=by exact sv_print_dc) | refine q_ (joinS_dc _ _) ?_ (ha:=by exact sv_print_dc)))
  | (refine p_ (wstr_dc _ _ _ _ _ _ _ _) ?_ (ha:=by exact sv_print_dc);rintro d H1 ⟨w1,rfl,rfl⟩<;>refine s_ ?_)
  | (refine p_ (wnlY_dc _ _ _ _ _ _ _) ?_ (ha:=by exact sv_print_dc);rintro d H1 ⟨w2,rfl,rfl⟩<;>refine s_ ?_)
  | (refine p_ (bstr_dc _ _ _ _ _ _ _) ?_ (ha:=by exact sv_print_dc);rintro d H1 ⟨rfl,rfl⟩<;>refine s_ ?_)
  | refine o_ ?_
  | refine f_ ?_
  | refine vm_ ?_
  | ((fail_if_success (have zz:=b5));with_reducible intro b5)
  | ((fail_if_success (have zz:=b6));with_reducible intro b6)
  | with_reducible intro b)
 all_goals first
 | ((have e:=print_s1 (show k<l.length by omega) hb)
    refine ⟨(k+1,v1,c1),⟨by (try simp only);omega,?_⟩,by (try simp only);omega,by simp [Sub,get],?_⟩;((try dsimp only);rw [e];exact hB1);((try dsimp only);rw [e];(exact sub_));done)
 | ((have e:=wsT_s (e:=l.getD k default) (k:=i) (by omega))
    refine ⟨(i+1,b),by (try simp only);omega,by (try simp only);omega,by simp [Sub,get,Nat.add_assoc],?_⟩;((try dsimp only);rw [<-e];(exact sub_));done)
 | ((have e:=print_s2 (show k<l.length by omega) (by assumption))
    (rw [lay2_lay2 hB1.lt])
    refine ⟨(k+1,w2,lay2 b3 0 c1 w2 ((printY (l.take k)).length+((Lib.join (wordsY (l.getD k default)) [32]).length+1))),⟨by (try simp only);omega,?_⟩,by (try simp only);omega,by simp [Sub,get],?_⟩;((try dsimp only);rw [e];exact (hB1.next _ _).cast (by simp only [List.length_append,List.length_cons,List.length_nil]));((try dsimp only);rw [e];(exact sub_));done)
 | ((have hkl:k=l.length:=by omega);(subst hkl);(rw [List.take_length]);(first | exact fin_ | refine finq_ ?_);done)
 | (trace_state;fail)
end
end
end Go.Proofs.YtphhijelneaedaaDoor
