/- From arguments that read as data to the data of the walk, and back from a law's contract. No statement of the program. -/
import Derived.Test.YtbmbcjmgjdnlnaaGreatDoorEf
import Derived.Test.YtbmbcjmgjdnlnaaGreatDoorLib
import Derived.Test.YtbmbcjmgjdnlnaaGreatDoorFs1x
import Derived.KernelRfl
namespace Go.Proofs.YtbmbcjmgjdnlnaaGreatDoor
open Go.RowKit Go.ChangeShapes Go.WideShapes Go.Deep
set_option linter.unusedSimpArgs false
set_option linter.unusedVariables false
set_option linter.unusedSectionVars false
section
theorem Sim.none (w:World):Sim w []:=⟨(fun _ h=>nomatch h),List.Pairwise.nil,List.Pairwise.nil⟩
theorem stable_none {w:World} {a:Addr} (h:(w.cell? a).isSome=true):stable w [] a:=⟨h,(fun _ h=>nomatch h)⟩
section
variable {H:Type} {enc:TypeId×Value->H} {P:Program} {w:World}
def Opens (P:Program) (enc:TypeId×Value->H) (w:World) (e:TypeId) (C:Nat) {α:Type} (ea:α->V) (Q:α->Prop):Prop :=
 ∀ (cs:List Value) (n:Nat) (y:DataW H×List MemPlace),cs.length=C->DataW.trod enc P w 0 (fun _=>true) true n e cs=some y ->
  ∃ a,Q a/\∀ o,o<C->R (stable w []) w (cs.getD o undef) ((ea a).cs.getD o .any)
theorem open_elems {e:TypeId} {C:Nat} {α:Type} {ea:α->V} {Q:α->Prop} (hC:0<C) (hn:∀ a,(ea a).cs.length=C) (ho:Opens P enc w e C ea Q) {A:Option Addr} {len cap:Nat} (hE:Elems enc P w e C A len cap) :
  ∃ l:List α,l.length=len/\(∀ a∈l,Q a)/\R (stable w []) w (.slice A len cap) (.sl (l.map ea)):=by
 have one:∀ i,i<len->∃ a,Q a/\∃ b off,A=some ⟨b,off,none⟩/\∀ o,o<C->∃ v,w.cell? ⟨b,off+i * C+o,none⟩=some v/\R (stable w []) w v ((ea a).cs.getD o .any):=fun i hi=>by
  obtain ⟨b,off,cs,n,y,hA,hb,hl,hc,ht⟩:=hE.at_ i hi
  obtain ⟨a,hq,hr⟩:=ho cs n y hl ht
  refine ⟨a,hq,b,off,hA,fun o hlt=>?_⟩
  have hlt':o<cs.length:=by omega
  refine ⟨cs[o],hc o _ (List.getElem?_eq_getElem hlt'),?_⟩
  have:=hr o hlt
  simpa [List.getD_eq_getElem?_getD,hlt'] using this
 have all:∀ m,m<=len->∃ l:List α,l.length=m/\(∀ a∈l,Q a)/\∀ i (hi:i<l.length),∃ b off,A=some ⟨b,off,none⟩/\∀ o,o<C->∃ v,w.cell? ⟨b,off+i * C+o,none⟩=some v/\R (stable w []) w v ((ea l[i]).cs.getD o .any):=fun m=>by
  induction m with
  | zero=>exact fun _=>⟨[],rfl,(fun _ h=>nomatch h),fun i hi=>absurd hi (Nat.not_lt_zero _)⟩
  | succ m ih =>
   intro hm
   obtain ⟨l,h1,h2,h3⟩:=ih (by omega)
   obtain ⟨a,hq,hx⟩:=one m (by omega)
   refine ⟨l++[a],by simp [h1],fun z hz=>?_,fun i hi=>?_⟩
   · rcases List.mem_append.1 hz with hz | hz
     · exact h2 z hz
     · simp at hz;subst hz;exact hq
   · by_cases hil:i<l.length
     · simpa [List.getElem_append_left,hil] using h3 i hil
     · have:i=l.length:=by simp at hi;omega
       subst this
       simp only [List.getElem_concat_length]
       rw [h1];exact hx
 obtain ⟨l,h1,h2,h3⟩:=all len (Nat.le_refl _)
 refine ⟨l,h1,h2,?_⟩
 have hel:∀ i,i<l.length->∃ hi:i<l.length,(l.map ea).getD i .any=ea l[i]:=fun i hi=>⟨hi,by simp [List.getD_eq_getElem?_getD,hi]⟩
 refine .sl A len cap _ C (by simp [h1]) hE.le (fun h=>?_) (fun b hb hne=>?_) (fun i hi=>?_) (fun b i k hb hi hk=>?_) (fun b i k hb hi hk=>?_)
 · have:=hE.nil h
   have:l=[]:=List.eq_nil_of_length_eq_zero (by omega)
   subst this;rfl
 · have hl:0<l.length:=List.length_pos_iff.2 fun h=>hne (by rw [h];rfl)
   obtain ⟨b',off,hA,_⟩:=h3 0 hl
   rw [hA] at hb
   injection hb with hb
   rw [<-hb]
 · simp only [List.length_map] at hi
   obtain ⟨_,e⟩:=hel i hi
   rw [e,<-cs_n];exact hn _
 · simp only [List.length_map] at hi
   obtain ⟨b',off,hA,hx⟩:=h3 i hi
   rw [hA] at hb
   injection hb with hb
   subst hb
   obtain ⟨v,hv,_⟩:=hx k hk
   exact stable_none (by simp only;rw [hv];rfl)
 · simp only [List.length_map] at hi
   obtain ⟨b',off,hA,hx⟩:=h3 i hi
   rw [hA] at hb
   injection hb with hb
   subst hb
   obtain ⟨v,hv,hr⟩:=hx k hk
   obtain ⟨_,e⟩:=hel i hi
   simp only
   rw [cellAt,hv,e,cs_cell _ _ (by rw [hn];exact hk)]
   exact hr
end
end
section
open Go.RowKit
set_option maxHeartbeats 4000000
set_option maxRecDepth 100000
abbrev LFens:=List TFence
abbrev LRous:=List TRoute
abbrev LCels:=List TCell
attribute [local irreducible] DW SeqD DV DOp DC DVX DVJ valL numR intR textD dotR manyR iterL
theorem sv_tabD_dc {p:Prop} (h:p:=by first | exact sv | ((repeat (first | assumption | refine Nat.le_trans (dotR_len _) ?_ | refine Nat.le_trans (intR_len _) ?_ | refine Nat.le_trans (textD_len _) ?_))<;>fail) | (refine ⟨?_,by decide⟩;((repeat (first | assumption | refine Nat.le_trans (dotR_len _) ?_ | refine Nat.le_trans (intR_len _) ?_ | refine Nat.le_trans (textD_len _) ?_))<;>fail)) | fail):p:=h
section
attribute [local push_cast 2000] encFence encRoute encCell encDot
theorem tabD_dc (b:Nat) (s:RS) (F:Own):(s.l.length<=2000000)->DC Tryz.prog 77 [.raw (.pointer (some ⟨b,0,none⟩))] ([.blk b [.sl ((s.l).map u8), .bool (s.k)]]++F) fun d G=>d = .agg [.sl ((tabD s).1.seen.map encDot), .sl ((tabD s).1.fences.map encFence), .sl ((tabD s).1.routes.map encRoute), .sl ((tabD s).1.cells.map encCell)]/\G = .blk b [.sl (((tabD s).2.l).map u8), .bool ((tabD s).2.k)]::F:=by
 intro hA
 have hl:=hA
 refine DC.bodyS (n_:=93) (show Tryz.prog.funcs[77]? = some Tryz.f77 by kernel_rfl) rfl rfl (by rfl) ?_
 simp only [env0,List.map_nil,List.cons_append,List.nil_append]
 have kw:=ksIs [0,2,3,4,5,6,7,8,9,10,11,12,13,20,38,55]
 have ow:=ownIs [2,3,8,10]
 have rw_:=rsIs [.cell 2 28]
 have hq:=Nat.le_trans (rowD_len (each:=24) (by decide) dotR_len s).1 hl
 refine DW.tail0 2 ?_
 refine DW.tail0 4 ?_
 refine DW.tail0 10 ?_
 repeat' (first
  | ((with_reducible apply DW.frzB 11 8);(focus (exact rfl));(repeat (with_reducible first | refine Out.here ?_ | refine Out.next ?_));simp only [put_cons,put_nil,Nat.reduceEqDiff,↓reduceIte,if_true,if_false,reduceCtorEq])
  | ((with_reducible refine DW.loopB 0 (X:=Nat×Value×LFens×RS) (fun x=>iterL fenR x.1 x.2.2.1 x.2.2.2=rowD 16 fenR (eS1 s)/\x.2.2.1.length+x.1<=1000000/\x.2.2.2.l.length<=2000000) (fun x=>[(0, .raw (.pointer (some ⟨b,0,none⟩))),(2, .raw (.pointer (some ⟨b2,0,none⟩))),(3, .raw (.pointer (some ⟨b3,0,none⟩))),(4, .int .i64 x.1)]) (fun x=>[.blk b3 [.sl ((rowD 24 dotR s).1.map encDot), .gs x.2.1 (x.2.2.1.map encFence), .gs (.slice none 0 0) [], .gs (.slice none 0 0) []], .blk b [.sl ((x.2.2.2.l).map u8), .bool (x.2.2.2.k)], .tail 2 x.2.1]) (fun x=>x.1) ((n0, .slice none 0 0,[],z0)) ?_ ?_ ?_);exact (⟨by show _=iterL fenR (manyR 16 (rowD 24 dotR s).2).1.toNat [] (manyR 16 (rowD 24 dotR s).2).2;rw [hm0];rfl,by simp only [List.length_nil];omega,by simp only;omega⟩);(simp [Sub,get,keepL]<;>fail);(try simp only [List.map_nil,List.cons_append,List.nil_append]);refine pl_ ?_;intro ⟨n,v,l,z⟩ ⟨h1,h2,h3⟩;(try simp only [List.map_nil,List.cons_append,List.nil_append]);simp only at h1 h2 h3)
  | ((have hn0:n=0:=by omega);subst hn0;rw [iterL_0] at h1;((with_reducible refine DW.loopB 2 (X:=Nat×Value×LRous×RS) (fun x=>iterL routeD x.1 x.2.2.1 x.2.2.2=rowD 32 routeD (eS2 s)/\x.2.2.1.length+x.1<=1000000/\x.2.2.2.l.length<=2000000) (fun x=>[(0, .raw (.pointer (some ⟨b,0,none⟩))),(2, .raw (.pointer (some ⟨b2,0,none⟩))),(3, .raw (.pointer (some ⟨b3,0,none⟩))),(7, .int .i64 x.1)]) (fun x=>[.blk b3 [.sl ((rowD 24 dotR s).1.map encDot), .gs v (l.map encFence), .gs x.2.1 (x.2.2.1.map encRoute), .gs (.slice none 0 0) []], .blk b [.sl ((x.2.2.2.l).map u8), .bool (x.2.2.2.k)], .tail 4 x.2.1]) (fun x=>x.1) ((n0, .slice none 0 0,[],z0)) ?_ ?_ ?_);exact (⟨by (have e:eS2 s=z:=by unfold eS2;rw [<-h1]);rw [e];unfold rowD;rw [hm0];rfl,by simp only [List.length_nil];omega,by simp only;omega⟩);(simp [Sub,get,keepL]<;>fail);(try simp only [List.map_nil,List.cons_append,List.nil_append]);refine pl_ ?_;intro ⟨m,v2,l2,z2⟩ ⟨k1,k2,k3⟩;(try simp only [List.map_nil,List.cons_append,List.nil_append]);simp only at k1 k2 k3))
  | ((have hn0:m=0:=by omega);subst hn0;rw [iterL_0] at k1;((with_reducible refine DW.loopB 4 (X:=Nat×Value×LCels×RS) (fun x=>iterL cellD x.1 x.2.2.1 x.2.2.2=rowD 80 cellD (eS3 s)/\x.2.2.1.length+x.1<=1000000/\x.2.2.2.l.length<=2000000) (fun x=>[(0, .raw (.pointer (some ⟨b,0,none⟩))),(2, .raw (.pointer (some ⟨b2,0,none⟩))),(3, .raw (.pointer (some ⟨b3,0,none⟩))),(9, .int .i64 x.1)]) (fun x=>[.blk b3 [.sl ((rowD 24 dotR s).1.map encDot), .gs v (l.map encFence), .gs v2 (l2.map encRoute), .gs x.2.1 (x.2.2.1.map encCell)], .blk b [.sl ((x.2.2.2.l).map u8), .bool (x.2.2.2.k)], .tail 10 x.2.1]) (fun x=>x.1) ((n0, .slice none 0 0,[],z0)) ?_ ?_ ?_);exact (⟨by (have e:eS3 s=z2:=by unfold eS3;rw [<-k1]);rw [e];unfold rowD;rw [hm0];rfl,by simp only [List.length_nil];omega,by simp only;omega⟩);(simp [Sub,get,keepL]<;>fail);(try simp only [List.map_nil,List.cons_append,List.nil_append]);refine pl_ ?_;intro ⟨i,v3,l3,z3⟩ ⟨j1,j2,j3⟩;(try simp only [List.map_nil,List.cons_append,List.nil_append]);simp only at j1 j2 j3))
  | refine g_ ?_
  | ((with_reducible refine And.intro ?_ ?_);(exact sv_tabD_dc))
  | (refine DW.cond (by rfl) ?_ ?_<;>(first | exact i0_ | (refine ic_ ?_;intro hb)))
  | ((with_reducible refine FVg_cases ?_ ?_)<;>(intro hb;rw [hb];revert hb;(first | exact i0_ | (refine i_ ?_;intro hb))))
  | refine r_ ?_
  | refine k_ ?_
  | ((first | ((with_reducible apply DW.drawJ (id:=11) 3 [0,2,3,4,5,6,7,8,9,10,11,12,13,20,38,55] [4,7,9] [1] [4] (hm:=by kernel_rfl) (hd:=by kernel_rfl) (hB:=by kernel_rfl) (hN:=by kernel_rfl));(focus (exact rfl));(repeat (with_reducible first | refine OnB.here ?_ | refine OnB.mid ?_ | refine OnB.next ?_))) | (refine DVJ.k_ rfl rfl rfl ?_) | (refine DVJ.f_ rfl rfl rfl ?_))<;>(simp (maxSteps:=1000000) (disch:=omega) only [push_cast,↓reduceIte,reduceCtorEq,Nat.reduceAdd,Nat.reduceMul,Nat.reduceLT,Nat.reduceLeDiff,Nat.reduceEqDiff,Nat.reduceSub,Int.reduceToNat,Int.reduceLT,Int.reduceLE,Int.reduceAdd,Int.reduceSub,Int.reduceMul,Int.reduceNeg,Nat.reduceBEq,Int.reduceBEq,Int.reduceBNe,Nat.reduceBNe,Int.reduceEq,encFence,encRoute,encCell,encDot,klS,klV]))
  | ((first | refine p_ (dotsD_dc _ _ _) ?_ (ha:=by exact sv_tabD_dc) | refine p_ (nG_dc _ _ _) ?_ (ha:=by exact sv_tabD_dc) | refine p_ (dotD_dc _ _ _) ?_ (ha:=by exact sv_tabD_dc) | refine p_ (textD_dc _ _ _) ?_ (ha:=by exact sv_tabD_dc));rintro d H1 ⟨rfl,rfl⟩<;>refine s_ ?_)
  | (refine p_ (manyN_dc _ _ _ _) ?_ (ha:=by exact sv_tabD_dc);rintro d H1 ⟨n0,z0,⟨hm0,hn0,hz0⟩,rfl,rfl⟩<;>refine s_ ?_)
  | refine o_ ?_
  | refine f_ ?_
  | (first | refine DVJ.ma_ rfl rfl rfl ?_ | refine DVJ.mb_ rfl rfl rfl ?_)
  | ((fail_if_success (have zz:=b2));with_reducible intro b2)
  | ((fail_if_success (have zz:=b3));with_reducible intro b3)
  | with_reducible intro b)
 all_goals first
 | (obtain ⟨q,rfl⟩:∃ q,n=q+1:=⟨n - 1,by omega⟩
    rw [iterL_s] at h1
    refine ⟨(q,b,l++[(fenR z).1],(fenR z).2),⟨h1,?_,Nat.le_trans (fenR_len z) h3⟩,?_,?_,?_⟩;(dsimp only;rw [List.length_append,List.length_singleton];omega);(dsimp only;omega);(simp [Sub,get,encFence,fenR]<;>first | done | (push_cast;omega) | fail);(dsimp only;(try simp only [List.map_append,List.map_cons,List.map_nil,encFence,fenR]);(exact sub_));done)
 | (obtain ⟨q,rfl⟩:∃ q,m=q+1:=⟨m - 1,by omega⟩
    rw [iterL_s] at k1
    refine ⟨(q,b,l2++[(routeD z2).1],(routeD z2).2),⟨k1,?_,Nat.le_trans (routeD_len z2) k3⟩,?_,?_,?_⟩;(dsimp only;rw [List.length_append,List.length_singleton];omega);(dsimp only;omega);(simp [Sub,get,encRoute,routeD]<;>first | done | (push_cast;omega) | fail);(dsimp only;(try simp only [List.map_append,List.map_cons,List.map_nil,encRoute,routeD]);(exact sub_));done)
 | (obtain ⟨q,rfl⟩:∃ q,i=q+1:=⟨i - 1,by omega⟩
    rw [iterL_s] at j1
    refine ⟨(q,b,l3++[(cellD z3).1],(cellD z3).2),⟨j1,?_,Nat.le_trans (cellD_len z3) j3⟩,?_,?_,?_⟩;(dsimp only;rw [List.length_append,List.length_singleton];omega);(dsimp only;omega);(simp [Sub,get,encCell,cellD,dS8,dS7,dS6,dS5,dS4,dS3,dS2,dS1]<;>first | done | (push_cast;omega) | fail);(dsimp only;(try simp only [List.map_append,List.map_cons,List.map_nil,encCell,cellD,dS8,dS7,dS6,dS5,dS4,dS3,dS2,dS1]);(exact sub_));done)
 | (have hi0:i=0:=by omega
    subst hi0
    rw [iterL_0] at j1
    have e:tabD s=(⟨(rowD 24 dotR s).1,l,l2,l3⟩,z3):=by unfold tabD;rw [<-h1,<-k1,<-j1]
    rw [e]
    refine ⟨_,_,le.agg (by repeat (first | exact Les.nil | refine Les.cons le.rfl_ ?_ | refine Les.cons (le.gs rfl) ?_ | refine Les.cons (le.gs List.map_nil.symm) ?_ | refine Les.cons (le.agg ?_) ?_)),⟨rfl,rfl⟩,?_⟩;(exact sub_);done)
 | (trace_state;fail)
end
end
end Go.Proofs.YtbmbcjmgjdnlnaaGreatDoor
