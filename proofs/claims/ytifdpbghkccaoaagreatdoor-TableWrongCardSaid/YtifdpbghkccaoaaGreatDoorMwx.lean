/- What Merge makes of two tables is what the document joins: no walk. -/
import Derived.Test.YtifdpbghkccaoaaGreatDoorMox
import Derived.Test.YtifdpbghkccaoaaGreatDoorMjx
import Derived.KernelRfl
import Derived.Test.YtifdpbghkccaoaaGreatDoorHtx
import Derived.Test.YtifdpbghkccaoaaGreatDoorKbx
import Derived.Test.YtifdpbghkccaoaaGreatDoorKux
import Derived.Test.YtifdpbghkccaoaaGreatDoorFp1x
import Derived.Test.YtifdpbghkccaoaaGreatDoorDd2x
import Derived.Test.YtifdpbghkccaoaaGreatDoorTc2x
import Derived.Test.YtifdpbghkccaoaaGreatDoorPtdx
import Derived.Test.YtifdpbghkccaoaaGreatDoorSsx
import Derived.Lib.LaidU8
import Derived.Handed
import Derived.Test.YtifdpbghkccaoaaGreatDoorEqx
namespace Go.Proofs.YtifdpbghkccaoaaGreatDoor
open Go.RowKit
set_option linter.unusedSimpArgs false
set_option linter.unusedVariables false
set_option linter.unusedSectionVars false
set_option maxHeartbeats 4000000
set_option maxRecDepth 100000
section
theorem fenceM_fe (t:TTable) (n e:Int):(fenceM t n e).fences=fenceS t.fences n e:=by unfold fenceM fenceS;split<;>rfl
theorem mergeFe_fe:∀ (l:List TFence) (t:TTable),(mergeFe t l).fences=l.foldl (fun fe f=>fenceS fe f.node f.epoch) t.fences
 | [],_=>rfl
 | f::l,t=>by
  show (mergeFe (fenceM t f.node f.epoch) l).fences=_
  rw [mergeFe_fe l,fenceM_fe];rfl
theorem fencesK_is {p q:TTable} (hp:TR p) (hq:TR q):FR (fencesK p.fences q.fences q.fences.length)/\∀ n e,fencedL (fencesK p.fences q.fences q.fences.length) n e=(fencedL p.fences n e||fencedL q.fences n e):=by
 have h:=mergeFe_is q.fences p hp.fences hq.fences.2
 rw [mergeFe_fe] at h
 unfold fencesK
 rw [List.take_length]
 exact ⟨h.1,h.2.1⟩
abbrev ln (r:TRoute):Int×Int×Str:=(r.dot.node,r.dot.epoch,r.filter)
theorem ln_eq {a b:TRoute}:ln a=ln b↔a.dot.node=b.dot.node/\a.dot.epoch=b.dot.epoch/\a.filter=b.filter:=by simp [ln]
theorem ln_own {a b:TRoute}:ownB a b.dot.node b.dot.epoch b.filter=true↔ln a=ln b:=by rw [own_iff,ln_eq]
theorem ln_n {a b:TRoute} (h:ln a=ln b) (hn:a.dot.n=b.dot.n):a=b:=by
 obtain ⟨h1,h2,h3⟩:=ln_eq.1 h
 obtain ⟨⟨a1,a2,a3⟩,a4⟩:=a;obtain ⟨⟨b1,b2,b3⟩,b4⟩:=b
 simp only at h1 h2 h3 hn;subst h1;subst h2;subst h3;subst hn;rfl
def fnd (l:List TRoute) (k:Int×Int×Str):Option TRoute:=l.find? fun r=>decide (ln r=k)
theorem fnd_some {l:List TRoute} {k:Int×Int×Str} {r:TRoute} (h:fnd l k=some r):r∈l/\ln r=k:=⟨List.mem_of_find?_eq_some h,by simpa using List.find?_some h⟩
theorem fnd_none {l:List TRoute} {k:Int×Int×Str}:fnd l k=none↔∀ r∈l,ln r≠k:=by unfold fnd;rw [List.find?_eq_none];simp
theorem fnd_of {l:List TRoute} (h:l.Pairwise lineNe) {r:TRoute} (hr:r∈l):fnd l (ln r)=some r:=by
 cases hf:fnd l (ln r) with
 | none=>exact absurd rfl (fnd_none.1 hf r hr)
 | some x =>
  obtain ⟨h1,h2⟩:=fnd_some hf
  rw [lines_one h hr h1 (ln_own.2 h2)]
theorem look_all:∀ (l:List TRoute) (L:LMap) (k:Int×Int×Str),l.Pairwise lineNe->lookA k (l.foldl (fun L r=>updA (ln r) r L) L)=match fnd l k with | some r=>some r | none=>lookA k L
 | [],L,k,_=>rfl
 | r::l,L,k,h=>by
  have hh:=List.pairwise_cons.1 h
  rw [List.foldl_cons,look_all l _ k hh.2]
  by_cases hk:ln r=k
  · have h1:fnd (r::l) k=some r:=by unfold fnd;rw [List.find?_cons_of_pos (by simpa using hk)]
    have h2:fnd l k=none:=fnd_none.2 fun x hx e=>hh.1 x hx (ln_eq.1 (hk.trans e.symm))
    rw [h1,h2];simp only
    rw [lookA_upd,if_pos hk.symm]
  · have h1:fnd (r::l) k=fnd l k:=by unfold fnd;rw [List.find?_cons_of_neg (by simpa using hk)]
    rw [h1]
    cases fnd l k with
    | some x=>rfl
    | none=>simp only;rw [lookA_upd,if_neg (fun e=>hk e.symm)]
theorem look_byLine {ro:List TRoute} (h:ro.Pairwise lineNe) (k:Int×Int×Str):lookA k (byLine ro ro.length)=fnd ro k:=by
 unfold byLine
 rw [List.take_length,look_all ro [] k h]
 cases fnd ro k<;>rfl
def leftV (q:TTable) (r:TRoute) (o:Option TRoute):Option TRoute:=match fnd q.routes (ln r) with
 | some g=>some (if r.dot.n<g.dot.n then g else r)
 | none=>if hasB q.seen r.dot=true then o else some r
theorem look_leftS {q:TTable} (hq:q.routes.Pairwise lineNe) (L:LMap) (r:TRoute) (k:Int×Int×Str):lookA k (leftS q L r)=if k=ln r then leftV q r (lookA k L) else lookA k L:=by
 unfold leftS leftV
 rw [look_byLine hq (ln r)]
 cases fnd q.routes (ln r) with
 | some g=>simp only;rw [lookA_upd]
 | none =>
  simp only
  split
  · split<;>rfl
  · rw [lookA_upd]
theorem look_left {q:TTable} (hq:q.routes.Pairwise lineNe):∀ (l:List TRoute) (L:LMap) (k:Int×Int×Str),l.Pairwise lineNe->lookA k (l.foldl (leftS q) L)=match fnd l k with | some r=>leftV q r (lookA k L) | none=>lookA k L
 | [],L,k,_=>rfl
 | r::l,L,k,h=>by
  have hh:=List.pairwise_cons.1 h
  rw [List.foldl_cons,look_left hq l _ k hh.2]
  by_cases hk:ln r=k
  · have h1:fnd (r::l) k=some r:=by unfold fnd;rw [List.find?_cons_of_pos (by simpa using hk)]
    have h2:fnd l k=none:=fnd_none.2 fun x hx e=>hh.1 x hx (ln_eq.1 (hk.trans e.symm))
    rw [h1,h2];simp only
    rw [look_leftS hq,if_pos hk.symm]
  · have h1:fnd (r::l) k=fnd l k:=by unfold fnd;rw [List.find?_cons_of_neg (by simpa using hk)]
    rw [h1]
    have h3:lookA k (leftS q L r)=lookA k L:=by rw [look_leftS hq,if_neg (fun e=>hk e.symm)]
    rw [h3]
theorem look_out {p q:TTable} (hp:p.routes.Pairwise lineNe) (hq:q.routes.Pairwise lineNe) (k:Int×Int×Str) :
  lookA k (outK p q)=match fnd q.routes k with
   | some g=>leftV p g (match fnd p.routes k with | some r=>leftV q r none | none=>none)
   | none=>match fnd p.routes k with | some r=>leftV q r none | none=>none:=by
 unfold outK leftK
 rw [List.take_length,List.take_length,look_left hp _ _ _ hq,look_left hq _ _ _ hp]
 rfl
theorem leftS_key {q:TTable} (hq:q.routes.Pairwise lineNe) {L:LMap} (hL:(∀ x∈L,x.1=ln x.2)/\(L.map (·.1)).Nodup) (r:TRoute):(∀ x∈leftS q L r,x.1=ln x.2)/\((leftS q L r).map (·.1)).Nodup:=by
 have key:∀ v:TRoute,ln v=ln r->(∀ x∈updA (ln r) v L,x.1=ln x.2)/\((updA (ln r) v L).map (·.1)).Nodup:=fun v hv=>by
  have hn:=updA_nodup (k:=ln r) (v:=v) hL.2
  refine ⟨fun x hx=>?_,hn⟩
  by_cases hk:x.1=ln r
  · have h1:lookA x.1 (updA (ln r) v L)=some x.2:=lookA_mem hn hx
    rw [lookA_upd,if_pos hk] at h1
    rw [hk,<-Option.some.inj h1];exact hv.symm
  · have h1:lookA x.1 (updA (ln r) v L)=some x.2:=lookA_mem hn hx
    rw [lookA_upd,if_neg hk] at h1
    exact hL.1 _ (lookA_some h1)
 unfold leftS
 rw [look_byLine hq (ln r)]
 cases hf:fnd q.routes (ln r) with
 | some g =>
  simp only
  refine key _ ?_
  split
  · exact (fnd_some hf).2
  · rfl
 | none =>
  simp only
  split
  · exact hL
  · exact key r rfl
theorem outK_key {p q:TTable} (hp:p.routes.Pairwise lineNe) (hq:q.routes.Pairwise lineNe):(∀ x∈outK p q,x.1=ln x.2)/\((outK p q).map (·.1)).Nodup:=by
 unfold outK leftK
 refine fold_inv (P:=fun L:LMap=>(∀ x∈L,x.1=ln x.2)/\(L.map (·.1)).Nodup) ?_ fun L r _ hL=>leftS_key hp hL r
 exact fold_inv (b:=([]:LMap)) (P:=fun L:LMap=>(∀ x∈L,x.1=ln x.2)/\(L.map (·.1)).Nodup) ⟨fun x h=>absurd h List.not_mem_nil,List.nodup_nil⟩ fun L r _ hL=>leftS_key hq hL r
theorem outK_iff {p q:TTable} (hp:p.routes.Pairwise lineNe) (hq:q.routes.Pairwise lineNe) (r:TRoute):(∃ x∈outK p q,x.2=r)↔lookA (ln r) (outK p q)=some r:=by
 obtain ⟨h1,h2⟩:=outK_key hp hq
 constructor
 · rintro ⟨x,hx,rfl⟩
   rw [<-h1 x hx];exact lookA_mem h2 hx
 · intro h
   exact ⟨_,lookA_some h,rfl⟩
theorem keep_iff {se:List TDot} {l:List TRoute} (h:l.Pairwise lineNe) {r:TRoute}:keepR se l r=true↔match fnd l (ln r) with | some o=>o.dot.n<=r.dot.n | none=>hasB se r.dot=false:=by
 rw [keepR_iff h]
 cases hf:fnd l (ln r) with
 | some o =>
  obtain ⟨h1,h2⟩:=fnd_some hf
  simp only
  constructor
  · rintro (⟨x,hx,ho,hn⟩ | ⟨hno,_⟩)
    · rw [<-lines_one h hx h1 (ln_own.2 (h2.trans (ln_own.1 ho).symm))] at hn;exact hn
    · have:=hno o h1
      rw [ln_own.2 h2] at this;exact absurd this (by decide)
  · exact fun hn=>.inl ⟨o,h1,ln_own.2 h2,hn⟩
 | none =>
  have h0:=fnd_none.1 hf
  simp only
  constructor
  · rintro (⟨x,hx,ho,_⟩ | ⟨_,hh⟩)
    · exact absurd (ln_own.1 ho) (h0 x hx)
    · exact hh
  · refine fun hh=>.inr ⟨fun o ho=>?_,hh⟩
    cases hb:ownB o r.dot.node r.dot.epoch r.filter with
    | false=>rfl
    | true=>exact absurd (ln_own.1 hb) (h0 o ho)
theorem out_mem {p q:TTable} (hp:p.routes.Pairwise lineNe) (hq:q.routes.Pairwise lineNe) (r:TRoute):(∃ x∈outK p q,x.2=r)↔(r∈p.routes/\keepR q.seen q.routes r=true)\/(r∈q.routes/\keepR p.seen p.routes r=true):=by
 rw [outK_iff hp hq,look_out hp hq,keep_iff hq,keep_iff hp]
 have mp:r∈p.routes↔fnd p.routes (ln r)=some r:=⟨fnd_of hp,fun h=>(fnd_some h).1⟩
 have mq:r∈q.routes↔fnd q.routes (ln r)=some r:=⟨fnd_of hq,fun h=>(fnd_some h).1⟩
 rw [mp,mq]
 cases hfp:fnd p.routes (ln r) with
 | none =>
  cases hfq:fnd q.routes (ln r) with
  | none=>simp
  | some g =>
   have hg:=(fnd_some hfq).2
   have e1:fnd p.routes (ln g)=none:=by rw [hg];exact hfp
   simp only [leftV,e1]
   cases hh:hasB p.seen g.dot with
   | true =>
    simp only [if_true]
    constructor
    · exact fun h=>nomatch h
    · rintro (⟨h,_⟩ | ⟨h,hk⟩)
      · exact nomatch h
      · rw [<-Option.some.inj h,hh] at hk;exact absurd hk (by decide)
   | false =>
    simp only [Bool.false_eq_true,if_false]
    constructor
    · intro h;exact .inr ⟨h,by rw [<-Option.some.inj h];exact hh⟩
    · rintro (⟨h,_⟩ | ⟨h,_⟩)
      · exact nomatch h
      · exact h
 | some a =>
  have ha:=(fnd_some hfp).2
  have e2:fnd p.routes (ln a)=some a:=by rw [ha];exact hfp
  cases hfq:fnd q.routes (ln r) with
  | none =>
   have e1:fnd q.routes (ln a)=none:=by rw [ha];exact hfq
   simp only [leftV,e1]
   cases hh:hasB q.seen a.dot with
   | true =>
    simp only [if_true]
    constructor
    · exact fun h=>nomatch h
    · rintro (⟨h,hk⟩ | ⟨h,_⟩)
      · rw [<-Option.some.inj h,hh] at hk;exact absurd hk (by decide)
      · exact nomatch h
   | false =>
    simp only [Bool.false_eq_true,if_false]
    constructor
    · intro h;exact .inl ⟨h,by rw [<-Option.some.inj h];exact hh⟩
    · rintro (⟨h,_⟩ | ⟨h,_⟩)
      · exact h
      · exact nomatch h
  | some g =>
   have hg:=(fnd_some hfq).2
   have e3:fnd p.routes (ln g)=some a:=by rw [hg];exact hfp
   simp only [leftV,e3]
   constructor
   · intro h
     split at h
     · rename_i hlt
       have:=Option.some.inj h
       subst this
       exact .inl ⟨rfl,by omega⟩
     · rename_i hlt
       have:=Option.some.inj h
       subst this
       exact .inr ⟨rfl,by omega⟩
   · rintro (⟨h,hk⟩ | ⟨h,hk⟩)
     · have:=Option.some.inj h
       subst this
       split
       · rfl
       · have:g=a:=ln_n (hg.trans ha.symm) (by omega)
         rw [this]
     · have:=Option.some.inj h
       subst this
       rw [if_neg (by omega)]
end
section
attribute [local irreducible] DW SeqD DV DOp DC DVX DVJ tableB joinM fencesK outK liveL fencedL
theorem sv_pmergeB_dc {p:Prop} (h:p:=by first | exact sv | exact hRp | exact hRq | exact hP4 | exact hQ4 | fail):p:=h
theorem s_pmergeB_dc {P Q:Prop} (q:Q) (h:Hid Q->P:=by (intro q;simp (maxSteps:=1000000) (disch:=omega) only [push_cast,↓reduceIte,reduceCtorEq,Nat.reduceAdd,Nat.reduceMul,Nat.reduceLT,Nat.reduceLeDiff,Nat.reduceEqDiff,Nat.reduceSub,Int.reduceToNat,Int.reduceLT,Int.reduceLE,Int.reduceAdd,Int.reduceSub,Int.reduceMul,Int.reduceNeg,Nat.reduceBEq,Int.reduceBEq,Int.reduceBNe,Nat.reduceBNe,Int.reduceEq,hp,hq,look_nil,upd_nil,look_str,upd_str,drop_str,opt_bool,opt_int,opt_some,entM_nil,entM_len,look_dot,upd_dot,look_line,upd_line,keyS_63,keyS0_63,zeroD_68,keyS_80,keyS0_80,zeroD_4,keyS_81,keyS0_81,keyS_113,keyS0_113,zeroD_76];exact q.1)):P:=h ⟨q⟩
section
attribute [local push_cast 2000] look_nil upd_nil look_str upd_str drop_str opt_bool opt_int opt_some entM_nil entM_len look_dot upd_dot look_line upd_line keyS_63 keyS0_63 zeroD_68 keyS_80 keyS0_80 zeroD_4 keyS_81 keyS0_81 keyS_113 keyS0_113 zeroD_76
theorem pmergeB_dc (p q:TTable) (m:Int) (F:Own):(Lite 100000000 p/\Lite 100000000 q/\tabB p=false/\tabB q=false)->DC Tryz.prog 10 [.agg [.sl (p.seen.map encDot), .sl (p.fences.map encFence), .sl (p.routes.map encRoute), .sl (p.cells.map encCell)], .agg [.sl (q.seen.map encDot), .sl (q.fences.map encFence), .sl (q.routes.map encRoute), .sl (q.cells.map encCell)]] ([knF,knA,knM m]++F) fun d G=>d = .agg [.gs (.slice none 0 0) [], .gs (.slice none 0 0) [], .gs (.slice none 0 0) [], .gs (.slice none 0 0) []]/\G=[knF,knA,knM m]++F:=by
 intro hA
 obtain ⟨hLp,hLq,hp,hq⟩:=hA
 refine DC.bodyS (n_:=101) (show Tryz.prog.funcs[10]? = some Tryz.f10 by kernel_rfl) rfl rfl (by rfl) ?_
 simp only [env0,List.cons_append,List.nil_append]
 have kw:=ksIs [0,1,2,3,4,5,6,7,9,10,12,17,25,30,48,49,50,51,71,73,84,96]
 have ow:=ownIs []
 have dw1:=drIs 1 [] [0,1,2,3]
 have rw_:=rsIs [.cell 4 32]
 unfold tabB at hp hq
 have hRp:=r3_of hLp
 have hRq:=r3_of hLq
 have hP4:=p4_of hLp
 have hQ4:=p4_of hLq
 repeat' (first
  | ((with_reducible apply DW.frzRO);(repeat (with_reducible first | apply OnA.here | apply OnA.next));refine ⟨rfl,by decide,(by intro y hy;obtain ⟨x,_,rfl⟩:=List.mem_map.1 hy;rfl),?_,?_,?_⟩;(focus (repeat (first | exact CvE.nil | apply CvE.cons (Cv.hit _) | apply CvE.cons (Cv.rfl _))));(focus ((repeat (first | apply CvO.blk _ (by repeat (first | exact CvL.nil | apply CvL.cons (Cv.hit _) | apply CvL.cons (Cv.rfl _))) | apply CvO.keep | exact CvO.rfl_ _ _ _)))))
  | refine g_ ?_
  | ((with_reducible refine And.intro ?_ ?_);(exact sv_pmergeB_dc))
  | (refine DW.cond (by rfl) ?_ ?_<;>(first | exact i0_ | (intro hb;(try simp only [↓reduceCtorEq,not_true_eq_false,not_false_eq_true,hbs,Int.reduceBEq,Int.reduceBNe,Int.reduceEq] at hb);(try refine s_pmergeB_dc ?_))))
  | ((with_reducible first | refine FVg_cases ?_ ?_ | refine FDg_cases ?_ ?_)<;>(intro hb;rw [hb];revert hb;(first | exact i0_ | (intro hb;(try simp only [↓reduceCtorEq,not_true_eq_false,not_false_eq_true,hbs,Int.reduceBEq,Int.reduceBNe,Int.reduceEq] at hb);(try refine s_pmergeB_dc ?_)))))
  | ((refine Both.imp ?_ ?_)<;>(first | exact i0_ | (intro hb;(try simp only [↓reduceCtorEq,not_true_eq_false,not_false_eq_true,hbs,Int.reduceBEq,Int.reduceBNe,Int.reduceEq] at hb);(try refine s_pmergeB_dc ?_))))
  | ((first | refine rn_ ?_ | refine dn_ ?_ | refine kn_ ?_)<;>(refine s_pmergeB_dc ?_))
  | ((refine dm_ ?_);(first | (refine v_ (ptright_dc _ _ _ _ _ _) ?_ (ha:=by exact sv_pmergeB_dc) (hk:=fun q=>q.1);refine s_pmergeB_dc ?_)))
  | ((refine von_ ?_);refine s_pmergeB_dc ?_)
  | ((first | ((with_reducible refine DW.drawX (id:=8) [0,1,2,3,4,5,6,7,9,10,12,17,25,30,48,49,50,51,71,73,84,96] [4,7,10,13] 12 32 (some 7) (by kernel_rfl) (by kernel_rfl) (by kernel_rfl) (by kernel_rfl) rfl (by kernel_rfl) ?_ ?_)) | (refine DVX.fl_ rfl rfl rfl ?_) | (refine DVX.f_ rfl rfl (by decide) ?_) | ((refine DVX.mv_ rfl rfl (by decide) ?_);intro X;(try simp only [List.cons_append,List.nil_append]);(first | (refine qq_ (ptright_dc _ _ _ _ _ _) ?_ (ha:=by exact sv_pmergeB_dc);rintro d rfl) | (refine p_ (copy_dc _ _ _ _ _) ?_ (ha:=by exact sv_pmergeB_dc);rintro d H1 ⟨v1,v2,v3,v4,rfl,rfl⟩) | ((refine DOp.load_ rfl rfl ?_);(repeat (with_reducible first | refine OnB.here ?_ | refine OnB.mid ?_ | refine OnB.next ?_));(refine And.intro (by simp (maxSteps:=1000000) (disch:=omega) only [push_cast,↓reduceIte,reduceCtorEq,Nat.reduceAdd,Nat.reduceMul,Nat.reduceLT,Nat.reduceLeDiff,Nat.reduceEqDiff,Nat.reduceSub,Int.reduceToNat,Int.reduceLT,Int.reduceLE,Int.reduceAdd,Int.reduceSub,Int.reduceMul,Int.reduceNeg,Nat.reduceBEq,Int.reduceBEq,Int.reduceBNe,Nat.reduceBNe,Int.reduceEq,hp,hq,look_nil,upd_nil,look_str,upd_str,drop_str,opt_bool,opt_int,opt_some,entM_nil,entM_len,look_dot,upd_dot,look_line,upd_line,keyS_63,keyS0_63,zeroD_68,keyS_80,keyS0_80,zeroD_4,keyS_81,keyS0_81,keyS_113,keyS0_113,zeroD_76]) ?_)));(try simp only [List.cons_append,List.nil_append]);(repeat (with_reducible first | refine PXK.base ?_ | refine PXK.none ?_ | refine PXK.cons ?_))) | (refine DOp.lenm_ rfl rfl ?_;(repeat (with_reducible first | refine OnM.here ?_ | refine OnM.next ?_))) | (refine DOp.rangem_ rfl rfl ?_;(repeat (with_reducible first | refine OnM.here ?_ | refine OnM.next ?_))) | (refine DOp.nextm_ (t:=0) rfl rfl ?_;(repeat (with_reducible first | refine OnG.here ?_ | refine OnG.next ?_))) | (refine DOp.entrym_ rfl rfl ?_;(repeat (with_reducible first | refine OnG.here ?_ | refine OnG.next ?_))))<;>(simp (maxSteps:=1000000) (disch:=omega) only [push_cast,↓reduceIte,reduceCtorEq,Nat.reduceAdd,Nat.reduceMul,Nat.reduceLT,Nat.reduceLeDiff,Nat.reduceEqDiff,Nat.reduceSub,Int.reduceToNat,Int.reduceLT,Int.reduceLE,Int.reduceAdd,Int.reduceSub,Int.reduceMul,Int.reduceNeg,Nat.reduceBEq,Int.reduceBEq,Int.reduceBNe,Nat.reduceBNe,Int.reduceEq,hp,hq,look_nil,upd_nil,look_str,upd_str,drop_str,opt_bool,opt_int,opt_some,entM_nil,entM_len,look_dot,upd_dot,look_line,upd_line,keyS_63,keyS0_63,zeroD_68,keyS_80,keyS0_80,zeroD_4,keyS_81,keyS0_81,keyS_113,keyS0_113,zeroD_76]))
  | (refine q_ (ptright_dc _ _ _ _ _ _) ?_ (ha:=by exact sv_pmergeB_dc) (hk:=fun q=>q.1);refine s_pmergeB_dc ?_)
  | (refine p_ (copy_dc _ _ _ _ _) ?_ (ha:=by exact sv_pmergeB_dc);rintro d H1 ⟨v1,v2,v3,v4,rfl,rfl⟩<;>refine s_pmergeB_dc ?_)
  | ((refine on_ ?_);refine s_pmergeB_dc ?_)
  | refine f_ ?_
  | refine vm_ ?_
  | ((fail_if_success (have zz:=b4));with_reducible intro b4)
  | with_reducible intro b)
 all_goals first
 | ((first | exact fin_ | refine finq_ ?_);done)
 | ((refine ⟨_,_,?_,⟨rfl,rfl⟩,?_⟩;rotate_left;(exact sub_);refine le.agg ?_;(repeat (first | exact Les.nil | refine Les.cons le.rfl_ ?_ | refine Les.cons (le.gs rfl) ?_ | refine Les.cons (le.gs List.map_nil.symm) ?_ | refine Les.cons (le.agg ?_) ?_));done))
 | (trace_state;fail)
end
theorem sv_pmergeL_dc {p:Prop} (h:p:=by first | exact sv | exact hRp | exact hRq | exact hP4 | exact hQ4 | fail):p:=h
theorem s_pmergeL_dc {P Q:Prop} (q:Q) (h:Hid Q->P:=by (intro q;simp (maxSteps:=1000000) (disch:=omega) only [push_cast,↓reduceIte,reduceCtorEq,Nat.reduceAdd,Nat.reduceMul,Nat.reduceLT,Nat.reduceLeDiff,Nat.reduceEqDiff,Nat.reduceSub,Int.reduceToNat,Int.reduceLT,Int.reduceLE,Int.reduceAdd,Int.reduceSub,Int.reduceMul,Int.reduceNeg,Nat.reduceBEq,Int.reduceBEq,Int.reduceBNe,Nat.reduceBNe,Int.reduceEq,hp,hq,look_nil,upd_nil,look_str,upd_str,drop_str,opt_bool,opt_int,opt_some,entM_nil,entM_len,look_dot,upd_dot,look_line,upd_line,keyS_63,keyS0_63,zeroD_68,keyS_80,keyS0_80,zeroD_4,keyS_81,keyS0_81,keyS_113,keyS0_113,zeroD_76];exact q.1)):P:=h ⟨q⟩
section
attribute [local push_cast 2000] look_nil upd_nil look_str upd_str drop_str opt_bool opt_int opt_some entM_nil entM_len look_dot upd_dot look_line upd_line keyS_63 keyS0_63 zeroD_68 keyS_80 keyS0_80 zeroD_4 keyS_81 keyS0_81 keyS_113 keyS0_113 zeroD_76
theorem pmergeL_dc (p q:TTable) (m:Int) (F:Own):(Lite 100000000 p/\Lite 100000000 q/\tabB p=false/\tabB q=true)->DC Tryz.prog 10 [.agg [.sl (p.seen.map encDot), .sl (p.fences.map encFence), .sl (p.routes.map encRoute), .sl (p.cells.map encCell)], .agg [.sl (q.seen.map encDot), .sl (q.fences.map encFence), .sl (q.routes.map encRoute), .sl (q.cells.map encCell)]] ([knF,knA,knM m]++F) fun d G=>d = .agg [.sl (q.seen.map encDot), .sl (q.fences.map encFence), .sl (q.routes.map encRoute), .sl (q.cells.map encCell)]/\G=[knF,knA,knM m]++F:=by
 intro hA
 obtain ⟨hLp,hLq,hp,hq⟩:=hA
 refine DC.bodyS (n_:=101) (show Tryz.prog.funcs[10]? = some Tryz.f10 by kernel_rfl) rfl rfl (by rfl) ?_
 simp only [env0,List.cons_append,List.nil_append]
 have kw:=ksIs [0,1,2,3,4,5,6,7,9,10,12,17,25,30,48,49,50,51,71,73,84,96]
 have ow:=ownIs []
 have dw1:=drIs 1 [] [0,1,2,3]
 have rw_:=rsIs [.cell 4 32]
 unfold tabB at hp hq
 have hRp:=r3_of hLp
 have hRq:=r3_of hLq
 have hP4:=p4_of hLp
 have hQ4:=p4_of hLq
 repeat' (first
  | ((with_reducible apply DW.frzRO);(repeat (with_reducible first | apply OnA.here | apply OnA.next));refine ⟨rfl,by decide,(by intro y hy;obtain ⟨x,_,rfl⟩:=List.mem_map.1 hy;rfl),?_,?_,?_⟩;(focus (repeat (first | exact CvE.nil | apply CvE.cons (Cv.hit _) | apply CvE.cons (Cv.rfl _))));(focus ((repeat (first | apply CvO.blk _ (by repeat (first | exact CvL.nil | apply CvL.cons (Cv.hit _) | apply CvL.cons (Cv.rfl _))) | apply CvO.keep | exact CvO.rfl_ _ _ _)))))
  | refine g_ ?_
  | ((with_reducible refine And.intro ?_ ?_);(exact sv_pmergeL_dc))
  | (refine DW.cond (by rfl) ?_ ?_<;>(first | exact i0_ | (intro hb;(try simp only [↓reduceCtorEq,not_true_eq_false,not_false_eq_true,hbs,Int.reduceBEq,Int.reduceBNe,Int.reduceEq] at hb);(try refine s_pmergeL_dc ?_))))
  | ((with_reducible first | refine FVg_cases ?_ ?_ | refine FDg_cases ?_ ?_)<;>(intro hb;rw [hb];revert hb;(first | exact i0_ | (intro hb;(try simp only [↓reduceCtorEq,not_true_eq_false,not_false_eq_true,hbs,Int.reduceBEq,Int.reduceBNe,Int.reduceEq] at hb);(try refine s_pmergeL_dc ?_)))))
  | ((refine Both.imp ?_ ?_)<;>(first | exact i0_ | (intro hb;(try simp only [↓reduceCtorEq,not_true_eq_false,not_false_eq_true,hbs,Int.reduceBEq,Int.reduceBNe,Int.reduceEq] at hb);(try refine s_pmergeL_dc ?_))))
  | ((first | refine rn_ ?_ | refine dn_ ?_ | refine kn_ ?_)<;>(refine s_pmergeL_dc ?_))
  | ((refine dm_ ?_);(first | (refine v_ (ptright_dc _ _ _ _ _ _) ?_ (ha:=by exact sv_pmergeL_dc) (hk:=fun q=>q.1);refine s_pmergeL_dc ?_)))
  | ((refine von_ ?_);refine s_pmergeL_dc ?_)
  | ((first | ((with_reducible refine DW.drawX (id:=8) [0,1,2,3,4,5,6,7,9,10,12,17,25,30,48,49,50,51,71,73,84,96] [4,7,10,13] 12 32 (some 7) (by kernel_rfl) (by kernel_rfl) (by kernel_rfl) (by kernel_rfl) rfl (by kernel_rfl) ?_ ?_)) | (refine DVX.fl_ rfl rfl rfl ?_) | (refine DVX.f_ rfl rfl (by decide) ?_) | ((refine DVX.mv_ rfl rfl (by decide) ?_);intro X;(try simp only [List.cons_append,List.nil_append]);(first | (refine qq_ (ptright_dc _ _ _ _ _ _) ?_ (ha:=by exact sv_pmergeL_dc);rintro d rfl) | (refine p_ (copy_dc _ _ _ _ _) ?_ (ha:=by exact sv_pmergeL_dc);rintro d H1 ⟨v1,v2,v3,v4,rfl,rfl⟩) | ((refine DOp.load_ rfl rfl ?_);(repeat (with_reducible first | refine OnB.here ?_ | refine OnB.mid ?_ | refine OnB.next ?_));(refine And.intro (by simp (maxSteps:=1000000) (disch:=omega) only [push_cast,↓reduceIte,reduceCtorEq,Nat.reduceAdd,Nat.reduceMul,Nat.reduceLT,Nat.reduceLeDiff,Nat.reduceEqDiff,Nat.reduceSub,Int.reduceToNat,Int.reduceLT,Int.reduceLE,Int.reduceAdd,Int.reduceSub,Int.reduceMul,Int.reduceNeg,Nat.reduceBEq,Int.reduceBEq,Int.reduceBNe,Nat.reduceBNe,Int.reduceEq,hp,hq,look_nil,upd_nil,look_str,upd_str,drop_str,opt_bool,opt_int,opt_some,entM_nil,entM_len,look_dot,upd_dot,look_line,upd_line,keyS_63,keyS0_63,zeroD_68,keyS_80,keyS0_80,zeroD_4,keyS_81,keyS0_81,keyS_113,keyS0_113,zeroD_76]) ?_)));(try simp only [List.cons_append,List.nil_append]);(repeat (with_reducible first | refine PXK.base ?_ | refine PXK.none ?_ | refine PXK.cons ?_))) | (refine DOp.lenm_ rfl rfl ?_;(repeat (with_reducible first | refine OnM.here ?_ | refine OnM.next ?_))) | (refine DOp.rangem_ rfl rfl ?_;(repeat (with_reducible first | refine OnM.here ?_ | refine OnM.next ?_))) | (refine DOp.nextm_ (t:=0) rfl rfl ?_;(repeat (with_reducible first | refine OnG.here ?_ | refine OnG.next ?_))) | (refine DOp.entrym_ rfl rfl ?_;(repeat (with_reducible first | refine OnG.here ?_ | refine OnG.next ?_))))<;>(simp (maxSteps:=1000000) (disch:=omega) only [push_cast,↓reduceIte,reduceCtorEq,Nat.reduceAdd,Nat.reduceMul,Nat.reduceLT,Nat.reduceLeDiff,Nat.reduceEqDiff,Nat.reduceSub,Int.reduceToNat,Int.reduceLT,Int.reduceLE,Int.reduceAdd,Int.reduceSub,Int.reduceMul,Int.reduceNeg,Nat.reduceBEq,Int.reduceBEq,Int.reduceBNe,Nat.reduceBNe,Int.reduceEq,hp,hq,look_nil,upd_nil,look_str,upd_str,drop_str,opt_bool,opt_int,opt_some,entM_nil,entM_len,look_dot,upd_dot,look_line,upd_line,keyS_63,keyS0_63,zeroD_68,keyS_80,keyS0_80,zeroD_4,keyS_81,keyS0_81,keyS_113,keyS0_113,zeroD_76]))
  | (refine q_ (ptright_dc _ _ _ _ _ _) ?_ (ha:=by exact sv_pmergeL_dc) (hk:=fun q=>q.1);refine s_pmergeL_dc ?_)
  | (refine p_ (copy_dc _ _ _ _ _) ?_ (ha:=by exact sv_pmergeL_dc);rintro d H1 ⟨v1,v2,v3,v4,rfl,rfl⟩<;>refine s_pmergeL_dc ?_)
  | ((refine on_ ?_);refine s_pmergeL_dc ?_)
  | refine f_ ?_
  | refine vm_ ?_
  | ((fail_if_success (have zz:=b4));with_reducible intro b4)
  | with_reducible intro b)
 all_goals first
 | ((first | exact fin_ | refine finq_ ?_);done)
 | ((refine ⟨_,_,?_,⟨rfl,rfl⟩,?_⟩;rotate_left;(exact sub_);refine le.agg ?_;(repeat (first | exact Les.nil | refine Les.cons le.rfl_ ?_ | refine Les.cons (le.gs rfl) ?_ | refine Les.cons (le.gs List.map_nil.symm) ?_ | refine Les.cons (le.agg ?_) ?_));done))
 | (trace_state;fail)
end
theorem sv_pmergeR_dc {p:Prop} (h:p:=by first | exact sv | exact hRp | exact hRq | exact hP4 | exact hQ4 | fail):p:=h
theorem s_pmergeR_dc {P Q:Prop} (q:Q) (h:Hid Q->P:=by (intro q;simp (maxSteps:=1000000) (disch:=omega) only [push_cast,↓reduceIte,reduceCtorEq,Nat.reduceAdd,Nat.reduceMul,Nat.reduceLT,Nat.reduceLeDiff,Nat.reduceEqDiff,Nat.reduceSub,Int.reduceToNat,Int.reduceLT,Int.reduceLE,Int.reduceAdd,Int.reduceSub,Int.reduceMul,Int.reduceNeg,Nat.reduceBEq,Int.reduceBEq,Int.reduceBNe,Nat.reduceBNe,Int.reduceEq,hp,hq,look_nil,upd_nil,look_str,upd_str,drop_str,opt_bool,opt_int,opt_some,entM_nil,entM_len,look_dot,upd_dot,look_line,upd_line,keyS_63,keyS0_63,zeroD_68,keyS_80,keyS0_80,zeroD_4,keyS_81,keyS0_81,keyS_113,keyS0_113,zeroD_76];exact q.1)):P:=h ⟨q⟩
section
attribute [local push_cast 2000] look_nil upd_nil look_str upd_str drop_str opt_bool opt_int opt_some entM_nil entM_len look_dot upd_dot look_line upd_line keyS_63 keyS0_63 zeroD_68 keyS_80 keyS0_80 zeroD_4 keyS_81 keyS0_81 keyS_113 keyS0_113 zeroD_76
theorem pmergeR_dc (p q:TTable) (m:Int) (F:Own):(Lite 100000000 p/\Lite 100000000 q/\tabB p=true/\tabB q=false)->DC Tryz.prog 10 [.agg [.sl (p.seen.map encDot), .sl (p.fences.map encFence), .sl (p.routes.map encRoute), .sl (p.cells.map encCell)], .agg [.sl (q.seen.map encDot), .sl (q.fences.map encFence), .sl (q.routes.map encRoute), .sl (q.cells.map encCell)]] ([knF,knA,knM m]++F) fun d G=>d = .agg [.sl (p.seen.map encDot), .sl (p.fences.map encFence), .sl (p.routes.map encRoute), .sl (p.cells.map encCell)]/\G=[knF,knA,knM m]++F:=by
 intro hA
 obtain ⟨hLp,hLq,hp,hq⟩:=hA
 refine DC.bodyS (n_:=101) (show Tryz.prog.funcs[10]? = some Tryz.f10 by kernel_rfl) rfl rfl (by rfl) ?_
 simp only [env0,List.cons_append,List.nil_append]
 have kw:=ksIs [0,1,2,3,4,5,6,7,9,10,12,17,25,30,48,49,50,51,71,73,84,96]
 have ow:=ownIs []
 have dw1:=drIs 1 [] [0,1,2,3]
 have rw_:=rsIs [.cell 4 32]
 unfold tabB at hp hq
 have hRp:=r3_of hLp
 have hRq:=r3_of hLq
 have hP4:=p4_of hLp
 have hQ4:=p4_of hLq
 repeat' (first
  | ((with_reducible apply DW.frzRO);(repeat (with_reducible first | apply OnA.here | apply OnA.next));refine ⟨rfl,by decide,(by intro y hy;obtain ⟨x,_,rfl⟩:=List.mem_map.1 hy;rfl),?_,?_,?_⟩;(focus (repeat (first | exact CvE.nil | apply CvE.cons (Cv.hit _) | apply CvE.cons (Cv.rfl _))));(focus ((repeat (first | apply CvO.blk _ (by repeat (first | exact CvL.nil | apply CvL.cons (Cv.hit _) | apply CvL.cons (Cv.rfl _))) | apply CvO.keep | exact CvO.rfl_ _ _ _)))))
  | refine g_ ?_
  | ((with_reducible refine And.intro ?_ ?_);(exact sv_pmergeR_dc))
  | (refine DW.cond (by rfl) ?_ ?_<;>(first | exact i0_ | (intro hb;(try simp only [↓reduceCtorEq,not_true_eq_false,not_false_eq_true,hbs,Int.reduceBEq,Int.reduceBNe,Int.reduceEq] at hb);(try refine s_pmergeR_dc ?_))))
  | ((with_reducible first | refine FVg_cases ?_ ?_ | refine FDg_cases ?_ ?_)<;>(intro hb;rw [hb];revert hb;(first | exact i0_ | (intro hb;(try simp only [↓reduceCtorEq,not_true_eq_false,not_false_eq_true,hbs,Int.reduceBEq,Int.reduceBNe,Int.reduceEq] at hb);(try refine s_pmergeR_dc ?_)))))
  | ((refine Both.imp ?_ ?_)<;>(first | exact i0_ | (intro hb;(try simp only [↓reduceCtorEq,not_true_eq_false,not_false_eq_true,hbs,Int.reduceBEq,Int.reduceBNe,Int.reduceEq] at hb);(try refine s_pmergeR_dc ?_))))
  | ((first | refine rn_ ?_ | refine dn_ ?_ | refine kn_ ?_)<;>(refine s_pmergeR_dc ?_))
  | ((refine dm_ ?_);(first | (refine v_ (ptright_dc _ _ _ _ _ _) ?_ (ha:=by exact sv_pmergeR_dc) (hk:=fun q=>q.1);refine s_pmergeR_dc ?_)))
  | ((refine von_ ?_);refine s_pmergeR_dc ?_)
  | ((first | ((with_reducible refine DW.drawX (id:=8) [0,1,2,3,4,5,6,7,9,10,12,17,25,30,48,49,50,51,71,73,84,96] [4,7,10,13] 12 32 (some 7) (by kernel_rfl) (by kernel_rfl) (by kernel_rfl) (by kernel_rfl) rfl (by kernel_rfl) ?_ ?_)) | (refine DVX.fl_ rfl rfl rfl ?_) | (refine DVX.f_ rfl rfl (by decide) ?_) | ((refine DVX.mv_ rfl rfl (by decide) ?_);intro X;(try simp only [List.cons_append,List.nil_append]);(first | (refine qq_ (ptright_dc _ _ _ _ _ _) ?_ (ha:=by exact sv_pmergeR_dc);rintro d rfl) | (refine p_ (copy_dc _ _ _ _ _) ?_ (ha:=by exact sv_pmergeR_dc);rintro d H1 ⟨v1,v2,v3,v4,rfl,rfl⟩) | ((refine DOp.load_ rfl rfl ?_);(repeat (with_reducible first | refine OnB.here ?_ | refine OnB.mid ?_ | refine OnB.next ?_));(refine And.intro (by simp (maxSteps:=1000000) (disch:=omega) only [push_cast,↓reduceIte,reduceCtorEq,Nat.reduceAdd,Nat.reduceMul,Nat.reduceLT,Nat.reduceLeDiff,Nat.reduceEqDiff,Nat.reduceSub,Int.reduceToNat,Int.reduceLT,Int.reduceLE,Int.reduceAdd,Int.reduceSub,Int.reduceMul,Int.reduceNeg,Nat.reduceBEq,Int.reduceBEq,Int.reduceBNe,Nat.reduceBNe,Int.reduceEq,hp,hq,look_nil,upd_nil,look_str,upd_str,drop_str,opt_bool,opt_int,opt_some,entM_nil,entM_len,look_dot,upd_dot,look_line,upd_line,keyS_63,keyS0_63,zeroD_68,keyS_80,keyS0_80,zeroD_4,keyS_81,keyS0_81,keyS_113,keyS0_113,zeroD_76]) ?_)));(try simp only [List.cons_append,List.nil_append]);(repeat (with_reducible first | refine PXK.base ?_ | refine PXK.none ?_ | refine PXK.cons ?_))) | (refine DOp.lenm_ rfl rfl ?_;(repeat (with_reducible first | refine OnM.here ?_ | refine OnM.next ?_))) | (refine DOp.rangem_ rfl rfl ?_;(repeat (with_reducible first | refine OnM.here ?_ | refine OnM.next ?_))) | (refine DOp.nextm_ (t:=0) rfl rfl ?_;(repeat (with_reducible first | refine OnG.here ?_ | refine OnG.next ?_))) | (refine DOp.entrym_ rfl rfl ?_;(repeat (with_reducible first | refine OnG.here ?_ | refine OnG.next ?_))))<;>(simp (maxSteps:=1000000) (disch:=omega) only [push_cast,↓reduceIte,reduceCtorEq,Nat.reduceAdd,Nat.reduceMul,Nat.reduceLT,Nat.reduceLeDiff,Nat.reduceEqDiff,Nat.reduceSub,Int.reduceToNat,Int.reduceLT,Int.reduceLE,Int.reduceAdd,Int.reduceSub,Int.reduceMul,Int.reduceNeg,Nat.reduceBEq,Int.reduceBEq,Int.reduceBNe,Nat.reduceBNe,Int.reduceEq,hp,hq,look_nil,upd_nil,look_str,upd_str,drop_str,opt_bool,opt_int,opt_some,entM_nil,entM_len,look_dot,upd_dot,look_line,upd_line,keyS_63,keyS0_63,zeroD_68,keyS_80,keyS0_80,zeroD_4,keyS_81,keyS0_81,keyS_113,keyS0_113,zeroD_76]))
  | (refine q_ (ptright_dc _ _ _ _ _ _) ?_ (ha:=by exact sv_pmergeR_dc) (hk:=fun q=>q.1);refine s_pmergeR_dc ?_)
  | (refine p_ (copy_dc _ _ _ _ _) ?_ (ha:=by exact sv_pmergeR_dc);rintro d H1 ⟨v1,v2,v3,v4,rfl,rfl⟩<;>refine s_pmergeR_dc ?_)
  | ((refine on_ ?_);refine s_pmergeR_dc ?_)
  | refine f_ ?_
  | refine vm_ ?_
  | ((fail_if_success (have zz:=b4));with_reducible intro b4)
  | with_reducible intro b)
 all_goals first
 | ((first | exact fin_ | refine finq_ ?_);done)
 | ((refine ⟨_,_,?_,⟨rfl,rfl⟩,?_⟩;rotate_left;(exact sub_);refine le.agg ?_;(repeat (first | exact Les.nil | refine Les.cons le.rfl_ ?_ | refine Les.cons (le.gs rfl) ?_ | refine Les.cons (le.gs List.map_nil.symm) ?_ | refine Les.cons (le.agg ?_) ?_));done))
 | (trace_state;fail)
end
end
section
def fndC (l:List TCell) (t:Str):Option TCell:=l.find? fun c=>decide (c.topic=t)
theorem fndC_some {l:List TCell} {t:Str} {c:TCell} (h:fndC l t=some c):c∈l/\c.topic=t:=⟨List.mem_of_find?_eq_some h,by simpa using List.find?_some h⟩
theorem fndC_none {l:List TCell} {t:Str}:fndC l t=none↔∀ c∈l,c.topic≠t:=by unfold fndC;rw [List.find?_eq_none];simp
abbrev Srt (l:List TCell):Prop:=l.Pairwise fun a b=>Op.bytesLess a.topic b.topic=true
theorem fndC_of {l:List TCell} (h:Srt l) {c:TCell} (hc:c∈l):fndC l c.topic=some c:=by
 cases hf:fndC l c.topic with
 | none=>exact absurd rfl (fndC_none.1 hf c hc)
 | some x =>
  obtain ⟨h1,h2⟩:=fndC_some hf
  rw [topics_one h hc h1 h2]
theorem srt_ne {l:List TCell} (h:Srt l):l.Pairwise fun a b=>a.topic≠b.topic:=h.imp fun {a b} hab e=>by rw [e,bl_irrefl] at hab;cases hab
theorem look_topics:∀ (l:List TCell) (L:CMap) (t:Str),(l.Pairwise fun a b=>a.topic≠b.topic)->lookA t (l.foldl (fun L c=>updA c.topic c L) L)=match fndC l t with | some c=>some c | none=>lookA t L
 | [],L,t,_=>rfl
 | r::l,L,t,h=>by
  have hh:=List.pairwise_cons.1 h
  rw [List.foldl_cons,look_topics l _ t hh.2]
  by_cases hk:r.topic=t
  · have h1:fndC (r::l) t=some r:=by unfold fndC;rw [List.find?_cons_of_pos (by simpa using hk)]
    have h2:fndC l t=none:=fndC_none.2 fun x hx e=>hh.1 x hx (hk.trans e.symm)
    rw [h1,h2];simp only
    rw [lookA_upd,if_pos hk.symm]
  · have h1:fndC (r::l) t=fndC l t:=by unfold fndC;rw [List.find?_cons_of_neg (by simpa using hk)]
    rw [h1]
    cases fndC l t with
    | some x=>rfl
    | none=>simp only;rw [lookA_upd,if_neg (fun e=>hk e.symm)]
theorem byTopic_key (ce:List TCell) (k:Nat):(∀ x∈byTopic ce k,x.1=x.2.topic)/\((byTopic ce k).map (·.1)).Nodup:=by
 unfold byTopic
 refine fold_inv (b:=([]:CMap)) (P:=fun L:CMap=>(∀ x∈L,x.1=x.2.topic)/\(L.map (·.1)).Nodup) ⟨fun x h=>absurd h List.not_mem_nil,List.nodup_nil⟩ fun L r _ hL=>?_
 have hn:=updA_nodup (k:=r.topic) (v:=r) hL.2
 refine ⟨fun x hx=>?_,hn⟩
 have h1:lookA x.1 (updA r.topic r L)=some x.2:=lookA_mem hn hx
 by_cases hk:x.1=r.topic
 · rw [lookA_upd,if_pos hk] at h1
   rw [hk,<-Option.some.inj h1]
 · rw [lookA_upd,if_neg hk] at h1
   exact hL.1 _ (lookA_some h1)
section
variable {p q:TTable} (hp:Srt p.cells) (hq:Srt q.cells)
theorem kM_key:∀ k,k<=p.cells.length->(∀ x∈kM p q k,x.1=x.2.topic)/\((kM p q k).map (·.1)).Nodup
 | 0,_=>byTopic_key _ _
 | k+1,h=>by
  rw [kM_s (by omega)]
  have:=kM_key k (by omega)
  exact ⟨fun x hx=>this.1 x (dropA_sub.subset hx),dropA_nodup this.2⟩
include hq in
theorem look_kM:∀ k,k<=p.cells.length->∀ t,lookA t (kM p q k)=if (∃ a∈p.cells.take k,a.topic=t) then none else fndC q.cells t
 | 0,_,t=>by
  rw [if_neg (by simp)]
  have:=look_topics q.cells [] t (srt_ne hq)
  show lookA t (byTopic q.cells q.cells.length)=_
  unfold byTopic
  rw [List.take_length,this]
  cases fndC q.cells t<;>rfl
 | k+1,h,t=>by
  rw [kM_s (by omega),lookA_drop (kM_key k (by omega)).2,look_kM k (by omega) t,take_more p.cells k (by omega)]
  by_cases ht:t=(p.cells.getD k default).topic
  · rw [if_pos ht,if_pos ⟨p.cells.getD k default,by simp,ht.symm⟩]
  · rw [if_neg ht]
    have e:(∃ a∈p.cells.take k,a.topic=t)↔(∃ a∈p.cells.take k++[p.cells.getD k default],a.topic=t):=by
     constructor
     · rintro ⟨a,ha,e⟩;exact ⟨a,List.mem_append_left _ ha,e⟩
     · rintro ⟨a,ha,e⟩
       rcases List.mem_append.1 ha with ha | ha
       · exact ⟨a,ha,e⟩
       · rw [List.mem_singleton.1 ha] at e;exact absurd e.symm ht
    simp only [e]
def cV (q:TTable) (a:TCell):Option TCell:=match fndC q.cells a.topic with
 | some g=>some (if newerM g a=true then g else a)
 | none=>if hasB q.seen a.dot=true then none else some a
include hp hq in
theorem look_at {k:Nat} (h:k<p.cells.length):lookA (p.cells.getD k default).topic (kM p q k)=fndC q.cells (p.cells.getD k default).topic:=by
 rw [look_kM hq k (by omega),if_neg]
 rintro ⟨a,ha,e⟩
 obtain ⟨i,hi,rfl⟩:=(mem_take_iff (by omega)).1 ha
 exact pw_at (srt_ne hp) (i:=i) (j:=k) hi h e
include hp hq in
theorem kR_s {k:Nat} (h:k<p.cells.length):kR p q (k+1)=kR p q k++(cV q (p.cells.getD k default)).toList:=by
 have hl:=look_at hp hq h
 unfold cV
 cases hf:fndC q.cells (p.cells.getD k default).topic with
 | some g =>
  rw [hf] at hl
  simp only
  cases hn:newerM g (p.cells.getD k default) with
  | true=>rw [kR_1 h hl hn];rfl
  | false=>rw [kR_2 h hl hn];rfl
 | none =>
  rw [hf] at hl
  simp only
  cases hh:hasB q.seen (p.cells.getD k default).dot with
  | true=>rw [kR_3 h hl hh];simp
  | false=>rw [kR_4 h hl hh];rfl
include hp hq in
theorem kR_mem {c:TCell}:∀ k,k<=p.cells.length->(c∈kR p q k↔∃ a∈p.cells.take k,cV q a=some c)
 | 0,_=>by simp [kR_0]
 | k+1,h=>by
  rw [kR_s hp hq (by omega),List.mem_append,kR_mem k (by omega),take_more p.cells k (by omega)]
  constructor
  · rintro (⟨a,ha,e⟩ | hc)
    · exact ⟨a,List.mem_append_left _ ha,e⟩
    · exact ⟨_,List.mem_append_right _ (List.mem_singleton.2 rfl),Option.mem_toList.1 hc⟩
  · rintro ⟨a,ha,e⟩
    rcases List.mem_append.1 ha with ha | ha
    · exact .inl ⟨a,ha,e⟩
    · rw [List.mem_singleton.1 ha] at e
      exact .inr (Option.mem_toList.2 e)
theorem cV_topic {a c:TCell} (h:cV q a=some c):c.topic=a.topic:=by
 unfold cV at h
 cases hf:fndC q.cells a.topic with
 | some g =>
  rw [hf] at h
  have:=Option.some.inj h
  rw [<-this]
  split
  · exact (fndC_some hf).2
  · rfl
 | none =>
  rw [hf] at h
  simp only at h
  split at h
  · exact nomatch h
  · rw [Option.some.inj h]
include hp hq in
theorem kR_topics:∀ k,k<=p.cells.length->((kR p q k).map (·.topic)).Sublist ((p.cells.take k).map (·.topic))
 | 0,_=>List.Sublist.refl _
 | k+1,h=>by
  rw [kR_s hp hq (by omega),take_more p.cells k (by omega),List.map_append,List.map_append]
  refine (kR_topics k (by omega)).append ?_
  cases hc:cV q (p.cells.getD k default) with
  | none=>simp
  | some c=>simp [cV_topic hc]
include hp hq in
theorem kM_mem {x:Str×TCell}:x∈kM p q p.cells.length↔x.1=x.2.topic/\x.2∈q.cells/\fndC p.cells x.2.topic=none:=by
 obtain ⟨h1,h2⟩:=kM_key (p:=p) (q:=q) p.cells.length (Nat.le_refl _)
 have hl:=look_kM (p:=p) hq p.cells.length (Nat.le_refl _) x.1
 rw [List.take_length] at hl
 constructor
 · intro hx
   have h3:=h1 x hx
   rw [lookA_mem h2 hx] at hl
   split at hl
   · exact nomatch hl
   · rename_i hn
     obtain ⟨h4,h5⟩:=fndC_some hl.symm
     exact ⟨h3,h4,fndC_none.2 fun c hc e=>hn ⟨c,hc,e.trans h3.symm⟩⟩
 · rintro ⟨e,h4,h5⟩
   rw [if_neg (by rintro ⟨a,ha,ea⟩;exact fndC_none.1 h5 a ha (ea.trans e)),e,fndC_of hq h4] at hl
   have:=lookA_some hl
   rwa [<-e] at this
theorem keepC_is {se:List TDot} {l:List TCell} (h:Srt l) {c:TCell}:keepC se l c=true↔match fndC l c.topic with | some o=>newerM o c=false | none=>hasB se c.dot=false:=by
 rw [keepC_iff h]
 cases hf:fndC l c.topic with
 | some o =>
  obtain ⟨h1,h2⟩:=fndC_some hf
  simp only
  constructor
  · rintro (⟨x,hx,ho,hn⟩ | ⟨hno,_⟩)
    · rw [<-topics_one h hx h1 (h2.trans ho.symm)] at hn;exact hn
    · exact absurd h2 (hno o h1)
  · exact fun hn=>.inl ⟨o,h1,h2,hn⟩
 | none =>
  have h0:=fndC_none.1 hf
  simp only
  constructor
  · rintro (⟨x,hx,ho,_⟩ | ⟨_,hh⟩)
    · exact absurd ho (h0 x hx)
    · exact hh
  · exact fun hh=>.inr ⟨h0,hh⟩
include hp hq in
theorem kept_mem (hc:∀ a∈p.cells,∀ b∈q.cells,a.dot=b.dot->a=b) {D:CMap} (hD:D.Perm (kM p q p.cells.length)) {c:TCell}:c∈keptAll p q D↔(c∈p.cells/\keepC q.seen q.cells c=true)\/(c∈q.cells/\keepC p.seen p.cells c=true):=by
 have hr:c∈restL p D↔c∈q.cells/\fndC p.cells c.topic=none/\hasB p.seen c.dot=false:=by
  unfold restL
  rw [List.mem_filter,List.mem_map]
  constructor
  · rintro ⟨⟨x,hx,rfl⟩,hh⟩
    obtain ⟨_,h2,h3⟩:=(kM_mem hp hq).1 (hD.subset hx)
    exact ⟨h2,h3,by simpa using hh⟩
  · rintro ⟨h1,h2,h3⟩
    exact ⟨⟨(c.topic,c),hD.symm.subset ((kM_mem hp hq).2 ⟨rfl,h1,h2⟩),rfl⟩,by simp [h3]⟩
 unfold keptAll
 rw [List.mem_append,kR_mem hp hq _ (Nat.le_refl _),List.take_length,hr,keepC_is hq,keepC_is hp]
 constructor
 · rintro (⟨a,ha,e⟩ | ⟨h1,h2,h3⟩)
   · unfold cV at e
     cases hf:fndC q.cells a.topic with
     | some g =>
      rw [hf] at e
      obtain ⟨g1,g2⟩:=fndC_some hf
      cases hn:newerM g a with
      | true =>
       simp only [hn,if_true] at e
       have:=Option.some.inj e
       subst this
       refine .inr ⟨g1,?_⟩
       rw [g2,fndC_of hp ha]
       exact newer_asy hn
      | false =>
       simp only [hn,Bool.false_eq_true,if_false] at e
       have:=Option.some.inj e
       subst this
       refine .inl ⟨ha,?_⟩
       rw [hf];exact hn
     | none =>
      rw [hf] at e
      simp only at e
      split at e
      · exact nomatch e
      · rename_i hh
        have:=Option.some.inj e
        subst this
        refine .inl ⟨ha,?_⟩
        rw [hf];simpa using hh
   · exact .inr ⟨h1,by rw [h2];exact h3⟩
 · rintro (⟨h1,h2⟩ | ⟨h1,h2⟩)
   · refine .inl ⟨c,h1,?_⟩
     unfold cV
     cases hf:fndC q.cells c.topic with
     | some g =>
      rw [hf] at h2
      simp only at h2 ⊢
      rw [if_neg (by rw [h2];simp)]
     | none =>
      rw [hf] at h2
      simp only at h2 ⊢
      rw [if_neg (by rw [h2];simp)]
   · cases hf:fndC p.cells c.topic with
     | none=>rw [hf] at h2;exact .inr ⟨h1,rfl,h2⟩
     | some a =>
      rw [hf] at h2
      obtain ⟨a1,a2⟩:=fndC_some hf
      refine .inl ⟨a,a1,?_⟩
      unfold cV
      rw [a2,fndC_of hq h1]
      simp only at h2 ⊢
      cases hn:newerM c a with
      | true=>simp
      | false =>
       have hd:=newer_tri hn h2
       rw [hc a a1 c h1 hd.symm]
       simp
include hp hq in
theorem kept_topics {D:CMap} (hD:D.Perm (kM p q p.cells.length)):((keptAll p q D).map (·.topic)).Nodup:=by
 unfold keptAll
 rw [List.map_append,List.nodup_append]
 have hpn:(p.cells.map (·.topic)).Nodup:=by rw [List.Nodup,List.pairwise_map];exact srt_ne hp
 have h1:=kR_topics hp hq p.cells.length (Nat.le_refl _)
 rw [List.take_length] at h1
 obtain ⟨k1,k2⟩:=kM_key (p:=p) (q:=q) p.cells.length (Nat.le_refl _)
 refine ⟨hpn.sublist h1,?_,?_⟩
 · have h2:(D.map fun x=>x.2.topic).Nodup:=by
    have e:(D.map fun x=>x.2.topic)=D.map (·.1):=List.map_congr_left fun x hx=>(k1 x (hD.subset hx)).symm
    rw [e];exact (hD.map _).nodup_iff.2 k2
   unfold restL
   refine h2.sublist ?_
   rw [show (D.map fun x=>x.2.topic)=(D.map (·.2)).map (·.topic) by simp]
   exact List.filter_sublist.map _
 · intro t ht u hu e
   subst e
   obtain ⟨c,hc,rfl⟩:=List.mem_map.1 hu
   obtain ⟨x,hx,rfl⟩:=List.mem_map.1 (List.mem_filter.1 hc).1
   obtain ⟨_,_,h4⟩:=(kM_mem hp hq).1 (hD.subset hx)
   obtain ⟨a,ha,ea⟩:=List.mem_map.1 (h1.subset ht)
   exact fndC_none.1 h4 a ha ea
end
theorem MergeOf.joined {p q u:TTable} (h:MergeOf p q u) (hp:TR p) (hq:TR q) (hc:∀ a∈p.cells,∀ b∈q.cells,a.dot=b.dot->a=b):Joined p q u:=by
 obtain ⟨f1,f2⟩:=fencesK_is hp hq
 obtain ⟨D,d1,d2⟩:=h.ro
 obtain ⟨⟨E,e1,e2⟩,e3⟩:=h.ce
 obtain ⟨k1,k2⟩:=outK_key hp.rone hq.rone
 refine ⟨by rw [h.seen];exact (join_right hp.seen hq.seen).1,fun d=>by rw [h.seen];exact has_join hp.seen hq.seen d,by rw [h.fen];exact f1,fun n e=>by rw [h.fen];exact f2 n e,?_,?_,fun r=>?_,fun c=>?_⟩
 · have hn:u.routes.Nodup:=by
    rw [d2.nodup_iff]
    unfold liveL
    refine List.Nodup.sublist List.filter_sublist ?_
    have h3:(D.map fun x=>ln x.2).Nodup:=by
     have e:(D.map fun x=>ln x.2)=D.map (·.1):=List.map_congr_left fun x hx=>(k1 x (d1.subset hx)).symm
     rw [e];exact (d1.map _).nodup_iff.2 k2
    rw [show (D.map fun x=>ln x.2)=(D.map (·.2)).map ln by simp] at h3
    exact (List.pairwise_map.1 h3).imp fun h e=>h (by rw [e])
   refine (h.rs.and hn).imp fun {x y} ⟨h1,h2⟩=>?_
   rcases rbefore_total h1 with h3 | h3
   · exact h3
   · exact absurd h3.symm h2
 · have hn:(u.cells.map (·.topic)).Nodup:=(e2.map _).nodup_iff.2 (kept_topics hp.csort hq.csort e1)
   rw [List.Nodup,List.pairwise_map] at hn
   refine (e3.and hn).imp fun {x y} ⟨h1,h2⟩=>?_
   rcases bl_total h1 with h3 | h3
   · exact h3
   · exact absurd h3.symm h2
 · rw [d2.mem_iff]
   unfold liveL
   rw [List.mem_filter,List.mem_map]
   have e:(∃ x∈D,x.2=r)↔(∃ x∈outK p q,x.2=r):=by simp only [d1.mem_iff]
   rw [e,out_mem hp.rone hq.rone r]
   simp [and_comm]
 · rw [e2.mem_iff,kept_mem hp.csort hq.csort hc e1]
theorem pmergeT_dc (G:List TG) (p q:TTable) (m:Int) (F:Own) (hG:Hist G) (ha:Can G p) (hb:Can G q) (h1:Lite 100000000 p) (h2:Lite 100000000 q):DC Tryz.prog 10 [.agg [.sl (p.seen.map encDot), .sl (p.fences.map encFence), .sl (p.routes.map encRoute), .sl (p.cells.map encCell)], .agg [.sl (q.seen.map encDot), .sl (q.fences.map encFence), .sl (q.routes.map encRoute), .sl (q.cells.map encCell)]] ([knF,knA,knM m]++F) fun d G=>d = .agg [.sl ((mergeM p q).seen.map encDot), .sl ((mergeM p q).fences.map encFence), .sl ((mergeM p q).routes.map encRoute), .sl ((mergeM p q).cells.map encCell)]/\G=[knF,knA,knM m]++F :=
 (pmerge_dc p q m F ⟨h1,h2,tr_iff.2 ha.tr,tr_iff.2 hb.tr⟩).mono fun d G' ⟨u,hu,hd,hG'⟩=>by
   have hj:=hu.joined ha.tr hb.tr fun a h3 b h4 e=>hG.cells ((ha.ce a).1 h3).1 ((hb.ce b).1 h4).1 e
   have hcu:=hj.can hG ha hb
   obtain ⟨_,m2,m3⟩:=mergeM_is hG ha hb
   have e:u=mergeM p q:=hcu.uniq m3 (fun d=>by rw [hj.has,m2.has]) fun n e=>by rw [hj.fen,m2.fen]
   rcases hd with ⟨_,rfl⟩ | ⟨h5,_⟩
   · rw [e];exact ⟨rfl,hG'⟩
   · rw [tr_iff.2 hcu.tr] at h5;exact absurd h5 (by decide)
end
section
def kT1:TTable:=⟨[⟨1,1,1⟩],[],[⟨⟨1,1,1⟩,[97]⟩],[]⟩
def kT2:TTable:=⟨[⟨1,1,2⟩],[],[],[]⟩
theorem kt1:routeAddM emptyT 1 1 [97]=kT1:=by decide +kernel
theorem kt2:routeDropM kT1 1 1 [97]=kT2:=by decide +kernel
theorem km1:mergeM kT1 kT2=kT2:=by decide +kernel
theorem km0:mergeM kT1 kT1=kT1:=by decide +kernel
theorem kt_hist:∃ G,Hist G/\Can G kT1/\Can G kT2:=by
 have h0:Hist ([]:List TG):=⟨(fun _ h=>nomatch h),(fun _ h=>nomatch h),(fun _ h=>nomatch h),(fun _ h=>nomatch h)⟩
 obtain ⟨L,w⟩:=went_add h0 can_empty (n:=1) (e:=1) (fun k hk=>nomatch hk) [97]
 rw [kt1] at w
 have hn:∀ k∈[]++L,k.dot≠nextDot kT1.seen 1 1:=fun k hk e=>by
  have:=(w.new k (by simpa using hk)).1
  rw [this] at e
  exact absurd e (by decide +kernel)
 obtain ⟨M,w2⟩:=went_drop w.hist w.can (by decide) hn [97]
 rw [kt2] at w2
 exact ⟨_,w2.hist,w2.other w.can hn,w2.can⟩
theorem kl {t:TTable} (h:t=kT1\/t=kT2):Lite 100 t:=by
 rcases h with rfl | rfl
 · exact ⟨by decide,by decide,by decide,by decide,by decide,by decide,by decide⟩
 · exact ⟨by decide,by decide,by decide,by decide,by decide,by decide,by decide⟩
def txt1:List UInt8:=txtS kT1.seen++txtQ kT1.routes
def txt2:List UInt8:=txtS kT2.seen++txtQ kT2.routes
theorem txt_ne:txt1≠txt2:=by decide +kernel
theorem txt_n2:(txt1==txt2)=false:=by simpa using txt_ne
theorem i64s {x:Int} (h : -1000<=x/\x<=1000):i64b x:=⟨by omega,by omega⟩
theorem tiny1:Tiny kT1:=by
 refine ⟨by decide,rfl,by decide,rfl,fun k=>?_,fun k=>?_⟩
 · match k with
   | 0=>exact ⟨i64s (by decide),i64s (by decide),i64s (by decide)⟩
   | k+1=>show i64b 0/\i64b 0/\i64b 0;exact ⟨i64s (by decide),i64s (by decide),i64s (by decide)⟩
 · match k with
   | 0=>exact ⟨⟨i64s (by decide),i64s (by decide),i64s (by decide)⟩,by decide⟩
   | k+1=>show (i64b 0/\i64b 0/\i64b 0)/\0<=100;exact ⟨⟨i64s (by decide),i64s (by decide),i64s (by decide)⟩,by decide⟩
theorem tiny2:Tiny kT2:=by
 refine ⟨by decide,rfl,by decide,rfl,fun k=>?_,fun k=>?_⟩
 · match k with
   | 0=>exact ⟨i64s (by decide),i64s (by decide),i64s (by decide)⟩
   | k+1=>show i64b 0/\i64b 0/\i64b 0;exact ⟨i64s (by decide),i64s (by decide),i64s (by decide)⟩
 · show (i64b 0/\i64b 0/\i64b 0)/\0<=100
   exact ⟨⟨i64s (by decide),i64s (by decide),i64s (by decide)⟩,by decide⟩
theorem kadd12_dc (F:Own):True->DC Tryz.prog 16 [.agg [.sl [], .sl [], .sl [], .sl []], .int .i64 1, .int .i64 1, .str [97]] (([]:Own)++F) fun d G=>d = .agg [.sl (kT1.seen.map encDot), .sl (kT1.fences.map encFence), .sl (kT1.routes.map encRoute), .sl (kT1.cells.map encCell)]/\G=[]++F:=fun _=>by
 have:=addT_dc emptyT 1 1 [97] F ⟨⟨by decide,by decide,by decide,by decide,by decide,by decide,by decide⟩,by decide,by decide,by decide⟩
 rw [kt1] at this;exact this
theorem kdrop12_dc (F:Own):True->DC Tryz.prog 18 [.agg [.sl (kT1.seen.map encDot), .sl (kT1.fences.map encFence), .sl (kT1.routes.map encRoute), .sl (kT1.cells.map encCell)], .int .i64 1, .int .i64 1, .str [97]] (([]:Own)++F) fun d G=>d = .agg [.sl (kT2.seen.map encDot), .sl (kT2.fences.map encFence), .sl (kT2.routes.map encRoute), .sl (kT2.cells.map encCell)]/\G=[]++F:=fun _=>by
 have:=dropT_dc kT1 1 1 [97] F ⟨(kl (.inl rfl)).mono (by decide),by decide,by decide⟩
 rw [kt2] at this;exact this
theorem kmerge1_dc (m:Int) (F:Own):True->DC Tryz.prog 10 [.agg [.sl (kT1.seen.map encDot), .sl (kT1.fences.map encFence), .sl (kT1.routes.map encRoute), .sl (kT1.cells.map encCell)], .agg [.sl (kT2.seen.map encDot), .sl (kT2.fences.map encFence), .sl (kT2.routes.map encRoute), .sl (kT2.cells.map encCell)]] ([knF,knA,knM m]++F) fun d G=>d = .agg [.sl (kT2.seen.map encDot), .sl (kT2.fences.map encFence), .sl (kT2.routes.map encRoute), .sl (kT2.cells.map encCell)]/\G=[knF,knA,knM m]++F:=fun _=>by
 obtain ⟨G,hG,h1,h2⟩:=kt_hist
 have:=pmergeT_dc G kT1 kT2 m F hG h1 h2 ((kl (.inl rfl)).mono (by decide)) ((kl (.inr rfl)).mono (by decide))
 rw [km1] at this;exact this
theorem kmerge0_dc (m:Int) (F:Own):True->DC Tryz.prog 10 [.agg [.sl (kT1.seen.map encDot), .sl (kT1.fences.map encFence), .sl (kT1.routes.map encRoute), .sl (kT1.cells.map encCell)], .agg [.sl (kT1.seen.map encDot), .sl (kT1.fences.map encFence), .sl (kT1.routes.map encRoute), .sl (kT1.cells.map encCell)]] ([knF,knA,knM m]++F) fun d G=>d = .agg [.sl (kT1.seen.map encDot), .sl (kT1.fences.map encFence), .sl (kT1.routes.map encRoute), .sl (kT1.cells.map encCell)]/\G=[knF,knA,knM m]++F:=fun _=>by
 obtain ⟨G,hG,h1,h2⟩:=kt_hist
 have:=pmergeT_dc G kT1 kT1 m F hG h1 h1 ((kl (.inl rfl)).mono (by decide)) ((kl (.inl rfl)).mono (by decide))
 rw [km0] at this;exact this
theorem kright1_dc (m:Int) (F:Own):True->DC Tryz.prog 12 [.agg [.sl (kT1.seen.map encDot), .sl (kT1.fences.map encFence), .sl (kT1.routes.map encRoute), .sl (kT1.cells.map encCell)]] ([knF,knA,knM m]++F) fun d G=>d = .bool true/\G=[knF,knA,knM m]++F:=fun _=>by
 have:=prM_dc kT1 m F ((kl (.inl rfl)).mono (by decide))
 rw [show tabB kT1=true by decide +kernel] at this;exact this
theorem kright0_dc (m:Int) (F:Own):True->DC Tryz.prog 12 [.agg [.sl [.agg [.int .i64 0, .int .i64 0, .int .i64 0]], .sl [], .sl [], .sl []]] ([knF,knA,knM m]++F) fun d G=>d = .bool false/\G=[knF,knA,knM m]++F:=fun _=>by
 have:=prM_dc ⟨[⟨0,0,0⟩],[],[],[]⟩ m F ⟨by decide,by decide,by decide,by decide,by decide,by decide,by decide⟩
 rw [show tabB ⟨[⟨0,0,0⟩],[],[],[]⟩=false by decide +kernel] at this;exact this
theorem ksame1_dc (F:Own):True->DC Tryz.prog 11 [.agg [.sl (kT1.seen.map encDot), .sl (kT1.fences.map encFence), .sl (kT1.routes.map encRoute), .sl (kT1.cells.map encCell)], .agg [.sl (kT1.seen.map encDot), .sl (kT1.fences.map encFence), .sl (kT1.routes.map encRoute), .sl (kT1.cells.map encCell)]] (([]:Own)++F) fun d G=>d = .bool true/\G=[]++F:=fun _=>by
 have:=psame_dc kT1 kT1 F ⟨⟨by decide,by decide,by decide,by decide⟩,⟨by decide,by decide,by decide,by decide⟩⟩
 rw [decide_eq_true rfl] at this;exact this
theorem ksame2_dc (F:Own):True->DC Tryz.prog 11 [.agg [.sl (kT2.seen.map encDot), .sl (kT2.fences.map encFence), .sl (kT2.routes.map encRoute), .sl (kT2.cells.map encCell)], .agg [.sl (kT2.seen.map encDot), .sl (kT2.fences.map encFence), .sl (kT2.routes.map encRoute), .sl (kT2.cells.map encCell)]] (([]:Own)++F) fun d G=>d = .bool true/\G=[]++F:=fun _=>by
 have:=psame_dc kT2 kT2 F ⟨⟨by decide,by decide,by decide,by decide⟩,⟨by decide,by decide,by decide,by decide⟩⟩
 rw [decide_eq_true rfl] at this;exact this
theorem ktext1_dc (T5:TypeId) (fr:Nat×Nat) (F:Own):True->DC Tryz.prog 23 [.agg [.sl (kT1.seen.map encDot), .sl (kT1.fences.map encFence), .sl (kT1.routes.map encRoute), .sl (kT1.cells.map encCell)]] ([knP T5 fr]++F) fun d G=>d = .str txt1/\G=[knP T5 fr]++F:=fun _=>ptabtext_dc kT1 T5 fr F tiny1
theorem ktext2_dc (T5:TypeId) (fr:Nat×Nat) (F:Own):True->DC Tryz.prog 23 [.agg [.sl (kT2.seen.map encDot), .sl (kT2.fences.map encFence), .sl (kT2.routes.map encRoute), .sl (kT2.cells.map encCell)]] ([knP T5 fr]++F) fun d G=>d = .str txt2/\G=[knP T5 fr]++F:=fun _=>ptabtext_dc kT2 T5 fr F tiny2
theorem kshown2_dc (F:Own):True->DC Tryz.prog 24 [.agg [.sl (kT2.seen.map encDot), .sl (kT2.fences.map encFence), .sl (kT2.routes.map encRoute), .sl (kT2.cells.map encCell)]] ([loose]++F) fun d G=>d = .str []/\G=[loose]++F:=fun _=>pshown_dc kT2 F ⟨rfl,rfl⟩
theorem kshown0_dc (F:Own):True->DC Tryz.prog 24 [.agg [.sl [], .sl [], .sl [], .sl []]] ([loose]++F) fun d G=>d = .str []/\G=[loose]++F:=fun _=>pshown_dc emptyT F ⟨rfl,rfl⟩
attribute [local irreducible] DW SeqD DV DOp DC DVX kT1 kT2 txt1 txt2
section
attribute [local push_cast 2000] txt_n2
theorem known12_dc (T5:TypeId) (fr:Nat×Nat) (m:Int) (F:Own):(True)->DC Tryz.prog 7 [] ([loose,knP T5 fr,knF,knA,knM m]++F) fun d G=>d = .bool true/\G=[loose,knP T5 fr,knF,knA,knM m]++F:=by
 intro hA
 refine DC.bodyS (n_:=46) (show Tryz.prog.funcs[7]? = some Tryz.f7 by kernel_rfl) rfl rfl (by rfl) ?_
 simp only [env0,List.cons_append,List.nil_append]
 have kw:=ksIs [0,1,2,3]
 have ow:=ownIs []
 have dw4:=drIs 4 [] [0,1,6,10,11,12,13,14,17,18,19,22,23,24,25,29,30,32]
 repeat' (first
  | ((with_reducible apply DW.frzB 4 1);(focus (exact rfl));(repeat (with_reducible first | refine Out.here ?_ | refine Out.next ?_));simp only [put_cons,put_nil,Nat.reduceEqDiff,↓reduceIte,if_true,if_false,reduceCtorEq])
  | ((with_reducible apply DW.frzB 4 2);(focus (exact rfl));(repeat (with_reducible first | refine Out.here ?_ | refine Out.next ?_));simp only [put_cons,put_nil,Nat.reduceEqDiff,↓reduceIte,if_true,if_false,reduceCtorEq])
  | ((with_reducible apply DW.frzB 4 3);(focus (exact rfl));(repeat (with_reducible first | refine Out.here ?_ | refine Out.next ?_));simp only [put_cons,put_nil,Nat.reduceEqDiff,↓reduceIte,if_true,if_false,reduceCtorEq])
  | refine g_ ?_
  | ((with_reducible refine And.intro ?_ ?_);(exact sv))
  | (refine DW.cond (by rfl) ?_ ?_<;>(first | exact i0_ | (refine ic_ ?_;intro hb)))
  | ((with_reducible first | refine FVg_cases ?_ ?_ | refine FDg_cases ?_ ?_)<;>(intro hb;rw [hb];revert hb;(first | exact i0_ | (refine i_ ?_;intro hb))))
  | refine r_ ?_
  | refine d_ ?_
  | refine k_ ?_
  | ((refine dm_ ?_);(first | ((first | refine v_ (kadd12_dc _) ?_ | refine v_ (kdrop12_dc _) ?_)) | (refine v_ (kmerge1_dc _ _) ?_) | (refine v_ (kmerge0_dc _ _) ?_) | (refine v_ (kright1_dc _ _) ?_) | (refine v_ (kright0_dc _ _) ?_) | (refine v_ (ksame1_dc _) ?_) | (refine v_ (ksame2_dc _) ?_) | (refine v_ (ktext1_dc _ _ _) ?_) | (refine v_ (ktext2_dc _ _ _) ?_) | (refine v_ (kshown2_dc _) ?_) | (refine v_ (kshown0_dc _) ?_)))
  | refine vo_ ?_
  | ((first | refine q_ (kadd12_dc _) ?_ | refine q_ (kdrop12_dc _) ?_))
  | (refine q_ (kmerge1_dc _ _) ?_)
  | (refine q_ (kmerge0_dc _ _) ?_)
  | (refine q_ (kright1_dc _ _) ?_)
  | (refine q_ (kright0_dc _ _) ?_)
  | (refine q_ (ksame1_dc _) ?_)
  | (refine q_ (ksame2_dc _) ?_)
  | (refine q_ (ktext1_dc _ _ _) ?_)
  | (refine q_ (ktext2_dc _ _ _) ?_)
  | (refine q_ (kshown2_dc _) ?_)
  | (refine q_ (kshown0_dc _) ?_)
  | refine o_ ?_
  | refine f_ ?_
  | refine vm_ ?_
  | with_reducible intro b)
 all_goals first
 | ((first | exact fin_ | refine finq_ ?_);done)
 | (trace_state;fail)
end
end
section
structure SM (G:List TG) (t:TTable):Prop where
 can:Can G t
 rng:Rng 20 t
section
variable {G:List TG} (hG:Hist G) {a b c:TTable}
theorem SM.lite {t:TTable} (h:SM G t):Lite 3072 t:=story_lite (i:=20) (by decide) h.can.tr h.rng
theorem SM.few {t:TTable} (h:SM G t):Few 1000000000 t:=⟨Nat.le_trans h.lite.s (by decide),Nat.le_trans h.lite.f (by decide),Nat.le_trans h.lite.r (by decide),Nat.le_trans h.lite.c (by decide)⟩
include hG
theorem SM.merge (ha:SM G a) (hb:SM G b):SM G (mergeM a b):=⟨(mergeM_is hG ha.can hb.can).2.2,ha.rng.merge hb.rng⟩
theorem m_has (ha:SM G a) (hb:SM G b) (d:TDot):hasB (mergeM a b).seen d=(hasB a.seen d||hasB b.seen d):=(mergeM_is hG ha.can hb.can).2.1.has d
theorem m_fen (ha:SM G a) (hb:SM G b) (n e:Int):fencedL (mergeM a b).fences n e=(fencedL a.fences n e||fencedL b.fences n e):=(mergeM_is hG ha.can hb.can).2.1.fen n e
theorem m_comm (ha:SM G a) (hb:SM G b):mergeM a b=mergeM b a :=
 (ha.merge hG hb).can.uniq (hb.merge hG ha).can (fun d=>by rw [m_has hG ha hb,m_has hG hb ha,Bool.or_comm]) fun n e=>by rw [m_fen hG ha hb,m_fen hG hb ha,Bool.or_comm]
theorem m_assoc (ha:SM G a) (hb:SM G b) (hc:SM G c):mergeM (mergeM a b) c=mergeM a (mergeM b c) :=
 ((ha.merge hG hb).merge hG hc).can.uniq (ha.merge hG (hb.merge hG hc)).can (fun d=>by rw [m_has hG (ha.merge hG hb) hc,m_has hG ha hb,m_has hG ha (hb.merge hG hc),m_has hG hb hc,Bool.or_assoc]) fun n e=>by rw [m_fen hG (ha.merge hG hb) hc,m_fen hG ha hb,m_fen hG ha (hb.merge hG hc),m_fen hG hb hc,Bool.or_assoc]
theorem m_again (ha:SM G a) (hb:SM G b):mergeM (mergeM a b) a=mergeM a b :=
 ((ha.merge hG hb).merge hG ha).can.uniq (ha.merge hG hb).can (fun d=>by rw [m_has hG (ha.merge hG hb) ha,m_has hG ha hb];cases hasB a.seen d<;>simp) fun n e=>by rw [m_fen hG (ha.merge hG hb) ha,m_fen hG ha hb];cases fencedL a.fences n e<;>simp
theorem m_self (ha:SM G a):mergeM a a=a :=
 (ha.merge hG ha).can.uniq ha.can (fun d=>by rw [m_has hG ha ha,Bool.or_self]) fun n e=>by rw [m_fen hG ha ha,Bool.or_self]
end
theorem sm_story {l:List TDeed} (hn:l.length<=20) (h:∀ d∈l,deedOk d):∃ G,Hist G/\∀ k,k<3->SM G ((tablesM l).getD k default):=by
 obtain ⟨G,hS⟩:=story_hist h hn
 refine ⟨G,hS.h,fun k hk=>?_⟩
 have hs:=Story.of h
 obtain ⟨_,t2,_⟩:=hs.tab (n:=(k:Int)) ⟨by omega,by omega⟩
 have e:tabT (storyT l) (k:Int)=(tablesM l).getD k default:=by unfold tabT tablesM;rw [Int.toNat_natCast]
 have hc:=hS.can (k:Int) (by omega) (by omega)
 rw [e] at t2 hc
 exact ⟨hc,t2.mono hn⟩
def deedR (d:TDeed):Prop:=(0<=d.what/\d.what<=255)/\(0<=d.who/\d.who<=255)/\(0<=d.k/\d.k<=255)
theorem deeds12 {l:List TDeed} (h:∀ d∈l,deedR d) (h2:∀ k,(l.getD k default).x.length<=30):∀ d∈l,deedOk d:=fun d hd=>by
 obtain ⟨k,hk,rfl⟩:=mem_getD hd
 obtain ⟨a,b,c⟩:=h _ hd
 exact ⟨a,b,c,h2 k⟩
theorem st_len {l:List TDeed} (h:∀ d∈l,deedOk d):(tablesM l).length=3:=(Story.of h).lt
theorem mergeS_dc (G:List TG) (p q:TTable) (m:Int) (F:Own):(Hist G/\SM G p/\SM G q)->DC Tryz.prog 10 [.agg [.sl (p.seen.map encDot), .sl (p.fences.map encFence), .sl (p.routes.map encRoute), .sl (p.cells.map encCell)], .agg [.sl (q.seen.map encDot), .sl (q.fences.map encFence), .sl (q.routes.map encRoute), .sl (q.cells.map encCell)]] ([knF,knA,knM m]++F) fun d G'=>d = .agg [.sl ((mergeM p q).seen.map encDot), .sl ((mergeM p q).fences.map encFence), .sl ((mergeM p q).routes.map encRoute), .sl ((mergeM p q).cells.map encCell)]/\G'=[knF,knA,knM m]++F:=fun h=>pmergeT_dc G p q m F h.1 h.2.1.can h.2.2.can (h.2.1.lite.mono (by decide)) (h.2.2.lite.mono (by decide))
theorem sameS_dc (p q:TTable) (F:Own):(p=q/\Few 1000000000 q)->DC Tryz.prog 11 [.agg [.sl (p.seen.map encDot), .sl (p.fences.map encFence), .sl (p.routes.map encRoute), .sl (p.cells.map encCell)], .agg [.sl (q.seen.map encDot), .sl (q.fences.map encFence), .sl (q.routes.map encRoute), .sl (q.cells.map encCell)]] (([]:Own)++F) fun d G=>d = .bool true/\G=[]++F:=fun h=>by
 obtain ⟨rfl,h2⟩:=h
 have:=psame_dc p p F ⟨h2,h2⟩
 rw [decide_eq_true rfl] at this;exact this
theorem rightS_dc (t:TTable) (m:Int) (F:Own):(Lite 3072 t/\TR t)->DC Tryz.prog 12 [.agg [.sl (t.seen.map encDot), .sl (t.fences.map encFence), .sl (t.routes.map encRoute), .sl (t.cells.map encCell)]] ([knF,knA,knM m]++F) fun d G=>d = .bool true/\G=[knF,knA,knM m]++F:=fun h=>by
 have:=prM_dc t m F (h.1.mono (by decide))
 rw [tr_iff.2 h.2] at this;exact this
attribute [local irreducible] DW SeqD DV DOp DC DVX mergeM tablesM
section
attribute [local push_cast 2000] encDeed
theorem few12_dc (l:List TDeed) (F:Own):(True)->DC Tryz.prog 8 [.sl (l.map encDeed)] (([]:Own)++F) fun d G=>(d = .bool true/\(l.length<=20/\∀ k,(l.getD k default).x.length<=30)/\G=[]++F)\/(d = .bool false/\G=[]++F):=by
 intro hA
 refine DC.bodyS (n_:=20) (show Tryz.prog.funcs[8]? = some Tryz.f8 by kernel_rfl) rfl rfl (by rfl) ?_
 simp only [env0,List.cons_append,List.nil_append]
 have kw:=ksIs [0,2,3,6,10,19]
 have ow:=ownIs []
 repeat' (first
  | ((with_reducible refine DW.loopB 0 (X:=Nat) (fun x=>x<=l.length/\∀ j,j<x->(l.getD j default).x.length<=30) (fun x=>[(0, .sl (l.map encDeed)),(3, .int .i64 x)]) (fun x=>([]:Own)) (fun x=>l.length - x) (0) ?_ ?_ ?_);exact (⟨Nat.zero_le _,fun j h=>absurd h (Nat.not_lt_zero _)⟩);(simp [Sub,get,keepL]<;>fail);(try simp only [List.cons_append,List.nil_append]);refine pl_ ?_;intro k ⟨hk,hj⟩;(try simp only [List.cons_append,List.nil_append]);try simp only at hk hj)
  | refine g_ ?_
  | ((with_reducible refine And.intro ?_ ?_);(exact sv))
  | (refine DW.cond (by rfl) ?_ ?_<;>(first | exact i0_ | (refine ic_ ?_;intro hb)))
  | ((with_reducible refine FVg_cases ?_ ?_)<;>(intro hb;rw [hb];revert hb;(first | exact i0_ | (refine i_ ?_;intro hb))))
  | refine r_ ?_
  | refine k_ ?_
  | refine o_ ?_
  | refine f_ ?_
  | with_reducible intro b)
 all_goals first
 | (exfalso;omega)
 | (refine ⟨_,_,le.rfl_, .inr ⟨rfl,rfl⟩,?_⟩;(exact sub_);done)
 | (refine ⟨k+1,⟨by omega,fun j hj2=>?_⟩,?_,?_,?_⟩;(rcases Nat.lt_succ_iff_lt_or_eq.1 hj2 with h | rfl;(exact hj j h);(omega));(omega);(simp [Sub,get]<;>fail);(try dsimp only);(exact sub_);done)
 | (refine ⟨_,_,le.rfl_, .inl ⟨rfl,⟨by omega,fun j=>?_⟩,rfl⟩,?_⟩;rotate_left;(exact sub_);(by_cases h:j<k;(exact hj j h);(rw [List.getD_eq_getElem?_getD,List.getElem?_eq_none (by omega)];exact Nat.zero_le _));done)
end
theorem story12_dc (l:List TDeed) (F:Own):(l.length<=20/\∀ d∈l,deedOk d)->DC Tryz.prog 9 [.sl (l.map encDeed)] (([]:Own)++F) fun d G=>d = .sl ((tablesM l).map encTable)/\G=[]++F:=by
 intro hA
 have hA0:=hA
 refine DC.bodyS (n_:=5) (show Tryz.prog.funcs[9]? = some Tryz.f9 by kernel_rfl) rfl rfl (by rfl) ?_
 simp only [env0,List.cons_append,List.nil_append]
 have kw:=ksIs [0,2]
 have ow:=ownIs []
 repeat' (first
  | refine g_ ?_
  | ((with_reducible refine And.intro ?_ ?_);(exact sv))
  | (refine DW.cond (by rfl) ?_ ?_<;>(first | exact i0_ | (refine ic_ ?_;intro hb)))
  | ((with_reducible refine FVg_cases ?_ ?_)<;>(intro hb;rw [hb];revert hb;(first | exact i0_ | (refine i_ ?_;intro hb))))
  | refine r_ ?_
  | refine k_ ?_
  | (refine q_ (tables_dc _ _) ?_)
  | refine o_ ?_
  | refine f_ ?_
  | with_reducible intro b)
 (first | exact fin_ | refine finq_ ?_)
 all_goals rfl
end
section
open Go.RowKit Go.ChangeShapes Go.WideShapes Go.Deep
theorem know_of {w:World} {H:Own} {b:Nat} {cs:List V} (hs:Sim w H) (hno:∀ e∈H,∀ a,¬ e.owns a) (vs:Nat->Value) (h:∀ k,k<cs.length->w.cell? ⟨b,k,none⟩=some (vs k)/\∀ S,R S w (vs k) (cs.getD k .any)) (hbb:b≠4000000007:=by decide) :
  Sim w (.know b cs::H)/\Ext w H w (.know b cs::H) :=
 hs.add (e1:=.know b cs) (hlo:=fun e=>by injection e with e;exact hbb e) rfl rfl rfl (Nat.le_refl _) (fun _ _=>rfl) (fun _ h=>h.elim) fun _=>fun k hk=>by
  obtain ⟨h1,h2⟩:=h k hk
  refine ⟨⟨by rw [h1];rfl,fun e he ha=>?_⟩,?_⟩
  · rcases List.mem_cons.1 he with rfl | he
    · exact ha.elim
    · exact hno e he _ ha
  · unfold cellAt;rw [h1];exact h2 _
theorem acc_at:∀ i,i<16->accC.getD (2 * i) .any = .int .u8 (Go.Lib.accLo i)/\accC.getD (2 * i+1) .any = .int .u8 (Go.Lib.accHi i)
 | 0,_=>⟨rfl,rfl⟩ | 1,_=>⟨rfl,rfl⟩ | 2,_=>⟨rfl,rfl⟩ | 3,_=>⟨rfl,rfl⟩ | 4,_=>⟨rfl,rfl⟩ | 5,_=>⟨rfl,rfl⟩ | 6,_=>⟨rfl,rfl⟩ | 7,_=>⟨rfl,rfl⟩
 | 8,_=>⟨rfl,rfl⟩ | 9,_=>⟨rfl,rfl⟩ | 10,_=>⟨rfl,rfl⟩ | 11,_=>⟨rfl,rfl⟩ | 12,_=>⟨rfl,rfl⟩ | 13,_=>⟨rfl,rfl⟩ | 14,_=>⟨rfl,rfl⟩ | 15,_=>⟨rfl,rfl⟩
 | n+16,h=>absurd h (by omega)
theorem known_sim {w:World} {m:Int} (ht:Go.Lib.Utf8Tabs 1 2 w) (hm:w.cell? ⟨0,0,none⟩=some (.int .i64 m)) :
  Sim w [knF,knA, .know 0 [.int .i64 m]]/\Ext w [] w [knF,knA, .know 0 [.int .i64 m]]:=by
 have h0:Sim w []:=⟨(fun _ h=>nomatch h),List.Pairwise.nil,List.Pairwise.nil⟩
 obtain ⟨s1,x1⟩:=know_of (b:=0) (cs:=[.int .i64 m]) h0 (fun e he=>nomatch he) (fun _=>.int .i64 m) (fun k hk=>by
  have hk0:k=0:=by simpa using hk
  subst hk0
  exact ⟨hm,fun S=>.int _ _⟩)
 obtain ⟨s2,x2⟩:=know_of (b:=2) (cs:=accC) s1 (fun e he a ha=>by
  rcases List.mem_singleton.1 he with rfl
  exact ha.elim) (fun k=>if k%2=0 then .int .u8 (Go.Lib.accLo (k / 2)) else .int .u8 (Go.Lib.accHi (k / 2))) (fun k hk=>by
  have hk:k<32:=by simpa [acc_len] using hk
  obtain ⟨q1,q2⟩:=ht.2 (k / 2) (by omega)
  obtain ⟨a1,a2⟩:=acc_at (k / 2) (by omega)
  by_cases he:k%2=0
  · have e:2 * (k / 2)=k:=by omega
    rw [e] at q1 a1
    refine ⟨by rw [if_pos he];exact q1,fun S=>?_⟩
    rw [if_pos he,a1];exact .int _ _
  · have e:2 * (k / 2)+1=k:=by omega
    rw [e] at q2 a2
    refine ⟨by rw [if_neg he];exact q2,fun S=>?_⟩
    rw [if_neg he,a2];exact .int _ _)
 obtain ⟨s3,x3⟩:=know_of (b:=1) (cs:=firstC) s2 (fun e he a ha=>by
  rcases List.mem_cons.1 he with rfl | he
  · exact ha.elim
  · rcases List.mem_singleton.1 he with rfl
    exact ha.elim) (fun k=>.int .u8 (Go.Lib.firstT k)) (fun k hk=>by
  have hk:k<256:=by rw [first_len] at hk;exact hk
  refine ⟨ht.1 k hk,fun S=>?_⟩
  have e:firstC.getD k .any = .int .u8 (Go.Lib.firstT k):=by
   unfold firstC
   rw [List.getD_eq_getElem?_getD,List.getElem?_map,List.getElem?_range hk];rfl
  rw [e];exact .int _ _)
 exact ⟨s3,(x1.trans x2).trans x3⟩
end
section
open Go.RowKit Go.ChangeShapes Go.WideShapes Go.Deep
theorem row_sim {w:World} {K:Own} {g:Nat} {o:Obj} (h:Sim w K) (hk:∀ e∈K,∃ b cs,e = .know b cs) (hg:w.heap[g]? = some o):Sim w (loose :: .row g o::K):=by
 have st:∀ a,stable w K a->stable w (loose :: .row g o::K) a/\w.cell? a=w.cell? a:=fun a ha=>⟨⟨ha.1,fun e he=>by
  rcases List.mem_cons.1 he with rfl | he
  · exact fun h=>h
  · rcases List.mem_cons.1 he with rfl | he
    · exact fun h=>h
    · exact ha.2 e he⟩,rfl⟩
 refine ⟨fun e he=>?_,?_,?_⟩
 · rcases List.mem_cons.1 he with rfl | he
   · exact fun k hk=>absurd hk (Nat.not_lt_zero _)
   · rcases List.mem_cons.1 he with rfl | he
     · exact hg
     · exact Ent.holds_mono (h.holds e he) st fun _ _=>rfl
 · exact List.pairwise_cons.2 ⟨fun f hf a ha=>ha.elim,List.pairwise_cons.2 ⟨fun f hf a ha=>ha.elim,h.disj⟩⟩
 · refine List.pairwise_cons.2 ⟨fun f hf a ha=>ha.elim,List.pairwise_cons.2 ⟨fun f hf a ha hb=>?_,h.apart⟩⟩
   obtain ⟨b,cs,rfl⟩:=hk f hf
   exact hb
theorem DC.lawR {P:Program} {f:FuncId} {args:List V} {K:Own} {g:Nat} {o:Obj} {xs:Array Value} {w:World} (h:DC P f args (loose :: .row g o::K) fun d H'=>d = .bool true/\H'=loose :: .row g o::K) (hK:Sim w K) (hk:∀ e∈K,∃ b cs,e = .know b cs) (hg:w.heap[g]? = some o)
  (hn:xs.size=args.length) (hr:∀ k,k<args.length->R (stable w []) w (xs.getD k undef) (args.getD k .any)) :
  Calls P f xs w fun e w'=>e = .returned (.bool true)/\Below w.heap.size w w':=by
 have own:∀ e∈(loose :: .row g o::K:Own),∀ a,¬ e.owns a:=fun e he a=>by
  rcases List.mem_cons.1 he with rfl | he
  · exact fun h=>h
  · rcases List.mem_cons.1 he with rfl | he
    · exact fun h=>h
    · obtain ⟨b,cs,rfl⟩:=hk e he
      exact fun h=>h
 have st:∀ a,stable w [] a->stable w (loose :: .row g o::K) a/\w.cell? a=w.cell? a:=fun a ha=>⟨⟨ha.1,fun e he=>own e he a⟩,rfl⟩
 refine (h.2 xs w (row_sim hK hk hg) hn fun k hk=>(hr k hk).mono st).mono fun e w' ⟨v,d,H',he,s,x,r,hd,hH⟩=>?_
 subst hd
 subst hH
 cases r
 refine ⟨he,x.os,x.tape,x.output,x.size,fun b hb=>?_⟩
 by_cases hbg:b=g
 · subst hbg
   have h1:w'.heap[b]? = some o:=s.holds (.row b o) (by simp)
   rw [h1,hg]
 · refine (x.full b hb fun e he ht=>?_).1
   rcases List.mem_cons.1 he with rfl | he
   · exact ht
   · rcases List.mem_cons.1 he with rfl | he
     · exact hbg ht
     · obtain ⟨b,cs,rfl⟩:=hk e he
       exact ht
theorem known_know {m:Int}:∀ e∈([knF,knA, .know 0 [.int .i64 m]]:Own),∃ b cs,e = .know b cs:=fun e he=>by
 simp only [List.mem_cons,List.not_mem_nil,or_false] at he
 rcases he with rfl | rfl | rfl<;>exact ⟨_,_,rfl⟩
theorem pow_obj {w:World} (h:Go.Lib.VarReads Tryz.prog w "internal/strconv.uint64pow10" (Go.Lib.tabData .u64 Go.Lib.pow10Tab)):∃ T fr,w.heap[3]? = some (pow10O T fr):=by
 obtain ⟨g,t,cs,fuel,p,h1,h2,h3,h4⟩:=h
 have e1:g=3:=Option.some.inj (h1.symm.trans (by kernel_rfl))
 subst e1
 have e2:t=227:=Option.some.inj (h2.symm.trans (by kernel_rfl))
 subst e2
 have e3:=Go.Lib.cells_of_tab (e:=165) (n:=20) Tryz.underlying227 Tryz.underlying165 (by kernel_rfl) (by kernel_rfl) h4
 unfold World.var? at h3
 rw [show Program.globalNamed Tryz.prog "internal/strconv.uint64pow10" = some 3 from by kernel_rfl] at h3
 simp only [Option.bind_some] at h3
 cases hh:w.heap[3]? with
 | none=>rw [hh] at h3;exact absurd h3 (by simp)
 | some o =>
  rw [hh] at h3
  cases o with
  | cells xs T fr =>
   simp only [Option.some.injEq] at h3
   subst h3
   refine ⟨T,fr,?_⟩
   unfold pow10O
   rw [<-e3]
  | _=>exact absurd h3 (by simp)
end
end Go.Proofs.YtifdpbghkccaoaaGreatDoor
