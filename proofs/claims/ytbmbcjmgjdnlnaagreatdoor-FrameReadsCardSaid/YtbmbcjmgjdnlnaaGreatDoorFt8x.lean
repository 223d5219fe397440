/- Which frame the document finds any bytes to be: a right one. -/
import Derived.Test.YtbmbcjmgjdnlnaaGreatDoorFt5x
import Derived.KernelRfl
import Derived.Test.YtbmbcjmgjdnlnaaGreatDoorLex
namespace Go.Proofs.YtbmbcjmgjdnlnaaGreatDoor
open Go.RowKit
set_option linter.unusedSimpArgs false
set_option linter.unusedVariables false
set_option linter.unusedSectionVars false
set_option maxHeartbeats 4000000
set_option maxRecDepth 100000
section
attribute [local irreducible] DW SeqD DV DOp DC DVX DVJ frameB fullBy leK frameD valL numR intR textD dotR manyR iterL tabD
theorem sv_rreadY_dc {p:Prop} (h:p:=by first | exact sv | (simp [u8,V.one];omega) | (simp [u8,V.one]<;>fail) | (refine ⟨?_,?_,?_⟩<;>first | omega | (simp [leK_len,head_len]<;>omega)) | (refine ⟨?_,?_⟩<;>first | omega | (simp [leK_len,head_len]<;>omega)) | (simp [leK_len,head_len]<;>omega) | exact fnv_b _ | exact Nat.le_trans hrl (by decide) | exact Nat.le_trans hbl (by decide) | ((first | (have e:=hfr;rw [frameD_1 (by assumption)] at e;(try rw [<-h1] at e);simp only [hS6,hS5,gS4,gS3,gS2,gS1] at e;obtain ⟨rfl,rfl⟩:=Prod.mk.inj e) | (have e:=hfr;rw [frameD_2 (by assumption)] at e;(try rw [<-h1] at e);simp only [hS6,hS5,gS4,gS3,gS2,gS1] at e;obtain ⟨rfl,rfl⟩:=Prod.mk.inj e) | (have e:=hfr;rw [frameD_3 (by assumption)] at e;(try rw [<-h1] at e);simp only [hS6,hS5,gS4,gS3,gS2,gS1] at e;obtain ⟨rfl,rfl⟩:=Prod.mk.inj e) | (have e:=hfr;rw [frameD_0 (by assumption) (by assumption) (by assumption)] at e;(try rw [<-h1] at e);simp only [hS6,hS5,gS4,gS3,gS2,gS1] at e;obtain ⟨rfl,rfl⟩:=Prod.mk.inj e));exact ⟨hf,hB⟩) | ((repeat (first | assumption | refine Nat.le_trans (dotR_len _) ?_ | refine Nat.le_trans (intR_len _) ?_ | refine Nat.le_trans (textD_len _) ?_ | refine Nat.le_trans hrl (by decide)))<;>fail) | (refine ⟨?_,by decide⟩;((repeat (first | assumption | refine Nat.le_trans (dotR_len _) ?_ | refine Nat.le_trans (intR_len _) ?_ | refine Nat.le_trans (textD_len _) ?_ | refine Nat.le_trans hrl (by decide)))<;>fail)) | fail):p:=h
theorem s_rreadY_dc {P Q:Prop} (q:Q) (h:Hid Q->P:=by (intro q;simp (maxSteps:=1000000) (disch:=omega) only [push_cast,↓reduceIte,reduceCtorEq,Nat.reduceAdd,Nat.reduceMul,Nat.reduceLT,Nat.reduceLeDiff,Nat.reduceEqDiff,Nat.reduceSub,Int.reduceToNat,Int.reduceLT,Int.reduceLE,Int.reduceAdd,Int.reduceSub,Int.reduceMul,Int.reduceNeg,Nat.reduceBEq,Int.reduceBEq,Int.reduceBNe,Nat.reduceBNe,Int.reduceEq,u8,toN3,takeMap,dropMap,isU8_map,byteOf_map,hb0,hb1,hb2,hb3,hb4,eqHB,takeLen,bneI,encU,klS,klV];exact q.1)):P:=h ⟨q⟩
section
attribute [local push_cast 2000] u8 toN3 takeMap dropMap isU8_map byteOf_map eqHB takeLen encU
theorem rreadY_dc (c:UInt8) (l body r:List UInt8) (f:TFrame) (z:RS) (F:Own):((12<=l.length/\l.length<=65535)/\l.take 3=magicL/\l.drop ((l.length:Int) - 8).toNat=leK 8 (fnvV body)/\l.take ((l.length:Int) - 8).toNat=body/\body.drop 4=r/\l.getD 3 default=c/\frameD c ⟨r,false⟩=(f,z)/\LightD f/\r.length<=65535/\body.length<=65535/\frameB f=true)->DC Tryz.prog 23 [.sl (l.map u8)] (([]:Own)++F) fun d G=>((YesR z f l/\d = .tup [.agg [.int .i64 f.kind, .int .i64 f.fr, .int .i64 f.ep, .int .i64 f.at_, .sl (f.sums.map encU), .sl (f.seen.map encDot), .sl (f.tab.seen.map encDot), .sl (f.tab.fences.map encFence), .sl (f.tab.routes.map encRoute), .sl (f.tab.cells.map encCell), .int .i64 f.seq, .str f.topic, .sl (f.payload.map u8), .int .i64 f.qos, .bool f.retain], .int .i64 0])\/(¬ YesR z f l/\d = .tup [.agg [.int .i64 0, .int .i64 0, .int .i64 0, .int .i64 0, .gs (.slice none 0 0) [], .gs (.slice none 0 0) [], .gs (.slice none 0 0) [], .gs (.slice none 0 0) [], .gs (.slice none 0 0) [], .gs (.slice none 0 0) [], .int .i64 0, .str [], .gs (.slice none 0 0) [], .int .i64 0, .bool false], .int .i64 21]))/\G=[]++F:=by
 intro hA
 obtain ⟨⟨h1,h2⟩,hb0,hb1,hb2,hb3,hb4,hfr,hf,hrl,hbl,hB⟩:=hA
 refine DC.bodyS (n_:=126) (show Tryz.prog.funcs[23]? = some Tryz.f23 by kernel_rfl) rfl rfl (by rfl) ?_
 simp only [env0,List.map_nil,List.cons_append,List.nil_append]
 have kw:=ksIs [0,2,3,4,5,6,7,8,9,10,13,23,40,62,63,68,81,86,123]
 have ow:=ownIs [32,46]
 have dw7:=drIs 7 [1,6] []
 have rw_:=rsIs [.cell 2 33, .tmp 3]
 have hc:=c.toNat_lt
 have hi0:=intR_len ⟨r,false⟩
 have hi1:=intR_len (intR ⟨r,false⟩).2
 have hi2:=intR_len (intR (intR ⟨r,false⟩).2).2
 simp only at hi0
 refine DW.tail0 1 ?_
 repeat' (first
  | ((with_reducible apply DW.frzR 29);(repeat (with_reducible first | refine OnA.here ?_ | refine OnA.next ?_));refine ⟨(cells_u8 _).symm,by decide,(by intro y hy;obtain ⟨x,_,rfl⟩:=List.mem_map.1 hy;rfl),?_,?_⟩;(repeat (first | exact CvE.nil | apply CvE.cons (Cv.hit _) | apply CvE.cons (Cv.rfl _))))
  | ((with_reducible refine DW.loopB 1 (X:=Nat×Value×LInts×RS) (fun x=>iterL numR x.1 x.2.2.1 x.2.2.2=rowD 8 numR (gS3 ⟨r,false⟩)/\x.2.2.1.length+x.1<=1000000/\x.2.2.2.l.length<=65535) (fun x=>[(0, .sl (l.map u8)),(2, .raw (.pointer (some ⟨b2,0,none⟩))),(6, .raw (.pointer (some ⟨b6,0,none⟩))),(7, .raw (.pointer (some ⟨b7,0,none⟩))),(8, .int .i64 x.1)]) (fun x=>[.blk b7 [.int .i64 (c.toNat:Int), .int .i64 (intR ⟨r,false⟩).1, .int .i64 (intR (intR ⟨r,false⟩).2).1, .int .i64 (intR (intR (intR ⟨r,false⟩).2).2).1, .gs x.2.1 (x.2.2.1.map encU), .gs (.slice none 0 0) [], .gs (.slice none 0 0) [], .gs (.slice none 0 0) [], .gs (.slice none 0 0) [], .gs (.slice none 0 0) [], .int .i64 0, .str [], .gs (.slice none 0 0) [], .int .i64 0, .bool false], .blk b6 [.sl ((x.2.2.2.l).map u8), .bool (x.2.2.2.k)], .tail 1 x.2.1]) (fun x=>x.1) ((n0, .slice none 0 0,[],z0)) ?_ ?_ ?_);exact (⟨by show _=iterL numR (manyR 8 (intR (intR (intR ⟨r,false⟩).2).2).2).1.toNat [] (manyR 8 (intR (intR (intR ⟨r,false⟩).2).2).2).2;rw [hm0];rfl,by simp only [List.length_nil];omega,by simp only;omega⟩);(simp [Sub,get,keepL]<;>fail);(try simp only [List.map_nil,List.cons_append,List.nil_append]);refine pl_ ?_;intro ⟨n,v,m,y⟩ ⟨h1,h2,h3⟩;(try simp only [List.map_nil,List.cons_append,List.nil_append]);simp only at h1 h2 h3;(try (rcases Nat.eq_zero_or_pos n with hn0 | hn0;(subst hn0;rw [iterL_0] at h1))))
  | refine g_ ?_
  | ((with_reducible refine And.intro ?_ ?_);(exact sv_rreadY_dc))
  | (refine DW.cond (by rfl) ?_ ?_<;>(first | exact i0_ | (intro hb;(try simp only [↓reduceCtorEq,not_true_eq_false,not_false_eq_true,hbs,Int.reduceBEq,Int.reduceBNe,Int.reduceEq] at hb);(try refine s_rreadY_dc ?_))))
  | ((with_reducible first | refine FVg_cases ?_ ?_ | refine FDg_cases ?_ ?_)<;>(intro hb;rw [hb];revert hb;(first | exact i0_ | (intro hb;(try simp only [↓reduceCtorEq,not_true_eq_false,not_false_eq_true,hbs,Int.reduceBEq,Int.reduceBNe,Int.reduceEq] at hb);(try refine s_rreadY_dc ?_)))))
  | ((first | refine rn_ ?_ | refine dn_ ?_ | refine kn_ ?_)<;>(refine s_rreadY_dc ?_))
  | ((refine dm_ ?_);(first | (refine v_ (rfnv_dc _ _) ?_ (ha:=by exact sv_rreadY_dc) (hk:=fun q=>q.1);refine s_rreadY_dc ?_)))
  | ((refine von_ ?_);refine s_rreadY_dc ?_)
  | ((first | ((with_reducible apply DW.drawJ (id:=19) 7 [0,2,3,4,5,6,7,8,9,10,13,23,40,62,63,68,81,86,123] [3,5,7] [1] [3] (hm:=by kernel_rfl) (hd:=by kernel_rfl) (hB:=by kernel_rfl) (hN:=by kernel_rfl));(focus (exact rfl));(repeat (with_reducible first | refine OnB.here ?_ | refine OnB.mid ?_ | refine OnB.next ?_))) | (refine DVJ.k_ rfl rfl rfl ?_) | (refine DVJ.f_ rfl rfl rfl ?_))<;>(simp (maxSteps:=1000000) (disch:=omega) only [push_cast,↓reduceIte,reduceCtorEq,Nat.reduceAdd,Nat.reduceMul,Nat.reduceLT,Nat.reduceLeDiff,Nat.reduceEqDiff,Nat.reduceSub,Int.reduceToNat,Int.reduceLT,Int.reduceLE,Int.reduceAdd,Int.reduceSub,Int.reduceMul,Int.reduceNeg,Nat.reduceBEq,Int.reduceBEq,Int.reduceBNe,Nat.reduceBNe,Int.reduceEq,u8,toN3,takeMap,dropMap,isU8_map,byteOf_map,hb0,hb1,hb2,hb3,hb4,eqHB,takeLen,bneI,encU,klS,klV]))
  | (refine p_ (u0_dc _ _ _) ?_ (ha:=by exact sv_rreadY_dc);rintro d H1 ⟨rfl,rfl⟩<;>refine s_rreadY_dc ?_)
  | (refine q_ (rfnv_dc _ _) ?_ (ha:=by exact sv_rreadY_dc) (hk:=fun q=>q.1);refine s_rreadY_dc ?_)
  | (refine p_ (n0_dc _ _ _) ?_ (ha:=by exact sv_rreadY_dc);rintro d H1 ⟨rfl,rfl⟩<;>refine s_rreadY_dc ?_)
  | ((first | refine p_ (nG_dc _ _ _) ?_ (ha:=by exact sv_rreadY_dc) | refine p_ (uG_dc _ _ _) ?_ (ha:=by exact sv_rreadY_dc) | refine p_ (dotsD_dc _ _ _) ?_ (ha:=by exact sv_rreadY_dc) | refine p_ (tabD_dc _ _ _) ?_ (ha:=by exact sv_rreadY_dc) | refine p_ (textD_dc _ _ _) ?_ (ha:=by exact sv_rreadY_dc));rintro d H1 ⟨rfl,rfl⟩<;>refine s_rreadY_dc ?_)
  | (refine p_ (manyN_dc _ _ _ _) ?_ (ha:=by exact sv_rreadY_dc);rintro d H1 ⟨n0,z0,⟨hm0,hn0,hz0⟩,rfl,rfl⟩<;>refine s_rreadY_dc ?_)
  | (refine p_ (rputY_dc _ _ _ _ _ _ _ _ _ _ _ _ _ _ _ _) ?_ (ha:=by exact sv_rreadY_dc);rintro d H1 ⟨fx,hfx,(⟨hle,v1,m1,rfl,hm1,rfl⟩ | ⟨hgt,rfl,rfl⟩)⟩<;>refine s_rreadY_dc ?_)
  | ((refine on_ ?_);refine s_rreadY_dc ?_)
  | refine f_ ?_
  | (first | refine DVJ.ma_ rfl rfl rfl ?_ | refine DVJ.mb_ rfl rfl rfl ?_)
  | refine vm_ ?_
  | ((fail_if_success (have zz:=b2));with_reducible intro b2)
  | ((fail_if_success (have zz:=b5));with_reducible intro b5)
  | ((fail_if_success (have zz:=b6));with_reducible intro b6)
  | ((fail_if_success (have zz:=b7));with_reducible intro b7)
  | with_reducible intro b)
 all_goals first
 | (obtain ⟨q,rfl⟩:∃ q,n=q+1:=⟨n - 1,by omega⟩
    rw [iterL_s] at h1
    refine ⟨(q,b,m++[(numR y).1],(numR y).2),⟨h1,?_,Nat.le_trans (numR_len y) h3⟩,?_,?_,?_⟩;(dsimp only;rw [List.length_append,List.length_singleton];omega);(dsimp only;omega);(simp [Sub,get,encU]<;>first | done | (push_cast;omega) | fail);(dsimp only;(try simp only [List.map_append,List.map_cons,List.map_nil,encU]);(exact sub_));done)
 | ((first | (have e:=hfr;rw [frameD_1 (by assumption)] at e;(try rw [<-h1] at e);simp only [hS6,hS5,gS4,gS3,gS2,gS1] at e;obtain ⟨rfl,rfl⟩:=Prod.mk.inj e) | (have e:=hfr;rw [frameD_2 (by assumption)] at e;(try rw [<-h1] at e);simp only [hS6,hS5,gS4,gS3,gS2,gS1] at e;obtain ⟨rfl,rfl⟩:=Prod.mk.inj e) | (have e:=hfr;rw [frameD_3 (by assumption)] at e;(try rw [<-h1] at e);simp only [hS6,hS5,gS4,gS3,gS2,gS1] at e;obtain ⟨rfl,rfl⟩:=Prod.mk.inj e) | (have e:=hfr;rw [frameD_0 (by assumption) (by assumption) (by assumption)] at e;(try rw [<-h1] at e);simp only [hS6,hS5,gS4,gS3,gS2,gS1] at e;obtain ⟨rfl,rfl⟩:=Prod.mk.inj e));(have hfx2:=hfx);subst hfx2;refine ⟨_,_,le.tup (by repeat (first | exact Les.nil | refine Les.cons le.rfl_ ?_ | refine Les.cons (le.gs rfl) ?_ | refine Les.cons (le.gs List.map_nil.symm) ?_ | refine Les.cons (le.agg ?_) ?_)),⟨.inl ⟨⟨by assumption,by assumption⟩,rfl⟩,rfl⟩,?_⟩;(exact sub_);done)
 | ((first | (have e:=hfr;rw [frameD_1 (by assumption)] at e;(try rw [<-h1] at e);simp only [hS6,hS5,gS4,gS3,gS2,gS1] at e;obtain ⟨rfl,rfl⟩:=Prod.mk.inj e) | (have e:=hfr;rw [frameD_2 (by assumption)] at e;(try rw [<-h1] at e);simp only [hS6,hS5,gS4,gS3,gS2,gS1] at e;obtain ⟨rfl,rfl⟩:=Prod.mk.inj e) | (have e:=hfr;rw [frameD_3 (by assumption)] at e;(try rw [<-h1] at e);simp only [hS6,hS5,gS4,gS3,gS2,gS1] at e;obtain ⟨rfl,rfl⟩:=Prod.mk.inj e) | (have e:=hfr;rw [frameD_0 (by assumption) (by assumption) (by assumption)] at e;(try rw [<-h1] at e);simp only [hS6,hS5,gS4,gS3,gS2,gS1] at e;obtain ⟨rfl,rfl⟩:=Prod.mk.inj e));(have hfx2:=hfx);subst hfx2;refine ⟨_,_,le.rfl_,⟨.inr ⟨?_,rfl⟩,rfl⟩,?_⟩;rotate_left;(exact sub_);(rintro ⟨q1,q2⟩;first | (exact absurd q2 (by assumption)) | (have hz9:1048576<l.length:=Nat.lt_of_lt_of_le hgt (Nat.le_of_eq (congrArg List.length q2));omega) | (rw [q1] at hb;cases hb) | (simp_all;done));done)
 | (exfalso;omega)
 | (trace_state;fail)
end
end
section
theorem zero_lightD:LightD zeroF:=⟨zero_light,⟨Nat.zero_le _,Nat.zero_le _,Nat.zero_le _,Nat.zero_le _,(fun _ h=>nomatch h),(fun _ h=>nomatch h),(fun _ h=>nomatch h)⟩,Nat.zero_le _⟩
theorem IsFrame.lightD {l:Str} {f:TFrame} (h:IsFrame l f) (hl:l.length<=65535):LightD f:=by
 have e:=(full_parts h.e).2.2.2
 have h1:=h.readD e
 have hr:(numsL [f.fr,f.ep,f.at_]++restBy f).length<=65535:=by
  have:=congrArg List.length e
  unfold bodyOf at this
  rw [List.length_drop,List.length_take,List.length_cons] at this
  omega
 have:=lightD_of (c:=byteI f.kind) (s:=⟨numsL [f.fr,f.ep,f.at_]++restBy f,false⟩) hr
 rwa [h1] at this
theorem read_lightD {l:Str} (hl:l.length<=65535):LightD (readF l):=by
 have h:=(read_is l).1
 generalize readF l=f at h
 generalize readE l=e at h
 cases h with
 | yes h=>exact h.lightD hl
 | _=>exact zero_lightD
attribute [local irreducible] DW SeqD DV DOp DC DVX DVJ DVM frameB fullBy leK frameD
theorem rread_dc (l:List UInt8) (F:Own):l.length<=65535->DC Tryz.prog 23 [.sl (l.map u8)] (([]:Own)++F) fun d G=>d = .tup [.agg [.int .i64 (readF l).kind, .int .i64 (readF l).fr, .int .i64 (readF l).ep, .int .i64 (readF l).at_, .sl ((readF l).sums.map encU), .sl ((readF l).seen.map encDot), .sl ((readF l).tab.seen.map encDot), .sl ((readF l).tab.fences.map encFence), .sl ((readF l).tab.routes.map encRoute), .sl ((readF l).tab.cells.map encCell), .int .i64 (readF l).seq, .str (readF l).topic, .sl ((readF l).payload.map u8), .int .i64 (readF l).qos, .bool (readF l).retain], .int .i64 (readE l)]/\G=[]++F:=fun hl=>by
 have e8:((l.length:Int) - 8).toNat=l.length - 8:=by omega
 have hz:∀ {e:Int} {d:V} {G G':Own},ReadQ l zeroF e->(d = .tup [.agg [.int .i64 0, .int .i64 0, .int .i64 0, .int .i64 0, .gs (.slice none 0 0) [], .gs (.slice none 0 0) [], .gs (.slice none 0 0) [], .gs (.slice none 0 0) [], .gs (.slice none 0 0) [], .gs (.slice none 0 0) [], .int .i64 0, .str [], .gs (.slice none 0 0) [], .int .i64 0, .bool false], .int .i64 e]/\G=G')->∃ d' G1,le d d'/\OLe G G1/\d'=V.tup [.agg [.int .i64 (readF l).kind, .int .i64 (readF l).fr, .int .i64 (readF l).ep, .int .i64 (readF l).at_, .sl ((readF l).sums.map encU), .sl ((readF l).seen.map encDot), .sl ((readF l).tab.seen.map encDot), .sl ((readF l).tab.fences.map encFence), .sl ((readF l).tab.routes.map encRoute), .sl ((readF l).tab.cells.map encCell), .int .i64 (readF l).seq, .str (readF l).topic, .sl ((readF l).payload.map u8), .int .i64 (readF l).qos, .bool (readF l).retain], .int .i64 (readE l)]/\G1=G':=fun h ⟨e1,e2⟩=>by
  obtain ⟨h1,h2⟩:=read_eq h
  rw [h1,h2]
  subst e1;subst e2
  refine ⟨_,_,le.tup ?_,OLe.rfl_,rfl,rfl⟩
  (repeat (first | exact Les.nil | refine Les.cons le.rfl_ ?_ | refine Les.cons (le.gs rfl) ?_ | refine Les.cons (le.agg ?_) ?_))
 by_cases h1:l.length<12
 · exact (rread21s_dc l F h1).post_le fun d G h=>hz (.short (.inl h1)) h
 · by_cases h2:l.take 3=magicL
   · have hd:(bodyOf l).length<=65535:=by unfold bodyOf;rw [List.length_take];omega
     by_cases h3:sumOk l
     · match hr:(bodyOf l).drop 3 with
       | [] =>
        have:=congrArg List.length hr
        unfold bodyOf at this
        rw [List.length_drop,List.length_take,List.length_nil] at this
        omega
       | c::r =>
        have hrl:r.length<=65535:=by
         have:=congrArg List.length hr
         rw [List.length_drop,List.length_cons] at this
         omega
        have hr4:(bodyOf l).drop 4=r:=by
         rw [show (4:Nat)=3+1 from rfl,<-List.drop_drop,hr];rfl
        have hc3:l.getD 3 default=c:=by
         have e:(bodyOf l)[3]? = some c:=by
          have:=congrArg List.head? hr
          rw [List.head?_drop] at this
          exact this
         unfold bodyOf at e
         rw [List.getElem?_take] at e
         split at e
         · rw [List.getD_eq_getElem?_getD,e];rfl
         · cases e
        match hz2:frameD c ⟨r,false⟩ with
        | (f,z) =>
         have hf:LightD f:=by have:=lightD_of (c:=c) (s:=⟨r,false⟩) hrl;rw [hz2] at this;exact this
         have hi:InF f:=by have:=frameD_in c ⟨r,false⟩;rw [hz2] at this;exact this
         cases hB:frameB f with
         | false =>
          refine (rreadN_dc c l (bodyOf l) r f z F ⟨⟨by omega,hl⟩,h2,by rw [e8];exact h3,by rw [e8];rfl,hr4,hc3,hz2,hf,hrl,hd,hB⟩).post_le fun d G h=>hz (.no (by omega) h2 h3 fun g hg=>?_) h
          have:=hg.readD hr
          rw [hz2] at this
          obtain ⟨rfl,_⟩:=Prod.mk.inj this
          rw [hg.r] at hB;cases hB
         | true =>
          refine (rreadY_dc c l (bodyOf l) r f z F ⟨⟨by omega,hl⟩,h2,by rw [e8];exact h3,by rw [e8];rfl,hr4,hc3,hz2,hf,hrl,hd,hB⟩).post_le fun d G h=>?_
          rcases h with ⟨⟨⟨q1,q2⟩,q3⟩ | ⟨q1,q2⟩,q4⟩
          · obtain ⟨e1,e2⟩:=read_frame ⟨hi,hf.l,hB,q2⟩
            rw [e1,e2]
            exact ⟨d,G,le.rfl_,OLe.rfl_,q3,q4⟩
          · refine hz (.no (by omega) h2 h3 fun g hg=>q1 ?_) ⟨q2,q4⟩
            have:=hg.readD hr
            rw [hz2] at this
            obtain ⟨rfl,rfl⟩:=Prod.mk.inj this
            exact ⟨rfl,hg.e⟩
     · obtain ⟨v1,v2⟩:=val_8 (s:=l.drop (l.length - 8)) (by rw [List.length_drop];omega)
       exact (rread27_dc l (bodyOf l) (valL (l.drop (l.length - 8))) F ⟨⟨by omega,Nat.le_trans hl (by decide)⟩,h2,by rw [e8];exact v1.symm,by rw [e8];rfl,fun hx=>h3 (by unfold sumOk;rw [<-hx];exact v1.symm),v2,Nat.le_trans hd (by decide)⟩).post_le fun d G h=>hz (.sum (by omega) h2 h3) h
   · exact (rread21m_dc l F ⟨⟨by omega,Nat.le_trans hl (by decide)⟩,beq_eq_false_iff_ne.2 h2⟩).post_le fun d G h=>hz (.short (.inr h2)) h
end
end Go.Proofs.YtbmbcjmgjdnlnaaGreatDoor
