/- The broker: connect, Take of a greeting, over the whole state. -/
import Derived.Test.YtgekknefphagbaaGreatDoorQg0x
import Derived.Test.YtgekknefphagbaaGreatDoorQg2x
import Derived.Test.YtgekknefphagbaaGreatDoorQg3x
import Derived.Test.YtgekknefphagbaaGreatDoorQjx
import Derived.KernelRfl
namespace Go.Proofs.YtgekknefphagbaaGreatDoor
open Go.RowKit
set_option linter.unusedSimpArgs false
set_option linter.unusedVariables false
set_option linter.unusedSectionVars false
set_option maxHeartbeats 4000000
set_option maxRecDepth 100000
section
theorem zlh {nm:YS} {b:Br} (h:ofM nm b = -1):zaw nm b=(nilE,b):=by unfold zaw;rw [h];rfl
structure ConN (n:Int) (p:Pk):Prop where
 rng:0<=n/\n<16
 name:(nameM n p).length<=100000
 wtopic:p.wtopic.length<=100000
 wpay:p.wpay.length<=100000
 keep : -1000000000<=p.keep/\p.keep<=1000000000
attribute [local irreducible] SN.own ownT ownC ownS ownB zae za1 zah zaC zbF zb6 zap outM zaY
attribute [local irreducible] DW SeqD DV DOp DC DVX DVJ idsF usI sortS putM zax onlyM
theorem znz (bb:Nat) (m:Int) (T5:TypeId) (fr5:Nat×Nat) (s:BN) (cp:CP) (n now:Int) (p:Pk) (nm:YS) (F:Own):((BOK s/\BSz s.pl/\s.pl.conn n=some cp/\cp.s=none)/\ConN n p/\nm=nameM n p/\p.level=4/\(p.client=[]->p.clean=true)/\(p.hasWill=true->zbF p.wtopic=true))->DC Tryz.prog 39 [.raw (.pointer (some ⟨bb,0,none⟩)), .int .i64 n, .agg [.int .i64 p.kind, .bool p.dup, .bool p.retain, .int .i64 p.qos, .int .i64 p.id, .str p.topic, .sl (p.payload.map u8), .int .i64 p.level, .str p.client, .bool p.clean, .int .i64 p.keep, .bool p.hasWill, .str p.wtopic, .sl (p.wpay.map u8), .int .i64 p.wqos, .bool p.wretain, .bool p.hasUser, .bool p.hasPass, .str p.user, .sl (p.pass.map u8), .bool p.present, .int .i64 p.code, .sl (p.subs.map encU), .sl (p.codes.map (V.int .i64))], .int .i64 now] ((knP T5 fr5::loose::knF::knA::knM m::(ownB bb s++[]))++F) fun d G=>∃ s':BN,(BOK s'/\s'.pl=(zbe n nm p now (zbi p.clean nm (zaw nm s.pl))).2)/\d = .agg [.sl ((zbe n nm p now (zbi p.clean nm (zaw nm s.pl))).1.outs.map encOu), .sl ((zbe n nm p now (zbi p.clean nm (zaw nm s.pl))).1.pubs.map encM), .sl ((zbe n nm p now (zbi p.clean nm (zaw nm s.pl))).1.adds.map V.str), .sl ((zbe n nm p now (zbi p.clean nm (zaw nm s.pl))).1.drops.map V.str)]/\G=knP T5 fr5::loose::knF::knA::knM m::(ownB bb s'++F):=by
 rintro ⟨⟨hB,hz,hc,hs⟩,hcn,hnm,hlv,hnc,hw⟩
 have key:DC Tryz.prog 39 [.raw (.pointer (some ⟨bb,0,none⟩)), .int .i64 n, .agg [.int .i64 p.kind, .bool p.dup, .bool p.retain, .int .i64 p.qos, .int .i64 p.id, .str p.topic, .sl (p.payload.map u8), .int .i64 p.level, .str p.client, .bool p.clean, .int .i64 p.keep, .bool p.hasWill, .str p.wtopic, .sl (p.wpay.map u8), .int .i64 p.wqos, .bool p.wretain, .bool p.hasUser, .bool p.hasPass, .str p.user, .sl (p.pass.map u8), .bool p.present, .int .i64 p.code, .sl (p.subs.map encU), .sl (p.codes.map (V.int .i64))], .int .i64 now] ((knP T5 fr5::loose::knF::knA::knM m::(ownB bb s++[]))++F) fun d G=>∃ (w1 w2 w3 w4:Value) (s':BN) (n1 n2 n3 n4:Nat) (c1 c2 c3 c4:List V),((BOK s'/\s'.pl=(zbe n nm p now (zbi p.clean nm (zaw nm s.pl))).2)/\RowsE (zbe n nm p now (zbi p.clean nm (zaw nm s.pl))).1 n1 n2 n3 n4 c1 c2 c3 c4)/\d = .agg [.ar w1 n1, .ar w2 n2, .ar w3 n3, .ar w4 n4]/\G = .arr 4 w1 c1 :: .arr 4 w2 c2 :: .arr 1 w3 c3 :: .arr 1 w4 c4::knP T5 fr5::loose::knF::knA::knM m::(ownB bb s'++F):=by
  have hnl:nm.length<=100000:=by rw [hnm];exact hcn.name
  rcases zoo hB nm with ⟨hof,hno⟩ | ⟨co,hco,hcon,hco0,hcos⟩
  · cases hcl:p.clean with
    | false =>
     have h1:=zoS bb m T5 fr5 s cp n now p nm F ⟨⟨hB,hz,hc,hs⟩,⟨hcn.rng.1,hcn.rng.2,hlv,hcl,hnm,hnl⟩,⟨hcn.wtopic,hcn.wpay,hcn.keep.1,hcn.keep.2⟩,hnc,hw,hof,hno⟩
     rw [hcl] at h1
     exact h1
    | true =>
     have h1:=zoG bb m T5 fr5 s cp n now p nm F ⟨⟨hB,hz,hc,hs⟩,⟨hcn.rng.1,hcn.rng.2,hlv,hcl,hnm,hnl⟩,⟨hcn.wtopic,hcn.wpay,hcn.keep.1,hcn.keep.2⟩,hnc,hw,hof,hno⟩
     rw [hcl] at h1
     exact h1
  · have hne:n≠co.n:=fun e=>by
     rw [e,zgu hB hco] at hc
     cases hc
     simp only [Cn.pl] at hs
     rw [hcos] at hs;cases hs
    cases hcl:p.clean with
    | false =>
     have h1:=zo0 bb m T5 fr5 s cp n now p nm co F ⟨⟨hB,hz,hc,hs⟩,⟨hcn.rng.1,hcn.rng.2,hlv,hcl,hnm,hnl⟩,⟨hcn.wtopic,hcn.wpay,hcn.keep.1,hcn.keep.2⟩,hnc,hw,hco,hcon.symm,hco0,hne,hcos⟩
     rw [hcl] at h1
     exact h1
    | true =>
     have h1:=zpZ bb m T5 fr5 s cp n now p nm co F ⟨⟨hB,hz,hc,hs⟩,⟨hcn.rng.1,hcn.rng.2,hlv,hcl,hnm,hnl⟩,⟨hcn.wtopic,hcn.wpay,hcn.keep.1,hcn.keep.2⟩,hnc,hw,hco,hcon.symm,hco0,hne,hcos⟩
     rw [hcl] at h1
     exact h1
 exact DC.frzE (X:=BN) (Q:=fun s'=>BOK s'/\s'.pl=(zbe n nm p now (zbi p.clean nm (zaw nm s.pl))).2) (l1:=fun _=>(zbe n nm p now (zbi p.clean nm (zaw nm s.pl))).1.outs.map encOu) (l2:=fun _=>(zbe n nm p now (zbi p.clean nm (zaw nm s.pl))).1.pubs.map encM) (l3:=fun _=>(zbe n nm p now (zbi p.clean nm (zaw nm s.pl))).1.adds.map V.str) (l4:=fun _=>(zbe n nm p now (zbi p.clean nm (zaw nm s.pl))).1.drops.map V.str) (L:=fun s'=>knP T5 fr5::loose::knF::knA::knM m::(ownB bb s'++F))
  (fun _ j hj=>(zfk _ j hj).1) (fun _=>mg_n _) (fun _=>st_n _) (fun _=>st_n _)
  (key.mono fun d G ⟨w1,w2,w3,w4,s',n1,n2,n3,n4,c1,c2,c3,c4,⟨hq,hr⟩,hd,hG⟩=>⟨w1,w2,w3,w4,s',hq,by rw [hd,hr.n1,hr.n2,hr.n3,hr.n4];simp only [List.length_map],by rw [hG,hr.c1,hr.c2,hr.c3,hr.c4];simp only [zb1]⟩)
theorem zg6 {p:Prop} (h:p:=by first | exact sv | exact ⟨hB,⟨hcc,hccn⟩,hz⟩ | exact htl | fail):p:=h
theorem zdl {P Q:Prop} (q:Q) (h:Hid Q->P:=by (intro q;simp (maxSteps:=1000000) (disch:=omega) only [push_cast,↓reduceIte,reduceCtorEq,Nat.reduceAdd,Nat.reduceMul,Nat.reduceLT,Nat.reduceLeDiff,Nat.reduceEqDiff,Nat.reduceSub,Int.reduceToNat,Int.reduceLT,Int.reduceLE,Int.reduceAdd,Int.reduceSub,Int.reduceMul,Int.reduceNeg,Nat.reduceBEq,Int.reduceBEq,Int.reduceBNe,Nat.reduceBNe,Int.reduceEq,hx1,hx2,hx3,hx4];exact q.1)):P:=h ⟨q⟩
theorem zpf (bb:Nat) (m:Int) (s:BN) (n now:Int) (p:Pk) (F:Own):((BOK s/\BSz s.pl/\(∃ cp,s.pl.conn n=some cp/\cp.s=none)/\ConN n p)/\p.level≠4)->DC Tryz.prog 39 [.raw (.pointer (some ⟨bb,0,none⟩)), .int .i64 n, .agg [.int .i64 p.kind, .bool p.dup, .bool p.retain, .int .i64 p.qos, .int .i64 p.id, .str p.topic, .sl (p.payload.map u8), .int .i64 p.level, .str p.client, .bool p.clean, .int .i64 p.keep, .bool p.hasWill, .str p.wtopic, .sl (p.wpay.map u8), .int .i64 p.wqos, .bool p.wretain, .bool p.hasUser, .bool p.hasPass, .str p.user, .sl (p.pass.map u8), .bool p.present, .int .i64 p.code, .sl (p.subs.map encU), .sl (p.codes.map (V.int .i64))], .int .i64 now] (loose::knF::knA::knM m::(ownB bb s++[])++F) fun d G=>∃ s':BN,(BOK s'/\s'.pl=(zaY n 1 s.pl).2)/\d = .agg [.sl ((zaY n 1 s.pl).1.outs.map encOu), .sl ((zaY n 1 s.pl).1.pubs.map encM), .sl ((zaY n 1 s.pl).1.adds.map V.str), .sl ((zaY n 1 s.pl).1.drops.map V.str)]/\G=loose::knF::knA::knM m::(ownB bb s'++F):=by
 intro hA
 obtain ⟨⟨hB,hz,⟨cp,hcp,hcs⟩,hcn⟩,hx1⟩:=hA
 refine DC.bodyS (n_:=140) (show Tryz.prog.funcs[39]? = some Tryz.f39 by kernel_rfl) rfl rfl (by rfl) ?_
 simp only [env0,List.append_assoc,List.cons_append,List.nil_append]
 have kw:=ksIs [0,1,2,3,6,8,9,10,11,12,13,14,15,22,34,50,58,64,79,109]
 have ow:=zai []
 have dw22:=drIs 22 [10,13,16] []
 have dw24:=drIs 24 [18] [3,6,7,10,13]
 have rw_:=rsIs [.cell 8 38]
 obtain ⟨c,hcc,_,hccn⟩:=zep hcp
 have hx2:True:=trivial
 have hx3:True:=trivial
 have hx4:True:=trivial
 repeat' (first
  | ((have zz:=hb);(exact absurd (And.intro zz hcl) hnn))
  | (exact absurd hb hx1)
  | (exact absurd hx1 hb)
  | refine g_ ?_
  | ((with_reducible refine And.intro ?_ ?_);(exact zg6))
  | (refine DW.cond (by rfl) ?_ ?_<;>(first | exact i0_ | (intro hb;(try simp only [↓reduceCtorEq,not_true_eq_false,not_false_eq_true,hbs,Int.reduceBEq,Int.reduceBNe,Int.reduceEq] at hb);(try refine zdl ?_))))
  | ((with_reducible first | refine zaa ?_ ?_ | refine zak ?_ ?_)<;>(intro hb;rw [hb];revert hb;(first | exact i0_ | (intro hb;(try simp only [↓reduceCtorEq,not_true_eq_false,not_false_eq_true,hbs,Int.reduceBEq,Int.reduceBNe,Int.reduceEq] at hb);(try refine zdl ?_)))))
  | ((first | refine rn_ ?_ | refine dn_ ?_ | refine kn_ ?_)<;>(refine zdl ?_))
  | ((refine von_ ?_);refine zdl ?_)
  | (refine p_ (zjb (c:=c) _ _ _ _ _ _) ?_ (ha:=by exact zg6);rintro d H1 ⟨s2,⟨hs2,hp2⟩,rfl,rfl⟩<;>refine zdl ?_)
  | ((refine on_ ?_);refine zdl ?_)
  | refine f_ ?_
  | refine vm_ ?_
  | ((fail_if_success (have zz:=rb));with_reducible intro rb)
  | with_reducible intro b)
 all_goals first
 | (((refine ⟨_,_,le.rfl_,⟨s2,⟨hs2,hp2⟩,rfl,rfl⟩,?_⟩);(exact sub_);done))
 | (trace_state;fail)
theorem zgc {p:Prop} (h:p:=by first | exact sv | exact ⟨hB,⟨hcc,hccn⟩,hz⟩ | exact htl | fail):p:=h
theorem zoU (bb:Nat) (m:Int) (s:BN) (n now:Int) (p:Pk) (F:Own):((BOK s/\BSz s.pl/\(∃ cp,s.pl.conn n=some cp/\cp.s=none)/\ConN n p)/\p.level=4/\p.client=[]/\p.clean=false)->DC Tryz.prog 39 [.raw (.pointer (some ⟨bb,0,none⟩)), .int .i64 n, .agg [.int .i64 p.kind, .bool p.dup, .bool p.retain, .int .i64 p.qos, .int .i64 p.id, .str p.topic, .sl (p.payload.map u8), .int .i64 p.level, .str p.client, .bool p.clean, .int .i64 p.keep, .bool p.hasWill, .str p.wtopic, .sl (p.wpay.map u8), .int .i64 p.wqos, .bool p.wretain, .bool p.hasUser, .bool p.hasPass, .str p.user, .sl (p.pass.map u8), .bool p.present, .int .i64 p.code, .sl (p.subs.map encU), .sl (p.codes.map (V.int .i64))], .int .i64 now] (loose::knF::knA::knM m::(ownB bb s++[])++F) fun d G=>∃ s':BN,(BOK s'/\s'.pl=(zaY n 2 s.pl).2)/\d = .agg [.sl ((zaY n 2 s.pl).1.outs.map encOu), .sl ((zaY n 2 s.pl).1.pubs.map encM), .sl ((zaY n 2 s.pl).1.adds.map V.str), .sl ((zaY n 2 s.pl).1.drops.map V.str)]/\G=loose::knF::knA::knM m::(ownB bb s'++F):=by
 intro hA
 obtain ⟨⟨hB,hz,⟨cp,hcp,hcs⟩,hcn⟩,hx1,hx2,hx3⟩:=hA
 refine DC.bodyS (n_:=140) (show Tryz.prog.funcs[39]? = some Tryz.f39 by kernel_rfl) rfl rfl (by rfl) ?_
 simp only [env0,List.append_assoc,List.cons_append,List.nil_append]
 have kw:=ksIs [0,1,2,3,6,8,9,10,11,12,13,14,15,22,34,50,58,64,79,109]
 have ow:=zai []
 have dw22:=drIs 22 [10,13,16] []
 have dw24:=drIs 24 [18] [3,6,7,10,13]
 have rw_:=rsIs [.cell 8 38]
 obtain ⟨c,hcc,_,hccn⟩:=zep hcp
 have hx4:True:=trivial
 repeat' (first
  | ((have zz:=hb);(exact absurd (And.intro zz hcl) hnn))
  | (exact absurd hb hx1)
  | (exact absurd hx1 hb)
  | refine g_ ?_
  | ((with_reducible refine And.intro ?_ ?_);(exact zgc))
  | (refine DW.cond (by rfl) ?_ ?_<;>(first | exact i0_ | (intro hb;(try simp only [↓reduceCtorEq,not_true_eq_false,not_false_eq_true,hbs,Int.reduceBEq,Int.reduceBNe,Int.reduceEq] at hb);(try refine zdl ?_))))
  | ((with_reducible first | refine zaa ?_ ?_ | refine zak ?_ ?_)<;>(intro hb;rw [hb];revert hb;(first | exact i0_ | (intro hb;(try simp only [↓reduceCtorEq,not_true_eq_false,not_false_eq_true,hbs,Int.reduceBEq,Int.reduceBNe,Int.reduceEq] at hb);(try refine zdl ?_)))))
  | ((first | refine rn_ ?_ | refine dn_ ?_ | refine kn_ ?_)<;>(refine zdl ?_))
  | ((refine von_ ?_);refine zdl ?_)
  | (refine p_ (zjb (c:=c) _ _ _ _ _ _) ?_ (ha:=by exact zgc);rintro d H1 ⟨s2,⟨hs2,hp2⟩,rfl,rfl⟩<;>refine zdl ?_)
  | ((refine on_ ?_);refine zdl ?_)
  | refine f_ ?_
  | refine vm_ ?_
  | ((fail_if_success (have zz:=rb));with_reducible intro rb)
  | with_reducible intro b)
 all_goals first
 | (((refine ⟨_,_,le.rfl_,⟨s2,⟨hs2,hp2⟩,rfl,rfl⟩,?_⟩);(exact sub_);done))
 | (trace_state;fail)
theorem zdw {p:Prop} (h:p:=by first | exact sv | exact ⟨hB,⟨hcc,hccn⟩,hz⟩ | exact htl | fail):p:=h
theorem zpv (bb:Nat) (m:Int) (s:BN) (n now:Int) (p:Pk) (F:Own):((BOK s/\BSz s.pl/\(∃ cp,s.pl.conn n=some cp/\cp.s=none)/\ConN n p)/\p.level=4/\¬(p.client=[]/\p.clean=false)/\p.hasWill=true/\zbF p.wtopic=false)->DC Tryz.prog 39 [.raw (.pointer (some ⟨bb,0,none⟩)), .int .i64 n, .agg [.int .i64 p.kind, .bool p.dup, .bool p.retain, .int .i64 p.qos, .int .i64 p.id, .str p.topic, .sl (p.payload.map u8), .int .i64 p.level, .str p.client, .bool p.clean, .int .i64 p.keep, .bool p.hasWill, .str p.wtopic, .sl (p.wpay.map u8), .int .i64 p.wqos, .bool p.wretain, .bool p.hasUser, .bool p.hasPass, .str p.user, .sl (p.pass.map u8), .bool p.present, .int .i64 p.code, .sl (p.subs.map encU), .sl (p.codes.map (V.int .i64))], .int .i64 now] (loose::knF::knA::knM m::(ownB bb s++[])++F) fun d G=>∃ s':BN,(BOK s'/\s'.pl=(zae n s.pl).2)/\d = .agg [.sl ((zae n s.pl).1.outs.map encOu), .sl ((zae n s.pl).1.pubs.map encM), .sl ((zae n s.pl).1.adds.map V.str), .sl ((zae n s.pl).1.drops.map V.str)]/\G=loose::knF::knA::knM m::(ownB bb s'++F):=by
 intro hA
 obtain ⟨⟨hB,hz,⟨cp,hcp,hcs⟩,hcn⟩,hx1,hnn,hx3,hx4⟩:=hA
 refine DC.bodyS (n_:=140) (show Tryz.prog.funcs[39]? = some Tryz.f39 by kernel_rfl) rfl rfl (by rfl) ?_
 simp only [env0,List.append_assoc,List.cons_append,List.nil_append]
 have kw:=ksIs [0,1,2,3,6,8,9,10,11,12,13,14,15,22,34,50,58,64,79,109]
 have ow:=zai []
 have dw22:=drIs 22 [10,13,16] []
 have dw24:=drIs 24 [18] [3,6,7,10,13]
 have rw_:=rsIs [.cell 8 38]
 obtain ⟨c,hcc,_,hccn⟩:=zep hcp
 have hx2:True:=trivial
 have htl:p.wtopic.length<=1000000000:=by have:=hcn.wtopic;omega
 rcases hcl:p.clean with _ | _
 repeat' (first
  | ((have zz:=hb);(exact absurd (And.intro zz hcl) hnn))
  | (exact absurd hb hx1)
  | (exact absurd hx1 hb)
  | refine g_ ?_
  | ((with_reducible refine And.intro ?_ ?_);(exact zdw))
  | (refine DW.cond (by rfl) ?_ ?_<;>(first | exact i0_ | (intro hb;(try simp only [↓reduceCtorEq,not_true_eq_false,not_false_eq_true,hbs,Int.reduceBEq,Int.reduceBNe,Int.reduceEq] at hb);(try refine zdl ?_))))
  | ((with_reducible first | refine zaa ?_ ?_ | refine zak ?_ ?_)<;>(intro hb;rw [hb];revert hb;(first | exact i0_ | (intro hb;(try simp only [↓reduceCtorEq,not_true_eq_false,not_false_eq_true,hbs,Int.reduceBEq,Int.reduceBNe,Int.reduceEq] at hb);(try refine zdl ?_)))))
  | ((first | refine rn_ ?_ | refine dn_ ?_ | refine kn_ ?_)<;>(refine zdl ?_))
  | ((refine dm_ ?_);(first | (refine v_ (zcr _ _) ?_ (ha:=by exact zdw) (hk:=fun q=>q.1);refine zdl ?_)))
  | ((refine von_ ?_);refine zdl ?_)
  | (refine p_ (zcb (c:=c) _ _ _ _ _) ?_ (ha:=by exact zdw);rintro d H1 ⟨s2,⟨hs2,hp2⟩,rfl,rfl⟩<;>refine zdl ?_)
  | (refine q_ (zcr _ _) ?_ (ha:=by exact zdw) (hk:=fun q=>q.1);refine zdl ?_)
  | ((refine on_ ?_);refine zdl ?_)
  | refine f_ ?_
  | refine vm_ ?_
  | ((fail_if_success (have zz:=rb));with_reducible intro rb)
  | with_reducible intro b)
 all_goals first
 | (((refine ⟨_,_,le.rfl_,⟨s2,⟨hs2,hp2⟩,rfl,rfl⟩,?_⟩);(exact sub_);done))
 | (trace_state;fail)
end
section
attribute [local irreducible] SN.own ownT ownC ownS ownB zae za1 zah zaC zbF zb6 zap outM zaY zbe
attribute [local irreducible] DW SeqD DV DOp DC DVX DVJ idsF usI sortS putM zax onlyM
theorem zlJ (bb:Nat) (m:Int) (T5:TypeId) (fr5:Nat×Nat) (s:BN) (n now:Int) (p:Pk) (F:Own):(BOK s/\BSz s.pl/\(∃ cp,s.pl.conn n=some cp/\cp.s=none)/\ConN n p)->DC Tryz.prog 39 [.raw (.pointer (some ⟨bb,0,none⟩)), .int .i64 n, .agg [.int .i64 p.kind, .bool p.dup, .bool p.retain, .int .i64 p.qos, .int .i64 p.id, .str p.topic, .sl (p.payload.map u8), .int .i64 p.level, .str p.client, .bool p.clean, .int .i64 p.keep, .bool p.hasWill, .str p.wtopic, .sl (p.wpay.map u8), .int .i64 p.wqos, .bool p.wretain, .bool p.hasUser, .bool p.hasPass, .str p.user, .sl (p.pass.map u8), .bool p.present, .int .i64 p.code, .sl (p.subs.map encU), .sl (p.codes.map (V.int .i64))], .int .i64 now] ((knP T5 fr5::loose::knF::knA::knM m::(ownB bb s++[]))++F) fun d G=>∃ s':BN,(BOK s'/\s'.pl=(zaG n p now s.pl).2)/\d = .agg [.sl ((zaG n p now s.pl).1.outs.map encOu), .sl ((zaG n p now s.pl).1.pubs.map encM), .sl ((zaG n p now s.pl).1.adds.map V.str), .sl ((zaG n p now s.pl).1.drops.map V.str)]/\G=knP T5 fr5::loose::knF::knA::knM m::(ownB bb s'++F):=by
 intro h
 have hall:=h
 obtain ⟨hB,hz,⟨cp,hc,hs⟩,hcn⟩:=h
 by_cases h1:p.level=4
 · by_cases h2:p.client=[]/\p.clean=false
   · have e1:zaG n p now s.pl=zaY n 2 s.pl:=by unfold zaG;rw [if_neg (by rw [h1];decide),if_pos h2]
     rw [e1]
     refine DC.conv (zoU bb m s n now p (knP T5 fr5::F) ⟨hall,h1,h2⟩) (by (try simp only [List.append_assoc,List.cons_append,List.nil_append]);exact sub_) ?_
     rintro d G ⟨s',hq,rfl,rfl⟩
     exact ⟨_,_,le.rfl_,⟨s',hq,rfl,rfl⟩,by (try simp only [List.append_assoc,List.cons_append,List.nil_append]);exact sub_⟩
   · by_cases h3:p.hasWill=true/\zbF p.wtopic=false
     · have e1:zaG n p now s.pl=zae n s.pl:=by unfold zaG;rw [if_neg (by rw [h1];decide),if_neg h2,if_pos h3]
       rw [e1]
       refine DC.conv (zpv bb m s n now p (knP T5 fr5::F) ⟨hall,h1,h2,h3⟩) (by (try simp only [List.append_assoc,List.cons_append,List.nil_append]);exact sub_) ?_
       rintro d G ⟨s',hq,rfl,rfl⟩
       exact ⟨_,_,le.rfl_,⟨s',hq,rfl,rfl⟩,by (try simp only [List.append_assoc,List.cons_append,List.nil_append]);exact sub_⟩
     · have e1:zaG n p now s.pl=zbe n (nameM n p) p now (zbi p.clean (nameM n p) (zaw (nameM n p) s.pl)):=by unfold zaG;rw [if_neg (by rw [h1];decide),if_neg h2,if_neg h3]
       rw [e1]
       refine znz bb m T5 fr5 s cp n now p (nameM n p) F ⟨⟨hB,hz,hc,hs⟩,hcn,rfl,h1,fun h=>?_,fun h=>?_⟩
       · cases hcl:p.clean with
         | true=>rfl
         | false=>exact absurd ⟨h,hcl⟩ h2
       · cases hw:zbF p.wtopic with
         | true=>rfl
         | false=>exact absurd ⟨h,hw⟩ h3
 · have e1:zaG n p now s.pl=zaY n 1 s.pl:=by unfold zaG;rw [if_pos h1]
   rw [e1]
   refine DC.conv (zpf bb m s n now p (knP T5 fr5::F) ⟨hall,h1⟩) (by (try simp only [List.append_assoc,List.cons_append,List.nil_append]);exact sub_) ?_
   rintro d G ⟨s',hq,rfl,rfl⟩
   exact ⟨_,_,le.rfl_,⟨s',hq,rfl,rfl⟩,by (try simp only [List.append_assoc,List.cons_append,List.nil_append]);exact sub_⟩
attribute [local irreducible] zaG
theorem zcC {p:Prop} (h:p:=by first | exact sv | exact hall | fail):p:=h
theorem zf9 {P Q:Prop} (q:Q) (h:Hid Q->P:=by (intro q;simp (maxSteps:=1000000) (disch:=omega) only [push_cast,↓reduceIte,reduceCtorEq,Nat.reduceAdd,Nat.reduceMul,Nat.reduceLT,Nat.reduceLeDiff,Nat.reduceEqDiff,Nat.reduceSub,Int.reduceToNat,Int.reduceLT,Int.reduceLE,Int.reduceAdd,Int.reduceSub,Int.reduceMul,Int.reduceNeg,Nat.reduceBEq,Int.reduceBEq,Int.reduceBNe,Nat.reduceBNe,Int.reduceEq,hlk,hC];exact q.1)):P:=h ⟨q⟩
section
attribute [local push_cast 2000] zaM zbp zaN zbj zaQ zaL zbu zaT zaD zaJ zbr zaP zaU zbt zaO za9 zaS zaA zbq zaK zaB zbo zaR za8 za6 zbB zcd zb9 zb5 zbm zbl Option.getD_some Option.getD_none Option.isSome_some Option.isSome_none
theorem zlI (bb:Nat) (m:Int) (T5:TypeId) (fr5:Nat×Nat) (cm sm t:Nat) (ts:TS) (l1 l2:List Cn) (ss:List SN) (n now:Int) (cb st:Nat) (left:YS) (bad hd kp:Int) (cl:Bool) (will:List Mg) (lv wv:V) (p:Pk) (T1 T2 T3 T4:List V) (F:Own):((BOK (⟨cm,sm,t,ts,l1++(⟨n,cb,st,left,bad,zal now,none,kp,cl,will,lv,wv⟩:Cn)::l2,ss⟩:BN)/\BSz (⟨cm,sm,t,ts,l1++(⟨n,cb,st,left,bad,zal now,none,kp,cl,will,lv,wv⟩:Cn)::l2,ss⟩:BN).pl/\(∃ cp,(⟨cm,sm,t,ts,l1++(⟨n,cb,st,left,bad,zal now,none,kp,cl,will,lv,wv⟩:Cn)::l2,ss⟩:BN).pl.conn n=some cp/\cp.s=none)/\ConN n p)/\lookA n (kvC l1++(n,cb)::kvC l2)=some cb/\p.kind=1)->DC Tryz.prog 14 [.raw (.pointer (some ⟨bb,0,none⟩)), .int .i64 n, .agg [.int .i64 p.kind, .bool p.dup, .bool p.retain, .int .i64 p.qos, .int .i64 p.id, .str p.topic, .sl (p.payload.map u8), .int .i64 p.level, .str p.client, .bool p.clean, .int .i64 p.keep, .bool p.hasWill, .str p.wtopic, .sl (p.wpay.map u8), .int .i64 p.wqos, .bool p.wretain, .bool p.hasUser, .bool p.hasPass, .str p.user, .sl (p.pass.map u8), .bool p.present, .int .i64 p.code, .sl (p.subs.map encU), .sl (p.codes.map (V.int .i64))], .int .i64 now, .agg [.sl T1, .sl T2, .sl T3, .sl T4]] (knP T5 fr5::loose::knF::knA::knM m :: .blk bb [.raw (.map (some cm)), .raw (.map (some sm)), .raw (.pointer (some ⟨t,0,none⟩))] :: .map cm (entM (V.int .i64) pv (kvC l1++(n,cb)::kvC l2)) :: .blk cb [.raw (.pointer (some ⟨st,0,none⟩)), .int .i64 hd, .raw (.pointer none), .int .i64 kp, .bool cl,wv] :: .map sm (entM V.str pv (kvS ss)) :: .blk st [lv, .int .i64 bad]::(ownC l1++(ownC l2++(ownS ss++(ownT t ts++[]))))++F) fun d G=>∃ s':BN,(BOK s'/\s'.pl=(zaG n p now (⟨cm,sm,t,ts,l1++(⟨n,cb,st,left,bad,zal now,none,kp,cl,will,lv,wv⟩:Cn)::l2,ss⟩:BN).pl).2)/\d = .tup [zb7 (zaG n p now (⟨cm,sm,t,ts,l1++(⟨n,cb,st,left,bad,zal now,none,kp,cl,will,lv,wv⟩:Cn)::l2,ss⟩:BN).pl).1, .int .i64 0]/\G=knP T5 fr5::loose::knF::knA::knM m::(ownB bb s'++F):=by
 intro hA
 obtain ⟨hall,hlk,hk1⟩:=hA
 refine DC.bodyS (n_:=114) (show Tryz.prog.funcs[14]? = some Tryz.f14 by kernel_rfl) rfl rfl (by rfl) ?_
 simp only [env0,List.append_assoc,List.cons_append,List.nil_append]
 have kw:=ksIs [0,1,2,3,4,7,9,10,11,12,14,22,37,42,43,50,56,71,85,93,99,106]
 have ow:=zai []
 have dw5:=drIs 5 [] [3,6]
 have dw13:=drIs 13 [] [3,4,5]
 have dw18:=drIs 18 [10] [4,5,7,8]
 have rw_:=rsIs [.cell 10 38, .tmp 11]
 have hC:True:=trivial
 repeat' (first
  | ((fail_if_success (have zz:=hto));(with_reducible refine DW.toR 9 (G:=.blk rb [.gs (.slice none 0 0) [], .gs (.slice none 0 0) [], .gs (.slice none 0 0) [], .gs (.slice none 0 0) []]::knP T5 fr5::loose::knF::knA::knM m::(ownB bb (⟨cm,sm,t,ts,l1++(⟨n,cb,st,left,bad,zal now,none,kp,cl,will,lv,wv⟩:Cn)::l2,ss⟩:BN)++F)) ?_ ?_);(focus ((simp only [ownB,BN.maps,zad,zas,Cn.own,Cn.cells,Cn.sv,Option.map_none,Option.map_some,List.append_assoc,List.cons_append,List.nil_append,List.append_nil]);exact sub_));(have hto:True:=trivial))
  | ((refine DOp.load_ rfl rfl ?_);(repeat (with_reducible first | refine OnB.here ?_ | refine OnB.next ?_ | (refine OnB.inH (by assumption) ?_;with_reducible intro C) | refine OnB.skip ?_));refine zf9 ?_)
  | ((refine DOp.look_ rfl rfl ?_);(repeat (with_reducible first | refine OnM.here ?_ | refine OnM.next ?_ | (refine OnM.inN (by assumption) ?_;with_reducible intro C hC) | (refine OnM.inK (by assumption) ?_;with_reducible intro C hC) | refine OnM.skip ?_));refine zf9 ?_)
  | refine g_ ?_
  | ((with_reducible refine And.intro ?_ ?_);(exact zcC))
  | (refine DW.cond (by rfl) ?_ ?_<;>(first | exact i0_ | (intro hb;(try simp only [↓reduceCtorEq,not_true_eq_false,not_false_eq_true,hbs,Int.reduceBEq,Int.reduceBNe,Int.reduceEq] at hb);(try refine zf9 ?_))))
  | ((with_reducible first | refine zaa ?_ ?_ | refine zak ?_ ?_)<;>(intro hb;rw [hb];revert hb;(first | exact i0_ | (intro hb;(try simp only [↓reduceCtorEq,not_true_eq_false,not_false_eq_true,hbs,Int.reduceBEq,Int.reduceBNe,Int.reduceEq] at hb);(try refine zf9 ?_)))))
  | ((first | refine rn_ ?_ | refine dn_ ?_ | refine kn_ ?_)<;>(refine zf9 ?_))
  | ((refine dm_ ?_);(first | (refine v_ (zbE _ _) ?_ (ha:=by exact zcC) (hk:=fun q=>q.1);refine zf9 ?_) | (refine DVop.look_ rfl rfl rfl rfl ?_;(repeat (with_reducible first | refine OnM.here ?_ | refine OnM.next ?_));refine zf9 ?_)))
  | ((refine von_ ?_);refine zf9 ?_)
  | ((first | (refine DOp.look_ rfl rfl ?_;(repeat (with_reducible first | refine OnM.here ?_ | refine OnM.next ?_))))<;>(refine zf9 ?_))
  | (refine q_ (zbE _ _) ?_ (ha:=by exact zcC) (hk:=fun q=>q.1);refine zf9 ?_)
  | (refine p_ (zlJ (s:=(⟨cm,sm,t,ts,l1++(⟨n,cb,st,left,bad,zal now,none,kp,cl,will,lv,wv⟩:Cn)::l2,ss⟩:BN)) (p:=p) _ _ _ _ _ _ _) ?_ (ha:=by exact zcC);rintro d H1 ⟨s2,⟨hs2,hp2⟩,rfl,rfl⟩<;>refine zf9 ?_)
  | ((refine on_ ?_);refine zf9 ?_)
  | refine f_ ?_
  | refine vm_ ?_
  | ((fail_if_success (have zz:=rb));with_reducible intro rb)
  | with_reducible intro b)
 all_goals first
 | (((with_reducible refine kill_ ?_);omega))
 | (((refine ⟨_,_,le.rfl_,⟨s2,⟨hs2,hp2⟩,rfl,rfl⟩,?_⟩);(exact sub_);done))
 | (trace_state;fail)
end
theorem zlf (n now:Int) (b:Br):(zbv n now b).conn n=(b.conn n).map fun c=>{ c with heard:=zal now }:=by
 unfold zbv Br.conn
 simp only
 induction b.conns with
 | nil=>rfl
 | cons c l ih =>
  rw [List.map_cons]
  by_cases h:c.n=n
  · rw [if_pos h,List.find?_cons_of_pos (by simp [h]),List.find?_cons_of_pos (by simp [h])];rfl
  · rw [if_neg h,List.find?_cons_of_neg (by simp [h]),List.find?_cons_of_neg (by simp [h]),ih]
theorem zey (bb:Nat) (m:Int) (T5:TypeId) (fr5:Nat×Nat) (s:BN) (n now:Int) (p:Pk) (T1 T2 T3 T4:List V) (F:Own):(BOK s/\BSz s.pl/\(∃ cp,s.pl.conn n=some cp/\cp.s=none)/\ConN n p/\p.kind=1)->DC Tryz.prog 14 [.raw (.pointer (some ⟨bb,0,none⟩)), .int .i64 n, .agg [.int .i64 p.kind, .bool p.dup, .bool p.retain, .int .i64 p.qos, .int .i64 p.id, .str p.topic, .sl (p.payload.map u8), .int .i64 p.level, .str p.client, .bool p.clean, .int .i64 p.keep, .bool p.hasWill, .str p.wtopic, .sl (p.wpay.map u8), .int .i64 p.wqos, .bool p.wretain, .bool p.hasUser, .bool p.hasPass, .str p.user, .sl (p.pass.map u8), .bool p.present, .int .i64 p.code, .sl (p.subs.map encU), .sl (p.codes.map (V.int .i64))], .int .i64 now, .agg [.sl T1, .sl T2, .sl T3, .sl T4]] ((knP T5 fr5::loose::knF::knA::knM m::(ownB bb s++[]))++F) fun d G=>∃ s':BN,(BOK s'/\s'.pl=(zaG n p now (zbv n now s.pl)).2)/\d = .tup [zb7 (zaG n p now (zbv n now s.pl)).1, .int .i64 0]/\G=knP T5 fr5::loose::knF::knA::knM m::(ownB bb s'++F):=by
 rintro ⟨h,hz,⟨cp,hc,hs⟩,hcon,hk⟩
 have hc0:=hc
 obtain ⟨cm,sm,t,ts,l1,c,l2,ss,rfl,rfl,hcn,h1,h2⟩:=h.at hc
 obtain ⟨cn,cb,st,left,bad,hd,sv,kp,cl,will,lv,wv⟩:=c
 have hcn1:n=cn:=hcn.symm
 subst hcn1
 cases sv with
 | some e=>simp [Cn.pl] at hs
 | none =>
  have hlk:lookA n (kvC l1++(n,cb)::kvC l2)=some cb:=by have:=zcV (l2:=l2) h1;rwa [zas] at this
  have hp:BN.pl ⟨cm,sm,t,ts,l1++(⟨n,cb,st,left,bad,zal now,none,kp,cl,will,lv,wv⟩:Cn)::l2,ss⟩=zbv n now (BN.pl ⟨cm,sm,t,ts,l1++(⟨n,cb,st,left,bad,hd,none,kp,cl,will,lv,wv⟩:Cn)::l2,ss⟩):=zeh (c:=(⟨n,cb,st,left,bad,hd,none,kp,cl,will,lv,wv⟩:Cn)) now h1 h2
  refine DC.conv (zlI bb m T5 fr5 cm sm t ts l1 l2 ss n now cb st left bad hd kp cl will lv wv p T1 T2 T3 T4 F ⟨⟨h.heard now,by rw [hp];exact hz.heard _ _,⟨_,by rw [hp,zlf,hc0];rfl,rfl⟩,hcon⟩,hlk,hk⟩) (by (simp only [ownB,BN.maps,zad,zas,Cn.own,Cn.cells,Cn.sv,Option.map_none,Option.map_some,List.append_assoc,List.cons_append,List.nil_append,List.append_nil]);exact sub_) ?_
  rintro d G ⟨s',⟨hs',hp'⟩,rfl,rfl⟩
  exact ⟨_,_,le.rfl_,⟨s',⟨hs',by rw [hp',hp]⟩,by rw [hp],rfl⟩,sub_⟩
end
end Go.Proofs.YtgekknefphagbaaGreatDoor
