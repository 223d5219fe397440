/- The broker: its connections in order; a session speaks again, over the whole state. -/
import Derived.Test.YtgekknefphagbaaGreatDoorQex
import Derived.Test.YtgekknefphagbaaGreatDoorWjx
import Derived.KernelRfl
namespace Go.Proofs.YtgekknefphagbaaGreatDoor
open Go.RowKit
set_option linter.unusedSimpArgs false
set_option linter.unusedVariables false
set_option linter.unusedSectionVars false
set_option maxHeartbeats 4000000
set_option maxRecDepth 100000
section
attribute [local irreducible] SN.own ownT ownC ownS zae za8 zah zaR
attribute [local irreducible] DW SeqD DV DOp DC DVX DVJ idsF usI sortS putM zay onlyM
theorem zkL (s:BN):(kvC s.cs).map (·.1)=s.pl.conns.map (·.n):=by unfold kvC BN.pl;simp only [List.map_map];rfl
theorem zh5 {s:BN} (h:BOK s):(s.pl.conns.map (·.n)).Nodup:=by rw [<-zkL];have:=h.cn;unfold kvC;rw [List.map_map];exact this
theorem ziK {s:BN} (h:BOK s):∀ n∈s.pl.conns.map (·.n),0<=n/\n<16:=fun n hn=>by
 obtain ⟨p,hp,rfl⟩:=List.mem_map.1 hn
 obtain ⟨c,hc,rfl⟩:=List.mem_map.1 hp
 exact (h.co c hc).n
theorem zgn {s:BN} (h:BOK s):(s.pl.conns.map (·.n)).length<=16:=by
 have:=zjU (l:=s.pl.conns.map (·.n)) (l':=(List.range 16).map Int.ofNat) (zh5 h) fun n hn=>by
  have hr:=ziK h n hn
  exact List.mem_map.2 ⟨n.toNat,List.mem_range.2 (by omega),by show ((n.toNat:Nat):Int)=n;omega⟩
 simpa using this
theorem znH (mk:Nat) (F:Own):True->DC Tryz.prog 51 [.raw (.map (some mk))] (([]:Own)++F) fun d G=>∃ nb,d = .fn (.func 104) [] [.raw (.pointer (some ⟨nb,0,none⟩))]/\G = .row nb (.cells #[.map (some mk)] 89)::F:=DC.mkeysI (by kernel_rfl) mk F
theorem zno (mk nb:Nat) (l:List (Int×Nat)) (F:Own):((l.map (·.1)).Nodup/\l.length<=1000000000/\(∀ x∈l,-9223372036854775808<=x.1/\x.1<=9223372036854775807))->DC Tryz.prog 50 [.fn (.func 104) [] [.raw (.pointer (some ⟨nb,0,none⟩))]] ([loose, .row nb (.cells #[.map (some mk)] 89), .map mk (entM (V.int .i64) pv l)]++F) fun d G=>d = .sl ((sortedI (l.map (·.1))).map (V.int .i64))/\G=[loose, .row nb (.cells #[.map (some mk)] 89), .map mk (entM (V.int .i64) pv l)]++F :=
 DC.sortedKeysI (by kernel_rfl) (enters_of Tryz.func103 (by kernel_rfl) rfl) (enters_of Tryz.func104 (by kernel_rfl) rfl) mk nb l F
theorem zkq (bb nb:Nat) (s:BN) (F:Own):BOK s->DC Tryz.prog 50 [.fn (.func 104) [] [.raw (.pointer (some ⟨nb,0,none⟩))]] ((loose :: .row nb (.cells #[.map (some s.cm)] 89)::(ownB bb s++[]))++F) fun d G=>d = .sl ((sortedI (s.pl.conns.map (·.n))).map (V.int .i64))/\G=(loose :: .row nb (.cells #[.map (some s.cm)] 89)::(ownB bb s++[]))++F:=fun h=>by
 have hk:=zkL s
 have hn:((kvC s.cs).map (·.1)).Nodup:=by rw [hk];exact zh5 h
 have hl:(kvC s.cs).length<=1000000000:=by
  have:=zgn h
  rw [<-hk,List.length_map] at this
  omega
 have hr:∀ x∈kvC s.cs,-9223372036854775808<=x.1/\x.1<=9223372036854775807:=fun x hx=>by
  have:=ziK h x.1 (by rw [<-hk];exact List.mem_map.2 ⟨x,hx,rfl⟩)
  omega
 rw [<-hk]
 obtain ⟨cm,sm,t,ts,cs,ss⟩:=s
 refine DC.conv (zno cm nb (kvC cs) (.blk bb [.raw (.map (some cm)), .raw (.map (some sm)), .raw (.pointer (some ⟨t,0,none⟩))] :: .map sm (entM V.str pv (kvS ss))::(ownC cs++(ownS ss++(ownT t ts++F)))) ⟨hn,hl,hr⟩) (by (simp only [ownB,BN.maps,zad,zaf,Cn.own,Cn.cells,Cn.sv,Option.map_none,Option.map_some,List.append_assoc,List.cons_append,List.nil_append,List.append_nil]);exact sub_) ?_
 rintro d G ⟨rfl,rfl⟩
 exact ⟨_,_,le.rfl_,⟨rfl,rfl⟩,by (simp only [ownB,BN.maps,zad,zaf,Cn.own,Cn.cells,Cn.sv,Option.map_none,Option.map_some,List.append_assoc,List.cons_append,List.nil_append,List.append_nil]);exact sub_⟩
theorem BOK.setS {cm sm t:Nat} {ts:TS} {cs:List Cn} {m1 m2:List SN} {y y':SN} (h:BOK ⟨cm,sm,t,ts,cs,m1++y::m2⟩) (hn:y'.a.name=y.a.name) (hb:y'.b=y.b) (ho:SAOK y'.a) (hq:SAQ y'.a):BOK ⟨cm,sm,t,ts,cs,m1++y'::m2⟩ :=
 ⟨h.t,h.cn,fun c hc=>(h.co c hc).mono (zd2 hn hb),ze8 h.sn hn,zep h.so ho,zep h.sq hq,h.sd⟩
theorem zqD {s:BN} (h:BOK s) {c:Cn} (hc:c∈s.cs) {nm:YS} {b:Nat} (hs:c.s=some (nm,b)):∃ m1 y m2,s.ss=m1++y::m2/\y.a.name=nm/\y.b=b/\(∀ d∈m1,d.a.name≠y.a.name)/\∀ d∈m2,d.a.name≠y.a.name:=by
 obtain ⟨y,hy,h1,h2⟩:=(h.co c hc).s _ hs
 obtain ⟨m1,m2,hss,k1,k2⟩:=zbS h.sn hy
 exact ⟨m1,y,m2,hss,h1,h2,k1,k2⟩
theorem zos {cm sm t:Nat} {ts:TS} {cs:List Cn} {m1 m2:List SN} {y:SN} (k1:∀ d∈m1,d.a.name≠y.a.name):sesD y.a.name (BN.pl ⟨cm,sm,t,ts,cs,m1++y::m2⟩)=y.a:=by
 unfold sesD
 rw [zdi (s:=⟨cm,sm,t,ts,cs,m1++y::m2⟩) rfl k1];rfl
theorem pl_setS {cm sm t:Nat} {ts:TS} {cs:List Cn} {m1 m2:List SN} {y y':SN} {g:SA->SA} (k1:∀ d∈m1,d.a.name≠y.a.name) (k2:∀ d∈m2,d.a.name≠y.a.name) (hy:y'.a=g y.a) :
  BN.pl ⟨cm,sm,t,ts,cs,m1++y'::m2⟩={ BN.pl ⟨cm,sm,t,ts,cs,m1++y::m2⟩ with sess:=(BN.pl ⟨cm,sm,t,ts,cs,m1++y::m2⟩).sess.map fun a=>if a.name=y.a.name then g a else a }:=by
 have key:∀ l:List SN,(∀ d∈l,d.a.name≠y.a.name)->(l.map (·.a)).map (fun a=>if a.name=y.a.name then g a else a)=l.map (·.a):=fun l h=>by
  rw [List.map_map]
  exact List.map_congr_left fun d hd=>by show (if d.a.name=y.a.name then g d.a else d.a)=d.a;rw [if_neg (h d hd)]
 unfold BN.pl
 simp only
 congr 1
 rw [List.map_append,List.map_cons,List.map_append,List.map_cons,List.map_append,List.map_cons,key m1 k1,key m2 k2,if_pos rfl,hy]
theorem sagB_dc (bb:Nat) (s:BN) (c:Cn) (nm:YS) (b:Nat) (now:Int) (F:Own):(BOK s/\c∈s.cs/\c.s=some (nm,b))->DC Tryz.prog 53 [.raw (.pointer (some ⟨b,0,none⟩)), .int .i64 now] ((ownB bb s++[])++F) fun d G=>∃ s':BN,(BOK s'/\s'.pl=znj now nm s.pl)/\d = .sl ((zb6 now 8 (sesD nm s.pl).fly).map zci)/\G=ownB bb s'++F:=by
 rintro ⟨h,hc,hs⟩
 obtain ⟨m1,y,m2,hss,rfl,rfl,k1,k2⟩:=zqD h hc hs
 have hyo:=h.so y (by rw [hss];simp)
 have hyq:=h.sq y (by rw [hss];simp)
 obtain ⟨cm,sm,t,ts,cs,ss⟩:=s
 simp only at hss
 subst hss
 rw [zos k1]
 refine DC.conv (sagC y now (.blk bb [.raw (.map (some cm)), .raw (.map (some sm)), .raw (.pointer (some ⟨t,0,none⟩))] :: .map cm (entM (V.int .i64) pv (kvC cs)) :: .map sm (entM V.str pv (kvS (m1++y::m2)))::(ownC cs++(ownS m1++(ownS m2++(ownT t ts++F))))) hyo) (by (simp only [ownB,BN.maps,zad,zaf,Cn.own,Cn.cells,Cn.sv,Option.map_none,Option.map_some,List.append_assoc,List.cons_append,List.nil_append,List.append_nil]);exact sub_) ?_
 rintro d G ⟨y',⟨hy1,hy2,hy3⟩,rfl,rfl⟩
 have hyn:y'.a.name=y.a.name:=by rw [hy2];rfl
 refine ⟨_,_,le.rfl_,⟨(⟨cm,sm,t,ts,cs,m1++y'::m2⟩:BN),⟨h.setS hyn hy3 hy1 (by rw [hy2];exact hyq.again now 8),?_⟩,rfl,rfl⟩,?_⟩
 · exact pl_setS (g:=zcJ now 8) k1 k2 hy2
 · rw [show kvS (m1++y::m2)=kvS (m1++y'::m2) from by simp only [zbo,hyn,hy3]]
   (simp only [ownB,BN.maps,zad,zaf,Cn.own,Cn.cells,Cn.sv,Option.map_none,Option.map_some,List.append_assoc,List.cons_append,List.nil_append,List.append_nil])
   exact sub_
theorem zlu {now:Int} {x:Ef×Br} {n o:Int} (h:n≠o):(zeD now x o).2.conn n=x.2.conn n:=by
 unfold zeD
 split
 · split
   · exact zfn h _
   · rfl
 · rfl
theorem zhn {now:Int} {n:Int}:∀ (l:List Int) (x:Ef×Br),n ∉ l->(l.foldl (zeD now) x).2.conn n=x.2.conn n
 | [],x,_=>rfl
 | o::l,x,h=>by
  rw [List.foldl_cons,zhn l _ fun hm=>h (List.mem_cons_of_mem _ hm)]
  exact zlu fun e=>h (by rw [e];exact List.mem_cons_self)
theorem zpp {now:Int} {l:List Int} {b:Br} {k:Nat} (hn:l.Nodup) (hk:k<l.length):(zfF now (l.take k) b).2.conn (l.getD k default)=b.conn (l.getD k default):=by
 refine zhn _ _ fun hm=>?_
 rw [List.getD_eq_getElem?_getD,List.getElem?_eq_getElem hk] at hm
 obtain ⟨j,hj,he⟩:=List.getElem_of_mem hm
 rw [List.length_take] at hj
 rw [List.getElem_take] at he
 have:=(List.getElem_inj hn).1 he
 omega
theorem zlC (now:Int) (x:Ef×Br) (n o:Int):(zgg now x o).2.conn n=x.2.conn n:=by unfold zgg;split<;>rfl
theorem zgX (now:Int) (n:Int):∀ (l:List Int) (x:Ef×Br),(l.foldl (zgg now) x).2.conn n=x.2.conn n
 | [],x=>rfl
 | o::l,x=>by rw [List.foldl_cons,zgX now n l _];exact zlC ..
theorem zlF {l:List Int} (h:l.Nodup):(sortedI l).Nodup:=(List.mergeSort_perm l _).nodup_iff.2 h
theorem zg4 (l:List Int):(sortedI l).length=l.length:=List.length_mergeSort l
theorem zfX {l:List Int} {x:Int}:x∈sortedI l↔x∈l:=(List.mergeSort_perm l _).mem_iff
theorem zkQ {b:Br} {n:Int} (h:n∈b.conns.map (·.n)):∃ c,b.conn n=some c:=by
 obtain ⟨c,hc,rfl⟩:=List.mem_map.1 h
 unfold Br.conn
 cases hf:b.conns.find? (fun d=>d.n==c.n) with
 | some d=>exact ⟨d,rfl⟩
 | none=>have:=List.find?_eq_none.1 hf c hc;simp at this
end
section
attribute [local irreducible] SN.own ownT ownC ownS ownB zae za8 zah zaR outM zb6 zal sortedI
attribute [local irreducible] DW SeqD DV DOp DC DVX DVJ idsF usI sortS putM zay onlyM
theorem tick_y {now:Int} {E:Ef} {b:Br} {n:Int} {cp:CP} (h:b.conn n=some cp) (hl:zgK now cp=true):zeD now (E,b) n=(andM E (zae n b).1,(zae n b).2):=by unfold zeD;simp only [h];rw [if_pos hl]
theorem tick_n {now:Int} {E:Ef} {b:Br} {n:Int} {cp:CP} (h:b.conn n=some cp) (hl:zgK now cp=false):zeD now (E,b) n=(E,b):=by unfold zeD;simp only [h];rw [if_neg (by rw [hl];decide)]
theorem tick_a {now:Int} {E:Ef} {b:Br} {n:Int} {nm:YS} {cp:CP} (h:b.conn n=some cp) (hs:cp.s=some nm):zgg now (E,b) n=(⟨E.outs++outM n (zb6 now 8 (sesD nm b).fly),E.pubs,E.adds,E.drops⟩,znj now nm b):=by unfold zgg;simp only [h,Option.bind_some,hs]
theorem tick_b {now:Int} {E:Ef} {b:Br} {n:Int} {cp:CP} (h:b.conn n=some cp) (hs:cp.s=none):zgg now (E,b) n=(E,b):=by unfold zgg;simp only [h,Option.bind_some,hs]
theorem late_y {now:Int} {c:Cn} (h:0<c.keep) (h2:3 * c.keep<2 * (now - c.heard)):zgK now c.pl=true:=by unfold zgK;rw [Bool.and_eq_true,decide_eq_true_eq,decide_eq_true_eq];exact ⟨h,h2⟩
theorem late_n {now:Int} {c:Cn} (h:c.keep<=0\/2 * (now - c.heard)<=3 * c.keep):zgK now c.pl=false:=by
 cases hl:zgK now c.pl with
 | false=>rfl
 | true =>
  unfold zgK at hl
  rw [Bool.and_eq_true,decide_eq_true_eq,decide_eq_true_eq] at hl
  have h1:0<c.keep:=hl.1
  have h2:3 * c.keep<2 * (now - c.heard):=hl.2
  omega
theorem zjS {s:BN} (h:BOK s) {c:Cn} (hc:c∈s.cs) {nm:YS} {b:Nat} (hs:c.s=some (nm,b)):SAOK (sesD nm s.pl)/\SAQ (sesD nm s.pl):=by
 obtain ⟨m1,y,m2,hss,rfl,rfl,k1,k2⟩:=zqD h hc hs
 have hyo:=h.so y (by rw [hss];simp)
 have hyq:=h.sq y (by rw [hss];simp)
 obtain ⟨cm,sm,t,ts,cs,ss⟩:=s
 simp only at hss
 subst hss
 rw [zos k1]
 exact ⟨hyo,hyq⟩
theorem send_ag {a:SA} (h:SAOK a/\SAQ a) (now:Int):(zb6 now 8 a.fly).length<=1000000000/\∀ k,k<(zb6 now 8 a.fly).length->SendK ((zb6 now 8 a.fly).getD k default) :=
 ⟨Nat.le_trans (zdp ..) (Nat.le_trans h.1.fly (by decide)),zob (zhi fun f hf=>⟨h.1.flo f hf,h.2.fly f hf⟩)⟩
theorem zmw (c:Cn):(c.s=none/\c.sv = .raw (.pointer none))\/∃ nm b,c.s=some (nm,b)/\c.sv = .raw (.pointer (some ⟨b,0,none⟩)):=by
 cases hs:c.s with
 | none=>exact .inl ⟨rfl,by unfold Cn.sv;rw [hs];rfl⟩
 | some e=>exact .inr ⟨e.1,e.2,rfl,by unfold Cn.sv;rw [hs];rfl⟩
theorem zni {s:BN} (h:BOK s) {n:Int} {cp:CP} (hc:s.pl.conn n=some cp):∃ c,(c∈s.cs/\c.b=c.b)/\c.pl=cp/\c.n=n/\lookA n (kvC s.cs)=some c.b:=by
 obtain ⟨c,hcm,hp,hn⟩:=ze4 hc
 obtain ⟨l1,l2,hs,h1,_⟩:=zbS h.cn hcm
 exact ⟨c,⟨hcm,rfl⟩,hp,hn,by rw [hs,<-hn];exact zcZ h1⟩
theorem zpk {bb:Nat} {m:Int} {F H:Own} {w1 w2 w3 w4:Value} {n1 n2 n3 n4:Nat} {c1 c2 c3 c4:List V} {E:Ef} {P2:Br} (s':BN) (hs:SubP (.arr 4 w1 c1 :: .arr 4 w2 c2 :: .arr 1 w3 c3 :: .arr 1 w4 c4::loose::knF::knA::knM m::(ownB bb s'++F)) H) (hr:RowsE E n1 n2 n3 n4 c1 c2 c3 c4) (hb:BOK s') (hp:s'.pl=P2) :
  ∃ d' G,le (.agg [.ar w1 n1, .ar w2 n2, .ar w3 n3, .ar w4 n4]) d'/\(∃ (w1 w2 w3 w4:Value) (s':BN) (n1 n2 n3 n4:Nat) (c1 c2 c3 c4:List V),((BOK s'/\s'.pl=P2)/\RowsE E n1 n2 n3 n4 c1 c2 c3 c4)/\d' = .agg [.ar w1 n1, .ar w2 n2, .ar w3 n3, .ar w4 n4]/\G = .arr 4 w1 c1 :: .arr 4 w2 c2 :: .arr 1 w3 c3 :: .arr 1 w4 c4::loose::knF::knA::knM m::(ownB bb s'++F))/\SubP G H :=
 ⟨_,_,le.rfl_,⟨w1,w2,w3,w4,s',n1,n2,n3,n4,c1,c2,c3,c4,⟨⟨hb,hp⟩,hr⟩,rfl,rfl⟩,hs⟩
theorem zf7:nilE.outs=[]:=rfl
theorem zfA:nilE.pubs=[]:=rfl
theorem zf6:nilE.adds=[]:=rfl
theorem zfy:nilE.drops=[]:=rfl
theorem zbz {p:Prop} (h:p:=by first | exact sv | (refine ⟨?_,?_,fun _ _=>⟨rfl,rfl⟩⟩<;>(have hln:=Nat.le_trans (za3 ((sortedI (S.pl.conns.map (·.n))).getD j default) (zb6 (zal z) 8 (sesD nm2 R.pl).fly)) (Nat.le_trans (zdp ..) (zjS hRB hcc.1 hcs).1.fly);omega)) | exact hB | exact hSB | exact ⟨hSB,⟨hcc.1,hcn⟩,hSz⟩ | exact ⟨hRB,hcc.1,hcs⟩ | exact send_ag (zjS hRB hcc.1 hcs) _ | exact ⟨⟨rfl,rfl⟩,⟨by omega,by omega,by omega,rfl,by omega⟩,⟨by (rw [List.length_map];omega),by (rw [List.length_map];omega),by (rw [List.length_map];omega),by omega⟩,zfe _,zeC _,zer _⟩ | fail):p:=h
theorem ze0 {P Q:Prop} (q:Q) (h:Hid Q->P:=by (intro q;simp (maxSteps:=1000000) (disch:=omega) only [push_cast,↓reduceIte,reduceCtorEq,Nat.reduceAdd,Nat.reduceMul,Nat.reduceLT,Nat.reduceLeDiff,Nat.reduceEqDiff,Nat.reduceSub,Int.reduceToNat,Int.reduceLT,Int.reduceLE,Int.reduceAdd,Int.reduceSub,Int.reduceMul,Int.reduceNeg,Nat.reduceBEq,Int.reduceBEq,Int.reduceBNe,Nat.reduceBNe,Int.reduceEq,hlk,hC,klS,klV];exact q.1)):P:=h ⟨q⟩
section
attribute [local push_cast 2000] Cn.cells zaK zbd zaI zaV zaA zaD zbe zaF za6 za7 zba zaH zaG zbb zaC za1 zaJ zaz zbc zaE za0 zaZ zaB zax za2 zbn zb1 zbl zaY zaM zaL Option.getD_some Option.getD_none Option.isSome_some Option.isSome_none
theorem zoI (bb:Nat) (m:Int) (s:BN) (z:Int) (F:Own):(BOK s/\BSz s.pl)->DC Tryz.prog 20 [.raw (.pointer (some ⟨bb,0,none⟩)), .int .i64 z] (loose::knF::knA::knM m::(ownB bb s++[])++F) fun d G=>∃ (w1 w2 w3 w4:Value) (s':BN) (n1 n2 n3 n4:Nat) (c1 c2 c3 c4:List V),((BOK s'/\s'.pl=(zem z s.pl).2)/\RowsE (zem z s.pl).1 n1 n2 n3 n4 c1 c2 c3 c4)/\d = .agg [.ar w1 n1, .ar w2 n2, .ar w3 n3, .ar w4 n4]/\G = .arr 4 w1 c1 :: .arr 4 w2 c2 :: .arr 1 w3 c3 :: .arr 1 w4 c4::loose::knF::knA::knM m::(ownB bb s'++F):=by
 intro hA
 obtain ⟨hB,hz⟩:=hA
 refine DC.bodyS (n_:=92) (show Tryz.prog.funcs[20]? = some Tryz.f20 by kernel_rfl) rfl rfl (by rfl) ?_
 simp only [env0,List.append_assoc,zf7,zfA,zf6,zfy,List.map_nil,zaq,List.length_nil,List.cons_append,List.nil_append]
 have kw:=ksIs [0,1,4,5,7,8,10,11,19,20,21,22,50,61,62,63,64,77]
 have ow:=zai []
 have dw7:=drIs 7 [] [3,10,16]
 have rw_:=rsIs [.cell 4 38]
 have hlk:True:=trivial
 have hC:True:=trivial
 have hnr:=zdk z
 have hLn:(sortedI (s.pl.conns.map (·.n))).Nodup:=zlF (zh5 hB)
 have hLl:(sortedI (s.pl.conns.map (·.n))).length<=16:=by rw [zg4];exact zgn hB
 repeat' (first
  | ((fail_if_success (have zz:=hown));(with_reducible show DW _ _ (Code.region 2 _ _) _ _ _);(refine DW.own0P 4 eb 0 (by ((with_reducible repeat (first | exact Pulled.nil | apply Pulled.cons | exact Took.here | apply Took.next | apply Took.skip | fail))<;>fail)) rfl ?_);(simp only [List.set_cons_succ,List.set_cons_zero]);(refine DW.own0P 4 eb 1 (by ((with_reducible repeat (first | exact Pulled.nil | apply Pulled.cons | exact Took.here | apply Took.next | apply Took.skip | fail))<;>fail)) rfl ?_);(simp only [List.set_cons_succ,List.set_cons_zero]);(refine DW.own0P 1 eb 2 (by ((with_reducible repeat (first | exact Pulled.nil | apply Pulled.cons | exact Took.here | apply Took.next | apply Took.skip | fail))<;>fail)) rfl ?_);(simp only [List.set_cons_succ,List.set_cons_zero]);(refine DW.own0P 1 eb 3 (by ((with_reducible repeat (first | exact Pulled.nil | apply Pulled.cons | exact Took.here | apply Took.next | apply Took.skip | fail))<;>fail)) rfl ?_);(simp only [List.set_cons_succ,List.set_cons_zero]);(have hown:True:=trivial))
  | ((fail_if_success (have zz:=hop));(with_reducible show DW _ _ (Code.region 5 _ _) _ _ _);(have hop:True:=trivial);(have hkl:k<(sortedI (s.pl.conns.map (·.n))).length:=by omega);(obtain ⟨cp,hcp⟩:=zkQ (b:=s.pl) (n:=((sortedI (s.pl.conns.map (·.n))).getD k default)) (zfX.1 (by rw [List.getD_eq_getElem?_getD,List.getElem?_eq_getElem hkl];exact List.getElem_mem hkl)));(have hcp2:S.pl.conn ((sortedI (s.pl.conns.map (·.n))).getD k default)=some cp:=by (have h9:=zpp (now:=zal z) (b:=s.pl) hLn hkl;rw [<-hT] at h9;exact h9.trans hcp));(obtain ⟨c,hcc,hcpl,hcn,hC⟩:=zni hSB hcp2);(have hh:=(hSB.co c hcc.1).heard);(have hkp:=(hSB.co c hcc.1).keep);(have hsn:=zii hSB hSz hcc.1);(rw [hcn] at hsn);(obtain ⟨hS1,hS2,hS3a,hS4⟩:=hsn);(have hS3:(zae ((sortedI (s.pl.conns.map (·.n))).getD k default) S.pl).1.adds.length=0:=by rw [hS3a];rfl))
  | ((fail_if_success (have zz:=hop2));(with_reducible show DW _ _ (Code.region 12 _ _) _ _ _);(have hop2:True:=trivial);(have hjl:j<(sortedI (S.pl.conns.map (·.n))).length:=by omega);(obtain ⟨cp,hcp⟩:=zkQ (b:=S.pl) (n:=((sortedI (S.pl.conns.map (·.n))).getD j default)) (zfX.1 (by rw [List.getD_eq_getElem?_getD,List.getElem?_eq_getElem hjl];exact List.getElem_mem hjl)));(have hcp2:R.pl.conn ((sortedI (S.pl.conns.map (·.n))).getD j default)=some cp:=by (have h9:=zgX (zal z) ((sortedI (S.pl.conns.map (·.n))).getD j default) ((sortedI (S.pl.conns.map (·.n))).take j) (E,S.pl);(have h8:(zgJ (zal z) ((sortedI (S.pl.conns.map (·.n))).take j) (E,S.pl)).2=R.pl:=by rw [<-hT2]);(unfold zgJ at h8;rw [h8] at h9);exact h9.trans hcp));(obtain ⟨c,hcc,hcpl,hcn,hC⟩:=zni hRB hcp2);(have hLl2:(sortedI (S.pl.conns.map (·.n))).length<=16:=by rw [zg4];exact zgn hSB);(rcases zmw c with ⟨hcs,hlk⟩ | ⟨nm2,b2,hcs,hlk⟩))
  | ((refine DOp.load_ rfl rfl ?_);(repeat (with_reducible first | refine OnB.here ?_ | refine OnB.next ?_ | (refine OnB.inBB ?_;with_reducible intro C0) | (refine OnB.inBC (by assumption) ?_;with_reducible intro C0) | refine OnB.skip ?_));refine ze0 ?_)
  | ((refine DOp.look_ rfl rfl ?_);(repeat (with_reducible first | refine OnM.here ?_ | refine OnM.next ?_ | (refine OnM.inBC ?_;with_reducible intro C0) | (refine OnM.inBS ?_;with_reducible intro C0) | refine OnM.skip ?_));refine ze0 ?_)
  | ((refine dm_ ?_);(refine DVop.load_ rfl rfl rfl rfl ?_);(repeat (with_reducible first | refine OnB.here ?_ | refine OnB.next ?_ | (refine OnB.inBB ?_;with_reducible intro C0) | (refine OnB.inBC (by assumption) ?_;with_reducible intro C0) | refine OnB.skip ?_));refine ze0 ?_)
  | ((with_reducible refine DW.loopB 0 (X:=Nat×Ef×BN×Value×Value×Value×Value) (fun x=>x.1<=(sortedI (s.pl.conns.map (·.n))).length/\(BOK x.2.2.1/\BSz x.2.2.1.pl)/\(x.2.1,x.2.2.1.pl)=zfF (zal z) ((sortedI (s.pl.conns.map (·.n))).take x.1) s.pl/\x.2.1.outs.length<=x.1/\x.2.1.pubs.length<=x.1/\x.2.1.adds.length=0/\x.2.1.drops.length<=x.1 * 1000000) (fun x=>[(0, .raw (.pointer (some ⟨bb,0,none⟩))),(1, .int .i64 (zal z)),(4, .raw (.pointer (some ⟨rb,0,none⟩))),(5, .raw (.pointer (some ⟨eb,0,none⟩))),(19, .sl ((sortedI (s.pl.conns.map (·.n))).map (V.int .i64))),(20, .int .i64 (sortedI (s.pl.conns.map (·.n))).length),(21, .int .i64 x.1)]) (fun x=>.blk eb [.ar x.2.2.2.1 x.2.1.outs.length, .ar x.2.2.2.2.1 x.2.1.pubs.length, .ar x.2.2.2.2.2.1 x.2.1.adds.length, .ar x.2.2.2.2.2.2 x.2.1.drops.length] :: .arr 4 x.2.2.2.1 (cells (x.2.1.outs.map encOu)) :: .arr 4 x.2.2.2.2.1 (cells (x.2.1.pubs.map encM)) :: .arr 1 x.2.2.2.2.2.1 (cells (x.2.1.adds.map V.str)) :: .arr 1 x.2.2.2.2.2.2 (x.2.1.drops.map V.str)::loose::knF::knA::knM m::(ownB bb x.2.2.1++[])) (fun x=>(sortedI (s.pl.conns.map (·.n))).length - x.1) ((0,nilE,s, .slice none 0 0, .slice none 0 0, .slice none 0 0, .slice none 0 0)) ?_ ?_ ?_);exact (⟨Nat.zero_le _,⟨hB,hz⟩,(tick1_0 ..).symm,Nat.zero_le _,Nat.zero_le _,rfl,Nat.zero_le _⟩);(simp [Sub,get,zbu]<;>fail);(try simp only [List.append_assoc,zf7,zfA,zf6,zfy,List.map_nil,zaq,List.length_nil,List.cons_append,List.nil_append]);refine pl_ ?_;intro ⟨k,E,S,v1,v2,v3,v4⟩ ⟨hk,⟨hSB,hSz⟩,hT,hE1,hE2,hE3,hE4⟩;(try simp only [List.append_assoc,zf7,zfA,zf6,zfy,List.map_nil,zaq,List.length_nil,List.cons_append,List.nil_append]);(try simp only at hk hSB hSz hT hE1 hE2 hE3 hE4))
  | ((with_reducible refine DW.loopB 2 (X:=Nat×Ef×BN×Value) (fun x=>x.1<=(sortedI (S.pl.conns.map (·.n))).length/\BOK x.2.2.1/\(x.2.1,x.2.2.1.pl)=zgJ (zal z) ((sortedI (S.pl.conns.map (·.n))).take x.1) (E,S.pl)/\x.2.1.outs.length<=E.outs.length+x.1 * 8/\x.2.1.pubs=E.pubs/\x.2.1.adds=E.adds/\x.2.1.drops=E.drops) (fun x=>[(0, .raw (.pointer (some ⟨bb,0,none⟩))),(1, .int .i64 (zal z)),(4, .raw (.pointer (some ⟨rb,0,none⟩))),(5, .raw (.pointer (some ⟨eb,0,none⟩))),(61, .sl ((sortedI (S.pl.conns.map (·.n))).map (V.int .i64))),(62, .int .i64 (sortedI (S.pl.conns.map (·.n))).length),(63, .int .i64 x.1)]) (fun x=>.blk eb [.ar x.2.2.2 x.2.1.outs.length, .ar v2 E.pubs.length, .ar v3 E.adds.length, .ar v4 E.drops.length] :: .arr 4 x.2.2.2 (cells (x.2.1.outs.map encOu))::loose::knF::knA::knM m::(ownB bb x.2.2.1++[])) (fun x=>(sortedI (S.pl.conns.map (·.n))).length - x.1) ((0,E,S,v1)) ?_ ?_ ?_);exact (⟨Nat.zero_le _,hSB,(tick2_0 ..).symm,Nat.le_add_right _ _,rfl,rfl,rfl⟩);(simp [Sub,get,zbu]<;>fail);(try simp only [List.append_assoc,zf7,zfA,zf6,zfy,List.map_nil,zaq,List.length_nil,List.cons_append,List.nil_append]);refine pl_ ?_;intro ⟨j,O,R,u1⟩ ⟨hj,hRB,hT2,hO1,hO2,hO3,hO4⟩;(try simp only [List.append_assoc,zf7,zfA,zf6,zfy,List.map_nil,zaq,List.length_nil,List.cons_append,List.nil_append]);(try simp only at hj hRB hT2 hO1 hO2 hO3 hO4))
  | refine g_ ?_
  | ((with_reducible refine And.intro ?_ ?_);(exact zbz))
  | (refine DW.cond (by rfl) ?_ ?_<;>(first | exact i0_ | (intro hb;(try simp only [↓reduceCtorEq,not_true_eq_false,not_false_eq_true,hbs,Int.reduceBEq,Int.reduceBNe,Int.reduceEq] at hb);(try refine ze0 ?_))))
  | ((with_reducible first | refine zaa ?_ ?_ | refine zak ?_ ?_)<;>(intro hb;rw [hb];revert hb;(first | exact i0_ | (intro hb;(try simp only [↓reduceCtorEq,not_true_eq_false,not_false_eq_true,hbs,Int.reduceBEq,Int.reduceBNe,Int.reduceEq] at hb);(try refine ze0 ?_)))))
  | ((first | refine rn_ ?_ | refine dn_ ?_ | refine kn_ ?_)<;>(refine ze0 ?_))
  | ((refine dm_ ?_);(first | ((first | refine v_ (zbB _ _) ?_ (ha:=by exact zbz) (hk:=fun q=>q.1) | refine v_ (zkq _ _ _ _) ?_ (ha:=by exact zbz) (hk:=fun q=>q.1) | refine v_ (zku _ _ _) ?_ (ha:=by exact zbz) (hk:=fun q=>q.1));refine ze0 ?_) | (refine DVop.look_ rfl rfl rfl rfl ?_;(repeat (with_reducible first | refine OnM.here ?_ | refine OnM.next ?_));refine ze0 ?_)))
  | ((refine von_ ?_);refine ze0 ?_)
  | ((first | ((with_reducible apply DW.drawJ (id:=15) 5 [0,1,4,5,7,8,10,11,19,20,21,22,50,61,62,63,64,77] [6,8,9,10,12] [1] [6,8,9] (hm:=by kernel_rfl) (hd:=by kernel_rfl) (hB:=by kernel_rfl) (hN:=by kernel_rfl));(focus (exact rfl));(repeat (with_reducible first | refine OnB.here ?_ | refine OnB.mid ?_ | refine OnB.next ?_))) | (refine DVJ.k_ rfl rfl rfl ?_) | (refine DVJ.f_ rfl rfl rfl ?_) | (refine DOp.look_ rfl rfl ?_;(repeat (with_reducible first | refine OnM.here ?_ | refine OnM.next ?_))) | (refine DOp.lenm_ rfl rfl ?_;(repeat (with_reducible first | refine OnM.here ?_ | refine OnM.next ?_))))<;>(simp (maxSteps:=1000000) (disch:=omega) only [push_cast,↓reduceIte,reduceCtorEq,Nat.reduceAdd,Nat.reduceMul,Nat.reduceLT,Nat.reduceLeDiff,Nat.reduceEqDiff,Nat.reduceSub,Int.reduceToNat,Int.reduceLT,Int.reduceLE,Int.reduceAdd,Int.reduceSub,Int.reduceMul,Int.reduceNeg,Nat.reduceBEq,Int.reduceBEq,Int.reduceBNe,Nat.reduceBNe,Int.reduceEq,hlk,hC,Cn.cells,zaK,zbd,zaI,zaV,zaA,zaD,zbe,zaF,za6,za7,zba,zaH,zaG,zbb,zaC,za1,zaJ,zaz,zbc,zaE,za0,zaZ,zaB,zax,za2,zbn,zb1,zbl,zaY,zaM,zaL,Option.getD_some,Option.getD_none,Option.isSome_some,Option.isSome_none,klS,klV]))
  | ((first | refine q_ (zbB _ _) ?_ (ha:=by exact zbz) (hk:=fun q=>q.1) | refine q_ (zkq _ _ _ _) ?_ (ha:=by exact zbz) (hk:=fun q=>q.1) | refine q_ (zku _ _ _) ?_ (ha:=by exact zbz) (hk:=fun q=>q.1));refine ze0 ?_)
  | (refine p_ (znH _ _) ?_ (ha:=by exact zbz);rintro d H1 ⟨nb,rfl,rfl⟩<;>refine ze0 ?_)
  | (refine p_ (zcc (c:=c) _ _ _ _ _) ?_ (ha:=by exact zbz);rintro d H1 ⟨s2,⟨hs2,hp2⟩,rfl,rfl⟩<;>refine ze0 ?_)
  | (refine p_ (zbY (D1:=E.drops) (D2:=(zae ((sortedI (s.pl.conns.map (·.n))).getD k default) S.pl).1.drops) _ _ _ _ _ _ _ _ _ _ _ _ _ _ _ _ _ _) ?_ (ha:=by exact zbz);rintro d H1 ⟨w1,w2,w3,w4,rfl,rfl⟩<;>refine ze0 ?_)
  | (refine p_ (sagB_dc (c:=c) (nm:=nm2) _ _ _ _ _) ?_ (ha:=by exact zbz);rintro d H1 ⟨s3,⟨hs3,hp3⟩,rfl,rfl⟩<;>refine ze0 ?_)
  | ((refine on_ ?_);refine ze0 ?_)
  | refine f_ ?_
  | (first | refine DVJ.ma_ rfl rfl rfl ?_ | refine DVJ.mb_ rfl rfl rfl ?_)
  | refine vm_ ?_
  | ((fail_if_success (have zz:=rb));with_reducible intro rb)
  | ((fail_if_success (have zz:=eb));with_reducible intro eb)
  | ((fail_if_success (have zz:=u2));with_reducible intro u2)
  | with_reducible intro b)
 all_goals first
 | (((have e:=zmU (now:=zal z) (b:=s.pl) hkl);(rw [<-hT,tick_y hcp2 (by rw [<-hcpl];exact late_y (by omega) (by omega))] at e);(refine ⟨(k+1,andM E (zae ((sortedI (s.pl.conns.map (·.n))).getD k default) S.pl).1,s2,w1,w2,w3,w4),⟨by (try simp only);omega,⟨hs2,by (try simp only);rw [hp2];exact hSz.shut _⟩,by (try simp only);rw [e,hp2],by (simp only [andM,List.length_append]);omega,by (simp only [andM,List.length_append]);omega,by (simp only [andM,List.length_append]);omega,by (refine Nat.le_trans (zab _) ?_;(simp only [List.length_append]);omega)⟩,by (try simp only);omega,by simp [Sub,get],?_⟩);((try dsimp only);(simp only [andM,List.length_append,List.map_append,zbr]);exact sub_)))
 | (((have e:=zmU (now:=zal z) (b:=s.pl) hkl);(rw [<-hT,tick_n hcp2 (by rw [<-hcpl];exact late_n (by omega))] at e);(refine ⟨(k+1,E,S,v1,v2,v3,v4),⟨by (try simp only);omega,⟨hSB,hSz⟩,by (try simp only);rw [e],by (try simp only);omega,by (try simp only);omega,by (try simp only);omega,by (show E.drops.length<=(k+1) * 1000000;rw [Nat.add_mul];exact Nat.le_trans hE4 (Nat.le_add_right _ _))⟩,by (try simp only);omega,by simp [Sub,get],?_⟩);((try dsimp only);exact sub_)))
 | (((have e:=zmY (now:=zal z) (x:=(E,S.pl)) hjl);(rw [<-hT2,tick_a (nm:=nm2) hcp2 (by rw [<-hcpl];simp [Cn.pl,hcs])] at e);(have hln:=Nat.le_trans (za3 ((sortedI (S.pl.conns.map (·.n))).getD j default) (zb6 (zal z) 8 (sesD nm2 R.pl).fly)) (Nat.le_trans (zdp ..) (zjS hRB hcc.1 hcs).1.fly));(refine ⟨(j+1,⟨O.outs++outM ((sortedI (S.pl.conns.map (·.n))).getD j default) (zb6 (zal z) 8 (sesD nm2 R.pl).fly),O.pubs,O.adds,O.drops⟩,s3,u2),⟨by (try simp only);omega,hs3,by (try simp only);rw [e,hp3],by (simp only [List.length_append]);omega,hO2,hO3,hO4⟩,by (try simp only);omega,by simp [Sub,get],?_⟩);((try dsimp only);(simp only [List.length_append,List.map_append,zbr]);exact sub_)))
 | (((have e:=zmY (now:=zal z) (x:=(E,S.pl)) hjl);(rw [<-hT2,tick_b hcp2 (by rw [<-hcpl];simp [Cn.pl,hcs])] at e);(refine ⟨(j+1,O,R,u1),⟨by (try simp only);omega,hRB,by (try simp only);rw [e],by (try simp only);omega,hO2,hO3,hO4⟩,by (try simp only);omega,by simp [Sub,get],?_⟩);((try dsimp only);exact sub_)))
 | (((have hk9:k=(sortedI (s.pl.conns.map (·.n))).length:=by omega);(subst hk9);(have hj9:j=(sortedI (S.pl.conns.map (·.n))).length:=by omega);(subst hj9);(rw [List.take_length] at hT hT2);(have hTM:zem z s.pl=(O,R.pl):=by ((have h8:zfF (zal z) (sortedI (s.pl.conns.map (·.n))) s.pl=(E,S.pl):=hT.symm);unfold zem;rw [h8];exact hT2.symm));(rw [hTM]);(apply zpk (s':=R));(focus (exact sub_));(focus (exact ⟨rfl,by rw [hO2],by rw [hO3],by rw [hO4],rfl,by rw [hO2],by rw [hO3],by rw [hO4]⟩));(focus (exact hRB));rfl))
 | (trace_state;fail)
end
end
end Go.Proofs.YtgekknefphagbaaGreatDoor
