/- The broker: a connection is shut, over the whole state. -/
import Derived.Test.YtgekknefphagbaaGreatDoorCzx
import Derived.KernelRfl
namespace Go.Proofs.YtgekknefphagbaaGreatDoor
open Go.RowKit
set_option linter.unusedSimpArgs false
set_option linter.unusedVariables false
set_option linter.unusedSectionVars false
set_option maxHeartbeats 4000000
set_option maxRecDepth 100000
section
attribute [local irreducible] SN.own ownT ownC ownS zag zcN za4 zar zaR
attribute [local irreducible] DW SeqD DV DOp DC DVX DVJ idsF usI sortS putM zay onlyM
theorem zlG (bb cm sm t:Nat) (M:List (Int×Nat)) (n:Int) (cb st:Nat) (hd:Int) (kp:Int) (cl:Bool) (F:Own):(lookA n M=some cb)->DC Tryz.prog 38 [.raw (.pointer (some ⟨bb,0,none⟩)), .int .i64 n] ((.blk bb [.raw (.map (some cm)), .raw (.map (some sm)), .raw (.pointer (some ⟨t,0,none⟩))] :: .map cm (entM (V.int .i64) pv M) :: .blk cb [.raw (.pointer (some ⟨st,0,none⟩)), .int .i64 hd, .raw (.pointer none), .int .i64 kp, .bool cl, .gs (.slice none 0 0) []]::([]:Own))++F) fun d G=>d=zb8 (⟨[⟨n,[],true⟩],[],[],zaR ([]++[])⟩:Ef)/\G = .blk bb [.raw (.map (some cm)), .raw (.map (some sm)), .raw (.pointer (some ⟨t,0,none⟩))] :: .map cm (entM (V.int .i64) pv (za4 n M))::F:=fun h=>by
 refine DC.sub ((DC.frzE (X:=Unit) (Q:=fun _=>True) (l1:=fun _=>[.agg [.int .i64 0, .int .i64 n, .gs (.slice none 0 0) [], .bool true]]) (l2:=fun _=>[]) (l3:=fun _=>[]) (l4:=fun _=>(zaR ([]++[])).map V.str) (L:=fun _=>.blk bb [.raw (.map (some cm)), .raw (.map (some sm)), .raw (.pointer (some ⟨t,0,none⟩))] :: .map cm (entM (V.int .i64) pv (za4 n M))::F) (fun _ x hx=>by rw [List.mem_singleton.1 hx];rfl) (fun _=>(fun _ h=>nomatch h)) (fun _ _ h=>nomatch h) (fun _=>st_n _) ((zl7 bb cm sm t M n cb st hd kp cl F h).mono fun d G ⟨w1,w2,w3,w4,hd,hG⟩=>⟨w1,w2,w3,w4,(),trivial,by rw [hd];simp only [List.length_map,List.length_cons,List.length_nil];try rfl,by rw [hG,zb4];rfl⟩)).mono fun d G ⟨_,_,hd,hG⟩=>?_)
 subst hd;subst hG
 exact ⟨_,_,le.agg (Les.cons (le.sl1 (Les.cons le.rfl_ (Les.cons le.rfl_ (Les.cons (le.gs rfl) (Les.cons le.rfl_ Les.nil))))) (Les.cons le.rfl_ (Les.cons le.rfl_ (Les.cons le.rfl_ Les.nil)))),⟨rfl,rfl⟩,SubP.refl⟩
theorem zlq (bb cm sm t:Nat) (M:List (Int×Nat)) (n:Int) (cb st:Nat) (hd:Int) (kp:Int) (cl:Bool) (wl:List Mg) (F:Own):(lookA n M=some cb/\wl.length<=100)->DC Tryz.prog 38 [.raw (.pointer (some ⟨bb,0,none⟩)), .int .i64 n] ((.blk bb [.raw (.map (some cm)), .raw (.map (some sm)), .raw (.pointer (some ⟨t,0,none⟩))] :: .map cm (entM (V.int .i64) pv M) :: .blk cb [.raw (.pointer (some ⟨st,0,none⟩)), .int .i64 hd, .raw (.pointer none), .int .i64 kp, .bool cl, .sl (wl.map encM)]::([]:Own))++F) fun d G=>d=zb8 (⟨[⟨n,[],true⟩],wl,[],zaR ([]++[])⟩:Ef)/\G = .blk bb [.raw (.map (some cm)), .raw (.map (some sm)), .raw (.pointer (some ⟨t,0,none⟩))] :: .map cm (entM (V.int .i64) pv (za4 n M))::F:=fun h=>by
 refine DC.sub ((DC.frzE (X:=Unit) (Q:=fun _=>True) (l1:=fun _=>[.agg [.int .i64 0, .int .i64 n, .gs (.slice none 0 0) [], .bool true]]) (l2:=fun _=>(wl.map encM)) (l3:=fun _=>[]) (l4:=fun _=>(zaR ([]++[])).map V.str) (L:=fun _=>.blk bb [.raw (.map (some cm)), .raw (.map (some sm)), .raw (.pointer (some ⟨t,0,none⟩))] :: .map cm (entM (V.int .i64) pv (za4 n M))::F) (fun _ x hx=>by rw [List.mem_singleton.1 hx];rfl) (fun _=>mg_n _) (fun _ _ h=>nomatch h) (fun _=>st_n _) ((zlK bb cm sm t M n cb st hd kp cl wl F h).mono fun d G ⟨w1,w2,w3,w4,hd,hG⟩=>⟨w1,w2,w3,w4,(),trivial,by rw [hd];simp only [List.length_map,List.length_cons,List.length_nil];try rfl,by rw [hG,zb4];rfl⟩)).mono fun d G ⟨_,_,hd,hG⟩=>?_)
 subst hd;subst hG
 exact ⟨_,_,le.agg (Les.cons (le.sl1 (Les.cons le.rfl_ (Les.cons le.rfl_ (Les.cons (le.gs rfl) (Les.cons le.rfl_ Les.nil))))) (Les.cons le.rfl_ (Les.cons le.rfl_ (Les.cons le.rfl_ Les.nil)))),⟨rfl,rfl⟩,SubP.refl⟩
theorem zl8 (bb cm sm t:Nat) (M:List (Int×Nat)) (n:Int) (cb st:Nat) (hd:Int) (kp:Int) (xb:Nat) (F:Own):(lookA n M=some cb)->DC Tryz.prog 38 [.raw (.pointer (some ⟨bb,0,none⟩)), .int .i64 n] ((.blk bb [.raw (.map (some cm)), .raw (.map (some sm)), .raw (.pointer (some ⟨t,0,none⟩))] :: .map cm (entM (V.int .i64) pv M) :: .blk cb [.raw (.pointer (some ⟨st,0,none⟩)), .int .i64 hd, .raw (.pointer (some ⟨xb,0,none⟩)), .int .i64 kp, .bool false, .gs (.slice none 0 0) []]::([]:Own))++F) fun d G=>d=zb8 (⟨[⟨n,[],true⟩],[],[],zaR ([]++[])⟩:Ef)/\G = .blk bb [.raw (.map (some cm)), .raw (.map (some sm)), .raw (.pointer (some ⟨t,0,none⟩))] :: .map cm (entM (V.int .i64) pv (za4 n M))::F:=fun h=>by
 refine DC.sub ((DC.frzE (X:=Unit) (Q:=fun _=>True) (l1:=fun _=>[.agg [.int .i64 0, .int .i64 n, .gs (.slice none 0 0) [], .bool true]]) (l2:=fun _=>[]) (l3:=fun _=>[]) (l4:=fun _=>(zaR ([]++[])).map V.str) (L:=fun _=>.blk bb [.raw (.map (some cm)), .raw (.map (some sm)), .raw (.pointer (some ⟨t,0,none⟩))] :: .map cm (entM (V.int .i64) pv (za4 n M))::F) (fun _ x hx=>by rw [List.mem_singleton.1 hx];rfl) (fun _=>(fun _ h=>nomatch h)) (fun _ _ h=>nomatch h) (fun _=>st_n _) ((zlN bb cm sm t M n cb st hd kp xb F h).mono fun d G ⟨w1,w2,w3,w4,hd,hG⟩=>⟨w1,w2,w3,w4,(),trivial,by rw [hd];simp only [List.length_map,List.length_cons,List.length_nil];try rfl,by rw [hG,zb4];rfl⟩)).mono fun d G ⟨_,_,hd,hG⟩=>?_)
 subst hd;subst hG
 exact ⟨_,_,le.agg (Les.cons (le.sl1 (Les.cons le.rfl_ (Les.cons le.rfl_ (Les.cons (le.gs rfl) (Les.cons le.rfl_ Les.nil))))) (Les.cons le.rfl_ (Les.cons le.rfl_ (Les.cons le.rfl_ Les.nil)))),⟨rfl,rfl⟩,SubP.refl⟩
theorem zlU (bb cm sm t:Nat) (M:List (Int×Nat)) (n:Int) (cb st:Nat) (hd:Int) (kp:Int) (xb:Nat) (wl:List Mg) (F:Own):(lookA n M=some cb/\wl.length<=100)->DC Tryz.prog 38 [.raw (.pointer (some ⟨bb,0,none⟩)), .int .i64 n] ((.blk bb [.raw (.map (some cm)), .raw (.map (some sm)), .raw (.pointer (some ⟨t,0,none⟩))] :: .map cm (entM (V.int .i64) pv M) :: .blk cb [.raw (.pointer (some ⟨st,0,none⟩)), .int .i64 hd, .raw (.pointer (some ⟨xb,0,none⟩)), .int .i64 kp, .bool false, .sl (wl.map encM)]::([]:Own))++F) fun d G=>d=zb8 (⟨[⟨n,[],true⟩],wl,[],zaR ([]++[])⟩:Ef)/\G = .blk bb [.raw (.map (some cm)), .raw (.map (some sm)), .raw (.pointer (some ⟨t,0,none⟩))] :: .map cm (entM (V.int .i64) pv (za4 n M))::F:=fun h=>by
 refine DC.sub ((DC.frzE (X:=Unit) (Q:=fun _=>True) (l1:=fun _=>[.agg [.int .i64 0, .int .i64 n, .gs (.slice none 0 0) [], .bool true]]) (l2:=fun _=>(wl.map encM)) (l3:=fun _=>[]) (l4:=fun _=>(zaR ([]++[])).map V.str) (L:=fun _=>.blk bb [.raw (.map (some cm)), .raw (.map (some sm)), .raw (.pointer (some ⟨t,0,none⟩))] :: .map cm (entM (V.int .i64) pv (za4 n M))::F) (fun _ x hx=>by rw [List.mem_singleton.1 hx];rfl) (fun _=>mg_n _) (fun _ _ h=>nomatch h) (fun _=>st_n _) ((zle bb cm sm t M n cb st hd kp xb wl F h).mono fun d G ⟨w1,w2,w3,w4,hd,hG⟩=>⟨w1,w2,w3,w4,(),trivial,by rw [hd];simp only [List.length_map,List.length_cons,List.length_nil];try rfl,by rw [hG,zb4];rfl⟩)).mono fun d G ⟨_,_,hd,hG⟩=>?_)
 subst hd;subst hG
 exact ⟨_,_,le.agg (Les.cons (le.sl1 (Les.cons le.rfl_ (Les.cons le.rfl_ (Les.cons (le.gs rfl) (Les.cons le.rfl_ Les.nil))))) (Les.cons le.rfl_ (Les.cons le.rfl_ (Les.cons le.rfl_ Les.nil)))),⟨rfl,rfl⟩,SubP.refl⟩
theorem zlz (bb cm sm t:Nat) (m:Int) (M:List (Int×Nat)) (SS:List (YS×Nat)) (n:Int) (cb st:Nat) (hd:Int) (kp:Int) (y:SN) (ts:TS) (F:Own):(lookA n M=some cb/\(lookA y.a.name SS=some y.b/\SAOK y.a/\TOK ts/\y.a.subs.length<=1000000000/\ts.L.length<=1000000000/\(zar y.a.subs).length<=1000000000/\∀ k,k<(zar y.a.subs).length->((zar y.a.subs).getD k default).1.length<=1000000))->DC Tryz.prog 38 [.raw (.pointer (some ⟨bb,0,none⟩)), .int .i64 n] ((loose::knF::knA::knM m :: .blk bb [.raw (.map (some cm)), .raw (.map (some sm)), .raw (.pointer (some ⟨t,0,none⟩))] :: .map cm (entM (V.int .i64) pv M) :: .map sm (entM V.str pv SS) :: .blk cb [.raw (.pointer (some ⟨st,0,none⟩)), .int .i64 hd, .raw (.pointer (some ⟨y.b,0,none⟩)), .int .i64 kp, .bool true, .gs (.slice none 0 0) []]::(y.own++(ownT t ts++[])))++F) fun d G=>∃ ts':TS,(TOK ts'/\ts'.L=(zag y.a.name (zar y.a.subs) ts.L).2)/\d=zb8 (⟨[⟨n,[],true⟩],[],[],zaR ([]++(zag y.a.name (zar y.a.subs) ts.L).1)⟩:Ef)/\G=loose::knF::knA::knM m :: .blk bb [.raw (.map (some cm)), .raw (.map (some sm)), .raw (.pointer (some ⟨t,0,none⟩))] :: .map cm (entM (V.int .i64) pv (za4 n M)) :: .map sm (entM V.str pv (za4 y.a.name SS))::(ownT t ts'++F):=fun h=>by
 refine DC.sub ((DC.frzE (X:=TS) (Q:=fun ts'=>TOK ts'/\ts'.L=(zag y.a.name (zar y.a.subs) ts.L).2) (l1:=fun _=>[.agg [.int .i64 0, .int .i64 n, .gs (.slice none 0 0) [], .bool true]]) (l2:=fun _=>[]) (l3:=fun _=>[]) (l4:=fun _=>(zaR ([]++(zag y.a.name (zar y.a.subs) ts.L).1)).map V.str) (L:=fun ts'=>loose::knF::knA::knM m :: .blk bb [.raw (.map (some cm)), .raw (.map (some sm)), .raw (.pointer (some ⟨t,0,none⟩))] :: .map cm (entM (V.int .i64) pv (za4 n M)) :: .map sm (entM V.str pv (za4 y.a.name SS))::(ownT t ts'++F)) (fun _ x hx=>by rw [List.mem_singleton.1 hx];rfl) (fun _=>(fun _ h=>nomatch h)) (fun _ _ h=>nomatch h) (fun _=>st_n _) ((zl2 bb cm sm t m M SS n cb st hd kp y ts F h).mono fun d G ⟨w1,w2,w3,w4,ts',hq,hd,hG⟩=>⟨w1,w2,w3,w4,ts',hq,by rw [hd];simp only [List.length_map,List.length_cons,List.length_nil];try rfl,by rw [hG,zb4];rfl⟩)).mono fun d G ⟨ts',hq,hd,hG⟩=>?_)
 subst hd;subst hG
 exact ⟨_,_,le.agg (Les.cons (le.sl1 (Les.cons le.rfl_ (Les.cons le.rfl_ (Les.cons (le.gs rfl) (Les.cons le.rfl_ Les.nil))))) (Les.cons le.rfl_ (Les.cons le.rfl_ (Les.cons le.rfl_ Les.nil)))),⟨ts',hq,rfl,rfl⟩,SubP.refl⟩
theorem zln (bb cm sm t:Nat) (m:Int) (M:List (Int×Nat)) (SS:List (YS×Nat)) (n:Int) (cb st:Nat) (hd:Int) (kp:Int) (y:SN) (ts:TS) (wl:List Mg) (F:Own):(lookA n M=some cb/\(lookA y.a.name SS=some y.b/\SAOK y.a/\TOK ts/\y.a.subs.length<=1000000000/\ts.L.length<=1000000000/\(zar y.a.subs).length<=1000000000/\∀ k,k<(zar y.a.subs).length->((zar y.a.subs).getD k default).1.length<=1000000)/\wl.length<=100)->DC Tryz.prog 38 [.raw (.pointer (some ⟨bb,0,none⟩)), .int .i64 n] ((loose::knF::knA::knM m :: .blk bb [.raw (.map (some cm)), .raw (.map (some sm)), .raw (.pointer (some ⟨t,0,none⟩))] :: .map cm (entM (V.int .i64) pv M) :: .map sm (entM V.str pv SS) :: .blk cb [.raw (.pointer (some ⟨st,0,none⟩)), .int .i64 hd, .raw (.pointer (some ⟨y.b,0,none⟩)), .int .i64 kp, .bool true, .sl (wl.map encM)]::(y.own++(ownT t ts++[])))++F) fun d G=>∃ ts':TS,(TOK ts'/\ts'.L=(zag y.a.name (zar y.a.subs) ts.L).2)/\d=zb8 (⟨[⟨n,[],true⟩],wl,[],zaR ([]++(zag y.a.name (zar y.a.subs) ts.L).1)⟩:Ef)/\G=loose::knF::knA::knM m :: .blk bb [.raw (.map (some cm)), .raw (.map (some sm)), .raw (.pointer (some ⟨t,0,none⟩))] :: .map cm (entM (V.int .i64) pv (za4 n M)) :: .map sm (entM V.str pv (za4 y.a.name SS))::(ownT t ts'++F):=fun h=>by
 refine DC.sub ((DC.frzE (X:=TS) (Q:=fun ts'=>TOK ts'/\ts'.L=(zag y.a.name (zar y.a.subs) ts.L).2) (l1:=fun _=>[.agg [.int .i64 0, .int .i64 n, .gs (.slice none 0 0) [], .bool true]]) (l2:=fun _=>(wl.map encM)) (l3:=fun _=>[]) (l4:=fun _=>(zaR ([]++(zag y.a.name (zar y.a.subs) ts.L).1)).map V.str) (L:=fun ts'=>loose::knF::knA::knM m :: .blk bb [.raw (.map (some cm)), .raw (.map (some sm)), .raw (.pointer (some ⟨t,0,none⟩))] :: .map cm (entM (V.int .i64) pv (za4 n M)) :: .map sm (entM V.str pv (za4 y.a.name SS))::(ownT t ts'++F)) (fun _ x hx=>by rw [List.mem_singleton.1 hx];rfl) (fun _=>mg_n _) (fun _ _ h=>nomatch h) (fun _=>st_n _) ((zl1 bb cm sm t m M SS n cb st hd kp y ts wl F h).mono fun d G ⟨w1,w2,w3,w4,ts',hq,hd,hG⟩=>⟨w1,w2,w3,w4,ts',hq,by rw [hd];simp only [List.length_map,List.length_cons,List.length_nil];try rfl,by rw [hG,zb4];rfl⟩)).mono fun d G ⟨ts',hq,hd,hG⟩=>?_)
 subst hd;subst hG
 exact ⟨_,_,le.agg (Les.cons (le.sl1 (Les.cons le.rfl_ (Les.cons le.rfl_ (Les.cons (le.gs rfl) (Les.cons le.rfl_ Les.nil))))) (Les.cons le.rfl_ (Les.cons le.rfl_ (Les.cons le.rfl_ Les.nil)))),⟨ts',hq,rfl,rfl⟩,SubP.refl⟩
end
section
theorem zc6 (l:List (YS×Int)):(zar l).length=l.length:=by unfold zar;rw [List.length_map,zeR,List.length_map]
theorem zh9 {l:List (YS×Int)} {k:Nat} (hk:k<(zar l).length):∃ e∈l,((zar l).getD k default).1=e.1:=by
 have h1:(zar l).getD k default∈zar l:=by rw [List.getD_eq_getElem?_getD,List.getElem?_eq_getElem hk];exact List.getElem_mem hk
 unfold zar at h1 ⊢
 obtain ⟨x,hx,he⟩:=List.mem_map.1 h1
 obtain ⟨e,he1,he2⟩:=List.mem_map.1 (zip.1 hx)
 exact ⟨e,he1,by rw [<-he];exact he2.symm⟩
attribute [local irreducible] SN.own ownT ownC ownS zag zcN za4 zar zaR
attribute [local irreducible] DW SeqD DV DOp DC DVX DVJ idsF usI sortS putM zay onlyM
theorem zpL (bb:Nat) (m:Int) (s:BN) (c:Cn) (F:Own):(BOK s/\c∈s.cs/\BSz s.pl)->DC Tryz.prog 38 [.raw (.pointer (some ⟨bb,0,none⟩)), .int .i64 c.n] ((loose::knF::knA::knM m::(ownB bb s++[]))++F) fun d G=>∃ s':BN,(BOK s'/\s'.pl=(zae c.n s.pl).2)/\d=zb8 (zae c.n s.pl).1/\G=loose::knF::knA::knM m::(ownB bb s'++F):=by
 rintro ⟨h,hc,hz⟩
 obtain ⟨l1,l2,hs,h1,h2⟩:=zbS h.cn hc
 have ho:=h.co c hc
 have hpc:=zjO hs h1
 have hpo:=zqK hs h1 h2
 obtain ⟨n,b,st,left,bad,hd,sv,kp,cl,will,lv,wv⟩:=c
 obtain ⟨cm,sm,t,ts,cs,ss⟩:=s
 simp only at hs
 subst hs
 have hlk:=zcZ (l2:=l2) h1
 have hdr:=zk8 (l2:=l2) h1
 have hwn:=ho.will
 simp only at hlk hdr hwn hpc hpo ⊢
 cases sv with
 | none =>
  have e1:zae n (BN.pl ⟨cm,sm,t,ts,l1++(⟨n,b,st,left,bad,hd,none,kp,cl,will,lv,wv⟩:Cn)::l2,ss⟩)=(⟨[⟨n,[],true⟩],will,[],zaR ([]++[])⟩,BN.pl ⟨cm,sm,t,ts,l1++l2,ss⟩):=by
   unfold zae za8
   rw [hpc,hpo];rfl
  rw [e1]
  rcases ho.wv with ⟨hw,hwl⟩ | hw
  · simp only at hw hwl
    subst hw;subst hwl
    refine DC.conv (zlG bb cm sm t (kvC (l1++(⟨n,b,st,left,bad,hd,none,kp,cl,[],lv, .gs (.slice none 0 0) []⟩:Cn)::l2)) n b st hd kp cl (loose::knF::knA::knM m :: .map sm (entM V.str pv (kvS ss)) :: .blk st [lv, .int .i64 bad]::(ownC l1++(ownC l2++(ownS ss++(ownT t ts++F))))) hlk) (by (simp only [ownB,BN.maps,zad,zaf,Cn.own,Cn.cells,Cn.sv,Option.map_none,Option.map_some,List.append_assoc,List.cons_append,List.nil_append,List.append_nil]);exact sub_) ?_
    rintro d G ⟨rfl,rfl⟩
    rw [hdr]
    exact ⟨_,_,le.rfl_,⟨(⟨cm,sm,t,ts,l1++l2,ss⟩:BN),⟨h.off rfl,rfl⟩,rfl,rfl⟩,by (simp only [ownB,BN.maps,zbI,zbm,Cn.own,Cn.cells,Cn.sv,Option.map_none,Option.map_some,List.append_assoc,List.cons_append,List.nil_append,List.append_nil]);exact sub_⟩
  · simp only at hw
    subst hw
    refine DC.conv (zlq bb cm sm t (kvC (l1++(⟨n,b,st,left,bad,hd,none,kp,cl,will,lv,(.sl (will.map encM))⟩:Cn)::l2)) n b st hd kp cl will (loose::knF::knA::knM m :: .map sm (entM V.str pv (kvS ss)) :: .blk st [lv, .int .i64 bad]::(ownC l1++(ownC l2++(ownS ss++(ownT t ts++F))))) ⟨hlk,by omega⟩) (by (simp only [ownB,BN.maps,zad,zaf,Cn.own,Cn.cells,Cn.sv,Option.map_none,Option.map_some,List.append_assoc,List.cons_append,List.nil_append,List.append_nil]);exact sub_) ?_
    rintro d G ⟨rfl,rfl⟩
    rw [hdr]
    exact ⟨_,_,le.rfl_,⟨(⟨cm,sm,t,ts,l1++l2,ss⟩:BN),⟨h.off rfl,rfl⟩,rfl,rfl⟩,by (simp only [ownB,BN.maps,zbI,zbm,Cn.own,Cn.cells,Cn.sv,Option.map_none,Option.map_some,List.append_assoc,List.cons_append,List.nil_append,List.append_nil]);exact sub_⟩
 | some e =>
 cases cl with
 | false =>
  have e1:zae n (BN.pl ⟨cm,sm,t,ts,l1++(⟨n,b,st,left,bad,hd,some e,kp,false,will,lv,wv⟩:Cn)::l2,ss⟩)=(⟨[⟨n,[],true⟩],will,[],zaR ([]++[])⟩,BN.pl ⟨cm,sm,t,ts,l1++l2,ss⟩):=by
   unfold zae za8
   rw [hpc,hpo];rfl
  rw [e1]
  rcases ho.wv with ⟨hw,hwl⟩ | hw
  · simp only at hw hwl
    subst hw;subst hwl
    refine DC.conv (zl8 bb cm sm t (kvC (l1++(⟨n,b,st,left,bad,hd,some e,kp,false,[],lv, .gs (.slice none 0 0) []⟩:Cn)::l2)) n b st hd kp e.2 (loose::knF::knA::knM m :: .map sm (entM V.str pv (kvS ss)) :: .blk st [lv, .int .i64 bad]::(ownC l1++(ownC l2++(ownS ss++(ownT t ts++F))))) hlk) (by (simp only [ownB,BN.maps,zad,zaf,Cn.own,Cn.cells,Cn.sv,Option.map_none,Option.map_some,List.append_assoc,List.cons_append,List.nil_append,List.append_nil]);exact sub_) ?_
    rintro d G ⟨rfl,rfl⟩
    rw [hdr]
    exact ⟨_,_,le.rfl_,⟨(⟨cm,sm,t,ts,l1++l2,ss⟩:BN),⟨h.off rfl,rfl⟩,rfl,rfl⟩,by (simp only [ownB,BN.maps,zbI,zbm,Cn.own,Cn.cells,Cn.sv,Option.map_none,Option.map_some,List.append_assoc,List.cons_append,List.nil_append,List.append_nil]);exact sub_⟩
  · simp only at hw
    subst hw
    refine DC.conv (zlU bb cm sm t (kvC (l1++(⟨n,b,st,left,bad,hd,some e,kp,false,will,lv,(.sl (will.map encM))⟩:Cn)::l2)) n b st hd kp e.2 will (loose::knF::knA::knM m :: .map sm (entM V.str pv (kvS ss)) :: .blk st [lv, .int .i64 bad]::(ownC l1++(ownC l2++(ownS ss++(ownT t ts++F))))) ⟨hlk,by omega⟩) (by (simp only [ownB,BN.maps,zad,zaf,Cn.own,Cn.cells,Cn.sv,Option.map_none,Option.map_some,List.append_assoc,List.cons_append,List.nil_append,List.append_nil]);exact sub_) ?_
    rintro d G ⟨rfl,rfl⟩
    rw [hdr]
    exact ⟨_,_,le.rfl_,⟨(⟨cm,sm,t,ts,l1++l2,ss⟩:BN),⟨h.off rfl,rfl⟩,rfl,rfl⟩,by (simp only [ownB,BN.maps,zbI,zbm,Cn.own,Cn.cells,Cn.sv,Option.map_none,Option.map_some,List.append_assoc,List.cons_append,List.nil_append,List.append_nil]);exact sub_⟩
 | true =>
  obtain ⟨y,hy,hy1,hy2⟩:=ho.s e rfl
  obtain ⟨e1,e2⟩:=e
  simp only at hy1 hy2
  subst hy1;subst hy2
  have hyo:=h.so y hy
  obtain ⟨m1,m2,hss,k1,k2⟩:=zbS h.sn hy
  simp only at hss
  subst hss
  have hsk:=znT (l2:=m2) k1
  have hsr:=zhZ (l2:=m2) k1
  have hzy0:=hz.sub y.a (List.mem_map.2 ⟨y,hy,rfl⟩)
  have hzy:y.a.subs.length<=1000000000/\∀ e∈y.a.subs,e.1.length<=1000000:=⟨Nat.le_trans hzy0.1 (by decide),hzy0.2⟩
  have hF:lookA y.a.name (kvS (m1++y::m2))=some y.b/\SAOK y.a/\TOK ts/\y.a.subs.length<=1000000000/\ts.L.length<=1000000000/\(zar y.a.subs).length<=1000000000/\∀ k,k<(zar y.a.subs).length->((zar y.a.subs).getD k default).1.length<=1000000 :=
   ⟨hsk,hyo,h.t,hzy.1,hz.L,by rw [zc6];exact hzy.1,fun k hk=>by obtain ⟨x,hx,hxe⟩:=zh9 hk;rw [hxe];exact hzy.2 x hx⟩
  have hps:=zdi (s:=⟨cm,sm,t,ts,l1++l2,m1++y::m2⟩) rfl k1
  have e1:zae n (BN.pl ⟨cm,sm,t,ts,l1++(⟨n,b,st,left,bad,hd,some (y.a.name,y.b),kp,true,will,lv,wv⟩:Cn)::l2,m1++y::m2⟩)=(⟨[⟨n,[],true⟩],will,[],zaR ([]++(zag y.a.name (zar y.a.subs) ts.L).1)⟩,⟨(l1++l2).map Cn.pl,(m1++m2).map (·.a),(zag y.a.name (zar y.a.subs) ts.L).2⟩):=by
   unfold zae za8
   rw [hpc,hpo]
   simp only [Cn.pl,Option.map_some,if_true]
   unfold zah
   rw [hps]
   simp only [andM,BN.pl,zjq k1 k2,List.append_nil,List.nil_append]
  rw [e1]
  rcases ho.wv with ⟨hw,hwl⟩ | hw
  · simp only at hw hwl
    subst hw;subst hwl
    refine DC.conv (zlz bb cm sm t m (kvC (l1++(⟨n,b,st,left,bad,hd,some (y.a.name,y.b),kp,true,[],lv, .gs (.slice none 0 0) []⟩:Cn)::l2)) (kvS (m1++y::m2)) n b st hd kp y ts (.blk st [lv, .int .i64 bad]::(ownC l1++(ownC l2++(ownS m1++(ownS m2++F))))) ⟨hlk,hF⟩) (by (simp only [ownB,BN.maps,zad,zaf,Cn.own,Cn.cells,Cn.sv,Option.map_none,Option.map_some,List.append_assoc,List.cons_append,List.nil_append,List.append_nil]);exact sub_) ?_
    rintro d G ⟨ts',⟨ht',hL'⟩,rfl,rfl⟩
    rw [hdr,hsr]
    exact ⟨_,_,le.rfl_,⟨(⟨cm,sm,t,ts',l1++l2,m1++m2⟩:BN),⟨h.off2 rfl rfl rfl h1 h2 ht',by unfold BN.pl;simp only;rw [hL']⟩,rfl,rfl⟩,by (simp only [ownB,BN.maps,zbI,zbm,Cn.own,Cn.cells,Cn.sv,Option.map_none,Option.map_some,List.append_assoc,List.cons_append,List.nil_append,List.append_nil]);exact sub_⟩
  · simp only at hw
    subst hw
    refine DC.conv (zln bb cm sm t m (kvC (l1++(⟨n,b,st,left,bad,hd,some (y.a.name,y.b),kp,true,will,lv,(.sl (will.map encM))⟩:Cn)::l2)) (kvS (m1++y::m2)) n b st hd kp y ts will (.blk st [lv, .int .i64 bad]::(ownC l1++(ownC l2++(ownS m1++(ownS m2++F))))) ⟨hlk,hF,by omega⟩) (by (simp only [ownB,BN.maps,zad,zaf,Cn.own,Cn.cells,Cn.sv,Option.map_none,Option.map_some,List.append_assoc,List.cons_append,List.nil_append,List.append_nil]);exact sub_) ?_
    rintro d G ⟨ts',⟨ht',hL'⟩,rfl,rfl⟩
    rw [hdr,hsr]
    exact ⟨_,_,le.rfl_,⟨(⟨cm,sm,t,ts',l1++l2,m1++m2⟩:BN),⟨h.off2 rfl rfl rfl h1 h2 ht',by unfold BN.pl;simp only;rw [hL']⟩,rfl,rfl⟩,by (simp only [ownB,BN.maps,zbI,zbm,Cn.own,Cn.cells,Cn.sv,Option.map_none,Option.map_some,List.append_assoc,List.cons_append,List.nil_append,List.append_nil]);exact sub_⟩
theorem znv (bb:Nat) (m:Int) (s:BN) (c:Cn) (F:Own):(BOK s/\c∈s.cs/\BSz s.pl)->DC Tryz.prog 54 [.raw (.pointer (some ⟨bb,0,none⟩)), .int .i64 c.n] ((loose::knF::knA::knM m::(ownB bb s++[]))++F) fun d G=>∃ s':BN,(BOK s'/\s'.pl=(za8 c.n s.pl).2)/\d=zb8 (za8 c.n s.pl).1/\G=loose::knF::knA::knM m::(ownB bb s'++F):=by
 rintro ⟨h,hc,hz⟩
 obtain ⟨l1,l2,hs,h1,h2⟩:=zbS h.cn hc
 have ho:=h.co c hc
 have hpc:=zjO hs h1
 have hpo:=zqK hs h1 h2
 obtain ⟨n,b,st,left,bad,hd,sv,kp,cl,will,lv,wv⟩:=c
 obtain ⟨cm,sm,t,ts,cs,ss⟩:=s
 simp only at hs
 subst hs
 have hlk:=zcZ (l2:=l2) h1
 have hdr:=zk8 (l2:=l2) h1
 have hwn:=ho.will
 simp only at hlk hdr hwn hpc hpo ⊢
 cases sv with
 | none =>
  have e1:za8 n (BN.pl ⟨cm,sm,t,ts,l1++(⟨n,b,st,left,bad,hd,none,kp,cl,will,lv,wv⟩:Cn)::l2,ss⟩)=(⟨[],will,[],[]⟩,BN.pl ⟨cm,sm,t,ts,l1++l2,ss⟩):=by
   unfold za8
   rw [hpc,hpo];rfl
  rw [e1]
  rcases ho.wv with ⟨hw,hwl⟩ | hw
  · simp only at hw hwl
    subst hw;subst hwl
    refine DC.conv (zhe bb cm sm t (kvC (l1++(⟨n,b,st,left,bad,hd,none,kp,cl,[],lv, .gs (.slice none 0 0) []⟩:Cn)::l2)) n b st hd kp cl (loose::knF::knA::knM m :: .map sm (entM V.str pv (kvS ss)) :: .blk st [lv, .int .i64 bad]::(ownC l1++(ownC l2++(ownS ss++(ownT t ts++F))))) hlk) (by (simp only [ownB,BN.maps,zad,zaf,Cn.own,Cn.cells,Cn.sv,Option.map_none,Option.map_some,List.append_assoc,List.cons_append,List.nil_append,List.append_nil]);exact sub_) ?_
    rintro d G ⟨rfl,rfl⟩
    rw [hdr]
    exact ⟨_,_,le.rfl_,⟨(⟨cm,sm,t,ts,l1++l2,ss⟩:BN),⟨h.off rfl,rfl⟩,rfl,rfl⟩,by (simp only [ownB,BN.maps,zbI,zbm,Cn.own,Cn.cells,Cn.sv,Option.map_none,Option.map_some,List.append_assoc,List.cons_append,List.nil_append,List.append_nil]);exact sub_⟩
  · simp only at hw
    subst hw
    refine DC.conv (zhj bb cm sm t (kvC (l1++(⟨n,b,st,left,bad,hd,none,kp,cl,will,lv,(.sl (will.map encM))⟩:Cn)::l2)) n b st hd kp cl will (loose::knF::knA::knM m :: .map sm (entM V.str pv (kvS ss)) :: .blk st [lv, .int .i64 bad]::(ownC l1++(ownC l2++(ownS ss++(ownT t ts++F))))) hlk) (by (simp only [ownB,BN.maps,zad,zaf,Cn.own,Cn.cells,Cn.sv,Option.map_none,Option.map_some,List.append_assoc,List.cons_append,List.nil_append,List.append_nil]);exact sub_) ?_
    rintro d G ⟨rfl,rfl⟩
    rw [hdr]
    exact ⟨_,_,le.rfl_,⟨(⟨cm,sm,t,ts,l1++l2,ss⟩:BN),⟨h.off rfl,rfl⟩,rfl,rfl⟩,by (simp only [ownB,BN.maps,zbI,zbm,Cn.own,Cn.cells,Cn.sv,Option.map_none,Option.map_some,List.append_assoc,List.cons_append,List.nil_append,List.append_nil]);exact sub_⟩
 | some e =>
 cases cl with
 | false =>
  have e1:za8 n (BN.pl ⟨cm,sm,t,ts,l1++(⟨n,b,st,left,bad,hd,some e,kp,false,will,lv,wv⟩:Cn)::l2,ss⟩)=(⟨[],will,[],[]⟩,BN.pl ⟨cm,sm,t,ts,l1++l2,ss⟩):=by
   unfold za8
   rw [hpc,hpo];rfl
  rw [e1]
  rcases ho.wv with ⟨hw,hwl⟩ | hw
  · simp only at hw hwl
    subst hw;subst hwl
    refine DC.conv (zgZ bb cm sm t (kvC (l1++(⟨n,b,st,left,bad,hd,some e,kp,false,[],lv, .gs (.slice none 0 0) []⟩:Cn)::l2)) n b st hd kp e.2 (loose::knF::knA::knM m :: .map sm (entM V.str pv (kvS ss)) :: .blk st [lv, .int .i64 bad]::(ownC l1++(ownC l2++(ownS ss++(ownT t ts++F))))) hlk) (by (simp only [ownB,BN.maps,zad,zaf,Cn.own,Cn.cells,Cn.sv,Option.map_none,Option.map_some,List.append_assoc,List.cons_append,List.nil_append,List.append_nil]);exact sub_) ?_
    rintro d G ⟨rfl,rfl⟩
    rw [hdr]
    exact ⟨_,_,le.rfl_,⟨(⟨cm,sm,t,ts,l1++l2,ss⟩:BN),⟨h.off rfl,rfl⟩,rfl,rfl⟩,by (simp only [ownB,BN.maps,zbI,zbm,Cn.own,Cn.cells,Cn.sv,Option.map_none,Option.map_some,List.append_assoc,List.cons_append,List.nil_append,List.append_nil]);exact sub_⟩
  · simp only at hw
    subst hw
    refine DC.conv (zhr bb cm sm t (kvC (l1++(⟨n,b,st,left,bad,hd,some e,kp,false,will,lv,(.sl (will.map encM))⟩:Cn)::l2)) n b st hd kp e.2 will (loose::knF::knA::knM m :: .map sm (entM V.str pv (kvS ss)) :: .blk st [lv, .int .i64 bad]::(ownC l1++(ownC l2++(ownS ss++(ownT t ts++F))))) hlk) (by (simp only [ownB,BN.maps,zad,zaf,Cn.own,Cn.cells,Cn.sv,Option.map_none,Option.map_some,List.append_assoc,List.cons_append,List.nil_append,List.append_nil]);exact sub_) ?_
    rintro d G ⟨rfl,rfl⟩
    rw [hdr]
    exact ⟨_,_,le.rfl_,⟨(⟨cm,sm,t,ts,l1++l2,ss⟩:BN),⟨h.off rfl,rfl⟩,rfl,rfl⟩,by (simp only [ownB,BN.maps,zbI,zbm,Cn.own,Cn.cells,Cn.sv,Option.map_none,Option.map_some,List.append_assoc,List.cons_append,List.nil_append,List.append_nil]);exact sub_⟩
 | true =>
  obtain ⟨y,hy,hy1,hy2⟩:=ho.s e rfl
  obtain ⟨e1,e2⟩:=e
  simp only at hy1 hy2
  subst hy1;subst hy2
  have hyo:=h.so y hy
  obtain ⟨m1,m2,hss,k1,k2⟩:=zbS h.sn hy
  simp only at hss
  subst hss
  have hsk:=znT (l2:=m2) k1
  have hsr:=zhZ (l2:=m2) k1
  have hzy0:=hz.sub y.a (List.mem_map.2 ⟨y,hy,rfl⟩)
  have hzy:y.a.subs.length<=1000000000/\∀ e∈y.a.subs,e.1.length<=1000000:=⟨Nat.le_trans hzy0.1 (by decide),hzy0.2⟩
  have hF:lookA y.a.name (kvS (m1++y::m2))=some y.b/\SAOK y.a/\TOK ts/\y.a.subs.length<=1000000000/\ts.L.length<=1000000000/\(zar y.a.subs).length<=1000000000/\∀ k,k<(zar y.a.subs).length->((zar y.a.subs).getD k default).1.length<=1000000 :=
   ⟨hsk,hyo,h.t,hzy.1,hz.L,by rw [zc6];exact hzy.1,fun k hk=>by obtain ⟨x,hx,hxe⟩:=zh9 hk;rw [hxe];exact hzy.2 x hx⟩
  have hps:=zdi (s:=⟨cm,sm,t,ts,l1++l2,m1++y::m2⟩) rfl k1
  have e1:za8 n (BN.pl ⟨cm,sm,t,ts,l1++(⟨n,b,st,left,bad,hd,some (y.a.name,y.b),kp,true,will,lv,wv⟩:Cn)::l2,m1++y::m2⟩)=(⟨[],will,[],(zag y.a.name (zar y.a.subs) ts.L).1⟩,⟨(l1++l2).map Cn.pl,(m1++m2).map (·.a),(zag y.a.name (zar y.a.subs) ts.L).2⟩):=by
   unfold za8
   rw [hpc,hpo]
   simp only [Cn.pl,Option.map_some,if_true]
   unfold zah
   rw [hps]
   simp only [andM,BN.pl,zjq k1 k2,List.append_nil,List.nil_append]
  rw [e1]
  rcases ho.wv with ⟨hw,hwl⟩ | hw
  · simp only at hw hwl
    subst hw;subst hwl
    refine DC.conv (zgR bb cm sm t m (kvC (l1++(⟨n,b,st,left,bad,hd,some (y.a.name,y.b),kp,true,[],lv, .gs (.slice none 0 0) []⟩:Cn)::l2)) (kvS (m1++y::m2)) n b st hd kp y ts (.blk st [lv, .int .i64 bad]::(ownC l1++(ownC l2++(ownS m1++(ownS m2++F))))) ⟨hlk,hF⟩) (by (simp only [ownB,BN.maps,zad,zaf,Cn.own,Cn.cells,Cn.sv,Option.map_none,Option.map_some,List.append_assoc,List.cons_append,List.nil_append,List.append_nil]);exact sub_) ?_
    rintro d G ⟨ts',⟨ht',hL'⟩,rfl,rfl⟩
    rw [hdr,hsr]
    exact ⟨_,_,le.rfl_,⟨(⟨cm,sm,t,ts',l1++l2,m1++m2⟩:BN),⟨h.off2 rfl rfl rfl h1 h2 ht',by unfold BN.pl;simp only;rw [hL']⟩,rfl,rfl⟩,by (simp only [ownB,BN.maps,zbI,zbm,Cn.own,Cn.cells,Cn.sv,Option.map_none,Option.map_some,List.append_assoc,List.cons_append,List.nil_append,List.append_nil]);exact sub_⟩
  · simp only at hw
    subst hw
    refine DC.conv (zhx bb cm sm t m (kvC (l1++(⟨n,b,st,left,bad,hd,some (y.a.name,y.b),kp,true,will,lv,(.sl (will.map encM))⟩:Cn)::l2)) (kvS (m1++y::m2)) n b st hd kp y ts will (.blk st [lv, .int .i64 bad]::(ownC l1++(ownC l2++(ownS m1++(ownS m2++F))))) ⟨hlk,hF⟩) (by (simp only [ownB,BN.maps,zad,zaf,Cn.own,Cn.cells,Cn.sv,Option.map_none,Option.map_some,List.append_assoc,List.cons_append,List.nil_append,List.append_nil]);exact sub_) ?_
    rintro d G ⟨ts',⟨ht',hL'⟩,rfl,rfl⟩
    rw [hdr,hsr]
    exact ⟨_,_,le.rfl_,⟨(⟨cm,sm,t,ts',l1++l2,m1++m2⟩:BN),⟨h.off2 rfl rfl rfl h1 h2 ht',by unfold BN.pl;simp only;rw [hL']⟩,rfl,rfl⟩,by (simp only [ownB,BN.maps,zbI,zbm,Cn.own,Cn.cells,Cn.sv,Option.map_none,Option.map_some,List.append_assoc,List.cons_append,List.nil_append,List.append_nil]);exact sub_⟩
end
section
attribute [local irreducible] SN.own ownT ownC ownS zag zcN za4 zar zaR
theorem zdK (s:BN) (n:Int):(s.pl.conn n).isSome=(lookA n (kvC s.cs)).isSome:=by
 rw [zmz]
 unfold Br.conn BN.pl
 simp only [List.find?_map,Option.isSome_map]
 rfl
attribute [local irreducible] DW SeqD DV DOp DC DVX DVJ idsF usI sortS putM zay onlyM
theorem znL (bb:Nat) (s:BN) (n:Int) (F:Own):True->DC Tryz.prog 35 [.raw (.pointer (some ⟨bb,0,none⟩)), .int .i64 n] ((ownB bb s++[])++F) fun d G=>d = .bool (s.pl.conn n).isSome/\G=(ownB bb s++[])++F:=fun _=>by
 rw [zdK]
 obtain ⟨cm,sm,t,ts,cs,ss⟩:=s
 refine DC.conv (zoE bb cm sm t (kvC cs) n (.map sm (entM V.str pv (kvS ss))::(ownC cs++(ownS ss++(ownT t ts++F)))) trivial) (by (simp only [ownB,BN.maps,zad,zaf,Cn.own,Cn.cells,Cn.sv,Option.map_none,Option.map_some,List.append_assoc,List.cons_append,List.nil_append,List.append_nil]);exact sub_) ?_
 rintro d G ⟨rfl,rfl⟩
 exact ⟨_,_,le.rfl_,⟨rfl,rfl⟩,by (simp only [ownB,BN.maps,zad,zaf,Cn.own,Cn.cells,Cn.sv,Option.map_none,Option.map_some,List.append_assoc,List.cons_append,List.nil_append,List.append_nil]);exact sub_⟩
theorem zhc (bb:Nat) (s:BN) (n:Int) (F:Own):(s.pl.conn n).isSome=true->DC Tryz.prog 35 [.raw (.pointer (some ⟨bb,0,none⟩)), .int .i64 n] ((ownB bb s++[])++F) fun d G=>d = .bool true/\G=(ownB bb s++[])++F:=fun h=>by
 have h1:=znL bb s n F trivial
 rwa [h] at h1
theorem zgw {s:BN} {c:Cn} (h:BOK s) (hc:c∈s.cs):s.pl.conn c.n=some c.pl:=by
 obtain ⟨l1,l2,hs,h1,h2⟩:=zbS h.cn hc
 exact zjO hs h1
theorem ze4 {s:BN} {n:Int} {p:CP} (h:s.pl.conn n=some p):∃ c∈s.cs,c.pl=p/\c.n=n:=by
 unfold Br.conn BN.pl at h
 have h1:=List.mem_of_find?_eq_some h
 have h2:=List.find?_some h
 obtain ⟨c,hc,rfl⟩:=List.mem_map.1 h1
 exact ⟨c,hc,rfl,by simpa [Cn.pl] using h2⟩
theorem zcc (bb:Nat) (m:Int) (s:BN) (c:Cn) (n:Int) (F:Own):(BOK s/\(c∈s.cs/\c.n=n)/\BSz s.pl)->DC Tryz.prog 38 [.raw (.pointer (some ⟨bb,0,none⟩)), .int .i64 n] ((loose::knF::knA::knM m::(ownB bb s++[]))++F) fun d G=>∃ s':BN,(BOK s'/\s'.pl=(zae n s.pl).2)/\d = .agg [.sl ((zae n s.pl).1.outs.map encOu), .sl ((zae n s.pl).1.pubs.map encM), .sl ((zae n s.pl).1.adds.map V.str), .sl ((zae n s.pl).1.drops.map V.str)]/\G=loose::knF::knA::knM m::(ownB bb s'++F):=by
 rintro ⟨h1,⟨h2,rfl⟩,h3⟩
 exact zpL bb m s c F ⟨h1,h2,h3⟩
theorem zlT (bb:Nat) (m:Int) (s:BN) (c:Cn) (n:Int) (F:Own):(BOK s/\(c∈s.cs/\c.n=n)/\BSz s.pl)->DC Tryz.prog 54 [.raw (.pointer (some ⟨bb,0,none⟩)), .int .i64 n] ((loose::knF::knA::knM m::(ownB bb s++[]))++F) fun d G=>∃ s':BN,(BOK s'/\s'.pl=(za8 n s.pl).2)/\d = .agg [.sl ((za8 n s.pl).1.outs.map encOu), .sl ((za8 n s.pl).1.pubs.map encM), .sl ((za8 n s.pl).1.adds.map V.str), .sl ((za8 n s.pl).1.drops.map V.str)]/\G=loose::knF::knA::knM m::(ownB bb s'++F):=by
 rintro ⟨h1,⟨h2,rfl⟩,h3⟩
 exact znv bb m s c F ⟨h1,h2,h3⟩
attribute [local irreducible] ownB zae za8
theorem ze7 {p:Prop} (h:p:=by first | exact sv | exact hth | exact ⟨h1,⟨h2,h3⟩,h4⟩ | fail):p:=h
theorem zp7 (bb:Nat) (m:Int) (s:BN) (c:Cn) (n:Int) (F:Own):(BOK s/\(c∈s.cs/\c.n=n)/\BSz s.pl)->DC Tryz.prog 23 [.raw (.pointer (some ⟨bb,0,none⟩)), .int .i64 n] (loose::knF::knA::knM m::(ownB bb s++[])++F) fun d G=>∃ s':BN,(BOK s'/\s'.pl=(zae n s.pl).2)/\d = .tup [zb8 (zae n s.pl).1, .int .i64 0]/\G=loose::knF::knA::knM m::(ownB bb s'++F):=by
 intro hA
 obtain ⟨h1,⟨h2,h3⟩,h4⟩:=hA
 refine DC.bodyS (n_:=14) (show Tryz.prog.funcs[23]? = some Tryz.f23 by kernel_rfl) rfl rfl (by rfl) ?_
 simp only [env0,List.append_assoc,List.cons_append,List.nil_append]
 have kw:=ksIs [0,1,4,5,9]
 have ow:=zai []
 have rw_:=rsIs [.cell 4 38, .tmp 5]
 have hth:(s.pl.conn n).isSome=true:=by rw [<-h3,zgw h1 h2];rfl
 repeat' (first
  | refine g_ ?_
  | ((with_reducible refine And.intro ?_ ?_);(exact ze7))
  | (refine DW.cond (by rfl) ?_ ?_<;>(first | exact i0_ | (refine ic_ ?_;intro hb)))
  | ((with_reducible refine zaa ?_ ?_)<;>(intro hb;rw [hb];revert hb;(first | exact i0_ | (refine i_ ?_;intro hb))))
  | refine r_ ?_
  | refine k_ ?_
  | (refine q_ (zhc _ _ _ _) ?_ (ha:=by exact ze7))
  | (refine p_ (zcc (c:=c) _ _ _ _ _) ?_ (ha:=by exact ze7);rintro d H1 ⟨s2,⟨hs2,hp2⟩,rfl,rfl⟩<;>refine s_ ?_)
  | refine o_ ?_
  | refine f_ ?_
  | with_reducible intro b)
 all_goals first
 | (((refine ⟨_,_,le.rfl_,⟨s2,⟨hs2,hp2⟩,rfl,rfl⟩,?_⟩);(exact sub_);done))
 | (trace_state;fail)
theorem zex {p:Prop} (h:p:=by first | exact sv | exact hth | exact ⟨h1,⟨h2,h3⟩,h4⟩ | fail):p:=h
theorem zqd (bb:Nat) (m:Int) (s:BN) (c:Cn) (n:Int) (F:Own):(BOK s/\(c∈s.cs/\c.n=n)/\BSz s.pl)->DC Tryz.prog 22 [.raw (.pointer (some ⟨bb,0,none⟩)), .int .i64 n] (loose::knF::knA::knM m::(ownB bb s++[])++F) fun d G=>∃ s':BN,(BOK s'/\s'.pl=(za8 n s.pl).2)/\d = .tup [zb8 (za8 n s.pl).1, .int .i64 0]/\G=loose::knF::knA::knM m::(ownB bb s'++F):=by
 intro hA
 obtain ⟨h1,⟨h2,h3⟩,h4⟩:=hA
 refine DC.bodyS (n_:=14) (show Tryz.prog.funcs[22]? = some Tryz.f22 by kernel_rfl) rfl rfl (by rfl) ?_
 simp only [env0,List.append_assoc,List.cons_append,List.nil_append]
 have kw:=ksIs [0,1,4,5,9]
 have ow:=zai []
 have rw_:=rsIs [.cell 4 38, .tmp 5]
 have hth:(s.pl.conn n).isSome=true:=by rw [<-h3,zgw h1 h2];rfl
 repeat' (first
  | refine g_ ?_
  | ((with_reducible refine And.intro ?_ ?_);(exact zex))
  | (refine DW.cond (by rfl) ?_ ?_<;>(first | exact i0_ | (refine ic_ ?_;intro hb)))
  | ((with_reducible refine zaa ?_ ?_)<;>(intro hb;rw [hb];revert hb;(first | exact i0_ | (refine i_ ?_;intro hb))))
  | refine r_ ?_
  | refine k_ ?_
  | (refine q_ (zhc _ _ _ _) ?_ (ha:=by exact zex))
  | (refine p_ (zlT (c:=c) _ _ _ _ _) ?_ (ha:=by exact zex);rintro d H1 ⟨s2,⟨hs2,hp2⟩,rfl,rfl⟩<;>refine s_ ?_)
  | refine o_ ?_
  | refine f_ ?_
  | with_reducible intro b)
 all_goals first
 | (((refine ⟨_,_,le.rfl_,⟨s2,⟨hs2,hp2⟩,rfl,rfl⟩,?_⟩);(exact sub_);done))
 | (trace_state;fail)
end
section
theorem OnB.inC {cs:List Cn} {H:Own} {b:Nat} {c:Cn} {G:List V->(Ent->Own)->Prop} (hc:c∈cs/\c.b=b) (k:∀ C,G c.cells C):OnB (ownC cs++H) b G:=by
 obtain ⟨h,rfl⟩:=hc
 obtain ⟨l1,l2,rfl⟩:=List.append_of_mem h
 refine ⟨_,ownC l1, .blk c.st [c.lv, .int .i64 c.bad]::(ownC l2++H),?_,k _⟩
 rw [zad];simp [Cn.own]
section
variable {P:Program} {n:Nat} {Q:Exit->Env->Own->Prop} {e:Env} {H:Own}
theorem DW.unitR (id:Nat) {ops:Array Oper} {dr:Bool} {r mr:Nat} {m left cur:List (V×V)} (ho:Out H (.miter r mr m left cur) fun F=>DW P n (.region id ops dr) Q e (.map mr m::F)):DW P n (.region id ops dr) Q e H:=by
 obtain ⟨F,hp,h⟩:=ho
 refine DW.perm hp fun a w hs hr=>?_
 obtain ⟨g1,g2⟩:=Sim.unit (L1:=[]) (L2:=F) hs
 exact wp_mono (h a w g1 (hr.ext g2)) fun x a1 w1 ⟨hd,e1,H1,s,r,x1,q⟩=>⟨hd,e1,H1,s,r,g2.trans x1,q⟩
end
theorem cn_uniq {cs:List Cn} (hn:(cs.map (·.n)).Nodup) {c d:Cn} (hc:c∈cs) (hd:d∈cs) (h:d.n=c.n):d=c:=by
 obtain ⟨l1,l2,rfl,h1,h2⟩:=zbS hn hc
 rcases List.mem_append.1 hd with hd | hd
 · exact absurd h (h1 d hd)
 · rcases List.mem_cons.1 hd with rfl | hd
   · rfl
   · exact absurd h (h2 d hd)
theorem zmj {cs:List Cn} {nm:YS} (hn:(cs.map (·.n)).Nodup) {A C:List (Int×Nat)} {x:Int×Nat} (hdone:∀ c∈cs,(c.n,c.b)∈A++x::C\/c.s.map (·.1)≠some nm) {c:Cn} (hcx:c∈cs/\c.b=x.2) (hcn:c.n=x.1) (hne:c.s.map (·.1)≠some nm):∀ d∈cs,(d.n,d.b)∈A++C\/d.s.map (·.1)≠some nm:=fun d hd=>by
 rcases hdone d hd with h | h
 · rcases List.mem_append.1 h with h | h
   · exact .inl (List.mem_append.2 (.inl h))
   · rcases List.mem_cons.1 h with h | h
     · right
       have:d.n=c.n:=by rw [hcn,<-h]
       rw [cn_uniq hn hcx.1 hd this];exact hne
     · exact .inl (List.mem_append.2 (.inr h))
 · exact .inr h
theorem of_no {c:Cn} {nm:YS} (h:c.s=none):c.s.map (·.1)≠some nm:=by rw [h];simp
theorem of_ne {c:Cn} {nm nm2:YS} {b:Nat} (h:c.s=some (nm2,b)) (hn:¬ nm2=nm):c.s.map (·.1)≠some nm:=by rw [h];simpa using hn
theorem kvC_mem {cs:List Cn} {x:Int×Nat} (h:x∈kvC cs):∃ c,(c∈cs/\c.b=x.2)/\c.n=x.1:=by
 obtain ⟨c,hc,rfl⟩:=List.mem_map.1 h
 exact ⟨c,⟨hc,rfl⟩,rfl⟩
theorem ofM_y {s:BN} (h:BOK s) {c:Cn} (hc:c∈s.cs) {nm:YS} {b:Nat} (hs:c.s=some (nm,b)):ofM nm s.pl=c.n:=by
 unfold ofM BN.pl
 simp only
 cases hf:(s.cs.map Cn.pl).find? fun c=>c.s==some nm with
 | none =>
  have:=List.find?_eq_none.1 hf c.pl (List.mem_map.2 ⟨c,hc,rfl⟩)
  simp [Cn.pl,hs] at this
 | some p =>
  obtain ⟨d,hd,rfl⟩:=List.mem_map.1 (List.mem_of_find?_eq_some hf)
  have h2:=List.find?_some hf
  simp only [Cn.pl,beq_iff_eq,Option.map_eq_some_iff] at h2
  obtain ⟨e,he,hee⟩:=h2
  exact (h.sd c hc d hd _ _ hs he hee.symm).symm
theorem ofM_n {s:BN} {nm:YS} (h:∀ c∈s.cs,c.s.map (·.1)≠some nm):ofM nm s.pl = -1:=by
 unfold ofM BN.pl
 simp only
 rw [List.find?_eq_none.2 (fun p hp=>by obtain ⟨c,hc,rfl⟩:=List.mem_map.1 hp;simpa [Cn.pl] using h c hc)]
 rfl
attribute [local irreducible] SN.own ownT ownC ownS zag zcN za4 zar zaR
attribute [local irreducible] DW SeqD DV DOp DC DVX DVJ idsF usI sortS putM zay onlyM
theorem sclS_dc (ss:List SN) (b:Nat) (nm:YS) (F:Own):(∃ y∈ss,y.a.name=nm/\y.b=b)->DC Tryz.prog 49 [.raw (.pointer (some ⟨b,0,none⟩))] ((ownS ss++[])++F) fun d G=>d = .str nm/\G=(ownS ss++[])++F:=by
 rintro ⟨y,hy,rfl,rfl⟩
 obtain ⟨l1,l2,rfl⟩:=List.append_of_mem hy
 refine DC.conv (scliX y (ownS l1++(ownS l2++F)) trivial) (by (simp only [zaf,List.append_assoc,List.append_nil]);exact sub_) ?_
 rintro d G ⟨rfl,rfl⟩
 exact ⟨_,_,le.rfl_,⟨rfl,rfl⟩,by (simp only [zaf,List.append_assoc,List.append_nil]);exact sub_⟩
abbrev CMp:=List (Int×Nat)
theorem zoN {ss:List SN} (c:Cn) (h:∀ e,c.s=some e->∃ x∈ss,x.a.name=e.1/\x.b=e.2):(c.s=none/\c.sv = .raw (.pointer none))\/∃ nm b,c.s=some (nm,b)/\c.sv = .raw (.pointer (some ⟨b,0,none⟩))/\∃ y∈ss,y.a.name=nm/\y.b=b:=by
 cases hs:c.s with
 | none=>exact .inl ⟨rfl,by unfold Cn.sv;rw [hs];rfl⟩
 | some e=>exact .inr ⟨e.1,e.2,rfl,by unfold Cn.sv;rw [hs];rfl,h e hs⟩
theorem zhp {p:Prop} (h:p:=by first | exact sv | exact hy | fail):p:=h
theorem zgb {P Q:Prop} (q:Q) (h:Hid Q->P:=by (intro q;simp (maxSteps:=1000000) (disch:=omega) only [push_cast,↓reduceIte,reduceCtorEq,Nat.reduceAdd,Nat.reduceMul,Nat.reduceLT,Nat.reduceLeDiff,Nat.reduceEqDiff,Nat.reduceSub,Int.reduceToNat,Int.reduceLT,Int.reduceLE,Int.reduceAdd,Int.reduceSub,Int.reduceMul,Int.reduceNeg,Nat.reduceBEq,Int.reduceBEq,Int.reduceBNe,Nat.reduceBNe,Int.reduceEq,hlk,hC];exact q.1)):P:=h ⟨q⟩
section
attribute [local push_cast 2000] Cn.cells zaK zbd zaI zaV zaA zaD zbe zaF za6 za7 zba zaH zaG zbb zaC za1 zaJ zaz zbc zaE za0 zaZ zaB zax za2 zbn zb1 zbl zaY zaM zaL Option.getD_some Option.getD_none Option.isSome_some Option.isSome_none
theorem bof0_dc (bb cm sm t:Nat) (cs:List Cn) (ss:List SN) (nm:YS) (F:Own):((cs.map (·.n)).Nodup/\∀ c∈cs,∀ e,c.s=some e->∃ x∈ss,x.a.name=e.1/\x.b=e.2)->DC Tryz.prog 69 [.raw (.pointer (some ⟨bb,0,none⟩)), .str nm] (.blk bb [.raw (.map (some cm)), .raw (.map (some sm)), .raw (.pointer (some ⟨t,0,none⟩))] :: .map cm (entM (V.int .i64) pv (kvC cs))::(ownC cs++(ownS ss++[]))++F) fun d G=>(∃ z:Int,((∃ c∈cs,c.n=z/\c.s.map (·.1)=some nm)\/(z = -1/\∀ c∈cs,c.s.map (·.1)≠some nm))/\d = .int .i64 z)/\G=(.blk bb [.raw (.map (some cm)), .raw (.map (some sm)), .raw (.pointer (some ⟨t,0,none⟩))] :: .map cm (entM (V.int .i64) pv (kvC cs))::(ownC cs++(ownS ss++[])))++F:=by
 intro hA
 obtain ⟨hnd,ho⟩:=hA
 refine DC.bodyS (n_:=32) (show Tryz.prog.funcs[69]? = some Tryz.f69 by kernel_rfl) rfl rfl (by rfl) ?_
 simp only [env0,List.append_assoc,List.cons_append,List.nil_append]
 have kw:=ksIs [0,1,4,5,6,11,13,30]
 have ow:=zai []
 have hlk:True:=trivial
 have hC:True:=trivial
 repeat' (first
  | ((fail_if_success (have zz:=hop));(with_reducible show DW _ _ (Code.region 4 _ _) _ _ _);(obtain ⟨c,hcx,hcn⟩:=kvC_mem (hsub x (by simp)));(have hop:True:=trivial);(rcases zoN c (ho c hcx.1) with ⟨hcs,hlk⟩ | ⟨nm2,b2,hcs,hlk,hy⟩))
  | ((with_reducible apply DW.unitR 5 (r:=rI));(repeat (with_reducible first | refine Out.here ?_ | refine Out.next ?_ | refine Out.skip ?_));(with_reducible refine DW_id ?_))
  | ((refine DOp.rangem_ rfl rfl ?_);(repeat (with_reducible first | refine OnM.here ?_ | refine OnM.next ?_ | (refine OnM.inN (by assumption) ?_;with_reducible intro C hC) | (refine OnM.inK (by assumption) ?_;with_reducible intro C hC) | refine OnM.skip ?_));(refine And.intro (by rw [ty_89]) ?_);(with_reducible intro rI);refine zgb ?_)
  | ((refine DOp.entrym_ rfl rfl ?_);(repeat (with_reducible first | refine OnG.here ?_ | refine OnG.next ?_ | refine OnG.skip ?_));(refine ⟨_,rfl,?_⟩);refine zgb ?_)
  | ((refine DOp.nextm_ (t:=0) rfl rfl ?_);(repeat (with_reducible first | refine OnG.here ?_ | refine OnG.next ?_ | refine OnG.skip ?_));(refine zkB (fun A x C hL=>?_) (fun hL=>?_))<;>(subst hL)<;>(refine zgb ?_))
  | ((with_reducible apply DW.unitE (r:=rI));(repeat (with_reducible first | refine Out.here ?_ | refine Out.next ?_ | refine Out.skip ?_));(with_reducible refine DW_id ?_))
  | ((refine DOp.load_ rfl rfl ?_);(repeat (with_reducible first | refine OnB.here ?_ | refine OnB.next ?_ | (refine OnB.inC (by assumption) ?_;with_reducible intro C0) | refine OnB.skip ?_));refine zgb ?_)
  | ((with_reducible refine DW.loopB 0 (X:=CMp×VM) (fun x=>(∀ e∈x.1,e∈kvC cs)/\∀ c∈cs,(c.n,c.b)∈x.1\/c.s.map (·.1)≠some nm) (fun x=>[(1, .str nm),(11, .raw (.pointer (some ⟨rI,0,none⟩)))]) (fun x=>.miter rI cm (entM (V.int .i64) pv (kvC cs)) (entM (V.int .i64) pv x.1) x.2::(ownC cs++(ownS ss++[]))) (fun x=>x.1.length) ((kvC cs,[])) ?_ ?_ ?_);exact (⟨fun _ h=>h,fun c hc=>.inl (List.mem_map.2 ⟨c,hc,rfl⟩)⟩);(simp [Sub,get,zbu]<;>fail);(try simp only [List.append_assoc,List.cons_append,List.nil_append]);refine pl_ ?_;intro ⟨Lf,cur⟩ ⟨hsub,hdone⟩;(try simp only [List.append_assoc,List.cons_append,List.nil_append]);try simp only at hsub hdone)
  | refine g_ ?_
  | ((with_reducible refine And.intro ?_ ?_);(exact zhp))
  | (refine DW.cond (by rfl) ?_ ?_<;>(first | exact i0_ | (intro hb;(try simp only [↓reduceCtorEq,not_true_eq_false,not_false_eq_true,hbs,Int.reduceBEq,Int.reduceBNe,Int.reduceEq] at hb);(try refine zgb ?_))))
  | ((with_reducible refine zaa ?_ ?_)<;>(intro hb;rw [hb];revert hb;(first | exact i0_ | (intro hb;(try simp only [↓reduceCtorEq,not_true_eq_false,not_false_eq_true,hbs,Int.reduceBEq,Int.reduceBNe,Int.reduceEq] at hb);(try refine zgb ?_)))))
  | ((refine Both.imp ?_ ?_)<;>(first | exact i0_ | (intro hb;(try simp only [↓reduceCtorEq,not_true_eq_false,not_false_eq_true,hbs,Int.reduceBEq,Int.reduceBNe,Int.reduceEq] at hb);(try refine zgb ?_))))
  | ((first | refine rn_ ?_ | refine kn_ ?_)<;>(refine zgb ?_))
  | ((first | (refine DOp.rangem_ rfl rfl ?_;(repeat (with_reducible first | refine OnM.here ?_ | refine OnM.next ?_))) | (refine DOp.nextm_ (t:=0) rfl rfl ?_;(repeat (with_reducible first | refine OnG.here ?_ | refine OnG.next ?_))) | (refine DOp.entrym_ rfl rfl ?_;(repeat (with_reducible first | refine OnG.here ?_ | refine OnG.next ?_))))<;>(refine zgb ?_))
  | (refine q_ (sclS_dc _ _ _ _) ?_ (ha:=by exact zhp) (hk:=fun q=>q.1);refine zgb ?_)
  | ((refine on_ ?_);refine zgb ?_)
  | refine f_ ?_
  | with_reducible intro b)
 all_goals first
 | (((refine ⟨(A++C,[(.int .i64 x.1,pv x.2)]),⟨fun e he=>hsub e (by rcases List.mem_append.1 he with h | h<;>simp [h]),zmj hnd hdone hcx hcn (of_no hcs)⟩,by (try simp only);simp only [List.length_append,List.length_cons];omega,by simp [Sub,get],?_⟩);((try dsimp only);(simp only [<-zeF]));(exact sub_);done))
 | (((refine ⟨(A++C,[(.int .i64 x.1,pv x.2)]),⟨fun e he=>hsub e (by rcases List.mem_append.1 he with h | h<;>simp [h]),zmj hnd hdone hcx hcn (of_ne hcs hb)⟩,by (try simp only);simp only [List.length_append,List.length_cons];omega,by simp [Sub,get],?_⟩);((try dsimp only);(simp only [<-zeF]));(exact sub_);done))
 | (((refine ⟨_,_,le.rfl_,⟨⟨x.1, .inl ⟨c,hcx.1,hcn,by rw [hcs,hb];rfl⟩,rfl⟩,rfl⟩,?_⟩);(exact sub_);done))
 | (((refine ⟨_,_,le.rfl_,⟨⟨-1, .inr ⟨rfl,fun c hc=>(hdone c hc).resolve_left (by simp)⟩,rfl⟩,rfl⟩,?_⟩);(exact sub_);done))
 | (trace_state;fail)
end
theorem zqJ (bb:Nat) (s:BN) (nm:YS) (F:Own):BOK s->DC Tryz.prog 69 [.raw (.pointer (some ⟨bb,0,none⟩)), .str nm] ((ownB bb s++[])++F) fun d G=>d = .int .i64 (ofM nm s.pl)/\G=(ownB bb s++[])++F:=fun h=>by
 obtain ⟨cm,sm,t,ts,cs,ss⟩:=s
 refine DC.conv (bof0_dc bb cm sm t cs ss nm (.map sm (entM V.str pv (kvS ss))::(ownT t ts++F)) ⟨h.cn,fun c hc=>(h.co c hc).s⟩) (by (simp only [ownB,BN.maps,zad,zaf,Cn.own,Cn.cells,Cn.sv,Option.map_none,Option.map_some,List.append_assoc,List.cons_append,List.nil_append,List.append_nil]);exact sub_) ?_
 rintro d G ⟨⟨z,hz,rfl⟩,rfl⟩
 refine ⟨_,_,le.of_eq ?_,⟨rfl,rfl⟩,by (simp only [ownB,BN.maps,zad,zaf,Cn.own,Cn.cells,Cn.sv,Option.map_none,Option.map_some,List.append_assoc,List.cons_append,List.nil_append,List.append_nil]);exact sub_⟩
 rcases hz with ⟨c,hc,hcn,hcs⟩ | ⟨rfl,hz⟩
 · cases hs:c.s with
   | none=>rw [hs] at hcs;cases hcs
   | some e =>
    rw [hs] at hcs
    obtain ⟨e1,e2⟩:=e
    simp only [Option.map_some,Option.some.injEq] at hcs
    subst hcs
    rw [<-hcn]
    exact congrArg _ (ofM_y h hc hs).symm
 · exact congrArg _ (ofM_n (s:=⟨cm,sm,t,ts,cs,ss⟩) hz).symm
end
end Go.Proofs.YtgekknefphagbaaGreatDoor
