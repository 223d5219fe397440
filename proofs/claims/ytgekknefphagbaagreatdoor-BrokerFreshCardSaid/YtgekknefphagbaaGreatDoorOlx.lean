/- The broker: bare packets go out; a greeting is refused. -/
import Derived.Test.YtgekknefphagbaaGreatDoorOhx
import Derived.KernelRfl
import Derived.Test.YtgekknefphagbaaGreatDoorBdx
import Derived.Test.YtgekknefphagbaaGreatDoorPv2x
namespace Go.Proofs.YtgekknefphagbaaGreatDoor
open Go.RowKit
set_option linter.unusedSimpArgs false
set_option linter.unusedVariables false
set_option linter.unusedSectionVars false
set_option maxHeartbeats 4000000
set_option maxRecDepth 100000
section
def zan (kind id:Int) (pr:Bool) (code:Int):Pk:=⟨kind,false,false,0,id,[],[],0,[],false,0,false,[],[],0,false,false,false,[],[],pr,code,[],[]⟩
noncomputable def zbi (n code:Int) (b:Br):Ef×Br:=(andM ⟨outM n [zan 2 0 false code],[],[],[]⟩ (zae n b).1,(zae n b).2)
theorem zoK {s:BN} (h:BOK s) (hz:BSz s.pl) {c:Cn} (hc:c∈s.cs):(za8 c.n s.pl).1.outs=[]/\(za8 c.n s.pl).1.pubs.length<=1/\(za8 c.n s.pl).1.adds=[]/\(za8 c.n s.pl).1.drops.length<=1000000:=by
 have hw:=(h.co c hc).will
 have hcon:=zgw h hc
 unfold za8
 rw [hcon]
 obtain ⟨n,b,st,left,bad,hd,sv,kp,cl,will,lv,wv⟩:=c
 cases sv with
 | none=>exact ⟨rfl,hw,rfl,Nat.zero_le _⟩
 | some e =>
  cases cl with
  | true =>
   refine ⟨rfl,hw,rfl,?_⟩
   show (zah e.1 (s.pl.off n)).1.length<=_
   unfold zah
   cases hs:(s.pl.off n).ses e.1 with
   | none=>exact Nat.zero_le _
   | some a =>
    have ha:a∈s.pl.sess:=List.mem_of_find?_eq_some hs
    exact Nat.le_trans (zc1 ..) (by rw [zc6];exact (hz.sub a ha).1)
  | false=>exact ⟨rfl,hw,rfl,Nat.zero_le _⟩
theorem zii {s:BN} (h:BOK s) (hz:BSz s.pl) {c:Cn} (hc:c∈s.cs):(zae c.n s.pl).1.outs.length<=1/\(zae c.n s.pl).1.pubs.length<=1/\(zae c.n s.pl).1.adds=[]/\(zae c.n s.pl).1.drops.length<=1000000:=by
 obtain ⟨h1,h2,h3,h4⟩:=zoK h hz hc
 unfold zae andM
 simp only [h1,h3,List.append_nil,List.nil_append,List.length_cons,List.length_nil]
 exact ⟨Nat.le_refl _,h2,trivial,Nat.le_trans (zab _) h4⟩
theorem zfe (l:List Ou):∀ j∈l.map encOu,j.n=4/\j.cs.all V.one=true:=fun j hj=>by obtain ⟨x,_,rfl⟩:=List.mem_map.1 hj;exact ⟨rfl,rfl⟩
theorem zer (l:List YS):∀ j∈l.map V.str,j.n=1/\j.cs.all V.one=true:=fun j hj=>by obtain ⟨x,_,rfl⟩:=List.mem_map.1 hj;exact ⟨rfl,rfl⟩
theorem zjt (kind id:Int) (pr:Bool) (code:Int):PkN (zan kind id pr code):=⟨Nat.zero_le _,Nat.zero_le _,Nat.zero_le _,Nat.zero_le _,Nat.zero_le _,Nat.zero_le _,Nat.zero_le _,Nat.zero_le _,fun k=>by simp [zan];exact Nat.zero_le _,Nat.zero_le _⟩
theorem zjh (pr:Bool) (code:Int):SendK (zan 2 0 pr code):=⟨zjt _ _ _ _, .inl rfl,by first | rfl | (unfold onlyM zan;simp)⟩
attribute [local irreducible] SN.own ownT ownC ownS ownB zae za8 zaR
attribute [local irreducible] DW SeqD DV DOp DC DVX DVJ idsF usI sortS putM zay onlyM
theorem zpd (kind id:Int) (pr:Bool) (code n:Int) (F:Own):SendK (zan kind id pr code)->DC Tryz.prog 42 [.int .i64 n, .sl [.agg [.int .i64 kind, .bool false, .bool false, .int .i64 0, .int .i64 id, .str [], .gs (.slice none 0 0) [], .int .i64 0, .str [], .bool false, .int .i64 0, .bool false, .str [], .gs (.slice none 0 0) [], .int .i64 0, .bool false, .bool false, .bool false, .str [], .gs (.slice none 0 0) [], .bool pr, .int .i64 code, .gs (.slice none 0 0) [], .gs (.slice none 0 0) []]]] ([knF,knA]++F) fun d G=>∃ v,d = .ar v (outM n [(zan kind id pr code)]).length/\G = .arr 4 v (cells ((outM n [(zan kind id pr code)]).map encOu))::([knF,knA]++F):=fun h =>
 DC.args (Les.cons le.rfl_ (Les.cons (le.sl1 (Les.cons le.rfl_ (Les.cons le.rfl_ (Les.cons le.rfl_ (Les.cons le.rfl_ (Les.cons le.rfl_ (Les.cons le.rfl_ (Les.cons (le.gs rfl) (Les.cons le.rfl_ (Les.cons le.rfl_ (Les.cons le.rfl_ (Les.cons le.rfl_ (Les.cons le.rfl_ (Les.cons le.rfl_ (Les.cons (le.gs rfl) (Les.cons le.rfl_ (Les.cons le.rfl_ (Les.cons le.rfl_ (Les.cons le.rfl_ (Les.cons le.rfl_ (Les.cons (le.gs rfl) (Les.cons le.rfl_ (Les.cons le.rfl_ (Les.cons (le.gs rfl) (Les.cons (le.gs rfl) (Les.nil)))))))))))))))))))))))))) Les.nil)) (znC n [(zan kind id pr code)] F ⟨by simp,fun k hk=>by obtain rfl:k=0:=(by simpa using hk);exact h⟩)
theorem zmD (kind id:Int) (pr:Bool) (code n:Int) (F:Own):SendK (zan kind id pr code)->DC Tryz.prog 42 [.int .i64 n, .sl [.agg [.int .i64 kind, .bool false, .bool false, .int .i64 0, .int .i64 id, .str [], .gs (.slice none 0 0) [], .int .i64 0, .str [], .bool false, .int .i64 0, .bool false, .str [], .gs (.slice none 0 0) [], .int .i64 0, .bool false, .bool false, .bool false, .str [], .gs (.slice none 0 0) [], .bool pr, .int .i64 code, .gs (.slice none 0 0) [], .gs (.slice none 0 0) []]]] ([knF,knA]++F) fun d G=>d = .sl ((outM n [(zan kind id pr code)]).map encOu)/\G=[knF,knA]++F:=fun h =>
 DC.args (Les.cons le.rfl_ (Les.cons (le.sl1 (Les.cons le.rfl_ (Les.cons le.rfl_ (Les.cons le.rfl_ (Les.cons le.rfl_ (Les.cons le.rfl_ (Les.cons le.rfl_ (Les.cons (le.gs rfl) (Les.cons le.rfl_ (Les.cons le.rfl_ (Les.cons le.rfl_ (Les.cons le.rfl_ (Les.cons le.rfl_ (Les.cons le.rfl_ (Les.cons (le.gs rfl) (Les.cons le.rfl_ (Les.cons le.rfl_ (Les.cons le.rfl_ (Les.cons le.rfl_ (Les.cons le.rfl_ (Les.cons (le.gs rfl) (Les.cons le.rfl_ (Les.cons le.rfl_ (Les.cons (le.gs rfl) (Les.cons (le.gs rfl) (Les.nil)))))))))))))))))))))))))) Les.nil)) (zku n [(zan kind id pr code)] F ⟨by simp,fun k hk=>by obtain rfl:k=0:=(by simpa using hk);exact h⟩)
theorem zcD {p:Prop} (h:p:=by first | exact sv | exact hsd | exact ⟨h1,⟨h2,h3⟩,h4⟩ | exact ⟨⟨rfl,rfl⟩,⟨hol,by omega,by omega,rfl,by simp⟩,⟨by (rw [List.length_map];omega),by (rw [List.length_map];omega),by (rw [List.length_map];omega),by omega⟩,zfe _,zeC _,zer _⟩ | fail):p:=h
theorem zlw (bb:Nat) (m:Int) (s:BN) (c:Cn) (n code:Int) (F:Own):(BOK s/\(c∈s.cs/\c.n=n)/\BSz s.pl)->DC Tryz.prog 81 [.raw (.pointer (some ⟨bb,0,none⟩)), .int .i64 n, .int .i64 code] (loose::knF::knA::knM m::(ownB bb s++[])++F) fun d G=>∃ (w1 w2 w3 w4:Value) (s':BN),(BOK s'/\s'.pl=(zae n s.pl).2)/\d = .agg [.ar w1 ((outM n [zan 2 0 false code]).length+(zae n s.pl).1.outs.length), .ar w2 (zae n s.pl).1.pubs.length, .ar w3 (zae n s.pl).1.adds.length, .ar w4 (zaR ([]++(zae n s.pl).1.drops)).length]/\G = .arr 4 w1 (cells ((outM n [zan 2 0 false code]).map encOu)++cells ((zae n s.pl).1.outs.map encOu)) :: .arr 4 w2 (cells ((zae n s.pl).1.pubs.map encM)) :: .arr 1 w3 (cells ((zae n s.pl).1.adds.map V.str)) :: .arr 1 w4 ((zaR ([]++(zae n s.pl).1.drops)).map V.str)::loose::knF::knA::knM m::(ownB bb s'++F):=by
 intro hA
 obtain ⟨h1,⟨h2,h3⟩,h4⟩:=hA
 refine DC.bodyS (n_:=19) (show Tryz.prog.funcs[81]? = some Tryz.f81 by kernel_rfl) rfl rfl (by rfl) ?_
 simp only [env0,List.append_assoc,List.cons_append,List.nil_append]
 have kw:=ksIs [0,1,2,6,7]
 have ow:=zai [7]
 have rw_:=rsIs [.cell 6 38]
 have hsd:SendK (zan 2 0 false code):=zjh _ _
 have hol:(outM n [zan 2 0 false code]).length<=1000000000:=Nat.le_trans (za3 ..) (by simp)
 have hsn:=zii h1 h4 h2
 rw [h3] at hsn
 obtain ⟨hn1,hn2,hn3,hn4⟩:=hsn
 have hn5:(zae n s.pl).1.adds.length=0:=by rw [hn3];rfl
 repeat' (first
  | ((fail_if_success (have zz:=hown));(with_reducible show DW _ _ (Code.region 2 _ _) _ _ _);(refine DW.own0P 4 eb 1 (by ((with_reducible repeat (first | exact Pulled.nil | apply Pulled.cons | exact Took.here | apply Took.next | apply Took.skip | fail))<;>fail)) rfl ?_);(simp only [List.set_cons_succ,List.set_cons_zero]);(refine DW.own0P 1 eb 2 (by ((with_reducible repeat (first | exact Pulled.nil | apply Pulled.cons | exact Took.here | apply Took.next | apply Took.skip | fail))<;>fail)) rfl ?_);(simp only [List.set_cons_succ,List.set_cons_zero]);(refine DW.own0P 1 eb 3 (by ((with_reducible repeat (first | exact Pulled.nil | apply Pulled.cons | exact Took.here | apply Took.next | apply Took.skip | fail))<;>fail)) rfl ?_);(simp only [List.set_cons_succ,List.set_cons_zero]);(have hown:True:=trivial))
  | refine g_ ?_
  | ((with_reducible refine And.intro ?_ ?_);(exact zcD))
  | (refine DW.cond (by rfl) ?_ ?_<;>(first | exact i0_ | (refine ic_ ?_;intro hb)))
  | ((with_reducible refine zaa ?_ ?_)<;>(intro hb;rw [hb];revert hb;(first | exact i0_ | (refine i_ ?_;intro hb))))
  | refine r_ ?_
  | refine k_ ?_
  | (refine p_ (zpd _ _ _ _ _ _) ?_ (ha:=by exact zcD);rintro d H1 ⟨v1,rfl,rfl⟩<;>refine s_ ?_)
  | (refine p_ (zcc (c:=c) _ _ _ _ _) ?_ (ha:=by exact zcD);rintro d H1 ⟨s2,⟨hs2,hp2⟩,rfl,rfl⟩<;>refine s_ ?_)
  | (refine p_ (zbY (D1:=[]) (D2:=(zae n s.pl).1.drops) _ _ _ _ _ _ _ _ _ _ _ _ _ _ _ _ _ _) ?_ (ha:=by exact zcD);rintro d H1 ⟨w1,w2,w3,w4,rfl,rfl⟩<;>refine s_ ?_)
  | refine o_ ?_
  | refine f_ ?_
  | ((fail_if_success (have zz:=rb));with_reducible intro rb)
  | ((fail_if_success (have zz:=eb));with_reducible intro eb)
  | with_reducible intro b)
 all_goals first
 | (((refine ⟨_,_,le.rfl_,⟨w1,w2,w3,w4,s2,⟨hs2,hp2⟩,rfl,rfl⟩,?_⟩);(exact sub_);done))
 | (trace_state;fail)
theorem zi5 (bb:Nat) (m:Int) (s:BN) (c:Cn) (n code:Int) (F:Own):(BOK s/\(c∈s.cs/\c.n=n)/\BSz s.pl)->DC Tryz.prog 81 [.raw (.pointer (some ⟨bb,0,none⟩)), .int .i64 n, .int .i64 code] ((loose::knF::knA::knM m::(ownB bb s++[]))++F) fun d G=>∃ s':BN,(BOK s'/\s'.pl=(zbi n code s.pl).2)/\d = .agg [.sl ((zbi n code s.pl).1.outs.map encOu), .sl ((zbi n code s.pl).1.pubs.map encM), .sl ((zbi n code s.pl).1.adds.map V.str), .sl ((zbi n code s.pl).1.drops.map V.str)]/\G=loose::knF::knA::knM m::(ownB bb s'++F):=fun h =>
 DC.frzE (X:=BN) (Q:=fun s'=>BOK s'/\s'.pl=(zbi n code s.pl).2) (l1:=fun _=>(zbi n code s.pl).1.outs.map encOu) (l2:=fun _=>(zbi n code s.pl).1.pubs.map encM) (l3:=fun _=>(zbi n code s.pl).1.adds.map V.str) (l4:=fun _=>(zbi n code s.pl).1.drops.map V.str) (L:=fun s'=>loose::knF::knA::knM m::(ownB bb s'++F))
  (fun _ j hj=>(zfe _ j hj).1) (fun _=>mg_n _) (fun _=>st_n _) (fun _=>st_n _)
  ((zlw bb m s c n code F h).mono fun d G ⟨w1,w2,w3,w4,s',hq,hd,hG⟩=>⟨w1,w2,w3,w4,s',hq,by rw [hd];unfold zbi andM;simp only [List.length_map,List.length_append,List.nil_append],by rw [hG];unfold zbi andM;simp only [List.map_append,zbr,zb4,List.nil_append]⟩)
end
section
theorem zpy (c:Cn) (H:Own):ownC [c]++H=c.own++H:=by show (c.own++[])++H=_;rw [List.append_nil]
theorem BOK.opened {s:BN} (h:BOK s) {n now:Int} (hn:0<=n/\n<16) (hc:s.pl.conn n=none) (cb st:Nat):BOK { s with cs:=s.cs++[(⟨n,cb,st,[],0,zal now,none,0,false,[], .gs (.slice none 0 0) [], .gs (.slice none 0 0) []⟩:Cn)] }:=by
 have hno:∀ c∈s.cs,c.n≠n:=fun c hc1 e=>by rw [<-e,zgw h hc1] at hc;cases hc
 refine ⟨h.t,?_,fun c hc1=>?_,h.sn,h.so,h.sq,fun c hc1 d hd e e' he he' hee=>?_⟩
 · show ((s.cs++[(⟨n,cb,st,[],0,zal now,none,0,false,[], .gs (.slice none 0 0) [], .gs (.slice none 0 0) []⟩:Cn)]).map (·.n)).Nodup
   rw [List.map_append,List.nodup_append]
   refine ⟨h.cn,by simp,fun a ha b hb e=>?_⟩
   obtain ⟨c,hc1,rfl⟩:=List.mem_map.1 ha
   simp only [List.map_cons,List.map_nil,List.mem_cons,List.not_mem_nil,or_false] at hb
   exact hno c hc1 (e.trans hb)
 · rcases List.mem_append.1 hc1 with h1 | h1
   · exact h.co c h1
   · rw [List.mem_singleton.1 h1]
     exact ⟨hn,zdk now,⟨by show (-1000000000:Int)<=0;omega,by show (0:Int)<=1000000000;omega⟩,Nat.zero_le _,(fun _ h=>nomatch h), .inl ⟨rfl,rfl⟩, .inl ⟨rfl,rfl⟩,(fun _ h=>nomatch h)⟩
 · rcases List.mem_append.1 hc1 with h1 | h1
   · rcases List.mem_append.1 hd with h2 | h2
     · exact h.sd c h1 d h2 e e' he he' hee
     · rw [List.mem_singleton.1 h2] at he';cases he'
   · rw [List.mem_singleton.1 h1] at he;cases he
attribute [local irreducible] SN.own ownT ownC ownS
attribute [local irreducible] DW SeqD DV DOp DC DVX DVJ idsF usI sortS putM zay onlyM
theorem ziq (bb:Nat) (s:BN) (n now:Int) (F:Own):(BOK s/\(0<=n/\n<16)/\s.pl.conn n=none)->DC Tryz.prog 13 [.raw (.pointer (some ⟨bb,0,none⟩)), .int .i64 n, .int .i64 now] ((ownB bb s++[])++F) fun d G=>∃ s':BN,(BOK s'/\s'.pl=zjZ n now s.pl)/\d = .int .i64 0/\G=ownB bb s'++F:=by
 rintro ⟨h,hn,hc⟩
 have hlk:lookA n (kvC s.cs)=none:=by
  have:=zdK s n
  rw [hc] at this
  cases h1:lookA n (kvC s.cs) with
  | none=>rfl
  | some b=>rw [h1] at this;cases this
 have hop:zjZ n now s.pl={ s.pl with conns:=s.pl.conns++[newC n now] }:=by
  unfold zjZ;rw [if_neg];rw [hc];simp;omega
 rw [hop]
 have hok:=fun cb st=>h.opened (now:=now) hn hc cb st
 obtain ⟨cm,sm,t,ts,cs,ss⟩:=s
 refine DC.conv (zoS bb cm sm t (kvC cs) n now (.map sm (entM V.str pv (kvS ss))::(ownC cs++(ownS ss++(ownT t ts++F)))) ⟨hlk,hn⟩) (by (simp only [ownB,BN.maps,zad,zaf,Cn.own,Cn.cells,Cn.sv,Option.map_none,Option.map_some,List.append_assoc,List.cons_append,List.nil_append,List.append_nil]);exact sub_) ?_
 rintro d G ⟨cb,st,rfl,rfl⟩
 rw [zct hlk]
 refine ⟨_,_,le.rfl_,⟨(⟨cm,sm,t,ts,cs++[(⟨n,cb,st,[],0,zal now,none,0,false,[], .gs (.slice none 0 0) [], .gs (.slice none 0 0) []⟩:Cn)],ss⟩:BN),⟨hok cb st,?_⟩,rfl,rfl⟩,?_⟩
 · unfold BN.pl;simp only [List.map_append,List.map_cons,List.map_nil];rfl
 · have e1:kvC cs++[(n,cb)]=kvC (cs++[(⟨n,cb,st,[],0,zal now,none,0,false,[], .gs (.slice none 0 0) [], .gs (.slice none 0 0) []⟩:Cn)]):=by unfold kvC;rw [List.map_append];rfl
   rw [e1]
   (simp only [ownB,BN.maps,zbI,zpy,Cn.own,Cn.cells,Cn.sv,Option.map_none,List.append_assoc,List.cons_append,List.nil_append,List.append_nil])
   exact sub_
theorem zhT (bb:Nat) (s:BN) (n:Int) (F:Own):BOK s->DC Tryz.prog 17 [.raw (.pointer (some ⟨bb,0,none⟩)), .int .i64 n] ((ownB bb s++[])++F) fun d G=>d = .str (zc8 n s.pl)/\G=(ownB bb s++[])++F:=fun h=>by
 cases hc:s.pl.conn n with
 | none =>
  have hlk:lookA n (kvC s.cs)=none:=by
   have:=zdK s n
   rw [hc] at this
   cases h1:lookA n (kvC s.cs) with
   | none=>rfl
   | some b=>rw [h1] at this;cases this
  have e1:zc8 n s.pl=[]:=by unfold zc8;rw [hc];rfl
  rw [e1]
  obtain ⟨cm,sm,t,ts,cs,ss⟩:=s
  refine DC.conv (cliN_dc bb cm sm t (kvC cs) n (.map sm (entM V.str pv (kvS ss))::(ownC cs++(ownS ss++(ownT t ts++F)))) hlk) (by (simp only [ownB,BN.maps,zad,zaf,Cn.own,Cn.cells,Cn.sv,Option.map_none,Option.map_some,List.append_assoc,List.cons_append,List.nil_append,List.append_nil]);exact sub_) ?_
  rintro d G ⟨rfl,rfl⟩
  exact ⟨_,_,le.rfl_,⟨rfl,rfl⟩,by (simp only [ownB,BN.maps,zad,zaf,Cn.own,Cn.cells,Cn.sv,Option.map_none,Option.map_some,List.append_assoc,List.cons_append,List.nil_append,List.append_nil]);exact sub_⟩
 | some p =>
  obtain ⟨c,hcm,rfl,rfl⟩:=ze4 hc
  obtain ⟨l1,l2,hs,h1,h2⟩:=zbS h.cn hcm
  have ho:=h.co c hcm
  have e1:zc8 c.n s.pl=(c.s.map (·.1)).getD []:=by unfold zc8;rw [hc];rfl
  rw [e1]
  obtain ⟨n,b,st,left,bad,hd,sv,kp,cl,will,lv,wv⟩:=c
  obtain ⟨cm,sm,t,ts,cs,ss⟩:=s
  simp only at hs
  subst hs
  have hlk:=zcZ (l2:=l2) h1
  simp only at hlk ⊢
  cases sv with
  | none =>
   refine DC.conv (cli0_dc bb cm sm t (kvC (l1++(⟨n,b,st,left,bad,hd,none,kp,cl,will,lv,wv⟩:Cn)::l2)) n b st hd kp cl wv (.map sm (entM V.str pv (kvS ss)) :: .blk st [lv, .int .i64 bad]::(ownC l1++(ownC l2++(ownS ss++(ownT t ts++F))))) hlk) (by (simp only [ownB,BN.maps,zad,zaf,Cn.own,Cn.cells,Cn.sv,Option.map_none,Option.map_some,List.append_assoc,List.cons_append,List.nil_append,List.append_nil]);exact sub_) ?_
   rintro d G ⟨rfl,rfl⟩
   exact ⟨_,_,le.rfl_,⟨rfl,rfl⟩,by (simp only [ownB,BN.maps,zad,zaf,Cn.own,Cn.cells,Cn.sv,Option.map_none,Option.map_some,List.append_assoc,List.cons_append,List.nil_append,List.append_nil]);exact sub_⟩
  | some e =>
   obtain ⟨y,hy,hy1,hy2⟩:=ho.s e rfl
   obtain ⟨e1,e2⟩:=e
   simp only at hy1 hy2
   subst hy1;subst hy2
   obtain ⟨m1,m2,hss,k1,k2⟩:=zbS h.sn hy
   simp only at hss
   subst hss
   refine DC.conv (cliS_dc bb cm sm t (kvC (l1++(⟨n,b,st,left,bad,hd,some (y.a.name,y.b),kp,cl,will,lv,wv⟩:Cn)::l2)) n b st hd kp cl wv y (.map sm (entM V.str pv (kvS (m1++y::m2))) :: .blk st [lv, .int .i64 bad]::(ownC l1++(ownC l2++(ownS m1++(ownS m2++(ownT t ts++F)))))) hlk) (by (simp only [ownB,BN.maps,zad,zaf,Cn.own,Cn.cells,Cn.sv,Option.map_none,Option.map_some,List.append_assoc,List.cons_append,List.nil_append,List.append_nil]);exact sub_) ?_
   rintro d G ⟨rfl,rfl⟩
   exact ⟨_,_,le.rfl_,⟨rfl,rfl⟩,by (simp only [ownB,BN.maps,zad,zaf,Cn.own,Cn.cells,Cn.sv,Option.map_none,Option.map_some,List.append_assoc,List.cons_append,List.nil_append,List.append_nil]);exact sub_⟩
end
section
section
variable {P:Program} {n:Nat} {Q:Exit->Env->Own->Prop} {e:Env} {H:Own}
theorem DW.toR (id:Nat) {ops:Array Oper} {dr:Bool} {G:Own} (hG:SubP G H) (h:DW P n (.region id ops dr) Q e G):DW P n (.region id ops dr) Q e H:=by
 obtain ⟨L,h1,h2⟩:=hG
 exact DW.weak e L (fun _=>.inl rfl) h2 (DW.perm h1 h)
end
theorem zas (l1 l2:List Cn) (c:Cn):kvC (l1++c::l2)=kvC l1++(c.n,c.b)::kvC l2:=by unfold kvC;rw [List.map_append];rfl
attribute [local irreducible] SN.own ownT ownC ownS ownB zae za8 zaR zbD
attribute [local irreducible] DW SeqD DV DOp DC DVX DVJ idsF usI sortS putM zay onlyM
theorem zcd {P Q:Prop} (q:Q) (h:Hid Q->P:=by (intro q;simp (maxSteps:=1000000) (disch:=omega) only [push_cast,↓reduceIte,reduceCtorEq,Nat.reduceAdd,Nat.reduceMul,Nat.reduceLT,Nat.reduceLeDiff,Nat.reduceEqDiff,Nat.reduceSub,Int.reduceToNat,Int.reduceLT,Int.reduceLE,Int.reduceAdd,Int.reduceSub,Int.reduceMul,Int.reduceNeg,Nat.reduceBEq,Int.reduceBEq,Int.reduceBNe,Nat.reduceBNe,Int.reduceEq,hlk,hC];exact q.1)):P:=h ⟨q⟩
section
attribute [local push_cast 2000] zaK zbd zaI zaV zaA zaD zbe zaF za6 za7 zba zaH zaG zbb zaC za1 zaJ zaz zbc zaE za0 zaZ zaB zax za2 zbn zb1 zbl zaY zaM zaL Option.getD_some Option.getD_none Option.isSome_some Option.isSome_none
theorem znn (bb cm sm t:Nat) (M:List (Int×Nat)) (n now:Int) (p:Pk) (T1 T2 T3 T4:List V) (F:Own):(lookA n M=none)->DC Tryz.prog 14 [.raw (.pointer (some ⟨bb,0,none⟩)), .int .i64 n, .agg [.int .i64 p.kind, .bool p.dup, .bool p.retain, .int .i64 p.qos, .int .i64 p.id, .str p.topic, .sl (p.payload.map u8), .int .i64 p.level, .str p.client, .bool p.clean, .int .i64 p.keep, .bool p.hasWill, .str p.wtopic, .sl (p.wpay.map u8), .int .i64 p.wqos, .bool p.wretain, .bool p.hasUser, .bool p.hasPass, .str p.user, .sl (p.pass.map u8), .bool p.present, .int .i64 p.code, .sl (p.subs.map encU), .sl (p.codes.map (V.int .i64))], .int .i64 now, .agg [.sl T1, .sl T2, .sl T3, .sl T4]] (.blk bb [.raw (.map (some cm)), .raw (.map (some sm)), .raw (.pointer (some ⟨t,0,none⟩))] :: .map cm (entM (V.int .i64) pv M)::([]:Own)++F) fun d G=>d = .tup [zb8 nilE, .int .i64 30]/\G=(.blk bb [.raw (.map (some cm)), .raw (.map (some sm)), .raw (.pointer (some ⟨t,0,none⟩))] :: .map cm (entM (V.int .i64) pv M)::([]:Own))++F:=by
 intro hA
 have hlk:=hA
 refine DC.bodyS (n_:=114) (show Tryz.prog.funcs[14]? = some Tryz.f14 by kernel_rfl) rfl rfl (by rfl) ?_
 simp only [env0,List.cons_append,List.nil_append]
 have kw:=ksIs [0,1,2,3,4,7,9,10,11,12,14,22,37,42,43,50,56,71,85,93,99,106]
 have ow:=zai []
 have dw5:=drIs 5 [] [3,6]
 have dw13:=drIs 13 [] [3,4,5]
 have dw18:=drIs 18 [10] [4,5,7,8]
 have rw_:=rsIs [.cell 10 38, .tmp 11]
 have hC:True:=trivial
 repeat' (first
  | refine g_ ?_
  | ((with_reducible refine And.intro ?_ ?_);(exact sv))
  | (refine DW.cond (by rfl) ?_ ?_<;>(first | exact i0_ | (intro hb;(try simp only [↓reduceCtorEq,not_true_eq_false,not_false_eq_true,hbs,Int.reduceBEq,Int.reduceBNe,Int.reduceEq] at hb);(try refine zcd ?_))))
  | ((with_reducible first | refine zaa ?_ ?_ | refine zak ?_ ?_)<;>(intro hb;rw [hb];revert hb;(first | exact i0_ | (intro hb;(try simp only [↓reduceCtorEq,not_true_eq_false,not_false_eq_true,hbs,Int.reduceBEq,Int.reduceBNe,Int.reduceEq] at hb);(try refine zcd ?_)))))
  | ((first | refine rn_ ?_ | refine dn_ ?_ | refine kn_ ?_)<;>(refine zcd ?_))
  | ((refine dm_ ?_);(first | (refine DVop.look_ rfl rfl rfl rfl ?_;(repeat (with_reducible first | refine OnM.here ?_ | refine OnM.next ?_));refine zcd ?_)))
  | ((refine von_ ?_);refine zcd ?_)
  | ((first | (refine DOp.look_ rfl rfl ?_;(repeat (with_reducible first | refine OnM.here ?_ | refine OnM.next ?_))))<;>(refine zcd ?_))
  | ((refine on_ ?_);refine zcd ?_)
  | refine f_ ?_
  | refine vm_ ?_
  | ((fail_if_success (have zz:=rb));with_reducible intro rb)
  | with_reducible intro b)
 all_goals first
 | (((refine ⟨_,_,le.tup (Les.cons (le.agg (Les.cons (le.gs rfl) (Les.cons (le.gs rfl) (Les.cons (le.gs rfl) (Les.cons (le.gs rfl) Les.nil))))) (Les.cons le.rfl_ Les.nil)),⟨rfl,rfl⟩,?_⟩);(exact sub_);done))
 | (trace_state;fail)
end
end
section
theorem BOK.heard {cm sm t:Nat} {ts:TS} {l1 l2:List Cn} {ss:List SN} {c:Cn} (h:BOK ⟨cm,sm,t,ts,l1++c::l2,ss⟩) (now:Int):BOK ⟨cm,sm,t,ts,l1++{ c with heard:=zal now }::l2,ss⟩:=by
 refine ⟨h.t,?_,fun d hd=>?_,h.sn,h.so,h.sq,?_⟩
 · have:=h.cn
   simp only [List.map_append,List.map_cons] at this ⊢
   exact this
 · rcases List.mem_append.1 hd with h1 | h1
   · exact h.co d (List.mem_append.2 (.inl h1))
   · rcases List.mem_cons.1 h1 with rfl | h1
     · have ho:=h.co c (by simp)
       exact ⟨ho.n,zdk now,ho.keep,ho.will,ho.wm,ho.lv,ho.wv,ho.s⟩
     · exact h.co d (List.mem_append.2 (.inr (List.mem_cons_of_mem _ h1)))
 · have key:∀ d∈l1++{ c with heard:=zal now }::l2,∃ d'∈l1++c::l2,d'.n=d.n/\d'.s=d.s:=fun d hd=>by
    rcases List.mem_append.1 hd with h1 | h1
    · exact ⟨d,List.mem_append.2 (.inl h1),rfl,rfl⟩
    · rcases List.mem_cons.1 h1 with rfl | h1
      · exact ⟨c,by simp,rfl,rfl⟩
      · exact ⟨d,List.mem_append.2 (.inr (List.mem_cons_of_mem _ h1)),rfl,rfl⟩
   intro a ha d hd e e' he he' hee
   obtain ⟨a',ha',ha1,ha2⟩:=key a ha
   obtain ⟨d',hd',hd1,hd2⟩:=key d hd
   rw [<-ha1,<-hd1]
   exact h.sd a' ha' d' hd' e e' (ha2.trans he) (hd2.trans he') hee
attribute [local irreducible] SN.own ownT ownC ownS zae za8 zaR zbD
attribute [local irreducible] DW SeqD DV DOp DC DVX DVJ idsF usI sortS putM zay onlyM
theorem zcY {p:Prop} (h:p:=by first | exact sv | exact ⟨h1,⟨h2,rfl⟩,h4⟩ | fail):p:=h
attribute [local push_cast 2000] zaK zbd zaI zaV zaA zaD zbe zaF za6 za7 zba zaH zaG zbb zaC za1 zaJ zaz zbc zaE za0 zaZ zaB zax za2 zbn zb1 zbl zaY zaM zaL Option.getD_some Option.getD_none Option.isSome_some Option.isSome_none
section
theorem zmg (bb:Nat) (m:Int) (cm sm t:Nat) (ts:TS) (l1 l2:List Cn) (ss:List SN) (n now:Int) (cb st:Nat) (left:YS) (bad hd kp:Int) (cl:Bool) (will:List Mg) (lv wv:V) (p:Pk) (T1 T2 T3 T4:List V) (F:Own):((BOK (⟨cm,sm,t,ts,l1++(⟨n,cb,st,left,bad,zal now,none,kp,cl,will,lv,wv⟩:Cn)::l2,ss⟩:BN)/\(⟨n,cb,st,left,bad,zal now,none,kp,cl,will,lv,wv⟩:Cn)∈(⟨cm,sm,t,ts,l1++(⟨n,cb,st,left,bad,zal now,none,kp,cl,will,lv,wv⟩:Cn)::l2,ss⟩:BN).cs/\BSz (⟨cm,sm,t,ts,l1++(⟨n,cb,st,left,bad,zal now,none,kp,cl,will,lv,wv⟩:Cn)::l2,ss⟩:BN).pl)/\lookA n (kvC l1++(n,cb)::kvC l2)=some cb/\p.kind≠1)->DC Tryz.prog 14 [.raw (.pointer (some ⟨bb,0,none⟩)), .int .i64 n, .agg [.int .i64 p.kind, .bool p.dup, .bool p.retain, .int .i64 p.qos, .int .i64 p.id, .str p.topic, .sl (p.payload.map u8), .int .i64 p.level, .str p.client, .bool p.clean, .int .i64 p.keep, .bool p.hasWill, .str p.wtopic, .sl (p.wpay.map u8), .int .i64 p.wqos, .bool p.wretain, .bool p.hasUser, .bool p.hasPass, .str p.user, .sl (p.pass.map u8), .bool p.present, .int .i64 p.code, .sl (p.subs.map encU), .sl (p.codes.map (V.int .i64))], .int .i64 now, .agg [.sl T1, .sl T2, .sl T3, .sl T4]] (loose::knF::knA::knM m :: .blk bb [.raw (.map (some cm)), .raw (.map (some sm)), .raw (.pointer (some ⟨t,0,none⟩))] :: .map cm (entM (V.int .i64) pv (kvC l1++(n,cb)::kvC l2)) :: .blk cb [.raw (.pointer (some ⟨st,0,none⟩)), .int .i64 hd, .raw (.pointer none), .int .i64 kp, .bool cl,wv] :: .map sm (entM V.str pv (kvS ss)) :: .blk st [lv, .int .i64 bad]::(ownC l1++(ownC l2++(ownS ss++(ownT t ts++[]))))++F) fun d G=>∃ s':BN,(BOK s'/\s'.pl=(zae n (⟨cm,sm,t,ts,l1++(⟨n,cb,st,left,bad,zal now,none,kp,cl,will,lv,wv⟩:Cn)::l2,ss⟩:BN).pl).2)/\d = .tup [zb8 (zae n (⟨cm,sm,t,ts,l1++(⟨n,cb,st,left,bad,zal now,none,kp,cl,will,lv,wv⟩:Cn)::l2,ss⟩:BN).pl).1, .int .i64 0]/\G=loose::knF::knA::knM m::(ownB bb s'++F):=by
 intro hA
 obtain ⟨⟨h1,h2,h4⟩,hlk,hC⟩:=hA
 refine DC.bodyS (n_:=114) (show Tryz.prog.funcs[14]? = some Tryz.f14 by kernel_rfl) rfl rfl (by rfl) ?_
 simp only [env0,List.append_assoc,List.cons_append,List.nil_append]
 have kw:=ksIs [0,1,2,3,4,7,9,10,11,12,14,22,37,42,43,50,56,71,85,93,99,106]
 have ow:=zai []
 have dw5:=drIs 5 [] [3,6]
 have dw13:=drIs 13 [] [3,4,5]
 have dw18:=drIs 18 [10] [4,5,7,8]
 have rw_:=rsIs [.cell 10 38, .tmp 11]
 repeat' (first
  | ((fail_if_success (have zz:=hto));(with_reducible refine DW.toR 6 (G:=.blk rb [.gs (.slice none 0 0) [], .gs (.slice none 0 0) [], .gs (.slice none 0 0) [], .gs (.slice none 0 0) []]::loose::knF::knA::knM m::(ownB bb (⟨cm,sm,t,ts,l1++(⟨n,cb,st,left,bad,zal now,none,kp,cl,will,lv,wv⟩:Cn)::l2,ss⟩:BN)++F)) ?_ ?_);(focus ((simp only [ownB,BN.maps,zad,zas,Cn.own,Cn.cells,Cn.sv,Option.map_none,Option.map_some,List.append_assoc,List.cons_append,List.nil_append,List.append_nil]);exact sub_));(have hto:True:=trivial))
  | ((refine DOp.load_ rfl rfl ?_);(repeat (with_reducible first | refine OnB.here ?_ | refine OnB.next ?_ | (refine OnB.inH (by assumption) ?_;with_reducible intro C) | refine OnB.skip ?_));refine zcd ?_)
  | ((refine DOp.look_ rfl rfl ?_);(repeat (with_reducible first | refine OnM.here ?_ | refine OnM.next ?_ | (refine OnM.inN (by assumption) ?_;with_reducible intro C hC) | (refine OnM.inK (by assumption) ?_;with_reducible intro C hC) | refine OnM.skip ?_));refine zcd ?_)
  | refine g_ ?_
  | ((with_reducible refine And.intro ?_ ?_);(exact zcY))
  | (refine DW.cond (by rfl) ?_ ?_<;>(first | exact i0_ | (intro hb;(try simp only [↓reduceCtorEq,not_true_eq_false,not_false_eq_true,hbs,Int.reduceBEq,Int.reduceBNe,Int.reduceEq] at hb);(try refine zcd ?_))))
  | ((with_reducible first | refine zaa ?_ ?_ | refine zak ?_ ?_)<;>(intro hb;rw [hb];revert hb;(first | exact i0_ | (intro hb;(try simp only [↓reduceCtorEq,not_true_eq_false,not_false_eq_true,hbs,Int.reduceBEq,Int.reduceBNe,Int.reduceEq] at hb);(try refine zcd ?_)))))
  | ((first | refine rn_ ?_ | refine dn_ ?_ | refine kn_ ?_)<;>(refine zcd ?_))
  | ((refine dm_ ?_);(first | (refine v_ (zbB _ _) ?_ (ha:=by exact zcY) (hk:=fun q=>q.1);refine zcd ?_) | (refine DVop.look_ rfl rfl rfl rfl ?_;(repeat (with_reducible first | refine OnM.here ?_ | refine OnM.next ?_));refine zcd ?_)))
  | ((refine von_ ?_);refine zcd ?_)
  | ((first | (refine DOp.look_ rfl rfl ?_;(repeat (with_reducible first | refine OnM.here ?_ | refine OnM.next ?_))))<;>(refine zcd ?_))
  | (refine q_ (zbB _ _) ?_ (ha:=by exact zcY) (hk:=fun q=>q.1);refine zcd ?_)
  | (refine p_ (zcc (s:=(⟨cm,sm,t,ts,l1++(⟨n,cb,st,left,bad,zal now,none,kp,cl,will,lv,wv⟩:Cn)::l2,ss⟩:BN)) (c:=(⟨n,cb,st,left,bad,zal now,none,kp,cl,will,lv,wv⟩:Cn)) _ _ _ _) ?_ (ha:=by exact zcY);rintro d H1 ⟨s2,⟨hs2,hp2⟩,rfl,rfl⟩<;>refine zcd ?_)
  | ((refine on_ ?_);refine zcd ?_)
  | refine f_ ?_
  | refine vm_ ?_
  | ((fail_if_success (have zz:=rb));with_reducible intro rb)
  | with_reducible intro b)
 all_goals first
 | (((refine ⟨_,_,le.rfl_,⟨s2,⟨hs2,hp2⟩,rfl,rfl⟩,?_⟩);(exact sub_);done))
 | (trace_state;fail)
end
theorem zcO {p:Prop} (h:p:=by first | exact sv | exact ⟨h1,⟨h2,rfl⟩,h4⟩ | fail):p:=h
section
theorem zmt (bb:Nat) (m:Int) (cm sm t:Nat) (ts:TS) (l1 l2:List Cn) (ss:List SN) (n now:Int) (cb st:Nat) (left:YS) (bad hd kp:Int) (cl:Bool) (will:List Mg) (lv wv:V) (xn:YS) (xb:Nat) (p:Pk) (T1 T2 T3 T4:List V) (F:Own):((BOK (⟨cm,sm,t,ts,l1++(⟨n,cb,st,left,bad,zal now,some (xn,xb),kp,cl,will,lv,wv⟩:Cn)::l2,ss⟩:BN)/\(⟨n,cb,st,left,bad,zal now,some (xn,xb),kp,cl,will,lv,wv⟩:Cn)∈(⟨cm,sm,t,ts,l1++(⟨n,cb,st,left,bad,zal now,some (xn,xb),kp,cl,will,lv,wv⟩:Cn)::l2,ss⟩:BN).cs/\BSz (⟨cm,sm,t,ts,l1++(⟨n,cb,st,left,bad,zal now,some (xn,xb),kp,cl,will,lv,wv⟩:Cn)::l2,ss⟩:BN).pl)/\lookA n (kvC l1++(n,cb)::kvC l2)=some cb/\p.kind=1)->DC Tryz.prog 14 [.raw (.pointer (some ⟨bb,0,none⟩)), .int .i64 n, .agg [.int .i64 p.kind, .bool p.dup, .bool p.retain, .int .i64 p.qos, .int .i64 p.id, .str p.topic, .sl (p.payload.map u8), .int .i64 p.level, .str p.client, .bool p.clean, .int .i64 p.keep, .bool p.hasWill, .str p.wtopic, .sl (p.wpay.map u8), .int .i64 p.wqos, .bool p.wretain, .bool p.hasUser, .bool p.hasPass, .str p.user, .sl (p.pass.map u8), .bool p.present, .int .i64 p.code, .sl (p.subs.map encU), .sl (p.codes.map (V.int .i64))], .int .i64 now, .agg [.sl T1, .sl T2, .sl T3, .sl T4]] (loose::knF::knA::knM m :: .blk bb [.raw (.map (some cm)), .raw (.map (some sm)), .raw (.pointer (some ⟨t,0,none⟩))] :: .map cm (entM (V.int .i64) pv (kvC l1++(n,cb)::kvC l2)) :: .blk cb [.raw (.pointer (some ⟨st,0,none⟩)), .int .i64 hd, .raw (.pointer (some ⟨xb,0,none⟩)), .int .i64 kp, .bool cl,wv] :: .map sm (entM V.str pv (kvS ss)) :: .blk st [lv, .int .i64 bad]::(ownC l1++(ownC l2++(ownS ss++(ownT t ts++[]))))++F) fun d G=>∃ s':BN,(BOK s'/\s'.pl=(zae n (⟨cm,sm,t,ts,l1++(⟨n,cb,st,left,bad,zal now,some (xn,xb),kp,cl,will,lv,wv⟩:Cn)::l2,ss⟩:BN).pl).2)/\d = .tup [zb8 (zae n (⟨cm,sm,t,ts,l1++(⟨n,cb,st,left,bad,zal now,some (xn,xb),kp,cl,will,lv,wv⟩:Cn)::l2,ss⟩:BN).pl).1, .int .i64 0]/\G=loose::knF::knA::knM m::(ownB bb s'++F):=by
 intro hA
 obtain ⟨⟨h1,h2,h4⟩,hlk,hC⟩:=hA
 refine DC.bodyS (n_:=114) (show Tryz.prog.funcs[14]? = some Tryz.f14 by kernel_rfl) rfl rfl (by rfl) ?_
 simp only [env0,List.append_assoc,List.cons_append,List.nil_append]
 have kw:=ksIs [0,1,2,3,4,7,9,10,11,12,14,22,37,42,43,50,56,71,85,93,99,106]
 have ow:=zai []
 have dw5:=drIs 5 [] [3,6]
 have dw13:=drIs 13 [] [3,4,5]
 have dw18:=drIs 18 [10] [4,5,7,8]
 have rw_:=rsIs [.cell 10 38, .tmp 11]
 repeat' (first
  | ((fail_if_success (have zz:=hto));(with_reducible refine DW.toR 6 (G:=.blk rb [.gs (.slice none 0 0) [], .gs (.slice none 0 0) [], .gs (.slice none 0 0) [], .gs (.slice none 0 0) []]::loose::knF::knA::knM m::(ownB bb (⟨cm,sm,t,ts,l1++(⟨n,cb,st,left,bad,zal now,some (xn,xb),kp,cl,will,lv,wv⟩:Cn)::l2,ss⟩:BN)++F)) ?_ ?_);(focus ((simp only [ownB,BN.maps,zad,zas,Cn.own,Cn.cells,Cn.sv,Option.map_none,Option.map_some,List.append_assoc,List.cons_append,List.nil_append,List.append_nil]);exact sub_));(have hto:True:=trivial))
  | ((refine DOp.load_ rfl rfl ?_);(repeat (with_reducible first | refine OnB.here ?_ | refine OnB.next ?_ | (refine OnB.inH (by assumption) ?_;with_reducible intro C) | refine OnB.skip ?_));refine zcd ?_)
  | ((refine DOp.look_ rfl rfl ?_);(repeat (with_reducible first | refine OnM.here ?_ | refine OnM.next ?_ | (refine OnM.inN (by assumption) ?_;with_reducible intro C hC) | (refine OnM.inK (by assumption) ?_;with_reducible intro C hC) | refine OnM.skip ?_));refine zcd ?_)
  | refine g_ ?_
  | ((with_reducible refine And.intro ?_ ?_);(exact zcO))
  | (refine DW.cond (by rfl) ?_ ?_<;>(first | exact i0_ | (intro hb;(try simp only [↓reduceCtorEq,not_true_eq_false,not_false_eq_true,hbs,Int.reduceBEq,Int.reduceBNe,Int.reduceEq] at hb);(try refine zcd ?_))))
  | ((with_reducible first | refine zaa ?_ ?_ | refine zak ?_ ?_)<;>(intro hb;rw [hb];revert hb;(first | exact i0_ | (intro hb;(try simp only [↓reduceCtorEq,not_true_eq_false,not_false_eq_true,hbs,Int.reduceBEq,Int.reduceBNe,Int.reduceEq] at hb);(try refine zcd ?_)))))
  | ((first | refine rn_ ?_ | refine dn_ ?_ | refine kn_ ?_)<;>(refine zcd ?_))
  | ((refine dm_ ?_);(first | (refine v_ (zbB _ _) ?_ (ha:=by exact zcO) (hk:=fun q=>q.1);refine zcd ?_) | (refine DVop.look_ rfl rfl rfl rfl ?_;(repeat (with_reducible first | refine OnM.here ?_ | refine OnM.next ?_));refine zcd ?_)))
  | ((refine von_ ?_);refine zcd ?_)
  | ((first | (refine DOp.look_ rfl rfl ?_;(repeat (with_reducible first | refine OnM.here ?_ | refine OnM.next ?_))))<;>(refine zcd ?_))
  | (refine q_ (zbB _ _) ?_ (ha:=by exact zcO) (hk:=fun q=>q.1);refine zcd ?_)
  | (refine p_ (zcc (s:=(⟨cm,sm,t,ts,l1++(⟨n,cb,st,left,bad,zal now,some (xn,xb),kp,cl,will,lv,wv⟩:Cn)::l2,ss⟩:BN)) (c:=(⟨n,cb,st,left,bad,zal now,some (xn,xb),kp,cl,will,lv,wv⟩:Cn)) _ _ _ _) ?_ (ha:=by exact zcO);rintro d H1 ⟨s2,⟨hs2,hp2⟩,rfl,rfl⟩<;>refine zcd ?_)
  | ((refine on_ ?_);refine zcd ?_)
  | refine f_ ?_
  | refine vm_ ?_
  | ((fail_if_success (have zz:=rb));with_reducible intro rb)
  | with_reducible intro b)
 all_goals first
 | (((refine ⟨_,_,le.rfl_,⟨s2,⟨hs2,hp2⟩,rfl,rfl⟩,?_⟩);(exact sub_);done))
 | (trace_state;fail)
end
end
end Go.Proofs.YtgekknefphagbaaGreatDoor
