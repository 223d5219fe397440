/- The broker: looks through the whole state; what a tick does, plain. -/
import Derived.Test.YtgekknefphagbaaGreatDoorOpx
import Derived.Test.YtgekknefphagbaaGreatDoorWjx
import Derived.KernelRfl
import Derived.Test.YtgekknefphagbaaGreatDoorMpx
import Derived.Test.YtgekknefphagbaaGreatDoorBdx
namespace Go.Proofs.YtgekknefphagbaaGreatDoor
open Go.RowKit
set_option linter.unusedSimpArgs false
set_option linter.unusedVariables false
set_option linter.unusedSectionVars false
set_option maxHeartbeats 4000000
set_option maxRecDepth 100000
section
theorem OnB.inBB {bb:Nat} {s:BN} {H:Own} {G:List V->(Ent->Own)->Prop} (k:∀ C,G [.raw (.map (some s.cm)), .raw (.map (some s.sm)), .raw (.pointer (some ⟨s.t,0,none⟩))] C):OnB (ownB bb s++H) bb G :=
 ⟨_,[],_,(by unfold ownB BN.maps;rfl),k _⟩
theorem OnB.inBC {bb:Nat} {s:BN} {H:Own} {b:Nat} {c:Cn} {G:List V->(Ent->Own)->Prop} (hc:c∈s.cs/\c.b=b) (k:∀ C,G c.cells C):OnB (ownB bb s++H) b G:=by
 obtain ⟨h,rfl⟩:=hc
 obtain ⟨l1,l2,e⟩:=List.append_of_mem h
 refine ⟨_,s.maps bb++ownC l1, .blk c.st [c.lv, .int .i64 c.bad]::(ownC l2++(ownS s.ss++(ownT s.t s.ts++H))),?_,k _⟩
 unfold ownB
 rw [e,zad];simp [Cn.own]
theorem OnM.inBC {bb:Nat} {s:BN} {H:Own} {G:List (V×V)->(Ent->Own)->Prop} (k:∀ C,G (entM (V.int .i64) pv (kvC s.cs)) C):OnM (ownB bb s++H) s.cm G :=
 ⟨_,[.blk bb [.raw (.map (some s.cm)), .raw (.map (some s.sm)), .raw (.pointer (some ⟨s.t,0,none⟩))]],_,(by unfold ownB BN.maps;rfl),k _⟩
def zgK (now:Int) (c:CP):Bool:=decide (0<c.keep)&&decide (3 * c.keep<2 * (now - c.heard))
noncomputable def zeD (now:Int) (x:Ef×Br) (n:Int):Ef×Br :=
 match x.2.conn n with
 | some c=>if zgK now c=true then (andM x.1 (zae n x.2).1,(zae n x.2).2) else x
 | none=>x
def znj (now:Int) (nm:YS) (b:Br):Br:={ b with sess:=b.sess.map fun a=>if a.name=nm then zcJ now 8 a else a }
noncomputable def zgg (now:Int) (x:Ef×Br) (n:Int):Ef×Br :=
 match (x.2.conn n).bind (·.s) with
 | some nm=>(⟨x.1.outs++outM n (zb6 now 8 (sesD nm x.2).fly),x.1.pubs,x.1.adds,x.1.drops⟩,znj now nm x.2)
 | none=>x
noncomputable def zfF (now:Int) (l:List Int) (b:Br):Ef×Br:=l.foldl (zeD now) (nilE,b)
noncomputable def zgJ (now:Int) (l:List Int) (x:Ef×Br):Ef×Br:=l.foldl (zgg now) x
noncomputable def zem (now:Int) (b:Br):Ef×Br:=zgJ (zal now) (sortedI ((zfF (zal now) (sortedI (b.conns.map (·.n))) b).2.conns.map (·.n))) (zfF (zal now) (sortedI (b.conns.map (·.n))) b)
theorem zjN {α:Type} [Inhabited α] {l:List α} {k:Nat} (hk:k<l.length):l.take (k+1)=l.take k++[l.getD k default]:=by
 rw [List.take_add_one,List.getElem?_eq_getElem hk,List.getD_eq_getElem?_getD,List.getElem?_eq_getElem hk];rfl
theorem zmU {now:Int} {l:List Int} {b:Br} {k:Nat} (hk:k<l.length):zfF now (l.take (k+1)) b=zeD now (zfF now (l.take k) b) (l.getD k default):=by
 unfold zfF;rw [zjN hk,List.foldl_append];rfl
theorem zmY {now:Int} {l:List Int} {x:Ef×Br} {k:Nat} (hk:k<l.length):zgJ now (l.take (k+1)) x=zgg now (zgJ now (l.take k) x) (l.getD k default):=by
 unfold zgJ;rw [zjN hk,List.foldl_append];rfl
theorem tick1_0 (now:Int) (l:List Int) (b:Br):zfF now (l.take 0) b=(nilE,b):=by unfold zfF;rw [List.take_zero];rfl
theorem tick2_0 (now:Int) (l:List Int) (x:Ef×Br):zgJ now (l.take 0) x=x:=by unfold zgJ;rw [List.take_zero];rfl
end
section
theorem DC.frzI {P:Program} {f:FuncId} {args args':List V} {H:Own} {K:V->Own->Prop} {sz:Nat} {v:Value} {l:List V} (hz:0<sz) (hl:∀ y∈l,y.n=sz) (hc:CvL v l args args') (h:DC P f args' H K):DC P f args (.arr sz v (cells l)::H) K :=
 ⟨h.1,fun xs w hs hn hr=>by
   obtain ⟨⟨g1,g2⟩,g3⟩:=Sim.frz (L1:=[]) hs hz hl
   have k1:Ext w (.tail sz v::H) w H:=Ext.drop fun x hx=>List.mem_cons_of_mem _ hx
   exact (h.2 xs w (g1.drop (List.sublist_cons_self _ _)) (hn.trans hc.len) fun k hk=>(R.cv g3 (hc.at k) (g2.rel (hr k (by rw [hc.len];exact hk)))).mono k1.cells).mono fun x w' ⟨u,d,H',he,s,ex,r,k⟩=>⟨u,d,H',he,s,(g2.trans k1).trans ex,r,k⟩⟩
theorem le.slc {a a' t:List V} (h:Les a a'):le (.sl (.agg a::t)) (.sl (.agg a'::t)):=fun S w u r=>by
 have key:=h.at_
 generalize hL:(V.agg a::t)=L at r
 cases r with
 | sl A n cap _ sz hn hc ha h1 h2 h3 h4 =>
 subst hL
 have hget:∀ i,0<i->(V.agg a::t).getD i .any=(V.agg a'::t).getD i .any:=fun i hi=>by
  obtain ⟨j,rfl⟩:∃ j,i=j+1:=⟨i - 1,by omega⟩
  rfl
 have hsz:a.length=sz:=h2 0 (by simp)
 refine .sl A n cap (.agg a'::t) sz hn hc (fun h=>nomatch ha h) (fun q hq _=>h1 q hq (by simp)) (fun i hi=>?_) (fun q i k hq hi hk=>h3 q i k hq (by simpa using hi) hk) (fun q i k hq hi hk=>?_)
 · rcases Nat.eq_zero_or_pos i with rfl | hp
   · show a'.length=sz
     rw [<-key.1,hsz]
   · rw [<-hget i hp];exact h2 i (by simpa using hi)
 · have:=h4 q i k hq (by simpa using hi) hk
   rcases Nat.eq_zero_or_pos i with rfl | hp
   · exact key.2 k (by rw [<-key.1,hsz];exact hk) S w _ this
   · rw [<-hget i hp];exact this
theorem pkE_n (l:List Pk):∀ y∈l.map zci,y.n=24:=fun y hy=>by obtain ⟨x,_,rfl⟩:=List.mem_map.1 hy;rfl
theorem zgD {b:Br} (h:BSz b) (nm:YS):(zah nm b).1.length<=1000000:=by
 unfold zah
 cases hs:b.ses nm with
 | none=>exact Nat.zero_le _
 | some a=>exact Nat.le_trans (zc1 ..) (by rw [zc6];exact (h.sub a (List.mem_of_find?_eq_some hs)).1)
attribute [local irreducible] SN.own ownT ownC ownS zag zcN za4 zar zaR ownB
attribute [local irreducible] DW SeqD DV DOp DC DVX DVJ idsF usI sortS putM zay onlyM
theorem zdJ (kind id:Int) (pr:Bool) (code:Int) (l:List Pk) (n:Int) (v:Value) (N:Nat) (C:List V) (F:Own):(N=l.length+1/\C=[.int .i64 kind, .bool false, .bool false, .int .i64 0, .int .i64 id, .str [], .gs (.slice none 0 0) [], .int .i64 0, .str [], .bool false, .int .i64 0, .bool false, .str [], .gs (.slice none 0 0) [], .int .i64 0, .bool false, .bool false, .bool false, .str [], .gs (.slice none 0 0) [], .bool pr, .int .i64 code, .gs (.slice none 0 0) [], .gs (.slice none 0 0) []]++cells (l.map zci))/\l.length<=1000000/\(∀ p∈(zan kind id pr code)::l,SendK p)->DC Tryz.prog 42 [.int .i64 n, .ar v N] ([.arr 24 v C,knF,knA]++F) fun d G=>d = .sl ((outM n ((zan kind id pr code)::l)).map encOu)/\G=[knF,knA]++F:=by
 rintro ⟨⟨rfl,rfl⟩,hl,hs⟩
 have e1:[.int .i64 kind, .bool false, .bool false, .int .i64 0, .int .i64 id, .str [], .gs (.slice none 0 0) [], .int .i64 0, .str [], .bool false, .int .i64 0, .bool false, .str [], .gs (.slice none 0 0) [], .int .i64 0, .bool false, .bool false, .bool false, .str [], .gs (.slice none 0 0) [], .bool pr, .int .i64 code, .gs (.slice none 0 0) [], .gs (.slice none 0 0) []]++cells (l.map zci)=cells (.agg [.int .i64 kind, .bool false, .bool false, .int .i64 0, .int .i64 id, .str [], .gs (.slice none 0 0) [], .int .i64 0, .str [], .bool false, .int .i64 0, .bool false, .str [], .gs (.slice none 0 0) [], .int .i64 0, .bool false, .bool false, .bool false, .str [], .gs (.slice none 0 0) [], .bool pr, .int .i64 code, .gs (.slice none 0 0) [], .gs (.slice none 0 0) []]::l.map zci):=by rw [zaU];rfl
 have e2:l.length+1=(V.agg [.int .i64 kind, .bool false, .bool false, .int .i64 0, .int .i64 id, .str [], .gs (.slice none 0 0) [], .int .i64 0, .str [], .bool false, .int .i64 0, .bool false, .str [], .gs (.slice none 0 0) [], .int .i64 0, .bool false, .bool false, .bool false, .str [], .gs (.slice none 0 0) [], .bool pr, .int .i64 code, .gs (.slice none 0 0) [], .gs (.slice none 0 0) []]::l.map zci).length:=by rw [List.length_cons,List.length_map]
 rw [e1,e2]
 refine DC.frzI (l:=.agg [.int .i64 kind, .bool false, .bool false, .int .i64 0, .int .i64 id, .str [], .gs (.slice none 0 0) [], .int .i64 0, .str [], .bool false, .int .i64 0, .bool false, .str [], .gs (.slice none 0 0) [], .int .i64 0, .bool false, .bool false, .bool false, .str [], .gs (.slice none 0 0) [], .bool pr, .int .i64 code, .gs (.slice none 0 0) [], .gs (.slice none 0 0) []]::l.map zci) (by decide) (fun y hy=>?_) (.cons (.rfl _) (.cons (.hit _) .nil)) ?_
 · rcases List.mem_cons.1 hy with rfl | hy
   · rfl
   · exact pkE_n l y hy
 · exact DC.args (Les.cons le.rfl_ (Les.cons (le.gs rfl) Les.nil)) (DC.args (Les.cons le.rfl_ (Les.cons (le.slc (Les.cons le.rfl_ (Les.cons le.rfl_ (Les.cons le.rfl_ (Les.cons le.rfl_ (Les.cons le.rfl_ (Les.cons le.rfl_ (Les.cons (le.gs rfl) (Les.cons le.rfl_ (Les.cons le.rfl_ (Les.cons le.rfl_ (Les.cons le.rfl_ (Les.cons le.rfl_ (Les.cons le.rfl_ (Les.cons (le.gs rfl) (Les.cons le.rfl_ (Les.cons le.rfl_ (Les.cons le.rfl_ (Les.cons le.rfl_ (Les.cons le.rfl_ (Les.cons (le.gs rfl) (Les.cons le.rfl_ (Les.cons le.rfl_ (Les.cons (le.gs rfl) (Les.cons (le.gs rfl) (Les.nil)))))))))))))))))))))))))) Les.nil)) (zku n ((zan kind id pr code)::l) F ⟨by simp;omega,zob hs⟩))
theorem zhD (bb:Nat) (s:BN) (nm:YS) (F:Own):BOK s/\ofM nm s.pl = -1->DC Tryz.prog 69 [.raw (.pointer (some ⟨bb,0,none⟩)), .str nm] ((ownB bb s++[])++F) fun d G=>d = .int .i64 (-1)/\G=(ownB bb s++[])++F:=fun h=>by
 have:=zqJ bb s nm F h.1
 rwa [h.2] at this
theorem zhC (bb:Nat) (s:BN) (nm:YS) (z:Int) (F:Own):BOK s/\ofM nm s.pl=z->DC Tryz.prog 69 [.raw (.pointer (some ⟨bb,0,none⟩)), .str nm] ((ownB bb s++[])++F) fun d G=>d = .int .i64 z/\G=(ownB bb s++[])++F:=fun h=>by
 have:=zqJ bb s nm F h.1
 rwa [h.2] at this
abbrev knP (T:TypeId) (fr:Nat×Nat):Ent:=.row 0 (zeO T fr)
theorem zdV (T:TypeId) (fr:Nat×Nat) (n:Int) (F:Own):(0<=n/\n<16)->DC Tryz.prog 83 [.int .i64 n] ([knP T fr]++F) fun d G=>d = .str (Go.Lib.itoa n)/\G=[knP T fr]++F:=fun h =>
 DC.itoa layIt (by kernel_rfl) (by kernel_rfl) T fr n F ⟨by omega,by omega⟩
end
section
structure RowsE (e:Ef) (n1 n2 n3 n4:Nat) (c1 c2 c3 c4:List V):Prop where
 n1:n1=e.outs.length
 n2:n2=e.pubs.length
 n3:n3=e.adds.length
 n4:n4=e.drops.length
 c1:c1=cells (e.outs.map encOu)
 c2:c2=cells (e.pubs.map encM)
 c3:c3=cells (e.adds.map V.str)
 c4:c4=e.drops.map V.str
theorem RowsE.nil:RowsE nilE 0 0 0 0 [] [] [] []:=⟨rfl,rfl,rfl,rfl,rfl,rfl,rfl,rfl⟩
theorem RowsE.and {e x:Ef} {n1 n2 n3 n4:Nat} {c1 c2 c3 c4:List V} (h:RowsE e n1 n2 n3 n4 c1 c2 c3 c4):RowsE (andM e x) (n1+x.outs.length) (n2+x.pubs.length) (n3+x.adds.length) (zaR (e.drops++x.drops)).length (c1++cells (x.outs.map encOu)) (c2++cells (x.pubs.map encM)) (c3++cells (x.adds.map V.str)) ((zaR (e.drops++x.drops)).map V.str):=by
 obtain ⟨rfl,rfl,rfl,rfl,rfl,rfl,rfl,rfl⟩:=h
 unfold andM
 exact ⟨by simp,by simp,by simp,rfl,by simp [zbr],by simp [zbr],by simp [zbr],rfl⟩
theorem zfM {ss:List SN} (hn:(ss.map (·.a.name)).Nodup) {nm:YS} {b:Nat} (h:lookA nm (kvS ss)=some b):∃ m1 y m2,ss=m1++y::m2/\y.a.name=nm/\y.b=b/\(∀ d∈m1,d.a.name≠y.a.name)/\∀ d∈m2,d.a.name≠y.a.name:=by
 rw [zgm] at h
 obtain ⟨y,hy,rfl⟩:=Option.map_eq_some_iff.1 h
 have h1:=List.mem_of_find?_eq_some hy
 have h2:=List.find?_some hy
 obtain ⟨m1,m2,hs,k1,k2⟩:=zbS hn h1
 exact ⟨m1,y,m2,hs,by simpa using h2,rfl,k1,k2⟩
theorem zc4 {p:Pk} (h:p.hasWill=true) (c:CP) (nm:YS):zdm nm p c={ c with s:=some nm,keep:=p.keep,clean:=p.clean,will:=[⟨p.wtopic,p.wpay,p.wqos,p.wretain⟩] }:=by unfold zdm;rw [if_pos h]
theorem zc3 {p:Pk} (h:p.hasWill=false) (c:CP) (nm:YS):zdm nm p c={ c with s:=some nm,keep:=p.keep,clean:=p.clean }:=by unfold zdm;rw [if_neg (by rw [h];decide)]
theorem zcz (nm:YS):(newA nm).name=nm:=rfl
theorem zcW (x:SN):ownS [x]=x.own:=by show x.own++[]=_;rw [List.append_nil]
theorem RowsE.cast {e:Ef} {n1 n2 n3 n4 m1 m2 m3 m4:Nat} {c1 c2 c3 c4 d1 d2 d3 d4:List V} (h:RowsE e n1 n2 n3 n4 c1 c2 c3 c4) (e1:n1=m1) (e2:n2=m2) (e3:n3=m3) (e4:n4=m4) (f1:c1=d1) (f2:c2=d2) (f3:c3=d3) (f4:c4=d4):RowsE e m1 m2 m3 m4 d1 d2 d3 d4:=by
 subst e1;subst e2;subst e3;subst e4;subst f1;subst f2;subst f3;subst f4;exact h
theorem zbX {bb:Nat} {m:Int} {T5:TypeId} {fr5:Nat×Nat} {F H:Own} {w1 w2 w3 w4:Value} {n1 n2 n3 n4:Nat} {c1 c2 c3 c4:List V} {E:Ef} {P2:Br} (s':BN) (hs:SubP (.arr 4 w1 c1 :: .arr 4 w2 c2 :: .arr 1 w3 c3 :: .arr 1 w4 c4::knP T5 fr5::loose::knF::knA::knM m::(ownB bb s'++F)) H) (hr:RowsE E n1 n2 n3 n4 c1 c2 c3 c4) (hb:BOK s') (hp:s'.pl=P2) :
  ∃ d' G,le (.agg [.ar w1 n1, .ar w2 n2, .ar w3 n3, .ar w4 n4]) d'/\(∃ (w1 w2 w3 w4:Value) (s':BN) (n1 n2 n3 n4:Nat) (c1 c2 c3 c4:List V),((BOK s'/\s'.pl=P2)/\RowsE E n1 n2 n3 n4 c1 c2 c3 c4)/\d' = .agg [.ar w1 n1, .ar w2 n2, .ar w3 n3, .ar w4 n4]/\G = .arr 4 w1 c1 :: .arr 4 w2 c2 :: .arr 1 w3 c3 :: .arr 1 w4 c4::knP T5 fr5::loose::knF::knA::knM m::(ownB bb s'++F))/\SubP G H :=
 ⟨_,_,le.rfl_,⟨w1,w2,w3,w4,s',n1,n2,n3,n4,c1,c2,c3,c4,⟨⟨hb,hp⟩,hr⟩,rfl,rfl⟩,hs⟩
theorem CnOK.greet {ss ss':List SN} {n:Int} {cb st:Nat} {lf:YS} {bad hd kp kp':Int} {cl cl':Bool} {will:List Mg} {lv wv:V} {nm:YS} {x:SN} (ho:CnOK ss ⟨n,cb,st,lf,bad,hd,none,kp,cl,will,lv,wv⟩) (hk : -1000000000<=kp'/\kp'<=1000000000) (hx:x∈ss') (hn:x.a.name=nm):CnOK ss' ⟨n,cb,st,lf,bad,hd,some (nm,x.b),kp',cl',will,lv,wv⟩ :=
 ⟨ho.n,ho.heard,hk,ho.will,ho.wm,ho.lv,ho.wv,fun e he=>by cases he;exact ⟨x,hx,hn,rfl⟩⟩
theorem CnOK.greetW {ss ss':List SN} {n:Int} {cb st:Nat} {lf:YS} {bad hd kp kp':Int} {cl cl':Bool} {will:List Mg} {lv wv:V} {nm:YS} {x:SN} {w:Mg} (ho:CnOK ss ⟨n,cb,st,lf,bad,hd,none,kp,cl,will,lv,wv⟩) (hk : -1000000000<=kp'/\kp'<=1000000000) (hx:x∈ss') (hn:x.a.name=nm) (hw:MgN w):CnOK ss' ⟨n,cb,st,lf,bad,hd,some (nm,x.b),kp',cl',[w],lv, .sl ([w].map encM)⟩ :=
 ⟨ho.n,ho.heard,hk,Nat.le_refl 1,(fun m hm=>by rw [List.mem_singleton.1 hm];exact hw),ho.lv, .inr rfl,fun e he=>by cases he;exact ⟨x,hx,hn,rfl⟩⟩
theorem zdM {p:SN->Prop} {ss:List SN} {x:SN} (h:∀ y∈ss,p y) (hx:p x):∀ y∈ss++[x],p y:=fun y hy=>by
 rcases List.mem_append.1 hy with h1 | h1
 · exact h y h1
 · rw [List.mem_singleton.1 h1];exact hx
end
section
attribute [local irreducible] SN.own ownT ownC ownS zae za8 zah zaR zbD zb7 zap newA outM
attribute [local irreducible] DW SeqD DV DOp DC DVX DVJ idsF usI sortS putM zay onlyM
theorem zaX {p:Prop} (h:p:=by first | exact sv | (refine ⟨?_,?_,fun _ _=>⟨rfl,rfl⟩⟩<;>(have h8:=zac hyo now;omega)) | (refine ⟨?_,?_,fun _ _=>⟨rfl,rfl⟩⟩<;>(have h7:=zau hnl;rw [<-hx] at h7;have h8:=zac h7 now;omega)) | exact hN16 | exact ⟨hB,hof⟩ | exact ⟨hB,⟨hco,rfl⟩,hz⟩ | exact ⟨hB,hno,hz⟩ | (rw [hx];exact zau hnl) | exact hyo | exact ⟨⟨by omega,rfl⟩,by (have:=zac hyo now;omega),zcw hyo hyq now _⟩ | exact ⟨⟨by omega,rfl⟩,by (rw [hx];have:=zac (zau hnl) now;omega),by (rw [hx];exact zcw (zau hnl) (zd9 _) now _)⟩ | exact ⟨⟨rfl,rfl⟩,⟨by ((try simp only [List.length_map,List.length_append,List.length_nil,List.length_cons,Nat.zero_add,Nat.add_zero]);(first | omega | exact hS4 | (refine Nat.le_trans (za3 ..) ?_;(simp only [List.length_cons]);first | (have h8:=zac hyo now;omega) | (have h7:=zau hnl;rw [<-hx] at h7;have h8:=zac h7 now;omega)) | exact Nat.le_trans (zab _) (by (simp only [List.length_append,List.length_nil]);omega) | (have h6:=hFL s2 hp2;have h5:=zab (zae co.n s.pl).1.drops;have h7:=zab ([]++(zae co.n s.pl).1.drops);(simp only [List.nil_append] at h7);first | omega | (refine Nat.le_trans (zab _) ?_;(simp only [List.length_append,List.nil_append,List.length_nil]);omega)))),by ((try simp only [List.length_map,List.length_append,List.length_nil,List.length_cons,Nat.zero_add,Nat.add_zero]);(first | omega | exact hS4 | (refine Nat.le_trans (za3 ..) ?_;(simp only [List.length_cons]);first | (have h8:=zac hyo now;omega) | (have h7:=zau hnl;rw [<-hx] at h7;have h8:=zac h7 now;omega)) | exact Nat.le_trans (zab _) (by (simp only [List.length_append,List.length_nil]);omega) | (have h6:=hFL s2 hp2;have h5:=zab (zae co.n s.pl).1.drops;have h7:=zab ([]++(zae co.n s.pl).1.drops);(simp only [List.nil_append] at h7);first | omega | (refine Nat.le_trans (zab _) ?_;(simp only [List.length_append,List.nil_append,List.length_nil]);omega)))),by ((try simp only [List.length_map,List.length_append,List.length_nil,List.length_cons,Nat.zero_add,Nat.add_zero]);(first | omega | exact hS4 | (refine Nat.le_trans (za3 ..) ?_;(simp only [List.length_cons]);first | (have h8:=zac hyo now;omega) | (have h7:=zau hnl;rw [<-hx] at h7;have h8:=zac h7 now;omega)) | exact Nat.le_trans (zab _) (by (simp only [List.length_append,List.length_nil]);omega) | (have h6:=hFL s2 hp2;have h5:=zab (zae co.n s.pl).1.drops;have h7:=zab ([]++(zae co.n s.pl).1.drops);(simp only [List.nil_append] at h7);first | omega | (refine Nat.le_trans (zab _) ?_;(simp only [List.length_append,List.nil_append,List.length_nil]);omega)))),rfl,by ((try simp only [List.length_map,List.length_append,List.length_nil,List.length_cons,Nat.zero_add,Nat.add_zero]);(first | omega | exact hS4 | (refine Nat.le_trans (za3 ..) ?_;(simp only [List.length_cons]);first | (have h8:=zac hyo now;omega) | (have h7:=zau hnl;rw [<-hx] at h7;have h8:=zac h7 now;omega)) | exact Nat.le_trans (zab _) (by (simp only [List.length_append,List.length_nil]);omega) | (have h6:=hFL s2 hp2;have h5:=zab (zae co.n s.pl).1.drops;have h7:=zab ([]++(zae co.n s.pl).1.drops);(simp only [List.nil_append] at h7);first | omega | (refine Nat.le_trans (zab _) ?_;(simp only [List.length_append,List.nil_append,List.length_nil]);omega))))⟩,⟨by ((try simp only [List.length_map,List.length_append,List.length_nil,List.length_cons,Nat.zero_add,Nat.add_zero]);(first | omega | exact hS4 | (refine Nat.le_trans (za3 ..) ?_;(simp only [List.length_cons]);first | (have h8:=zac hyo now;omega) | (have h7:=zau hnl;rw [<-hx] at h7;have h8:=zac h7 now;omega)) | exact Nat.le_trans (zab _) (by (simp only [List.length_append,List.length_nil]);omega) | (have h6:=hFL s2 hp2;have h5:=zab (zae co.n s.pl).1.drops;have h7:=zab ([]++(zae co.n s.pl).1.drops);(simp only [List.nil_append] at h7);first | omega | (refine Nat.le_trans (zab _) ?_;(simp only [List.length_append,List.nil_append,List.length_nil]);omega)))),by ((try simp only [List.length_map,List.length_append,List.length_nil,List.length_cons,Nat.zero_add,Nat.add_zero]);(first | omega | exact hS4 | (refine Nat.le_trans (za3 ..) ?_;(simp only [List.length_cons]);first | (have h8:=zac hyo now;omega) | (have h7:=zau hnl;rw [<-hx] at h7;have h8:=zac h7 now;omega)) | exact Nat.le_trans (zab _) (by (simp only [List.length_append,List.length_nil]);omega) | (have h6:=hFL s2 hp2;have h5:=zab (zae co.n s.pl).1.drops;have h7:=zab ([]++(zae co.n s.pl).1.drops);(simp only [List.nil_append] at h7);first | omega | (refine Nat.le_trans (zab _) ?_;(simp only [List.length_append,List.nil_append,List.length_nil]);omega)))),by ((try simp only [List.length_map,List.length_append,List.length_nil,List.length_cons,Nat.zero_add,Nat.add_zero]);(first | omega | exact hS4 | (refine Nat.le_trans (za3 ..) ?_;(simp only [List.length_cons]);first | (have h8:=zac hyo now;omega) | (have h7:=zau hnl;rw [<-hx] at h7;have h8:=zac h7 now;omega)) | exact Nat.le_trans (zab _) (by (simp only [List.length_append,List.length_nil]);omega) | (have h6:=hFL s2 hp2;have h5:=zab (zae co.n s.pl).1.drops;have h7:=zab ([]++(zae co.n s.pl).1.drops);(simp only [List.nil_append] at h7);first | omega | (refine Nat.le_trans (zab _) ?_;(simp only [List.length_append,List.nil_append,List.length_nil]);omega)))),by ((try simp only [List.length_map,List.length_append,List.length_nil,List.length_cons,Nat.zero_add,Nat.add_zero]);(first | omega | exact hS4 | (refine Nat.le_trans (za3 ..) ?_;(simp only [List.length_cons]);first | (have h8:=zac hyo now;omega) | (have h7:=zau hnl;rw [<-hx] at h7;have h8:=zac h7 now;omega)) | exact Nat.le_trans (zab _) (by (simp only [List.length_append,List.length_nil]);omega) | (have h6:=hFL s2 hp2;have h5:=zab (zae co.n s.pl).1.drops;have h7:=zab ([]++(zae co.n s.pl).1.drops);(simp only [List.nil_append] at h7);first | omega | (refine Nat.le_trans (zab _) ?_;(simp only [List.length_append,List.nil_append,List.length_nil]);omega))))⟩,(by first | exact zfe _ | exact zfe []),(by first | exact zeC _ | exact zeC []),(by first | exact zer _ | exact zer [])⟩ | fail):p:=h
theorem zdv {P Q:Prop} (q:Q) (h:Hid Q->P:=by (intro q;simp (maxSteps:=1000000) (disch:=omega) only [push_cast,↓reduceIte,reduceCtorEq,Nat.reduceAdd,Nat.reduceMul,Nat.reduceLT,Nat.reduceLeDiff,Nat.reduceEqDiff,Nat.reduceSub,Int.reduceToNat,Int.reduceLT,Int.reduceLE,Int.reduceAdd,Int.reduceSub,Int.reduceMul,Int.reduceNeg,Nat.reduceBEq,Int.reduceBEq,Int.reduceBNe,Nat.reduceBNe,Int.reduceEq,hlk,hC,hlv,hcl,hw,hpc,hpn,hwn];exact q.1)):P:=h ⟨q⟩
section
attribute [local push_cast 2000] zaK zbd zaI zaV zaA zaD zbe zaF za6 za7 zba zaH zaG zbb zaC za1 zaJ zaz zbc zaE za0 zaZ zaB zax za2 zbn zb1 zbl zaY zaM zaL Option.getD_some Option.getD_none Option.isSome_some Option.isSome_none
theorem zpe (bb:Nat) (m:Int) (T5:TypeId) (fr5:Nat×Nat) (s:BN) (cp:CP) (n now:Int) (p:Pk) (nm:YS) (F:Own):((BOK s/\BSz s.pl/\s.pl.conn n=some cp/\cp.s=none)/\(0<=n/\n<16/\p.level=4/\p.clean=true/\nm=nameM n p/\nm.length<=100000)/\(p.wtopic.length<=100000/\p.wpay.length<=100000 /\ -1000000000<=p.keep/\p.keep<=1000000000)/\(p.client=[]->p.clean=true)/\(p.hasWill=true->zbD p.wtopic=true)/\ofM nm s.pl = -1/\NoOne nm s.pl)->DC Tryz.prog 39 [.raw (.pointer (some ⟨bb,0,none⟩)), .int .i64 n, .agg [.int .i64 p.kind, .bool p.dup, .bool p.retain, .int .i64 p.qos, .int .i64 p.id, .str p.topic, .sl (p.payload.map u8), .int .i64 p.level, .str p.client, .bool p.clean, .int .i64 p.keep, .bool p.hasWill, .str p.wtopic, .sl (p.wpay.map u8), .int .i64 p.wqos, .bool p.wretain, .bool p.hasUser, .bool p.hasPass, .str p.user, .sl (p.pass.map u8), .bool p.present, .int .i64 p.code, .sl (p.subs.map encU), .sl (p.codes.map (V.int .i64))], .int .i64 now] (knP T5 fr5::loose::knF::knA::knM m::(ownB bb s++[])++F) fun d G=>∃ (w1 w2 w3 w4:Value) (s':BN) (n1 n2 n3 n4:Nat) (c1 c2 c3 c4:List V),((BOK s'/\s'.pl=(zbp n nm p now (zbs p.clean nm (zaw nm s.pl))).2)/\RowsE (zbp n nm p now (zbs p.clean nm (zaw nm s.pl))).1 n1 n2 n3 n4 c1 c2 c3 c4)/\d = .agg [.ar w1 n1, .ar w2 n2, .ar w3 n3, .ar w4 n4]/\G = .arr 4 w1 c1 :: .arr 4 w2 c2 :: .arr 1 w3 c3 :: .arr 1 w4 c4::knP T5 fr5::loose::knF::knA::knM m::(ownB bb s'++F):=by
 intro hA
 obtain ⟨⟨hB,hz,hcon,hcs⟩,⟨hn0,hn1,hlv,hcl,hnm,hnl⟩,⟨hwt,hwp,hk0,hk1⟩,hnc,hwN,hof,hno⟩:=hA
 refine DC.bodyS (n_:=140) (show Tryz.prog.funcs[39]? = some Tryz.f39 by kernel_rfl) rfl rfl (by rfl) ?_
 simp only [env0,List.append_assoc,List.cons_append,List.nil_append]
 have kw:=ksIs [0,1,2,3,6,8,9,10,11,12,13,14,15,22,34,50,58,64,79,109]
 have ow:=zai [131]
 have dw22:=drIs 22 [10,13,16] []
 have dw24:=drIs 24 [18] [3,6,7,10,13]
 have rw_:=rsIs [.cell 8 38]
 have hlk:True:=trivial
 have hC:True:=trivial
 have hN16:0<=n/\n<16:=⟨hn0,hn1⟩
 have hFL:(zah nm s.pl).1.length<=1000000:=zgD hz _
 have hsp:(p.client=[]/\35::Go.Lib.itoa n=nm/\(Go.Lib.itoa n).length<=100000)\/(p.client=nm/\(nm=[])=False/\(Go.Lib.itoa n).length=(Go.Lib.itoa n).length):=by
  unfold nameM at hnm
  by_cases h:p.client=[]
  · rw [if_pos h] at hnm
    exact .inl ⟨h,hnm.symm,by rw [hnm] at hnl;simp only [List.length_cons] at hnl;omega⟩
  · rw [if_neg h] at hnm
    exact .inr ⟨hnm.symm,by rw [hnm];exact eq_false h,rfl⟩
 rcases hsp with ⟨hpc,hpn,hil⟩ | ⟨hpc,hpn,hil⟩<;>(rcases hw:p.hasWill with _ | _)<;>(have hwn:=hwN)<;>(simp only [hw,forall_const,reduceCtorEq,false_implies,Bool.false_eq_true,true_implies] at hwn)
 repeat' (first
  | (exact absurd hb (of_eq_false hpn))
  | ((fail_if_success (have zz:=hown));(with_reducible show DW _ _ (Code.region 11 _ _) _ _ _);(refine DW.own0P 4 eb 0 (by ((with_reducible repeat (first | exact Pulled.nil | apply Pulled.cons | exact Took.here | apply Took.next | apply Took.skip | fail))<;>fail)) rfl ?_);(simp only [List.set_cons_succ,List.set_cons_zero]);(refine DW.own0P 4 eb 1 (by ((with_reducible repeat (first | exact Pulled.nil | apply Pulled.cons | exact Took.here | apply Took.next | apply Took.skip | fail))<;>fail)) rfl ?_);(simp only [List.set_cons_succ,List.set_cons_zero]);(refine DW.own0P 1 eb 2 (by ((with_reducible repeat (first | exact Pulled.nil | apply Pulled.cons | exact Took.here | apply Took.next | apply Took.skip | fail))<;>fail)) rfl ?_);(simp only [List.set_cons_succ,List.set_cons_zero]);(refine DW.own0P 1 eb 3 (by ((with_reducible repeat (first | exact Pulled.nil | apply Pulled.cons | exact Took.here | apply Took.next | apply Took.skip | fail))<;>fail)) rfl ?_);(simp only [List.set_cons_succ,List.set_cons_zero]);(have hown:True:=trivial))
  | ((fail_if_success (have zz:=hop));(with_reducible show DW _ _ (Code.region 16 _ _) _ _ _);(have hop:True:=trivial);(have hBc:BOK s3:=hs3);(have hnoc:NoOne nm s3.pl:=by rw [hp3];exact NoOne.forget hno _);(have hconc:s3.pl.conn n=some cp:=by rw [hp3,zf0];exact hcon);(have hplc:s3.pl=(zah nm s.pl).2:=hp3);(have hT9:zaw nm s.pl=(nilE,s.pl):=by unfold zaw;rw [hof];rfl);(have hX:zbs true nm (zaw nm s.pl)=((andM nilE ⟨[],[],[],(zah nm s.pl).1⟩),s3.pl):=by unfold zbs;rw [if_pos rfl,hT9,hp3]);(rw [hX]);(clear hX hT9);(have hBd:=hBc);(clear hBc);(obtain ⟨cm,sm,t,ts,l1,c,l2,ss,hSS,hcp,hcn,h1,h2⟩:=BOK.at hBd hconc);(have hno3:=NoOne.cs hnoc);(generalize hGB:s3.pl=B3 at hplc hnoc hconc);(subst hSS);(obtain ⟨cn,cb,st,lf,bad,hd,sv,kp,cl,will,lv,wv⟩:=c);(have hcn1:n=cn:=hcn.symm);(subst hcn1);(have hsv:sv=none:=by (have:=hcs;rw [<-hcp] at this;simpa [Cn.pl] using this));(subst hsv);(have hC:=zcZ (l2:=l2) h1);(simp only at hC h1 h2);(rcases hlk:lookA nm (kvS ss) with _ | yb);rotate_left;(focus ((obtain ⟨m1,y,m2,hss,hyn,hyb,k1,k2⟩:=zfM hBd.sn hlk);(simp only at hss);(subst hss);(subst hyb);(have hyo:=hBd.so y (by simp));(have hyq:=hBd.sq y (by simp));(with_reducible apply DW.toR 16);(focus ((simp only [ownB,BN.maps,zad,zaf,Cn.own,Cn.cells,Cn.sv,Option.map_none,Option.map_some,List.append_assoc,List.cons_append,List.nil_append,List.append_nil]);exact SubP.refl))));rotate_left;(focus ((with_reducible apply DW.toR 16);(focus ((simp only [ownB,BN.maps,zad,zaf,Cn.own,Cn.cells,Cn.sv,Option.map_none,Option.map_some,List.append_assoc,List.cons_append,List.nil_append,List.append_nil]);exact SubP.refl)))))
  | ((refine DOp.load_ rfl rfl ?_);(repeat (with_reducible first | refine OnB.here ?_ | refine OnB.next ?_ | (refine OnB.inH (by assumption) ?_;with_reducible intro C) | refine OnB.skip ?_));refine zdv ?_)
  | ((refine DOp.look_ rfl rfl ?_);(repeat (with_reducible first | refine OnM.here ?_ | refine OnM.next ?_ | (refine OnM.inN (by assumption) ?_;with_reducible intro C hC) | (refine OnM.inK (by assumption) ?_;with_reducible intro C hC) | refine OnM.skip ?_));refine zdv ?_)
  | ((refine DOp.upd_ rfl rfl ?_);(repeat (with_reducible first | refine OnM.here ?_ | refine OnM.next ?_ | (refine OnM.inN (by assumption) ?_;with_reducible intro C hC) | (refine OnM.inK (by assumption) ?_;with_reducible intro C hC) | refine OnM.skip ?_));refine zdv ?_)
  | refine g_ ?_
  | ((with_reducible refine And.intro ?_ ?_);(exact zaX))
  | (refine DW.cond (by rfl) ?_ ?_<;>(first | exact i0_ | (intro hb;(try simp only [↓reduceCtorEq,not_true_eq_false,not_false_eq_true,hbs,Int.reduceBEq,Int.reduceBNe,Int.reduceEq] at hb);(try refine zdv ?_))))
  | ((with_reducible first | refine zaa ?_ ?_ | refine zak ?_ ?_)<;>(intro hb;rw [hb];revert hb;(first | exact i0_ | (intro hb;(try simp only [↓reduceCtorEq,not_true_eq_false,not_false_eq_true,hbs,Int.reduceBEq,Int.reduceBNe,Int.reduceEq] at hb);(try refine zdv ?_)))))
  | ((first | refine rn_ ?_ | refine dn_ ?_ | refine kn_ ?_)<;>(refine zdv ?_))
  | ((refine dm_ ?_);(first | ((first | refine v_ (zdV _ _ _ _) ?_ (ha:=by exact zaX) (hk:=fun q=>q.1) | refine v_ (zcr _ _) ?_ (ha:=by exact zaX) (hk:=fun q=>q.1) | refine v_ (zbF _ _) ?_ (ha:=by exact zaX) (hk:=fun q=>q.1) | refine v_ (zhD _ _ _ _) ?_ (ha:=by exact zaX) (hk:=fun q=>q.1));refine zdv ?_) | (refine DVop.look_ rfl rfl rfl rfl ?_;(repeat (with_reducible first | refine OnM.here ?_ | refine OnM.next ?_));refine zdv ?_)))
  | ((refine von_ ?_);refine zdv ?_)
  | ((first | (refine DOp.look_ rfl rfl ?_;(repeat (with_reducible first | refine OnM.here ?_ | refine OnM.next ?_))) | (refine DOp.upd_ rfl rfl ?_;(repeat (with_reducible first | refine OnM.here ?_ | refine OnM.next ?_))) | (refine DOp.lista_ [131] rfl rfl ?_) | (refine DOp.makea_ [131] rfl rfl rfl rfl ?_))<;>(refine zdv ?_))
  | ((first | refine q_ (zdV _ _ _ _) ?_ (ha:=by exact zaX) (hk:=fun q=>q.1) | refine q_ (zcr _ _) ?_ (ha:=by exact zaX) (hk:=fun q=>q.1) | refine q_ (zbF _ _) ?_ (ha:=by exact zaX) (hk:=fun q=>q.1) | refine q_ (zhD _ _ _ _) ?_ (ha:=by exact zaX) (hk:=fun q=>q.1));refine zdv ?_)
  | (refine p_ (zhb _ _ _ _ _) ?_ (ha:=by exact zaX);rintro d H1 ⟨s3,⟨hs3,hp3⟩,rfl,rfl⟩<;>refine zdv ?_)
  | (refine p_ (zbY (D1:=[]) (D2:=(zah nm s.pl).1) _ _ _ _ _ _ _ _ _ _ _ _ _ _ _ _ _ _) ?_ (ha:=by exact zaX);rintro d H1 ⟨w1,w2,w3,w4,rfl,rfl⟩<;>refine zdv ?_)
  | (refine p_ (zbY (D1:=(zaR ([]++(zah nm s.pl).1))) (D2:=[]) _ _ _ _ _ _ _ _ _ _ _ _ _ _ _ _ _ _) ?_ (ha:=by exact zaX);rintro d H1 ⟨w1,w2,w3,w4,rfl,rfl⟩<;>refine zdv ?_)
  | (refine p_ (zhW _ _) ?_ (ha:=by exact zaX);rintro d H1 ⟨x,⟨hx,hx0⟩,rfl,rfl⟩<;>refine zdv ?_)
  | (refine p_ (zpl _ _ _) ?_ (ha:=by exact zaX);rintro d H1 ⟨x2,⟨hxo,hxa,hxb⟩,rfl,rfl⟩<;>refine zdv ?_)
  | (refine p_ (zdJ (kind:=2) (id:=0) (pr:=false) (code:=0) (l:=zap now x.a) _ _ _ _ _) ?_ (ha:=by exact zaX);rintro d H1 ⟨rfl,rfl⟩<;>refine zdv ?_)
  | (refine p_ (zdJ (kind:=2) (id:=0) (pr:=true) (code:=0) (l:=zap now y.a) _ _ _ _ _) ?_ (ha:=by exact zaX);rintro d H1 ⟨rfl,rfl⟩<;>refine zdv ?_)
  | ((refine on_ ?_);refine zdv ?_)
  | refine f_ ?_
  | refine vm_ ?_
  | ((fail_if_success (have zz:=rb));with_reducible intro rb)
  | ((fail_if_success (have zz:=eb));with_reducible intro eb)
  | ((fail_if_success (have zz:=lw));with_reducible intro lw)
  | ((fail_if_success (have zz:=av));with_reducible intro av)
  | with_reducible intro b)
 all_goals first
 | (((have hw9:p.hasWill=false:=hw);(have hyn:True:=trivial);(have hx2n:x2.a.name=nm:=by rw [hxa,zaN,hx,zcz]);(have hx2m:=hx2n);(have hkv:updA nm x.b (kvS ss)=kvS (ss++[x2]):=by (rw [zct hlk];unfold kvS;rw [List.map_append,<-hxb,<-hx2n];rfl));(rw [hkv]);(have hO:zat nm now B3=zan 2 0 false 0::zap now x.a:=by (have h5:=zcj (s:=⟨cm,sm,t,ts,l1++(⟨n,cb,st,lf,bad,hd,none,kp,cl,will,lv,wv⟩:Cn)::l2,ss⟩) hlk;rw [hGB] at h5;unfold zat sesD;rw [h5,hx];rfl));(apply zbX (s':=(⟨cm,sm,t,ts,l1++(⟨n,cb,st,lf,bad,hd,some (nm,x2.b),p.keep,true,will,lv,wv⟩:Cn)::l2,ss++[x2]⟩:BN)));(focus ((simp only [ownB,BN.maps,zad,zbm,zcW,zas,zbo,Cn.own,Cn.cells,Cn.sv,Option.map_some,Option.map_none,List.map_cons,List.map_nil,encM,hxb,hx2n,hyn,List.append_assoc,List.cons_append,List.nil_append,List.append_nil]);exact sub_));(focus ((show RowsE (andM (andM nilE ⟨[],[],[],(zah nm s.pl).1⟩) ⟨outM n (zat nm now B3),[],[],[]⟩) _ _ _ _ _ _ _ _);(rw [hO]);(refine RowsE.cast ((RowsE.nil.and (x:=⟨[],[],[],(zah nm s.pl).1⟩)).and (x:=⟨outM n (zan 2 0 false 0::zap now x.a),[],[],[]⟩)) ?_ ?_ ?_ ?_ ?_ ?_ ?_ ?_<;>(first | rfl | (simp [nilE,andM,zaq];done)))));(focus (exact (BOK.greet (c:=(⟨n,cb,st,lf,bad,hd,none,kp,cl,will,lv,wv⟩:Cn)) (c':=(⟨n,cb,st,lf,bad,hd,some (nm,x2.b),p.keep,true,will,lv,wv⟩:Cn)) (x:=x2) (nm:=nm) hBd hno3 (zfz hBd.sn (by rw [hx2n];exact hlk)) (zdM (p:=fun z=>SAOK z.a/\SAQ z.a) (fun z hz=>⟨hBd.so z hz,hBd.sq z hz⟩) ⟨hxo,by rw [hxa,hx];exact (zd9 nm).resume now⟩) (fun z hz=>⟨z,List.mem_append_left _ hz,rfl,rfl⟩) rfl (CnOK.greet (hBd.co (⟨n,cb,st,lf,bad,hd,none,kp,cl,will,lv,wv⟩:Cn) (by simp)) ⟨hk0,hk1⟩ (by simp) hx2m) rfl)));(focus ((have h6:=zc5 (cm:=cm) (sm:=sm) (t:=t) (ts:=ts) (c:=(⟨n,cb,st,lf,bad,hd,none,kp,cl,will,lv,wv⟩:Cn)) (c':=(⟨n,cb,st,lf,bad,hd,some (nm,x2.b),p.keep,true,will,lv,wv⟩:Cn)) (x:=x2) (n:=n) (p:=p) (now:=now) rfl h1 h2 hlk (by rw [hxa,hx]) (by rw [zc3 hw,hcl];rfl));(rw [hGB] at h6);exact h6))))
 | (((have hw9:p.hasWill=true:=hw);(have hyn:True:=trivial);(have hx2n:x2.a.name=nm:=by rw [hxa,zaN,hx,zcz]);(have hx2m:=hx2n);(have hkv:updA nm x.b (kvS ss)=kvS (ss++[x2]):=by (rw [zct hlk];unfold kvS;rw [List.map_append,<-hxb,<-hx2n];rfl));(rw [hkv]);(have hO:zat nm now B3=zan 2 0 false 0::zap now x.a:=by (have h5:=zcj (s:=⟨cm,sm,t,ts,l1++(⟨n,cb,st,lf,bad,hd,none,kp,cl,will,lv,wv⟩:Cn)::l2,ss⟩) hlk;rw [hGB] at h5;unfold zat sesD;rw [h5,hx];rfl));(apply zbX (s':=(⟨cm,sm,t,ts,l1++(⟨n,cb,st,lf,bad,hd,some (nm,x2.b),p.keep,true,[(⟨p.wtopic,p.wpay,p.wqos,p.wretain⟩:Mg)],lv, .sl ([(⟨p.wtopic,p.wpay,p.wqos,p.wretain⟩:Mg)].map encM)⟩:Cn)::l2,ss++[x2]⟩:BN)));(focus ((simp only [ownB,BN.maps,zad,zbm,zcW,zas,zbo,Cn.own,Cn.cells,Cn.sv,Option.map_some,Option.map_none,List.map_cons,List.map_nil,encM,hxb,hx2n,hyn,List.append_assoc,List.cons_append,List.nil_append,List.append_nil]);exact sub_));(focus ((show RowsE (andM (andM nilE ⟨[],[],[],(zah nm s.pl).1⟩) ⟨outM n (zat nm now B3),[],[],[]⟩) _ _ _ _ _ _ _ _);(rw [hO]);(refine RowsE.cast ((RowsE.nil.and (x:=⟨[],[],[],(zah nm s.pl).1⟩)).and (x:=⟨outM n (zan 2 0 false 0::zap now x.a),[],[],[]⟩)) ?_ ?_ ?_ ?_ ?_ ?_ ?_ ?_<;>(first | rfl | (simp [nilE,andM,zaq];done)))));(focus (exact (BOK.greet (c:=(⟨n,cb,st,lf,bad,hd,none,kp,cl,will,lv,wv⟩:Cn)) (c':=(⟨n,cb,st,lf,bad,hd,some (nm,x2.b),p.keep,true,[(⟨p.wtopic,p.wpay,p.wqos,p.wretain⟩:Mg)],lv, .sl ([(⟨p.wtopic,p.wpay,p.wqos,p.wretain⟩:Mg)].map encM)⟩:Cn)) (x:=x2) (nm:=nm) hBd hno3 (zfz hBd.sn (by rw [hx2n];exact hlk)) (zdM (p:=fun z=>SAOK z.a/\SAQ z.a) (fun z hz=>⟨hBd.so z hz,hBd.sq z hz⟩) ⟨hxo,by rw [hxa,hx];exact (zd9 nm).resume now⟩) (fun z hz=>⟨z,List.mem_append_left _ hz,rfl,rfl⟩) rfl (CnOK.greetW (hBd.co (⟨n,cb,st,lf,bad,hd,none,kp,cl,will,lv,wv⟩:Cn) (by simp)) ⟨hk0,hk1⟩ (by simp) hx2m ⟨hwt,hwp⟩) rfl)));(focus ((have h6:=zc5 (cm:=cm) (sm:=sm) (t:=t) (ts:=ts) (c:=(⟨n,cb,st,lf,bad,hd,none,kp,cl,will,lv,wv⟩:Cn)) (c':=(⟨n,cb,st,lf,bad,hd,some (nm,x2.b),p.keep,true,[(⟨p.wtopic,p.wpay,p.wqos,p.wretain⟩:Mg)],lv, .sl ([(⟨p.wtopic,p.wpay,p.wqos,p.wretain⟩:Mg)].map encM)⟩:Cn)) (x:=x2) (n:=n) (p:=p) (now:=now) rfl h1 h2 hlk (by rw [hxa,hx]) (by rw [zc4 hw,hcl];rfl));(rw [hGB] at h6);exact h6))))
 | (((have hw9:p.hasWill=false:=hw);(have hx2n:x2.a.name=y.a.name:=by rw [hxa,zaN]);(have hx2m:x2.a.name=nm:=hx2n.trans hyn);(have hO:zat nm now B3=zan 2 0 true 0::zap now y.a:=by (have h5:=zdi (s:=⟨cm,sm,t,ts,l1++(⟨n,cb,st,lf,bad,hd,none,kp,cl,will,lv,wv⟩:Cn)::l2,m1++y::m2⟩) rfl k1;rw [hGB,hyn] at h5;unfold zat sesD;rw [h5];rfl));(apply zbX (s':=(⟨cm,sm,t,ts,l1++(⟨n,cb,st,lf,bad,hd,some (nm,x2.b),p.keep,true,will,lv,wv⟩:Cn)::l2,m1++x2::m2⟩:BN)));(focus ((simp only [ownB,BN.maps,zad,zaf,zas,zbo,Cn.own,Cn.cells,Cn.sv,Option.map_some,Option.map_none,List.map_cons,List.map_nil,encM,hxb,hx2n,hyn,List.append_assoc,List.cons_append,List.nil_append,List.append_nil]);exact sub_));(focus ((show RowsE (andM (andM nilE ⟨[],[],[],(zah nm s.pl).1⟩) ⟨outM n (zat nm now B3),[],[],[]⟩) _ _ _ _ _ _ _ _);(rw [hO]);(refine RowsE.cast ((RowsE.nil.and (x:=⟨[],[],[],(zah nm s.pl).1⟩)).and (x:=⟨outM n (zan 2 0 true 0::zap now y.a),[],[],[]⟩)) ?_ ?_ ?_ ?_ ?_ ?_ ?_ ?_<;>(first | rfl | (simp [nilE,andM,zaq];done)))));(focus (exact (BOK.greet (c:=(⟨n,cb,st,lf,bad,hd,none,kp,cl,will,lv,wv⟩:Cn)) (c':=(⟨n,cb,st,lf,bad,hd,some (nm,x2.b),p.keep,true,will,lv,wv⟩:Cn)) (x:=x2) (nm:=nm) hBd hno3 (ze8 hBd.sn hx2n) (zep (p:=fun z=>SAOK z.a/\SAQ z.a) (fun z hz=>⟨hBd.so z hz,hBd.sq z hz⟩) ⟨hxo,by rw [hxa];exact hyq.resume now⟩) (zd2 hx2n hxb) rfl (CnOK.greet (hBd.co (⟨n,cb,st,lf,bad,hd,none,kp,cl,will,lv,wv⟩:Cn) (by simp)) ⟨hk0,hk1⟩ (by simp) hx2m) rfl)));(focus ((have h6:=zcy (cm:=cm) (sm:=sm) (t:=t) (ts:=ts) (c:=(⟨n,cb,st,lf,bad,hd,none,kp,cl,will,lv,wv⟩:Cn)) (c':=(⟨n,cb,st,lf,bad,hd,some (nm,x2.b),p.keep,true,will,lv,wv⟩:Cn)) (x:=x2) (n:=n) (p:=p) (now:=now) rfl h1 h2 k1 k2 hxa (by rw [hyn];exact (by rw [zc3 hw,hcl];rfl)));(rw [hGB,hyn] at h6);exact h6))))
 | (((have hw9:p.hasWill=true:=hw);(have hx2n:x2.a.name=y.a.name:=by rw [hxa,zaN]);(have hx2m:x2.a.name=nm:=hx2n.trans hyn);(have hO:zat nm now B3=zan 2 0 true 0::zap now y.a:=by (have h5:=zdi (s:=⟨cm,sm,t,ts,l1++(⟨n,cb,st,lf,bad,hd,none,kp,cl,will,lv,wv⟩:Cn)::l2,m1++y::m2⟩) rfl k1;rw [hGB,hyn] at h5;unfold zat sesD;rw [h5];rfl));(apply zbX (s':=(⟨cm,sm,t,ts,l1++(⟨n,cb,st,lf,bad,hd,some (nm,x2.b),p.keep,true,[(⟨p.wtopic,p.wpay,p.wqos,p.wretain⟩:Mg)],lv, .sl ([(⟨p.wtopic,p.wpay,p.wqos,p.wretain⟩:Mg)].map encM)⟩:Cn)::l2,m1++x2::m2⟩:BN)));(focus ((simp only [ownB,BN.maps,zad,zaf,zas,zbo,Cn.own,Cn.cells,Cn.sv,Option.map_some,Option.map_none,List.map_cons,List.map_nil,encM,hxb,hx2n,hyn,List.append_assoc,List.cons_append,List.nil_append,List.append_nil]);exact sub_));(focus ((show RowsE (andM (andM nilE ⟨[],[],[],(zah nm s.pl).1⟩) ⟨outM n (zat nm now B3),[],[],[]⟩) _ _ _ _ _ _ _ _);(rw [hO]);(refine RowsE.cast ((RowsE.nil.and (x:=⟨[],[],[],(zah nm s.pl).1⟩)).and (x:=⟨outM n (zan 2 0 true 0::zap now y.a),[],[],[]⟩)) ?_ ?_ ?_ ?_ ?_ ?_ ?_ ?_<;>(first | rfl | (simp [nilE,andM,zaq];done)))));(focus (exact (BOK.greet (c:=(⟨n,cb,st,lf,bad,hd,none,kp,cl,will,lv,wv⟩:Cn)) (c':=(⟨n,cb,st,lf,bad,hd,some (nm,x2.b),p.keep,true,[(⟨p.wtopic,p.wpay,p.wqos,p.wretain⟩:Mg)],lv, .sl ([(⟨p.wtopic,p.wpay,p.wqos,p.wretain⟩:Mg)].map encM)⟩:Cn)) (x:=x2) (nm:=nm) hBd hno3 (ze8 hBd.sn hx2n) (zep (p:=fun z=>SAOK z.a/\SAQ z.a) (fun z hz=>⟨hBd.so z hz,hBd.sq z hz⟩) ⟨hxo,by rw [hxa];exact hyq.resume now⟩) (zd2 hx2n hxb) rfl (CnOK.greetW (hBd.co (⟨n,cb,st,lf,bad,hd,none,kp,cl,will,lv,wv⟩:Cn) (by simp)) ⟨hk0,hk1⟩ (by simp) hx2m ⟨hwt,hwp⟩) rfl)));(focus ((have h6:=zcy (cm:=cm) (sm:=sm) (t:=t) (ts:=ts) (c:=(⟨n,cb,st,lf,bad,hd,none,kp,cl,will,lv,wv⟩:Cn)) (c':=(⟨n,cb,st,lf,bad,hd,some (nm,x2.b),p.keep,true,[(⟨p.wtopic,p.wpay,p.wqos,p.wretain⟩:Mg)],lv, .sl ([(⟨p.wtopic,p.wpay,p.wqos,p.wretain⟩:Mg)].map encM)⟩:Cn)) (x:=x2) (n:=n) (p:=p) (now:=now) rfl h1 h2 k1 k2 hxa (by rw [hyn];exact (by rw [zc4 hw,hcl];rfl)));(rw [hGB,hyn] at h6);exact h6))))
 | (trace_state;fail)
end
end
end Go.Proofs.YtgekknefphagbaaGreatDoor
