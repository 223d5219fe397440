/- The keys of a map of numbers, sorted. No statement of the program. -/
import Derived.Test.YtgekknefphagbaaGreatDoorItx
import Derived.Test.YtgekknefphagbaaGreatDoorTmx
import Derived.Test.YtgekknefphagbaaGreatDoorWex
import Derived.Test.YtgekknefphagbaaGreatDoorCzx
import Derived.Test.YtgekknefphagbaaGreatDoorQcx
import Derived.KernelRfl
import Derived.Test.YtgekknefphagbaaGreatDoorSkx
import Derived.Test.YtgekknefphagbaaGreatDoorLkx
namespace Go.Proofs.YtgekknefphagbaaGreatDoor
open Go.RowKit
set_option linter.unusedSimpArgs false
set_option linter.unusedVariables false
set_option linter.unusedSectionVars false
section
end
section
set_option maxHeartbeats 4000000
set_option maxRecDepth 100000
def lateC (now:Int) (c:CP):Bool:=decide (0<c.keep)&&decide (3 * c.keep<2 * (now - c.heard))
noncomputable def tickS (now:Int) (x:Ef×Br) (n:Int):Ef×Br :=
 match x.2.conn n with
 | some c=>if lateC now c=true then (andM x.1 (zae n x.2).1,(zae n x.2).2) else x
 | none=>x
end
section
set_option maxHeartbeats 4000000
set_option maxRecDepth 100000
theorem DC.frzI {P:Program} {f:FuncId} {args args':List V} {H:Own} {K:V->Own->Prop} {sz:Nat} {v:Value} {l:List V} (hz:0<sz) (hl:∀ y∈l,y.n=sz) (hc:CvL v l args args') (h:DC P f args' H K):DC P f args (.arr sz v (cells l)::H) K :=
 ⟨h.1,fun xs w hs hn hr=>by
   obtain ⟨⟨g1,g2⟩,g3⟩:=Sim.frz (L1:=[]) hs hz hl
   have k1:Ext w (.tail sz v::H) w H:=Ext.drop fun x hx=>List.mem_cons_of_mem _ hx
   exact (h.2 xs w (g1.drop (List.sublist_cons_self _ _)) (hn.trans hc.len) fun k hk=>(R.cv g3 (hc.at k) (g2.rel (hr k (by rw [hc.len];exact hk)))).mono k1.cells).mono fun x w' ⟨u,d,H',he,s,ex,r,k⟩=>⟨u,d,H',he,s,(g2.trans k1).trans ex,r,k⟩⟩
theorem le.slc {a a' t:List V} (h:Les a a'):le (.sl (.agg a::t)) (.sl (.agg a'::t)):=fun S w u r=>by
 have key:=h.at_
 generalize hL:(V.agg a::t)=L at r
 cases r with
 | sl A n cap _ sz hn hc ha h1 h2 h3 h4 =>
 subst hL
 have hget:∀ i,0<i->(V.agg a::t).getD i .any=(V.agg a'::t).getD i .any:=fun i hi=>by
  obtain ⟨j,rfl⟩:∃ j,i=j+1:=⟨i - 1,by omega⟩
  rfl
 have hsz:a.length=sz:=h2 0 (by simp)
 refine .sl A n cap (.agg a'::t) sz hn hc (fun h=>nomatch ha h) (fun q hq _=>h1 q hq (by simp)) (fun i hi=>?_) (fun q i k hq hi hk=>h3 q i k hq (by simpa using hi) hk) (fun q i k hq hi hk=>?_)
 · rcases Nat.eq_zero_or_pos i with rfl | hp
   · show a'.length=sz
     rw [<-key.1,hsz]
   · rw [<-hget i hp];exact h2 i (by simpa using hi)
 · have:=h4 q i k hq (by simpa using hi) hk
   rcases Nat.eq_zero_or_pos i with rfl | hp
   · exact key.2 k (by rw [<-key.1,hsz];exact hk) S w _ this
   · rw [<-hget i hp];exact this
theorem pkE_n (l:List Pk):∀ y∈l.map zcG,y.n=24:=fun y hy=>by obtain ⟨x,_,rfl⟩:=List.mem_map.1 hy;rfl
theorem zgv {b:Br} (h:BSz b) (nm:YS):(zah nm b).1.length<=1000000:=by
 unfold zah
 cases hs:b.ses nm with
 | none=>exact Nat.zero_le _
 | some a=>exact Nat.le_trans (zc9 ..) (by rw [zeA];exact (h.sub a (List.mem_of_find?_eq_some hs)).1)
attribute [local irreducible] SN.own ownT ownC ownS zal zcl za0 zav zaK ownB
attribute [local irreducible] DW SeqD DV DOp DC DVX DVJ idsF usI sortS putM zaj onlyM
theorem zdU (kind id:Int) (pr:Bool) (code:Int) (l:List Pk) (n:Int) (v:Value) (N:Nat) (C:List V) (F:Own):(N=l.length+1/\C=[.int .i64 kind, .bool false, .bool false, .int .i64 0, .int .i64 id, .str [], .gs (.slice none 0 0) [], .int .i64 0, .str [], .bool false, .int .i64 0, .bool false, .str [], .gs (.slice none 0 0) [], .int .i64 0, .bool false, .bool false, .bool false, .str [], .gs (.slice none 0 0) [], .bool pr, .int .i64 code, .gs (.slice none 0 0) [], .gs (.slice none 0 0) []]++cells (l.map zcG))/\l.length<=1000000/\(∀ p∈(zan kind id pr code)::l,SendK p)->DC Tryz.prog 42 [.int .i64 n, .ar v N] ([.arr 24 v C,knF,knA]++F) fun d G=>d = .sl ((outM n ((zan kind id pr code)::l)).map encOu)/\G=[knF,knA]++F:=by
 rintro ⟨⟨rfl,rfl⟩,hl,hs⟩
 have e1:[.int .i64 kind, .bool false, .bool false, .int .i64 0, .int .i64 id, .str [], .gs (.slice none 0 0) [], .int .i64 0, .str [], .bool false, .int .i64 0, .bool false, .str [], .gs (.slice none 0 0) [], .int .i64 0, .bool false, .bool false, .bool false, .str [], .gs (.slice none 0 0) [], .bool pr, .int .i64 code, .gs (.slice none 0 0) [], .gs (.slice none 0 0) []]++cells (l.map zcG)=cells (.agg [.int .i64 kind, .bool false, .bool false, .int .i64 0, .int .i64 id, .str [], .gs (.slice none 0 0) [], .int .i64 0, .str [], .bool false, .int .i64 0, .bool false, .str [], .gs (.slice none 0 0) [], .int .i64 0, .bool false, .bool false, .bool false, .str [], .gs (.slice none 0 0) [], .bool pr, .int .i64 code, .gs (.slice none 0 0) [], .gs (.slice none 0 0) []]::l.map zcG):=by rw [zbc];rfl
 have e2:l.length+1=(V.agg [.int .i64 kind, .bool false, .bool false, .int .i64 0, .int .i64 id, .str [], .gs (.slice none 0 0) [], .int .i64 0, .str [], .bool false, .int .i64 0, .bool false, .str [], .gs (.slice none 0 0) [], .int .i64 0, .bool false, .bool false, .bool false, .str [], .gs (.slice none 0 0) [], .bool pr, .int .i64 code, .gs (.slice none 0 0) [], .gs (.slice none 0 0) []]::l.map zcG).length:=by rw [List.length_cons,List.length_map]
 rw [e1,e2]
 refine DC.frzI (l:=.agg [.int .i64 kind, .bool false, .bool false, .int .i64 0, .int .i64 id, .str [], .gs (.slice none 0 0) [], .int .i64 0, .str [], .bool false, .int .i64 0, .bool false, .str [], .gs (.slice none 0 0) [], .int .i64 0, .bool false, .bool false, .bool false, .str [], .gs (.slice none 0 0) [], .bool pr, .int .i64 code, .gs (.slice none 0 0) [], .gs (.slice none 0 0) []]::l.map zcG) (by decide) (fun y hy=>?_) (.cons (.rfl _) (.cons (.hit _) .nil)) ?_
 · rcases List.mem_cons.1 hy with rfl | hy
   · rfl
   · exact pkE_n l y hy
 · exact DC.args (Les.cons le.rfl_ (Les.cons (le.gs rfl) Les.nil)) (DC.args (Les.cons le.rfl_ (Les.cons (le.slc (Les.cons le.rfl_ (Les.cons le.rfl_ (Les.cons le.rfl_ (Les.cons le.rfl_ (Les.cons le.rfl_ (Les.cons le.rfl_ (Les.cons (le.gs rfl) (Les.cons le.rfl_ (Les.cons le.rfl_ (Les.cons le.rfl_ (Les.cons le.rfl_ (Les.cons le.rfl_ (Les.cons le.rfl_ (Les.cons (le.gs rfl) (Les.cons le.rfl_ (Les.cons le.rfl_ (Les.cons le.rfl_ (Les.cons le.rfl_ (Les.cons le.rfl_ (Les.cons (le.gs rfl) (Les.cons le.rfl_ (Les.cons le.rfl_ (Les.cons (le.gs rfl) (Les.cons (le.gs rfl) (Les.nil)))))))))))))))))))))))))) Les.nil)) (zmk n ((zan kind id pr code)::l) F ⟨by simp;omega,send_at hs⟩))
theorem zhu (bb:Nat) (s:BN) (nm:YS) (F:Own):BOK s/\ofM nm s.pl = -1->DC Tryz.prog 69 [.raw (.pointer (some ⟨bb,0,none⟩)), .str nm] ((ownB bb s++[])++F) fun d G=>d = .int .i64 (-1)/\G=(ownB bb s++[])++F:=fun h=>by
 have:=zqY bb s nm F h.1
 rwa [h.2] at this
theorem zhO (bb:Nat) (s:BN) (nm:YS) (z:Int) (F:Own):BOK s/\ofM nm s.pl=z->DC Tryz.prog 69 [.raw (.pointer (some ⟨bb,0,none⟩)), .str nm] ((ownB bb s++[])++F) fun d G=>d = .int .i64 z/\G=(ownB bb s++[])++F:=fun h=>by
 have:=zqY bb s nm F h.1
 rwa [h.2] at this
abbrev knP (T:TypeId) (fr:Nat×Nat):Ent:=.row 0 (zeR T fr)
theorem zdN (T:TypeId) (fr:Nat×Nat) (n:Int) (F:Own):(0<=n/\n<16)->DC Tryz.prog 83 [.int .i64 n] ([knP T fr]++F) fun d G=>d = .str (Go.Lib.itoa n)/\G=[knP T fr]++F:=fun h =>
 DC.itoa layIt (by kernel_rfl) (by kernel_rfl) T fr n F ⟨by omega,by omega⟩
end
section
set_option maxHeartbeats 4000000
set_option maxRecDepth 100000
structure RowsE (e:Ef) (n1 n2 n3 n4:Nat) (c1 c2 c3 c4:List V):Prop where
 n1:n1=e.outs.length
 n2:n2=e.pubs.length
 n3:n3=e.adds.length
 n4:n4=e.drops.length
 c1:c1=cells (e.outs.map encOu)
 c2:c2=cells (e.pubs.map encM)
 c3:c3=cells (e.adds.map V.str)
 c4:c4=e.drops.map V.str
theorem RowsE.nil:RowsE nilE 0 0 0 0 [] [] [] []:=⟨rfl,rfl,rfl,rfl,rfl,rfl,rfl,rfl⟩
theorem RowsE.and {e x:Ef} {n1 n2 n3 n4:Nat} {c1 c2 c3 c4:List V} (h:RowsE e n1 n2 n3 n4 c1 c2 c3 c4):RowsE (andM e x) (n1+x.outs.length) (n2+x.pubs.length) (n3+x.adds.length) (zaK (e.drops++x.drops)).length (c1++cells (x.outs.map encOu)) (c2++cells (x.pubs.map encM)) (c3++cells (x.adds.map V.str)) ((zaK (e.drops++x.drops)).map V.str):=by
 obtain ⟨rfl,rfl,rfl,rfl,rfl,rfl,rfl,rfl⟩:=h
 unfold andM
 exact ⟨by simp,by simp,by simp,rfl,by simp [zb2],by simp [zb2],by simp [zb2],rfl⟩
theorem zfS {ss:List SN} (hn:(ss.map (·.a.name)).Nodup) {nm:YS} {b:Nat} (h:lookA nm (kvS ss)=some b):∃ m1 y m2,ss=m1++y::m2/\y.a.name=nm/\y.b=b/\(∀ d∈m1,d.a.name≠y.a.name)/\∀ d∈m2,d.a.name≠y.a.name:=by
 rw [zg4] at h
 obtain ⟨y,hy,rfl⟩:=Option.map_eq_some_iff.1 h
 have h1:=List.mem_of_find?_eq_some hy
 have h2:=List.find?_some hy
 obtain ⟨m1,m2,hs,k1,k2⟩:=zc0 hn h1
 exact ⟨m1,y,m2,hs,by simpa using h2,rfl,k1,k2⟩
theorem zcA {p:Pk} (h:p.hasWill=true) (c:CP) (nm:YS):zcH nm p c={ c with s:=some nm,keep:=p.keep,clean:=p.clean,will:=[⟨p.wtopic,p.wpay,p.wqos,p.wretain⟩] }:=by unfold zcH;rw [if_pos h]
theorem zc4 {p:Pk} (h:p.hasWill=false) (c:CP) (nm:YS):zcH nm p c={ c with s:=some nm,keep:=p.keep,clean:=p.clean }:=by unfold zcH;rw [if_neg (by rw [h];decide)]
theorem zck (nm:YS):(newA nm).name=nm:=rfl
theorem zdh (x:SN):ownS [x]=x.own:=by show x.own++[]=_;rw [List.append_nil]
theorem RowsE.cast {e:Ef} {n1 n2 n3 n4 m1 m2 m3 m4:Nat} {c1 c2 c3 c4 d1 d2 d3 d4:List V} (h:RowsE e n1 n2 n3 n4 c1 c2 c3 c4) (e1:n1=m1) (e2:n2=m2) (e3:n3=m3) (e4:n4=m4) (f1:c1=d1) (f2:c2=d2) (f3:c3=d3) (f4:c4=d4):RowsE e m1 m2 m3 m4 d1 d2 d3 d4:=by
 subst e1;subst e2;subst e3;subst e4;subst f1;subst f2;subst f3;subst f4;exact h
theorem zbX {bb:Nat} {m:Int} {T5:TypeId} {fr5:Nat×Nat} {F H:Own} {w1 w2 w3 w4:Value} {n1 n2 n3 n4:Nat} {c1 c2 c3 c4:List V} {E:Ef} {P2:Br} (s':BN) (hs:SubP (.arr 4 w1 c1 :: .arr 4 w2 c2 :: .arr 1 w3 c3 :: .arr 1 w4 c4::knP T5 fr5::loose::knF::knA::knM m::(ownB bb s'++F)) H) (hr:RowsE E n1 n2 n3 n4 c1 c2 c3 c4) (hb:BOK s') (hp:s'.pl=P2) :
  ∃ d' G,le (.agg [.ar w1 n1, .ar w2 n2, .ar w3 n3, .ar w4 n4]) d'/\(∃ (w1 w2 w3 w4:Value) (s':BN) (n1 n2 n3 n4:Nat) (c1 c2 c3 c4:List V),((BOK s'/\s'.pl=P2)/\RowsE E n1 n2 n3 n4 c1 c2 c3 c4)/\d' = .agg [.ar w1 n1, .ar w2 n2, .ar w3 n3, .ar w4 n4]/\G = .arr 4 w1 c1 :: .arr 4 w2 c2 :: .arr 1 w3 c3 :: .arr 1 w4 c4::knP T5 fr5::loose::knF::knA::knM m::(ownB bb s'++F))/\SubP G H :=
 ⟨_,_,le.rfl_,⟨w1,w2,w3,w4,s',n1,n2,n3,n4,c1,c2,c3,c4,⟨⟨hb,hp⟩,hr⟩,rfl,rfl⟩,hs⟩
theorem CnOK.greet {ss ss':List SN} {n:Int} {cb st:Nat} {lf:YS} {bad hd kp kp':Int} {cl cl':Bool} {will:List Mg} {lv wv:V} {nm:YS} {x:SN} (ho:CnOK ss ⟨n,cb,st,lf,bad,hd,none,kp,cl,will,lv,wv⟩) (hk : -1000000000<=kp'/\kp'<=1000000000) (hx:x∈ss') (hn:x.a.name=nm):CnOK ss' ⟨n,cb,st,lf,bad,hd,some (nm,x.b),kp',cl',will,lv,wv⟩ :=
 ⟨ho.n,ho.heard,hk,ho.will,ho.wm,ho.lv,ho.wv,fun e he=>by cases he;exact ⟨x,hx,hn,rfl⟩⟩
theorem CnOK.greetW {ss ss':List SN} {n:Int} {cb st:Nat} {lf:YS} {bad hd kp kp':Int} {cl cl':Bool} {will:List Mg} {lv wv:V} {nm:YS} {x:SN} {w:Mg} (ho:CnOK ss ⟨n,cb,st,lf,bad,hd,none,kp,cl,will,lv,wv⟩) (hk : -1000000000<=kp'/\kp'<=1000000000) (hx:x∈ss') (hn:x.a.name=nm) (hw:MgN w):CnOK ss' ⟨n,cb,st,lf,bad,hd,some (nm,x.b),kp',cl',[w],lv, .sl ([w].map encM)⟩ :=
 ⟨ho.n,ho.heard,hk,Nat.le_refl 1,(fun m hm=>by rw [List.mem_singleton.1 hm];exact hw),ho.lv, .inr rfl,fun e he=>by cases he;exact ⟨x,hx,hn,rfl⟩⟩
theorem zdP {p:SN->Prop} {ss:List SN} {x:SN} (h:∀ y∈ss,p y) (hx:p x):∀ y∈ss++[x],p y:=fun y hy=>by
 rcases List.mem_append.1 hy with h1 | h1
 · exact h y h1
 · rw [List.mem_singleton.1 h1];exact hx
end
end Go.Proofs.YtgekknefphagbaaGreatDoor
