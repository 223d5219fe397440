/- The broker: who has a name; a session is forgotten, over the whole state. -/
import Derived.Test.YtgekknefphagbaaGreatDoorOnx
import Derived.KernelRfl
namespace Go.Proofs.YtgekknefphagbaaGreatDoor
open Go.RowKit
set_option linter.unusedSimpArgs false
set_option linter.unusedVariables false
set_option linter.unusedSectionVars false
set_option maxHeartbeats 4000000
set_option maxRecDepth 100000
section
def NoOne (nm:YS) (b:Br):Prop:=∀ c∈b.conns,c.s≠some nm
def zbV (n now:Int) (b:Br):Br:={ b with conns:=b.conns.map fun c=>if c.n=n then { c with heard:=zbf now } else c }
theorem zm1 {l1 l2:List Cn} {c c':Cn} {f:CP->CP} (hf:f c.pl=c'.pl) (h1:∀ d∈l1,d.n≠c.n) (h2:∀ d∈l2,d.n≠c.n):((l1++c::l2).map Cn.pl).map (fun d=>if d.n=c.n then f d else d)=(l1++c'::l2).map Cn.pl:=by
 have key:∀ l:List Cn,(∀ d∈l,d.n≠c.n)->(l.map Cn.pl).map (fun d=>if d.n=c.n then f d else d)=l.map Cn.pl:=fun l h=>by
  rw [List.map_map]
  exact List.map_congr_left fun d hd=>by show (if d.n=c.n then f d.pl else d.pl)=d.pl;rw [if_neg (h d hd)]
 rw [List.map_append,List.map_cons,List.map_append,List.map_cons,key l1 h1,key l2 h2,List.map_append,List.map_cons]
 rw [show (if c.pl.n=c.n then f c.pl else c.pl)=c'.pl from by rw [if_pos (show c.pl.n=c.n from rfl),hf]]
theorem BOK.at {s:BN} (h:BOK s) {n:Int} {p:CP} (hc:s.pl.conn n=some p):∃ cm sm t ts l1 c l2 ss,s=(⟨cm,sm,t,ts,l1++c::l2,ss⟩:BN)/\c.pl=p/\c.n=n/\(∀ d∈l1,d.n≠c.n)/\(∀ d∈l2,d.n≠c.n):=by
 obtain ⟨c,hcm,hp,hn⟩:=zgD hc
 obtain ⟨l1,l2,hs,h1,h2⟩:=zc0 h.cn hcm
 obtain ⟨cm,sm,t,ts,cs,ss⟩:=s
 simp only at hs
 subst hs
 exact ⟨cm,sm,t,ts,l1,c,l2,ss,rfl,hp,hn,h1,h2⟩
theorem ses_of {s:BN} {nm:YS} {a:SA} (h:s.pl.ses nm=some a):∃ y∈s.ss,y.a=a/\y.a.name=nm:=by
 unfold Br.ses BN.pl at h
 have h1:=List.mem_of_find?_eq_some h
 have h2:=List.find?_some h
 obtain ⟨y,hy,rfl⟩:=List.mem_map.1 h1
 exact ⟨y,hy,rfl,by simpa using h2⟩
theorem zkP (s:BN) (nm:YS):(s.pl.ses nm).isSome=(lookA nm (kvS s.ss)).isSome:=by
 rw [zg4]
 unfold Br.ses BN.pl
 simp only [List.find?_map,Option.isSome_map]
 rfl
theorem zpv {s:BN} {nm:YS} (h:s.pl.ses nm=none):lookA nm (kvS s.ss)=none:=by
 have:=zkP s nm
 rw [h] at this
 cases h1:lookA nm (kvS s.ss) with
 | none=>rfl
 | some b=>rw [h1] at this;cases this
theorem zoa {s:BN} (h:BOK s) (nm:YS):(ofM nm s.pl = -1/\NoOne nm s.pl)\/∃ c∈s.cs,c.n=ofM nm s.pl/\0<=c.n/\c.s.map (·.1)=some nm:=by
 by_cases hex:∃ c∈s.cs,c.s.map (·.1)=some nm
 · obtain ⟨c,hc,hs⟩:=hex
   right
   cases hcs:c.s with
   | none=>rw [hcs] at hs;cases hs
   | some e =>
    obtain ⟨e1,e2⟩:=e
    have he:e1=nm:=by rw [hcs] at hs;simpa using hs
    subst he
    exact ⟨c,hc,(ofM_y h hc hcs).symm,(h.co c hc).n.1,by rw [hcs] at hs ⊢;exact hs⟩
 · left
   refine ⟨ofM_n fun c hc hcs=>hex ⟨c,hc,hcs⟩,fun p hp hps=>?_⟩
   obtain ⟨c,hc,rfl⟩:=List.mem_map.1 hp
   exact hex ⟨c,hc,hps⟩
theorem NoOne.cs {s:BN} {nm:YS} (h:NoOne nm s.pl):∀ c∈s.cs,c.s.map (·.1)≠some nm:=fun c hc=>h c.pl (List.mem_map.2 ⟨c,hc,rfl⟩)
theorem zd8 (nm:YS) (b:Br):(zah nm b).2.conns=b.conns:=by unfold zah;split<;>rfl
theorem ziE (n:Int) (b:Br):(zbj n b).2.conns=b.conns.filter fun c=>c.n != n:=by
 unfold zbj
 cases hc:b.conn n with
 | none =>
  refine (List.filter_eq_self.2 fun c hcm=>?_).symm
  have:=List.find?_eq_none.1 hc c hcm
  simpa using this
 | some c =>
  simp only
  cases hs:c.s with
  | none=>rfl
  | some nm =>
   simp only
   split
   · exact zd8 ..
   · rfl
theorem zgb (n:Int) (b:Br):(zae n b).2.conns=b.conns.filter fun c=>c.n != n:=ziE n b
theorem find_ne {l:List CP} {n o:Int} (h:n≠o):(l.filter fun c=>c.n != o).find? (fun c=>c.n==n)=l.find? fun c=>c.n==n:=by
 induction l with
 | nil=>rfl
 | cons c l ih =>
  by_cases ho:c.n=o
  · rw [List.filter_cons_of_neg (by simp [ho]),ih,List.find?_cons_of_neg (by simp [ho];exact Ne.symm h)]
  · rw [List.filter_cons_of_pos (by simp [ho])]
    by_cases hn:c.n=n
    · rw [List.find?_cons_of_pos (by simp [hn]),List.find?_cons_of_pos (by simp [hn])]
    · rw [List.find?_cons_of_neg (by simp [hn]),List.find?_cons_of_neg (by simp [hn]),ih]
theorem zeZ {n o:Int} (h:n≠o) (b:Br):(zae o b).2.conn n=b.conn n:=by unfold Br.conn;rw [zgb];exact find_ne h
theorem zf2 (nm:YS) (n:Int) (b:Br):(zah nm b).2.conn n=b.conn n:=by unfold Br.conn;rw [zd8]
theorem NoOne.shut {s:BN} (h:BOK s) {nm:YS} {c:Cn} (hc:c∈s.cs) (hs:c.s.map (·.1)=some nm):NoOne nm (zae c.n s.pl).2:=fun p hp hps=>by
 rw [zgb] at hp
 obtain ⟨hp1,hp2⟩:=List.mem_filter.1 hp
 obtain ⟨d,hd,rfl⟩:=List.mem_map.1 hp1
 cases he:c.s with
 | none=>rw [he] at hs;cases hs
 | some e =>
  cases he':d.s with
  | none=>simp [Cn.pl,he'] at hps
  | some e' =>
   have h1:e.1=nm:=by rw [he] at hs;simpa using hs
   have h2:e'.1=nm:=by simpa [Cn.pl,he'] using hps
   have:=h.sd c hc d hd e e' he he' (h1.trans h2.symm)
   simp [Cn.pl,this] at hp2
theorem NoOne.forget {nm:YS} {b:Br} (h:NoOne nm b) (x:YS):NoOne nm (zah x b).2:=by unfold NoOne;rw [zd8];exact h
theorem BSz.forget {b:Br} (h:BSz b) (nm:YS):BSz (zah nm b).2:=by
 unfold zah
 split
 · exact h
 · exact ⟨Nat.le_trans (zfw ..) h.L,fun a ha=>h.sub a (List.mem_filter.1 ha).1⟩
theorem BSz.leave {b:Br} (h:BSz b) (n:Int):BSz (zbj n b).2:=by
 have ho:BSz (b.off n):=⟨h.L,h.sub⟩
 unfold zbj
 split
 · exact h
 · split
   · split
     · exact ho.forget _
     · exact ho
   · exact ho
theorem BSz.shut {b:Br} (h:BSz b) (n:Int):BSz (zae n b).2:=h.leave n
theorem BSz.heard {b:Br} (h:BSz b) (n now:Int):BSz (zbV n now b):=⟨h.L,h.sub⟩
theorem BOK.soff {s:BN} (h:BOK s) {m1 m2:List SN} {y:SN} (hss:s.ss=m1++y::m2) (hno:∀ c∈s.cs,c.s.map (·.1)≠some y.a.name) {ts:TS} (ht:TOK ts):BOK { s with ss:=m1++m2,ts:=ts }:=by
 have hsu2:(m1++m2).Sublist s.ss:=by rw [hss];exact (List.sublist_cons_self _ _).append_left _
 refine ⟨ht,h.cn,fun d hd=>?_,h.sn.sublist (hsu2.map _),fun x hx=>h.so x (hsu2.subset hx),fun x hx=>h.sq x (hsu2.subset hx),h.sd⟩
 have ho:=h.co d hd
 refine ⟨ho.n,ho.heard,ho.keep,ho.will,ho.wm,ho.lv,ho.wv,fun e he=>?_⟩
 obtain ⟨x,hx,hx1,hx2⟩:=ho.s e he
 rw [hss] at hx
 rcases List.mem_append.1 hx with hx | hx
 · exact ⟨x,List.mem_append.2 (.inl hx),hx1,hx2⟩
 rcases List.mem_cons.1 hx with rfl | hx
 · exact absurd (by rw [he,Option.map_some,<-hx1]) (hno d hd)
 · exact ⟨x,List.mem_append.2 (.inr hx),hx1,hx2⟩
attribute [local irreducible] SN.own ownT ownC ownS zal zcl za0 zav zaK
attribute [local irreducible] DW SeqD DV DOp DC DVX DVJ idsF usI sortS putM zaj onlyM
theorem zgU (bb:Nat) (m:Int) (s:BN) (nm:YS) (F:Own):(BOK s/\NoOne nm s.pl/\BSz s.pl)->DC Tryz.prog 84 [.raw (.pointer (some ⟨bb,0,none⟩)), .str nm] ((loose::knF::knA::knM m::(ownB bb s++[]))++F) fun d G=>∃ s':BN,(BOK s'/\s'.pl=(zah nm s.pl).2)/\d = .sl ((zah nm s.pl).1.map V.str)/\G=loose::knF::knA::knM m::(ownB bb s'++F):=by
 rintro ⟨h,hno,hz⟩
 cases hs:s.pl.ses nm with
 | none =>
  have hlk:=zpv hs
  have e1:zah nm s.pl=([],s.pl):=by unfold zah;rw [hs]
  rw [e1]
  obtain ⟨cm,sm,t,ts,cs,ss⟩:=s
  refine DC.conv (zlZ bb cm sm t (kvS ss) nm (loose::knF::knA::knM m :: .map cm (entM (V.int .i64) pv (kvC cs))::(ownC cs++(ownS ss++(ownT t ts++F)))) hlk) kxbb ?_
  rintro d G ⟨rfl,rfl⟩
  exact ⟨_,_,le.gs rfl,⟨(⟨cm,sm,t,ts,cs,ss⟩:BN),⟨h,rfl⟩,rfl,rfl⟩,by (simp only [ownB,BN.maps,zad,zai,Cn.own,Cn.cells,Cn.sv,Option.map_none,Option.map_some,List.append_assoc,List.cons_append,List.nil_append,List.append_nil]);exact sub_⟩
 | some a =>
  obtain ⟨y,hy,rfl,rfl⟩:=ses_of hs
  obtain ⟨m1,m2,hss,k1,k2⟩:=zc0 h.sn hy
  obtain ⟨cm,sm,t,ts,cs,ss⟩:=s
  simp only at hss
  subst hss
  have hyo:=h.so y hy
  have hsk:=zqK (l2:=m2) k1
  have hsr:=zk8 (l2:=m2) k1
  have hzy0:=hz.sub y.a (List.mem_map.2 ⟨y,hy,rfl⟩)
  have hzy:y.a.subs.length<=1000000000/\∀ e∈y.a.subs,e.1.length<=1000000:=⟨Nat.le_trans hzy0.1 (by decide),hzy0.2⟩
  have hF:lookA y.a.name (kvS (m1++y::m2))=some y.b/\SAOK y.a/\TOK ts/\y.a.subs.length<=1000000000/\ts.L.length<=1000000000/\(zav y.a.subs).length<=1000000000/\∀ k,k<(zav y.a.subs).length->((zav y.a.subs).getD k default).1.length<=1000000 :=
   ⟨hsk,hyo,h.t,hzy.1,hz.L,by rw [zeA];exact hzy.1,fun k hk=>by obtain ⟨x,hx,hxe⟩:=zkD hk;rw [hxe];exact hzy.2 x hx⟩
  have hps:=zdE (s:=⟨cm,sm,t,ts,cs,m1++y::m2⟩) rfl k1
  have e1:zah y.a.name (BN.pl ⟨cm,sm,t,ts,cs,m1++y::m2⟩)=((zal y.a.name (zav y.a.subs) ts.L).1,⟨cs.map Cn.pl,(m1++m2).map (·.a),(zal y.a.name (zav y.a.subs) ts.L).2⟩):=by
   unfold zah
   rw [hps]
   simp only [BN.pl,zm7 k1 k2]
  rw [e1]
  refine DC.conv (zgw bb cm sm t m (kvS (m1++y::m2)) y ts (.map cm (entM (V.int .i64) pv (kvC cs))::(ownC cs++(ownS m1++(ownS m2++F)))) hF) kxbb ?_
  rintro d G ⟨ts',⟨ht',hL'⟩,rfl,rfl⟩
  rw [hsr]
  exact ⟨_,_,le.rfl_,⟨(⟨cm,sm,t,ts',cs,m1++m2⟩:BN),⟨h.soff rfl (NoOne.cs hno) ht',by unfold BN.pl;simp only;rw [hL']⟩,rfl,rfl⟩,by (simp only [ownB,BN.maps,zdd,zbA,Cn.own,Cn.cells,Cn.sv,Option.map_none,Option.map_some,List.append_assoc,List.cons_append,List.nil_append,List.append_nil]);exact sub_⟩
end
section
def nameM (n:Int) (p:Pk):YS:=if p.client=[] then 35::Go.Lib.itoa n else p.client
def zcH (nm:YS) (p:Pk) (c:CP):CP:={ c with s:=some nm,keep:=p.keep,clean:=p.clean,will:=if p.hasWill=true then [⟨p.wtopic,p.wpay,p.wqos,p.wretain⟩] else c.will }
noncomputable def zaw (nm:YS) (b:Br):Ef×Br:=if 0<=ofM nm b then (andM nilE (zae (ofM nm b) b).1,(zae (ofM nm b) b).2) else (nilE,b)
noncomputable def zbw (cl:Bool) (nm:YS) (x:Ef×Br):Ef×Br:=if cl=true then (andM x.1 ⟨[],[],[],(zah nm x.2).1⟩,(zah nm x.2).2) else x
def sesD (nm:YS) (b:Br):SA:=(b.ses nm).getD (newA nm)
def zdX (n:Int) (nm:YS) (p:Pk) (now:Int) (b:Br):Br :=
 ⟨b.conns.map (fun c=>if c.n=n then zcH nm p c else c),if (b.ses nm).isSome=true then b.sess.map (fun a=>if a.name=nm then zb4 now (sesD nm b) else a) else b.sess++[zb4 now (sesD nm b)],b.L⟩
def zau (nm:YS) (now:Int) (b:Br):List Pk:=zan 2 0 (b.ses nm).isSome 0::zam now (sesD nm b)
noncomputable def zbo (n:Int) (nm:YS) (p:Pk) (now:Int) (x:Ef×Br):Ef×Br:=(andM x.1 ⟨outM n (zau nm now x.2),[],[],[]⟩,zdX n nm p now x.2)
noncomputable def zaS (n:Int) (p:Pk) (now:Int) (b:Br):Ef×Br :=
 if p.level≠4 then zbp n 1 b else if p.client=[]/\p.clean=false then zbp n 2 b else if p.hasWill=true/\zb5 p.wtopic=false then zae n b
 else zbo n (nameM n p) p now (zbw p.clean (nameM n p) (zaw (nameM n p) b))
theorem zgJ (now:Int):∀ (q:List Mg) (a:SA),(zb0 now q a).name=a.name
 | [],a=>rfl
 | m::q,a=>by
  unfold zb0
  split
  · exact zgJ now q _
  · rfl
theorem zaO (now:Int) (a:SA):(zb4 now a).name=a.name:=by unfold zb4;rw [zgJ];rfl
theorem CnOK.mono {ss ss':List SN} {c:Cn} (ho:CnOK ss c) (hold:∀ y∈ss,∃ y'∈ss',y'.a.name=y.a.name/\y'.b=y.b):CnOK ss' c :=
 ⟨ho.n,ho.heard,ho.keep,ho.will,ho.wm,ho.lv,ho.wv,fun e he=>by
   obtain ⟨x,hx,h1,h2⟩:=ho.s e he
   obtain ⟨y,hy,k1,k2⟩:=hold x hx
   exact ⟨y,hy,k1.trans h1,k2.trans h2⟩⟩
theorem BOK.greet {cm sm t:Nat} {ts:TS} {l1 l2:List Cn} {ss ss':List SN} {c c':Cn} {x:SN} {nm:YS} (h:BOK ⟨cm,sm,t,ts,l1++c::l2,ss⟩) (hno:∀ d∈l1++c::l2,d.s.map (·.1)≠some nm)
  (hsn:(ss'.map (·.a.name)).Nodup) (hso:∀ y∈ss',SAOK y.a/\SAQ y.a) (hold:∀ y∈ss,∃ y'∈ss',y'.a.name=y.a.name/\y'.b=y.b)
  (hn:c'.n=c.n) (hco:CnOK ss' c') (hs:c'.s=some (nm,x.b)):BOK ⟨cm,sm,t,ts,l1++c'::l2,ss'⟩:=by
 have hmem:∀ d∈l1++c'::l2,d=c'\/d∈l1++c::l2:=fun d hd=>by
  rcases List.mem_append.1 hd with h1 | h1
  · exact .inr (List.mem_append.2 (.inl h1))
  · rcases List.mem_cons.1 h1 with rfl | h1
    · exact .inl rfl
    · exact .inr (List.mem_append.2 (.inr (List.mem_cons_of_mem _ h1)))
 refine ⟨h.t,?_,fun d hd=>?_,hsn,fun y hy=>(hso y hy).1,fun y hy=>(hso y hy).2,fun a ha d hd e e' he he' hee=>?_⟩
 · have:=h.cn
   simp only [List.map_append,List.map_cons] at this ⊢
   rw [hn];exact this
 · rcases hmem d hd with rfl | h1
   · exact hco
   · exact (h.co d h1).mono hold
 · rcases hmem a ha with rfl | h1
   · rcases hmem d hd with rfl | h2
     · rfl
     · rw [hs] at he
       cases he
       exact absurd (by rw [he'];simp [<-hee]) (hno d h2)
   · rcases hmem d hd with rfl | h2
     · rw [hs] at he'
       cases he'
       exact absurd (by rw [he];simp [hee]) (hno a h1)
     · exact h.sd a h1 d h2 e e' he he' hee
theorem zf0 {ss:List SN} {x:SN} (h:(ss.map (·.a.name)).Nodup) (hx:lookA x.a.name (kvS ss)=none):((ss++[x]).map (·.a.name)).Nodup:=by
 rw [List.map_append,List.nodup_append]
 refine ⟨h,by simp,fun a ha b hb e=>?_⟩
 simp only [List.map_cons,List.map_nil,List.mem_cons,List.not_mem_nil,or_false] at hb
 obtain ⟨y,hy,rfl⟩:=List.mem_map.1 ha
 rw [zg4] at hx
 simp only [Option.map_eq_none_iff] at hx
 have:=List.find?_eq_none.1 hx y hy
 simp at this
 exact this (e.trans hb)
theorem zeE {m1 m2:List SN} {x y:SN} (h:((m1++y::m2).map (·.a.name)).Nodup) (hx:x.a.name=y.a.name):((m1++x::m2).map (·.a.name)).Nodup:=by
 simp only [List.map_append,List.map_cons] at h ⊢
 rw [hx];exact h
theorem zd2 {m1 m2:List SN} {x y:SN} (hx:x.a.name=y.a.name) (hb:x.b=y.b):∀ z∈m1++y::m2,∃ z'∈m1++x::m2,z'.a.name=z.a.name/\z'.b=z.b:=fun z hz=>by
 rcases List.mem_append.1 hz with h1 | h1
 · exact ⟨z,List.mem_append.2 (.inl h1),rfl,rfl⟩
 · rcases List.mem_cons.1 h1 with rfl | h1
   · exact ⟨x,by simp,hx,hb⟩
   · exact ⟨z,List.mem_append.2 (.inr (List.mem_cons_of_mem _ h1)),rfl,rfl⟩
theorem zeo {m1 m2:List SN} {x y:SN} {p:SN->Prop} (h:∀ z∈m1++y::m2,p z) (hx:p x):∀ z∈m1++x::m2,p z:=fun z hz=>by
 rcases List.mem_append.1 hz with h1 | h1
 · exact h z (List.mem_append.2 (.inl h1))
 · rcases List.mem_cons.1 h1 with rfl | h1
   · exact hx
   · exact h z (List.mem_append.2 (.inr (List.mem_cons_of_mem _ h1)))
theorem sa_set {m1 m2:List SN} {x y:SN} {a:SA} (ha:x.a=a) (h1:∀ d∈m1,d.a.name≠y.a.name) (h2:∀ d∈m2,d.a.name≠y.a.name):((m1++y::m2).map (·.a)).map (fun z=>if z.name=y.a.name then a else z)=(m1++x::m2).map (·.a):=by
 have key:∀ l:List SN,(∀ d∈l,d.a.name≠y.a.name)->(l.map (·.a)).map (fun z=>if z.name=y.a.name then a else z)=l.map (·.a):=fun l h=>by
  rw [List.map_map]
  exact List.map_congr_left fun d hd=>by show (if d.a.name=y.a.name then a else d.a)=d.a;rw [if_neg (h d hd)]
 rw [List.map_append,List.map_cons,List.map_append,List.map_cons,key m1 h1,key m2 h2,List.map_append,List.map_cons,if_pos rfl,ha]
theorem zcm {s:BN} {nm:YS} (h:lookA nm (kvS s.ss)=none):s.pl.ses nm=none:=by
 have:=zkP s nm
 rw [h] at this
 cases h1:s.pl.ses nm with
 | none=>rfl
 | some b=>rw [h1] at this;cases this
theorem zcB {cm sm t:Nat} {ts:TS} {l1 l2:List Cn} {ss:List SN} {c c':Cn} {x:SN} {n:Int} {nm:YS} {p:Pk} {now:Int} (hn:c.n=n) (h1:∀ d∈l1,d.n≠c.n) (h2:∀ d∈l2,d.n≠c.n) (hl:lookA nm (kvS ss)=none) (hx:x.a=zb4 now (newA nm)) (hg:zcH nm p c.pl=c'.pl) :
  BN.pl ⟨cm,sm,t,ts,l1++c'::l2,ss++[x]⟩=zdX n nm p now (BN.pl ⟨cm,sm,t,ts,l1++c::l2,ss⟩):=by
 subst hn
 have hs:(BN.pl ⟨cm,sm,t,ts,l1++c::l2,ss⟩).ses nm=none:=zcm hl
 unfold zdX sesD
 rw [hs]
 unfold BN.pl
 simp only [Option.isSome_none,Bool.false_eq_true,if_false,Option.getD_none]
 rw [zm1 hg h1 h2,<-hx]
 simp only [List.map_append,List.map_cons,List.map_nil]
theorem zcC {cm sm t:Nat} {ts:TS} {l1 l2:List Cn} {m1 m2:List SN} {c c':Cn} {x y:SN} {n:Int} {p:Pk} {now:Int} (hn:c.n=n) (h1:∀ d∈l1,d.n≠c.n) (h2:∀ d∈l2,d.n≠c.n) (k1:∀ d∈m1,d.a.name≠y.a.name) (k2:∀ d∈m2,d.a.name≠y.a.name) (hx:x.a=zb4 now y.a) (hg:zcH y.a.name p c.pl=c'.pl) :
  BN.pl ⟨cm,sm,t,ts,l1++c'::l2,m1++x::m2⟩=zdX n y.a.name p now (BN.pl ⟨cm,sm,t,ts,l1++c::l2,m1++y::m2⟩):=by
 subst hn
 have hs:=zdE (s:=⟨cm,sm,t,ts,l1++c::l2,m1++y::m2⟩) rfl k1
 unfold zdX sesD
 rw [hs]
 unfold BN.pl
 simp only [Option.isSome_some,if_true,Option.getD_some]
 rw [zm1 hg h1 h2,sa_set hx k1 k2]
theorem zgQ (now ago:Int):∀ l:List Fl,(zcJ now ago l).length<=l.length
 | []=>Nat.le_refl _
 | f::l=>by
  have h:=zgQ now ago l
  have h1:(agP now ago f).length<=1:=by unfold agP;split;exact Nat.zero_le _;split<;>simp
  show (agP now ago f++zcJ now ago l).length<=_
  rw [List.length_append,List.length_cons];omega
theorem zac {a:SA} (h:SAOK a) (now:Int):(zam now a).length<=12:=by
 unfold zam
 rw [List.length_append]
 have h1:=zgQ now (-4398046511104) a.fly
 have h2:=zfg now a.q (zeO now (-4398046511104) a)
 have:=h.fly;have:=h.q
 omega
theorem zcD {a:SA} (h:SAOK a) (hq:SAQ a) (now:Int) (pr:Bool):∀ p∈zan 2 0 pr 0::zam now a,SendK p:=fun p hp=>by
 rcases List.mem_cons.1 hp with rfl | hp
 · exact zjf _ _
 · exact zjL h hq now p hp
end
end Go.Proofs.YtgekknefphagbaaGreatDoor
