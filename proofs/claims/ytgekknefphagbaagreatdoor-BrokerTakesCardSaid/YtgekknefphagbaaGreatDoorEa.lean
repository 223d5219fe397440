/- Values as data: what a value of memory stands for (V), what is owned and may still be written (Ent), and what outlasts every step. No statement of the program. -/
import Derived.Test.YtgekknefphagbaaGreatDoorRows
import Derived.WalkKit
import Derived.Orders
import Derived.Calls
import Derived.Below
import Derived.Laws.World
import Derived.Laws.Rows
import Derived.Laws.AppendOwn
import Derived.Tactics
import Derived.StillTail
import Derived.Laws.StructEq
namespace Go.Proofs.YtgekknefphagbaaGreatDoor
open Go.RowKit
set_option linter.unusedSimpArgs false
set_option linter.unusedVariables false
theorem kxaa {p:Prop} (h:p:=by first | ((try simp only [List.length_map,List.length_append,List.length_nil,List.length_cons,Nat.zero_add,Nat.add_zero]);(first | omega | exact hS4 | (refine Nat.le_trans (zaI ..) ?_;(simp only [List.length_cons]);first | (have h8:=zac hyo now;omega) | (have h7:=zaz hnl;rw [<-hx] at h7;have h8:=zac h7 now;omega)) | exact Nat.le_trans (zab _) (by (simp only [List.length_append,List.length_nil]);omega) | (have h6:=hFL s2 hp2;have h5:=zab (zae co.n s.pl).1.drops;have h7:=zab ([]++(zae co.n s.pl).1.drops);(simp only [List.nil_append] at h7);first | omega | (refine Nat.le_trans (zab _) ?_;(simp only [List.length_append,List.nil_append,List.length_nil]);omega)));done) | fail):p:=h
theorem kxab {p:Prop} (h:p:=by first | (focus (exact (BOK.greet (c:=(⟨n,cb,st,lf,bad,hd,none,kp,cl,will,lv,wv⟩:Cn)) (c':=(⟨n,cb,st,lf,bad,hd,some (nm,x2.b),p.keep,false,[(⟨p.wtopic,p.wpay,p.wqos,p.wretain⟩:Mg)],lv, .sl ([(⟨p.wtopic,p.wpay,p.wqos,p.wretain⟩:Mg)].map encM)⟩:Cn)) (x:=x2) (nm:=nm) hBd hno3 (zf0 hBd.sn (by rw [hx2n];exact hlk)) (zdP (p:=fun z=>SAOK z.a/\SAQ z.a) (fun z hz=>⟨hBd.so z hz,hBd.sq z hz⟩) ⟨hxo,by rw [hxa,hx];exact (zdD nm).resume now⟩) (fun z hz=>⟨z,List.mem_append_left _ hz,rfl,rfl⟩) rfl (CnOK.greetW (hBd.co (⟨n,cb,st,lf,bad,hd,none,kp,cl,will,lv,wv⟩:Cn) (by simp)) ⟨hk0,hk1⟩ (by simp) hx2m ⟨hwt,hwp⟩) rfl));done) | fail):p:=h
theorem kxac {p:Prop} (h:p:=by first | (focus (exact (BOK.greet (c:=(⟨n,cb,st,lf,bad,hd,none,kp,cl,will,lv,wv⟩:Cn)) (c':=(⟨n,cb,st,lf,bad,hd,some (nm,x2.b),p.keep,true,[(⟨p.wtopic,p.wpay,p.wqos,p.wretain⟩:Mg)],lv, .sl ([(⟨p.wtopic,p.wpay,p.wqos,p.wretain⟩:Mg)].map encM)⟩:Cn)) (x:=x2) (nm:=nm) hBd hno3 (zf0 hBd.sn (by rw [hx2n];exact hlk)) (zdP (p:=fun z=>SAOK z.a/\SAQ z.a) (fun z hz=>⟨hBd.so z hz,hBd.sq z hz⟩) ⟨hxo,by rw [hxa,hx];exact (zdD nm).resume now⟩) (fun z hz=>⟨z,List.mem_append_left _ hz,rfl,rfl⟩) rfl (CnOK.greetW (hBd.co (⟨n,cb,st,lf,bad,hd,none,kp,cl,will,lv,wv⟩:Cn) (by simp)) ⟨hk0,hk1⟩ (by simp) hx2m ⟨hwt,hwp⟩) rfl));done) | fail):p:=h
theorem kxad {p:Prop} (h:p:=by first | (focus (exact (BOK.greet (c:=(⟨n,cb,st,lf,bad,hd,none,kp,cl,will,lv,wv⟩:Cn)) (c':=(⟨n,cb,st,lf,bad,hd,some (nm,x2.b),p.keep,false,[(⟨p.wtopic,p.wpay,p.wqos,p.wretain⟩:Mg)],lv, .sl ([(⟨p.wtopic,p.wpay,p.wqos,p.wretain⟩:Mg)].map encM)⟩:Cn)) (x:=x2) (nm:=nm) hBd hno3 (zeE hBd.sn hx2n) (zeo (p:=fun z=>SAOK z.a/\SAQ z.a) (fun z hz=>⟨hBd.so z hz,hBd.sq z hz⟩) ⟨hxo,by rw [hxa];exact hyq.resume now⟩) (zd2 hx2n hxb) rfl (CnOK.greetW (hBd.co (⟨n,cb,st,lf,bad,hd,none,kp,cl,will,lv,wv⟩:Cn) (by simp)) ⟨hk0,hk1⟩ (by simp) hx2m ⟨hwt,hwp⟩) rfl));done) | fail):p:=h
theorem kxae {p:Prop} (h:p:=by first | (focus (exact (BOK.greet (c:=(⟨n,cb,st,lf,bad,hd,none,kp,cl,will,lv,wv⟩:Cn)) (c':=(⟨n,cb,st,lf,bad,hd,some (nm,x2.b),p.keep,true,[(⟨p.wtopic,p.wpay,p.wqos,p.wretain⟩:Mg)],lv, .sl ([(⟨p.wtopic,p.wpay,p.wqos,p.wretain⟩:Mg)].map encM)⟩:Cn)) (x:=x2) (nm:=nm) hBd hno3 (zeE hBd.sn hx2n) (zeo (p:=fun z=>SAOK z.a/\SAQ z.a) (fun z hz=>⟨hBd.so z hz,hBd.sq z hz⟩) ⟨hxo,by rw [hxa];exact hyq.resume now⟩) (zd2 hx2n hxb) rfl (CnOK.greetW (hBd.co (⟨n,cb,st,lf,bad,hd,none,kp,cl,will,lv,wv⟩:Cn) (by simp)) ⟨hk0,hk1⟩ (by simp) hx2m ⟨hwt,hwp⟩) rfl));done) | fail):p:=h
theorem kxaf {p:Prop} (h:p:=by first | (focus (exact (BOK.greet (c:=(⟨n,cb,st,lf,bad,hd,none,kp,cl,will,lv,wv⟩:Cn)) (c':=(⟨n,cb,st,lf,bad,hd,some (nm,x2.b),p.keep,false,will,lv,wv⟩:Cn)) (x:=x2) (nm:=nm) hBd hno3 (zf0 hBd.sn (by rw [hx2n];exact hlk)) (zdP (p:=fun z=>SAOK z.a/\SAQ z.a) (fun z hz=>⟨hBd.so z hz,hBd.sq z hz⟩) ⟨hxo,by rw [hxa,hx];exact (zdD nm).resume now⟩) (fun z hz=>⟨z,List.mem_append_left _ hz,rfl,rfl⟩) rfl (CnOK.greet (hBd.co (⟨n,cb,st,lf,bad,hd,none,kp,cl,will,lv,wv⟩:Cn) (by simp)) ⟨hk0,hk1⟩ (by simp) hx2m) rfl));done) | fail):p:=h
theorem kxag {p:Prop} (h:p:=by first | (focus (exact (BOK.greet (c:=(⟨n,cb,st,lf,bad,hd,none,kp,cl,will,lv,wv⟩:Cn)) (c':=(⟨n,cb,st,lf,bad,hd,some (nm,x2.b),p.keep,true,will,lv,wv⟩:Cn)) (x:=x2) (nm:=nm) hBd hno3 (zf0 hBd.sn (by rw [hx2n];exact hlk)) (zdP (p:=fun z=>SAOK z.a/\SAQ z.a) (fun z hz=>⟨hBd.so z hz,hBd.sq z hz⟩) ⟨hxo,by rw [hxa,hx];exact (zdD nm).resume now⟩) (fun z hz=>⟨z,List.mem_append_left _ hz,rfl,rfl⟩) rfl (CnOK.greet (hBd.co (⟨n,cb,st,lf,bad,hd,none,kp,cl,will,lv,wv⟩:Cn) (by simp)) ⟨hk0,hk1⟩ (by simp) hx2m) rfl));done) | fail):p:=h
theorem kxah {p:Prop} (h:p:=by first | (focus (exact (BOK.greet (c:=(⟨n,cb,st,lf,bad,hd,none,kp,cl,will,lv,wv⟩:Cn)) (c':=(⟨n,cb,st,lf,bad,hd,some (nm,x2.b),p.keep,false,will,lv,wv⟩:Cn)) (x:=x2) (nm:=nm) hBd hno3 (zeE hBd.sn hx2n) (zeo (p:=fun z=>SAOK z.a/\SAQ z.a) (fun z hz=>⟨hBd.so z hz,hBd.sq z hz⟩) ⟨hxo,by rw [hxa];exact hyq.resume now⟩) (zd2 hx2n hxb) rfl (CnOK.greet (hBd.co (⟨n,cb,st,lf,bad,hd,none,kp,cl,will,lv,wv⟩:Cn) (by simp)) ⟨hk0,hk1⟩ (by simp) hx2m) rfl));done) | fail):p:=h
theorem kxai {p:Prop} (h:p:=by first | (focus (exact (BOK.greet (c:=(⟨n,cb,st,lf,bad,hd,none,kp,cl,will,lv,wv⟩:Cn)) (c':=(⟨n,cb,st,lf,bad,hd,some (nm,x2.b),p.keep,true,will,lv,wv⟩:Cn)) (x:=x2) (nm:=nm) hBd hno3 (zeE hBd.sn hx2n) (zeo (p:=fun z=>SAOK z.a/\SAQ z.a) (fun z hz=>⟨hBd.so z hz,hBd.sq z hz⟩) ⟨hxo,by rw [hxa];exact hyq.resume now⟩) (zd2 hx2n hxb) rfl (CnOK.greet (hBd.co (⟨n,cb,st,lf,bad,hd,none,kp,cl,will,lv,wv⟩:Cn) (by simp)) ⟨hk0,hk1⟩ (by simp) hx2m) rfl));done) | fail):p:=h
theorem kxaj {p:Prop} (h:p:=by first | (focus ((have h6:=zcC (cm:=cm) (sm:=sm) (t:=t) (ts:=ts) (c:=(⟨n,cb,st,lf,bad,hd,none,kp,cl,will,lv,wv⟩:Cn)) (c':=(⟨n,cb,st,lf,bad,hd,some (nm,x2.b),p.keep,false,[(⟨p.wtopic,p.wpay,p.wqos,p.wretain⟩:Mg)],lv, .sl ([(⟨p.wtopic,p.wpay,p.wqos,p.wretain⟩:Mg)].map encM)⟩:Cn)) (x:=x2) (n:=n) (p:=p) (now:=now) rfl h1 h2 k1 k2 hxa (by rw [hyn];exact (by rw [zcA hw,hcl];rfl)));(rw [hGB,hyn] at h6);exact h6);done) | fail):p:=h
theorem kxak {p:Prop} (h:p:=by first | (focus ((have h6:=zcC (cm:=cm) (sm:=sm) (t:=t) (ts:=ts) (c:=(⟨n,cb,st,lf,bad,hd,none,kp,cl,will,lv,wv⟩:Cn)) (c':=(⟨n,cb,st,lf,bad,hd,some (nm,x2.b),p.keep,true,[(⟨p.wtopic,p.wpay,p.wqos,p.wretain⟩:Mg)],lv, .sl ([(⟨p.wtopic,p.wpay,p.wqos,p.wretain⟩:Mg)].map encM)⟩:Cn)) (x:=x2) (n:=n) (p:=p) (now:=now) rfl h1 h2 k1 k2 hxa (by rw [hyn];exact (by rw [zcA hw,hcl];rfl)));(rw [hGB,hyn] at h6);exact h6);done) | fail):p:=h
theorem kxal {p:Prop} (h:p:=by first | (focus ((have h6:=zcB (cm:=cm) (sm:=sm) (t:=t) (ts:=ts) (c:=(⟨n,cb,st,lf,bad,hd,none,kp,cl,will,lv,wv⟩:Cn)) (c':=(⟨n,cb,st,lf,bad,hd,some (nm,x2.b),p.keep,false,[(⟨p.wtopic,p.wpay,p.wqos,p.wretain⟩:Mg)],lv, .sl ([(⟨p.wtopic,p.wpay,p.wqos,p.wretain⟩:Mg)].map encM)⟩:Cn)) (x:=x2) (n:=n) (p:=p) (now:=now) rfl h1 h2 hlk (by rw [hxa,hx]) (by rw [zcA hw,hcl];rfl));(rw [hGB] at h6);exact h6);done) | fail):p:=h
theorem kxam {p:Prop} (h:p:=by first | (focus ((have h6:=zcB (cm:=cm) (sm:=sm) (t:=t) (ts:=ts) (c:=(⟨n,cb,st,lf,bad,hd,none,kp,cl,will,lv,wv⟩:Cn)) (c':=(⟨n,cb,st,lf,bad,hd,some (nm,x2.b),p.keep,true,[(⟨p.wtopic,p.wpay,p.wqos,p.wretain⟩:Mg)],lv, .sl ([(⟨p.wtopic,p.wpay,p.wqos,p.wretain⟩:Mg)].map encM)⟩:Cn)) (x:=x2) (n:=n) (p:=p) (now:=now) rfl h1 h2 hlk (by rw [hxa,hx]) (by rw [zcA hw,hcl];rfl));(rw [hGB] at h6);exact h6);done) | fail):p:=h
theorem kxan {p:Prop} (h:p:=by first | (focus ((obtain ⟨m1,y,m2,hss,hyn,hyb,k1,k2⟩:=zfS hBd.sn hlk);(simp only at hss);(subst hss);(subst hyb);(have hyo:=hBd.so y (by simp));(have hyq:=hBd.sq y (by simp));(with_reducible apply DW.toR 16);(focus ((simp only [ownB,BN.maps,zad,zai,Cn.own,Cn.cells,Cn.sv,Option.map_none,Option.map_some,List.append_assoc,List.cons_append,List.nil_append,List.append_nil]);exact SubP.refl)));done) | fail):p:=h
theorem kxao {p:Prop} (h:p:=by first | (focus ((show RowsE (andM (andM (andM nilE (zae co.n s.pl).1) ⟨[],[],[],(zah nm s2.pl).1⟩) ⟨outM n (zau nm now B3),[],[],[]⟩) _ _ _ _ _ _ _ _);(rw [hO]);(refine RowsE.cast (((RowsE.nil.and (x:=(zae co.n s.pl).1)).and (x:=⟨[],[],[],(zah nm s2.pl).1⟩)).and (x:=⟨outM n (zan 2 0 false 0::zam now x.a),[],[],[]⟩)) ?_ ?_ ?_ ?_ ?_ ?_ ?_ ?_<;>(first | rfl | (simp [nilE,andM,zao];done))));done) | fail):p:=h
theorem kxap {p:Prop} (h:p:=by first | (focus ((show RowsE (andM (andM (andM nilE (zae co.n s.pl).1) ⟨[],[],[],(zah nm s2.pl).1⟩) ⟨outM n (zau nm now B3),[],[],[]⟩) _ _ _ _ _ _ _ _);(rw [hO]);(refine RowsE.cast (((RowsE.nil.and (x:=(zae co.n s.pl).1)).and (x:=⟨[],[],[],(zah nm s2.pl).1⟩)).and (x:=⟨outM n (zan 2 0 true 0::zam now y.a),[],[],[]⟩)) ?_ ?_ ?_ ?_ ?_ ?_ ?_ ?_<;>(first | rfl | (simp [nilE,andM,zao];done))));done) | fail):p:=h
theorem kxaq {p:Prop} (h:p:=by first | (focus ((show RowsE (andM (andM nilE ⟨[],[],[],(zah nm s.pl).1⟩) ⟨outM n (zau nm now B3),[],[],[]⟩) _ _ _ _ _ _ _ _);(rw [hO]);(refine RowsE.cast ((RowsE.nil.and (x:=⟨[],[],[],(zah nm s.pl).1⟩)).and (x:=⟨outM n (zan 2 0 false 0::zam now x.a),[],[],[]⟩)) ?_ ?_ ?_ ?_ ?_ ?_ ?_ ?_<;>(first | rfl | (simp [nilE,andM,zao];done))));done) | fail):p:=h
theorem kxar {p:Prop} (h:p:=by first | (focus ((show RowsE (andM (andM nilE ⟨[],[],[],(zah nm s.pl).1⟩) ⟨outM n (zau nm now B3),[],[],[]⟩) _ _ _ _ _ _ _ _);(rw [hO]);(refine RowsE.cast ((RowsE.nil.and (x:=⟨[],[],[],(zah nm s.pl).1⟩)).and (x:=⟨outM n (zan 2 0 true 0::zam now y.a),[],[],[]⟩)) ?_ ?_ ?_ ?_ ?_ ?_ ?_ ?_<;>(first | rfl | (simp [nilE,andM,zao];done))));done) | fail):p:=h
theorem kxas {p:Prop} (h:p:=by first | (focus ((show RowsE (andM (andM nilE (zae co.n s.pl).1) ⟨outM n (zau nm now B3),[],[],[]⟩) _ _ _ _ _ _ _ _);(rw [hO]);(refine RowsE.cast ((RowsE.nil.and (x:=(zae co.n s.pl).1)).and (x:=⟨outM n (zan 2 0 false 0::zam now x.a),[],[],[]⟩)) ?_ ?_ ?_ ?_ ?_ ?_ ?_ ?_<;>(first | rfl | (simp [nilE,andM,zao];done))));done) | fail):p:=h
theorem kxat {p:Prop} (h:p:=by first | (focus ((have h6:=zcC (cm:=cm) (sm:=sm) (t:=t) (ts:=ts) (c:=(⟨n,cb,st,lf,bad,hd,none,kp,cl,will,lv,wv⟩:Cn)) (c':=(⟨n,cb,st,lf,bad,hd,some (nm,x2.b),p.keep,false,will,lv,wv⟩:Cn)) (x:=x2) (n:=n) (p:=p) (now:=now) rfl h1 h2 k1 k2 hxa (by rw [hyn];exact (by rw [zc4 hw,hcl];rfl)));(rw [hGB,hyn] at h6);exact h6);done) | fail):p:=h
theorem kxau {p:Prop} (h:p:=by first | (focus ((have h6:=zcC (cm:=cm) (sm:=sm) (t:=t) (ts:=ts) (c:=(⟨n,cb,st,lf,bad,hd,none,kp,cl,will,lv,wv⟩:Cn)) (c':=(⟨n,cb,st,lf,bad,hd,some (nm,x2.b),p.keep,true,will,lv,wv⟩:Cn)) (x:=x2) (n:=n) (p:=p) (now:=now) rfl h1 h2 k1 k2 hxa (by rw [hyn];exact (by rw [zc4 hw,hcl];rfl)));(rw [hGB,hyn] at h6);exact h6);done) | fail):p:=h
theorem kxav {p:Prop} (h:p:=by first | (focus ((show RowsE (andM (andM nilE (zae co.n s.pl).1) ⟨outM n (zau nm now B3),[],[],[]⟩) _ _ _ _ _ _ _ _);(rw [hO]);(refine RowsE.cast ((RowsE.nil.and (x:=(zae co.n s.pl).1)).and (x:=⟨outM n (zan 2 0 true 0::zam now y.a),[],[],[]⟩)) ?_ ?_ ?_ ?_ ?_ ?_ ?_ ?_<;>(first | rfl | (simp [nilE,andM,zao];done))));done) | fail):p:=h
theorem kxaw {p:Prop} (h:p:=by first | ((with_reducible repeat (first | exact SubP.refl | exact SubP.nil | refine SubP.pick ?_ | refine Out.here ?_ | refine Out.next ?_ | refine Out.skip ?_ | refine SubP.pickL ?_ | refine OutL.here ?_ | refine OutL.next ?_ | refine OutL.skip ?_ | refine SubP.drop ?_ | refine SubP.dropL ?_ | fail))<;>fail;done) | fail):p:=h
theorem kxax {p:Prop} (h:p:=by first | (focus ((have h6:=zcB (cm:=cm) (sm:=sm) (t:=t) (ts:=ts) (c:=(⟨n,cb,st,lf,bad,hd,none,kp,cl,will,lv,wv⟩:Cn)) (c':=(⟨n,cb,st,lf,bad,hd,some (nm,x2.b),p.keep,false,will,lv,wv⟩:Cn)) (x:=x2) (n:=n) (p:=p) (now:=now) rfl h1 h2 hlk (by rw [hxa,hx]) (by rw [zc4 hw,hcl];rfl));(rw [hGB] at h6);exact h6);done) | fail):p:=h
theorem kxay {p:Prop} (h:p:=by first | (focus ((have h6:=zcB (cm:=cm) (sm:=sm) (t:=t) (ts:=ts) (c:=(⟨n,cb,st,lf,bad,hd,none,kp,cl,will,lv,wv⟩:Cn)) (c':=(⟨n,cb,st,lf,bad,hd,some (nm,x2.b),p.keep,true,will,lv,wv⟩:Cn)) (x:=x2) (n:=n) (p:=p) (now:=now) rfl h1 h2 hlk (by rw [hxa,hx]) (by rw [zc4 hw,hcl];rfl));(rw [hGB] at h6);exact h6);done) | fail):p:=h
theorem kxaz {p:Prop} (h:p:=by first | ((refine ⟨_,_,le.rfl_,⟨.inr ⟨_,3,⟨rfl,(zb1 h0 ha (by decide) (by omega) (by omega) (by omega) (fun q=>by omega) (fun q=>by omega)).1⟩,(zb1 h0 ha (by decide) (by omega) (by omega) (by omega) (fun q=>by omega) (fun q=>by omega)).2⟩,rfl⟩,?_⟩;exact sub_;done);done) | fail):p:=h
theorem kxa0 {p:Prop} (h:p:=by first | ((refine ⟨_,_,le.rfl_,⟨.inr ⟨_,4,⟨rfl,(zb1 h0 ha (by decide) (by omega) (by omega) (by omega) (fun q=>by omega) (fun q=>by omega)).1⟩,(zb1 h0 ha (by decide) (by omega) (by omega) (by omega) (fun q=>by omega) (fun q=>by omega)).2⟩,rfl⟩,?_⟩;exact sub_;done);done) | fail):p:=h
theorem kxa1 {p:Prop} (h:p:=by first | (focus ((show RowsE (andM nilE ⟨outM n (zau nm now B3),[],[],[]⟩) _ _ _ _ _ _ _ _);(rw [hO]);(refine RowsE.cast (RowsE.nil.and (x:=⟨outM n (zan 2 0 false 0::zam now x.a),[],[],[]⟩)) ?_ ?_ ?_ ?_ ?_ ?_ ?_ ?_<;>(first | rfl | (simp [nilE,andM,zao];done))));done) | fail):p:=h
theorem kxa2 {p:Prop} (h:p:=by first | (focus ((show RowsE (andM nilE ⟨outM n (zau nm now B3),[],[],[]⟩) _ _ _ _ _ _ _ _);(rw [hO]);(refine RowsE.cast (RowsE.nil.and (x:=⟨outM n (zan 2 0 true 0::zam now y.a),[],[],[]⟩)) ?_ ?_ ?_ ?_ ?_ ?_ ?_ ?_<;>(first | rfl | (simp [nilE,andM,zao];done))));done) | fail):p:=h
theorem kxa3 {p:Prop} (h:p:=by first | (focus ((simp only [ownB,BN.maps,zad,zbA,zdh,zaM,zbq,Cn.own,Cn.cells,Cn.sv,Option.map_some,Option.map_none,List.map_cons,List.map_nil,encM,hxb,hx2n,hyn,List.append_assoc,List.cons_append,List.nil_append,List.append_nil]);exact sub_);done) | fail):p:=h
theorem kxa4 {p:Prop} (h:p:=by first | (focus ((simp only [ownB,BN.maps,zad,zai,zaM,zbq,Cn.own,Cn.cells,Cn.sv,Option.map_some,Option.map_none,List.map_cons,List.map_nil,encM,hxb,hx2n,hyn,List.append_assoc,List.cons_append,List.nil_append,List.append_nil]);exact sub_);done) | fail):p:=h
theorem kxa5 {p:Prop} (h:p:=by first | ((have e0:varM n=[]:=List.eq_nil_of_length_eq_zero (by rw [zei];omega));(rw [e0]);refine ⟨_,_,le.tup (Les.cons (le.gs List.map_nil.symm) (Les.cons le.rfl_ Les.nil)),⟨_,(fun h=>absurd (by omega) h),rfl,rfl⟩,?_⟩;(exact sub_);done;done) | fail):p:=h
theorem kxa6 {p:Prop} (h:p:=by first | (focus ((with_reducible apply DW.toR 16);(focus ((simp only [ownB,BN.maps,zad,zai,Cn.own,Cn.cells,Cn.sv,Option.map_none,Option.map_some,List.append_assoc,List.cons_append,List.nil_append,List.append_nil]);exact SubP.refl)));done) | fail):p:=h
theorem kxa7 {p:Prop} (h:p:=by first | ((with_reducible repeat (first | exact Pulled.nil | apply Pulled.cons | exact Took.here | apply Took.next | apply Took.skip | apply Pulled.chunk | exact TookL.here | apply TookL.next | apply TookL.skip | fail))<;>fail;done) | fail):p:=h
theorem kxa8 {p:Prop} (h:p:=by first | ((repeat (first | exact Les.nil | refine Les.cons le.rfl_ ?_ | refine Les.cons (le.gs rfl) ?_ | refine Les.cons (le.gs List.map_nil.symm) ?_ | refine Les.cons (le.agg ?_) ?_ | fail))<;>fail;done) | fail):p:=h
theorem kxa9 {p:Prop} (h:p:=by first | (focus (unfold zbl;(simp only [*,zn4,List.cons_append,↓reduceIte,reduceCtorEq,Int.reduceEq,if_true,if_false,List.append_assoc,List.append_nil,List.nil_append,or_true,true_or,or_self]);done);done) | fail):p:=h
theorem kxba {p:Prop} (h:p:=by first | ((rw [List.take_of_length_le (by rw [zei];omega)] at hxe);(subst hxe);refine ⟨_,_,le.tup (Les.cons (le.gs rfl) (Les.cons le.rfl_ Les.nil)),⟨0,(fun _=>rfl),rfl,rfl⟩,?_⟩;(exact sub_);done;done) | fail):p:=h
theorem kxbb {p:Prop} (h:p:=by first | ((simp only [ownB,BN.maps,zad,zai,Cn.own,Cn.cells,Cn.sv,Option.map_none,Option.map_some,List.append_assoc,List.cons_append,List.nil_append,List.append_nil]);exact sub_;done) | fail):p:=h
theorem kxbc {p:Prop} (h:p:=by first | ((simp only [ownB,BN.maps,zad,zaM,Cn.own,Cn.cells,Cn.sv,Option.map_none,Option.map_some,List.append_assoc,List.cons_append,List.nil_append,List.append_nil]);exact sub_;done) | fail):p:=h
theorem kxbd {p:Prop} (h:p:=by first | (((refine ⟨_,_,le.agg (Les.cons (le.gs rfl) (Les.cons (le.gs rfl) (Les.cons (le.gs rfl) (Les.cons (le.gs rfl) Les.nil)))),⟨rfl,rfl⟩,?_⟩);(exact sub_);done);done) | fail):p:=h
theorem kxbe {p:Prop} (h:p:=by first | (((refine ⟨_,_,le.agg (Les.cons (le.gs rfl) (Les.cons le.rfl_ (Les.cons (le.gs rfl) (Les.cons (le.gs rfl) Les.nil)))),⟨rfl,rfl⟩,?_⟩);(exact sub_);done);done) | fail):p:=h
theorem kxbf {p:Prop} (h:p:=by first | (have h5:=zdE (s:=⟨cm,sm,t,ts,l1++(⟨n,cb,st,lf,bad,hd,none,kp,cl,will,lv,wv⟩:Cn)::l2,m1++y::m2⟩) rfl k1;rw [hGB,hyn] at h5;unfold zau sesD;rw [h5];rfl;done) | fail):p:=h
theorem kxbg {p:Prop} (h:p:=by first | (((with_reducible repeat (first | exact Pulled.nil | apply Pulled.cons | exact Took.here | apply Took.next | apply Took.skip | fail))<;>fail);done) | fail):p:=h
theorem kxbh {p:Prop} (h:p:=by first | ((have e:=zhw [] z);(simp only [List.map_nil,List.nil_append] at e ⊢);(rw [<-e]);refine ⟨_,_,le.of_eq ?_,⟨b,rfl,rfl⟩,?_⟩;rfl;(exact sub_);done;done) | fail):p:=h
theorem kxbi {p:Prop} (h:p:=by first | (refine ⟨k+zdg l k,?_,?_,?_,?_⟩;((exact ⟨q2,by rw [<-hwk,q4,hb];rfl⟩));(omega);(simp [Sub,get]<;>(fail));(try dsimp only);(exact sub_);done;done) | fail):p:=h
theorem kxbj {p:Prop} (h:p:=by first | (have h5:=zcm (s:=⟨cm,sm,t,ts,l1++(⟨n,cb,st,lf,bad,hd,none,kp,cl,will,lv,wv⟩:Cn)::l2,ss⟩) hlk;rw [hGB] at h5;unfold zau sesD;rw [h5,hx];rfl;done) | fail):p:=h
theorem kxbk {p:Prop} (h:p:=by first | (refine ⟨k+1,?_,?_,?_,?_⟩;(((try simp only);omega));(((try simp only);omega));(simp [Sub,get]<;>(fail));(try dsimp only);(exact sub_);done;done) | fail):p:=h
theorem kxbl {p:Prop} (h:p:=by first | ((rw [<-List.map_append]);(try rw [List.append_assoc]);(refine ⟨_,_,le.of_eq ?_,⟨b,rfl,rfl⟩,?_⟩);(focus (congr 1;omega));(exact sub_);done;done) | fail):p:=h
theorem kxbm {p:Prop} (h:p:=by first | ((rw [<-List.map_append]);(try rw [List.append_assoc]);(refine ⟨_,_,le.of_eq ?_,⟨b,rfl,rfl⟩,?_⟩);(focus rfl);(exact sub_);done;done) | fail):p:=h
theorem kxbn {p:Prop} (h:p:=by first | (refine ⟨?_,?_,?_⟩<;>((try simp only [List.length_append,List.length_cons,List.length_nil,za1,zaA,List.length_map])<;>omega);done) | fail):p:=h
theorem kxbo {p:Prop} (h:p:=by first | (refine ⟨?_,?_⟩<;>((try simp only [List.length_append,List.length_cons,List.length_nil,za1,zaA,List.length_map])<;>omega);done) | fail):p:=h
theorem kxbp {p:Prop} (h:p:=by first | (simp only [hop,Op.operands,List.mem_toArray,List.mem_map,Array.mem_toList_iff];exact ⟨p,hp,rfl⟩;done) | fail):p:=h
theorem kxbq {p:Prop} (h:p:=by first | (refine ⟨?_,?_,fun _ _=>⟨rfl,rfl⟩⟩<;>(have h7:=zaz hnl;rw [<-hx] at h7;have h8:=zac h7 now;omega);done) | fail):p:=h
theorem kxbr {p:Prop} (h:p:=by first | ((try simp only [List.length_append,List.length_cons,List.length_nil,za1,zaA])<;>omega;done) | fail):p:=h
theorem kxbs {p:Prop} (h:p:=by first | (focus ((try simp only [List.length_append,List.length_cons,List.length_nil]);omega);done) | fail):p:=h
theorem kxbt {p:Prop} (h:p:=by first | ((try simp only [List.append_assoc,List.cons_append,List.nil_append]);exact sub_;done) | fail):p:=h
theorem kxbu {p:Prop} (h:p:=by first | ((refine ⟨_,_,le.rfl_,⟨.inl ⟨rfl,zdc h0 ha (by omega)⟩,rfl⟩,?_⟩;exact sub_;done);done) | fail):p:=h
theorem kxbv {p:Prop} (h:p:=by first | ((simp only [SN.own,SN.cs,List.cons_append,List.nil_append]);exact sub_;done) | fail):p:=h
theorem kxbw {p:Prop} (h:p:=by first | (((refine ⟨_,_,le.rfl_,⟨s2,⟨hs2,hp2⟩,rfl,rfl⟩,?_⟩);(exact sub_);done);done) | fail):p:=h
theorem kxbx {p:Prop} (h:p:=by first | (((refine ⟨_,_,le.rfl_,⟨w1,w2,w3,w4,rfl,rfl⟩,?_⟩);(exact sub_);done);done) | fail):p:=h
theorem kxby {p:Prop} (h:p:=by first | (refine ⟨?_,?_,fun _ _=>⟨rfl,rfl⟩⟩<;>(have h8:=zac hyo now;omega);done) | fail):p:=h
theorem kxbz {p:Prop} (h:p:=by first | (rw [zc2 hlk];unfold kvS;rw [List.map_append,<-hxb,<-hx2n];rfl;done) | fail):p:=h
theorem kxb0 {p:Prop} (h:p:=by first | (rw [hv];simp [Builtin.len_,run_underlying (zaT h3),goInt];done) | fail):p:=h
theorem kxb1 {p:Prop} (h:p:=by first | (simp only [Bool.and_eq_true,beq_iff_eq];exact hc.2;done) | fail):p:=h
theorem kxb2 {p:Prop} (h:p:=by first | (refine ⟨_,_,le.rfl_,⟨_,rfl,rfl⟩,?_⟩;(exact sub_);done;done) | fail):p:=h
theorem kxb3 {p:Prop} (h:p:=by first | (rcases List.mem_append.1 he with h | h<;>simp [h];done) | fail):p:=h
theorem kxb4 {p:Prop} (h:p:=by first | (rw [hop];simp [Op.operands,Call.operands];done) | fail):p:=h
theorem kxb5 {p:Prop} (h:p:=by first | ((first | exact fin_ | refine finq_ ?_);done;done) | fail):p:=h
theorem kxb6 {p:Prop} (h:p:=by first | (simp [hop,Op.operands,Call.operands];done) | fail):p:=h
theorem kxb7 {p:Prop} (h:p:=by first | (first | exact zgl _ | exact zgl [];done) | fail):p:=h
theorem kxb8 {p:Prop} (h:p:=by first | (first | exact zfl _ | exact zfl [];done) | fail):p:=h
theorem kxb9 {p:Prop} (h:p:=by first | (first | exact zeJ _ | exact zeJ [];done) | fail):p:=h
theorem kxca {p:Prop} (h:p:=by first | (rw [hm];exact Bool.false_ne_true;done) | fail):p:=h
theorem kxcb {p:Prop} (h:p:=by first | (rw [<-hD];cases oi.dst<;>rfl;done) | fail):p:=h
theorem kxcc {p:Prop} (h:p:=by first | (rw [zbN];exact Nat.le_refl _;done) | fail):p:=h
theorem kxcd {p:Prop} (h:p:=by first | (rw [List.length_drop];omega;done) | fail):p:=h
theorem kxce {p:Prop} (h:p:=by first | ((try dsimp only);(exact sub_);done) | fail):p:=h
theorem kxcf {p:Prop} (h:p:=by first | (focus ((try simp only);omega);done) | fail):p:=h
theorem kxcg {p:Prop} (h:p:=by first | ((try dsimp only);exact sub_;done) | fail):p:=h
theorem kxch {p:Prop} (h:p:=by first | (simp [u8,V.one,V.n]<;>fail;done) | fail):p:=h
theorem kxci {p:Prop} (h:p:=by first | (show 2 - 1<2 - 0;decide;done) | fail):p:=h
theorem kxcj {p:Prop} (h:p:=by first | (show 2 - 2<2 - 1;decide;done) | fail):p:=h
theorem kxck {p:Prop} (h:p:=by first | (rw [fr.gst1];exact hgj;done) | fail):p:=h
theorem kxcl {p:Prop} (h:p:=by first | (simp [hop,Op.operands];done) | fail):p:=h
theorem kxcm {p:Prop} (h:p:=by first | (simp [Sub,get,zaP]<;>fail;done) | fail):p:=h
theorem kxcn {p:Prop} (h:p:=by first | (simp [u8,V.one,V.n];omega;done) | fail):p:=h
inductive V where
 | any
 | bool (b:Bool)
 | int (k:IntKind) (n:Int)
 | str (s:List UInt8)
 | raw (v:Value)
 | sl (l:List V)
 | gs (v:Value) (l:List V)
 | sp (cs:List V)
 | agg (cs:List V)
 | tup (vs:List V)
 | fn (f:Fn) (first captured:List V)
 | ar (v:Value) (n:Nat)
 | ep (v:Value) (k:Nat)
 | sub (sz:Nat) (v:Value) (lo n:Nat)
 deriving Inhabited
def V.cell:V->Nat->V
 | .agg cs,k=>cs.getD k .any
 | v,0=>v
 | _,_=>.any
def V.n:V->Nat
 | .agg cs=>cs.length
 | _=>1
def V.cs:V->List V
 | .agg cs=>cs
 | v=>[v]
def zbb (w:World) (a:Addr):Value:=(w.cell? a).getD undef
def bs (s:List UInt8):ByteArray:=⟨s.toArray⟩
inductive R (S:Addr->Prop) (w:World):Value->V->Prop
 | any (v):R S w v .any
 | bool (b):R S w (.bool b) (.bool b)
 | int (k n):R S w (.int k n) (.int k n)
 | str (s):R S w (.string (bs s)) (.str s)
 | raw (v):R S w v (.raw v)
 | sl (a:Option Addr) (n cap:Nat) (l:List V) (sz:Nat) (hn:n=l.length) (hc:n<=cap) (ha:a=none->l=[])
  (h1:∀ b,a=some b->l≠[]->b.spot=none) (h2:∀ i,i<l.length->(l.getD i .any).n=sz) (h3:∀ b i k,a=some b->i<l.length->k<sz->S ⟨b.block,b.off+i * sz+k,none⟩)
  (h4:∀ b i k,a=some b->i<l.length->k<sz->R S w (zbb w ⟨b.block,b.off+i * sz+k,none⟩) ((l.getD i .any).cell k)):R S w (.slice a n cap) (.sl l)
 | gs (v l) (h:R S w v (.sl l)):R S w v (.gs v l)
 | sp (b:Addr) (cs:List V) (h1:b.spot=none) (h3:∀ k,k<cs.length->S ⟨b.block,b.off+k,none⟩)
  (h4:∀ k,k<cs.length->R S w (zbb w ⟨b.block,b.off+k,none⟩) (cs.getD k .any)):R S w (.pointer (some b)) (.sp cs)
 | agg (xs:Array Value) (cs:List V) (hn:xs.size=cs.length) (h:∀ k,k<cs.length->R S w (xs.getD k undef) (cs.getD k .any)):R S w (.agg xs) (.agg cs)
 | tup (xs:Array Value) (cs:List V) (hn:xs.size=cs.length) (h:∀ k,k<cs.length->R S w (xs.getD k undef) (cs.getD k .any)):R S w (.tuple xs) (.tup cs)
 | fn (f) (xs ys:Array Value) (cs ds:List V) (hn:xs.size=cs.length) (h:∀ k,k<cs.length->R S w (xs.getD k undef) (cs.getD k .any))
  (hm:ys.size=ds.length) (h':∀ k,k<ds.length->R S w (ys.getD k undef) (ds.getD k .any)):R S w (.func f xs ys) (.fn f cs ds)
 | ar (a:Option Addr) (n cap:Nat) (hc:n<=cap) (ha:a=none->cap=0):R S w (.slice a n cap) (.ar (.slice a n cap) n)
 | ep (b:Addr) (n cap k:Nat):R S w (.pointer (some (b.add k))) (.ep (.slice (some b) n cap) k)
 | sub (sz:Nat) (a:Option Addr) (N cap lo n:Nat) (h:lo+n<=cap) (ha:a=none->cap=0):R S w (.slice (if cap=lo then a else a.map (·.add (lo * sz))) n (cap - lo)) (.sub sz (.slice a N cap) lo n)
theorem R.mono {S S':Addr->Prop} {w w':World} {v:Value} {d:V} (h:R S w v d) (hs:∀ a,S a->S' a/\w'.cell? a=w.cell? a):R S' w' v d:=by
 have hc:∀ a,S a->zbb w' a=zbb w a:=fun a ha=>by unfold zbb;rw [(hs a ha).2]
 induction h with
 | any v=>exact .any v
 | bool b=>exact .bool b
 | int k n=>exact .int k n
 | str s=>exact .str s
 | raw v=>exact .raw v
 | sl a n cap l sz hn hcp ha h1 h2 h3 h4 ih =>
  exact .sl a n cap l sz hn hcp ha h1 h2 (fun b i k hb hi hk=>(hs _ (h3 b i k hb hi hk)).1) (fun b i k hb hi hk=>by rw [hc _ (h3 b i k hb hi hk)];exact ih b i k hb hi hk)
 | gs v l _ ih=>exact .gs v l ih
 | sp b cs h1 h3 h4 ih=>exact .sp b cs h1 (fun k hk=>(hs _ (h3 k hk)).1) (fun k hk=>by rw [hc _ (h3 k hk)];exact ih k hk)
 | agg xs cs hn h ih=>exact .agg xs cs hn ih
 | tup xs cs hn h ih=>exact .tup xs cs hn ih
 | fn f xs ys cs ds hn h hm h' ih ih'=>exact .fn f xs ys cs ds hn ih hm ih'
 | ar a n cap hc ha=>exact .ar a n cap hc ha
 | ep b n cap k=>exact .ep b n cap k
 | sub sz a N cap lo n h ha=>exact .sub sz a N cap lo n h ha
inductive Ent where
 | blk (b:Nat) (cs:List V)
 | tail (sz:Nat) (v:Value)
 | map (r:Nat) (m:List (V×V))
 | arr (sz:Nat) (v:Value) (cs:List V)
 | know (b:Nat) (cs:List V)
 | siter (r:Nat) (s:List UInt8) (pos:Nat)
 | miter (r mr:Nat) (m left cur:List (V×V))
 | tb (T:TypeId) (b:Nat) (cs:List V)
 | ba (T:TypeId) (v:Value) (l:List UInt8)
 | row (b:Nat) (o:Obj)
abbrev Own:=List Ent
abbrev loose:Ent:=.know 4000000007 []
def Ent.owns:Ent->Addr->Prop
 | .blk b _,a=>a.block=b
 | .tail sz (.slice (some p) n cap),a=>a.block=p.block/\p.off+n * sz<=a.off/\a.off<p.off+cap * sz
 | .tail _ _,_=>False
 | .map r _,a=>a.block=r
 | .arr sz (.slice (some p) n cap) _,a=>a.block=p.block/\p.off<=a.off/\a.off<p.off+cap * sz
 | .arr _ _ _,_=>False
 | .know _ _,_=>False
 | .siter r _ _,a=>a.block=r
 | .miter r mr _ _ _,a=>a.block=r\/a.block=mr
 | .tb _ b _,a=>a.block=b
 | .ba _ (.slice (some p) _ _) _,a=>a.block=p.block
 | .ba _ _ _,_=>False
 | .row _ _,_=>False
def Ent.touches:Ent->Nat->Prop
 | .blk b _,k=>k=b
 | .tail _ (.slice (some p) _ cap),k=>k=p.block/\cap≠0
 | .tail _ _,_=>False
 | .map r _,k=>k=r
 | .arr _ (.slice (some p) _ cap) _,k=>k=p.block/\cap≠0
 | .arr _ _ _,_=>False
 | .know _ _,_=>False
 | .siter r _ _,k=>k=r
 | .miter r mr _ _ _,k=>k=r\/k=mr
 | .tb _ b _,k=>k=b
 | .ba _ (.slice (some p) _ _) _,k=>k=p.block
 | .ba _ _ _,_=>False
 | .row b _,k=>k=b
theorem Ent.touch {e:Ent} {a:Addr} (h:e.owns a):e.touches a.block:=by
 unfold Ent.owns at h
 unfold Ent.touches
 split at h
 · exact h
 · exact ⟨h.1,fun e=>by have h2:=h.2;rw [e] at h2;omega⟩
 · exact h.elim
 · exact h
 · exact ⟨h.1,fun e=>by have h2:=h.2;rw [e] at h2;omega⟩
 · exact h.elim
 · exact h.elim
 · exact h
 · exact h
 · exact h
 · exact h
 · exact h.elim
 · exact h.elim
def free (fr:Nat×Nat) (_lo hi:Nat):Prop:=fr.1=fr.2\/hi<=fr.1
theorem free.at {fr:Nat×Nat} {lo hi:Nat} (h:free fr lo hi) (k:Nat) (_h1:lo<=k) (h2:k<hi):¬ (fr.1<=k/\k<fr.2):=by
 unfold free at h;omega
def free2 (sz:Nat) (fr:Nat×Nat) (lo hi:Nat):Prop:=free fr lo hi/\(sz≠1->fr.1=fr.2)
def stable (w:World) (H:Own) (a:Addr):Prop:=(w.cell? a).isSome=true/\∀ e∈H,¬ e.owns a
def Ent.holds (S:Addr->Prop) (w:World):Ent->Prop
 | .blk b cs=>∃ xs T fr,w.heap[b]? = some (.cells xs T fr)/\free fr 0 xs.size/\xs.size=cs.length/\∀ k,k<cs.length->R S w (xs.getD k undef) (cs.getD k .any)
 | .tail sz (.slice (some p) n cap)=>n<=cap/\(cap≠0->p.spot=none/\∃ xs T fr,w.heap[p.block]? = some (.cells xs T fr)/\free fr (p.off+n * sz) (p.off+cap * sz)/\p.off+cap * sz<=xs.size)
 | .tail _ (.slice none n cap)=>n=0/\cap=0
 | .tail _ _=>False
 | .map r m=>∃ es:Array MapEntry,∃ clock,w.heap[r]? = some (.map es clock)/\es.size=m.length /\
  (∀ k,k<m.length->R S w (es.getD k default).key (m.getD k (.any, .any)).1/\R S w (es.getD k default).val (m.getD k (.any, .any)).2) /\
  (∀ i j,i<j->j<es.size->(es.getD i default).born<(es.getD j default).born)/\∀ i,i<es.size->(es.getD i default).born<clock
 | .arr sz (.slice (some p) n cap) cs=>n<=cap/\cs.length=n * sz/\(cap≠0->p.spot=none/\∃ xs T fr,w.heap[p.block]? = some (.cells xs T fr)/\free2 sz fr p.off (p.off+cap * sz)/\p.off+cap * sz<=xs.size/\∀ k,k<cs.length->R S w (xs.getD (p.off+k) undef) (cs.getD k .any))
 | .arr _ (.slice none n cap) cs=>n=0/\cap=0/\cs=[]
 | .arr _ _ _=>False
 | .know b cs=>∀ k,k<cs.length->S ⟨b,k,none⟩/\R S w (zbb w ⟨b,k,none⟩) (cs.getD k .any)
 | .siter r s pos=>w.heap[r]? = some (.stringIter (bs s) pos)
 | .miter r mr m left cur=>∃ es:Array MapEntry,∃ clock,w.heap[mr]? = some (.map es clock)/\es.size=m.length /\
  (∀ k,k<m.length->R S w (es.getD k default).key (m.getD k (.any, .any)).1/\R S w (es.getD k default).val (m.getD k (.any, .any)).2) /\
  (∀ i j,i<j->j<es.size->(es.getD i default).born<(es.getD j default).born)/\(∀ i,i<es.size->(es.getD i default).born<clock) /\
  ∃ seen:Array Nat,w.heap[r]? = some (.mapIter (some mr) clock seen clock)/\(es.toList.filter fun e=>!seen.contains e.born).length=left.length /\
  (∀ k,k<left.length->R S w ((es.toList.filter fun e=>!seen.contains e.born).getD k default).key (left.getD k (.any, .any)).1/\R S w ((es.toList.filter fun e=>!seen.contains e.born).getD k default).val (left.getD k (.any, .any)).2) /\
  ∀ x,x∈cur->∃ e,e∈es.toList/\seen.back? = some e.born/\R S w e.key x.1/\R S w e.val x.2
 | .tb T b cs=>∃ xs fr,w.heap[b]? = some (.cells xs T fr)/\free fr 0 xs.size/\xs.size=cs.length/\∀ k,k<cs.length->R S w (xs.getD k undef) (cs.getD k .any)
 | .ba T (.slice (some p) n cap) l=>(p.off=0/\p.spot=none)/\n=l.length/\n<=cap/\cap≠0/\∃ xs fr,w.heap[p.block]? = some (.cells xs T fr)/\fr.1=fr.2/\xs.size=cap/\∀ k,k<l.length->xs.getD k undef = .int .u8 (((l.getD k 0).toNat:Nat):Int)
 | .ba _ (.slice none n cap) l=>n=0/\cap=0/\l=[]
 | .ba _ _ _=>False
 | .row b o=>w.heap[b]? = some o
theorem Ent.holds_mono {S S':Addr->Prop} {w w':World} {e:Ent} (h:e.holds S w) (hs:∀ a,S a->S' a/\w'.cell? a=w.cell? a)
  (hb:∀ b,e.touches b->w'.heap[b]? = w.heap[b]?):e.holds S' w':=by
 cases e with
 | blk b cs =>
  obtain ⟨xs,T,fr,h1,h2,h3,h4⟩:=h
  exact ⟨xs,T,fr,(hb b rfl).trans h1,h2,h3,fun k hk=>(h4 k hk).mono hs⟩
 | tail sz v =>
  cases v with
  | slice a n cap =>
   cases a with
   | none=>exact h
   | some p =>
    obtain ⟨h2,h⟩:=h
    refine ⟨h2,fun hc=>?_⟩
    obtain ⟨h1,xs,T,fr,h3,h4⟩:=h hc
    exact ⟨h1,xs,T,fr,(hb p.block ⟨rfl,hc⟩).trans h3,h4⟩
  | _=>exact h
 | map r m =>
  obtain ⟨es,c,h1,h2,h3,h4⟩:=h
  exact ⟨es,c,(hb r rfl).trans h1,h2,fun k hk=>⟨((h3 k hk).1).mono hs,((h3 k hk).2).mono hs⟩,h4⟩
 | arr sz v cs =>
  cases v with
  | slice a n cap =>
   cases a with
   | none=>exact h
   | some p =>
    obtain ⟨h2,h3,h⟩:=h
    refine ⟨h2,h3,fun hc=>?_⟩
    obtain ⟨h1,xs,T,fr,g1,g2,g3,g4⟩:=h hc
    exact ⟨h1,xs,T,fr,(hb p.block ⟨rfl,hc⟩).trans g1,g2,g3,fun k hk=>(g4 k hk).mono hs⟩
  | _=>exact h
 | know b cs=>exact fun k hk=>⟨(hs _ (h k hk).1).1,by rw [zbb,(hs _ (h k hk).1).2];exact (h k hk).2.mono hs⟩
 | siter r s pos=>exact (hb r rfl).trans h
 | miter r mr m left cur =>
  obtain ⟨es,c,h1,h2,h3,h4,h5,seen,h6,h7,h8,h9⟩:=h
  exact ⟨es,c,(hb mr (.inr rfl)).trans h1,h2,fun k hk=>⟨((h3 k hk).1).mono hs,((h3 k hk).2).mono hs⟩,h4,h5,seen,(hb r (.inl rfl)).trans h6,h7,fun k hk=>⟨((h8 k hk).1).mono hs,((h8 k hk).2).mono hs⟩,fun x hx=>let ⟨e,e1,e2,e3,e4⟩:=h9 x hx;⟨e,e1,e2,e3.mono hs,e4.mono hs⟩⟩
 | tb T b cs =>
  obtain ⟨xs,fr,h1,h2,h3,h4⟩:=h
  exact ⟨xs,fr,(hb b rfl).trans h1,h2,h3,fun k hk=>(h4 k hk).mono hs⟩
 | ba T v l =>
  cases v with
  | slice a n cap =>
   cases a with
   | none=>exact h
   | some p =>
    obtain ⟨h1,h2,h3,h4,xs,fr,g1,g2⟩:=h
    exact ⟨h1,h2,h3,h4,xs,fr,(hb p.block rfl).trans g1,g2⟩
  | _=>exact h
 | row b o=>exact (hb b rfl).trans h
structure Sim (w:World) (H:Own):Prop where
 holds:∀ e∈H,e.holds (stable w H) w
 disj:H.Pairwise (fun e f=>∀ a,e.owns a->¬ f.owns a)
 apart:H.Pairwise (fun e f=>∀ b,e.touches b->¬ f.touches b)
structure Ext (w:World) (H:Own) (w':World) (H':Own):Prop where
 os:w'.os=w.os
 tape:w'.tape=w.tape
 output:w'.output=w.output
 size:w.heap.size<=w'.heap.size
 cells:∀ a,stable w H a->stable w' H' a/\w'.cell? a=w.cell? a
 full:∀ b,b<w.heap.size->(∀ e∈H,¬ e.touches b)->w'.heap[b]? = w.heap[b]? /\ ∀ e∈H',¬ e.touches b
 drawn:loose ∉ H->loose ∉ H'/\w.drawn<=w'.drawn
theorem Ext.refl (w:World) (H:Own):Ext w H w H:=⟨rfl,rfl,rfl,Nat.le_refl _,fun _ h=>⟨h,rfl⟩,fun _ _ h=>⟨rfl,h⟩,fun n=>⟨n,Nat.le_refl _⟩⟩
theorem Ext.trans {w w1 w2:World} {H H1 H2:Own} (h:Ext w H w1 H1) (k:Ext w1 H1 w2 H2):Ext w H w2 H2 :=
 ⟨k.os.trans h.os,k.tape.trans h.tape,k.output.trans h.output,Nat.le_trans h.size k.size,
   fun a ha=>let ⟨s,c⟩:=h.cells a ha;let ⟨s',c'⟩:=k.cells a s;⟨s',c'.trans c⟩,
   fun b hb hn=>let ⟨s,c⟩:=h.full b hb hn;let ⟨s',c'⟩:=k.full b (Nat.lt_of_lt_of_le hb h.size) c;⟨s'.trans s,c'⟩,fun n=>let ⟨n1,d1⟩:=h.drawn n;let ⟨n2,d2⟩:=k.drawn n1;⟨n2,Nat.le_trans d1 d2⟩⟩
theorem Ext.rel {w w':World} {H H':Own} (h:Ext w H w' H') {v:Value} {d:V} (r:R (stable w H) w v d):R (stable w' H') w' v d:=r.mono h.cells
theorem Ext.below {w w':World} {H':Own} (h:Ext w [] w' H'):Below w.heap.size w w':=⟨h.os,h.tape,h.output,h.size,fun b hb=>(h.full b hb (by simp)).1⟩
theorem stable.lt {w:World} {H:Own} {a:Addr} (h:stable w H a):a.block<w.heap.size:=by
 obtain ⟨v,hv⟩:=Option.isSome_iff_exists.1 h.1
 exact World.block_lt_of_cell? w a hv
theorem stable.drop {w:World} {H H':Own} (hs:∀ e∈H',e∈H) {a:Addr} (h:stable w H a):stable w H' a:=⟨h.1,fun e he=>h.2 e (hs e he)⟩
theorem Ext.drop {w:World} {H H':Own} (hs:∀ e∈H',e∈H):Ext w H w H' :=
 ⟨rfl,rfl,rfl,Nat.le_refl _,fun _ h=>⟨h.drop hs,rfl⟩,fun _ _ h=>⟨rfl,fun e he=>h e (hs e he)⟩,fun n=>⟨fun h=>n (hs _ h),Nat.le_refl _⟩⟩
theorem Sim.drop {w:World} {H H':Own} (h:Sim w H) (hs:H'.Sublist H):Sim w H' where
 holds e he:=by
  exact Ent.holds_mono (h.holds e (hs.subset he)) (fun a ha=>⟨ha.drop fun e he=>hs.subset he,rfl⟩) (fun _ _=>rfl)
 disj:=h.disj.sublist hs
 apart:=h.apart.sublist hs
abbrev Env:=List (Nat×V)
def get:Env->Nat->V
 | [],_=>.any
 | (k,v)::e,t=>if t=k then v else get e t
def put:Env->Nat->V->Env
 | [],t,x=>[(t,x)]
 | (k,v)::e,t,x=>if t=k then (k,x)::e else (k,v)::put e t x
theorem zcf:∀ (e:Env) (t:Nat) (x:V),get (put e t x) t=x
 | [],t,x=>by simp [put,get]
 | (k,v)::e,t,x=>by
  unfold put
  split
  · rename_i h;subst h;simp [get]
  · rename_i h;simp only [get,if_neg h];exact zcf e t x
theorem zcR:∀ (e:Env) (t u:Nat) (x:V),u≠t->get (put e t x) u=get e u
 | [],t,u,x,h=>by simp [put,get,h]
 | (k,v)::e,t,u,x,h=>by
  unfold put
  split
  · rename_i h';subst h';simp [get,h]
  · simp only [get];rw [zcR e t u x h]
def zby:Value->V
 | .bool b=>.bool b
 | .int k n=>.int k n
 | .string s=>.str s.data.toList
 | .slice none 0 0=>.gs (.slice none 0 0) []
 | v=>.raw v
def zdo:Value->V
 | .agg cs=>.agg (cs.toList.map zby)
 | v=>zby v
def opd (e:Env):Operand->V
 | .tmp t=>get e t
 | .const v=>zdo v
 | .global g=>.raw (.pointer (some ⟨g,0,none⟩))
 | .func f=>.fn (.func f) [] []
theorem R.nil (S:Addr->Prop) (w:World):R S w (.slice none 0 0) (.gs (.slice none 0 0) []) :=
 .gs _ _ (.sl none 0 0 [] 0 rfl (Nat.le_refl _) (fun _=>rfl) (fun _ h _=>nomatch h) (fun _ h=>absurd h (Nat.not_lt_zero _)) (fun _ _ _ h=>nomatch h) (fun _ _ _ h=>nomatch h))
theorem R.skipped (S:Addr->Prop) (w:World):R S w undef (.tup []):=.tup #[] [] rfl (fun _ h=>absurd h (Nat.not_lt_zero _))
theorem R.const1 (S:Addr->Prop) (w:World) (v:Value):R S w v (zby v):=by
 unfold zby
 split
 · exact .bool _
 · exact .int _ _
 · rename_i s
   have:s=bs s.data.toList:=by cases s;rfl
   exact this ▸ .str _
 · exact R.nil S w
 · exact .raw _
theorem R.const (S:Addr->Prop) (w:World) (v:Value):R S w v (zdo v):=by
 unfold zdo
 split
 · rename_i cs
   refine .agg _ _ (by simp) (fun k hk=>?_)
   have hk':k<cs.size:=by simpa using hk
   have:=R.const1 S w cs[k]
   simpa [Array.getD_eq_getD_getElem?,hk',List.getD_eq_getElem?_getD] using this
 · exact R.const1 S w v
structure RE (n:Nat) (w:World) (H:Own) (tmps:Array Value) (e:Env):Prop where
 size:tmps.size=n
 slot:∀ t,R (stable w H) w (tmps.getD t undef) (get e t)
theorem RE.opd {n:Nat} {w:World} {H:Own} {a:Act} {e:Env} (h:RE n w H a.tmps e) (x:Operand):R (stable w H) w (a.eval x) (opd e x):=by
 cases x with
 | tmp t=>exact h.slot t
 | const v=>exact R.const _ _ v
 | global g=>exact .raw _
 | func f=>exact .fn _ _ _ _ _ rfl (fun _ h=>absurd h (Nat.not_lt_zero _)) rfl (fun _ h=>absurd h (Nat.not_lt_zero _))
theorem RE.ext {n:Nat} {w w':World} {H H':Own} {tmps:Array Value} {e:Env} (h:RE n w H tmps e) (x:Ext w H w' H'):RE n w' H' tmps e:=⟨h.size,fun t=>x.rel (h.slot t)⟩
theorem RE.put {n:Nat} {w:World} {H:Own} {a:Act} {e:Env} (h:RE n w H a.tmps e) {t:Nat} (ht:t<n) {v:Value} {d:V} (r:R (stable w H) w v d):RE n w H (a.put (some t) v).tmps (put e t d) where
 size:=by simpa [Act.put] using h.size
 slot u:=by
  by_cases hu:u=t
  · subst hu
    have:(a.put (some u) v).tmps.getD u undef=v:=by
     have:=h.size;simp [Act.put,Array.getD_eq_getD_getElem?,Array.getElem?_setIfInBounds,this,ht]
    rw [this,zcf];exact r
  · have:(a.put (some t) v).tmps.getD u undef=a.tmps.getD u undef:=by
     simp [Act.put,Array.getD_eq_getD_getElem?,Array.getElem?_setIfInBounds,Ne.symm hu]
    rw [this,zcR _ _ _ _ hu];exact h.slot u
theorem RE.weak {n:Nat} {w:World} {H:Own} {tmps:Array Value} {e e':Env} (h:RE n w H tmps e) (hw:∀ t,get e' t=get e t\/get e' t = .any):RE n w H tmps e' :=
 ⟨h.size,fun t=>by
   rcases hw t with h' | h'
   · rw [h'];exact h.slot t
   · rw [h'];exact .any _⟩
end Go.Proofs.YtgekknefphagbaaGreatDoor
namespace Go.Proofs.YtgekknefphagbaaGreatDoor
open Go.RowKit
set_option linter.unusedSimpArgs false
set_option linter.unusedVariables false
def DOp (P:Program) (o:Oper) (f:Operand->V) (H:Own) (K:V->Own->Prop):Prop :=
 ∀ (a:Act) (w:World) (next:Act->World->Prop) (Q:Exit->Act->World->Prop),Sim w H->(∀ x,x∈o.op.operands->R (stable w H) w (a.eval x) (f x)) ->
  (∀ v w' d H',Sim w' H'->Ext w H w' H'->R (stable w' H') w' v d->K d H'->next (a.put o.dst v) w')->o.wp P a w next Q
theorem DOp.mono {P:Program} {o:Oper} {f:Operand->V} {H:Own} {K K':V->Own->Prop} (h:DOp P o f H K) (hk:∀ d H',K d H'->K' d H'):DOp P o f H K' :=
 fun a w next Q hs hr hn=>h a w next Q hs hr fun v w' d H' s x r k=>hn v w' d H' s x r (hk d H' k)
def putO (e:Env):Option Nat->V->Env
 | some t,d=>put e t d
 | none,_=>e
theorem RE.putO {n:Nat} {w:World} {H:Own} {a:Act} {e:Env} (h:RE n w H a.tmps e) {t:Option Nat} (ht:t.all (· < n)=true) {v:Value} {d:V} (r:R (stable w H) w v d):RE n w H (a.put t v).tmps (putO e t d):=by
 cases t with
 | none=>exact h
 | some t=>exact h.put (by simpa using ht) r
def gval (ops:Array Oper) (e:Env) (j:Nat):V :=
 match (ops[j]?).bind (·.dst) with
 | some t=>get e t
 | none=>.any
def onB:V->Bool->Prop->Prop->Prop
 | .bool b,want,x,y=>if b=want then x else y
 | .tup _,_,_,y=>y
 | _,_,_,_=>False
def SeqD (P:Program) (ops:Array Oper) (K:Env->Own->Prop):List Oper->Env->Own->Prop
 | [],e,H=>K e H
 | o::rest,e,H =>
  match o.guard with
  | none=>DOp P o (opd e) H fun d H'=>SeqD P ops K rest (putO e o.dst d) H'
  | some (j,want)=>onB (gval ops e j) want (DOp P o (opd e) H fun d H'=>SeqD P ops K rest (putO e o.dst d) H') (SeqD P ops K rest (putO e o.dst (.tup [])) H)
def dstB (n:Nat) (ops:List Oper):Bool:=ops.all fun o=>o.dst.all (· < n)
theorem znN {ops:Array Oper} {n:Nat} {w:World} {H:Own} {a:Act} {e:Env} (h:RE n w H a.tmps e) {o:Oper} {j:Nat} {want b:Bool} (hg:o.guard=some (j,want)) (hb:gval ops e j = .bool b) :
  Region.wanted o (yielded ops a.tmps)=(b==want):=by
 unfold Region.wanted yielded
 rw [hg]
 unfold gval at hb
 cases hd:(ops[j]?).bind (·.dst) with
 | none=>rw [hd] at hb;cases hb
 | some t =>
  rw [hd] at hb
  have hr:=h.slot t
  simp only at hb
  rw [hb] at hr
  have hv:a.tmps.getD t undef = .bool b:=by generalize a.tmps.getD t undef=v at hr;cases hr;rfl
  simp only [Array.getD_eq_getD_getElem?] at hv
  simp only [hd,Option.bind_some]
  cases ht:a.tmps[t]? with
  | none=>rw [ht] at hv;cases hv
  | some u =>
   rw [ht] at hv
   simp only [Option.getD_some] at hv
   subst hv
   cases b<;>cases want<;>rfl
theorem zl1 {ops:Array Oper} {n:Nat} {w:World} {H:Own} {a:Act} {e:Env} (h:RE n w H a.tmps e) {o:Oper} {j:Nat} {want:Bool} {ds:List V} (hg:o.guard=some (j,want)) (hb:gval ops e j = .tup ds):Region.wanted o (yielded ops a.tmps)=false:=by
 unfold Region.wanted
 rw [hg]
 unfold yielded
 unfold gval at hb
 cases hd:(ops[j]?).bind (·.dst) with
 | none=>rw [hd] at hb;cases hb
 | some t =>
  rw [hd] at hb
  have hr:=h.slot t
  simp only at hb
  rw [hb] at hr
  have hv:∃ xs,a.tmps.getD t undef = .tuple xs:=by generalize a.tmps.getD t undef=v at hr;cases hr;exact ⟨_,rfl⟩
  obtain ⟨xs,hv⟩:=hv
  simp only [Array.getD_eq_getD_getElem?] at hv
  simp only [hd,Option.bind_some]
  cases ht:a.tmps[t]? with
  | none=>cases want<;>rfl
  | some u =>
   rw [ht] at hv
   simp only [Option.getD_some] at hv
   subst hv
   cases want<;>rfl
theorem SeqD.sound {P:Program} {ops:Array Oper} {K:Env->Own->Prop} {n:Nat} {Q:Exit->Act->World->Prop}:∀ (l:List Oper) (e:Env) (H:Own) (a:Act) (w:World),dstB n l=true->SeqD P ops K l e H->Sim w H->RE n w H a.tmps e ->
  (∀ a' w' e' H',a'.defers=a.defers->Sim w' H'->RE n w' H' a'.tmps e'->Ext w H w' H'->K e' H'->Q .normal a' w')->wpList P ops Q l a w
 | [],e,H,a,w,_,h,hs,hr,hq=>hq a w e H rfl hs hr (.refl _ _) h
 | o::rest,e,H,a,w,hd,h,hs,hr,hq=>by
  have hd1:o.dst.all (· < n)=true:=by simp [dstB] at hd;simpa using hd.1
  have hd2:dstB n rest=true:=by simp [dstB] at hd ⊢;exact hd.2
  have run:∀ (h:DOp P o (opd e) H fun d H'=>SeqD P ops K rest (putO e o.dst d) H'),o.wp P a w (wpList P ops Q rest) Q:=fun h =>
   h a w _ Q hs (fun x _=>hr.opd x) fun v w' d H' s x r k=>SeqD.sound rest _ _ _ _ hd2 k s ((hr.ext x).putO hd1 r) fun a' w'' e' H'' hdf s' r' x' k'=>hq a' w'' e' H'' (by rw [hdf];cases o.dst<;>rfl) s' r' (x.trans x') k'
  have skip:∀ (h:SeqD P ops K rest (putO e o.dst (.tup [])) H),wpList P ops Q rest (a.put o.dst undef) w:=fun h =>
   SeqD.sound rest _ _ _ _ hd2 h hs (hr.putO hd1 (R.skipped _ _)) fun a' w'' e' H'' hdf s' r' x' k'=>hq a' w'' e' H'' (by rw [hdf];cases o.dst<;>rfl) s' r' x' k'
  unfold wpList
  unfold SeqD at h
  cases hg:o.guard with
  | none =>
   rw [hg] at h
   have hw:Region.wanted o (yielded ops a.tmps)=true:=by unfold Region.wanted;rw [hg]
   rw [if_pos hw]
   exact .inl (run h)
  | some jw =>
   obtain ⟨j,want⟩:=jw
   rw [hg] at h
   simp only at h
   cases hb:gval ops e j with
   | bool b =>
    rw [hb] at h
    have hw:=znN hr hg hb
    unfold onB at h
    simp only at h
    rw [hw]
    by_cases hbw:b=want
    · rw [if_pos hbw] at h
      rw [if_pos (by simp [hbw])]
      exact .inl (run h)
    · rw [if_neg hbw] at h
      rw [if_neg (by simp [hbw])]
      exact skip h
   | tup ds =>
    rw [hb] at h
    rw [zl1 hr hg hb,if_neg Bool.false_ne_true]
    exact skip h
   | _=>rw [hb] at h;exact h.elim
def DW (P:Program) (n:Nat) (c:Code) (Q:Exit->Env->Own->Prop) (e:Env) (H:Own):Prop :=
 ∀ a w,Sim w H->RE n w H a.tmps e->c.wp P (fun x a' w'=>a'.defers=a.defers/\∃ e' H',Sim w' H'/\RE n w' H' a'.tmps e'/\Ext w H w' H'/\Q x e' H') a w
section
variable {P:Program} {n:Nat} {Q:Exit->Env->Own->Prop} {e:Env} {H:Own}
theorem DW.mono {c:Code} {Q':Exit->Env->Own->Prop} (h:DW P n c Q e H) (hq:∀ x e H,Q x e H->Q' x e H):DW P n c Q' e H :=
 fun a w hs hr=>wp_mono (h a w hs hr) fun x a' w' ⟨hd,e',H',s,r,ex,q⟩=>⟨hd,e',H',s,r,ex,hq _ _ _ q⟩
theorem DW.skip (h:Q .normal e H):DW P n .skip Q e H:=fun a w hs hr=>wp_skip ⟨rfl,e,H,hs,hr, .refl _ _,h⟩
theorem DW.exit {id:Nat} (h:Q (.exit id) e H):DW P n (.exit id) Q e H:=fun a w hs hr=>wp_exit ⟨rfl,e,H,hs,hr, .refl _ _,h⟩
theorem DW.ret (h:Q .ret e H):DW P n .ret Q e H:=fun a w hs hr=>wp_ret ⟨rfl,e,H,hs,hr, .refl _ _,h⟩
def zfC (next:Env->Own->Prop) (Q:Exit->Env->Own->Prop):Exit->Env->Own->Prop
 | .normal,e,H=>next e H
 | x,e,H=>Q x e H
theorem DW.seq {x y:Code} (h:DW P n x (zfC (DW P n y Q) Q) e H):DW P n (.seq x y) Q e H:=fun a w hs hr=>by
 refine wp_seq (wp_mono (h a w hs hr) fun ex a1 w1 ⟨hd,e1,H1,s,r,x1,q⟩=>?_)
 cases ex with
 | normal =>
  refine wp_mono (q a1 w1 s r) fun ex a2 w2 ⟨hd2,e2,H2,s2,r2,x2,q2⟩=>?_
  exact ⟨hd2.trans hd,e2,H2,s2,r2,x1.trans x2,q2⟩
 | _=>exact ⟨hd,e1,H1,s,r,x1,q⟩
theorem DW.cond {c:Operand} {x y:Code} {b:Bool} (hc:opd e c = .bool b) (ht:b=true->DW P n x Q e H) (hf:b=false->DW P n y Q e H):DW P n (.cond c x y) Q e H:=fun a w hs hr=>by
 have hv:=hr.opd c
 rw [hc] at hv
 have hv:a.eval c = .bool b:=by generalize a.eval c=v at hv;cases hv;rfl
 exact wp_cond_split hv (fun h=>ht h a w hs hr) (fun h=>hf h a w hs hr)
def zdF (id:Nat) (Q:Exit->Env->Own->Prop):Exit->Env->Own->Prop
 | .exit id',e,H=>if id'=id then Q .normal e H else Q (.exit id') e H
 | x,e,H=>Q x e H
theorem DW.block {id:Nat} {c:Code} (h:DW P n c (zdF id Q) e H):DW P n (.block id c) Q e H:=fun a w hs hr=>by
 refine wp_block (wp_mono (h a w hs hr) fun ex a1 w1 ⟨hd,e1,H1,s,r,x1,q⟩=>?_)
 cases ex with
 | exit id' =>
  simp only [Exit.inBlock,zdF] at q ⊢
  by_cases hid:id'=id
  · rw [if_pos hid] at q;rw [if_pos hid];exact ⟨hd,e1,H1,s,r,x1,q⟩
  · rw [if_neg hid] at q;rw [if_neg hid];exact ⟨hd,e1,H1,s,r,x1,q⟩
 | _=>exact ⟨hd,e1,H1,s,r,x1,q⟩
theorem DW.loop {c:Code} (I:Env->Own->Prop) (m:Env->Own->Nat) (h0:I e H)
  (round:∀ e H,I e H->DW P n c (zfC (fun e' H'=>I e' H'/\m e' H'<m e H) Q) e H):DW P n (.loop c) Q e H:=fun a w hs hr=>by
 intro b k cs
 have key:∀ N e1 H1 a1 w1,m e1 H1=N->I e1 H1->Sim w1 H1->RE n w1 H1 a1.tmps e1->Ext w H w1 H1->a1.defers=a.defers ->
   ∃ x a' w',(a'.defers=a.defers/\∃ e' H',Sim w' H'/\RE n w' H' a'.tmps e'/\Ext w H w' H'/\Q x e' H')/\Arrives P (lone (b.at a1 (.code c :: .inLoop c::k)) cs w1) b k cs x a' w':=by
  intro N
  induction N using Nat.strongRecOn with
  | _ N ih =>
   intro e1 H1 a1 w1 hN hI hs1 hr1 hx1 hd1
   obtain ⟨x,a2,w2,⟨hd2,e2,H2,s2,r2,x2,q2⟩,harr⟩:=round e1 H1 hI a1 w1 hs1 hr1 b (.inLoop c::k) cs
   cases x with
   | normal =>
    obtain ⟨x',a3,w3,hq3,harr3⟩:=ih (m e2 H2) (hN▸q2.2) e2 H2 a2 w2 rfl q2.1 s2 r2 (hx1.trans x2) (hd2.trans hd1)
    exact ⟨x',a3,w3,hq3, .of_steps (Steps.trans harr (.one step_inLoop)) harr3⟩
   | exit id=>exact ⟨_,a2,w2,⟨hd2.trans hd1,e2,H2,s2,r2,hx1.trans x2,q2⟩, .pass (x:=.inLoop c) rfl (fun _ _=>.inl (by simp)) harr⟩
   | goto l=>exact ⟨_,a2,w2,⟨hd2.trans hd1,e2,H2,s2,r2,hx1.trans x2,q2⟩, .pass (x:=.inLoop c) rfl (fun _ _=>.inl (by simp)) harr⟩
   | ret=>exact ⟨_,a2,w2,⟨hd2.trans hd1,e2,H2,s2,r2,hx1.trans x2,q2⟩, .pass (x:=.inLoop c) rfl (fun _ _=>.inl (by simp)) harr⟩
   | panic ch=>exact ⟨_,a2,w2,⟨hd2.trans hd1,e2,H2,s2,r2,hx1.trans x2,q2⟩, .pass (x:=.inLoop c) rfl (fun _ _=>.inl (by simp)) harr⟩
   | outgrown=>exact ⟨_,a2,w2,⟨hd2.trans hd1,e2,H2,s2,r2,hx1.trans x2,q2⟩, .pass (x:=.inLoop c) rfl (fun _ _=>.inl (by simp)) harr⟩
 obtain ⟨x,a',w',hq,harr⟩:=key _ e H a w rfl h0 hs hr (.refl _ _) rfl
 exact ⟨x,a',w',hq, .of_steps (.one step_loop) harr⟩
theorem DW.weak {c:Code} (e':Env) (H':Own) (he:∀ t,get e' t=get e t\/get e' t = .any) (hH:H'.Sublist H) (h:DW P n c Q e' H'):DW P n c Q e H:=fun a w hs hr =>
 wp_mono (h a w (hs.drop hH) ((hr.ext (Ext.drop fun x hx=>hH.subset hx)).weak he)) fun x a1 w1 ⟨hd,e1,H1,s,r,x1,q⟩=>⟨hd,e1,H1,s,r,(Ext.drop fun x hx=>hH.subset hx).trans x1,q⟩
theorem DW.region {id:Nat} {l:List Oper} (hd:dstB n l=true) (h:SeqD P l.toArray (Q .normal) l e H):DW P n (.region id l.toArray false) Q e H:=fun a w hs hr =>
 wp_region_list (SeqD.sound l e H a w hd h hs hr fun a' w' e' H' hd' s r x k=>⟨hd',e',H',s,r,x,k⟩)
end
def zdL (P:Program) (f:FuncId):Bool :=
 match P.funcs[f]? with
 | some fn=>fn.body.isSome&&fn.name != "runtime.NumGoroutine"
 | none=>false
def DC (P:Program) (f:FuncId) (args:List V) (H:Own) (K:V->Own->Prop):Prop :=
 zdL P f=true/\∀ (xs:Array Value) (w:World),Sim w H->xs.size=args.length->(∀ k,k<args.length->R (stable w H) w (xs.getD k undef) (args.getD k .any)) ->
  Calls P f xs w fun x w'=>∃ v d H',x = .returned v/\Sim w' H'/\Ext w H w' H'/\R (stable w' H') w' v d/\K d H'
theorem DC.mono {P:Program} {f:FuncId} {args:List V} {H:Own} {K K':V->Own->Prop} (h:DC P f args H K) (hk:∀ d H',K d H'->K' d H'):DC P f args H K' :=
 ⟨h.1,fun xs w hs hn hr=>(h.2 xs w hs hn hr).mono fun x w' ⟨v,d,H',he,s,ex,r,k⟩=>⟨v,d,H',he,s,ex,r,hk _ _ k⟩⟩
theorem DC.weak {P:Program} {f:FuncId} {args:List V} {H H':Own} {K:V->Own->Prop} (hH:H'.Sublist H) (h:DC P f args H' K):DC P f args H K :=
 ⟨h.1,fun xs w hs hn hr=>(h.2 xs w (hs.drop hH) hn fun k hk=>(Ext.drop fun x hx=>hH.subset hx).rel (hr k hk)).mono fun x w' ⟨v,d,H1,he,s,ex,r,k⟩=>⟨v,d,H1,he,s,(Ext.drop fun x hx=>hH.subset hx).trans ex,r,k⟩⟩
def env0:Nat->List V->Env
 | _,[]=>[]
 | k,d::l=>(k,d)::env0 (k+1) l
theorem zhr:∀ (l:List V) (k t:Nat),get (env0 k l) (k+t)=l.getD t .any
 | [],_,_=>rfl
 | d::l,k,0=>by simp [env0,get]
 | d::l,k,t+1=>by
  have:=zhr l (k+1) t
  simp only [env0,get,if_neg (show k+(t+1)≠k by omega),List.getD_cons_succ]
  rw [<-this,show k+1+t=k+(t+1) by omega]
def retV (e:Env):List ResultVar->Option (List V)
 | []=>some []
 | .tmp t::l=>(retV e l).map (get e t :: ·)
 | .cell _ _::_=>none
inductive RetR (P:Program) (e:Env) (H:Own):List ResultVar->List V->Prop
 | nil:RetR P e H [] []
 | tmp {t:Nat} {l:List ResultVar} {ds:List V} (h:RetR P e H l ds):RetR P e H (.tmp t::l) (get e t::ds)
 | cell {a:Nat} {t:TypeId} {l:List ResultVar} {d:V} {ds:List V} (h1:∀ w v,Sim w H->R (stable w H) w v (get e a)->∃ u,(do loadVar t (<-asAddr v):Sem Value).run P w = .ok u w/\R (stable w H) w u d) (h:RetR P e H l ds):RetR P e H (.cell a t::l) (d::ds)
theorem RetR.of {P:Program} {e:Env} {H:Own}:∀ {l:List ResultVar} {ds:List V},retV e l=some ds->RetR P e H l ds
 | [],ds,h=>by have:ds=[]:=by simpa [retV] using h.symm
               subst this;exact .nil
 | .tmp t::l,ds,h=>by
  cases h':retV e l with
  | none=>simp [retV,h'] at h
  | some ds' =>
   have hds:ds=get e t::ds':=by simpa [retV,h'] using h.symm
   subst hds
   exact .tmp (RetR.of h')
 | .cell _ _::_,ds,h=>by simp [retV] at h
def one_:List V->V
 | [d]=>d
 | l=>.tup l
def znv (tmps:Array Value):ResultVar->Sem Value
 | .tmp t=>pure (tmps.getD t undef)
 | .cell a t=>do loadVar t (<-asAddr (tmps.getD a undef))
theorem zib {P:Program} {w:World} {n:Nat} {H:Own} {tmps:Array Value} {e:Env} (hs:Sim w H) (hr:RE n w H tmps e):∀ (l:List ResultVar) (ds:List V),RetR P e H l ds ->
  ∃ vs:List Value,(l.mapM (m:=Sem) (znv tmps)).run P w = .ok vs w/\vs.length=ds.length/\∀ k,k<ds.length->R (stable w H) w (vs.getD k undef) (ds.getD k .any)
 | [],_, .nil=>⟨[],by simp [Sem.run,pure],rfl,fun k hk=>absurd hk (Nat.not_lt_zero _)⟩
 | .cell a t::l,_, .cell hc h'=>by
  obtain ⟨vs,h1,h2,h3⟩:=zib (P:=P) hs hr l _ h'
  obtain ⟨u,u1,u2⟩:=hc w _ hs (hr.slot a)
  refine ⟨u::vs,?_,by simp [h2],fun k hk=>?_⟩
  · rw [List.mapM_cons,Sem.run_bind]
    show ((do loadVar t (<-asAddr (tmps.getD a undef)):Sem Value).run P w).andThen _=_
    rw [u1]
    simp only [Result.andThen,Sem.run_bind,h1,Sem.run_pure]
  · cases k with
    | zero=>simpa using u2
    | succ k=>simpa using h3 k (by simpa using hk)
 | .tmp t::l,_, .tmp h'=>by
  obtain ⟨vs,h1,h2,h3⟩:=zib (P:=P) hs hr l _ h'
  refine ⟨tmps.getD t undef::vs,?_,by simp [h2],fun k hk=>?_⟩
  · rw [List.mapM_cons,Sem.run_bind]
    show ((Sem.pure _).run P w).andThen _=_
    simp only [Sem.run_pure',Result.andThen,Sem.run_bind,h1,Sem.run_pure]
  · cases k with
    | zero=>simpa using hr.slot t
    | succ k=>simpa using h3 k (by simpa using hk)
theorem zjR {P:Program} {w:World} {n:Nat} {H:Own} {tmps:Array Value} {e:Env} (hs:Sim w H) (hr:RE n w H tmps e) (fn:Func) (ds:List V) (h:RetR P e H fn.results.toList ds) :
  ∃ v,(results fn tmps).run P w = .ok v w/\R (stable w H) w v (one_ ds):=by
 obtain ⟨vs,h1,h2,h3⟩:=zib (P:=P) hs hr _ ds h
 have e1:(fn.results.mapM (m:=Sem) (znv tmps)).run P w = .ok vs.toArray w:=by
  rw [Array.mapM_eq_mapM_toList]
  simp [h1]
 have e2:(results fn tmps).run P w = .ok (if h:vs.toArray.size=1 then vs.toArray[0] else .tuple vs.toArray) w:=by
  show ((fn.results.mapM (m:=Sem) (znv tmps) >>= fun vs=>pure (if h:vs.size=1 then vs[0] else .tuple vs):Sem Value)).run P w=_
  rw [Sem.run_bind,e1]
  rfl
 refine ⟨_,e2,?_⟩
 match ds,vs,h2,h3 with
 | [d],[v],_,h3=>simpa [one_] using h3 0 (by simp)
 | [],[],_,_=>exact .tup _ _ rfl (fun k hk=>absurd hk (Nat.not_lt_zero _))
 | d::d'::ds,v::v'::vs,h2,h3 =>
  simp only [one_,List.size_toArray,List.length_cons]
  rw [dif_neg (by omega)]
  exact .tup _ _ (by simpa using h2) (fun k hk=>by simpa [Array.getD_eq_getD_getElem?,List.getD_eq_getElem?_getD] using h3 k hk)
def retQ (P:Program) (fn:Func) (K:V->Own->Prop):Exit->Env->Own->Prop
 | .normal,e,H | .ret,e,H=>∃ ds,RetR P e H fn.results.toList ds/\K (one_ ds) H
 | _,_,_=>False
theorem DC.body {P:Program} {f:FuncId} {fn:Func} {c:Code} {args:List V} {H:Own} {K:V->Own->Prop} (hf:P.funcs[f]? = some fn) (hb:fn.body=some c) (hn:(fn.name != "runtime.NumGoroutine")=true)
  (h:DW P (args.length+(fn.ntmps - args.length)) c (retQ P fn K) (env0 0 args) H):DC P f args H K:=by
 refine ⟨by unfold zdL;rw [hf];simp only [hb,Option.isSome_some,Bool.true_and];exact hn,fun xs w hs hx hr=>?_⟩
 refine calls_of_wp hf hb ?_
 refine wp_mono (h { tmps:=xs++Array.replicate (fn.ntmps - xs.size) undef,defers:=[] } w hs ⟨by simp [hx],fun t=>?_⟩) fun x a' w' ⟨hd,e',H',s,r,ex,q⟩=>?_
 · rcases Nat.lt_or_ge t args.length with ht | ht
   · have:=zhr args 0 t
     rw [Nat.zero_add] at this
     rw [this]
     have:(xs++Array.replicate (fn.ntmps - xs.size) undef).getD t undef=xs.getD t undef:=by
      simp only [Array.getD_eq_getD_getElem?,Array.getElem?_append]
      rw [if_pos (by omega)]
     rw [this]
     exact hr t ht
   · have:=zhr args 0 t
     rw [Nat.zero_add] at this
     rw [this,List.getD_eq_getElem?_getD,List.getElem?_eq_none ht]
     exact .any _
 · have done:(∃ ds,RetR P e' H' fn.results.toList ds/\K (one_ ds) H')->a'.defers=[]/\∃ v,(results fn a'.tmps).run P w' = .ok v w'/\∃ v' d H'',Ending.returned v = .returned v'/\Sim w' H''/\Ext w H w' H''/\R (stable w' H'') w' v' d/\K d H'':=fun ⟨ds,h1,h2⟩=>by
    obtain ⟨v,g1,g2⟩:=zjR (P:=P) s r fn ds h1
    exact ⟨hd,v,g1,v,_,H',rfl,s,ex,g2,h2⟩
   cases x with
   | normal=>exact done q
   | ret=>exact done q
   | _=>exact q.elim
end Go.Proofs.YtgekknefphagbaaGreatDoor
namespace Go.Proofs.YtgekknefphagbaaGreatDoor
open Go.RowKit
set_option linter.unusedSimpArgs false
set_option linter.unusedVariables false
set_option linter.unusedSectionVars false
def zjg (ops:Array Oper):Nat->Nat->Nat->Prop
 | 0,k,j=>Region.waitsFor .any ops k j=true
 | f+1,k,j=>∃ m,Region.waitsFor .any ops k m=true/\zjg ops f m j
def After (ops:Array Oper) (k j:Nat):Prop:=∃ f,zjg ops f k j
theorem After.one {ops:Array Oper} {k j:Nat} (h:Region.waitsFor .any ops k j=true):After ops k j:=⟨0,h⟩
theorem After.step {ops:Array Oper} {k m j:Nat} (h:Region.waitsFor .any ops k m=true) (h':After ops m j):After ops k j:=h'.elim fun f hf=>⟨f+1,m,h,hf⟩
def zir (acc:List Nat) (o:Oper):Nat:=o.after.toList.foldr (fun e s=>if Region.binds .any e then s|||2 ^ e.on|||acc.getD e.on 0 else s) 0
def masks (ops:List Oper):List Nat:=ops.foldl (fun acc o=>acc++[zir acc o]) []
theorem zlH {acc:List Nat} {o:Oper} {i:Nat} (h:(zir acc o).testBit i=true):∃ e∈o.after.toList,Region.binds .any e=true/\(e.on=i\/(acc.getD e.on 0).testBit i=true):=by
 unfold zir at h
 generalize o.after.toList=l at h
 induction l with
 | nil=>simp at h
 | cons e l ih =>
  simp only [List.foldr_cons] at h
  split at h
  · rename_i hb
    simp only [Nat.testBit_or,Bool.or_eq_true,Nat.testBit_two_pow,decide_eq_true_eq] at h
    rcases h with (h | h) | h
    · obtain ⟨e',h1,h2⟩:=ih h;exact ⟨e',List.mem_cons_of_mem _ h1,h2⟩
    · exact ⟨e,List.mem_cons_self,hb, .inl h⟩
    · exact ⟨e,List.mem_cons_self,hb, .inr h⟩
  · obtain ⟨e',h1,h2⟩:=ih h;exact ⟨e',List.mem_cons_of_mem _ h1,h2⟩
theorem zgG (ops:List Oper):∀ (l pre:List Oper) (acc:List Nat),pre++l=ops->acc.length=pre.length->(∀ j i,(acc.getD j 0).testBit i=true->After ops.toArray j i) ->
  ∀ j i,((l.foldl (fun acc o=>acc++[zir acc o]) acc).getD j 0).testBit i=true->After ops.toArray j i
 | [],_,_,_,_,h=>h
 | o::l,pre,acc,he,hl,h=>by
  refine zgG ops l (pre++[o]) (acc++[zir acc o]) (by simp [he]) (by simp [hl]) fun j i hb=>?_
  rcases Nat.lt_or_ge j acc.length with hj | hj
  · rw [List.getD_eq_getElem?_getD,List.getElem?_append_left hj,<-List.getD_eq_getElem?_getD] at hb
    exact h j i hb
  · by_cases hj':j=acc.length
    · subst hj'
      rw [List.getD_eq_getElem?_getD,List.getElem?_append_right (Nat.le_refl _)] at hb
      simp only [Nat.sub_self,List.getElem?_cons_zero,Option.getD_some] at hb
      obtain ⟨e,h1,h2,h3⟩:=zlH hb
      have ho:ops.toArray[acc.length]? = some o:=by rw [hl];subst he;simp
      have hw:Region.waitsFor .any ops.toArray acc.length e.on=true:=by
       unfold Region.waitsFor
       rw [ho]
       simp only [Array.any_eq_true']
       exact ⟨e,by simpa using h1,by simp [h2]⟩
      rcases h3 with h3 | h3
      · subst h3;exact .one hw
      · exact .step hw (h _ _ h3)
    · rw [List.getD_eq_getElem?_getD,List.getElem?_eq_none (by simp;omega)] at hb
      simp at hb
theorem zdm {ops:List Oper} {j i:Nat} (h:((masks ops).getD j 0).testBit i=true):After ops.toArray j i :=
 zgG ops ops [] [] rfl rfl (fun j i h=>by simp at h) j i h
def tmpsOf (l:List Operand):List Nat:=l.filterMap fun | .tmp t=>some t | _=>none
def zey (ops:List Oper) (o:Oper):List Nat :=
 tmpsOf o.op.operands.toList++(match o.guard with | some (j,_)=>((ops[j]?).bind (·.dst)).toList | none=>[])
def clash (ops:List Oper) (a b:Oper):Bool :=
 (match a.dst with | some d=>(zey ops b).contains d||b.dst==some d | none=>false)||(match b.dst with | some d=>(zey ops a).contains d | none=>false)
def zlq (ops:List Oper) (mv tm:List Nat):Bool :=
 let ms:=masks ops
 (ops.zipIdx.all fun (o,k)=>o.after.all fun e=>!Region.binds .any e||decide (e.on<k)) &&
 (ops.zipIdx.all fun (b,j)=>(ops.zipIdx.take j).all fun (a,i)=>(ms.getD j 0).testBit i||(!clash ops a b && !(mv.contains i&&mv.contains j))) &&
 (ops.zipIdx.all fun (_,j)=>(ops.zipIdx.all fun (_,i)=>!(mv.contains j&&tm.contains i)||(ms.getD j 0).testBit i&&decide (i<j)))
structure DrawOk (ops:List Oper) (mv tm:List Nat):Prop where
 up:∀ k o,ops[k]? = some o->∀ e∈o.after,Region.binds .any e=true->e.on<k
 pair:∀ i j a b,i<j->ops[i]? = some a->ops[j]? = some b->After ops.toArray j i\/(clash ops a b=false/\¬ (mv.contains i=true/\mv.contains j=true))
 first:∀ i j a b,ops[i]? = some a->ops[j]? = some b->mv.contains j=true->tm.contains i=true->After ops.toArray j i/\i<j
theorem ziW {ops:List Oper} {mv tm:List Nat} (h:zlq ops mv tm=true):DrawOk ops mv tm:=by
 simp only [zlq,Bool.and_eq_true] at h
 obtain ⟨⟨h1,h2⟩,h3⟩:=h
 refine ⟨fun k o ho e he hb=>?_,fun i j a b hij hi hj=>?_,fun i j a b hi hj hm ht=>?_⟩
 · have:=List.all_eq_true.1 h1 (o,k) (by rw [List.mem_iff_getElem?];exact ⟨k,by simp [ho]⟩)
   simp only [Array.all_eq_true_iff_forall_mem,Bool.or_eq_true,Bool.not_eq_true',decide_eq_true_eq] at this
   exact (this e he).resolve_left (by simp [hb])
 · have:=List.all_eq_true.1 h2 (b,j) (by rw [List.mem_iff_getElem?];exact ⟨j,by simp [hj]⟩)
   have:=List.all_eq_true.1 this (a,i) (by rw [List.mem_iff_getElem?];exact ⟨i,by rw [List.getElem?_take,if_pos hij];simp [hi]⟩)
   simp only [Bool.or_eq_true,Bool.and_eq_true,Bool.not_eq_true',Bool.and_eq_false_iff] at this
   rcases this with h | ⟨h,h'⟩
   · exact .inl (zdm h)
   · refine .inr ⟨h,fun ⟨x,y⟩=>?_⟩
     rw [x,y] at h'
     rcases h' with h' | h'<;>cases h'
 · have:=List.all_eq_true.1 h3 (b,j) (by rw [List.mem_iff_getElem?];exact ⟨j,by simp [hj]⟩)
   have:=List.all_eq_true.1 this (a,i) (by rw [List.mem_iff_getElem?];exact ⟨i,by simp [hi]⟩)
   simp only [hm,ht,Bool.and_self,Bool.not_true,Bool.false_or,Bool.and_eq_true,decide_eq_true_eq] at this
   exact ⟨zdm this.1,this.2⟩
def putF (F:Nat->V):Option Nat->V->Nat->V
 | some t,d=>fun u=>if u=t then d else F u
 | none,_=>F
def opdF (F:Nat->V):Operand->V
 | .tmp t=>F t
 | .const v=>zdo v
 | .global g=>.raw (.pointer (some ⟨g,0,none⟩))
 | .func f=>.fn (.func f) [] []
theorem zeV (e:Env):opdF (get e)=opd e:=by funext x;cases x<;>rfl
theorem zcz (e:Env) (t:Option Nat) (d:V):get (putO e t d)=putF (get e) t d:=by
 funext u
 cases t with
 | none=>rfl
 | some t =>
  simp only [putO,putF]
  split
  · rename_i h;subst h;exact zcf e u d
  · rename_i h;exact zcR e t u d h
theorem zn6 {F:Nat->V} {s t:Option Nat} {c d:V} (h:s=none\/t=none\/s≠t):putF (putF F s c) t d=putF (putF F t d) s c:=by
 cases s with
 | none=>rfl
 | some s =>
  cases t with
  | none=>rfl
  | some t =>
   have hne:s≠t:=by
    rcases h with h | h | h
    · cases h
    · cases h
    · exact fun e=>h (by rw [e])
   funext u
   simp only [putF]
   by_cases h1:u=t
   · subst h1;rw [if_pos rfl,if_neg (Ne.symm hne),if_pos rfl]
   · by_cases h2:u=s
     · subst h2;rw [if_neg h1,if_pos rfl,if_pos rfl]
     · rw [if_neg h1,if_neg h2,if_neg h2,if_neg h1]
theorem zmx {F:Nat->V} {t:Option Nat} {d:V} {u:Nat} (h:t≠some u):putF F t d u=F u:=by
 cases t with
 | none=>rfl
 | some t=>simp only [putF];rw [if_neg fun e=>h (by rw [e])]
structure RF (n:Nat) (w:World) (H:Own) (tmps:Array Value) (F:Nat->V):Prop where
 size:tmps.size=n
 slot:∀ t,R (stable w H) w (tmps.getD t undef) (F t)
theorem RF.opd {n:Nat} {w:World} {H:Own} {a:Act} {F:Nat->V} (h:RF n w H a.tmps F) (x:Operand):R (stable w H) w (a.eval x) (opdF F x):=by
 cases x with
 | tmp t=>exact h.slot t
 | const v=>exact R.const _ _ v
 | global g=>exact .raw _
 | func f=>exact .fn _ _ _ _ _ rfl (fun _ h=>absurd h (Nat.not_lt_zero _)) rfl (fun _ h=>absurd h (Nat.not_lt_zero _))
theorem RF.ext {n:Nat} {w w':World} {H H':Own} {tmps:Array Value} {F:Nat->V} (h:RF n w H tmps F) (x:Ext w H w' H'):RF n w' H' tmps F:=⟨h.size,fun t=>x.rel (h.slot t)⟩
theorem RF.put {n:Nat} {w:World} {H:Own} {a:Act} {F:Nat->V} (h:RF n w H a.tmps F) {t:Option Nat} (ht:t.all (· < n)=true) {v:Value} {d:V} (r:R (stable w H) w v d):RF n w H (a.put t v).tmps (putF F t d):=by
 cases t with
 | none=>exact h
 | some t =>
  refine ⟨by simpa [Act.put] using h.size,fun u=>?_⟩
  have ht':t<n:=by simpa using ht
  simp only [putF]
  by_cases hu:u=t
  · subst hu
    have:(a.put (some u) v).tmps.getD u undef=v:=by
     have:=h.size;simp [Act.put,Array.getD_eq_getD_getElem?,Array.getElem?_setIfInBounds,this,ht']
    rw [this,if_pos rfl];exact r
  · have:(a.put (some t) v).tmps.getD u undef=a.tmps.getD u undef:=by
     simp [Act.put,Array.getD_eq_getD_getElem?,Array.getElem?_setIfInBounds,Ne.symm hu]
    rw [this,if_neg hu];exact h.slot u
def gst (ops:List Oper) (o:Oper) (F:Nat->V):Option Bool :=
 match o.guard with
 | none=>some true
 | some (j,want)=>match (ops[j]?).bind (·.dst) with
  | some t=>match F t with
   | .bool b=>some (b==want)
   | .tup _=>some false
   | _=>none
  | none=>none
theorem zed {ops:List Oper} {n:Nat} {w:World} {H:Own} {a:Act} {F:Nat->V} (h:RF n w H a.tmps F) {o:Oper} {b:Bool} (hg:gst ops o F=some b):Region.wanted o (yielded ops.toArray a.tmps)=b:=by
 unfold gst at hg
 unfold Region.wanted yielded
 cases hgd:o.guard with
 | none=>rw [hgd] at hg;injection hg
 | some jw =>
  obtain ⟨j,want⟩:=jw
  rw [hgd] at hg
  simp only at hg ⊢
  simp only [List.getElem?_toArray]
  cases hd:(ops[j]?).bind (·.dst) with
  | none=>rw [hd] at hg;cases hg
  | some t =>
   rw [hd] at hg
   simp only at hg
   have hr:=h.slot t
   cases hF:F t with
   | bool c =>
    rw [hF] at hr hg
    simp only [Option.some.injEq] at hg
    have hv:a.tmps.getD t undef = .bool c:=by generalize a.tmps.getD t undef=v at hr;cases hr;rfl
    simp only [Array.getD_eq_getD_getElem?] at hv
    simp only [hd,Option.bind_some]
    cases ht:a.tmps[t]? with
    | none=>rw [ht] at hv;cases hv
    | some u =>
     rw [ht] at hv
     simp only [Option.getD_some] at hv
     subst hv
     rw [<-hg]
     cases c<;>cases want<;>rfl
   | tup ds =>
    rw [hF] at hr hg
    simp only [Option.some.injEq] at hg
    have hv:∃ xs,a.tmps.getD t undef = .tuple xs:=by generalize a.tmps.getD t undef=v at hr;cases hr;exact ⟨_,rfl⟩
    obtain ⟨xs,hv⟩:=hv
    simp only [Array.getD_eq_getD_getElem?] at hv
    simp only [hd,Option.bind_some]
    rw [<-hg]
    cases ht:a.tmps[t]? with
    | none=>cases want<;>rfl
    | some u =>
     rw [ht] at hv
     simp only [Option.getD_some] at hv
     subst hv
     cases want<;>rfl
   | _=>rw [hF] at hg;cases hg
theorem DOp.congr {P:Program} {o:Oper} {f f':Operand->V} {H:Own} {K:V->Own->Prop} (hf:∀ x,x∈o.op.operands->f x=f' x) (h:DOp P o f H K):DOp P o f' H K :=
 fun a w next Q hs hr hn=>h a w next Q hs (fun x hx=>by rw [hf x hx];exact hr x hx) hn
theorem zfp {P:Program} {o:Oper} {a:Act} {w:World} {X:Prop} (h:o.wp P a w (fun _ _=>X) (fun _ _ _=>False)):X:=by
 unfold Oper.wp at h
 generalize (execOp a.eval o).run P w=r at h
 cases r with
 | ok x w' =>
  cases x<;>simp only [Oper.upon] at h
  case value v=>exact h
  case skip=>exact h
  case defer d=>exact h
  case enter f args =>
   obtain ⟨e,w'',fr,hR,_⟩:=h []
   cases e with
   | returned v=>exact hR
   | panicked c=>exact hR.elim
   | outgrown=>exact hR.elim fun _ ⟨_,h⟩=>h.elim
  case row r args =>
   obtain ⟨v,w'',hR,_⟩:=h (default:Frame) []
   exact hR
 | halt x w'=>cases x<;>simp only [Oper.upon] at h
section
variable {P:Program} {ops:List Oper} {mv tm:List Nat} {H0:Own} {val:Nat->Oper->(Operand->V)->V} {side:Nat->Oper->(Operand->V)->Prop} {K:(Nat->V)->Own->Prop} {n:Nat}
def RV (P:Program) (ops:List Oper) (mv:List Nat) (val:Nat->Oper->(Operand->V)->V) (side:Nat->Oper->(Operand->V)->Prop) (K:(Nat->V)->Own->Prop) (L:Nat->Bool):Nat->List Oper->(Nat->V)->Own->Prop
 | _,[],F,H=>K F H
 | k,o::rest,F,H =>
  if L k=true then RV P ops mv val side K L (k+1) rest F H
  else match gst ops o F with
   | some true =>
    if mv.contains k=true then DOp P o (opdF F) H fun d H'=>RV P ops mv val side K L (k+1) rest (putF F o.dst d) H'
    else side k o (opdF F)/\RV P ops mv val side K L (k+1) rest (putF F o.dst (val k o (opdF F))) H
   | some false=>RV P ops mv val side K L (k+1) rest (putF F o.dst (.tup [])) H
   | none=>False
theorem RV.congrL {L L':Nat->Bool}:∀ (l:List Oper) (k:Nat) (F:Nat->V) (H:Own),(∀ j,k<=j->L j=L' j)->RV P ops mv val side K L k l F H->RV P ops mv val side K L' k l F H
 | [],_,_,_,_,h=>h
 | o::rest,k,F,H,he,h=>by
  have ih:=fun F H=>RV.congrL rest (k+1) F H fun j hj=>he j (by omega)
  unfold RV at h ⊢
  rw [<-he k (Nat.le_refl _)]
  split
  · rename_i hl;rw [if_pos hl] at h;exact ih _ _ h
  · rename_i hl
    rw [if_neg hl] at h
    cases hg:gst ops o F with
    | none=>rw [hg] at h;exact h.elim
    | some b =>
     rw [hg] at h
     cases b with
     | false=>exact ih _ _ h
     | true =>
      simp only at h ⊢
      split
      · rename_i hm;rw [if_pos hm] at h;exact h.mono fun d H' h=>ih _ _ h
      · rename_i hm;rw [if_neg hm] at h;exact ⟨h.1,ih _ _ h.2⟩
structure Free (ops:List Oper) (a b:Oper):Prop where
 ops1:∀ (F:Nat->V) d x,x∈b.op.operands->opdF (putF F a.dst d) x=opdF F x
 ops2:∀ (F:Nat->V) d x,x∈a.op.operands->opdF (putF F b.dst d) x=opdF F x
 gst1:∀ (F:Nat->V) d,gst ops b (putF F a.dst d)=gst ops b F
 gst2:∀ (F:Nat->V) d,gst ops a (putF F b.dst d)=gst ops a F
 put:∀ (F:Nat->V) c d,putF (putF F a.dst c) b.dst d=putF (putF F b.dst d) a.dst c
theorem zek {ops:List Oper} {a b:Oper} (h:∀ d,a.dst=some d->(zey ops b).contains d=false) (F:Nat->V) (c:V) :
  (∀ x,x∈b.op.operands->opdF (putF F a.dst c) x=opdF F x)/\gst ops b (putF F a.dst c)=gst ops b F:=by
 refine ⟨fun x hx=>?_,?_⟩
 · cases x with
   | tmp t =>
    simp only [opdF]
    refine zmx fun e=>?_
    have:=h t e
    have hm:t∈zey ops b:=List.mem_append_left _ (List.mem_filterMap.2 ⟨.tmp t,by simpa using hx,rfl⟩)
    simp only [List.contains_eq_mem,decide_eq_false_iff_not] at this
    exact this hm
   | _=>rfl
 · unfold gst
   cases hg:b.guard with
   | none=>rfl
   | some jw =>
    obtain ⟨j,want⟩:=jw
    simp only
    cases hd:(ops[j]?).bind (·.dst) with
    | none=>rfl
    | some t =>
     have:putF F a.dst c t=F t:=zmx fun e=>by
      have:=h t e
      have hm:t∈zey ops b:=List.mem_append_right _ (by rw [hg];simp [hd])
      simp only [List.contains_eq_mem,decide_eq_false_iff_not] at this
      exact this hm
     simp only [this]
theorem zjJ {ops:List Oper} {a b:Oper} (h:clash ops a b=false):Free ops a b:=by
 unfold clash at h
 simp only [Bool.or_eq_false_iff] at h
 obtain ⟨h1,h2⟩:=h
 have r1:∀ d,a.dst=some d->(zey ops b).contains d=false:=fun d hd=>by rw [hd] at h1;simp only [Bool.or_eq_false_iff] at h1;exact h1.1
 have r2:∀ d,b.dst=some d->(zey ops a).contains d=false:=fun d hd=>by rw [hd] at h2;exact h2
 refine ⟨fun F d=>(zek r1 F d).1,fun F d=>(zek r2 F d).1,fun F d=>(zek r1 F d).2,fun F d=>(zek r2 F d).2,fun F c d=>zn6 ?_⟩
 cases ha:a.dst with
 | none=>exact .inl rfl
 | some s =>
  rw [ha] at h1
  simp only [Bool.or_eq_false_iff,beq_eq_false_iff_ne] at h1
  exact .inr (.inr fun e=>h1.2 e.symm)
variable (hval:∀ k o f f',(∀ x,x∈o.op.operands->f x=f' x)->val k o f=val k o f'/\(side k o f->side k o f'))
include hval
theorem Free.val1 (k:Nat) {a b:Oper} (h:Free ops a b) (F:Nat->V) (d:V):val k b (opdF (putF F a.dst d))=val k b (opdF F):=(hval k b _ _ fun x hx=>h.ops1 F d x hx).1
theorem Free.side1 (k:Nat) {a b:Oper} (h:Free ops a b) (F:Nat->V) (d:V):side k b (opdF (putF F a.dst d))->side k b (opdF F):=(hval k b _ _ fun x hx=>h.ops1 F d x hx).2
theorem Free.val2 (k:Nat) {a b:Oper} (h:Free ops a b) (F:Nat->V) (d:V):val k a (opdF (putF F b.dst d))=val k a (opdF F):=(hval k a _ _ fun x hx=>h.ops2 F d x hx).1
theorem Free.side2 (k:Nat) {a b:Oper} (h:Free ops a b) (F:Nat->V) (d:V):side k a (opdF F)->side k a (opdF (putF F b.dst d)):=(hval k a _ _ fun x hx=>(h.ops2 F d x hx).symm).2
theorem RV.pull {L:Nat->Bool} {j:Nat} {oj:Oper} (hj:L j=false) (hun:∀ i oi,i<j->ops[i]? = some oi->L i=false->Free ops oi oj) :
  ∀ (l:List Oper) (k:Nat) (F:Nat->V) (H:Own) (d:V),(∀ i,i<l.length->l[i]? = ops[k+i]?)->k<=j->j<k+l.length->l[j - k]? = some oj ->
   (gst ops oj F=some false->d = .tup [])->(gst ops oj F=some true->mv.contains j=false/\d=val j oj (opdF F)) ->
   RV P ops mv val side K L k l F H->RV P ops mv val side K (fun i=>L i||i==j) k l (putF F oj.dst d) H
 | [],k,F,H,d,_,h1,h2,_,_,_,_=>by simp at h2;omega
 | o::rest,k,F,H,d,hl,hkj,hjk,hoj,hd0,hd1,h=>by
  have h0:ops[k]? = some o:=by simpa using (hl 0 (by simp)).symm
  have hl':∀ i,i<rest.length->rest[i]? = ops[k+1+i]?:=fun i hi=>by have:=hl (i+1) (by simp;omega);simpa [Nat.add_assoc,Nat.add_comm 1 i] using this
  unfold RV at h ⊢
  by_cases hk:k=j
  · subst hk
    have ho:o=oj:=by simpa using hoj
    subst ho
    rw [if_pos (by simp)]
    rw [if_neg (by simp [hj])] at h
    have hc:∀ {F H},RV P ops mv val side K L (k+1) rest F H->RV P ops mv val side K (fun i=>L i||i==k) (k+1) rest F H:=fun {F H} h =>
     RV.congrL rest _ _ _ (fun i hi=>by simp;omega) h
    cases hg:gst ops o F with
    | none=>rw [hg] at h;exact h.elim
    | some b =>
     rw [hg] at h
     cases b with
     | false=>rw [hd0 hg];exact hc h
     | true =>
      obtain ⟨hm,hd⟩:=hd1 hg
      simp only [hm,Bool.false_eq_true,if_false] at h
      rw [hd]
      exact hc h.2
  · have hlt:k<j:=by omega
    have hjk':j<k+1+rest.length:=by simp at hjk;omega
    have hoj':rest[j - (k+1)]? = some oj:=by
     have:j - k=(j - (k+1))+1:=by omega
     rw [this] at hoj
     simpa using hoj
    have hneq:(k==j)=false:=by simp;omega
    simp only [hneq,Bool.or_false]
    by_cases hlk:L k=true
    · rw [if_pos hlk] at h ⊢
      exact RV.pull hj hun rest (k+1) F H d hl' (by omega) hjk' hoj' hd0 hd1 h
    · rw [if_neg hlk] at h ⊢
      have fr:=hun k o hlt h0 (by simpa using hlk)
      rw [fr.gst2]
      have ih:=fun F' H' (e1:gst ops oj F'=gst ops oj F) (e2:val j oj (opdF F')=val j oj (opdF F))=>RV.pull hj hun rest (k+1) F' H' d hl' (by omega) hjk' hoj' (fun h=>hd0 (e1▸h)) (fun h=>by rw [e2];exact hd1 (e1▸h))
      cases hg:gst ops o F with
      | none=>rw [hg] at h;exact h.elim
      | some b =>
       rw [hg] at h
       cases b with
       | false =>
        simp only at h ⊢
        rw [<-fr.put]
        exact ih _ _ (fr.gst1 _ _) (fr.val1 hval _ _ _) h
       | true =>
        simp only at h ⊢
        split
        · rename_i hm
          rw [if_pos hm] at h
          refine (h.congr fun x hx=>(fr.ops2 F d x hx).symm).mono fun d' H' h=>?_
          rw [<-fr.put]
          exact ih _ _ (fr.gst1 _ _) (fr.val1 hval _ _ _) h
        · rename_i hm
          rw [if_neg hm] at h
          refine ⟨fr.side2 hval _ _ _ h.1,?_⟩
          rw [fr.val2 hval k,<-fr.put]
          exact ih _ _ (fr.gst1 _ _) (fr.val1 hval _ _ _) h.2
theorem RV.pullM {L:Nat->Bool} {j:Nat} {oj:Oper} (hj:L j=false) (hm:mv.contains j=true) (hun:∀ i oi,i<j->ops[i]? = some oi->L i=false->Free ops oi oj/\mv.contains i=false) :
  ∀ (l:List Oper) (k:Nat) (F:Nat->V) (H:Own),(∀ i,i<l.length->l[i]? = ops[k+i]?)->k<=j->j<k+l.length->l[j - k]? = some oj->gst ops oj F=some true ->
   RV P ops mv val side K L k l F H->DOp P oj (opdF F) H fun d H'=>RV P ops mv val side K (fun i=>L i||i==j) k l (putF F oj.dst d) H'
 | [],k,F,H,_,h1,h2,_,_,_=>by simp at h2;omega
 | o::rest,k,F,H,hl,hkj,hjk,hoj,hgj,h=>by
  have h0:ops[k]? = some o:=by simpa using (hl 0 (by simp)).symm
  have hl':∀ i,i<rest.length->rest[i]? = ops[k+1+i]?:=fun i hi=>by have:=hl (i+1) (by simp;omega);simpa [Nat.add_assoc,Nat.add_comm 1 i] using this
  by_cases hk:k=j
  · subst hk
    have ho:o=oj:=by simpa using hoj
    subst ho
    unfold RV at h
    rw [if_neg (by simp [hj]),hgj] at h
    simp only [hm,if_true] at h
    refine h.mono fun d H' h=>?_
    unfold RV
    rw [if_pos (by simp)]
    exact RV.congrL rest _ _ _ (fun i hi=>by simp;omega) h
  · have hlt:k<j:=by omega
    have hjk':j<k+1+rest.length:=by simp at hjk;omega
    have hoj':rest[j - (k+1)]? = some oj:=by
     have:j - k=(j - (k+1))+1:=by omega
     rw [this] at hoj
     simpa using hoj
    have hneq:(k==j)=false:=by simp;omega
    unfold RV at h
    by_cases hlk:L k=true
    · rw [if_pos hlk] at h
      refine (RV.pullM hj hm hun rest (k+1) F H hl' (by omega) hjk' hoj' hgj h).mono fun d H' h=>?_
      unfold RV
      rw [if_pos (by simp [hlk])]
      exact h
    · rw [if_neg hlk] at h
      obtain ⟨fr,hmk⟩:=hun k o hlt h0 (by simpa using hlk)
      cases hg:gst ops o F with
      | none=>rw [hg] at h;exact h.elim
      | some b =>
       rw [hg] at h
       cases b with
       | false =>
        simp only at h
        refine ((RV.pullM hj hm hun rest (k+1) _ H hl' (by omega) hjk' hoj' kxck h).congr fun x hx=>fr.ops1 F _ x hx).mono fun d H' h=>?_
        unfold RV
        rw [if_neg (by simp [hlk];omega),fr.gst2,hg]
        simp only
        rw [<-fr.put]
        exact h
       | true =>
        simp only [hmk,Bool.false_eq_true,if_false] at h
        refine ((RV.pullM hj hm hun rest (k+1) _ H hl' (by omega) hjk' hoj' kxck h.2).congr fun x hx=>fr.ops1 F _ x hx).mono fun d H' h'=>?_
        unfold RV
        rw [if_neg (by simp [hlk];omega),fr.gst2,hg]
        simp only [hmk,Bool.false_eq_true,if_false]
        refine ⟨fr.side2 hval _ _ _ h.1,?_⟩
        rw [fr.val2 hval k,<-fr.put]
        exact h'
variable (hok:DrawOk ops mv tm) (hfl:∀ k o,ops[k]? = some o->mv.contains k=false->∀ f H,(tm.contains k=true->H=H0)->side k o f->DOp P o f H fun d H'=>d=val k o f/\H'=H) (hdst:dstB n ops=true)
include hok hfl hdst
theorem zqF (k:Nat) (o:Oper) (h:ops[k]? = some o):o.dst.all (· < n)=true:=by
 have:=List.all_eq_true.1 hdst o (List.mem_of_getElem? h)
 simpa using this
theorem RV.known {L:Nat->Bool} {j:Nat} {oj:Oper} (hj:L j=false) (hun:∀ i oi,i<j->ops[i]? = some oi->L i=false->Free ops oi oj) :
  ∀ (l:List Oper) (k:Nat) (F:Nat->V) (H:Own) (a:Act) (w:World),(∀ i,i<l.length->l[i]? = ops[k+i]?)->k<=j->j<k+l.length->l[j - k]? = some oj ->
   Sim w H->(∀ i,k<=i->i<ops.length->tm.contains i=true->L i=false->H=H0)->RF n w H a.tmps F->RV P ops mv val side K L k l F H->(∃ b,gst ops oj F=some b)/\(gst ops oj F=some true->mv.contains j=false->side j oj (opdF F))
 | [],k,F,H,a,w,_,h1,h2,_,_,_,_,_=>by simp at h2;omega
 | o::rest,k,F,H,a,w,hl,hkj,hjk,hoj,hs,hi,hr,h=>by
  have h0:ops[k]? = some o:=by simpa using (hl 0 (by simp)).symm
  have hl':∀ i,i<rest.length->rest[i]? = ops[k+1+i]?:=fun i hi=>by have:=hl (i+1) (by simp;omega);simpa [Nat.add_assoc,Nat.add_comm 1 i] using this
  have hdo:=zqF hval hok hfl hdst k o h0
  have hko:k<ops.length:=(List.getElem?_eq_some_iff.1 h0).1
  have hnx:∀ i,k+1<=i->i<ops.length->tm.contains i=true->L i=false->H=H0:=fun i h=>hi i (by omega)
  unfold RV at h
  by_cases hk:k=j
  · subst hk
    have ho:o=oj:=by simpa using hoj
    subst ho
    rw [if_neg (by simp [hj])] at h
    cases hg:gst ops o F with
    | none=>rw [hg] at h;exact h.elim
    | some b =>
     rw [hg] at h
     refine ⟨⟨b,rfl⟩,fun hb hm=>?_⟩
     injection hb with hb
     subst hb
     simp only [hm,Bool.false_eq_true,if_false] at h
     exact h.1
  · have hlt:k<j:=by omega
    have hjk':j<k+1+rest.length:=by simp at hjk;omega
    have hoj':rest[j - (k+1)]? = some oj:=by
     have:j - k=(j - (k+1))+1:=by omega
     rw [this] at hoj
     simpa using hoj
    by_cases hlk:L k=true
    · rw [if_pos hlk] at h
      exact RV.known hj hun rest (k+1) F H a w hl' (by omega) hjk' hoj' hs hnx hr h
    · rw [if_neg hlk] at h
      have fr:=hun k o hlt h0 (by simpa using hlk)
      have back:∀ d,((∃ b,gst ops oj (putF F o.dst d)=some b)/\(gst ops oj (putF F o.dst d)=some true->mv.contains j=false->side j oj (opdF (putF F o.dst d)))) ->
        (∃ b,gst ops oj F=some b)/\(gst ops oj F=some true->mv.contains j=false->side j oj (opdF F)):=fun d ⟨x,y⟩=>by
       rw [fr.gst1] at x y
       exact ⟨x,fun h1 h2=>fr.side1 hval _ _ _ (y h1 h2)⟩
      cases hg:gst ops o F with
      | none=>rw [hg] at h;exact h.elim
      | some b =>
       rw [hg] at h
       cases b with
       | false=>exact back _ (RV.known hj hun rest (k+1) _ H (a.put o.dst undef) w hl' (by omega) hjk' hoj' hs hnx (hr.put hdo (R.skipped _ _)) h)
       | true =>
        simp only at h
        split at h
        · rename_i hm
          refine zfp (P:=P) (o:=o) (a:=a) (w:=w) (h a w _ _ hs (fun x _=>hr.opd x) fun v w' d H' s x r k'=>?_)
          exact back _ (RV.known hj hun rest (k+1) _ H' _ w' hl' (by omega) hjk' hoj' s (fun i h1 h2 h3 _=>by
           have:=(hok.first i k ops[i] o (by simp [h2]) h0 hm h3).2
           omega) ((hr.ext x).put hdo r) k')
        · rename_i hm
          refine zfp (P:=P) (o:=o) (a:=a) (w:=w) (hfl k o h0 (by simpa using hm) _ H (fun ht=>hi k (Nat.le_refl _) hko ht (by simpa using hlk)) h.1 a w _ _ hs (fun x _=>hr.opd x) fun v w' d H' s x r ⟨hd,hH⟩=>?_)
          subst hd
          subst hH
          exact back _ (RV.known hj hun rest (k+1) _ H' _ w' hl' (by omega) hjk' hoj' s hnx ((hr.ext x).put hdo r) h.2)
theorem zea {listed:Array Bool} (inv:HeadInv .any ops.toArray ops.length listed):∀ (f i j:Nat),listed.getD i false=true->zjg ops.toArray f i j->listed.getD j false=true
 | 0,i,j,hi,h=>by
  obtain ⟨oj,hoj,e,he,hb,hon⟩:=Region.waitsFor_spec h
  have:=inv.closed i oj hoj hi e he hb
  rwa [hon] at this
 | f+1,i,j,hi,⟨m,h1,h2⟩=>by
  obtain ⟨oj,hoj,e,he,hb,hon⟩:=Region.waitsFor_spec h1
  have:=inv.closed i oj hoj hi e he hb
  exact zea inv f m j (hon▸this) h2
theorem zeu {listed:Array Bool} (inv:HeadInv .any ops.toArray ops.length listed) {i j:Nat} (hi:i∈Region.ready .any ops.toArray listed) (h:After ops.toArray i j):listed.getD j false=true:=by
 obtain ⟨f,hf⟩:=h
 have one:∀ j,Region.waitsFor .any ops.toArray i j=true->listed.getD j false=true:=fun j h=>by
  obtain ⟨_,oi,hoi,hall⟩:=mem_ready.1 hi
  obtain ⟨oj,hoj,e,he,hb,hon⟩:=Region.waitsFor_spec h
  have:oj=oi:=Option.some.inj (hoj.symm.trans hoi)
  subst this
  have:=hall e he hb
  rwa [hon] at this
 cases f with
 | zero=>exact one j hf
 | succ f =>
  obtain ⟨m,h1,h2⟩:=hf
  exact zea hval hok hfl hdst inv f m j (one m h1) h2
theorem RV.done {L:Nat->Bool}:∀ (l:List Oper) (k:Nat) (F:Nat->V) (H:Own),(∀ j,k<=j->j<k+l.length->L j=true)->RV P ops mv val side K L k l F H->K F H
 | [],_,_,_,_,h=>h
 | o::rest,k,F,H,hL,h=>by
  unfold RV at h
  rw [if_pos (hL k (Nat.le_refl _) (by simp))] at h
  exact RV.done rest (k+1) F H (fun j h1 h2=>hL j (by omega) (by simp;omega)) h
theorem zeg {listed:Array Bool} {i:Nat} (h:listed.getD i true=false):(listed.setIfInBounds i true).toList.count false+1=listed.toList.count false:=by
 have hlt:i<listed.size:=by
  rcases Nat.lt_or_ge i listed.size with h' | h'
  · exact h'
  · simp [Array.getElem?_eq_none h'] at h
 have h0:listed.toList[i]'(by simpa using hlt)=false:=by simpa [hlt] using h
 have hpos:0<listed.toList.count false:=List.count_pos_iff.2 (h0▸List.getElem_mem _)
 have hc:=List.count_set (a:=true) (b:=false) (l:=listed.toList) (i:=i) (by simpa using hlt)
 rw [h0] at hc
 rw [Array.toList_setIfInBounds,hc]
 simp only [BEq.rfl,if_true,show ((true==false)=true)=False by simp,if_false,Nat.add_zero]
 omega
theorem zhI {listed:Array Bool} (hs:listed.size=ops.length):∀ m,(∀ j,j<m->listed.getD j false=true)\/∃ k,k<m/\listed.getD k false=false/\∀ j,j<k->listed.getD j false=true
 | 0=>.inl fun j hj=>by omega
 | m+1=>by
  rcases zhI hs m with h | ⟨k,h1,h2,h3⟩
  · cases hm:listed.getD m false with
    | true =>
     refine .inl fun j hj=>?_
     rcases Nat.lt_or_ge j m with h' | h'
     · exact h j h'
     · rw [show j=m by omega];exact hm
    | false=>exact .inr ⟨m,by omega,hm,h⟩
  · exact .inr ⟨k,by omega,h2,h3⟩
theorem RV.all {Q:Exit->Act->World->Prop} {w0:World} {G0:Own} {D:List Deferred} (hQ:∀ a' w' F' H',a'.defers=D->Sim w' H'->RF n w' H' a'.tmps F'->Ext w0 G0 w' H'->K F' H'->Q .normal a' w') :
  ∀ (c:Nat) (listed:Array Bool) (F:Nat->V) (H:Own) (a:Act) (w:World),listed.toList.count false=c->HeadInv .any ops.toArray ops.length listed->RV P ops mv val side K (fun k=>listed.getD k false) 0 ops F H ->
   Sim w H->((∀ i,i<ops.length->mv.contains i=true->listed.getD i false=false)->H=H0)->RF n w H a.tmps F->Ext w0 G0 w H->a.defers=D->wpAny P .any ops.toArray Q c listed a w:=by
 intro c
 induction c with
 | zero =>
  intro listed F H a w hc inv h hs hi hr hx hD
  have hall:∀ j,listed.getD j true=true:=fun j=>by
   cases hj:listed.getD j true with
   | true=>rfl
   | false=>have:=zeg hval hok hfl hdst hj;omega
  refine ⟨?_,?_⟩
  · cases hrd:Region.ready .any ops.toArray listed with
    | nil=>rfl
    | cons i l =>
     have:i∈Region.ready .any ops.toArray listed:=by rw [hrd];exact List.mem_cons_self
     have:=(mem_ready.1 this).1
     rw [hall] at this
     cases this
  · refine hQ a w F H hD hs hr hx (RV.done hval hok hfl hdst ops 0 F H (fun j _ hj=>?_) h)
    have h1:=hall j
    have h2:j<listed.size:=by rw [inv.size];simpa using hj
    simp [h2] at h1 ⊢
    exact h1
 | succ c ih =>
  intro listed F H a w hc inv h hs hi hr hx hD
  have hsz:listed.size=ops.length:=by simpa using inv.size
  refine ⟨fun h0=>?_,fun i hi'=>?_⟩
  · rcases zhI hval hok hfl hdst hsz ops.length with hall | ⟨k,hk,hkf,hlow⟩
    · exfalso
      have:listed.toList.count false=0:=List.count_eq_zero.2 fun hm=>by
       obtain ⟨j,hj,e⟩:=List.getElem_of_mem hm
       have hj':j<listed.size:=by simpa using hj
       have:=hall j (by omega)
       simp [hj'] at this
       simp at e
       rw [this] at e
       cases e
      omega
    · exfalso
      have hkl:k<listed.size:=by omega
      have:k∈Region.ready .any ops.toArray listed:=mem_ready.2 ⟨getD_in hkl hkf,ops[k],by simp [hk],fun e he hb=>hlow _ (hok.up k _ (by simp [hk]) e he hb)⟩
      rw [h0] at this
      cases this
  · obtain ⟨hun,oi,hoi,_⟩:=mem_ready.1 hi'
    have hoi':ops[i]? = some oi:=by simpa using hoi
    have hilt:i<ops.length:=(List.getElem?_eq_some_iff.1 hoi').1
    have hlf:listed.getD i false=false:=getD_both hun
    have inv':=inv.set hi' (by simpa using hilt)
    have hc':(listed.setIfInBounds i true).toList.count false=c:=by have:=zeg hval hok hfl hdst hun;omega
    have hpair:∀ k ok,k<i->ops[k]? = some ok->listed.getD k false=false->Free ops ok oi/\¬ (mv.contains k=true/\mv.contains i=true):=fun k ok hk hok' hkf=>by
     rcases hok.pair k i ok oi hk hok' hoi' with h' | ⟨h1,h2⟩
     · rw [zeu hval hok hfl hdst inv hi' h'] at hkf;cases hkf
     · exact ⟨zjJ h1,h2⟩
    have hLc:∀ {F H},RV P ops mv val side K (fun k=>listed.getD k false||k==i) 0 ops F H->RV P ops mv val side K (fun k=>(listed.setIfInBounds i true).getD k false) 0 ops F H:=fun {F H} h =>
     RV.congrL ops 0 F H (fun j _=>by
      by_cases hji:j=i
      · subst hji
        have:j<listed.size:=by omega
        simp [this]
      · have:(j==i)=false:=by simpa using hji
        rw [this,Bool.or_false,getD_set_ne false (Ne.symm hji)]) h
    have htm:∀ k,k<ops.length->tm.contains k=true->listed.getD k false=false->H=H0:=fun k hk ht hkf=>hi fun m hm hmv=>by
     cases hlm:listed.getD m false with
     | false=>rfl
     | true =>
      obtain ⟨f,hf⟩:=(hok.first k m ops[k] ops[m] (by simp [hk]) (by simp [hm]) hmv ht).1
      rw [zea hval hok hfl hdst inv f m k hlm hf] at hkf
      cases hkf
    have hback:∀ m,(listed.setIfInBounds i true).getD m false=false->listed.getD m false=false/\m≠i:=fun m h=>by
     by_cases hmi:m=i
     · subst hmi
       have:m<listed.size:=by omega
       simp [this] at h
     · rw [getD_set_ne false (Ne.symm hmi)] at h
       exact ⟨h,hmi⟩
    obtain ⟨⟨b,hb⟩,hside⟩:=RV.known hval hok hfl hdst (L:=fun k=>listed.getD k false) hlf (fun k ok h1 h2 h3=>(hpair k ok h1 h2 h3).1) ops 0 F H a w (fun k _=>by simp) (Nat.zero_le _) (by simpa using hilt) (by simpa using hoi') hs (fun k _ hk ht hkf=>htm k hk ht hkf) hr h
    have hw:=zed hr hb
    have hdi:=zqF hval hok hfl hdst i oi hoi'
    unfold wpOp
    rw [hoi]
    simp only [hw]
    cases b with
    | false =>
     simp only [Bool.false_eq_true,if_false]
     refine ih _ (putF F oi.dst (.tup [])) H _ w hc' inv' (hLc ?_) hs (fun hh=>hi fun m hm hmv=>(hback m (hh m hm hmv)).1) (hr.put hdi (R.skipped _ _)) hx kxcb
     exact RV.pull hval hlf (fun k ok h1 h2 h3=>(hpair k ok h1 h2 h3).1) ops 0 F H _ (fun k _=>by simp) (Nat.zero_le _) (by simpa using hilt) (by simpa using hoi') (fun _=>rfl) (fun h'=>by rw [hb] at h';cases h') h
    | true =>
     simp only [if_true]
     refine .inl ?_
     cases hm:mv.contains i with
     | true =>
      refine RV.pullM hval hlf hm (fun k ok h1 h2 h3=>?_) ops 0 F H (fun k _=>by simp) (Nat.zero_le _) (by simpa using hilt) (by simpa using hoi') hb h a w _ _ hs (fun x _=>hr.opd x) fun v w' d H' s x r k'=>?_
      · obtain ⟨g1,g2⟩:=hpair k ok h1 h2 h3
        refine ⟨g1,?_⟩
        cases hmk:mv.contains k with
        | true=>exact absurd ⟨hmk,hm⟩ g2
        | false=>rfl
      · exact ih _ _ H' _ w' hc' inv' (hLc k') s (fun hh=>absurd rfl (hback i (hh i hilt hm)).2) ((hr.ext x).put hdi r) (hx.trans x) kxcb
     | false =>
      refine hfl i oi hoi' hm _ H (fun ht=>htm i hilt ht hlf) (hside hb hm) a w _ _ hs (fun x _=>hr.opd x) fun v w' d H' s x r ⟨hd,hH⟩=>?_
      subst hd
      subst hH
      refine ih _ _ H' _ w' hc' inv' (hLc ?_) s (fun hh=>hi fun m hm hmv=>(hback m (hh m hm hmv)).1) ((hr.ext x).put hdi r) (hx.trans x) kxcb
      exact RV.pull hval hlf (fun k ok h1 h2 h3=>(hpair k ok h1 h2 h3).1) ops 0 F H' _ (fun k _=>by simp) (Nat.zero_le _) (by simpa using hilt) (by simpa using hoi') (fun h'=>by rw [hb] at h';cases h') (fun _=>⟨hm,rfl⟩) h
end
end Go.Proofs.YtgekknefphagbaaGreatDoor
namespace Go.Proofs.YtgekknefphagbaaGreatDoor
open Go.RowKit
set_option linter.unusedSimpArgs false
set_option linter.unusedVariables false
set_option linter.unusedSectionVars false
structure Ty where
 kind:Nat:=0
 size:Nat:=0
 bytes:Nat:=0
 agg:Bool:=false
 elem:Nat:=0
 key:Nat:=0
 len:Nat:=0
 ik:Option IntKind:=none
 offs:List (Nat×Nat):=[]
 zero:List V:=[]
def tyOf (i:TypeInfo):TypeDesc->Ty
 | .bool=>{ kind:=1,size:=i.size,bytes:=i.bytes,zero:=(i.zero.map (·.cells.toList.map zby)).getD [] }
 | .int k=>{ kind:=2,size:=i.size,bytes:=i.bytes,ik:=some k,zero:=(i.zero.map (·.cells.toList.map zby)).getD [] }
 | .string=>{ kind:=3,size:=i.size,bytes:=i.bytes,zero:=(i.zero.map (·.cells.toList.map zby)).getD [] }
 | .slice e=>{ kind:=4,size:=i.size,bytes:=i.bytes,elem:=e,zero:=(i.zero.map (·.cells.toList.map zby)).getD [] }
 | .array n e=>{ kind:=5,size:=i.size,bytes:=i.bytes,agg:=true,elem:=e,len:=n,zero:=(i.zero.map (·.cells.toList.map zby)).getD [] }
 | .struct fs=>{ kind:=6,size:=i.size,bytes:=i.bytes,agg:=true,offs:=fs.toList.map fun f=>(f.offset,f.type),zero:=(i.zero.map (·.cells.toList.map zby)).getD [] }
 | .pointer e=>{ kind:=7,size:=i.size,bytes:=i.bytes,elem:=e,zero:=(i.zero.map (·.cells.toList.map zby)).getD [] }
 | .map k e=>{ kind:=8,size:=i.size,bytes:=i.bytes,key:=k,elem:=e,zero:=(i.zero.map (·.cells.toList.map zby)).getD [] }
 | .func ..=>{ kind:=9,size:=i.size,bytes:=i.bytes,zero:=(i.zero.map (·.cells.toList.map zby)).getD [] }
 | .interface _=>{ kind:=10,size:=i.size,bytes:=i.bytes,zero:=(i.zero.map (·.cells.toList.map zby)).getD [] }
 | _=>{ kind:=11 }
def ty (P:Program) (t:TypeId):Ty :=
 match P.info? t,P.underlying t with
 | some i,some d=>tyOf i d
 | _,_=>{}
section
variable {P:Program} {t:TypeId} {w:World}
theorem zcF {k:Nat} (h:(ty P t).kind=k) (hk:k≠0) (hk':k≠11):∃ i d,P.info? t=some i/\P.underlying t=some d/\ty P t=tyOf i d/\(ty P t).size=i.size/\(ty P t).bytes=i.bytes/\(ty P t).zero=(i.zero.map (·.cells.toList.map zby)).getD []:=by
 unfold ty at h ⊢
 split at h
 · rename_i i d hi hd
   refine ⟨i,d,hi,hd,?_⟩
   simp only [hi,hd]
   cases d<;>simp_all [tyOf]
 · exact absurd h.symm hk
theorem zaT (h:(ty P t).kind=4):P.underlying t=some (.slice (ty P t).elem):=by
 unfold ty at h ⊢
 split at h
 · rename_i i d hi hd;simp only [hi,hd];cases d<;>simp_all [tyOf]
 · cases h
theorem zeW (h:(ty P t).kind=5):P.underlying t=some (.array (ty P t).len (ty P t).elem):=by
 unfold ty at h ⊢
 split at h
 · rename_i i d hi hd;simp only [hi,hd];cases d<;>simp_all [tyOf]
 · cases h
theorem und_ptr (h:(ty P t).kind=7):P.underlying t=some (.pointer (ty P t).elem):=by
 unfold ty at h ⊢
 split at h
 · rename_i i d hi hd;simp only [hi,hd];cases d<;>simp_all [tyOf]
 · cases h
theorem zhv (h:(ty P t).kind=8):P.underlying t=some (.map (ty P t).key (ty P t).elem):=by
 unfold ty at h ⊢
 split at h
 · rename_i i d hi hd;simp only [hi,hd];cases d<;>simp_all [tyOf]
 · cases h
theorem zbS (h:(ty P t).kind=3):P.underlying t=some .string:=by
 unfold ty at h
 split at h
 · rename_i i d hi hd;rw [hd];cases d<;>simp_all [tyOf]
 · cases h
theorem zpj (h:(ty P t).kind=1):P.underlying t=some .bool:=by
 unfold ty at h
 split at h
 · rename_i i d hi hd;rw [hd];cases d<;>simp_all [tyOf]
 · cases h
theorem zgB {k:IntKind} (h:(ty P t).ik=some k):P.underlying t=some (.int k):=by
 unfold ty at h
 split at h
 · rename_i i d hi hd;rw [hd];cases d<;>simp_all [tyOf]
 · cases h
theorem zeY (h:(ty P t).kind=6):∃ fs,P.underlying t=some (.struct fs)/\(ty P t).offs=fs.toList.map fun f=>(f.offset,f.type):=by
 unfold ty at h ⊢
 split at h
 · rename_i i d hi hd;simp only [hi,hd];cases d<;>simp_all [tyOf]
 · cases h
theorem za4 (h:(ty P t).kind≠0) (h':(ty P t).kind≠11):(sizeOf t).run P w = .ok (ty P t).size w:=by
 obtain ⟨i,d,hi,hd,he,hs,_⟩:=zcF rfl h h'
 simp [sizeOf,typeInfo,program,Sem.run,hi,hs]
theorem zgI (h:(ty P t).kind≠0) (h':(ty P t).kind≠11):(isAgg t).run P w = .ok (ty P t).agg w:=by
 obtain ⟨i,d,hi,hd,he,hs,_⟩:=zcF rfl h h'
 rw [he]
 unfold isAgg
 rw [Sem.run_bind,run_underlying hd]
 simp only [Result.andThen]
 cases d<;>simp_all [tyOf]
end
theorem DOp.same {P:Program} {o:Oper} {f:Operand->V} {H:Own} {d:V} (h:∀ (a:Act) (w:World),Sim w H->(∀ x,x∈o.op.operands->R (stable w H) w (a.eval x) (f x))->∃ v,(execOp a.eval o).run P w = .ok (.value v) w/\R (stable w H) w v d) :
  DOp P o f H fun d' H'=>d'=d/\H'=H:=fun a w next Q hs hr hn=>by
 obtain ⟨v,h1,h2⟩:=h a w hs hr
 unfold Oper.wp
 rw [h1]
 exact hn v w d H hs (.refl _ _) h2 ⟨rfl,rfl⟩
theorem zcQ {w:World} {H:Own} (hs:Sim w H) {e:Ent} (he:e∈H) {k:Nat} (ha:e.touches k):k<w.heap.size:=by
 have:=hs.holds e he
 cases e with
 | blk b cs=>obtain ⟨xs,T,fr,h,_⟩:=this;rw [show k=b from ha];exact (Array.getElem?_eq_some_iff.1 h).1
 | tail sz v =>
  cases v with
  | slice p n cap =>
   cases p with
   | none=>exact ha.elim
   | some p=>obtain ⟨_,xs,T,fr,h,_⟩:=this.2 ha.2;rw [show k=p.block from ha.1];exact (Array.getElem?_eq_some_iff.1 h).1
  | _=>exact ha.elim
 | map r m=>obtain ⟨es,c,h,_⟩:=this;rw [show k=r from ha];exact (Array.getElem?_eq_some_iff.1 h).1
 | arr sz v cs =>
  cases v with
  | slice p n cap =>
   cases p with
   | none=>exact ha.elim
   | some p=>obtain ⟨_,xs,T,fr,h,_⟩:=this.2.2 ha.2;rw [show k=p.block from ha.1];exact (Array.getElem?_eq_some_iff.1 h).1
  | _=>exact ha.elim
 | know b cs=>exact ha.elim
 | siter r s pos=>rw [show k=r from ha];exact (Array.getElem?_eq_some_iff.1 this).1
 | miter r mr m left cur =>
  obtain ⟨es,c,h1,_,_,_,_,seen,h6,_⟩:=this
  rcases (show k=r\/k=mr from ha) with rfl | rfl
  · exact (Array.getElem?_eq_some_iff.1 h6).1
  · exact (Array.getElem?_eq_some_iff.1 h1).1
 | tb T b cs=>obtain ⟨xs,fr,h,_⟩:=this;rw [show k=b from ha];exact (Array.getElem?_eq_some_iff.1 h).1
 | ba T v l =>
  cases v with
  | slice p n cap =>
   cases p with
   | none=>exact ha.elim
   | some p=>obtain ⟨_,_,_,_,xs,fr,h,_⟩:=this;rw [show k=p.block from ha];exact (Array.getElem?_eq_some_iff.1 h).1
  | _=>exact ha.elim
 | row b o=>rw [show k=b from ha];exact (Array.getElem?_eq_some_iff.1 this).1
theorem zjt {w:World} {H:Own} (hs:Sim w H) {e:Ent} (he:e∈H) {a:Addr} (ha:e.owns a):a.block<w.heap.size:=zcQ hs he (Ent.touch ha)
theorem zcy (b:Nat):∀ (vs:List Value) (o:Nat) (w:World),(w.setCells b o vs).drawn=w.drawn
 | [],_,_=>rfl
 | v::vs,o,w=>by rw [World.setCells];exact zcy b vs (o+1) _
theorem Sim.more {w w':World} {H:Own} (hs:Sim w H) (ho:w'.os=w.os) (ht:w'.tape=w.tape) (hp:w'.output=w.output) (hz:w.heap.size<=w'.heap.size) (hb:∀ b,b<w.heap.size->w'.heap[b]? = w.heap[b]?) (hdr:w.drawn<=w'.drawn:=by first | exact Nat.le_refl _ | exact Nat.le_succ _ | exact Nat.le_of_eq (zcy _ _ _ _).symm | exact Nat.le_of_eq (drawn_freeze _ _ _).symm):Sim w' H/\Ext w H w' H:=by
 have hc:∀ a,stable w H a->stable w' H a/\w'.cell? a=w.cell? a:=fun a ha=>by
  have e:=World.cell?_of_block (w:=w) (hb a.block ha.lt)
  exact ⟨⟨by rw [e];exact ha.1,ha.2⟩,e⟩
 refine ⟨⟨fun e he=>?_,hs.disj,hs.apart⟩,⟨ho,ht,hp,hz,hc,fun b hlt h=>⟨hb b hlt,h⟩,fun n=>⟨n,hdr⟩⟩⟩
 have hh:=hs.holds e he
 exact Ent.holds_mono hh hc (fun b hx=>hb b (zcQ hs he hx))
theorem Sim.moreL {w w':World} {H:Own} (hs:Sim w H) (hl:loose∈H) (hb:Below w.heap.size w w'):Sim w' H/\Ext w H w' H:=by
 have hc:∀ a,stable w H a->stable w' H a/\w'.cell? a=w.cell? a:=fun a ha=>by
  have e:=World.cell?_of_block (w:=w) (hb.block a.block ha.lt)
  exact ⟨⟨by rw [e];exact ha.1,ha.2⟩,e⟩
 refine ⟨⟨fun e he=>?_,hs.disj,hs.apart⟩,⟨hb.os,hb.tape,hb.output,hb.size,hc,fun b hlt h=>⟨hb.block b hlt,h⟩,fun n=>absurd hl n⟩⟩
 exact Ent.holds_mono (hs.holds e he) hc (fun b hx=>hb.block b (zcQ hs he hx))
theorem Sim.new {w:World} {H:Own} (hs:Sim w H) (o:Obj):Sim (w.alloc o) H/\Ext w H (w.alloc o) H :=
 hs.more rfl rfl rfl (by simp) fun b hb=>Below.heap_alloc w o b hb
theorem Sim.drew {w:World} {H:Own} (hs:Sim w H):Sim w.drew H/\Ext w H w.drew H:=hs.more rfl rfl rfl (Nat.le_refl _) fun b hb=>rfl
theorem zgV {w:World} {H:Own} (hs:Sim w H) (xs:Array Value) (T:TypeId) (k:Nat) (hk:k<xs.size):stable (w.alloc (.cells xs T)) H ⟨w.heap.size,k,none⟩ :=
 ⟨by rw [World.cell?_alloc_new];simp [hk],fun e he ha=>absurd (zjt hs he ha) (Nat.lt_irrefl _)⟩
theorem DOp.new {P:Program} {o:Oper} {f:Operand->V} {H:Own} {d:V} (h:∀ (a:Act) (w:World),Sim w H->(∀ x,x∈o.op.operands->R (stable w H) w (a.eval x) (f x)) ->
   ∃ v w',(execOp a.eval o).run P w = .ok (.value v) w'/\(Sim w' H/\Ext w H w' H)/\R (stable w' H) w' v d) :
  DOp P o f H fun d' H'=>d'=d/\H'=H:=fun a w next Q hs hr hn=>by
 obtain ⟨v,w',h1,⟨h2,h3⟩,h4⟩:=h a w hs hr
 unfold Oper.wp
 rw [h1]
 exact hn v w' d H h2 h3 h4 ⟨rfl,rfl⟩
theorem zbn (b:Addr) (n:Nat) (h:b.spot=none):b.add n=⟨b.block,b.off+n,none⟩:=by
 unfold Addr.add
 split
 · rename_i h0;subst h0;cases b;simp_all
 · cases b;simp_all
theorem zo6 (b:Addr) (m n:Nat):(b.add m).add n=b.add (m+n):=by
 unfold Addr.add
 by_cases h1:m=0<;>by_cases h2:n=0<;>simp [h1,h2,Nat.add_assoc]
theorem addr_mk (b o n:Nat):(⟨b,o,none⟩:Addr).add n=⟨b,o+n,none⟩:=zbn _ _ rfl
theorem wrap_i64 (n:Int) (h1 : -9223372036854775808<=n) (h2:n<=9223372036854775807):IntKind.i64.wrap n=n:=by simp [IntKind.wrap,IntKind.bits,IntKind.signed];omega
theorem wrap_u8 (n:Int) (h1:0<=n) (h2:n<=255):IntKind.u8.wrap n=n:=by simp [IntKind.wrap,IntKind.bits,IntKind.signed];omega
theorem zfX (n:Int) (h1 : -2147483648<=n) (h2:n<=2147483647):IntKind.i32.wrap n=n:=by simp [IntKind.wrap,IntKind.bits,IntKind.signed];omega
end Go.Proofs.YtgekknefphagbaaGreatDoor
namespace Go.Proofs.YtgekknefphagbaaGreatDoor
open Go.RowKit
set_option linter.unusedSimpArgs false
set_option linter.unusedVariables false
set_option linter.unusedSectionVars false
def zcw (T:Ty) (cs:List V) (off:Nat):V:=if T.agg then .agg ((cs.drop off).take T.size) else cs.getD off .any
def zdO (T:Ty) (cs:List V) (off:Nat):Prop:=T.kind≠0/\T.kind≠11/\(if T.agg then off+T.size<=cs.length else off<cs.length)
section
variable {P:Program}
theorem ze7 {S:Addr->Prop} {w:World} {t:TypeId} {xs:Array Value} {cs:List V} (hn:xs.size=cs.length) (h:∀ k,k<cs.length->R S w (xs.getD k undef) (cs.getD k .any)) {off:Nat} (hs:zdO (ty P t) cs off) :
  ∃ v,(part t xs off).run P w = .ok v w/\R S w v (zcw (ty P t) cs off):=by
 obtain ⟨h0,h1,h2⟩:=hs
 unfold part zcw
 rw [Sem.run_bind,zgI h0 h1]
 simp only [Result.andThen]
 cases ha:(ty P t).agg with
 | true =>
  rw [ha] at h2
  simp only [if_true] at h2 ⊢
  refine ⟨.agg (xs.extract off (off+(ty P t).size)),by simp [za4 h0 h1], .agg _ _ (by simp;omega) fun k hk=>?_⟩
  have hk':k<(ty P t).size:=by simp at hk;omega
  have:=h (off+k) (by omega)
  have e1:(xs.extract off (off+(ty P t).size)).getD k undef=xs.getD (off+k) undef:=by
   simp only [Array.getD_eq_getD_getElem?,Array.getElem?_extract]
   rw [if_pos (by omega)]
  have e2:(List.take (ty P t).size (cs.drop off)).getD k .any=cs.getD (off+k) .any:=by
   simp only [List.getD_eq_getElem?_getD,List.getElem?_take,List.getElem?_drop]
   rw [if_pos hk']
  rw [e1,e2];exact this
 | false =>
  rw [ha] at h2
  simp only [Bool.false_eq_true,if_false] at h2 ⊢
  have hx:xs[off]? = some (xs.getD off undef):=by
   have:off<xs.size:=by omega
   simp [Array.getD_eq_getD_getElem?,this]
  exact ⟨_,by rw [hx];rfl,h off h2⟩
end
def nilQ:Value->Value->Option Bool
 | .pointer a, .pointer b=>match a,b with
  | none,b=>some b.isNone
  | some _,none=>some false
  | some _,some _=>none
 | .slice a _ _, .slice b _ _=>match a,b with
  | none,b=>some b.isNone
  | some _,none=>some false
  | some _,some _=>none
 | .map a, .map b=>match a,b with
  | none,b=>some b.isNone
  | some _,none=>some false
  | some _,some _=>none
 | _,_=>none
def nilK:Value->Nat
 | .pointer _=>7
 | .slice ..=>4
 | .map _=>8
 | _=>0
def eqR (op:BinOp):Option Bool->V
 | some r=>match op with
  | .eql=>.bool r
  | .neq=>.bool !r
  | _=>.any
 | none=>.any
def eqL:List V->List V->Bool
 | a::l,b::m=>(match a,b with
  | .int _ a, .int _ b=>a==b
  | .str a, .str b=>a==b
  | .bool a, .bool b=>a==b
  | _,_=>false)&&eqL l m
 | _,_=>true
def eqLS:List Nat->List V->List V->Prop
 | [],[],[]=>True
 | k::ks,a::l,b::m=>(match a,b with
  | .int p _, .int q _=>k=2/\p=q
  | .str _, .str _=>k=3
  | .bool _, .bool _=>k=1
  | _,_=>False)/\eqLS ks l m
 | _,_,_=>False
def zi7 (P:Program) (g:TypeId->Option (List Nat)):List Field->Nat->Option (List Nat)
 | [],_=>some []
 | f::fs,off =>
  if f.name ≠ "_" /\ f.offset=off then
   match g f.type with
   | some ks=>(zi7 P g fs (off+ks.length)).map (ks ++ ·)
   | none=>none
  else none
def leaf (P:Program):Nat->TypeId->Option (List Nat)
 | 0,_=>none
 | d+1,t=>match P.underlying t with
  | some .bool=>if (ty P t).kind=1 then some [1] else none
  | some (.int _)=>if (ty P t).kind=2 then some [2] else none
  | some .string=>if (ty P t).kind=3 then some [3] else none
  | some (.struct fs)=>if P.stoodInHeld t=true\/(ty P t).kind≠6 then none else
   match zi7 P (leaf P d) fs.toList 0 with
   | some ks=>if (ty P t).size=ks.length then some ks else none
   | none=>none
  | _=>none
def eqT (P:Program) (t:TypeId):Option (List Nat):=if P.eqGuardType P.depth t=true\/(ty P t).kind≠6 then none else leaf P 6 t
def eqTS (op:BinOp) (ks:Option (List Nat)) (cs ds:List V):Prop :=
 match op with
 | .eql | .neq=>match ks with
  | some ks=>eqLS ks cs ds
  | none=>False
 | _=>False
def nilS (T:Ty) (op:BinOp) (u v:Value):Prop :=
 match op with
 | .eql | .neq=>(nilQ u v).isSome=true/\T.kind=nilK u
 | _=>False
def spS (T:Ty) (op:BinOp):Value->Prop
 | .pointer none=>match op with
  | .eql | .neq=>T.kind=7
  | _=>False
 | _=>False
def binV (op:BinOp):V->V->V
 | .int k a, .int _ b=>match op with
  | .add=>.int k (k.wrap (a+b))
  | .sub=>.int k (k.wrap (a - b))
  | .mul=>.int k (k.wrap (a * b))
  | .quo=>.int k (k.wrap (a.tdiv b))
  | .rem=>.int k (a.tmod b)
  | .and=>.int k (k.wrap (BitVec.ofInt k.bits a &&& BitVec.ofInt k.bits b).toNat)
  | .or=>.int k (k.wrap (BitVec.ofInt k.bits a|||BitVec.ofInt k.bits b).toNat)
  | .xor=>.int k (k.wrap (BitVec.ofInt k.bits a^^^BitVec.ofInt k.bits b).toNat)
  | .andNot=>.int k (k.wrap (BitVec.ofInt k.bits a &&& ~~~BitVec.ofInt k.bits b).toNat)
  | .shl=>.int k (k.wrap (a * 2 ^ (min b.toNat k.bits)))
  | .shr=>.int k (a.fdiv (2 ^ (min b.toNat k.bits)))
  | .eql=>.bool (a==b)
  | .neq=>.bool (a != b)
  | .lss=>.bool (decide (a<b))
  | .leq=>.bool (decide (a<=b))
  | .gtr=>.bool (decide (b<a))
  | .geq=>.bool (decide (b<=a))
 | .str a, .str b=>match op with
  | .add=>.str (a++b)
  | .eql=>.bool (a==b)
  | .neq=>.bool !(a==b)
  | .lss=>.bool (Op.bytesLess a b)
  | .leq=>.bool (Op.bytesLess a b||a==b)
  | .gtr=>.bool (!(Op.bytesLess a b) && !(a==b))
  | .geq=>.bool !(Op.bytesLess a b)
  | _=>.any
 | .bool a, .bool b=>match op with
  | .eql=>.bool (a==b)
  | .neq=>.bool !(a==b)
  | _=>.any
 | .agg cs, .agg ds=>eqR op (some (eqL cs ds))
 | .raw u, .raw v=>eqR op (nilQ u v)
 | .gs u _, .gs v _=>eqR op (nilQ u v)
 | .raw u, .gs v _=>eqR op (nilQ u v)
 | .gs u _, .raw v=>eqR op (nilQ u v)
 | .sp _, .raw _=>eqR op (some false)
 | .raw _, .sp _=>eqR op (some false)
 | .sl _, .gs _ _=>eqR op (some false)
 | .gs _ _, .sl _=>eqR op (some false)
 | _,_=>.any
def binS (P:Program) (t:TypeId) (op:BinOp):V->V->Prop
 | .int k a, .int k' b=>match op with
  | .shl | .shr=>0<=b
  | .quo | .rem=>k=k'/\b≠0
  | _=>k=k'
 | .str a, .str b=>match op with
  | .add=>a.length+b.length<=9223372036854775807
  | .eql | .neq | .lss | .leq | .gtr | .geq=>True
  | _=>False
 | .bool a, .bool b=>match op with
  | .eql | .neq=>(ty P t).kind=1
  | _=>False
 | .agg cs, .agg ds=>eqTS op (eqT P t) cs ds
 | .raw u, .raw v=>nilS (ty P t) op u v
 | .gs u _, .gs v _=>nilS (ty P t) op u v
 | .raw u, .gs v _=>nilS (ty P t) op u v
 | .gs u _, .raw v=>nilS (ty P t) op u v
 | .sp _, .raw v=>spS (ty P t) op v
 | .raw v, .sp _=>spS (ty P t) op v
 | .sl l, .gs v m=>l≠[]/\v = .slice none 0 0/\nilS (ty P t) op v v
 | .gs v m, .sl l=>l≠[]/\v = .slice none 0 0/\nilS (ty P t) op v v
 | _,_=>False
theorem zdk (s:List UInt8):(bs s).size=s.length:=by simp [bs,ByteArray.size]
theorem zgp (s:List UInt8):(bs s).toList=s:=by
 have:(bs s).toList=(bs s).data.toList:=by simp [bs]
 rw [this];rfl
section
variable {P:Program}
theorem zhq {t:TypeId} (h0:(ty P t).kind≠0):((ty P t).kind=6->(ty P t).agg=true)/\((ty P t).kind<=3->(ty P t).agg=false):=by
 unfold ty at h0 ⊢
 split
 · rename_i i d hi hd;rw [hi,hd] at h0;cases d<;>simp_all [tyOf]
 · rename_i h;exact ⟨fun h'=>(by cases h'),fun _=>rfl⟩
theorem zjo {d:Nat} {t:TypeId} {ks:List Nat} (h:leaf P d t=some ks):(ty P t).kind≠0/\(ty P t).kind≠11/\((ty P t).agg=true->(ty P t).size=ks.length)/\((ty P t).agg=false->ks.length=1):=by
 cases d with
 | zero=>cases h
 | succ d =>
  have flat:∀ k,0<k->k<=3->(ty P t).kind=k->(ty P t).kind≠0/\(ty P t).kind≠11/\((ty P t).agg=true->(ty P t).size=[k].length)/\((ty P t).agg=false->[k].length=1):=fun k h0 h3 hk=>by
   refine ⟨by omega,by omega,fun ha=>?_,fun _=>rfl⟩
   rw [(zhq (P:=P) (t:=t) (by omega)).2 (by omega)] at ha
   cases ha
  unfold leaf at h
  split at h
  · split at h
    · rename_i hk;injection h with h;subst h;exact flat 1 (by omega) (by omega) hk
    · cases h
  · split at h
    · rename_i hk;injection h with h;subst h;exact flat 2 (by omega) (by omega) hk
    · cases h
  · split at h
    · rename_i hk;injection h with h;subst h;exact flat 3 (by omega) (by omega) hk
    · cases h
  · split at h
    · cases h
    · rename_i hn
      split at h
      · rename_i ks' _
        split at h
        · rename_i hz
          injection h with h
          subst h
          have hk:(ty P t).kind=6:=Decidable.byContradiction fun hk=>hn (.inr hk)
          refine ⟨by omega,by omega,fun _=>hz,fun ha=>?_⟩
          rw [(zhq (P:=P) (t:=t) (by omega)).1 hk] at ha
          cases ha
        · cases h
      · cases h
  · cases h
theorem zhK:∀ {ks:List Nat} {l m:List V},eqLS ks l m->l.length=ks.length/\m.length=ks.length
 | [],[],[],_=>⟨rfl,rfl⟩
 | k::ks,a::l,b::m,h=>by
  have:=zhK h.2
  exact ⟨by simp [this.1],by simp [this.2]⟩
 | [],_::_,_,h=>h.elim
 | [],[],_::_,h=>h.elim
 | _::_,[],_,h=>h.elim
 | _::_,_::_,[],h=>h.elim
theorem zkf:∀ {ks ks':List Nat} {l m:List V},eqLS (ks++ks') l m->eqLS ks (l.take ks.length) (m.take ks.length)/\eqLS ks' (l.drop ks.length) (m.drop ks.length)
 | [],ks',l,m,h=>⟨by simp [eqLS],by simpa using h⟩
 | k::ks,ks',a::l,b::m,h=>by
  have:=zkf (ks:=ks) (ks':=ks') h.2
  exact ⟨⟨h.1,by simpa using this.1⟩,by simpa using this.2⟩
 | _::_,_,[],_,h=>h.elim
 | _::_,_,_::_,[],h=>h.elim
theorem zjh:∀ (n:Nat) (l m:List V),n<=l.length->n<=m.length->eqL l m=(eqL (l.take n) (m.take n)&&eqL (l.drop n) (m.drop n))
 | 0,l,m,_,_=>by simp [eqL]
 | n+1,a::l,b::m,h1,h2=>by
  simp only [List.take_succ_cons,List.drop_succ_cons,eqL]
  rw [zjh n l m (by simpa using h1) (by simpa using h2),Bool.and_assoc]
 | _+1,[],_,h,_=>by simp at h
 | _+1,_::_,[],_,h=>by simp at h
def EqOk (P:Program) (D:Nat) (t:TypeId) (ks:List Nat):Prop :=
 ∀ (S:Addr->Prop) (w:World) (x y:Value) (a b:V),R S w x a->R S w y b->((ty P t).agg=true->a = .agg a.cs/\b = .agg b.cs)->((ty P t).agg=false->a.cs=[a]/\b.cs=[b])->eqLS ks a.cs b.cs ->
  (Op.equalIn D t x y).run P w = .ok (eqL a.cs b.cs) w
theorem zf5 {D:Nat} {d:Nat} (ih:∀ t ks,leaf P d t=some ks->EqOk P D t ks) {S:Addr->Prop} {w:World} {xs ys:Array Value} {cs ds:List V} (hx:xs.size=cs.length) (hxr:∀ k,k<cs.length->R S w (xs.getD k undef) (cs.getD k .any))
  (hy:ys.size=ds.length) (hyr:∀ k,k<ds.length->R S w (ys.getD k undef) (ds.getD k .any)):∀ (fs:List Field) (off:Nat) (ks:List Nat),off<=cs.length->off<=ds.length->zi7 P (leaf P d) fs off=some ks->eqLS ks (cs.drop off) (ds.drop off)->(Op.eqFields D xs ys fs).run P w = .ok (eqL (cs.drop off) (ds.drop off)) w
 | [],off,ks,_,_,h,he=>by
  injection h with h
  subst h
  have:=zhK he
  rw [List.eq_nil_of_length_eq_zero this.1]
  simp [Op.eqFields,eqL]
 | f::fs,off,ks,hoc,hod,h,he=>by
  unfold zi7 at h
  split at h
  · rename_i hn
    obtain ⟨hn,ho⟩:=hn
    split at h
    · rename_i k1 hk1
      cases h2:zi7 P (leaf P d) fs (off+k1.length) with
      | none=>rw [h2] at h;cases h
      | some k2 =>
       rw [h2] at h
       have hk:k1++k2=ks:=by simpa using h
       subst hk
       obtain ⟨l1,l2⟩:=zhK he
       simp only [List.length_drop,List.length_append] at l1 l2
       obtain ⟨e1,e2⟩:=zkf he
       obtain ⟨t0,t1,t2,t3⟩:=zjo hk1
       have hlen:((ty P f.type).agg=true->off+(ty P f.type).size<=cs.length)/\((ty P f.type).agg=false->k1.length=1/\off<cs.length/\off<ds.length)/\((ty P f.type).agg=true->off+(ty P f.type).size<=ds.length):=by
        refine ⟨fun ha=>?_,fun ha=>?_,fun ha=>?_⟩
        · have:=t2 ha
          rcases Nat.eq_zero_or_pos k1.length with h0 | h0<;>rcases Nat.eq_zero_or_pos k2.length with h1 | h1<;>omega
        · have:=t3 ha;omega
        · have:=t2 ha
          rcases Nat.eq_zero_or_pos k1.length with h0 | h0<;>rcases Nat.eq_zero_or_pos k2.length with h1 | h1<;>omega
       have s1:zdO (ty P f.type) cs f.offset:=by
        refine ⟨t0,t1,?_⟩
        rw [ho]
        split
        · rename_i ha;exact hlen.1 ha
        · rename_i ha;exact (hlen.2.1 (by simpa using ha)).2.1
       have s2:zdO (ty P f.type) ds f.offset:=by
        refine ⟨t0,t1,?_⟩
        rw [ho]
        split
        · rename_i ha;exact hlen.2.2 ha
        · rename_i ha;exact (hlen.2.1 (by simpa using ha)).2.2
       obtain ⟨u,u1,u2⟩:=ze7 (P:=P) hx hxr s1
       obtain ⟨v,v1,v2⟩:=ze7 (P:=P) hy hyr s2
       have pcs:∀ (zs:List V),((ty P f.type).agg=false->off<zs.length)->((ty P f.type).agg=false->(zs.getD off .any).cs=[zs.getD off .any])->(zcw (ty P f.type) zs f.offset).cs=(zs.drop off).take k1.length:=fun zs hz hflat=>by
        unfold zcw
        rw [ho]
        cases ha:(ty P f.type).agg with
        | true=>simp [V.cs,t2 ha]
        | false =>
         have hz':=hz ha
         simp only [Bool.false_eq_true,if_false]
         rw [hflat ha,t3 ha,List.drop_eq_getElem_cons hz',List.take_succ_cons,List.take_zero]
         simp [List.getD_eq_getElem?_getD,hz']
       have hflat:(ty P f.type).agg=false->(cs.getD off .any).cs=[cs.getD off .any]/\(ds.getD off .any).cs=[ds.getD off .any]:=fun ha=>by
        obtain ⟨q1,q2,q3⟩:=hlen.2.1 ha
        have g1:cs.drop off=cs.getD off .any::cs.drop (off+1):=by rw [List.drop_eq_getElem_cons q2];simp [List.getD_eq_getElem?_getD,q2]
        have g2:ds.drop off=ds.getD off .any::ds.drop (off+1):=by rw [List.drop_eq_getElem_cons q3];simp [List.getD_eq_getElem?_getD,q3]
        obtain ⟨kk,hkk⟩:∃ kk,k1=[kk]:=List.length_eq_one_iff.1 q1
        subst hkk
        rw [g1,g2] at e1
        simp only [List.length_singleton,List.take_succ_cons,List.take_zero] at e1
        have e1:=e1.1
        generalize cs.getD off .any=p at e1 ⊢
        generalize ds.getD off .any=q at e1 ⊢
        cases p<;>cases q<;>first | exact e1.elim | exact ⟨rfl,rfl⟩
       have p1:=pcs cs (fun ha=>(hlen.2.1 ha).2.1) (fun ha=>(hflat ha).1)
       have p2:=pcs ds (fun ha=>(hlen.2.1 ha).2.2) (fun ha=>(hflat ha).2)
       have hq:=ih f.type k1 hk1 S w u v _ _ u2 v2 (fun ha=>by simp only [zcw,ha,if_true,V.cs];exact ⟨trivial,trivial⟩) (fun ha=>by
        simp only [zcw,ha,Bool.false_eq_true,if_false,ho];exact hflat ha) (by rw [p1,p2];exact e1)
       rw [p1,p2] at hq
       have hr:=zf5 ih hx hxr hy hyr fs (off+k1.length) k2 (by omega) (by omega) h2 (by simpa [List.drop_drop] using e2)
       unfold Op.eqFields
       rw [if_pos hn]
       simp only [Sem.run_bind,u1,v1,hq,Result.andThen_ok]
       rw [zjh k1.length (cs.drop off) (ds.drop off) (by simp;omega) (by simp;omega)]
       cases hb:eqL ((cs.drop off).take k1.length) ((ds.drop off).take k1.length) with
       | true=>simpa [List.drop_drop] using hr
       | false=>simp only [Bool.not_false,if_true,Bool.false_and,Sem.run_pure]
    · cases h
  · cases h
theorem zkd:∀ (d:Nat) (t:TypeId) (ks:List Nat),leaf P d t=some ks->∀ D,d<=D->EqOk P D t ks
 | 0,_,_,h,_,_=>by cases h
 | d+1,t,ks,h,0,hD=>by omega
 | d+1,t,ks,h,D+1,hD=>by
  intro S w x y a b hx hy hagg hflat he
  have h':=h
  unfold leaf at h
  have one:∀ k,0<k->k<=3->(ty P t).kind=k->a.cs=[a]/\b.cs=[b]:=fun k h0 h3 hk=>hflat ((zhq (P:=P) (t:=t) (by omega)).2 (by omega))
  split at h
  · rename_i hu
    split at h
    · rename_i hk;injection h with h;subst h
      obtain ⟨e1,e2⟩:=one 1 (by omega) (by omega) hk
      rw [e1,e2] at he ⊢
      have he:=he.1
      cases a<;>cases b<;>first | exact he.elim | exact absurd (show 1=3 from he) (by decide) | exact absurd (show 1=2 from he.1) (by decide) | (cases hx;cases hy;rw [run_equalIn_bool' w D t _ _ hu];try simp [eqL])
    · cases h
  · rename_i k' hu
    split at h
    · rename_i hk;injection h with h;subst h
      obtain ⟨e1,e2⟩:=one 2 (by omega) (by omega) hk
      rw [e1,e2] at he ⊢
      have he:=he.1
      cases a<;>cases b<;>first | exact he.elim | exact absurd (show 2=1 from he) (by decide) | exact absurd (show 2=3 from he) (by decide) | (obtain ⟨_,rfl⟩:=he;cases hx;cases hy;rw [run_equalIn_int w D t _ k' _ _ hu];try simp [eqL])
    · cases h
  · rename_i hu
    split at h
    · rename_i hk;injection h with h;subst h
      obtain ⟨e1,e2⟩:=one 3 (by omega) (by omega) hk
      rw [e1,e2] at he ⊢
      have he:=he.1
      cases a<;>cases b<;>first | exact he.elim | exact absurd (show 3=1 from he) (by decide) | exact absurd (show 3=2 from he.1) (by decide) | (cases hx;cases hy;rw [run_equalIn_string w D t _ _ hu];try simp [eqL,zgp])
    · cases h
  · rename_i fs hu
    split at h
    · cases h
    · rename_i hn
      have hk:(ty P t).kind=6:=Decidable.byContradiction fun hk=>hn (.inr hk)
      have hst:P.stoodInHeld t=false:=by
       cases hs:P.stoodInHeld t with
       | true=>exact absurd (.inl hs) hn
       | false=>rfl
      have ha:=(zhq (P:=P) (t:=t) (by omega)).1 hk
      obtain ⟨e1,e2⟩:=hagg ha
      generalize a.cs=cs at *
      generalize b.cs=ds at *
      subst e1
      subst e2
      split at h
      · rename_i ks' hl
        split at h
        · injection h with h
          subst h
          cases hx with
          | agg xs _ hxn hxr =>
           cases hy with
           | agg ys _ hyn hyr =>
            have hfo:P.fieldsOf t=fs:=by simp [Program.fieldsOf,hu]
            rw [run_equalIn_struct w D t xs ys (by rw [hfo];exact hu) hst,hfo]
            have:=zf5 (D:=D) (fun t ks h=>zkd d t ks h D (by omega)) hxn hxr hyn hyr fs.toList 0 _ (Nat.zero_le _) (Nat.zero_le _) hl (by simpa using he)
            simpa using this
        · cases h
      · cases h
  · cases h
end
theorem zlN {P:Program} {t:TypeId} {w:World} (h:(ty P t).kind=1) (a b:Bool):(Op.equal t (.bool a) (.bool b)).run P w = .ok (a==b) w:=by
 have:∀ d,(Op.equalIn (d+1) t (.bool a) (.bool b)).run P w = .ok (a==b) w:=fun d=>by
  unfold Op.equalIn
  simp [run_underlying (zpj h)]
 exact this 9999
section
variable {P:Program} {S:Addr->Prop} {w:World} {op:BinOp} {t:TypeId}
theorem zcE {u v:Value} (px py:Operand) (h:nilS (ty P t) op u v):∃ z,(do eqGuard op t px py u v;binOp op t u v:Sem Value).run P w = .ok z w/\R S w z (eqR op (nilQ u v)):=by
 have deep:∀ {r:Bool} {x y:Value},(∀ d,(Op.equalIn (d+1) t x y).run P w = .ok r w)->(Op.equal t x y).run P w = .ok r w:=fun h=>h 9999
 have key:(nilQ u v).isSome=true->(ty P t).kind=nilK u->(eqGuard op t px py u v=pure ())/\∃ r,nilQ u v=some r/\(Op.equal t u v).run P w = .ok r w:=fun h1 h2=>by
  unfold nilQ at h1
  split at h1
  · have hu:=und_ptr h2
    split at h1
    · refine ⟨by unfold eqGuard;split<;>rfl,_,rfl,?_⟩
      exact deep fun d=>by unfold Op.equalIn;simp [run_underlying hu]
    · refine ⟨by unfold eqGuard;split<;>rfl,_,rfl,?_⟩
      exact deep fun d=>by unfold Op.equalIn;simp [run_underlying hu]
    · cases h1
  · have hu:=zaT h2
    split at h1
    · refine ⟨by unfold eqGuard;split<;>rfl,_,rfl,?_⟩
      exact deep fun d=>by unfold Op.equalIn;simp [run_underlying hu]
    · refine ⟨by unfold eqGuard;split<;>rfl,_,rfl,?_⟩
      exact deep fun d=>by unfold Op.equalIn;simp [run_underlying hu]
    · cases h1
  · have hu:=zhv h2
    split at h1
    · refine ⟨by unfold eqGuard;split<;>rfl,_,rfl,?_⟩
      exact deep fun d=>by unfold Op.equalIn;simp [run_underlying hu]
    · refine ⟨by unfold eqGuard;split<;>rfl,_,rfl,?_⟩
      exact deep fun d=>by unfold Op.equalIn;simp [run_underlying hu]
    · cases h1
  · cases h1
 unfold nilS at h
 split at h
 · obtain ⟨h1,h2⟩:=h
   obtain ⟨g1,r,g2,g3⟩:=key h1 h2
   rw [g1,g2]
   refine ⟨.bool r,?_, .bool r⟩
   have:binOp .eql t u v=(do pure (.bool (<-Op.equal t u v))):=by cases u<;>first | rfl | cases h1
   rw [this]
   simp [g3]
 · obtain ⟨h1,h2⟩:=h
   obtain ⟨g1,r,g2,g3⟩:=key h1 h2
   rw [g1,g2]
   refine ⟨.bool !r,?_, .bool _⟩
   have:binOp .neq t u v=(do pure (.bool (!(<-Op.equal t u v)))):=by cases u<;>first | rfl | cases h1
   rw [this]
   simp [g3]
 · exact h.elim
end
theorem bin_run {P:Program} {S:Addr->Prop} {w:World} {op:BinOp} {t:TypeId} {x y:Value} {a b:V} (px py:Operand) (hx:R S w x a) (hy:R S w y b) (h:binS P t op a b) :
  ∃ v,(do eqGuard op t px py x y;binOp op t x y:Sem Value).run P w = .ok v w/\R S w v (binV op a b):=by
 cases hx with
 | int k m =>
  cases hy with
  | int k' n =>
   have hg:eqGuard op t px py (.int k m) (.int k' n)=pure ():=by unfold eqGuard;split<;>rfl
   rw [hg]
   cases op<;>simp only [binS] at h<;>first | subst h | (obtain ⟨rfl,h⟩:=h) | skip
   all_goals simp only [binV,binOp,Op.intArith,Op.intDiv,Op.intBits,Op.intCmp,Op.shift]
   all_goals (simp [Int.not_lt.2, *];first | exact .int _ _ | exact .bool _)
  | _=>exact h.elim
 | str c =>
  cases hy with
  | str e =>
   have hg:eqGuard op t px py (.string (bs c)) (.string (bs e))=pure ():=by unfold eqGuard;split<;>rfl
   rw [hg]
   cases op<;>simp only [binS] at h<;>first | exact h.elim | skip
   all_goals simp only [binV,binOp,Op.stringOp,zgp,zdk]
   case add =>
    rw [if_neg (by simp [IntKind.max,IntKind.bits,IntKind.signed];omega)]
    refine ⟨_,by simp;rfl,?_⟩
    rw [show bs c++bs e=bs (c++e) from ByteArray.mk_append_mk c e]
    exact .str _
   all_goals (refine ⟨_,by simp;rfl,?_⟩;exact .bool _)
  | _=>exact h.elim
 | bool c =>
  cases hy with
  | bool e =>
   have hg:eqGuard op t px py (.bool c) (.bool e)=pure ():=by unfold eqGuard;split<;>rfl
   rw [hg]
   cases op<;>simp only [binS] at h<;>first | exact h.elim | skip
   all_goals
    simp only [binV,binOp]
    refine ⟨_,by simp [zlN h];rfl,?_⟩
    exact .bool _
  | _=>exact h.elim
 | agg xs cs hn hr =>
  cases hy with
  | agg ys ds hn' hr' =>
   simp only [binS,eqTS] at h
   have key:∀ ks,eqT P t=some ks->eqLS ks cs ds->(eqGuard op t px py (.agg xs) (.agg ys)).run P w = .ok () w/\(Op.equalIn 10000 t (.agg xs) (.agg ys)).run P w = .ok (eqL cs ds) w:=fun ks hk he=>by
    unfold eqT at hk
    split at hk
    · cases hk
    · rename_i hg
      have hg':P.eqGuardType P.depth t=false:=by
       cases hs:P.eqGuardType P.depth t with
       | true=>exact absurd (.inl hs) hg
       | false=>rfl
      refine ⟨run_eqGuard_agg w op t px py xs ys hg',?_⟩
      have hk6:(ty P t).kind=6:=Decidable.byContradiction fun hk=>hg (.inr hk)
      refine zkd 6 t ks hk 10000 (by omega) S w _ _ (.agg cs) (.agg ds) (.agg _ _ hn hr) (.agg _ _ hn' hr') (fun _=>⟨rfl,rfl⟩) (fun ha=>?_) he
      rw [(zhq (P:=P) (t:=t) (by omega)).1 hk6] at ha
      cases ha
   split at h
   · split at h
     · rename_i ks hk
       obtain ⟨g1,g2⟩:=key ks hk h
       refine ⟨_,?_, .bool (eqL cs ds)⟩
       rw [Sem.run_bind,g1]
       simp only [Result.andThen_ok]
       rw [run_eql_struct,g2]
       rfl
     · exact h.elim
   · split at h
     · rename_i ks hk
       obtain ⟨g1,g2⟩:=key ks hk h
       refine ⟨_,?_, .bool !(eqL cs ds)⟩
       rw [Sem.run_bind,g1]
       simp only [Result.andThen_ok]
       rw [run_neq_struct,g2]
       rfl
     · exact h.elim
   · exact h.elim
  | _=>exact h.elim
 | raw u =>
  cases hy with
  | raw v=>exact zcE px py h
  | gs v l hl=>exact zcE px py h
  | sp b cs h1 h3 h4 =>
   simp only [binS] at h
   unfold spS at h
   split at h
   · split at h
     · exact zcE (u:=.pointer none) (v:=.pointer (some b)) px py ⟨rfl,h⟩
     · exact zcE (u:=.pointer none) (v:=.pointer (some b)) px py ⟨rfl,h⟩
     · exact h.elim
   · exact h.elim
  | _=>exact h.elim
 | sp b cs h1 h3 h4 =>
  cases hy with
  | raw v =>
   simp only [binS] at h
   unfold spS at h
   split at h
   · split at h
     · exact zcE (u:=.pointer (some b)) (v:=.pointer none) px py ⟨rfl,h⟩
     · exact zcE (u:=.pointer (some b)) (v:=.pointer none) px py ⟨rfl,h⟩
     · exact h.elim
   · exact h.elim
  | _=>exact h.elim
 | gs u l hl =>
  cases hy with
  | raw v=>exact zcE px py h
  | gs v l hl=>exact zcE px py h
  | sl a n cap m sz hn hc ha h1 h2 h3 h4 =>
   obtain ⟨g1,rfl,g2⟩:=h
   cases a with
   | none=>exact absurd (ha rfl) g1
   | some a =>
    unfold nilS at g2
    split at g2
    · exact zcE (u:=.slice none 0 0) (v:=.slice (some a) n cap) px py ⟨rfl,g2.2⟩
    · exact zcE (u:=.slice none 0 0) (v:=.slice (some a) n cap) px py ⟨rfl,g2.2⟩
    · exact g2.elim
  | _=>exact h.elim
 | sl a n cap m sz hn hc ha h1 h2 h3 h4 =>
  cases hy with
  | gs v l hl =>
   obtain ⟨g1,rfl,g2⟩:=h
   cases a with
   | none=>exact absurd (ha rfl) g1
   | some a =>
    unfold nilS at g2
    split at g2
    · exact zcE (u:=.slice (some a) n cap) (v:=.slice none 0 0) px py ⟨rfl,g2.2⟩
    · exact zcE (u:=.slice (some a) n cap) (v:=.slice none 0 0) px py ⟨rfl,g2.2⟩
    · exact g2.elim
  | _=>exact h.elim
 | _=>exact h.elim
end Go.Proofs.YtgekknefphagbaaGreatDoor
namespace Go.Proofs.YtgekknefphagbaaGreatDoor
open Go.RowKit
set_option linter.unusedSimpArgs false
set_option linter.unusedVariables false
set_option linter.unusedSectionVars false
def V.solid:V->Bool
 | .any | .tup _=>false
 | .raw (.agg _) | .raw (.tuple _)=>false
 | _=>true
def V.one:V->Bool
 | .any | .tup _ | .agg _=>false
 | .raw (.agg _) | .raw (.tuple _)=>false
 | _=>true
theorem R.solid {S:Addr->Prop} {w:World} {v:Value} {d:V} (h:R S w v d) (hd:d.solid=true):v.cells.size=d.cs.length/\∀ k,k<d.cs.length->R S w (v.cells.getD k undef) (d.cs.getD k .any):=by
 have one:∀ {v:Value} {d:V},v.cells = #[v]->d.cs=[d]->R S w v d->v.cells.size=d.cs.length/\∀ k,k<d.cs.length->R S w (v.cells.getD k undef) (d.cs.getD k .any):=fun {v d} h1 h2 h=>by
  rw [h1,h2]
  refine ⟨rfl,fun k hk=>?_⟩
  have:k=0:=by simpa using hk
  subst this
  simpa using h
 cases h with
 | any v=>cases hd
 | agg xs cs hn h=>exact ⟨hn,h⟩
 | tup xs cs hn h=>cases hd
 | raw v=>cases v<;>first | exact one rfl rfl (.raw _) | cases hd
 | bool b=>exact one rfl rfl (.bool b)
 | int k n=>exact one rfl rfl (.int k n)
 | str s=>exact one rfl rfl (.str s)
 | sl a n cap l sz hn hc ha h1 h2 h3 h4=>exact one rfl rfl (.sl a n cap l sz hn hc ha h1 h2 h3 h4)
 | gs v l h=>cases h with | sl a n cap l sz hn hc ha h1 h2 h3 h4=>exact one rfl rfl (.gs _ _ (.sl a n cap l sz hn hc ha h1 h2 h3 h4))
 | sp b cs h1 h3 h4=>exact one rfl rfl (.sp b cs h1 h3 h4)
 | fn f xs ys cs ds hn h hm h'=>exact one rfl rfl (.fn f xs ys cs ds hn h hm h')
 | ar a n cap hc ha=>exact one rfl rfl (.ar a n cap hc ha)
 | ep b n cap k=>exact one rfl rfl (.ep b n cap k)
 | sub sz a N cap lo n h ha=>exact one rfl rfl (.sub sz a N cap lo n h ha)
theorem R.one_ {S:Addr->Prop} {w:World} {v:Value} {d:V} (h:R S w v d) (hd:d.one=true):(∀ xs,v ≠ .agg xs)/\∀ xs,v ≠ .tuple xs:=by
 cases h with
 | any v=>cases hd
 | agg xs cs hn h=>cases hd
 | tup xs cs hn h=>cases hd
 | raw v=>refine ⟨fun xs e=>?_,fun xs e=>?_⟩<;>(subst e;cases hd)
 | gs v l h=>cases h with | sl=>exact ⟨fun _ e=>(by cases e),fun _ e=>(by cases e)⟩
 | _=>exact ⟨fun _ e=>(by cases e),fun _ e=>(by cases e)⟩
def V.flat:V->Bool
 | .agg _=>false
 | _=>true
theorem V.flat_n {d:V} (h:d.flat=true):d.n=1/\d.cell 0=d:=by cases d<;>first | exact ⟨rfl,rfl⟩ | cases h
def u8 (b:UInt8):V:=.int .u8 (b.toNat:Int)
def zg8:V->UInt8
 | .int _ n=>UInt8.ofNat n.toNat
 | _=>0
def isU8:V->Bool
 | .int .u8 _=>true
 | _=>false
theorem zmZ (b:UInt8):zg8 (u8 b)=b:=by simp [zg8,u8]
theorem isU8_u8 (b:UInt8):isU8 (u8 b)=true:=rfl
@[simp] theorem zbg (s:List UInt8):(s.map u8).map zg8=s:=by
 rw [List.map_map]
 exact (List.map_congr_left fun b _=>zmZ b).trans (List.map_id s)
@[simp] theorem zbv (s:List UInt8):(s.map u8).all isU8=true:=by simp [List.all_map,isU8_u8]
def pickV:V->V->V->V
 | .bool c,a,b=>if c then a else b
 | _,_,_=>.any
def unV (op:UnOp):V->V
 | .bool b=>match op with
  | .not=>.bool !b
  | _=>.any
 | .int k n=>match op with
  | .neg=>.int k (k.wrap (0 - n))
  | .xor=>.int k (k.wrap (BitVec.ofInt k.bits (if k.signed then -1 else k.max)^^^BitVec.ofInt k.bits n).toNat)
  | _=>.any
 | _=>.any
def unS (op:UnOp):V->Prop
 | .bool _=>op = .not
 | .int _ _=>op = .neg\/op = .xor
 | _=>False
def zjT (s d:Ty):V->V
 | .int _ n=>match d.ik with
  | some k=>.int k (k.wrap n)
  | none=>.any
 | .str x=>if d.kind=4 then .sl (x.map u8) else .str x
 | .sl l=>.str (l.map zg8)
 | .gs _ l=>.str (l.map zg8)
 | _=>.any
def convS (P:Program) (s d:Ty):V->Prop
 | .int _ _=>d.ik.isSome=true/\s.kind≠0
 | .str x=>s.kind=3/\(d.kind=3\/(d.kind=4/\(ty P d.elem).ik=some .u8))
 | .sl l=>s.kind=4/\d.kind=3/\(ty P s.elem).ik=some .u8/\l.all isU8=true
 | .gs _ l=>s.kind=4/\d.kind=3/\(ty P s.elem).ik=some .u8/\l.all isU8=true
 | _=>False
def lenV (T:Ty):V->V
 | .sl l=>.int .i64 l.length
 | .gs _ l=>.int .i64 l.length
 | .str s=>.int .i64 s.length
 | .raw (.slice _ n _)=>.int .i64 n
 | .ar _ n=>.int .i64 n
 | .sp _=>.int .i64 T.len
 | .raw (.pointer _)=>.int .i64 T.len
 | _=>.any
def lenS (P:Program) (T:Ty):V->Prop
 | .sl _=>T.kind=4
 | .gs _ _=>T.kind=4
 | .str _=>T.kind=3
 | .raw (.slice ..)=>T.kind=4
 | .ar _ _=>T.kind=4
 | _=>False
def zki (P:Program) (T:Ty):V->V->V
 | .sl l, .int _ i=>.sp (l.getD i.toNat .any).cs
 | .gs _ l, .int _ i=>.sp (l.getD i.toNat .any).cs
 | .raw (.slice (some a) _ _), .int _ i=>.raw (.pointer (some (a.add (i.toNat * (ty P T.elem).size))))
 | .raw (.pointer (some a)), .int _ i=>.raw (.pointer (some (a.add (i.toNat * (ty P T.elem).size))))
 | .sp cs, .int _ i=>.sp (cs.drop (i.toNat * (ty P T.elem).size))
 | .ar v _, .int _ i=>.ep v (i.toNat * (ty P T.elem).size)
 | _,_=>.any
def zhs (P:Program) (T:Ty):V->V->Prop
 | .sl l, .int _ i=>T.kind=4/\(ty P T.elem).kind≠0/\(ty P T.elem).kind≠11/\0<=i/\i<l.length/\(l.getD i.toNat .any).n=(ty P T.elem).size/\(l.getD i.toNat .any).solid=true
 | .gs _ l, .int _ i=>T.kind=4/\(ty P T.elem).kind≠0/\(ty P T.elem).kind≠11/\0<=i/\i<l.length/\(l.getD i.toNat .any).n=(ty P T.elem).size/\(l.getD i.toNat .any).solid=true
 | .raw (.slice (some a) n _), .int _ i=>T.kind=4/\(ty P T.elem).kind≠0/\(ty P T.elem).kind≠11/\0<=i/\i<n
 | .raw (.pointer (some a)), .int _ i=>T.kind=5/\(ty P T.elem).kind≠0/\(ty P T.elem).kind≠11/\0<=i/\i<T.len
 | .sp cs, .int _ i=>T.kind=5/\(ty P T.elem).kind≠0/\(ty P T.elem).kind≠11/\0<=i/\i<T.len
 | .ar _ n, .int _ i=>T.kind=4/\(ty P T.elem).kind≠0/\(ty P T.elem).kind≠11/\0<=i/\i<n
 | _,_=>False
def idxV (P:Program) (T:Ty):V->V->V
 | .str s, .int _ i=>u8 (s.getD i.toNat 0)
 | .agg cs, .int _ i=>zcw (ty P T.elem) cs (i.toNat * (ty P T.elem).size)
 | _,_=>.any
def idxS (P:Program) (T:Ty):V->V->Prop
 | .str s, .int _ i=>T.kind=3/\0<=i/\i<s.length
 | .agg cs, .int _ i=>T.kind=5/\0<=i/\i<T.len/\zdO (ty P T.elem) cs (i.toNat * (ty P T.elem).size)
 | _,_=>False
def layV (cs:List V) (off:Nat) (d:List V):List V:=cs.take off++d++cs.drop (off+d.length)
def zdM (place:Nat->Option (Nat×Nat)):List V->List (Nat×V)->List V
 | cs,[]=>cs
 | cs,(i,d)::l=>match place i with
  | some (off,_)=>zdM place (layV cs off d.cs) l
  | none=>[]
def zlc (place:Nat->Option (Nat×Nat)):List V->List (Nat×V)->Prop
 | _,[]=>True
 | cs,(i,d)::l=>match place i with
  | some (off,sz)=>d.solid=true/\d.cs.length=sz/\off+sz<=cs.length/\zlc place (layV cs off d.cs) l
  | none=>False
def zdY (sz:Nat) (agg:Bool):Nat->List V->List V
 | 0,_=>[]
 | n+1,cs=>(if agg then .agg (cs.take sz) else cs.getD 0 .any)::zdY sz agg n (cs.drop sz)
def zqB:V->Option V->Option V->V
 | .sl l,lo,hi=>.sl ((l.take (match hi with | some (.int _ h)=>h.toNat | _=>l.length)).drop (match lo with | some (.int _ h)=>h.toNat | _=>0))
 | .gs _ l,lo,hi=>.sl ((l.take (match hi with | some (.int _ h)=>h.toNat | _=>l.length)).drop (match lo with | some (.int _ h)=>h.toNat | _=>0))
 | .str l,lo,hi=>.str ((l.take (match hi with | some (.int _ h)=>h.toNat | _=>l.length)).drop (match lo with | some (.int _ h)=>h.toNat | _=>0))
 | _,_,_=>.any
def bndS (n:Nat):Option V->Option V->Prop
 | none,none=>True
 | some (.int _ l),none=>0<=l/\l<=n
 | none,some (.int _ h)=>0<=h/\h<=n
 | some (.int _ l),some (.int _ h)=>0<=l/\l<=h/\h<=n
 | _,_=>False
def zrd (P:Program) (T:Ty):V->Option V->Option V->Prop
 | .sl l,lo,hi=>T.kind=4/\(ty P T.elem).kind≠0/\(ty P T.elem).kind≠11/\bndS l.length lo hi/\∀ x∈l,x.n=(ty P T.elem).size
 | .gs _ l,lo,hi=>T.kind=4/\(ty P T.elem).kind≠0/\(ty P T.elem).kind≠11/\bndS l.length lo hi/\∀ x∈l,x.n=(ty P T.elem).size
 | .str l,lo,hi=>T.kind=3/\bndS l.length lo hi
 | _,_,_=>False
def mmV (mx:Bool):V->V->V
 | .int k a, .int _ b=>.int k (if mx then max a b else min a b)
 | _,_=>.any
def mmS:V->V->Prop
 | .int _ _, .int _ _=>True
 | _,_=>False
def zf7 (P:Program) (t:TypeId):Nat->Option (Nat×Nat) :=
 if (ty P t).kind=5 then fun i=>some (i * (ty P (ty P t).elem).size,(ty P (ty P t).elem).size) else fun i=>((ty P t).offs[i]?).map fun p=>(p.1,(ty P p.2).size)
def val (P:Program) (o:Oper) (f:Operand->V):V :=
 match o.op with
 | .move x | .assign x=>f x
 | .pick c a b=>pickV (f c) (f a) (f b)
 | .binOp op _ x y _=>binV op (f x) (f y)
 | .unOp op _ x=>unV op (f x)
 | .convert s d x=>zjT (ty P s) (ty P d) (f x)
 | .nilCheck x=>f x
 | .load t x=>match f x with
  | .sp cs=>zcw (ty P t) cs 0
  | _=>.any
 | .fieldAddr s x i=>match f x with
  | .sp cs=>.sp (cs.drop ((ty P s).offs.getD i (0,0)).1)
  | .raw (.pointer (some a))=>.raw (.pointer (some (a.add ((ty P s).offs.getD i (0,0)).1)))
  | .ep v k=>.ep v (k+((ty P s).offs.getD i (0,0)).1)
  | _=>.any
 | .field s x i=>match f x with
  | .agg cs=>zcw (ty P ((ty P s).offs.getD i (0,0)).2) cs ((ty P s).offs.getD i (0,0)).1
  | _=>.any
 | .indexAddr t x i=>zki P (ty P t) (f x) (f i)
 | .index t x i=>idxV P (ty P t) (f x) (f i)
 | .extract x i=>match f x with
  | .tup ds=>ds.getD i .any
  | _=>.any
 | .build t parts=>.agg (zdM (zf7 P t) (ty P t).zero (parts.toList.map fun (i,x)=>(i,f x)))
 | .buildSlice t n parts=>.sl (zdY (ty P (ty P t).elem).size (ty P (ty P t).elem).agg n
  (zdM (fun i=>some (i * (ty P (ty P t).elem).size,(ty P (ty P t).elem).size)) ((List.replicate n (ty P (ty P t).elem).zero).flatten) (parts.toList.map fun (i,x)=>(i,f x))))
 | .box _ x=>.sp (f x).cs
 | .slice t x lo hi none=>zqB (f x) (lo.map f) (hi.map f)
 | .makeFunc fn first cap=>.fn fn (first.toList.map f) (cap.toList.map f)
 | .call { callee:=.builtin .len,args,argTypes }=>match args.toList,argTypes.toList with
  | [x],[T]=>lenV (ty P T) (f x)
  | _,_=>.any
 | .call { callee:=.builtin .max,args, .. }=>match args.toList with
  | [x,y]=>mmV true (f x) (f y)
  | _=>.any
 | .call { callee:=.builtin .min,args, .. }=>match args.toList with
  | [x,y]=>mmV false (f x) (f y)
  | _=>.any
 | _=>.any
def side (P:Program) (o:Oper) (f:Operand->V):Prop :=
 match o.op with
 | .move _ | .assign _=>True
 | .pick c _ _=>match f c with
  | .bool _=>True
  | _=>False
 | .binOp op t x y _=>binS P t op (f x) (f y)
 | .unOp op _ x=>unS op (f x)
 | .convert s d x=>convS P (ty P s) (ty P d) (f x)
 | .nilCheck x=>match f x with
  | .sp _=>True
  | .raw (.pointer (some _))=>True
  | .ep _ _=>True
  | _=>False
 | .load t x=>match f x with
  | .sp cs=>zdO (ty P t) cs 0
  | _=>False
 | .fieldAddr s x i=>match f x with
  | .sp cs=>(ty P s).kind=6/\i<(ty P s).offs.length/\(ty P ((ty P s).offs.getD i (0,0)).2).kind≠0/\(ty P ((ty P s).offs.getD i (0,0)).2).kind≠11/\(ty P ((ty P s).offs.getD i (0,0)).2).size≠0
  | .raw (.pointer (some a))=>(ty P s).kind=6/\i<(ty P s).offs.length/\(ty P ((ty P s).offs.getD i (0,0)).2).kind≠0/\(ty P ((ty P s).offs.getD i (0,0)).2).kind≠11/\(ty P ((ty P s).offs.getD i (0,0)).2).size≠0
  | .ep _ _=>(ty P s).kind=6/\i<(ty P s).offs.length/\(ty P ((ty P s).offs.getD i (0,0)).2).kind≠0/\(ty P ((ty P s).offs.getD i (0,0)).2).kind≠11/\(ty P ((ty P s).offs.getD i (0,0)).2).size≠0
  | _=>False
 | .field s x i=>match f x with
  | .agg cs=>(ty P s).kind=6/\i<(ty P s).offs.length/\zdO (ty P ((ty P s).offs.getD i (0,0)).2) cs ((ty P s).offs.getD i (0,0)).1
  | _=>False
 | .indexAddr t x i=>zhs P (ty P t) (f x) (f i)
 | .index t x i=>idxS P (ty P t) (f x) (f i)
 | .extract x i=>match f x with
  | .tup ds=>i<ds.length
  | _=>False
 | .build t parts=>(((ty P t).kind=6/\∀ p∈(ty P t).offs,(ty P p.2).kind≠0/\(ty P p.2).kind≠11)\/((ty P t).kind=5/\(ty P (ty P t).elem).kind≠0/\(ty P (ty P t).elem).kind≠11))/\(ty P t).zero≠[] /\
  zlc (zf7 P t) (ty P t).zero (parts.toList.map fun (i,x)=>(i,f x))
 | .buildSlice t n parts=>(ty P t).kind=4/\(ty P (ty P t).elem).kind≠0/\(ty P (ty P t).elem).kind≠11/\n * (ty P (ty P t).elem).size<=16777216/\(ty P (ty P t).elem).zero.length=(ty P (ty P t).elem).size/\0<(ty P (ty P t).elem).size /\
  ((ty P (ty P t).elem).agg=false->(ty P (ty P t).elem).size=1/\(zdM (fun i=>some (i * (ty P (ty P t).elem).size,(ty P (ty P t).elem).size)) ((List.replicate n (ty P (ty P t).elem).zero).flatten) (parts.toList.map fun (i,x)=>(i,f x))).all V.flat=true) /\
  zlc (fun i=>some (i * (ty P (ty P t).elem).size,(ty P (ty P t).elem).size)) ((List.replicate n (ty P (ty P t).elem).zero).flatten) (parts.toList.map fun (i,x)=>(i,f x))
 | .box t x=>(f x).solid=true
 | .slice t x lo hi none=>zrd P (ty P t) (f x) (lo.map f) (hi.map f)
 | .makeFunc fn first cap=>True
 | .call { callee:=.builtin .len,args,argTypes }=>match args.toList,argTypes.toList with
  | [x],[T]=>lenS P (ty P T) (f x)
  | _,_=>False
 | .call { callee:=.builtin .max,args, .. }=>match args.toList with
  | [x,y]=>mmS (f x) (f y)
  | _=>False
 | .call { callee:=.builtin .min,args, .. }=>match args.toList with
  | [x,y]=>mmS (f x) (f y)
  | _=>False
 | _=>False
section
variable {P:Program}
theorem zcY {S:Addr->Prop} {w:World} {t:TypeId} {b:Addr} {cs:List V} (hb:b.spot=none) (h3:∀ k,k<cs.length->(w.cell? ⟨b.block,b.off+k,none⟩).isSome=true)
  (h4:∀ k,k<cs.length->R S w (zbb w ⟨b.block,b.off+k,none⟩) (cs.getD k .any)) (hs:zdO (ty P t) cs 0) :
  ∃ v,(loadVar t b).run P w = .ok v w/\R S w v (zcw (ty P t) cs 0):=by
 obtain ⟨h0,h1,h2⟩:=hs
 have hc:∀ k,k<cs.length->w.cell? (b.add k)=some (zbb w ⟨b.block,b.off+k,none⟩):=fun k hk=>by
  rw [zbn b k hb]
  obtain ⟨v,hv⟩:=Option.isSome_iff_exists.1 (h3 k hk)
  rw [zbb,hv];rfl
 unfold loadVar zcw
 rw [Sem.run_bind,zgI h0 h1]
 simp only [Result.andThen]
 cases ha:(ty P t).agg with
 | true =>
  rw [ha] at h2
  simp only [if_true] at h2 ⊢
  have hl:=run_loadCells (P:=P) w b (ty P t).size (fun j=>zbb w ⟨b.block,b.off+j,none⟩) (fun j hj=>hc j (by omega))
  refine ⟨_,by simp [za4 h0 h1,hl];rfl, .agg _ _ (by simp;omega) fun k hk=>?_⟩
  have hk':k<(ty P t).size:=by simp at hk;omega
  have:=h4 k (by omega)
  simpa [Array.getD_eq_getD_getElem?,List.getD_eq_getElem?_getD,hk',List.getElem?_take] using this
 | false =>
  rw [ha] at h2
  simp only [Bool.false_eq_true,if_false] at h2 ⊢
  have h0':=hc 0 h2
  rw [show b.add 0=b by simp [Addr.add]] at h0'
  refine ⟨zbb w ⟨b.block,b.off+0,none⟩,?_,h4 0 h2⟩
  simp [load,Sem.run,h0']
theorem R.slc {S:Addr->Prop} {w:World} {v:Value} {l:List V} (h:R S w v (.sl l)):∃ a cap sz,v = .slice a l.length cap/\l.length<=cap/\(a=none->l=[])/\(∀ b,a=some b->l≠[]->b.spot=none)/\(∀ i,i<l.length->(l.getD i .any).n=sz) /\
  (∀ b i k,a=some b->i<l.length->k<sz->S ⟨b.block,b.off+i * sz+k,none⟩)/\(∀ b i k,a=some b->i<l.length->k<sz->R S w (zbb w ⟨b.block,b.off+i * sz+k,none⟩) ((l.getD i .any).cell k)):=by
 cases h with
 | sl a n cap l sz hn hc ha h1 h2 h3 h4=>subst hn;exact ⟨a,cap,sz,rfl,hc,ha,h1,h2,h3,h4⟩
theorem zhV (d:V) (k:Nat) (hk:k<d.cs.length):d.cell k=d.cs.getD k .any:=by
 cases d with
 | agg cs=>rfl
 | _ =>
  have:k=0:=by simpa [V.cs] using hk
  subst this
  rfl
theorem cs_n (d:V):d.cs.length=d.n:=by cases d<;>rfl
theorem znm {S:Addr->Prop} {w:World} {t:TypeId} {v:Value} {l:List V} {k:IntKind} {i:Int} (h:R S w v (.sl l)) (h1:(ty P t).kind=4) (h2:(ty P (ty P t).elem).kind≠0) (h3:(ty P (ty P t).elem).kind≠11)
  (h4:0<=i) (h5:i<l.length) (h6:(l.getD i.toNat .any).n=(ty P (ty P t).elem).size):∃ u,(Instr.indexAt t v (.int k i)).run P w = .ok u w/\R S w u (.sp (l.getD i.toNat .any).cs):=by
 obtain ⟨a,cap,sz,rfl,hc,ha,g1,g2,g3,g4⟩:=h.slc
 have hi:i.toNat<l.length:=by omega
 cases a with
 | none=>rw [ha rfl] at hi;simp at hi
 | some b =>
  have hsz:sz=(ty P (ty P t).elem).size:=by rw [<-h6];exact (g2 i.toNat hi).symm
  refine ⟨.pointer (some (b.add (i.toNat * (ty P (ty P t).elem).size))),?_,?_⟩
  · unfold Instr.indexAt
    simp [asIntOf,run_underlying (zaT h1),h4,h5,za4 h2 h3]
  · rw [zbn b _ (g1 b rfl (fun h=>by rw [h] at hi;simp at hi)),<-hsz]
    refine .sp _ _ rfl (fun k hk=>g3 b i.toNat k rfl hi ?_) (fun k hk=>?_)
    · rw [cs_n,g2 _ hi] at hk;exact hk
    · have hk':=hk
      rw [cs_n,g2 _ hi] at hk'
      have:=g4 b i.toNat k rfl hi hk'
      rw [zhV _ _ hk] at this
      exact this
end
end Go.Proofs.YtgekknefphagbaaGreatDoor
