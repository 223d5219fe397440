/- What is owned is let go, while cells that are owned hold it; a call's slice taken by its value. No statement of the program. -/
import Derived.Test.YtphhijelneaedaaDoorEqx
import Derived.Test.YtphhijelneaedaaDoorEu
import Derived.Sort.Grow
import Derived.Deep.Draws
import Derived.Lib.Overlaps
import Derived.Shelf.Sort.Plain
import Derived.Shelf.Slices.In.SortNone
import Derived.Shelf.Slices.CompactI
import Derived.Lib.RowBridge
namespace Go.Proofs.YtphhijelneaedaaDoor
open Go.RowKit
set_option linter.unusedSimpArgs false
set_option linter.unusedVariables false
set_option linter.unusedSectionVars false
section
inductive CvO (v:Value) (l:List V):Own->Own->Prop
 | nil:CvO v l [] []
 | keep (e:Ent) {H H':Own} (h:CvO v l H H'):CvO v l (e::H) (e::H')
 | blk (b:Nat) {cs ds:List V} (hc:CvL v l cs ds) {H H':Own} (h:CvO v l H H'):CvO v l (.blk b cs::H) (.blk b ds::H')
theorem CvO.rfl_ (v:Value) (l:List V):∀ H:Own,CvO v l H H
 | []=>.nil
 | e::H=>.keep e (CvO.rfl_ v l H)
theorem CvO.mem {v:Value} {l:List V} {H H':Own} (h:CvO v l H H'):(∀ e'∈H',∃ e∈H,(∀ a,e'.owns a↔e.owns a)/\(∀ b,e'.touches b↔e.touches b))/\(∀ e∈H,∃ e'∈H',(∀ a,e'.owns a↔e.owns a)/\(∀ b,e'.touches b↔e.touches b)):=by
 induction h with
 | nil=>exact ⟨(fun _ h=>nomatch h),(fun _ h=>nomatch h)⟩
 | keep e _ ih =>
  refine ⟨fun x hx=>?_,fun x hx=>?_⟩
  · rcases List.mem_cons.1 hx with rfl | hx
    · exact ⟨_,List.mem_cons_self ..,fun _=>Iff.rfl,fun _=>Iff.rfl⟩
    · obtain ⟨y,hy,h⟩:=ih.1 x hx;exact ⟨y,List.mem_cons_of_mem _ hy,h⟩
  · rcases List.mem_cons.1 hx with rfl | hx
    · exact ⟨_,List.mem_cons_self ..,fun _=>Iff.rfl,fun _=>Iff.rfl⟩
    · obtain ⟨y,hy,h⟩:=ih.2 x hx;exact ⟨y,List.mem_cons_of_mem _ hy,h⟩
 | blk b hc _ ih =>
  refine ⟨fun x hx=>?_,fun x hx=>?_⟩
  · rcases List.mem_cons.1 hx with rfl | hx
    · exact ⟨_,List.mem_cons_self ..,fun _=>Iff.rfl,fun _=>Iff.rfl⟩
    · obtain ⟨y,hy,h⟩:=ih.1 x hx;exact ⟨y,List.mem_cons_of_mem _ hy,h⟩
  · rcases List.mem_cons.1 hx with rfl | hx
    · exact ⟨_,List.mem_cons_self ..,fun _=>Iff.rfl,fun _=>Iff.rfl⟩
    · obtain ⟨y,hy,h⟩:=ih.2 x hx;exact ⟨y,List.mem_cons_of_mem _ hy,h⟩
theorem CvO.pw {v:Value} {l:List V} {H H':Own} (h:CvO v l H H') :
  (H.Pairwise (fun e f=>∀ a,e.owns a->¬ f.owns a)->H'.Pairwise (fun e f=>∀ a,e.owns a->¬ f.owns a))/\(H.Pairwise (fun e f=>∀ b,e.touches b->¬ f.touches b)->H'.Pairwise (fun e f=>∀ b,e.touches b->¬ f.touches b)):=by
 induction h with
 | nil=>exact ⟨fun h=>h,fun h=>h⟩
 | keep e h ih =>
  refine ⟨fun hp=>?_,fun hp=>?_⟩
  · rw [List.pairwise_cons] at hp ⊢
    refine ⟨fun x hx a ha hb=>?_,ih.1 hp.2⟩
    obtain ⟨y,hy,h1,_⟩:=h.mem.1 x hx
    exact hp.1 y hy a ha ((h1 a).1 hb)
  · rw [List.pairwise_cons] at hp ⊢
    refine ⟨fun x hx a ha hb=>?_,ih.2 hp.2⟩
    obtain ⟨y,hy,_,h1⟩:=h.mem.1 x hx
    exact hp.1 y hy a ha ((h1 a).1 hb)
 | blk b hc h ih =>
  refine ⟨fun hp=>?_,fun hp=>?_⟩
  · rw [List.pairwise_cons] at hp ⊢
    refine ⟨fun x hx a ha hb=>?_,ih.1 hp.2⟩
    obtain ⟨y,hy,h1,_⟩:=h.mem.1 x hx
    exact hp.1 y hy a ha ((h1 a).1 hb)
  · rw [List.pairwise_cons] at hp ⊢
    refine ⟨fun x hx a ha hb=>?_,ih.2 hp.2⟩
    obtain ⟨y,hy,_,h1⟩:=h.mem.1 x hx
    exact hp.1 y hy a ha ((h1 a).1 hb)
theorem CvO.holds {v:Value} {l:List V} {w:World} {S S':Addr->Prop} (hv:R S' w v (.gs v l)) (hS:∀ a,S a->S' a) {H H':Own} (h:CvO v l H H') (hh:∀ e∈H,e.holds S w):∀ e∈H',e.holds S' w:=by
 induction h with
 | nil=>exact fun _ h=>nomatch h
 | keep e _ ih =>
  intro x hx
  rcases List.mem_cons.1 hx with rfl | hx
  · exact Ent.holds_mono (hh _ (List.mem_cons_self ..)) (fun a ha=>⟨hS a ha,rfl⟩) (fun _ _=>rfl)
  · exact ih (fun e he=>hh e (List.mem_cons_of_mem _ he)) x hx
 | blk b hc _ ih =>
  intro x hx
  rcases List.mem_cons.1 hx with rfl | hx
  · obtain ⟨xs,T,fr,h1,h2,h3,h4⟩:=hh _ (List.mem_cons_self ..)
    exact ⟨xs,T,fr,h1,h2,h3.trans hc.len,fun k hk=>R.cv hv (hc.at k) ((h4 k (by rw [hc.len];exact hk)).mono fun a ha=>⟨hS a ha,rfl⟩)⟩
  · exact ih (fun e he=>hh e (List.mem_cons_of_mem _ he)) x hx
theorem CvO.stable {v:Value} {l:List V} {w:World} {H H':Own} (h:CvO v l H H') {a:Addr} (hs:stable w H a):stable w H' a:=⟨hs.1,fun e he ho=>by
 obtain ⟨y,hy,h1,_⟩:=h.mem.1 e he
 exact hs.2 y hy ((h1 a).1 ho)⟩
theorem CvO.loose {v:Value} {l:List V} {H H':Own} (h:CvO v l H H') (hl:Go.Proofs.YtphhijelneaedaaDoor.loose∈H'):Go.Proofs.YtphhijelneaedaaDoor.loose∈H:=by
 induction h with
 | nil=>exact hl
 | keep e _ ih =>
  rcases List.mem_cons.1 hl with hl | hl
  · exact hl▸List.mem_cons_self ..
  · exact List.mem_cons_of_mem _ (ih hl)
 | blk b hc _ ih =>
  rcases List.mem_cons.1 hl with hl | hl
  · cases hl
  · exact List.mem_cons_of_mem _ (ih hl)
theorem CvO.sim {v:Value} {l:List V} {w:World} {H H':Own} (h:CvO v l H H') (hs:Sim w H) (hv:R (Go.Proofs.YtphhijelneaedaaDoor.stable w H) w v (.gs v l)):Sim w H'/\Ext w H w H' :=
 ⟨⟨h.holds (hv.mono fun a ha=>⟨h.stable ha,rfl⟩) (fun a ha=>h.stable ha) hs.holds,h.pw.1 hs.disj,h.pw.2 hs.apart⟩,
   ⟨rfl,rfl,rfl,Nat.le_refl _,fun a ha=>⟨h.stable ha,rfl⟩,fun b _ hb=>⟨rfl,fun e he=>by
     obtain ⟨y,hy,_,h1⟩:=h.mem.1 e he
     exact fun ht=>hb y hy ((h1 b).1 ht)⟩,fun n=>⟨fun hl=>n (h.loose hl),Nat.le_refl _⟩⟩⟩
section
variable {P:Program} {n:Nat} {Q:Exit->Env->Own->Prop} {e e':Env} {H:Own}
theorem DW.frzO {c:Code} (v:Value) {l:List V} (h:OnA H v fun sz cs C=>cs=cells l/\0<sz/\(∀ y∈l,y.n=sz)/\CvE v l e e'/\∃ H',CvO v l (C (.tail sz v)) H'/\DW P n c Q e' H'):DW P n c Q e H:=by
 obtain ⟨sz,cs,L1,L2,rfl,rfl,hz,hl,hc,H',ho,h⟩:=h
 intro a w hs hr
 obtain ⟨⟨g1,g2⟩,g3⟩:=hs.frz hz hl
 obtain ⟨k1,k2⟩:=ho.sim g1 g3
 exact wp_mono (h a w k1 ⟨hr.size,fun t=>(R.cv g3 (hc.get t) (g2.rel (hr.slot t))).mono k2.cells⟩) fun x a1 w1 ⟨hd,e1,H1,s,r,x1,q⟩=>⟨hd,e1,H1,s,r,(g2.trans k2).trans x1,q⟩
theorem DW.frzOR (id:Nat) {ops:Array Oper} {d:Bool} (v:Value) {l:List V} (h:OnA H v fun sz cs C=>cs=cells l/\0<sz/\(∀ y∈l,y.n=sz)/\CvE v l e e'/\∃ H',CvO v l (C (.tail sz v)) H'/\DW P n (.region id ops d) Q e' H'):DW P n (.region id ops d) Q e H:=DW.frzO v h
end
theorem DC.someV {P:Program} {f:FuncId} {l:List V} {rest:List V} {H:Own} {K:V->Own->Prop} (he:enterB P f=true)
  (h:∀ (a:Option Addr) (cap:Nat),(a=none->l=[])->DC P f (.gs (.slice a l.length cap) l::rest) H K):DC P f (.sl l::rest) H K:=by
 refine ⟨he,fun xs w hs hn hr=>?_⟩
 have h0:=hr 0 (by simp)
 change R _ w (xs.getD 0 undef) (.sl l) at h0
 generalize hx:xs.getD 0 undef=u at h0
 have h0':=h0
 cases h0 with
 | sl a n cap _ sz hl hc ha h1 h2 h3 h4 =>
 subst hl
 refine (h a cap ha).2 xs w hs hn fun k hk=>?_
 cases k with
 | zero=>show R _ w (xs.getD 0 undef) (.gs (.slice a l.length cap) l);rw [hx];exact .gs _ _ h0'
 | succ k=>exact hr (k+1) (by simpa using hk)
theorem DC.own0 {P:Program} {f:FuncId} {args:List V} {H F:Own} (sz:Nat) (h:DC P f args H fun d G=>d = .gs (.slice none 0 0) []/\G=F):DC P f args H fun d G=>d = .ar (.slice none 0 0) 0/\G = .arr sz (.slice none 0 0) []::F :=
 ⟨h.1,fun xs w hs hn hr=>(h.2 xs w hs hn hr).mono fun x w' ⟨v,d,H',he,s,ex,r,hd,hG⟩=>by
   subst hd hG
   obtain ⟨g1,g2⟩:=s.arr0 sz
   cases r
   exact ⟨_,_,_,he,g1,ex.trans g2, .ar _ _ _ (Nat.le_refl _) (fun _=>rfl),rfl,rfl⟩⟩
end
section
structure Elm (S:Addr->Prop) (w:World) (k:Nat) {T:Type} (encV:T->V) (ok:T->Prop) where
 t:T
 vs:List Value
 len:vs.length=k
 one:∀ v∈vs,v.oneCell'=true
 rel:∀ j,j<k->R S w (vs.getD j undef) ((encV t).cell j)
 good:ok t
theorem two_of {xs:Array Value} (h:xs.size=2):∃ a b,xs = #[a,b]:=by
 obtain ⟨l⟩:=xs
 match l,h with
 | [a,b],_=>exact ⟨a,b,rfl⟩
theorem zero_of {xs:Array Value} (h:xs.size=0):xs = #[]:=by
 obtain ⟨l⟩:=xs
 match l,h with
 | [],_=>rfl
end
section
section
variable {P:Program} {o:Oper} {f:Operand->V} {H:Own} {K:V->Own->Prop}
inductive InA (sz:Nat) (u:Value):Own->Prop
 | here {cs:List V} {H:Own}:InA sz u (.arr sz u cs::H)
 | next {e:Ent} {H:Own} (h:InA sz u H):InA sz u (e::H)
inductive Two (sz:Nat) (v u:Value):Own->Prop
 | here {cs:List V} {H:Own} (h:InA sz u H):Two sz v u (.arr sz v cs::H)
 | there {cs:List V} {H:Own} (h:InA sz v H):Two sz v u (.arr sz u cs::H)
 | next {e:Ent} {H:Own} (h:Two sz v u H):Two sz v u (e::H)
theorem InA.mem {sz:Nat} {u:Value} {H:Own} (h:InA sz u H):∃ cs,Ent.arr sz u cs∈H:=by
 induction h with
 | here=>exact ⟨_,List.mem_cons_self ..⟩
 | next _ ih=>obtain ⟨cs,h⟩:=ih;exact ⟨cs,List.mem_cons_of_mem _ h⟩
end
end
section
theorem one_of {xs:Array Value} (h:xs.size=1):∃ a,xs = #[a]:=by
 obtain ⟨l⟩:=xs
 match l,h with
 | [a],_=>exact ⟨a,rfl⟩
section
variable {P:Program} {ρ : Go.Shelf.Ren}
end
end
section
theorem DC.frzX {P:Program} {f:FuncId} {args:List V} {H F:Own} {X:Type} {Q:X->Prop} {sz:Nat} {l:X->List V} (hz:0<sz) (hl:∀ x,∀ y∈l x,y.n=sz)
  (h:DC P f args H fun d G=>∃ v x,d = .ar v (l x).length/\Q x/\G = .arr sz v (cells (l x))::F):DC P f args H fun d G=>∃ x,Q x/\d = .sl (l x)/\G=F :=
 ⟨h.1,fun xs w hs hn hr=>(h.2 xs w hs hn hr).mono fun e w' ⟨u,d,H',he,s,ex,r,v,x,hd,hq,hG⟩=>by
   subst hd hG
   obtain ⟨⟨g1,g2⟩,g3⟩:=Sim.frz (L1:=[]) s hz (hl x)
   have k1:Ext w' (.tail sz v::F) w' F:=Ext.drop fun x hx=>List.mem_cons_of_mem _ hx
   have r1:R (stable w' F) w' u (.gs v (l x)):=(R.cv g3 (Cv.hit _) (g2.rel r)).mono k1.cells
   exact ⟨u, .sl (l x),F,he,g1.drop (List.sublist_cons_self _ _),(ex.trans g2).trans k1,le.gs rfl _ _ _ r1,x,hq,rfl,rfl⟩⟩
theorem DW.own0B (sz b i:Nat) {P:Program} {n:Nat} {Q:Exit->Env->Own->Prop} {e:Env} {H:Own} {c:Code} {cs:List V} (ht:cs.getD i .any = .gs (.slice none 0 0) [])
  (h:DW P n c Q e (.arr sz (.slice none 0 0) [] :: .blk b (cs.set i (.ar (.slice none 0 0) 0))::H)):DW P n c Q e (.blk b cs::H):=fun a w hs hr=>by
 obtain ⟨k1,k2⟩:=Sim.swap (L1:=[]) (w':=w) (e0:=.blk b cs) (e1:=.blk b (cs.set i (.ar (.slice none 0 0) 0))) hs rfl rfl rfl (Nat.le_refl _) (fun _ _ _=>rfl) (fun _ _ _=>rfl) (fun b hb=>.inl hb) (fun q hq=>.inl hq) (fun hst=>by
  obtain ⟨xs,T,fr,h1,h2,h3,h4⟩:=hs.holds (.blk b cs) (by simp)
  refine ⟨xs,T,fr,h1,h2,by rw [List.length_set];exact h3,fun k hk=>?_⟩
  rw [List.length_set] at hk
  have h5:=(h4 k hk).mono hst
  by_cases hki:i=k
  · subst hki
    rw [ht] at h5
    have e1:(cs.set i (V.ar (.slice none 0 0) 0)).getD i .any = .ar (.slice none 0 0) 0:=by rw [List.getD_eq_getElem?_getD,List.getElem?_set_self hk];rfl
    rw [e1]
    generalize xs.getD i undef=y at h5 ⊢
    cases h5
    exact .ar _ _ _ (Nat.le_refl _) (fun _=>rfl)
  · have e1:(cs.set i (V.ar (.slice none 0 0) 0)).getD k .any=cs.getD k .any:=by rw [List.getD_eq_getElem?_getD,List.getElem?_set_ne hki,<-List.getD_eq_getElem?_getD]
    rw [e1];exact h5)
 obtain ⟨g1,g2⟩:=k1.arr0 sz
 have x2:=k2.trans g2
 exact wp_mono (h a w g1 ⟨hr.size,fun u=>x2.rel (hr.slot u)⟩) fun x a1 w1 ⟨hd,e1,H1,s,r,x1,q⟩=>⟨hd,e1,H1,s,r,x2.trans x1,q⟩
theorem DW.own0P (sz b i:Nat) {P:Program} {n:Nat} {Q:Exit->Env->Own->Prop} {e:Env} {H F:Own} {c:Code} {cs:List V} (hq:Pulled H [.blk b cs] F) (ht:cs.getD i .any = .gs (.slice none 0 0) [])
  (h:DW P n c Q e (.arr sz (.slice none 0 0) [] :: .blk b (cs.set i (.ar (.slice none 0 0) 0))::F)):DW P n c Q e H:=fun a w hs hr=>by
 have hp:H.Perm (.blk b cs::F):=hq
 have x2:=Ext.perm (w:=w) hp
 exact wp_mono (DW.own0B sz b i ht h a w (hs.perm hp) ⟨hr.size,fun u=>x2.rel (hr.slot u)⟩) fun x a1 w1 ⟨hd,e1,H1,s,r,x1,q⟩=>⟨hd,e1,H1,s,r,x2.trans x1,q⟩
end
end Go.Proofs.YtphhijelneaedaaDoor
