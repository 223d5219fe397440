/- What is owned is let go, while cells that are owned hold it; a call's slice taken by its value. No statement of the program. -/
import Derived.Test.YtphhijelneaedaaDoorEz
import Derived.Test.YtphhijelneaedaaDoorSox
import Derived.Lib.Overlaps
namespace Go.Proofs.YtphhijelneaedaaDoor
open Go.RowKit
set_option linter.unusedSimpArgs false
set_option linter.unusedVariables false
set_option linter.unusedSectionVars false
section
inductive CvO (v:Value) (l:List V):Own->Own->Prop
 | nil:CvO v l [] []
 | keep (e:Ent) {H H':Own} (h:CvO v l H H'):CvO v l (e::H) (e::H')
 | blk (b:Nat) {cs ds:List V} (hc:CvL v l cs ds) {H H':Own} (h:CvO v l H H'):CvO v l (.blk b cs::H) (.blk b ds::H')
theorem CvO.rfl_ (v:Value) (l:List V):∀ H:Own,CvO v l H H
 | []=>.nil
 | e::H=>.keep e (CvO.rfl_ v l H)
theorem CvO.mem {v:Value} {l:List V} {H H':Own} (h:CvO v l H H'):(∀ e'∈H',∃ e∈H,(∀ a,e'.owns a↔e.owns a)/\(∀ b,e'.touches b↔e.touches b))/\(∀ e∈H,∃ e'∈H',(∀ a,e'.owns a↔e.owns a)/\(∀ b,e'.touches b↔e.touches b)):=by
 induction h with
 | nil=>exact ⟨(fun _ h=>nomatch h),(fun _ h=>nomatch h)⟩
 | keep e _ ih =>
  refine ⟨fun x hx=>?_,fun x hx=>?_⟩
  · rcases List.mem_cons.1 hx with rfl | hx
    · exact ⟨_,List.mem_cons_self ..,fun _=>Iff.rfl,fun _=>Iff.rfl⟩
    · obtain ⟨y,hy,h⟩:=ih.1 x hx;exact ⟨y,List.mem_cons_of_mem _ hy,h⟩
  · rcases List.mem_cons.1 hx with rfl | hx
    · exact ⟨_,List.mem_cons_self ..,fun _=>Iff.rfl,fun _=>Iff.rfl⟩
    · obtain ⟨y,hy,h⟩:=ih.2 x hx;exact ⟨y,List.mem_cons_of_mem _ hy,h⟩
 | blk b hc _ ih =>
  refine ⟨fun x hx=>?_,fun x hx=>?_⟩
  · rcases List.mem_cons.1 hx with rfl | hx
    · exact ⟨_,List.mem_cons_self ..,fun _=>Iff.rfl,fun _=>Iff.rfl⟩
    · obtain ⟨y,hy,h⟩:=ih.1 x hx;exact ⟨y,List.mem_cons_of_mem _ hy,h⟩
  · rcases List.mem_cons.1 hx with rfl | hx
    · exact ⟨_,List.mem_cons_self ..,fun _=>Iff.rfl,fun _=>Iff.rfl⟩
    · obtain ⟨y,hy,h⟩:=ih.2 x hx;exact ⟨y,List.mem_cons_of_mem _ hy,h⟩
theorem CvO.pw {v:Value} {l:List V} {H H':Own} (h:CvO v l H H') :
  (H.Pairwise (fun e f=>∀ a,e.owns a->¬ f.owns a)->H'.Pairwise (fun e f=>∀ a,e.owns a->¬ f.owns a))/\(H.Pairwise (fun e f=>∀ b,e.touches b->¬ f.touches b)->H'.Pairwise (fun e f=>∀ b,e.touches b->¬ f.touches b)):=by
 induction h with
 | nil=>exact ⟨fun h=>h,fun h=>h⟩
 | keep e h ih =>
  refine ⟨fun hp=>?_,fun hp=>?_⟩
  · rw [List.pairwise_cons] at hp ⊢
    refine ⟨fun x hx a ha hb=>?_,ih.1 hp.2⟩
    obtain ⟨y,hy,h1,_⟩:=h.mem.1 x hx
    exact hp.1 y hy a ha ((h1 a).1 hb)
  · rw [List.pairwise_cons] at hp ⊢
    refine ⟨fun x hx a ha hb=>?_,ih.2 hp.2⟩
    obtain ⟨y,hy,_,h1⟩:=h.mem.1 x hx
    exact hp.1 y hy a ha ((h1 a).1 hb)
 | blk b hc h ih =>
  refine ⟨fun hp=>?_,fun hp=>?_⟩
  · rw [List.pairwise_cons] at hp ⊢
    refine ⟨fun x hx a ha hb=>?_,ih.1 hp.2⟩
    obtain ⟨y,hy,h1,_⟩:=h.mem.1 x hx
    exact hp.1 y hy a ha ((h1 a).1 hb)
  · rw [List.pairwise_cons] at hp ⊢
    refine ⟨fun x hx a ha hb=>?_,ih.2 hp.2⟩
    obtain ⟨y,hy,_,h1⟩:=h.mem.1 x hx
    exact hp.1 y hy a ha ((h1 a).1 hb)
theorem CvO.holds {v:Value} {l:List V} {w:World} {S S':Addr->Prop} (hv:R S' w v (.gs v l)) (hS:∀ a,S a->S' a) {H H':Own} (h:CvO v l H H') (hh:∀ e∈H,e.holds S w):∀ e∈H',e.holds S' w:=by
 induction h with
 | nil=>exact fun _ h=>nomatch h
 | keep e _ ih =>
  intro x hx
  rcases List.mem_cons.1 hx with rfl | hx
  · exact Ent.holds_mono (hh _ (List.mem_cons_self ..)) (fun a ha=>⟨hS a ha,rfl⟩) (fun _ _=>rfl)
  · exact ih (fun e he=>hh e (List.mem_cons_of_mem _ he)) x hx
 | blk b hc _ ih =>
  intro x hx
  rcases List.mem_cons.1 hx with rfl | hx
  · obtain ⟨xs,T,fr,h1,h2,h3,h4⟩:=hh _ (List.mem_cons_self ..)
    exact ⟨xs,T,fr,h1,h2,h3.trans hc.len,fun k hk=>R.cv hv (hc.at k) ((h4 k (by rw [hc.len];exact hk)).mono fun a ha=>⟨hS a ha,rfl⟩)⟩
  · exact ih (fun e he=>hh e (List.mem_cons_of_mem _ he)) x hx
theorem CvO.stable {v:Value} {l:List V} {w:World} {H H':Own} (h:CvO v l H H') {a:Addr} (hs:stable w H a):stable w H' a:=⟨hs.1,fun e he ho=>by
 obtain ⟨y,hy,h1,_⟩:=h.mem.1 e he
 exact hs.2 y hy ((h1 a).1 ho)⟩
theorem CvO.loose {v:Value} {l:List V} {H H':Own} (h:CvO v l H H') (hl:Go.Proofs.YtphhijelneaedaaDoor.loose∈H'):Go.Proofs.YtphhijelneaedaaDoor.loose∈H:=by
 induction h with
 | nil=>exact hl
 | keep e _ ih =>
  rcases List.mem_cons.1 hl with hl | hl
  · exact hl▸List.mem_cons_self ..
  · exact List.mem_cons_of_mem _ (ih hl)
 | blk b hc _ ih =>
  rcases List.mem_cons.1 hl with hl | hl
  · cases hl
  · exact List.mem_cons_of_mem _ (ih hl)
theorem CvO.sim {v:Value} {l:List V} {w:World} {H H':Own} (h:CvO v l H H') (hs:Sim w H) (hv:R (Go.Proofs.YtphhijelneaedaaDoor.stable w H) w v (.gs v l)):Sim w H'/\Ext w H w H' :=
 ⟨⟨h.holds (hv.mono fun a ha=>⟨h.stable ha,rfl⟩) (fun a ha=>h.stable ha) hs.holds,h.pw.1 hs.disj,h.pw.2 hs.apart⟩,
   ⟨rfl,rfl,rfl,Nat.le_refl _,fun a ha=>⟨h.stable ha,rfl⟩,fun b _ hb=>⟨rfl,fun e he=>by
     obtain ⟨y,hy,_,h1⟩:=h.mem.1 e he
     exact fun ht=>hb y hy ((h1 b).1 ht)⟩,fun n=>⟨fun hl=>n (h.loose hl),Nat.le_refl _⟩⟩⟩
section
variable {P:Program} {n:Nat} {Q:Exit->Env->Own->Prop} {e e':Env} {H:Own}
theorem DW.frzO {c:Code} (v:Value) {l:List V} (h:OnA H v fun sz cs C=>cs=cells l/\0<sz/\(∀ y∈l,y.n=sz)/\CvE v l e e'/\∃ H',CvO v l (C (.tail sz v)) H'/\DW P n c Q e' H'):DW P n c Q e H:=by
 obtain ⟨sz,cs,L1,L2,rfl,rfl,hz,hl,hc,H',ho,h⟩:=h
 intro a w hs hr
 obtain ⟨⟨g1,g2⟩,g3⟩:=hs.frz hz hl
 obtain ⟨k1,k2⟩:=ho.sim g1 g3
 exact wp_mono (h a w k1 ⟨hr.size,fun t=>(R.cv g3 (hc.get t) (g2.rel (hr.slot t))).mono k2.cells⟩) fun x a1 w1 ⟨hd,e1,H1,s,r,x1,q⟩=>⟨hd,e1,H1,s,r,(g2.trans k2).trans x1,q⟩
theorem DW.frzOR (id:Nat) {ops:Array Oper} {d:Bool} (v:Value) {l:List V} (h:OnA H v fun sz cs C=>cs=cells l/\0<sz/\(∀ y∈l,y.n=sz)/\CvE v l e e'/\∃ H',CvO v l (C (.tail sz v)) H'/\DW P n (.region id ops d) Q e' H'):DW P n (.region id ops d) Q e H:=DW.frzO v h
end
end
section
section
variable {P:Program} {o:Oper} {f:Operand->V} {H:Own} {K:V->Own->Prop}
inductive InA (sz:Nat) (u:Value):Own->Prop
 | here {cs:List V} {H:Own}:InA sz u (.arr sz u cs::H)
 | next {e:Ent} {H:Own} (h:InA sz u H):InA sz u (e::H)
inductive Two (sz:Nat) (v u:Value):Own->Prop
 | here {cs:List V} {H:Own} (h:InA sz u H):Two sz v u (.arr sz v cs::H)
 | there {cs:List V} {H:Own} (h:InA sz v H):Two sz v u (.arr sz u cs::H)
 | next {e:Ent} {H:Own} (h:Two sz v u H):Two sz v u (e::H)
theorem SeqD.opP {ops:Array Oper} {K:Env->Own->Prop} {e:Env} {o:Oper} {rest:List Oper} (hg:o.guard=none) (h:side P o (opd e)/\SeqD P ops K rest (putO e o.dst (val P o (opd e))) H):SeqD P ops K (o::rest) e H:=SeqD.op hg (SeqD.one h.1 h.2)
end
end
section
theorem DC.frzX {P:Program} {f:FuncId} {args:List V} {H F:Own} {X:Type} {Q:X->Prop} {sz:Nat} {l:X->List V} (hz:0<sz) (hl:∀ x,∀ y∈l x,y.n=sz)
  (h:DC P f args H fun d G=>∃ v x,d = .ar v (l x).length/\Q x/\G = .arr sz v (cells (l x))::F):DC P f args H fun d G=>∃ x,Q x/\d = .sl (l x)/\G=F :=
 ⟨h.1,fun xs w hs hn hr=>(h.2 xs w hs hn hr).mono fun e w' ⟨u,d,H',he,s,ex,r,v,x,hd,hq,hG⟩=>by
   subst hd hG
   obtain ⟨⟨g1,g2⟩,g3⟩:=Sim.frz (L1:=[]) s hz (hl x)
   have k1:Ext w' (.tail sz v::F) w' F:=Ext.drop fun x hx=>List.mem_cons_of_mem _ hx
   have r1:R (stable w' F) w' u (.gs v (l x)):=(R.cv g3 (Cv.hit _) (g2.rel r)).mono k1.cells
   exact ⟨u, .sl (l x),F,he,g1.drop (List.sublist_cons_self _ _),(ex.trans g2).trans k1,le.gs rfl _ _ _ r1,x,hq,rfl,rfl⟩⟩
end
end Go.Proofs.YtphhijelneaedaaDoor
