/- What is owned is let go, while cells that are owned hold it; a call's slice taken by its value. No statement of the program. -/
import Derived.Test.YtifdpbghkccaoaaDoorEz
import Derived.Test.YtifdpbghkccaoaaDoorEu
import Derived.Sort.Grow
import Derived.Deep.Draws
import Derived.Lib.Overlaps
namespace Go.Proofs.YtifdpbghkccaoaaDoor
open Go.RowKit
set_option linter.unusedSimpArgs false
set_option linter.unusedVariables false
set_option linter.unusedSectionVars false
section
inductive CvO (v:Value) (l:List V):Own->Own->Prop
 | nil:CvO v l [] []
 | keep (e:Ent) {H H':Own} (h:CvO v l H H'):CvO v l (e::H) (e::H')
 | blk (b:Nat) {cs ds:List V} (hc:CvL v l cs ds) {H H':Own} (h:CvO v l H H'):CvO v l (.blk b cs::H) (.blk b ds::H')
theorem CvO.mem {v:Value} {l:List V} {H H':Own} (h:CvO v l H H'):(∀ e'∈H',∃ e∈H,(∀ a,e'.owns a↔e.owns a)/\(∀ b,e'.touches b↔e.touches b))/\(∀ e∈H,∃ e'∈H',(∀ a,e'.owns a↔e.owns a)/\(∀ b,e'.touches b↔e.touches b)):=by
 induction h with
 | nil=>exact ⟨(fun _ h=>nomatch h),(fun _ h=>nomatch h)⟩
 | keep e _ ih =>
  refine ⟨fun x hx=>?_,fun x hx=>?_⟩
  · rcases List.mem_cons.1 hx with rfl | hx
    · exact ⟨_,List.mem_cons_self ..,fun _=>Iff.rfl,fun _=>Iff.rfl⟩
    · obtain ⟨y,hy,h⟩:=ih.1 x hx;exact ⟨y,List.mem_cons_of_mem _ hy,h⟩
  · rcases List.mem_cons.1 hx with rfl | hx
    · exact ⟨_,List.mem_cons_self ..,fun _=>Iff.rfl,fun _=>Iff.rfl⟩
    · obtain ⟨y,hy,h⟩:=ih.2 x hx;exact ⟨y,List.mem_cons_of_mem _ hy,h⟩
 | blk b hc _ ih =>
  refine ⟨fun x hx=>?_,fun x hx=>?_⟩
  · rcases List.mem_cons.1 hx with rfl | hx
    · exact ⟨_,List.mem_cons_self ..,fun _=>Iff.rfl,fun _=>Iff.rfl⟩
    · obtain ⟨y,hy,h⟩:=ih.1 x hx;exact ⟨y,List.mem_cons_of_mem _ hy,h⟩
  · rcases List.mem_cons.1 hx with rfl | hx
    · exact ⟨_,List.mem_cons_self ..,fun _=>Iff.rfl,fun _=>Iff.rfl⟩
    · obtain ⟨y,hy,h⟩:=ih.2 x hx;exact ⟨y,List.mem_cons_of_mem _ hy,h⟩
theorem CvO.holds {v:Value} {l:List V} {w:World} {S S':Addr->Prop} (hv:R S' w v (.gs v l)) (hS:∀ a,S a->S' a) {H H':Own} (h:CvO v l H H') (hh:∀ e∈H,e.holds S w):∀ e∈H',e.holds S' w:=by
 induction h with
 | nil=>exact fun _ h=>nomatch h
 | keep e _ ih =>
  intro x hx
  rcases List.mem_cons.1 hx with rfl | hx
  · exact Ent.holds_mono (hh _ (List.mem_cons_self ..)) (fun a ha=>⟨hS a ha,rfl⟩) (fun _ _=>rfl)
  · exact ih (fun e he=>hh e (List.mem_cons_of_mem _ he)) x hx
 | blk b hc _ ih =>
  intro x hx
  rcases List.mem_cons.1 hx with rfl | hx
  · obtain ⟨xs,T,fr,h1,h2,h3,h4⟩:=hh _ (List.mem_cons_self ..)
    exact ⟨xs,T,fr,h1,h2,h3.trans hc.len,fun k hk=>R.cv hv (hc.at k) ((h4 k (by rw [hc.len];exact hk)).mono fun a ha=>⟨hS a ha,rfl⟩)⟩
  · exact ih (fun e he=>hh e (List.mem_cons_of_mem _ he)) x hx
theorem CvO.stable {v:Value} {l:List V} {w:World} {H H':Own} (h:CvO v l H H') {a:Addr} (hs:stable w H a):stable w H' a:=⟨hs.1,fun e he ho=>by
 obtain ⟨y,hy,h1,_⟩:=h.mem.1 e he
 exact hs.2 y hy ((h1 a).1 ho)⟩
theorem CvO.loose {v:Value} {l:List V} {H H':Own} (h:CvO v l H H') (hl:Go.Proofs.YtifdpbghkccaoaaDoor.loose∈H'):Go.Proofs.YtifdpbghkccaoaaDoor.loose∈H:=by
 induction h with
 | nil=>exact hl
 | keep e _ ih =>
  rcases List.mem_cons.1 hl with hl | hl
  · exact hl▸List.mem_cons_self ..
  · exact List.mem_cons_of_mem _ (ih hl)
 | blk b hc _ ih =>
  rcases List.mem_cons.1 hl with hl | hl
  · cases hl
  · exact List.mem_cons_of_mem _ (ih hl)
section
variable {P:Program} {n:Nat} {Q:Exit->Env->Own->Prop} {e e':Env} {H:Own}
end
theorem DC.someV {P:Program} {f:FuncId} {l:List V} {rest:List V} {H:Own} {K:V->Own->Prop} (he:enterB P f=true)
  (h:∀ (a:Option Addr) (cap:Nat),(a=none->l=[])->DC P f (.gs (.slice a l.length cap) l::rest) H K):DC P f (.sl l::rest) H K:=by
 refine ⟨he,fun xs w hs hn hr=>?_⟩
 have h0:=hr 0 (by simp)
 change R _ w (xs.getD 0 undef) (.sl l) at h0
 generalize hx:xs.getD 0 undef=u at h0
 have h0':=h0
 cases h0 with
 | sl a n cap _ sz hl hc ha h1 h2 h3 h4 =>
 subst hl
 refine (h a cap ha).2 xs w hs hn fun k hk=>?_
 cases k with
 | zero=>show R _ w (xs.getD 0 undef) (.gs (.slice a l.length cap) l);rw [hx];exact .gs _ _ h0'
 | succ k=>exact hr (k+1) (by simpa using hk)
theorem DC.own0 {P:Program} {f:FuncId} {args:List V} {H F:Own} (sz:Nat) (h:DC P f args H fun d G=>d = .gs (.slice none 0 0) []/\G=F):DC P f args H fun d G=>d = .ar (.slice none 0 0) 0/\G = .arr sz (.slice none 0 0) []::F :=
 ⟨h.1,fun xs w hs hn hr=>(h.2 xs w hs hn hr).mono fun x w' ⟨v,d,H',he,s,ex,r,hd,hG⟩=>by
   subst hd hG
   obtain ⟨g1,g2⟩:=s.arr0 sz
   cases r
   exact ⟨_,_,_,he,g1,ex.trans g2, .ar _ _ _ (Nat.le_refl _) (fun _=>rfl),rfl,rfl⟩⟩
end
section
structure Elm (S:Addr->Prop) (w:World) (k:Nat) {T:Type} (encV:T->V) (ok:T->Prop) where
 t:T
 vs:List Value
 len:vs.length=k
 one:∀ v∈vs,v.oneCell'=true
 rel:∀ j,j<k->R S w (vs.getD j undef) ((encV t).cell j)
 good:ok t
theorem two_of {xs:Array Value} (h:xs.size=2):∃ a b,xs = #[a,b]:=by
 obtain ⟨l⟩:=xs
 match l,h with
 | [a,b],_=>exact ⟨a,b,rfl⟩
theorem zero_of {xs:Array Value} (h:xs.size=0):xs = #[]:=by
 obtain ⟨l⟩:=xs
 match l,h with
 | [],_=>rfl
end
section
section
variable {P:Program} {o:Oper} {f:Operand->V} {H:Own} {K:V->Own->Prop}
inductive InA (sz:Nat) (u:Value):Own->Prop
 | here {cs:List V} {H:Own}:InA sz u (.arr sz u cs::H)
 | next {e:Ent} {H:Own} (h:InA sz u H):InA sz u (e::H)
inductive Two (sz:Nat) (v u:Value):Own->Prop
 | here {cs:List V} {H:Own} (h:InA sz u H):Two sz v u (.arr sz v cs::H)
 | there {cs:List V} {H:Own} (h:InA sz v H):Two sz v u (.arr sz u cs::H)
 | next {e:Ent} {H:Own} (h:Two sz v u H):Two sz v u (e::H)
theorem InA.mem {sz:Nat} {u:Value} {H:Own} (h:InA sz u H):∃ cs,Ent.arr sz u cs∈H:=by
 induction h with
 | here=>exact ⟨_,List.mem_cons_self ..⟩
 | next _ ih=>obtain ⟨cs,h⟩:=ih;exact ⟨cs,List.mem_cons_of_mem _ h⟩
end
end
end Go.Proofs.YtifdpbghkccaoaaDoor
