/- What is owned is let go, while cells that are owned hold it; a call's slice taken by its value. No statement of the program. -/
import Derived.Test.YtifdpbghkccaoaaDoorEz
import Derived.Test.YtifdpbghkccaoaaDoorSo
import Derived.Lib.Overlaps
namespace Go.Proofs.YtifdpbghkccaoaaDoor
open Go.RowKit
set_option linter.unusedSimpArgs false
set_option linter.unusedVariables false
set_option linter.unusedSectionVars false
section
inductive CvO (v:Value) (l:List V):Own->Own->Prop
 | nil:CvO v l [] []
 | keep (e:Ent) {H H':Own} (h:CvO v l H H'):CvO v l (e::H) (e::H')
 | blk (b:Nat) {cs ds:List V} (hc:CvL v l cs ds) {H H':Own} (h:CvO v l H H'):CvO v l (.blk b cs::H) (.blk b ds::H')
theorem CvO.mem {v:Value} {l:List V} {H H':Own} (h:CvO v l H H'):(∀ e'∈H',∃ e∈H,(∀ a,e'.owns a↔e.owns a)/\(∀ b,e'.touches b↔e.touches b))/\(∀ e∈H,∃ e'∈H',(∀ a,e'.owns a↔e.owns a)/\(∀ b,e'.touches b↔e.touches b)):=by
 induction h with
 | nil=>exact ⟨(fun _ h=>nomatch h),(fun _ h=>nomatch h)⟩
 | keep e _ ih =>
  refine ⟨fun x hx=>?_,fun x hx=>?_⟩
  · rcases List.mem_cons.1 hx with rfl | hx
    · exact ⟨_,List.mem_cons_self ..,fun _=>Iff.rfl,fun _=>Iff.rfl⟩
    · obtain ⟨y,hy,h⟩:=ih.1 x hx;exact ⟨y,List.mem_cons_of_mem _ hy,h⟩
  · rcases List.mem_cons.1 hx with rfl | hx
    · exact ⟨_,List.mem_cons_self ..,fun _=>Iff.rfl,fun _=>Iff.rfl⟩
    · obtain ⟨y,hy,h⟩:=ih.2 x hx;exact ⟨y,List.mem_cons_of_mem _ hy,h⟩
 | blk b hc _ ih =>
  refine ⟨fun x hx=>?_,fun x hx=>?_⟩
  · rcases List.mem_cons.1 hx with rfl | hx
    · exact ⟨_,List.mem_cons_self ..,fun _=>Iff.rfl,fun _=>Iff.rfl⟩
    · obtain ⟨y,hy,h⟩:=ih.1 x hx;exact ⟨y,List.mem_cons_of_mem _ hy,h⟩
  · rcases List.mem_cons.1 hx with rfl | hx
    · exact ⟨_,List.mem_cons_self ..,fun _=>Iff.rfl,fun _=>Iff.rfl⟩
    · obtain ⟨y,hy,h⟩:=ih.2 x hx;exact ⟨y,List.mem_cons_of_mem _ hy,h⟩
theorem CvO.holds {v:Value} {l:List V} {w:World} {S S':Addr->Prop} (hv:R S' w v (.gs v l)) (hS:∀ a,S a->S' a) {H H':Own} (h:CvO v l H H') (hh:∀ e∈H,e.holds S w):∀ e∈H',e.holds S' w:=by
 induction h with
 | nil=>exact fun _ h=>nomatch h
 | keep e _ ih =>
  intro x hx
  rcases List.mem_cons.1 hx with rfl | hx
  · exact Ent.holds_mono (hh _ (List.mem_cons_self ..)) (fun a ha=>⟨hS a ha,rfl⟩) (fun _ _=>rfl)
  · exact ih (fun e he=>hh e (List.mem_cons_of_mem _ he)) x hx
 | blk b hc _ ih =>
  intro x hx
  rcases List.mem_cons.1 hx with rfl | hx
  · obtain ⟨xs,T,fr,h1,h2,h3,h4⟩:=hh _ (List.mem_cons_self ..)
    exact ⟨xs,T,fr,h1,h2,h3.trans hc.len,fun k hk=>R.cv hv (hc.at k) ((h4 k (by rw [hc.len];exact hk)).mono fun a ha=>⟨hS a ha,rfl⟩)⟩
  · exact ih (fun e he=>hh e (List.mem_cons_of_mem _ he)) x hx
theorem CvO.stable {v:Value} {l:List V} {w:World} {H H':Own} (h:CvO v l H H') {a:Addr} (hs:stable w H a):stable w H' a:=⟨hs.1,fun e he ho=>by
 obtain ⟨y,hy,h1,_⟩:=h.mem.1 e he
 exact hs.2 y hy ((h1 a).1 ho)⟩
theorem CvO.loose {v:Value} {l:List V} {H H':Own} (h:CvO v l H H') (hl:Go.Proofs.YtifdpbghkccaoaaDoor.loose∈H'):Go.Proofs.YtifdpbghkccaoaaDoor.loose∈H:=by
 induction h with
 | nil=>exact hl
 | keep e _ ih =>
  rcases List.mem_cons.1 hl with hl | hl
  · exact hl▸List.mem_cons_self ..
  · exact List.mem_cons_of_mem _ (ih hl)
 | blk b hc _ ih =>
  rcases List.mem_cons.1 hl with hl | hl
  · cases hl
  · exact List.mem_cons_of_mem _ (ih hl)
section
variable {P:Program} {n:Nat} {Q:Exit->Env->Own->Prop} {e e':Env} {H:Own}
end
end
section
section
variable {P:Program} {o:Oper} {f:Operand->V} {H:Own} {K:V->Own->Prop}
inductive InA (sz:Nat) (u:Value):Own->Prop
 | here {cs:List V} {H:Own}:InA sz u (.arr sz u cs::H)
 | next {e:Ent} {H:Own} (h:InA sz u H):InA sz u (e::H)
inductive Two (sz:Nat) (v u:Value):Own->Prop
 | here {cs:List V} {H:Own} (h:InA sz u H):Two sz v u (.arr sz v cs::H)
 | there {cs:List V} {H:Own} (h:InA sz v H):Two sz v u (.arr sz u cs::H)
 | next {e:Ent} {H:Own} (h:Two sz v u H):Two sz v u (e::H)
theorem InA.mem {sz:Nat} {u:Value} {H:Own} (h:InA sz u H):∃ cs,Ent.arr sz u cs∈H:=by
 induction h with
 | here=>exact ⟨_,List.mem_cons_self ..⟩
 | next _ ih=>obtain ⟨cs,h⟩:=ih;exact ⟨cs,List.mem_cons_of_mem _ h⟩
end
end
end Go.Proofs.YtifdpbghkccaoaaDoor
