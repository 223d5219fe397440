/- From arguments that read as data to the data of the walk, and back from a law's contract. No statement of the program. -/
import Derived.Test.YtphhijelneaedaaDoorEf
import Derived.Test.YtphhijelneaedaaDoorLib
namespace Go.Proofs.YtphhijelneaedaaDoor
open Go.RowKit Go.ChangeShapes Go.WideShapes Go.Deep
set_option linter.unusedSimpArgs false
set_option linter.unusedVariables false
set_option linter.unusedSectionVars false
theorem Sim.none (w:World):Sim w []:=⟨(fun _ h=>nomatch h),List.Pairwise.nil,List.Pairwise.nil⟩
theorem stable_none {w:World} {a:Addr} (h:(w.cell? a).isSome=true):stable w [] a:=⟨h,(fun _ h=>nomatch h)⟩
section
variable {H:Type} {enc:TypeId×Value->H} {P:Program} {w:World}
def Opens (P:Program) (enc:TypeId×Value->H) (w:World) (e:TypeId) (C:Nat) {α:Type} (ea:α->V) (Q:α->Prop):Prop :=
 ∀ (cs:List Value) (n:Nat) (y:DataW H×List MemPlace),cs.length=C->DataW.trod enc P w 0 (fun _=>true) true n e cs=some y ->
  ∃ a,Q a/\∀ o,o<C->R (stable w []) w (cs.getD o undef) ((ea a).cs.getD o .any)
theorem open_elems {e:TypeId} {C:Nat} {α:Type} {ea:α->V} {Q:α->Prop} (hC:0<C) (hn:∀ a,(ea a).cs.length=C) (ho:Opens P enc w e C ea Q) {A:Option Addr} {len cap:Nat} (hE:Elems enc P w e C A len cap) :
  ∃ l:List α,l.length=len/\(∀ a∈l,Q a)/\R (stable w []) w (.slice A len cap) (.sl (l.map ea)):=by
 have one:∀ i,i<len->∃ a,Q a/\∃ b off,A=some ⟨b,off,none⟩/\∀ o,o<C->∃ v,w.cell? ⟨b,off+i * C+o,none⟩=some v/\R (stable w []) w v ((ea a).cs.getD o .any):=fun i hi=>by
  obtain ⟨b,off,cs,n,y,hA,hb,hl,hc,ht⟩:=hE.at_ i hi
  obtain ⟨a,hq,hr⟩:=ho cs n y hl ht
  refine ⟨a,hq,b,off,hA,fun o hlt=>?_⟩
  have hlt':o<cs.length:=by omega
  refine ⟨cs[o],hc o _ (List.getElem?_eq_getElem hlt'),?_⟩
  have:=hr o hlt
  simpa [List.getD_eq_getElem?_getD,hlt'] using this
 have all:∀ m,m<=len->∃ l:List α,l.length=m/\(∀ a∈l,Q a)/\∀ i (hi:i<l.length),∃ b off,A=some ⟨b,off,none⟩/\∀ o,o<C->∃ v,w.cell? ⟨b,off+i * C+o,none⟩=some v/\R (stable w []) w v ((ea l[i]).cs.getD o .any):=fun m=>by
  induction m with
  | zero=>exact fun _=>⟨[],rfl,(fun _ h=>nomatch h),fun i hi=>absurd hi (Nat.not_lt_zero _)⟩
  | succ m ih =>
   intro hm
   obtain ⟨l,h1,h2,h3⟩:=ih (by omega)
   obtain ⟨a,hq,hx⟩:=one m (by omega)
   refine ⟨l++[a],by simp [h1],fun z hz=>?_,fun i hi=>?_⟩
   · rcases List.mem_append.1 hz with hz | hz
     · exact h2 z hz
     · simp at hz;subst hz;exact hq
   · by_cases hil:i<l.length
     · simpa [List.getElem_append_left,hil] using h3 i hil
     · have:i=l.length:=by simp at hi;omega
       subst this
       simp only [List.getElem_concat_length]
       rw [h1];exact hx
 obtain ⟨l,h1,h2,h3⟩:=all len (Nat.le_refl _)
 refine ⟨l,h1,h2,?_⟩
 have hel:∀ i,i<l.length->∃ hi:i<l.length,(l.map ea).getD i .any=ea l[i]:=fun i hi=>⟨hi,by simp [List.getD_eq_getElem?_getD,hi]⟩
 refine .sl A len cap _ C (by simp [h1]) hE.le (fun h=>?_) (fun b hb hne=>?_) (fun i hi=>?_) (fun b i k hb hi hk=>?_) (fun b i k hb hi hk=>?_)
 · have:=hE.nil h
   have:l=[]:=List.eq_nil_of_length_eq_zero (by omega)
   subst this;rfl
 · have hl:0<l.length:=List.length_pos_iff.2 fun h=>hne (by rw [h];rfl)
   obtain ⟨b',off,hA,_⟩:=h3 0 hl
   rw [hA] at hb
   injection hb with hb
   rw [<-hb]
 · simp only [List.length_map] at hi
   obtain ⟨_,e⟩:=hel i hi
   rw [e,<-cs_n];exact hn _
 · simp only [List.length_map] at hi
   obtain ⟨b',off,hA,hx⟩:=h3 i hi
   rw [hA] at hb
   injection hb with hb
   subst hb
   obtain ⟨v,hv,_⟩:=hx k hk
   exact stable_none (by simp only;rw [hv];rfl)
 · simp only [List.length_map] at hi
   obtain ⟨b',off,hA,hx⟩:=h3 i hi
   rw [hA] at hb
   injection hb with hb
   subst hb
   obtain ⟨v,hv,hr⟩:=hx k hk
   obtain ⟨_,e⟩:=hel i hi
   simp only
   rw [cellAt,hv,e,cs_cell _ _ (by rw [hn];exact hk)]
   exact hr
end
end Go.Proofs.YtphhijelneaedaaDoor
