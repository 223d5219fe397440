/- A law whose row lists tables, and whose program asks what a variable of the library holds: what is known of them stands in the frame. No statement of the program. -/
import Derived.Test.YtgekknefphagbaaGreatDoorPtfx
import Derived.Test.YtgekknefphagbaaGreatDoorEqx
import Derived.Lib.LaidU8
import Derived.Handed
import Derived.Test.YtgekknefphagbaaGreatDoorEf
import Derived.Test.YtgekknefphagbaaGreatDoorLib
namespace Go.Proofs.YtgekknefphagbaaGreatDoor
open Go.RowKit Go.ChangeShapes Go.WideShapes Go.Deep
set_option linter.unusedSimpArgs false
set_option linter.unusedVariables false
set_option linter.unusedSectionVars false
section
theorem zj3 {w:World} {H:Own} {b:Nat} {cs:List V} (hs:Sim w H) (hno:∀ e∈H,∀ a,¬ e.owns a) (vs:Nat->Value) (h:∀ k,k<cs.length->w.cell? ⟨b,k,none⟩=some (vs k)/\∀ S,R S w (vs k) (cs.getD k .any)) (hbb:b≠4000000007:=by decide) :
  Sim w (.know b cs::H)/\Ext w H w (.know b cs::H) :=
 hs.add (e1:=.know b cs) (hlo:=fun e=>by injection e with e;exact hbb e) rfl rfl rfl (Nat.le_refl _) (fun _ _=>rfl) (fun _ h=>h.elim) fun _=>fun k hk=>by
  obtain ⟨h1,h2⟩:=h k hk
  refine ⟨⟨by rw [h1];rfl,fun e he ha=>?_⟩,?_⟩
  · rcases List.mem_cons.1 he with rfl | he
    · exact ha.elim
    · exact hno e he _ ha
  · unfold zaP;rw [h1];exact h2 _
theorem acc_at:∀ i,i<16->accC.getD (2 * i) .any = .int .u8 (Go.Lib.accLo i)/\accC.getD (2 * i+1) .any = .int .u8 (Go.Lib.accHi i)
 | 0,_=>⟨rfl,rfl⟩ | 1,_=>⟨rfl,rfl⟩ | 2,_=>⟨rfl,rfl⟩ | 3,_=>⟨rfl,rfl⟩ | 4,_=>⟨rfl,rfl⟩ | 5,_=>⟨rfl,rfl⟩ | 6,_=>⟨rfl,rfl⟩ | 7,_=>⟨rfl,rfl⟩
 | 8,_=>⟨rfl,rfl⟩ | 9,_=>⟨rfl,rfl⟩ | 10,_=>⟨rfl,rfl⟩ | 11,_=>⟨rfl,rfl⟩ | 12,_=>⟨rfl,rfl⟩ | 13,_=>⟨rfl,rfl⟩ | 14,_=>⟨rfl,rfl⟩ | 15,_=>⟨rfl,rfl⟩
 | n+16,h=>absurd h (by omega)
theorem zi9 {w:World} {m:Int} (ht:Go.Lib.Utf8Tabs 1 2 w) (hm:w.cell? ⟨3,0,none⟩=some (.int .i64 m)) :
  Sim w [knF,knA, .know 3 [.int .i64 m]]/\Ext w [] w [knF,knA, .know 3 [.int .i64 m]]:=by
 have h0:Sim w []:=⟨(fun _ h=>nomatch h),List.Pairwise.nil,List.Pairwise.nil⟩
 obtain ⟨s1,x1⟩:=zj3 (b:=3) (cs:=[.int .i64 m]) h0 (fun e he=>nomatch he) (fun _=>.int .i64 m) (fun k hk=>by
  have hk0:k=0:=by simpa using hk
  subst hk0
  exact ⟨hm,fun S=>.int _ _⟩)
 obtain ⟨s2,x2⟩:=zj3 (b:=2) (cs:=accC) s1 (fun e he a ha=>by
  rcases List.mem_singleton.1 he with rfl
  exact ha.elim) (fun k=>if k%2=0 then .int .u8 (Go.Lib.accLo (k / 2)) else .int .u8 (Go.Lib.accHi (k / 2))) (fun k hk=>by
  have hk:k<32:=by simpa [zdg] using hk
  obtain ⟨q1,q2⟩:=ht.2 (k / 2) (by omega)
  obtain ⟨a1,a2⟩:=acc_at (k / 2) (by omega)
  by_cases he:k%2=0
  · have e:2 * (k / 2)=k:=by omega
    rw [e] at q1 a1
    refine ⟨by rw [if_pos he];exact q1,fun S=>?_⟩
    rw [if_pos he,a1];exact .int _ _
  · have e:2 * (k / 2)+1=k:=by omega
    rw [e] at q2 a2
    refine ⟨by rw [if_neg he];exact q2,fun S=>?_⟩
    rw [if_neg he,a2];exact .int _ _)
 obtain ⟨s3,x3⟩:=zj3 (b:=1) (cs:=firstC) s2 (fun e he a ha=>by
  rcases List.mem_cons.1 he with rfl | he
  · exact ha.elim
  · rcases List.mem_singleton.1 he with rfl
    exact ha.elim) (fun k=>.int .u8 (Go.Lib.firstT k)) (fun k hk=>by
  have hk:k<256:=by rw [zcb] at hk;exact hk
  refine ⟨ht.1 k hk,fun S=>?_⟩
  have e:firstC.getD k .any = .int .u8 (Go.Lib.firstT k):=by
   unfold firstC
   rw [List.getD_eq_getElem?_getD,List.getElem?_map,List.getElem?_range hk];rfl
  rw [e];exact .int _ _)
 exact ⟨s3,(x1.trans x2).trans x3⟩
end
section
theorem Sim.none (w:World):Sim w []:=⟨(fun _ h=>nomatch h),List.Pairwise.nil,List.Pairwise.nil⟩
theorem zjw {w:World} {a:Addr} (h:(w.cell? a).isSome=true):stable w [] a:=⟨h,(fun _ h=>nomatch h)⟩
section
variable {H:Type} {enc:TypeId×Value->H} {P:Program} {w:World}
def Opens (P:Program) (enc:TypeId×Value->H) (w:World) (e:TypeId) (C:Nat) {α:Type} (ea:α->V) (Q:α->Prop):Prop :=
 ∀ (cs:List Value) (n:Nat) (y:DataW H×List MemPlace),cs.length=C->DataW.trod enc P w 0 (fun _=>true) true n e cs=some y ->
  ∃ a,Q a/\∀ o,o<C->R (stable w []) w (cs.getD o undef) ((ea a).cs.getD o .any)
theorem zhv {e:TypeId} {C:Nat} {α:Type} {ea:α->V} {Q:α->Prop} (hC:0<C) (hn:∀ a,(ea a).cs.length=C) (ho:Opens P enc w e C ea Q) {A:Option Addr} {len cap:Nat} (hE:Elems enc P w e C A len cap) :
  ∃ l:List α,l.length=len/\(∀ a∈l,Q a)/\R (stable w []) w (.slice A len cap) (.sl (l.map ea)):=by
 have one:∀ i,i<len->∃ a,Q a/\∃ b off,A=some ⟨b,off,none⟩/\∀ o,o<C->∃ v,w.cell? ⟨b,off+i * C+o,none⟩=some v/\R (stable w []) w v ((ea a).cs.getD o .any):=fun i hi=>by
  obtain ⟨b,off,cs,n,y,hA,hb,hl,hc,ht⟩:=hE.at_ i hi
  obtain ⟨a,hq,hr⟩:=ho cs n y hl ht
  refine ⟨a,hq,b,off,hA,fun o hlt=>?_⟩
  have hlt':o<cs.length:=by omega
  refine ⟨cs[o],hc o _ (List.getElem?_eq_getElem hlt'),?_⟩
  have:=hr o hlt
  simpa [List.getD_eq_getElem?_getD,hlt'] using this
 have all:∀ m,m<=len->∃ l:List α,l.length=m/\(∀ a∈l,Q a)/\∀ i (hi:i<l.length),∃ b off,A=some ⟨b,off,none⟩/\∀ o,o<C->∃ v,w.cell? ⟨b,off+i * C+o,none⟩=some v/\R (stable w []) w v ((ea l[i]).cs.getD o .any):=fun m=>by
  induction m with
  | zero=>exact fun _=>⟨[],rfl,(fun _ h=>nomatch h),fun i hi=>absurd hi (Nat.not_lt_zero _)⟩
  | succ m ih =>
   intro hm
   obtain ⟨l,h1,h2,h3⟩:=ih (by omega)
   obtain ⟨a,hq,hx⟩:=one m (by omega)
   refine ⟨l++[a],by simp [h1],fun z hz=>?_,fun i hi=>?_⟩
   · rcases List.mem_append.1 hz with hz | hz
     · exact h2 z hz
     · simp at hz;subst hz;exact hq
   · by_cases hil:i<l.length
     · simpa [List.getElem_append_left,hil] using h3 i hil
     · have:i=l.length:=by simp at hi;omega
       subst this
       simp only [List.getElem_concat_length]
       rw [h1];exact hx
 obtain ⟨l,h1,h2,h3⟩:=all len (Nat.le_refl _)
 refine ⟨l,h1,h2,?_⟩
 have hel:∀ i,i<l.length->∃ hi:i<l.length,(l.map ea).getD i .any=ea l[i]:=fun i hi=>⟨hi,by simp [List.getD_eq_getElem?_getD,hi]⟩
 refine .sl A len cap _ C (by simp [h1]) hE.le (fun h=>?_) (fun b hb hne=>?_) (fun i hi=>?_) (fun b i k hb hi hk=>?_) (fun b i k hb hi hk=>?_)
 · have:=hE.nil h
   have:l=[]:=List.eq_nil_of_length_eq_zero (by omega)
   subst this;rfl
 · have hl:0<l.length:=List.length_pos_iff.2 fun h=>hne (by rw [h];rfl)
   obtain ⟨b',off,hA,_⟩:=h3 0 hl
   rw [hA] at hb
   injection hb with hb
   rw [<-hb]
 · simp only [List.length_map] at hi
   obtain ⟨_,e⟩:=hel i hi
   rw [e,<-cs_n];exact hn _
 · simp only [List.length_map] at hi
   obtain ⟨b',off,hA,hx⟩:=h3 i hi
   rw [hA] at hb
   injection hb with hb
   subst hb
   obtain ⟨v,hv,_⟩:=hx k hk
   exact zjw (by simp only;rw [hv];rfl)
 · simp only [List.length_map] at hi
   obtain ⟨b',off,hA,hx⟩:=h3 i hi
   rw [hA] at hb
   injection hb with hb
   subst hb
   obtain ⟨v,hv,hr⟩:=hx k hk
   obtain ⟨_,e⟩:=hel i hi
   simp only
   rw [zaP,hv,e,zgd _ _ (by rw [hn];exact hk)]
   exact hr
end
end
end Go.Proofs.YtgekknefphagbaaGreatDoor
