/- strings.Builder wherever it lies: what it holds, and what is written to it, over data. No statement of the program. -/
import Derived.Test.YtgekknefphagbaaGreatDoorEn
import Derived.Test.YtgekknefphagbaaGreatDoorSkx
import Derived.Shelf.Strings.BuilderK
import Derived.Shelf.Strings.OnBuilder
import Derived.Shelf.Strconv.Itoa4
import Derived.Test.YtgekknefphagbaaGreatDoorPtfx
import Derived.Test.YtgekknefphagbaaGreatDoorGzx
import Derived.Lib.LaidU8
import Derived.Handed
namespace Go.Proofs.YtgekknefphagbaaGreatDoor
open Go.RowKit Go.Shelf
set_option linter.unusedSimpArgs false
set_option linter.unusedVariables false
set_option linter.unusedSectionVars false
section
section
variable {P:Program} {ρ : Go.Shelf.Ren}
end
theorem one_ofB {xs:Array Value} (h:xs.size=1):∃ a,xs = #[a]:=by
 obtain ⟨l⟩:=xs
 match l,h with
 | [a],_=>exact ⟨a,rfl⟩
def OnTb (H:Own) (b:Nat) (G:TypeId->List V->(Ent->Own)->Prop):Prop:=∃ T cs,On H (.tb T b cs) (G T cs)
theorem OnTb.here {H:Own} {T:TypeId} {b:Nat} {cs:List V} {G:TypeId->List V->(Ent->Own)->Prop} (h:G T cs fun x=>x::H):OnTb (.tb T b cs::H) b G:=⟨T,cs,On.here h⟩
theorem OnTb.next {H:Own} {b:Nat} {y:Ent} {G:TypeId->List V->(Ent->Own)->Prop} (h:OnTb H b fun T cs C=>G T cs fun x=>y::C x):OnTb (y::H) b G:=by
 obtain ⟨T,cs,h⟩:=h
 exact ⟨T,cs,On.next h⟩
def OnBa (H:Own) (v:Value) (G:TypeId->List UInt8->(Ent->Own)->Prop):Prop:=∃ T l,On H (.ba T v l) (G T l)
theorem OnBa.here {H:Own} {T:TypeId} {v:Value} {l:List UInt8} {G:TypeId->List UInt8->(Ent->Own)->Prop} (h:G T l fun x=>x::H):OnBa (.ba T v l::H) v G:=⟨T,l,On.here h⟩
theorem OnBa.next {H:Own} {v:Value} {y:Ent} {G:TypeId->List UInt8->(Ent->Own)->Prop} (h:OnBa H v fun T l C=>G T l fun x=>y::C x):OnBa (y::H) v G:=by
 obtain ⟨T,l,h⟩:=h
 exact ⟨T,l,On.next h⟩
section
variable {P:Program} {o:Oper} {f:Operand->V} {H:Own} {K:V->Own->Prop}
end
section
variable {P:Program} {ρ : Go.Shelf.Ren}
theorem DC.join (L:Lays.n156 P ρ) (X:Builder.Extra P ρ) (he:zdL P (ρ.f 156)=true) (ws:List (List UInt8)) (sep:List UInt8) (F:Own) (h:ws.length<=1000000/\(Lib.join ws sep).length<=140737488355328) :
  DC P (ρ.f 156) [.sl (ws.map V.str), .str sep] ([loose]++F) fun d G=>d = .str (Lib.join ws sep)/\G=[loose]++F:=by
 obtain ⟨h1,h2⟩:=h
 refine ⟨he,fun xs w hs hz hr=>?_⟩
 have h0:=hr 0 (by simp)
 have h1':=hr 1 (by simp)
 obtain ⟨x0,x1,rfl⟩:∃ a b,xs = #[a,b]:=by
  obtain ⟨l⟩:=xs
  match l,hz with
  | [a,b],_=>exact ⟨a,b,rfl⟩
 have h0:R (stable w ([loose]++F)) w x0 (.sl (ws.map V.str)):=h0
 have e1:x1 = .string (bs sep):=by
  have h1':R (stable w ([loose]++F)) w x1 (.str sep):=h1'
  cases h1';rfl
 subst e1
 obtain ⟨a,cap,sz,rfl,hc,hn,b1,b2,b3,b4⟩:=h0.slc
 rw [List.length_map] at hc b2 b3 b4 ⊢
 have bsb:∀ x:List UInt8,(bs x).data.toList=x:=fun x=>by simp [bs]
 have fin:∀ (e:Ending) (w':World),(e = .returned (.string ⟨(Lib.join ws sep).toArray⟩)/\Below w.heap.size w w') ->
   ∃ v d H',e = .returned v/\Sim w' H'/\Ext w ([loose]++F) w' H'/\R (stable w' H') w' v d/\d = .str (Lib.join ws sep)/\H'=[loose]++F:=by
  rintro e w' ⟨rfl,hb⟩
  obtain ⟨k1,k2⟩:=hs.moreL (by simp) hb
  exact ⟨_,_,_,rfl,k1,k2, .str _,rfl,rfl⟩
 by_cases hw:ws=[]
 · subst hw
   refine (Any.strings_Join_none L X a cap (bs sep) w).mono ?_
   rintro e w' ⟨rfl,rfl⟩
   exact fin _ _ ⟨rfl,Below.refl _ _⟩
 · cases a with
   | none=>exact absurd (List.map_eq_nil_iff.1 (hn rfl)) hw
   | some p =>
    have hsp:=b1 p rfl (fun e=>hw (List.map_eq_nil_iff.1 e))
    obtain ⟨bk,o,ps⟩:=p
    simp only at hsp
    subst hsp
    have hsz:sz=1:=by
     have hpos:0<ws.length:=List.length_pos_iff.2 hw
     have:=b2 0 hpos
     rw [<-this]
     simp [List.getD_eq_getElem?_getD,hpos];rfl
    subst hsz
    have cel:∀ (j:Nat) x,(ws.map bs)[j]? = some x->w.cell? ⟨bk,o+j,none⟩=some (.string x):=fun j x hx=>by
     rw [List.getElem?_map] at hx
     cases hj:ws[j]? with
     | none=>rw [hj] at hx;simp at hx
     | some y =>
      rw [hj] at hx
      simp only [Option.map_some,Option.some.injEq] at hx
      subst hx
      have hlt:j<ws.length:=(List.getElem?_eq_some_iff.1 hj).1
      have s3:=(b3 ⟨bk,o,none⟩ j 0 rfl hlt (by decide)).1
      have s4:=b4 ⟨bk,o,none⟩ j 0 rfl hlt (by decide)
      simp only [Nat.mul_one,Nat.add_zero] at s3 s4
      have e2:((ws.map V.str).getD j .any).cell 0 = .str y:=by
       rw [List.getD_eq_getElem?_getD,List.getElem?_map,hj];rfl
      rw [e2] at s4
      unfold zbb at s4
      cases hcc:w.cell? ⟨bk,o+j,none⟩ with
      | none=>rw [hcc] at s3;cases s3
      | some u =>
       rw [hcc] at s4
       have s4:R (stable w ([loose]++F)) w u (.str y):=s4
       cases s4;rfl
    have hbk:bk<w.heap.size:=(b3 ⟨bk,o,none⟩ 0 0 rfl (List.length_pos_iff.2 hw) (by decide)).lt
    have e3:(ws.map bs).map (·.data.toList)=ws:=by rw [List.map_map];exact (List.map_congr_left fun x _=>bsb x).trans (List.map_id ws)
    have:=Any.strings_Join L X bk o cap (ws.map bs) (bs sep) w cel hbk (by rw [List.length_map];omega) (by rw [List.length_map];exact hc) (by rw [e3,bsb];exact h2)
    rw [e3,bsb,List.length_map] at this
    exact this.mono fin
def zeR (T:TypeId) (fr:Nat×Nat):Obj:=.cells ((Lib.pow10Tab.map fun z=>Value.int .u64 z).toArray) T fr
theorem DC.itoa (L:LaysM.n171 P ρ) (he:zdL P (ρ.f 171)=true) {g:Nat} (hg:P.globalNamed "internal/strconv.uint64pow10" = some g) (T:TypeId) (fr:Nat×Nat) (n:Int) (F:Own) (h : -9223372036854775808<=n/\n<=9223372036854775807) :
  DC P (ρ.f 171) [.int .i64 n] ([.row g (zeR T fr)]++F) fun d G=>d = .str (Lib.itoa n)/\G=[.row g (zeR T fr)]++F:=by
 refine ⟨he,fun xs w hs hz hr=>?_⟩
 have h0:=hr 0 (by simp)
 obtain ⟨x0,rfl⟩:=one_ofB hz
 have e0:x0 = .int .i64 n:=by
  have h0:R (stable w ([.row g (zeR T fr)]++F)) w x0 (.int .i64 n):=h0
  cases h0;rfl
 subst e0
 have hh:w.heap[g]? = some (zeR T fr):=hs.holds (.row g (zeR T fr)) (by simp)
 have htab:Lib.TabIs P w "internal/strconv.uint64pow10" .u64 Lib.pow10Tab:=by
  unfold Lib.TabIs World.var?
  rw [hg]
  simp [hh,zeR]
 refine (Any.strconv_Itoa L n h.1 h.2 w htab).mono ?_
 rintro e w' ⟨rfl,k,os,rfl⟩
 obtain ⟨k1,k2⟩:=hs.more (w':=Go.Sort.grow (w.drewN k) os) rfl rfl rfl (by simp [Go.Sort.grow,World.drewN]) (fun b hb=>by simp [Go.Sort.grow,World.drewN,Array.getElem?_append,hb]) (Nat.le_add_right _ _)
 exact ⟨_,_,_,rfl,k1,k2, .str _,rfl,rfl⟩
end
end
section
open Go.RowKit Go.ChangeShapes Go.WideShapes Go.Deep
theorem zjk {w:World} {H:Own} {b:Nat} {cs:List V} (hs:Sim w H) (hno:∀ e∈H,∀ a,¬ e.owns a) (vs:Nat->Value) (h:∀ k,k<cs.length->w.cell? ⟨b,k,none⟩=some (vs k)/\∀ S,R S w (vs k) (cs.getD k .any)) (hbb:b≠4000000007:=by decide) :
  Sim w (.know b cs::H)/\Ext w H w (.know b cs::H) :=
 hs.add (e1:=.know b cs) (hlo:=fun e=>by injection e with e;exact hbb e) rfl rfl rfl (Nat.le_refl _) (fun _ _=>rfl) (fun _ h=>h.elim) fun _=>fun k hk=>by
  obtain ⟨h1,h2⟩:=h k hk
  refine ⟨⟨by rw [h1];rfl,fun e he ha=>?_⟩,?_⟩
  · rcases List.mem_cons.1 he with rfl | he
    · exact ha.elim
    · exact hno e he _ ha
  · unfold zbb;rw [h1];exact h2 _
theorem acc_at:∀ i,i<16->accC.getD (2 * i) .any = .int .u8 (Go.Lib.accLo i)/\accC.getD (2 * i+1) .any = .int .u8 (Go.Lib.accHi i)
 | 0,_=>⟨rfl,rfl⟩ | 1,_=>⟨rfl,rfl⟩ | 2,_=>⟨rfl,rfl⟩ | 3,_=>⟨rfl,rfl⟩ | 4,_=>⟨rfl,rfl⟩ | 5,_=>⟨rfl,rfl⟩ | 6,_=>⟨rfl,rfl⟩ | 7,_=>⟨rfl,rfl⟩
 | 8,_=>⟨rfl,rfl⟩ | 9,_=>⟨rfl,rfl⟩ | 10,_=>⟨rfl,rfl⟩ | 11,_=>⟨rfl,rfl⟩ | 12,_=>⟨rfl,rfl⟩ | 13,_=>⟨rfl,rfl⟩ | 14,_=>⟨rfl,rfl⟩ | 15,_=>⟨rfl,rfl⟩
 | n+16,h=>absurd h (by omega)
theorem zmU {w:World} {m:Int} (ht:Go.Lib.Utf8Tabs 1 2 w) (hm:w.cell? ⟨3,0,none⟩=some (.int .i64 m)) :
  Sim w [knF,knA, .know 3 [.int .i64 m]]/\Ext w [] w [knF,knA, .know 3 [.int .i64 m]]:=by
 have h0:Sim w []:=⟨(fun _ h=>nomatch h),List.Pairwise.nil,List.Pairwise.nil⟩
 obtain ⟨s1,x1⟩:=zjk (b:=3) (cs:=[.int .i64 m]) h0 (fun e he=>nomatch he) (fun _=>.int .i64 m) (fun k hk=>by
  have hk0:k=0:=by simpa using hk
  subst hk0
  exact ⟨hm,fun S=>.int _ _⟩)
 obtain ⟨s2,x2⟩:=zjk (b:=2) (cs:=accC) s1 (fun e he a ha=>by
  rcases List.mem_singleton.1 he with rfl
  exact ha.elim) (fun k=>if k%2=0 then .int .u8 (Go.Lib.accLo (k / 2)) else .int .u8 (Go.Lib.accHi (k / 2))) (fun k hk=>by
  have hk:k<32:=by simpa [zdl] using hk
  obtain ⟨q1,q2⟩:=ht.2 (k / 2) (by omega)
  obtain ⟨a1,a2⟩:=acc_at (k / 2) (by omega)
  by_cases he:k%2=0
  · have e:2 * (k / 2)=k:=by omega
    rw [e] at q1 a1
    refine ⟨by rw [if_pos he];exact q1,fun S=>?_⟩
    rw [if_pos he,a1];exact .int _ _
  · have e:2 * (k / 2)+1=k:=by omega
    rw [e] at q2 a2
    refine ⟨by rw [if_neg he];exact q2,fun S=>?_⟩
    rw [if_neg he,a2];exact .int _ _)
 obtain ⟨s3,x3⟩:=zjk (b:=1) (cs:=firstC) s2 (fun e he a ha=>by
  rcases List.mem_cons.1 he with rfl | he
  · exact ha.elim
  · rcases List.mem_singleton.1 he with rfl
    exact ha.elim) (fun k=>.int .u8 (Go.Lib.firstT k)) (fun k hk=>by
  have hk:k<256:=by rw [zca] at hk;exact hk
  refine ⟨ht.1 k hk,fun S=>?_⟩
  have e:firstC.getD k .any = .int .u8 (Go.Lib.firstT k):=by
   unfold firstC
   rw [List.getD_eq_getElem?_getD,List.getElem?_map,List.getElem?_range hk];rfl
  rw [e];exact .int _ _)
 exact ⟨s3,(x1.trans x2).trans x3⟩
end
section
open Go.RowKit Go.ChangeShapes Go.WideShapes Go.Deep
theorem row_sim {w:World} {K:Own} {g:Nat} {o:Obj} (h:Sim w K) (hk:∀ e∈K,∃ b cs,e = .know b cs) (hg:w.heap[g]? = some o):Sim w (loose :: .row g o::K):=by
 have st:∀ a,stable w K a->stable w (loose :: .row g o::K) a/\w.cell? a=w.cell? a:=fun a ha=>⟨⟨ha.1,fun e he=>by
  rcases List.mem_cons.1 he with rfl | he
  · exact fun h=>h
  · rcases List.mem_cons.1 he with rfl | he
    · exact fun h=>h
    · exact ha.2 e he⟩,rfl⟩
 refine ⟨fun e he=>?_,?_,?_⟩
 · rcases List.mem_cons.1 he with rfl | he
   · exact fun k hk=>absurd hk (Nat.not_lt_zero _)
   · rcases List.mem_cons.1 he with rfl | he
     · exact hg
     · exact Ent.holds_mono (h.holds e he) st fun _ _=>rfl
 · exact List.pairwise_cons.2 ⟨fun f hf a ha=>ha.elim,List.pairwise_cons.2 ⟨fun f hf a ha=>ha.elim,h.disj⟩⟩
 · refine List.pairwise_cons.2 ⟨fun f hf a ha=>ha.elim,List.pairwise_cons.2 ⟨fun f hf a ha hb=>?_,h.apart⟩⟩
   obtain ⟨b,cs,rfl⟩:=hk f hf
   exact hb
theorem DC.lawR {P:Program} {f:FuncId} {args:List V} {K:Own} {g:Nat} {o:Obj} {xs:Array Value} {w:World} (h:DC P f args (loose :: .row g o::K) fun d H'=>d = .bool true/\H'=loose :: .row g o::K) (hK:Sim w K) (hk:∀ e∈K,∃ b cs,e = .know b cs) (hg:w.heap[g]? = some o)
  (hn:xs.size=args.length) (hr:∀ k,k<args.length->R (stable w []) w (xs.getD k undef) (args.getD k .any)) :
  Calls P f xs w fun e w'=>e = .returned (.bool true)/\Below w.heap.size w w':=by
 have own:∀ e∈(loose :: .row g o::K:Own),∀ a,¬ e.owns a:=fun e he a=>by
  rcases List.mem_cons.1 he with rfl | he
  · exact fun h=>h
  · rcases List.mem_cons.1 he with rfl | he
    · exact fun h=>h
    · obtain ⟨b,cs,rfl⟩:=hk e he
      exact fun h=>h
 have st:∀ a,stable w [] a->stable w (loose :: .row g o::K) a/\w.cell? a=w.cell? a:=fun a ha=>⟨⟨ha.1,fun e he=>own e he a⟩,rfl⟩
 refine (h.2 xs w (row_sim hK hk hg) hn fun k hk=>(hr k hk).mono st).mono fun e w' ⟨v,d,H',he,s,x,r,hd,hH⟩=>?_
 subst hd
 subst hH
 cases r
 refine ⟨he,x.os,x.tape,x.output,x.size,fun b hb=>?_⟩
 by_cases hbg:b=g
 · subst hbg
   have h1:w'.heap[b]? = some o:=s.holds (.row b o) (by simp)
   rw [h1,hg]
 · refine (x.full b hb fun e he ht=>?_).1
   rcases List.mem_cons.1 he with rfl | he
   · exact ht
   · rcases List.mem_cons.1 he with rfl | he
     · exact hbg ht
     · obtain ⟨b,cs,rfl⟩:=hk e he
       exact ht
theorem zma {m:Int}:∀ e∈([knF,knA, .know 3 [.int .i64 m]]:Own),∃ b cs,e = .know b cs:=fun e he=>by
 simp only [List.mem_cons,List.not_mem_nil,or_false] at he
 rcases he with rfl | rfl | rfl<;>exact ⟨_,_,rfl⟩
theorem pow_obj {w:World} (h:Go.Lib.VarReads Tryz.prog w "internal/strconv.uint64pow10" (Go.Lib.tabData .u64 Go.Lib.pow10Tab)):∃ T fr,w.heap[0]? = some (zeR T fr):=by
 obtain ⟨g,t,cs,fuel,p,h1,h2,h3,h4⟩:=h
 have e1:g=0:=Option.some.inj (h1.symm.trans (by kernel_rfl))
 subst e1
 have e2:t=326:=Option.some.inj (h2.symm.trans (by kernel_rfl))
 subst e2
 have e3:=Go.Lib.cells_of_tab (e:=283) (n:=20) Tryz.underlying326 Tryz.underlying283 (by kernel_rfl) (by kernel_rfl) h4
 unfold World.var? at h3
 rw [show Program.globalNamed Tryz.prog "internal/strconv.uint64pow10" = some 0 from by kernel_rfl] at h3
 simp only [Option.bind_some] at h3
 cases hh:w.heap[0]? with
 | none=>rw [hh] at h3;exact absurd h3 (by simp)
 | some o =>
  rw [hh] at h3
  cases o with
  | cells xs T fr =>
   simp only [Option.some.injEq] at h3
   subst h3
   refine ⟨T,fr,?_⟩
   unfold zeR
   rw [<-e3]
  | _=>exact absurd h3 (by simp)
end
end Go.Proofs.YtgekknefphagbaaGreatDoor
