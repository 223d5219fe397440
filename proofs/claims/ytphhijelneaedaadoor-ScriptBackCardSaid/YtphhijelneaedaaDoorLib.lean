/- Plain lemmas on memory that the proofs of this seat share: blocks known whole, worlds of which one block has turned, slices that read as lists. No statement of the program. -/
import Derived.Test.YtphhijelneaedaaDoorRows
import Derived.WalkKit
import Derived.WalkSpells
import Derived.WalkLawsBesides
import Derived.BigQuiet
import Derived.Deep.QuietTactic
import Derived.Deep.RegionHeld3
import Derived.Deep.DeepCutAuto
import Derived.Deep.Draws
import Derived.Lib.Hide
import Derived.Lib.MinMax
import Derived.Lib.QuietBelow
import Derived.ProofKit
import Derived.OpenShut
import Derived.ShutString
import Derived.ChangeOld
import Derived.Below
import Derived.Lib.SmallJoins
import Derived.Deep.AppendLies
import Derived.Deep.RegionWith
import Derived.Maps.AppendAt
import Derived.Deep.Slices
import Derived.Deep.Fields
import Derived.Deep.Strs
import Derived.Laws.OwnMore
import Derived.Laws.Rows
import Derived.Laws.BitsAllLaws
import Derived.Laws.BitsLemmas
import Derived.Laws.ResultCell
import Derived.OwnWalk
import Derived.ChangeSame
import Derived.PlainAid
namespace Go.Proofs.YtphhijelneaedaaDoor
open Go.RowKit
def Blk (w:World) (g:Nat) (t:TypeId) (cs:Array Value):Prop:=w.heap[g]? = some (.cells cs t (0,0))
section
variable {w w':World} {g:Nat} {t:TypeId} {cs:Array Value}
theorem Blk.lt (h:Blk w g t cs):g<w.heap.size:=by
 rcases Nat.lt_or_ge g w.heap.size with hlt | hge
 · exact hlt
 · unfold Blk at h;rw [Array.getElem?_eq_none hge] at h;cases h
theorem Blk.cell (h:Blk w g t cs) (i:Nat):w.cell? ⟨g,i,none⟩=cs[i]?:=cell_of_row w g i cs t (0,0) h
theorem Blk.new (w:World) (t:TypeId) (cs:Array Value):Blk (w.alloc (.cells cs t)) w.heap.size t cs:=heap_alloc_new w _
theorem Blk.drew (h:Blk w g t cs):Blk w.drew g t cs:=h
theorem Blk.drewN (h:Blk w g t cs) (n:Nat):Blk (w.drewN n) g t cs:=h
theorem Blk.alloc (h:Blk w g t cs) (o:Obj):Blk (w.alloc o) g t cs:=(Below.heap_alloc w o g h.lt).trans h
theorem Blk.below {B:Nat} (h:Blk w g t cs) (hb:Below B w w') (hg:g<B):Blk w' g t cs:=(hb.block g hg).trans h
theorem Blk.grown {row:Option Nat} (h:Blk w g t cs) (hb:w.grownBy w' row) (hg:some g≠row):Blk w' g t cs:=(hb.block g h.lt hg).trans h
end
def Only (g:Nat) (a w:World):Prop:=a.grownBy w (some g)
section
variable {a b w:World} {g:Nat}
theorem Only.refl (g:Nat) (a:World):Only g a a:=World.grownBy.refl a _
theorem Only.trans (h:Only g a b) (k:Only g b w):Only g a w :=
 ⟨k.os.trans h.os,k.tape.trans h.tape,k.output.trans h.output,Nat.le_trans h.size k.size,fun i hi hne=>(k.block i (Nat.lt_of_lt_of_le hi h.size) hne).trans (h.block i hi hne)⟩
theorem Only.drewN (h:Only g a w) (n:Nat):Only g a (w.drewN n):=⟨h.os,h.tape,h.output,h.size,h.block⟩
theorem Only.drew (h:Only g a w):Only g a w.drew:=⟨h.os,h.tape,h.output,h.size,h.block⟩
theorem Only.alloc (h:Only g a w) (o:Obj):Only g a (w.alloc o) :=
 ⟨h.os,h.tape,h.output,Nat.le_trans h.size (by simp),fun i hi hne=>(Below.heap_alloc w o i (Nat.lt_of_lt_of_le hi h.size)).trans (h.block i hi hne)⟩
theorem Only.setCell (h:Only g a w) {p:Addr} (hp:p.block=g\/a.heap.size<=p.block) (u:Value):Only g a (w.setCell p u) :=
 ⟨h.os,h.tape,h.output,by simpa [World.setCell] using h.size,fun i hi hne=>(Below.heap_setCell w p u i (by
   rintro rfl
   rcases hp with hp | hp
   · exact hne (by rw [hp])
   · omega)).trans (h.block i hi hne)⟩
theorem Only.below {B:Nat} (h:Only g a w) (hB:B<=a.heap.size) (hg:B<=g):Below B a w:=⟨h.os,h.tape,h.output,h.size,fun i hi=>h.block i (by omega) (by intro e;injection e with e;omega)⟩
theorem Only.cell (h:Only g a w) {q i:Nat} (hq:q<a.heap.size) (hne:q≠g):w.cell? ⟨q,i,none⟩=a.cell? ⟨q,i,none⟩ :=
 World.cell?_of_block (h.block q hq (by intro e;injection e with e;exact hne e))
theorem Only.blk (h:Only g a w) {q:Nat} {t:TypeId} {cs:Array Value} (hb:Blk a q t cs) (hne:q≠g):Blk w q t cs :=
 hb.grown h (by intro e;injection e with e;exact hne e)
end
theorem Below.blk {W w1:World} {q:Nat} {t:TypeId} {cs:Array Value} (hb:Below W.heap.size W w1) (h:Blk W q t cs):Blk w1 q t cs:=h.below hb h.lt
end Go.Proofs.YtphhijelneaedaaDoor
namespace Go.Proofs.YtphhijelneaedaaDoor
open Go.RowKit Go.ChangeShapes Go.WideShapes Go.Deep
set_option linter.unusedVariables false
def leavesB (P:Program):Nat->TypeId->List (Nat×TypeId)
 | 0,t=>[(0,t)]
 | f+1,t=>match P.underlying t with
  | some (.struct fs)=>fs.toList.flatMap fun fd=>if fd.offset+P.cellsOf fd.type<=P.cellsOf t then (leavesB P f fd.type).map fun x=>(fd.offset+x.1,x.2) else []
  | _=>[(0,t)]
section
variable {H:Type} {enc:TypeId×Value->H} {P:Program} {w:World} {base:Nat} {spare:Nat->Bool} {held:Bool}
theorem leaf_of:∀ (f:Nat) {t:TypeId} {n:Nat} {cs:List Value} {x:DataW H×List MemPlace},DataW.trod enc P w base spare held n t cs=some x->cs.length=P.cellsOf t ->
  ∀ ol∈leavesB P f t,ol.1+P.cellsOf ol.2<=cs.length/\∃ n' y,DataW.trod enc P w base spare held n' ol.2 ((cs.drop ol.1).take (P.cellsOf ol.2))=some y
 | 0,t,n,cs,x,h,hl,ol,hm=>by
  simp only [leavesB,List.mem_singleton] at hm
  subst hm
  exact ⟨by simp [hl],n,x,by rw [<-hl];simpa using h⟩
 | f+1,t,n,cs,x,h,hl,ol,hm=>by
  have plain:ol=(0,t)->ol.1+P.cellsOf ol.2<=cs.length/\∃ n' y,DataW.trod enc P w base spare held n' ol.2 ((cs.drop ol.1).take (P.cellsOf ol.2))=some y:=fun e=>by
   subst e
   exact ⟨by simp [hl],n,x,by rw [<-hl];simpa using h⟩
  unfold leavesB at hm
  split at hm
  · rename_i fs hu
    obtain ⟨fd,hfd,hm2⟩:=List.mem_flatMap.1 hm
    by_cases hle:fd.offset+P.cellsOf fd.type<=P.cellsOf t
    · rw [if_pos hle] at hm2
      obtain ⟨x2,hx2,rfl⟩:=List.mem_map.1 hm2
      obtain ⟨ys,n2,_,_,_,hyl,hf⟩:=DataW.trod_struct hu h
      obtain ⟨i,hi,he⟩:=List.getElem_of_mem hfd
      have hi':fs[i]? = some fd:=by
       rw [<-he,<-Array.getElem?_toList]
       exact List.getElem?_eq_getElem hi
      have h1:=hf i fd hi'
      have hyi:i<ys.length:=by rw [hyl];simpa using hi
      rw [List.getElem?_eq_getElem hyi] at h1
      have hl2:((cs.drop fd.offset).take (P.cellsOf fd.type)).length=P.cellsOf fd.type:=by simp;omega
      obtain ⟨g1,n3,y3,g2⟩:=leaf_of f h1 hl2 x2 hx2
      rw [hl2] at g1
      refine ⟨by simp only;omega,n3,y3,?_⟩
      rw [<-g2]
      congr 1
      rw [List.drop_take,List.take_take,List.drop_drop,Nat.min_eq_left (by omega)]
    · rw [if_neg hle] at hm2
      cases hm2
  · exact plain (by simpa using hm)
theorem leaf_at {t:TypeId} {n:Nat} {cs:List Value} {x:DataW H×List MemPlace} (h:DataW.trod enc P w base spare held n t cs=some x) (hl:cs.length=P.cellsOf t) (f i o:Nat) (lt:TypeId) (hi:(leavesB P f t)[i]? = some (o,lt)) (h1:P.cellsOf lt=1) :
  ∃ v n' y,cs[o]? = some v/\DataW.trod enc P w base spare held n' lt [v]=some y:=by
 obtain ⟨g1,n',y,g2⟩:=leaf_of f h hl (o,lt) (List.mem_of_getElem? hi)
 simp only [h1] at g1 g2
 have ho:o<cs.length:=by omega
 refine ⟨cs[o],n',y,List.getElem?_eq_getElem ho,?_⟩
 rw [<-g2,List.drop_eq_getElem_cons ho]
 rfl
theorem int_at {t:TypeId} {n:Nat} {cs:List Value} {x:DataW H×List MemPlace} (h:DataW.trod enc P w base spare held n t cs=some x) (hl:cs.length=P.cellsOf t) (f i o:Nat) (lt:TypeId) (k:IntKind) (hi:(leavesB P f t)[i]? = some (o,lt)) (h1:P.cellsOf lt=1) (hu:P.underlying lt=some (.int k)) :
  ∃ a:Int,cs[o]? = some (.int k a)/\(Lit.int k a).wf=true:=by
 obtain ⟨v,n',y,g1,g2⟩:=leaf_at h hl f i o lt hi h1
 obtain ⟨a,e,_,wf⟩:=DataW.trod_int hu g2
 simp at e
 subst e
 exact ⟨a,g1,wf⟩
structure Elems (enc:TypeId×Value->H) (P:Program) (w:World) (e:TypeId) (C:Nat) (A:Option Addr) (len cap:Nat):Prop where
 le:len<=cap
 max:cap<=maxLen
 nil:A=none->len=0
 at_:∀ i,i<len->∃ (b off:Nat) (cs:List Value) (n:Nat) (y:DataW H×List MemPlace),A=some ⟨b,off,none⟩/\b<w.heap.size/\cs.length=C/\(∀ o v,cs[o]? = some v->w.cell? ⟨b,off+i * C+o,none⟩=some v)/\DataW.trod enc P w 0 (fun _=>true) true n e cs=some y
theorem elems_of_cell {t e:TypeId} {C:Nat} {n:Nat} {cs:List Value} {x:DataW H×List MemPlace} (ht:P.underlying t=some (.slice e)) (hC:P.cellsOf e=C) (hC0:0<C) (h:DataW.trod enc P w 0 (fun _=>true) true n t cs=some x) :
  ∃ A len cap,cs=[.slice A len cap]/\Elems enc P w e C A len cap:=by
 rcases open_slice ht h with ⟨rfl,_⟩ | ⟨a,len,cap,m,n',D,Pl,rfl,hb,hl,hm,hmm,_,hi⟩
 · exact ⟨none,0,0,rfl,⟨Nat.le_refl _,Nat.zero_le _,fun _=>rfl,fun i h=>absurd h (by omega)⟩⟩
 · refine ⟨some a,len,cap,rfl,⟨hl,hm,fun h=>(by cases h),fun i him=>?_⟩⟩
   have him':i<m:=by rw [hmm,if_pos rfl];omega
   obtain ⟨cs',hc,ht'⟩:=hi i him'
   rw [hC] at hc
   obtain ⟨_,hcl,hat⟩:=World.cells?_some hc
   have h0:=hat 0 hC0
   rw [List.getElem?_eq_getElem (l:=cs') (i:=0) (by omega)] at h0
   have hlt:=World.block_lt_of_cell? w _ h0
   have hz:0<m:=by omega
   obtain ⟨cz,hcz,_⟩:=hi 0 hz
   rw [hC] at hcz
   obtain ⟨_,hczl,hatz⟩:=World.cells?_some hcz
   have h0z:=hatz 0 hC0
   rw [List.getElem?_eq_getElem (l:=cz) (i:=0) (by omega)] at h0z
   have hsp:=World.cell?_spot h0z
   obtain ⟨b,off,spot⟩:=a
   have hblk:∀ (p:Addr) (k:Nat),(p.add k).block=p.block:=fun p k=>by unfold Addr.add;split<;>rfl
   rw [hblk,hblk] at hlt
   have hspot:spot=none:=by simpa [Addr.add] using hsp
   subst hspot
   have hadd:∀ k l:Nat,((Addr.mk b off none).add k).add l=⟨b,off+k+l,none⟩:=fun k l=>by
    unfold Addr.add
    by_cases hk:k=0<;>by_cases hl:l=0<;>simp [hk,hl]
   refine ⟨b,off,cs',n',_,rfl,hlt,hcl,fun o v hv=>?_,ht'⟩
   have ho:o<C:=by rw [<-hcl];exact (List.getElem?_eq_some_iff.1 hv).1
   have:=hat o ho
   rw [hadd] at this
   rw [this,hv]
theorem elems_of {t e:TypeId} {C:Nat} {r:Reach} {b0:Nat} {v:Value} {d:DataW H} {p:List MemPlace} (ht:P.underlying t=some (.slice e)) (hC:P.cellsOf e=C) (hC0:0<C) (hv:Value.okWide P w r b0 t v) (h:DataW.Trod enc P w 0 (fun _=>true) true t v d p) :
  ∃ A len cap,v = .slice A len cap/\Elems enc P w e C A len cap:=by
 obtain ⟨A,len,cap,rfl⟩:=okWide_slice ht hv
 obtain ⟨n,hn⟩:=h
 obtain ⟨A',len',cap',he,hE⟩:=elems_of_cell ht hC hC0 hn
 simp [Value.cells] at he
 obtain ⟨rfl,rfl,rfl⟩:=he
 exact ⟨_,_,_,rfl,hE⟩
end
end Go.Proofs.YtphhijelneaedaaDoor
