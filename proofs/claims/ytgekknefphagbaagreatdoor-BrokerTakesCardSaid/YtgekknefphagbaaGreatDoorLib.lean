/- Plain lemmas on memory that the proofs of this seat share: blocks known whole, worlds of which one block has turned, slices that read as lists. No statement of the program. -/
import Derived.Test.YtgekknefphagbaaGreatDoorRows
import Derived.WalkKit
import Derived.WalkSpells
import Derived.WalkLawsBesides
import Derived.BigQuiet
import Derived.Deep.QuietTactic
import Derived.Deep.RegionHeld3
import Derived.Deep.DeepCutAuto
import Derived.Deep.Draws
import Derived.Lib.Hide
import Derived.Lib.MinMax
import Derived.Lib.QuietBelow
import Derived.ProofKit
import Derived.OpenShut
import Derived.ShutString
import Derived.ChangeOld
import Derived.Below
import Derived.Lib.SmallJoins
import Derived.Deep.AppendLies
import Derived.Deep.RegionWith
import Derived.Maps.AppendAt
import Derived.Deep.Slices
import Derived.Deep.Fields
import Derived.Deep.Strs
import Derived.Laws.OwnMore
import Derived.Laws.Rows
import Derived.Laws.BitsAllLaws
import Derived.Laws.BitsLemmas
import Derived.Laws.ResultCell
import Derived.OwnWalk
import Derived.ChangeSame
import Derived.PlainAid
namespace Go.Proofs.YtgekknefphagbaaGreatDoor
open Go.RowKit
def Blk (w:World) (g:Nat) (t:TypeId) (cs:Array Value):Prop:=w.heap[g]? = some (.cells cs t (0,0))
section
variable {w w':World} {g:Nat} {t:TypeId} {cs:Array Value}
theorem Blk.lt (h:Blk w g t cs):g<w.heap.size:=by
 rcases Nat.lt_or_ge g w.heap.size with hlt | hge
 · exact hlt
 · unfold Blk at h;rw [Array.getElem?_eq_none hge] at h;cases h
theorem Blk.cell (h:Blk w g t cs) (i:Nat):w.cell? ⟨g,i,none⟩=cs[i]?:=cell_of_row w g i cs t (0,0) h
theorem Blk.new (w:World) (t:TypeId) (cs:Array Value):Blk (w.alloc (.cells cs t)) w.heap.size t cs:=heap_alloc_new w _
theorem Blk.drew (h:Blk w g t cs):Blk w.drew g t cs:=h
theorem Blk.drewN (h:Blk w g t cs) (n:Nat):Blk (w.drewN n) g t cs:=h
theorem Blk.alloc (h:Blk w g t cs) (o:Obj):Blk (w.alloc o) g t cs:=(Below.heap_alloc w o g h.lt).trans h
theorem Blk.below {B:Nat} (h:Blk w g t cs) (hb:Below B w w') (hg:g<B):Blk w' g t cs:=(hb.block g hg).trans h
theorem Blk.grown {row:Option Nat} (h:Blk w g t cs) (hb:w.grownBy w' row) (hg:some g≠row):Blk w' g t cs:=(hb.block g h.lt hg).trans h
end
def Only (g:Nat) (a w:World):Prop:=a.grownBy w (some g)
section
variable {a b w:World} {g:Nat}
theorem Only.refl (g:Nat) (a:World):Only g a a:=World.grownBy.refl a _
theorem Only.trans (h:Only g a b) (k:Only g b w):Only g a w :=
 ⟨k.os.trans h.os,k.tape.trans h.tape,k.output.trans h.output,Nat.le_trans h.size k.size,fun i hi hne=>(k.block i (Nat.lt_of_lt_of_le hi h.size) hne).trans (h.block i hi hne)⟩
theorem Only.drewN (h:Only g a w) (n:Nat):Only g a (w.drewN n):=⟨h.os,h.tape,h.output,h.size,h.block⟩
theorem Only.drew (h:Only g a w):Only g a w.drew:=⟨h.os,h.tape,h.output,h.size,h.block⟩
theorem Only.alloc (h:Only g a w) (o:Obj):Only g a (w.alloc o) :=
 ⟨h.os,h.tape,h.output,Nat.le_trans h.size (by simp),fun i hi hne=>(Below.heap_alloc w o i (Nat.lt_of_lt_of_le hi h.size)).trans (h.block i hi hne)⟩
theorem Only.setCell (h:Only g a w) {p:Addr} (hp:p.block=g\/a.heap.size<=p.block) (u:Value):Only g a (w.setCell p u) :=
 ⟨h.os,h.tape,h.output,by simpa [World.setCell] using h.size,fun i hi hne=>(Below.heap_setCell w p u i (by
   rintro rfl
   rcases hp with hp | hp
   · exact hne (by rw [hp])
   · omega)).trans (h.block i hi hne)⟩
theorem Only.below {B:Nat} (h:Only g a w) (hB:B<=a.heap.size) (hg:B<=g):Below B a w:=⟨h.os,h.tape,h.output,h.size,fun i hi=>h.block i (by omega) (by intro e;injection e with e;omega)⟩
theorem Only.cell (h:Only g a w) {q i:Nat} (hq:q<a.heap.size) (hne:q≠g):w.cell? ⟨q,i,none⟩=a.cell? ⟨q,i,none⟩ :=
 World.cell?_of_block (h.block q hq (by intro e;injection e with e;exact hne e))
theorem Only.blk (h:Only g a w) {q:Nat} {t:TypeId} {cs:Array Value} (hb:Blk a q t cs) (hne:q≠g):Blk w q t cs :=
 hb.grown h (by intro e;injection e with e;exact hne e)
end
theorem Below.blk {W w1:World} {q:Nat} {t:TypeId} {cs:Array Value} (hb:Below W.heap.size W w1) (h:Blk W q t cs):Blk w1 q t cs:=h.below hb h.lt
end Go.Proofs.YtgekknefphagbaaGreatDoor
namespace Go.Proofs.YtgekknefphagbaaGreatDoor
open Go.RowKit Go.ChangeShapes Go.WideShapes Go.Deep
set_option linter.unusedVariables false
section
variable {H:Type} {enc:TypeId×Value->H} {P:Program} {w:World} {base:Nat} {spare:Nat->Bool} {held:Bool}
structure Elems (enc:TypeId×Value->H) (P:Program) (w:World) (e:TypeId) (C:Nat) (A:Option Addr) (len cap:Nat):Prop where
 le:len<=cap
 max:cap<=maxLen
 nil:A=none->len=0
 at_:∀ i,i<len->∃ (b off:Nat) (cs:List Value) (n:Nat) (y:DataW H×List MemPlace),A=some ⟨b,off,none⟩/\b<w.heap.size/\cs.length=C/\(∀ o v,cs[o]? = some v->w.cell? ⟨b,off+i * C+o,none⟩=some v)/\DataW.trod enc P w 0 (fun _=>true) true n e cs=some y
end
end Go.Proofs.YtgekknefphagbaaGreatDoor
