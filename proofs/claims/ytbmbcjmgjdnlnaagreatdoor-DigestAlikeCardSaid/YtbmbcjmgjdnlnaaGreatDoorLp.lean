/- Loops as plain functions: all, the first, those that, folds; tables as data. No statement of the program. -/
import Derived.Test.YtbmbcjmgjdnlnaaGreatDoorEn
namespace Go.Proofs.YtbmbcjmgjdnlnaaGreatDoor
open Go.RowKit
set_option linter.unusedSimpArgs false
set_option linter.unusedVariables false
set_option linter.unusedSectionVars false
def allK (p:Nat->Bool) (k:Nat):Bool:=(List.range k).all p
theorem allK_more (p:Nat->Bool) (k:Nat):allK p (k+1)=(allK p k&&p k):=by simp [allK,List.range_succ]
theorem allK_next {p:Nat->Bool} {k:Nat} (h:allK p k=true) (hk:p k=true):allK p (k+1)=true:=by rw [allK_more,h,hk];rfl
theorem allK_not {p:Nat->Bool} {k n:Nat} (hk:p k=false) (h:k<n):allK p n=false:=by
 cases ha:allK p n with
 | false=>rfl
 | true =>
  have:=List.all_eq_true.1 ha k (List.mem_range.2 h)
  rw [hk] at this;cases this
theorem allK_iff {p:Nat->Bool} {n:Nat}:allK p n=true↔∀ k,k<n->p k=true:=by
 simp [allK,List.all_eq_true]
def anyK (p:Nat->Bool) (k:Nat):Bool:=(List.range k).any p
theorem anyK_more (p:Nat->Bool) (k:Nat):anyK p (k+1)=(anyK p k||p k):=by simp [anyK,List.range_succ]
theorem anyK_next {p:Nat->Bool} {k:Nat} (h:anyK p k=false) (hk:p k=false):anyK p (k+1)=false:=by rw [anyK_more,h,hk];rfl
theorem anyK_at {p:Nat->Bool} {k n:Nat} (hk:p k=true) (h:k<n):anyK p n=true:=List.any_eq_true.2 ⟨k,List.mem_range.2 h,hk⟩
def firstK (p:Nat->Bool):Nat->Nat->Nat
 | 0,k=>k
 | n+1,k=>if p k=true then k else firstK p n (k+1)
theorem firstK_at (p:Nat->Bool):∀ (n k j:Nat),k<=j->j<k+n->(∀ i,k<=i->i<j->p i=false)->p j=true->firstK p n k=j
 | 0,k,j,h1,h2,_,_=>by omega
 | n+1,k,j,h1,h2,h3,h4=>by
  unfold firstK
  by_cases hk:k=j
  · subst hk;rw [if_pos h4]
  · rw [if_neg (by rw [h3 k (Nat.le_refl _) (by omega)];exact Bool.false_ne_true)]
    exact firstK_at p n (k+1) j (by omega) (by omega) (fun i hi hj=>h3 i (by omega) hj) h4
theorem firstK_no (p:Nat->Bool):∀ (n k:Nat),(∀ i,k<=i->i<k+n->p i=false)->firstK p n k=k+n
 | 0,k,_=>rfl
 | n+1,k,h=>by
  unfold firstK
  rw [if_neg (by rw [h k (Nat.le_refl _) (by omega)];exact Bool.false_ne_true),firstK_no p n (k+1) (fun i hi hj=>h i (by omega) (by omega))]
  omega
theorem firstK_le (p:Nat->Bool):∀ (n k:Nat),firstK p n k<=k+n/\k<=firstK p n k/\(∀ i,k<=i->i<firstK p n k->p i=false)/\(firstK p n k<k+n->p (firstK p n k)=true)
 | 0,k=>⟨Nat.le_refl _,Nat.le_refl _,fun i h1 h2=>by simp only [firstK] at h2;omega,fun h=>by simp only [firstK] at h;omega⟩
 | n+1,k=>by
  unfold firstK
  by_cases hp:p k=true
  · rw [if_pos hp];exact ⟨by omega,Nat.le_refl _,fun i h1 h2=>by omega,fun _=>hp⟩
  · rw [if_neg hp]
    obtain ⟨h1,h2,h3,h4⟩:=firstK_le p n (k+1)
    refine ⟨by omega,by omega,fun i hi hj=>?_,fun h=>h4 (by omega)⟩
    by_cases hk:i=k
    · subst hk;simpa using hp
    · exact h3 i (by omega) hj
section
variable {α:Type} [Inhabited α]
theorem take_more (l:List α) (k:Nat) (h:k<l.length):l.take (k+1)=l.take k++[l.getD k default]:=by
 rw [List.take_add_one];simp [List.getD_eq_getElem?_getD,h]
theorem drop_more (l:List α) (k:Nat) (h:k<l.length):l.drop k=l.getD k default::l.drop (k+1):=by
 rw [List.drop_eq_getElem_cons h];simp [List.getD_eq_getElem?_getD,h]
theorem filter_yes {p:α->Bool} {l:List α} {k:Nat} (h:k<l.length) (hp:p (l.getD k default)=true):(l.take (k+1)).filter p=(l.take k).filter p++[l.getD k default]:=by
 rw [take_more l k h,List.filter_append,List.filter_cons_of_pos hp,List.filter_nil]
theorem filter_no {p:α->Bool} {l:List α} {k:Nat} (h:k<l.length) (hp:p (l.getD k default)=false):(l.take (k+1)).filter p=(l.take k).filter p:=by
 rw [take_more l k h,List.filter_append,List.filter_cons_of_neg (by rw [hp];exact Bool.false_ne_true),List.filter_nil,List.append_nil]
theorem filter_len {p:α->Bool} (l:List α) (k:Nat):((l.take k).filter p).length<=k:=Nat.le_trans (List.length_filter_le _ _) (by rw [List.length_take];omega)
theorem foldl_more {β:Type} (f:β->α->β) (b:β) {l:List α} {k:Nat} (h:k<l.length):(l.take (k+1)).foldl f b=f ((l.take k).foldl f b) (l.getD k default):=by
 rw [take_more l k h,List.foldl_append];rfl
end
abbrev Str:=List UInt8
structure TDot where
 node:Int
 epoch:Int
 n:Int
 deriving DecidableEq,Inhabited
structure TFence where
 node:Int
 epoch:Int
 deriving DecidableEq,Inhabited
structure TRoute where
 dot:TDot
 filter:Str
 deriving DecidableEq,Inhabited
structure TStamp where
 l:Int
 c:Int
 node:Int
 deriving DecidableEq,Inhabited
structure TCell where
 dot:TDot
 stamp:TStamp
 topic:Str
 payload:Str
 qos:Int
 gone:Bool
 deriving DecidableEq,Inhabited
structure TTable where
 seen:List TDot
 fences:List TFence
 routes:List TRoute
 cells:List TCell
 deriving DecidableEq,Inhabited
def encDot (d:TDot):V:=.agg [.int .i64 d.node, .int .i64 d.epoch, .int .i64 d.n]
def encFence (f:TFence):V:=.agg [.int .i64 f.node, .int .i64 f.epoch]
def encRoute (r:TRoute):V:=.agg [.int .i64 r.dot.node, .int .i64 r.dot.epoch, .int .i64 r.dot.n, .str r.filter]
def encCell (c:TCell):V:=.agg [.int .i64 c.dot.node, .int .i64 c.dot.epoch, .int .i64 c.dot.n, .int .i64 c.stamp.l, .int .i64 c.stamp.c, .int .i64 c.stamp.node, .str c.topic, .sl (c.payload.map u8), .int .i64 c.qos, .bool c.gone]
def encTable (t:TTable):V:=.agg [.sl (t.seen.map encDot), .sl (t.fences.map encFence), .sl (t.routes.map encRoute), .sl (t.cells.map encCell)]
def pairB (node epoch:Int):Bool:=decide (0<=node)&&decide (node<16)&&decide (1<=epoch)
def before (a b:TDot):Bool:=if a.node≠b.node then decide (a.node<b.node) else if a.epoch≠b.epoch then decide (a.epoch<b.epoch) else decide (a.n<b.n)
def ahead (a b:TDot):Bool:=decide (a.node<b.node)||(a.node==b.node&&decide (a.epoch<b.epoch))
def dotOk (l:List TDot) (i:Nat):Bool:=pairB (l.getD i default).node (l.getD i default).epoch&&decide (1<=(l.getD i default).n)&&(decide (i=0)||ahead (l.getD (i - 1) default) (l.getD i default))
def rightB (l:List TDot):Bool:=allK (dotOk l) l.length
def isAt (l:List TDot) (node epoch:Int) (i:Nat):Bool:=(l.getD i default).node==node&&(l.getD i default).epoch==epoch
def topM (l:List TDot) (node epoch:Int):Int:=if rightB l=true/\firstK (isAt l node epoch) l.length 0<l.length then (l.getD (firstK (isAt l node epoch) l.length 0) default).n else 0
def hasB (l:List TDot) (d:TDot):Bool:=decide (1<=d.n)&&decide (d.n<=topM l d.node d.epoch)
def oneB (d:TDot):Bool:=pairB d.node d.epoch&&decide (1<=d.n)
def placeD (l:List TDot) (d:TDot):Nat:=firstK (fun i=>!ahead (l.getD i default) d) l.length 0
def putD (l:List TDot) (d:TDot):List TDot :=
 if placeD l d<l.length/\ahead d (l.getD (placeD l d) default)=false then l.set (placeD l d) { l.getD (placeD l d) default with n:=d.n }
 else l.take (placeD l d)++(d::l.drop (placeD l d))
def addM (l:List TDot) (d:TDot):List TDot:=if rightB l=true then (if oneB d=true/\hasB l d=false then putD l d else l) else []
def joinM (a b:List TDot):List TDot:=if rightB a=true/\rightB b=true then b.foldl addM a else []
end Go.Proofs.YtbmbcjmgjdnlnaaGreatDoor
