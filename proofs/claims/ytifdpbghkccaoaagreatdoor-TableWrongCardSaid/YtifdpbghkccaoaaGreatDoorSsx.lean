/- strings.Builder, strings.Join, numbers as digits, as they lie in this program (printed by the kit). -/
import Derived.Shelf.Strings.BuilderK
import Derived.Shelf.Strings.OnBuilder
import Derived.Shelf.Strconv.Itoa4
import Derived.Test.YtifdpbghkccaoaaGreatDoorProg
import Derived.Test.YtifdpbghkccaoaaGreatDoorEn
import Derived.KernelRfl
import Derived.Shelf.SlSortCmp.WholeK
import Derived.Shelf.Strings.Split
import Derived.Test.YtifdpbghkccaoaaGreatDoorEf
import Derived.Test.YtifdpbghkccaoaaGreatDoorLib
namespace Go.Proofs.YtifdpbghkccaoaaGreatDoor
open Go.Shelf Go.RowKit
set_option linter.unusedVariables false
section
def layJoin_ren:Go.Shelf.Ren:=⟨fun | 156=>65 | 165=>112 | 166=>60 | 169=>63 | 240=>107 | 241=>155 | 276=>144 | 277=>183 | n=>n,fun | 31=>92 | 9=>9 | 3=>3 | 4=>4 | 0=>0 | 20=>20 | 72=>97 | 76=>100 | 70=>95 | 37=>44 | 75=>99 | 127=>143 | 164=>171 | 5=>5 | 80=>104 | n=>n,fun | n=>n⟩
theorem layJoin:Go.Proofs.Lays.n156 Tryz.prog layJoin_ren:={
 mixed:=by kernel_rfl
 f156:=Tryz.func65.trans (congrArg some (by kernel_rfl))
 f165:=Tryz.func112.trans (congrArg some (by kernel_rfl))
 f166:=Tryz.func60.trans (congrArg some (by kernel_rfl))
 f169:=Tryz.func63.trans (congrArg some (by kernel_rfl))
 f240:=Tryz.func107.trans (congrArg some (by kernel_rfl))
 f241:=Tryz.func155.trans (congrArg some (by kernel_rfl))
 f276:=Tryz.func144.trans (congrArg some (by kernel_rfl))
 f277:=Tryz.func183.trans (congrArg some (by kernel_rfl))
 t0:=Tryz.underlying0
 a0:=Tryz.isAgg0
 z0:=Tryz.sizeOf0
 v0:=Tryz.zeroValue0
 t3:=Tryz.underlying3
 a3:=Tryz.isAgg3
 z3:=Tryz.sizeOf3
 v3:=Tryz.zeroValue3
 t4:=Tryz.underlying4
 a4:=Tryz.isAgg4
 z4:=Tryz.sizeOf4
 v4:=Tryz.zeroValue4
 t9:=Tryz.underlying9
 a9:=Tryz.isAgg9
 z9:=Tryz.sizeOf9
 v9:=Tryz.zeroValue9
 t20:=Tryz.underlying20
 a20:=Tryz.isAgg20
 z20:=Tryz.sizeOf20
 v20:=Tryz.zeroValue20
 t31:=Tryz.underlying92
 a31:=Tryz.isAgg92
 z31:=Tryz.sizeOf92
 v31:=Tryz.zeroValue92
 t37:=Tryz.underlying44
 a37:=Tryz.isAgg44
 z37:=Tryz.sizeOf44
 v37:=Tryz.zeroValue44
 t70:=Tryz.underlying95
 a70:=Tryz.isAgg95
 z70:=Tryz.sizeOf95
 v70:=Tryz.zeroValue95
 t72:=Tryz.underlying97
 a72:=Tryz.isAgg97
 z72:=Tryz.sizeOf97
 v72:=Tryz.zeroValue97
 t75:=Tryz.underlying99
 a75:=Tryz.isAgg99
 z75:=Tryz.sizeOf99
 v75:=Tryz.zeroValue99
 t76:=Tryz.underlying100
 a76:=Tryz.isAgg100
 z76:=Tryz.sizeOf100
 v76:=Tryz.zeroValue100
 t127:=Tryz.underlying143
 a127:=Tryz.isAgg143
 z127:=Tryz.sizeOf143
 v127:=Tryz.zeroValue143
 t164:=Tryz.underlying171
 a164:=Tryz.isAgg171
 z164:=Tryz.sizeOf171
 v164:=Tryz.zeroValue171 }
def layIt_ren:Go.Shelf.Ren:=⟨fun | 171=>109 | 243=>145 | 246=>179 | 283=>195 | 284=>196 | 285=>197 | 286=>198 | 129=>136 | 317=>206 | 318=>207 | 319=>208 | 320=>209 | 337=>215 | 338=>216 | n=>n,fun | 3=>3 | 9=>9 | 2=>2 | 4=>4 | 171=>211 | 0=>0 | 53=>165 | 37=>44 | 5=>5 | 173=>213 | 212=>227 | 51=>163 | 20=>20 | 213=>228 | 46=>130 | 232=>231 | 233=>232 | n=>n,fun | 17=>3 | 18=>4 | 19=>5 | n=>n⟩
theorem layIt:Go.Proofs.LaysM.n171 Tryz.prog layIt_ren:={
 mixed:=by kernel_rfl
 f129:=Tryz.func136.trans (congrArg some (by kernel_rfl))
 f171:=Tryz.func109.trans (congrArg some (by kernel_rfl))
 f243:=Tryz.func145.trans (congrArg some (by kernel_rfl))
 f246:=Tryz.func179.trans (congrArg some (by kernel_rfl))
 f283:=Tryz.func195.trans (congrArg some (by kernel_rfl))
 f284:=Tryz.func196.trans (congrArg some (by kernel_rfl))
 f285:=Tryz.func197.trans (congrArg some (by kernel_rfl))
 f286:=Tryz.func198.trans (congrArg some (by kernel_rfl))
 f317:=Tryz.func206.trans (congrArg some (by kernel_rfl))
 f318:=Tryz.func207.trans (congrArg some (by kernel_rfl))
 f319:=Tryz.func208.trans (congrArg some (by kernel_rfl))
 f320:=Tryz.func209.trans (congrArg some (by kernel_rfl))
 f337:=Tryz.func215.trans (congrArg some (by kernel_rfl))
 f338:=Tryz.func216.trans (congrArg some (by kernel_rfl))
 t0:=Tryz.underlying0
 a0:=Tryz.isAgg0
 z0:=Tryz.sizeOf0
 v0:=Tryz.zeroValue0
 t2:=Tryz.underlying2
 a2:=Tryz.isAgg2
 z2:=Tryz.sizeOf2
 v2:=Tryz.zeroValue2
 t3:=Tryz.underlying3
 a3:=Tryz.isAgg3
 z3:=Tryz.sizeOf3
 v3:=Tryz.zeroValue3
 t4:=Tryz.underlying4
 a4:=Tryz.isAgg4
 z4:=Tryz.sizeOf4
 v4:=Tryz.zeroValue4
 t5:=Tryz.underlying5
 a5:=Tryz.isAgg5
 z5:=Tryz.sizeOf5
 v5:=Tryz.zeroValue5
 t9:=Tryz.underlying9
 a9:=Tryz.isAgg9
 z9:=Tryz.sizeOf9
 v9:=Tryz.zeroValue9
 t20:=Tryz.underlying20
 a20:=Tryz.isAgg20
 z20:=Tryz.sizeOf20
 v20:=Tryz.zeroValue20
 t37:=Tryz.underlying44
 a37:=Tryz.isAgg44
 z37:=Tryz.sizeOf44
 v37:=Tryz.zeroValue44
 t46:=Tryz.underlying130
 a46:=Tryz.isAgg130
 z46:=Tryz.sizeOf130
 v46:=Tryz.zeroValue130
 t51:=Tryz.underlying163
 a51:=Tryz.isAgg163
 z51:=Tryz.sizeOf163
 v51:=Tryz.zeroValue163
 t53:=Tryz.underlying165
 a53:=Tryz.isAgg165
 z53:=Tryz.sizeOf165
 v53:=Tryz.zeroValue165
 t171:=Tryz.underlying211
 a171:=Tryz.isAgg211
 z171:=Tryz.sizeOf211
 v171:=Tryz.zeroValue211
 t173:=Tryz.underlying213
 a173:=Tryz.isAgg213
 z173:=Tryz.sizeOf213
 v173:=Tryz.zeroValue213
 t212:=Tryz.underlying227
 a212:=Tryz.isAgg227
 z212:=Tryz.sizeOf227
 v212:=Tryz.zeroValue227
 t213:=Tryz.underlying228
 a213:=Tryz.isAgg228
 z213:=Tryz.sizeOf228
 t232:=Tryz.underlying231
 a232:=Tryz.isAgg231
 z232:=Tryz.sizeOf231
 v232:=Tryz.zeroValue231
 t233:=Tryz.underlying232
 a233:=Tryz.isAgg232
 z233:=Tryz.sizeOf232
 v233:=Tryz.zeroValue232
 g17:=by kernel_rfl
 g18:=by kernel_rfl
 g19:=by kernel_rfl
 i0:=by kernel_rfl
 i2:=by kernel_rfl
 i3:=by kernel_rfl
 i4:=by kernel_rfl
 i5:=by kernel_rfl
 i9:=by kernel_rfl
 i20:=by kernel_rfl
 i37:=by kernel_rfl
 i46:=by kernel_rfl
 i51:=by kernel_rfl
 i53:=by kernel_rfl
 i171:=by kernel_rfl
 i173:=by kernel_rfl
 i212:=by kernel_rfl
 i232:=by kernel_rfl
 i233:=by kernel_rfl
 m17:=by kernel_rfl
 m18:=by kernel_rfl
 m19:=by kernel_rfl }
end
section
open Go.RowKit
set_option linter.unusedSimpArgs false
set_option linter.unusedSectionVars false
set_option maxHeartbeats 4000000
set_option maxRecDepth 100000
attribute [local irreducible] DW SeqD DV DOp DC DVX
theorem getD_drop' (l:List V) (n i:Nat) (d:V):(l.drop n).getD i d=l.getD (n+i) d:=by simp [List.getD_eq_getElem?_getD,List.getElem?_drop]
end
section
open Go.RowKit
set_option linter.unusedSimpArgs false
set_option linter.unusedSectionVars false
def allK (p:Nat->Bool) (k:Nat):Bool:=(List.range k).all p
theorem allK_more (p:Nat->Bool) (k:Nat):allK p (k+1)=(allK p k&&p k):=by simp [allK,List.range_succ]
theorem allK_next {p:Nat->Bool} {k:Nat} (h:allK p k=true) (hk:p k=true):allK p (k+1)=true:=by rw [allK_more,h,hk];rfl
theorem allK_not {p:Nat->Bool} {k n:Nat} (hk:p k=false) (h:k<n):allK p n=false:=by
 cases ha:allK p n with
 | false=>rfl
 | true =>
  have:=List.all_eq_true.1 ha k (List.mem_range.2 h)
  rw [hk] at this;cases this
theorem allK_iff {p:Nat->Bool} {n:Nat}:allK p n=true↔∀ k,k<n->p k=true:=by
 simp [allK,List.all_eq_true]
def anyK (p:Nat->Bool) (k:Nat):Bool:=(List.range k).any p
theorem anyK_more (p:Nat->Bool) (k:Nat):anyK p (k+1)=(anyK p k||p k):=by simp [anyK,List.range_succ]
theorem anyK_next {p:Nat->Bool} {k:Nat} (h:anyK p k=false) (hk:p k=false):anyK p (k+1)=false:=by rw [anyK_more,h,hk];rfl
theorem anyK_at {p:Nat->Bool} {k n:Nat} (hk:p k=true) (h:k<n):anyK p n=true:=List.any_eq_true.2 ⟨k,List.mem_range.2 h,hk⟩
def firstK (p:Nat->Bool):Nat->Nat->Nat
 | 0,k=>k
 | n+1,k=>if p k=true then k else firstK p n (k+1)
theorem firstK_at (p:Nat->Bool):∀ (n k j:Nat),k<=j->j<k+n->(∀ i,k<=i->i<j->p i=false)->p j=true->firstK p n k=j
 | 0,k,j,h1,h2,_,_=>by omega
 | n+1,k,j,h1,h2,h3,h4=>by
  unfold firstK
  by_cases hk:k=j
  · subst hk;rw [if_pos h4]
  · rw [if_neg (by rw [h3 k (Nat.le_refl _) (by omega)];exact Bool.false_ne_true)]
    exact firstK_at p n (k+1) j (by omega) (by omega) (fun i hi hj=>h3 i (by omega) hj) h4
theorem firstK_no (p:Nat->Bool):∀ (n k:Nat),(∀ i,k<=i->i<k+n->p i=false)->firstK p n k=k+n
 | 0,k,_=>rfl
 | n+1,k,h=>by
  unfold firstK
  rw [if_neg (by rw [h k (Nat.le_refl _) (by omega)];exact Bool.false_ne_true),firstK_no p n (k+1) (fun i hi hj=>h i (by omega) (by omega))]
  omega
theorem firstK_le (p:Nat->Bool):∀ (n k:Nat),firstK p n k<=k+n/\k<=firstK p n k/\(∀ i,k<=i->i<firstK p n k->p i=false)/\(firstK p n k<k+n->p (firstK p n k)=true)
 | 0,k=>⟨Nat.le_refl _,Nat.le_refl _,fun i h1 h2=>by simp only [firstK] at h2;omega,fun h=>by simp only [firstK] at h;omega⟩
 | n+1,k=>by
  unfold firstK
  by_cases hp:p k=true
  · rw [if_pos hp];exact ⟨by omega,Nat.le_refl _,fun i h1 h2=>by omega,fun _=>hp⟩
  · rw [if_neg hp]
    obtain ⟨h1,h2,h3,h4⟩:=firstK_le p n (k+1)
    refine ⟨by omega,by omega,fun i hi hj=>?_,fun h=>h4 (by omega)⟩
    by_cases hk:i=k
    · subst hk;simpa using hp
    · exact h3 i (by omega) hj
section
variable {α:Type} [Inhabited α]
theorem take_more (l:List α) (k:Nat) (h:k<l.length):l.take (k+1)=l.take k++[l.getD k default]:=by
 rw [List.take_add_one];simp [List.getD_eq_getElem?_getD,h]
theorem drop_more (l:List α) (k:Nat) (h:k<l.length):l.drop k=l.getD k default::l.drop (k+1):=by
 rw [List.drop_eq_getElem_cons h];simp [List.getD_eq_getElem?_getD,h]
theorem filter_yes {p:α->Bool} {l:List α} {k:Nat} (h:k<l.length) (hp:p (l.getD k default)=true):(l.take (k+1)).filter p=(l.take k).filter p++[l.getD k default]:=by
 rw [take_more l k h,List.filter_append,List.filter_cons_of_pos hp,List.filter_nil]
theorem filter_no {p:α->Bool} {l:List α} {k:Nat} (h:k<l.length) (hp:p (l.getD k default)=false):(l.take (k+1)).filter p=(l.take k).filter p:=by
 rw [take_more l k h,List.filter_append,List.filter_cons_of_neg (by rw [hp];exact Bool.false_ne_true),List.filter_nil,List.append_nil]
theorem filter_len {p:α->Bool} (l:List α) (k:Nat):((l.take k).filter p).length<=k:=Nat.le_trans (List.length_filter_le _ _) (by rw [List.length_take];omega)
theorem foldl_more {β:Type} (f:β->α->β) (b:β) {l:List α} {k:Nat} (h:k<l.length):(l.take (k+1)).foldl f b=f ((l.take k).foldl f b) (l.getD k default):=by
 rw [take_more l k h,List.foldl_append];rfl
end
abbrev Str:=List UInt8
structure TDot where
 node:Int
 epoch:Int
 n:Int
 deriving DecidableEq,Inhabited
structure TFence where
 node:Int
 epoch:Int
 deriving DecidableEq,Inhabited
structure TRoute where
 dot:TDot
 filter:Str
 deriving DecidableEq,Inhabited
structure TStamp where
 l:Int
 c:Int
 node:Int
 deriving DecidableEq,Inhabited
structure TCell where
 dot:TDot
 stamp:TStamp
 topic:Str
 payload:Str
 qos:Int
 gone:Bool
 deriving DecidableEq,Inhabited
structure TTable where
 seen:List TDot
 fences:List TFence
 routes:List TRoute
 cells:List TCell
 deriving DecidableEq,Inhabited
def encDot (d:TDot):V:=.agg [.int .i64 d.node, .int .i64 d.epoch, .int .i64 d.n]
def encFence (f:TFence):V:=.agg [.int .i64 f.node, .int .i64 f.epoch]
def encRoute (r:TRoute):V:=.agg [.int .i64 r.dot.node, .int .i64 r.dot.epoch, .int .i64 r.dot.n, .str r.filter]
def encCell (c:TCell):V:=.agg [.int .i64 c.dot.node, .int .i64 c.dot.epoch, .int .i64 c.dot.n, .int .i64 c.stamp.l, .int .i64 c.stamp.c, .int .i64 c.stamp.node, .str c.topic, .sl (c.payload.map u8), .int .i64 c.qos, .bool c.gone]
def encTable (t:TTable):V:=.agg [.sl (t.seen.map encDot), .sl (t.fences.map encFence), .sl (t.routes.map encRoute), .sl (t.cells.map encCell)]
def pairB (node epoch:Int):Bool:=decide (0<=node)&&decide (node<16)&&decide (1<=epoch)
def before (a b:TDot):Bool:=if a.node≠b.node then decide (a.node<b.node) else if a.epoch≠b.epoch then decide (a.epoch<b.epoch) else decide (a.n<b.n)
def ahead (a b:TDot):Bool:=decide (a.node<b.node)||(a.node==b.node&&decide (a.epoch<b.epoch))
def dotOk (l:List TDot) (i:Nat):Bool:=pairB (l.getD i default).node (l.getD i default).epoch&&decide (1<=(l.getD i default).n)&&(decide (i=0)||ahead (l.getD (i - 1) default) (l.getD i default))
def rightB (l:List TDot):Bool:=allK (dotOk l) l.length
def isAt (l:List TDot) (node epoch:Int) (i:Nat):Bool:=(l.getD i default).node==node&&(l.getD i default).epoch==epoch
def topM (l:List TDot) (node epoch:Int):Int:=if rightB l=true/\firstK (isAt l node epoch) l.length 0<l.length then (l.getD (firstK (isAt l node epoch) l.length 0) default).n else 0
def hasB (l:List TDot) (d:TDot):Bool:=decide (1<=d.n)&&decide (d.n<=topM l d.node d.epoch)
def oneB (d:TDot):Bool:=pairB d.node d.epoch&&decide (1<=d.n)
def placeD (l:List TDot) (d:TDot):Nat:=firstK (fun i=>!ahead (l.getD i default) d) l.length 0
def putD (l:List TDot) (d:TDot):List TDot :=
 if placeD l d<l.length/\ahead d (l.getD (placeD l d) default)=false then l.set (placeD l d) { l.getD (placeD l d) default with n:=d.n }
 else l.take (placeD l d)++(d::l.drop (placeD l d))
def addM (l:List TDot) (d:TDot):List TDot:=if rightB l=true then (if oneB d=true/\hasB l d=false then putD l d else l) else []
def joinM (a b:List TDot):List TDot:=if rightB a=true/\rightB b=true then b.foldl addM a else []
end
section
open Go.RowKit
set_option linter.unusedSimpArgs false
set_option linter.unusedSectionVars false
set_option maxHeartbeats 4000000
set_option maxRecDepth 100000
attribute [local irreducible] DW SeqD DV DOp DC DVX
end
section
open Go.RowKit
set_option linter.unusedSimpArgs false
set_option linter.unusedSectionVars false
set_option maxHeartbeats 4000000
set_option maxRecDepth 100000
attribute [local irreducible] DW SeqD DV DOp DC DVX
theorem dot_eta (x:TDot):(⟨x.node,x.epoch,x.n⟩:TDot)=x:=rfl
theorem pair_dc (node epoch:Int) (F:Own):(True)->DC Tryz.prog 50 [.int .i64 node, .int .i64 epoch] (([]:Own)++F) fun d G=>d = .bool (pairB node epoch)/\G=[]++F:=by
 intro hA
 refine DC.bodyS (n_:=15) (show Tryz.prog.funcs[50]? = some Tryz.f50 by kernel_rfl) rfl rfl (by rfl) ?_
 simp only [env0,List.cons_append,List.nil_append]
 have kw:=ksIs [0,1,4]
 have ow:=ownIs []
 repeat' (first
  | refine g_ ?_
  | ((with_reducible refine And.intro ?_ ?_);(exact sv))
  | (refine DW.cond (by rfl) ?_ ?_<;>(first | exact i0_ | (refine ic_ ?_;intro hb)))
  | ((with_reducible refine FVg_cases ?_ ?_)<;>(intro hb;rw [hb];revert hb;(first | exact i0_ | (refine i_ ?_;intro hb))))
  | refine r_ ?_
  | refine k_ ?_
  | refine o_ ?_
  | refine f_ ?_
  | with_reducible intro b)
 all_goals
  refine ⟨_,_,le.of_eq ?_,⟨rfl,rfl⟩,SubP.refl⟩
  unfold pairB
  simp_all<;>omega
theorem before_dc (a1 a2 a3 b1 b2 b3:Int) (F:Own):(True)->DC Tryz.prog 106 [.agg [.int .i64 a1, .int .i64 a2, .int .i64 a3], .agg [.int .i64 b1, .int .i64 b2, .int .i64 b3]] (([]:Own)++F) fun d G=>d = .bool (before ⟨a1,a2,a3⟩ ⟨b1,b2,b3⟩)/\G=[]++F:=by
 intro hA
 refine DC.bodyS (n_:=30) (show Tryz.prog.funcs[106]? = some Tryz.f106 by kernel_rfl) rfl rfl (by rfl) ?_
 simp only [env0,List.cons_append,List.nil_append]
 have kw:=ksIs [0,1,2,3,4,9,19]
 have ow:=ownIs []
 repeat' (first
  | refine g_ ?_
  | ((with_reducible refine And.intro ?_ ?_);(exact sv))
  | (refine DW.cond (by rfl) ?_ ?_<;>(first | exact i0_ | (refine ic_ ?_;intro hb)))
  | ((with_reducible refine FVg_cases ?_ ?_)<;>(intro hb;rw [hb];revert hb;(first | exact i0_ | (refine i_ ?_;intro hb))))
  | refine r_ ?_
  | refine k_ ?_
  | refine o_ ?_
  | refine f_ ?_
  | with_reducible intro b)
 all_goals
  refine ⟨_,_,le.of_eq ?_,⟨rfl,rfl⟩,SubP.refl⟩
  unfold before
  simp_all
theorem ahead_dc (a1 a2 a3 b1 b2 b3:Int) (F:Own):(True)->DC Tryz.prog 100 [.agg [.int .i64 a1, .int .i64 a2, .int .i64 a3], .agg [.int .i64 b1, .int .i64 b2, .int .i64 b3]] (([]:Own)++F) fun d G=>d = .bool (ahead ⟨a1,a2,a3⟩ ⟨b1,b2,b3⟩)/\G=[]++F:=by
 intro hA
 refine DC.bodyS (n_:=24) (show Tryz.prog.funcs[100]? = some Tryz.f100 by kernel_rfl) rfl rfl (by rfl) ?_
 simp only [env0,List.cons_append,List.nil_append]
 have kw:=ksIs [0,1,2,3,4]
 have ow:=ownIs []
 repeat' (first
  | refine g_ ?_
  | ((with_reducible refine And.intro ?_ ?_);(exact sv))
  | (refine DW.cond (by rfl) ?_ ?_<;>(first | exact i0_ | (refine ic_ ?_;intro hb)))
  | ((with_reducible refine FVg_cases ?_ ?_)<;>(intro hb;rw [hb];revert hb;(first | exact i0_ | (refine i_ ?_;intro hb))))
  | refine r_ ?_
  | refine k_ ?_
  | refine o_ ?_
  | refine f_ ?_
  | with_reducible intro b)
 all_goals
  refine ⟨_,_,le.of_eq ?_,⟨rfl,rfl⟩,SubP.refl⟩
  unfold ahead
  simp_all<;>omega
section
attribute [local push_cast 2000] encDot dot_eta
theorem rright_dc (l:List TDot) (F:Own):(l.length<=1000000000)->DC Tryz.prog 47 [.sl (l.map encDot)] (([]:Own)++F) fun d G=>d = .bool (rightB l)/\G=[]++F:=by
 intro hA
 have hl:=hA
 refine DC.bodyS (n_:=47) (show Tryz.prog.funcs[47]? = some Tryz.f47 by kernel_rfl) rfl rfl (by rfl) ?_
 simp only [env0,List.cons_append,List.nil_append]
 have kw:=ksIs [0,2,3,7,46]
 have ow:=ownIs []
 have dw4:=drIs 4 [] [4,9,10,17,28,32,33]
 repeat' (first
  | ((with_reducible refine DW.loopB 0 (X:=Nat) (fun x=>x<=l.length/\allK (dotOk l) x=true) (fun x=>[(0, .sl (l.map encDot)),(3, .int .i64 x)]) (fun x=>([]:Own)) (fun x=>l.length - x) (0) ?_ ?_ ?_);exact (⟨Nat.zero_le _,rfl⟩);(simp [Sub,get,keepL]<;>fail);(try simp only [List.cons_append,List.nil_append]);refine pl_ ?_;intro k ⟨hk,ha⟩;(try simp only [List.cons_append,List.nil_append]))
  | refine g_ ?_
  | ((with_reducible refine And.intro ?_ ?_);(exact sv))
  | (refine DW.cond (by rfl) ?_ ?_<;>(first | exact i0_ | (refine ic_ ?_;intro hb)))
  | ((with_reducible first | refine FVg_cases ?_ ?_ | refine FDg_cases ?_ ?_)<;>(intro hb;rw [hb];revert hb;(first | exact i0_ | (refine i_ ?_;intro hb))))
  | refine r_ ?_
  | refine d_ ?_
  | refine k_ ?_
  | ((refine dm_ ?_);(first | (refine v_ (pair_dc _ _ _) ?_) | (refine v_ (ahead_dc _ _ _ _ _ _ _) ?_)))
  | refine vo_ ?_
  | (refine q_ (pair_dc _ _ _) ?_)
  | (refine q_ (ahead_dc _ _ _ _ _ _ _) ?_)
  | refine o_ ?_
  | refine f_ ?_
  | refine vm_ ?_
  | with_reducible intro b)
 all_goals first
 | (have hf:dotOk l k=false:=by
     unfold dotOk
     first | (simp_all;done) | (simp_all;omega)
    refine ⟨_,_,le.of_eq ?_,⟨rfl,rfl⟩,SubP.refl⟩;rw [rightB,allK_not hf (by omega)])
 | (have hk0:k=l.length:=by omega
    subst hk0
    refine ⟨_,_,le.of_eq ?_,⟨rfl,rfl⟩,SubP.refl⟩;rw [rightB,ha])
 | (have ht:dotOk l k=true:=by
     unfold dotOk
     first | (simp_all;done) | (simp_all;omega)
    refine ⟨k+1,⟨by omega,allK_next ha ht⟩,by omega,by simp [Sub,get],?_⟩;exact sub_)
end
section
attribute [local push_cast 2000] encDot dot_eta
theorem rtop_dc (l:List TDot) (node epoch:Int) (F:Own):(l.length<=1000000000)->DC Tryz.prog 104 [.sl (l.map encDot), .int .i64 node, .int .i64 epoch] (([]:Own)++F) fun d G=>d = .int .i64 (topM l node epoch)/\G=[]++F:=by
 intro hA
 have hl:=hA
 refine DC.bodyS (n_:=38) (show Tryz.prog.funcs[104]? = some Tryz.f104 by kernel_rfl) rfl rfl (by rfl) ?_
 simp only [env0,List.cons_append,List.nil_append]
 have kw:=ksIs [0,1,2,6,7,10,14,32]
 have ow:=ownIs []
 repeat' (first
  | ((with_reducible refine DW.loopB 0 (X:=Nat) (fun x=>x<=l.length/\∀ i,0<=i->i<x->isAt l node epoch i=false) (fun x=>[(0, .sl (l.map encDot)),(1, .int .i64 node),(2, .int .i64 epoch),(7, .int .i64 x)]) (fun x=>([]:Own)) (fun x=>l.length - x) (0) ?_ ?_ ?_);exact (⟨Nat.zero_le _,fun i _ h=>absurd h (Nat.not_lt_zero _)⟩);(simp [Sub,get,keepL]<;>fail);(try simp only [List.cons_append,List.nil_append]);refine pl_ ?_;intro k ⟨hk,ha⟩;(try simp only [List.cons_append,List.nil_append]))
  | refine g_ ?_
  | ((with_reducible refine And.intro ?_ ?_);(exact sv))
  | (refine DW.cond (by rfl) ?_ ?_<;>(first | exact i0_ | (refine ic_ ?_;intro hb)))
  | ((with_reducible refine FVg_cases ?_ ?_)<;>(intro hb;rw [hb];revert hb;(first | exact i0_ | (refine i_ ?_;intro hb))))
  | refine r_ ?_
  | refine k_ ?_
  | (refine q_ (rright_dc _ _) ?_)
  | refine o_ ?_
  | refine f_ ?_
  | with_reducible intro b)
 all_goals first
 | (have hr:rightB l=false:=by assumption
    refine ⟨_,_,le.of_eq ?_,⟨rfl,rfl⟩,SubP.refl⟩;rw [topM,if_neg (by rw [hr];simp)])
 | (have ht:isAt l node epoch k=true:=by unfold isAt;simp_all
    have hf:=firstK_at (isAt l node epoch) l.length 0 k (Nat.zero_le _) (by omega) ha ht
    refine ⟨_,_,le.of_eq ?_,⟨rfl,rfl⟩,SubP.refl⟩;rw [topM,hf,if_pos ⟨by assumption,by omega⟩])
 | (have hk0:k=l.length:=by omega
    subst hk0
    have hf:=firstK_no (isAt l node epoch) l.length 0 (fun i h1 h2=>ha i h1 (by omega))
    refine ⟨_,_,le.of_eq ?_,⟨rfl,rfl⟩,SubP.refl⟩;rw [topM,if_neg (by rw [hf];omega)])
 | (have ht:isAt l node epoch k=false:=by unfold isAt;simp_all
    refine ⟨k+1,⟨by omega,fun i h1 h2=>?_⟩,by omega,by simp [Sub,get],?_⟩;(by_cases hik:i=k;(subst hik;exact ht);exact ha i h1 (by omega));exact sub_)
end
theorem rhas_dc (l:List TDot) (a b c:Int) (F:Own):(l.length<=1000000000)->DC Tryz.prog 59 [.sl (l.map encDot), .agg [.int .i64 a, .int .i64 b, .int .i64 c]] (([]:Own)++F) fun d G=>d = .bool (hasB l ⟨a,b,c⟩)/\G=[]++F:=by
 intro hA
 have hl:=hA
 refine DC.bodyS (n_:=19) (show Tryz.prog.funcs[59]? = some Tryz.f59 by kernel_rfl) rfl rfl (by rfl) ?_
 simp only [env0,List.cons_append,List.nil_append]
 have kw:=ksIs [0,1,3,4]
 have ow:=ownIs []
 have dw1:=drIs 1 [] [1,5,8,10,11]
 repeat' (first
  | refine g_ ?_
  | ((with_reducible refine And.intro ?_ ?_);(exact sv))
  | (refine DW.cond (by rfl) ?_ ?_<;>(first | exact i0_ | (refine ic_ ?_;intro hb)))
  | ((with_reducible first | refine FVg_cases ?_ ?_ | refine FDg_cases ?_ ?_)<;>(intro hb;rw [hb];revert hb;(first | exact i0_ | (refine i_ ?_;intro hb))))
  | refine r_ ?_
  | refine d_ ?_
  | refine k_ ?_
  | ((refine dm_ ?_);(first | (refine v_ (rtop_dc _ _ _ _) ?_)))
  | refine vo_ ?_
  | (refine q_ (rtop_dc _ _ _ _) ?_)
  | refine o_ ?_
  | refine f_ ?_
  | refine vm_ ?_
  | with_reducible intro b)
 all_goals
  refine ⟨_,_,le.of_eq ?_,⟨rfl,rfl⟩,SubP.refl⟩
  unfold hasB
  first | rfl | (simp_all;done) | (simp_all<;>omega)
end
section
def laySort_ren:Go.Shelf.Ren:=⟨fun | 6=>33 | 15=>88 | 14=>87 | 28=>135 | 29=>136 | 20=>127 | 21=>128 | 22=>129 | 23=>130 | 24=>131 | 25=>132 | 26=>133 | 27=>134 | 46=>169 | 47=>170 | 48=>171 | 49=>172 | 50=>173 | 57=>190 | n=>n,fun | 22=>29 | 24=>68 | 25=>71 | 3=>3 | 39=>130 | 0=>0 | 53=>163 | 55=>165 | 4=>4 | 46=>157 | 45=>156 | 50=>118 | 5=>5 | 9=>9 | 66=>187 | 70=>191 | 76=>207 | 77=>208 | n=>n,fun | n=>n⟩
theorem laySort:Go.Proofs.SlLaysF0.n6 Tryz.prog laySort_ren:={
 mixed:=by kernel_rfl
 f6:=⟨Tryz.f33.name,by decide,Tryz.func33.trans (congrArg some (by kernel_rfl))⟩
 f14:=⟨Tryz.f87.name,by decide,Tryz.func87.trans (congrArg some (by kernel_rfl))⟩
 f15:=Tryz.func88.trans (congrArg some (by kernel_rfl))
 f20:=⟨Tryz.f127.name,by decide,Tryz.func127.trans (congrArg some (by kernel_rfl))⟩
 f21:=⟨Tryz.f128.name,by decide,Tryz.func128.trans (congrArg some (by kernel_rfl))⟩
 f22:=⟨Tryz.f129.name,by decide,Tryz.func129.trans (congrArg some (by kernel_rfl))⟩
 f23:=⟨Tryz.f130.name,by decide,Tryz.func130.trans (congrArg some (by kernel_rfl))⟩
 f24:=⟨Tryz.f131.name,by decide,Tryz.func131.trans (congrArg some (by kernel_rfl))⟩
 f25:=⟨Tryz.f132.name,by decide,Tryz.func132.trans (congrArg some (by kernel_rfl))⟩
 f26:=⟨Tryz.f133.name,by decide,Tryz.func133.trans (congrArg some (by kernel_rfl))⟩
 f27:=⟨Tryz.f134.name,by decide,Tryz.func134.trans (congrArg some (by kernel_rfl))⟩
 f28:=Tryz.func135.trans (congrArg some (by kernel_rfl))
 f29:=Tryz.func136.trans (congrArg some (by kernel_rfl))
 f46:=⟨Tryz.f169.name,by decide,Tryz.func169.trans (congrArg some (by kernel_rfl))⟩
 f47:=Tryz.func170.trans (congrArg some (by kernel_rfl))
 f48:=Tryz.func171.trans (congrArg some (by kernel_rfl))
 f49:=⟨Tryz.f172.name,by decide,Tryz.func172.trans (congrArg some (by kernel_rfl))⟩
 f50:=⟨Tryz.f173.name,by decide,Tryz.func173.trans (congrArg some (by kernel_rfl))⟩
 f57:=⟨Tryz.f190.name,by decide,Tryz.func190.trans (congrArg some (by kernel_rfl))⟩
 t0:=Tryz.underlying0
 a0:=Tryz.isAgg0
 z0:=Tryz.sizeOf0
 v0:=Tryz.zeroValue0
 t3:=Tryz.underlying3
 a3:=Tryz.isAgg3
 z3:=Tryz.sizeOf3
 v3:=Tryz.zeroValue3
 t4:=Tryz.underlying4
 a4:=Tryz.isAgg4
 z4:=Tryz.sizeOf4
 v4:=Tryz.zeroValue4
 t5:=Tryz.underlying5
 a5:=Tryz.isAgg5
 z5:=Tryz.sizeOf5
 v5:=Tryz.zeroValue5
 t9:=Tryz.underlying9
 a9:=Tryz.isAgg9
 z9:=Tryz.sizeOf9
 v9:=Tryz.zeroValue9
 t22:=Tryz.underlying29
 a22:=Tryz.isAgg29
 z22:=Tryz.sizeOf29
 v22:=Tryz.zeroValue29
 t25:=Tryz.underlying71
 a25:=Tryz.isAgg71
 z25:=Tryz.sizeOf71
 v25:=Tryz.zeroValue71
 t39:=Tryz.underlying130
 a39:=Tryz.isAgg130
 z39:=Tryz.sizeOf130
 v39:=Tryz.zeroValue130
 t45:=Tryz.underlying156
 a45:=Tryz.isAgg156
 z45:=Tryz.sizeOf156
 v45:=Tryz.zeroValue156
 t46:=Tryz.underlying157
 a46:=Tryz.isAgg157
 z46:=Tryz.sizeOf157
 v46:=Tryz.zeroValue157
 t50:=Tryz.underlying118
 a50:=Tryz.isAgg118
 z50:=Tryz.sizeOf118
 v50:=Tryz.zeroValue118
 t53:=Tryz.underlying163
 a53:=Tryz.isAgg163
 z53:=Tryz.sizeOf163
 v53:=Tryz.zeroValue163
 t55:=Tryz.underlying165
 a55:=Tryz.isAgg165
 z55:=Tryz.sizeOf165
 v55:=Tryz.zeroValue165
 t66:=Tryz.underlying187
 a66:=Tryz.isAgg187
 z66:=Tryz.sizeOf187
 v66:=Tryz.zeroValue187
 t70:=Tryz.underlying191
 a70:=Tryz.isAgg191
 z70:=Tryz.sizeOf191
 v70:=Tryz.zeroValue191
 t76:=Tryz.underlying207
 a76:=Tryz.isAgg207
 z76:=Tryz.sizeOf207
 v76:=Tryz.zeroValue207
 t77:=Tryz.underlying208
 a77:=Tryz.isAgg208
 z77:=Tryz.sizeOf208
 v77:=Tryz.zeroValue208 }
end
section
def laySortC_ren:Go.Shelf.Ren:=⟨fun | 6=>75 | 15=>88 | 14=>120 | 28=>135 | 29=>136 | 20=>160 | 21=>161 | 22=>162 | 23=>163 | 24=>164 | 25=>165 | 26=>166 | 27=>167 | 46=>186 | 47=>170 | 48=>171 | 49=>187 | 50=>188 | 57=>201 | n=>n,fun | 22=>30 | 24=>76 | 25=>117 | 3=>3 | 39=>130 | 0=>0 | 53=>163 | 55=>165 | 4=>4 | 46=>157 | 45=>156 | 50=>118 | 5=>5 | 9=>9 | 66=>187 | 70=>191 | 76=>207 | 77=>208 | n=>n,fun | n=>n⟩
theorem laySortC:Go.Proofs.SlLaysF0.n6 Tryz.prog laySortC_ren:={
 mixed:=by kernel_rfl
 f6:=⟨Tryz.f75.name,by decide,Tryz.func75.trans (congrArg some (by kernel_rfl))⟩
 f14:=⟨Tryz.f120.name,by decide,Tryz.func120.trans (congrArg some (by kernel_rfl))⟩
 f15:=Tryz.func88.trans (congrArg some (by kernel_rfl))
 f20:=⟨Tryz.f160.name,by decide,Tryz.func160.trans (congrArg some (by kernel_rfl))⟩
 f21:=⟨Tryz.f161.name,by decide,Tryz.func161.trans (congrArg some (by kernel_rfl))⟩
 f22:=⟨Tryz.f162.name,by decide,Tryz.func162.trans (congrArg some (by kernel_rfl))⟩
 f23:=⟨Tryz.f163.name,by decide,Tryz.func163.trans (congrArg some (by kernel_rfl))⟩
 f24:=⟨Tryz.f164.name,by decide,Tryz.func164.trans (congrArg some (by kernel_rfl))⟩
 f25:=⟨Tryz.f165.name,by decide,Tryz.func165.trans (congrArg some (by kernel_rfl))⟩
 f26:=⟨Tryz.f166.name,by decide,Tryz.func166.trans (congrArg some (by kernel_rfl))⟩
 f27:=⟨Tryz.f167.name,by decide,Tryz.func167.trans (congrArg some (by kernel_rfl))⟩
 f28:=Tryz.func135.trans (congrArg some (by kernel_rfl))
 f29:=Tryz.func136.trans (congrArg some (by kernel_rfl))
 f46:=⟨Tryz.f186.name,by decide,Tryz.func186.trans (congrArg some (by kernel_rfl))⟩
 f47:=Tryz.func170.trans (congrArg some (by kernel_rfl))
 f48:=Tryz.func171.trans (congrArg some (by kernel_rfl))
 f49:=⟨Tryz.f187.name,by decide,Tryz.func187.trans (congrArg some (by kernel_rfl))⟩
 f50:=⟨Tryz.f188.name,by decide,Tryz.func188.trans (congrArg some (by kernel_rfl))⟩
 f57:=⟨Tryz.f201.name,by decide,Tryz.func201.trans (congrArg some (by kernel_rfl))⟩
 t0:=Tryz.underlying0
 a0:=Tryz.isAgg0
 z0:=Tryz.sizeOf0
 v0:=Tryz.zeroValue0
 t3:=Tryz.underlying3
 a3:=Tryz.isAgg3
 z3:=Tryz.sizeOf3
 v3:=Tryz.zeroValue3
 t4:=Tryz.underlying4
 a4:=Tryz.isAgg4
 z4:=Tryz.sizeOf4
 v4:=Tryz.zeroValue4
 t5:=Tryz.underlying5
 a5:=Tryz.isAgg5
 z5:=Tryz.sizeOf5
 v5:=Tryz.zeroValue5
 t9:=Tryz.underlying9
 a9:=Tryz.isAgg9
 z9:=Tryz.sizeOf9
 v9:=Tryz.zeroValue9
 t22:=Tryz.underlying30
 a22:=Tryz.isAgg30
 z22:=Tryz.sizeOf30
 v22:=Tryz.zeroValue30
 t25:=Tryz.underlying117
 a25:=Tryz.isAgg117
 z25:=Tryz.sizeOf117
 v25:=Tryz.zeroValue117
 t39:=Tryz.underlying130
 a39:=Tryz.isAgg130
 z39:=Tryz.sizeOf130
 v39:=Tryz.zeroValue130
 t45:=Tryz.underlying156
 a45:=Tryz.isAgg156
 z45:=Tryz.sizeOf156
 v45:=Tryz.zeroValue156
 t46:=Tryz.underlying157
 a46:=Tryz.isAgg157
 z46:=Tryz.sizeOf157
 v46:=Tryz.zeroValue157
 t50:=Tryz.underlying118
 a50:=Tryz.isAgg118
 z50:=Tryz.sizeOf118
 v50:=Tryz.zeroValue118
 t53:=Tryz.underlying163
 a53:=Tryz.isAgg163
 z53:=Tryz.sizeOf163
 v53:=Tryz.zeroValue163
 t55:=Tryz.underlying165
 a55:=Tryz.isAgg165
 z55:=Tryz.sizeOf165
 v55:=Tryz.zeroValue165
 t66:=Tryz.underlying187
 a66:=Tryz.isAgg187
 z66:=Tryz.sizeOf187
 v66:=Tryz.zeroValue187
 t70:=Tryz.underlying191
 a70:=Tryz.isAgg191
 z70:=Tryz.sizeOf191
 v70:=Tryz.zeroValue191
 t76:=Tryz.underlying207
 a76:=Tryz.isAgg207
 z76:=Tryz.sizeOf207
 v76:=Tryz.zeroValue207
 t77:=Tryz.underlying208
 a77:=Tryz.isAgg208
 z77:=Tryz.sizeOf208
 v77:=Tryz.zeroValue208 }
end
section
def laySplit_ren:Go.Shelf.Ren:=⟨fun | 146=>139 | 221=>175 | 268=>192 | 138=>193 | 143=>194 | 195=>202 | 197=>203 | 218=>204 | 219=>205 | 260=>210 | 217=>211 | 225=>212 | 224=>213 | 267=>214 | 266=>217 | 314=>218 | n=>n,fun | 9=>9 | 31=>92 | 3=>3 | 4=>4 | 0=>0 | 105=>193 | 21=>21 | 5=>5 | 46=>130 | 119=>218 | 139=>221 | 138=>220 | 146=>229 | 51=>163 | n=>n,fun | 1=>0 | 3=>1 | 4=>2 | n=>n⟩
theorem laySplit:Go.Proofs.Lays.n146 Tryz.prog laySplit_ren:={
 mixed:=by kernel_rfl
 f138:=Tryz.func193.trans (congrArg some (by kernel_rfl))
 f143:=Tryz.func194.trans (congrArg some (by kernel_rfl))
 f146:=Tryz.func139.trans (congrArg some (by kernel_rfl))
 f195:=Tryz.func202.trans (congrArg some (by kernel_rfl))
 f197:=Tryz.func203.trans (congrArg some (by kernel_rfl))
 f217:=Tryz.func211.trans (congrArg some (by kernel_rfl))
 f218:=Tryz.func204.trans (congrArg some (by kernel_rfl))
 f219:=Tryz.func205.trans (congrArg some (by kernel_rfl))
 f221:=Tryz.func175.trans (congrArg some (by kernel_rfl))
 f224:=Tryz.func213.trans (congrArg some (by kernel_rfl))
 f225:=Tryz.func212.trans (congrArg some (by kernel_rfl))
 f260:=Tryz.func210.trans (congrArg some (by kernel_rfl))
 f266:=Tryz.func217.trans (congrArg some (by kernel_rfl))
 f267:=Tryz.func214.trans (congrArg some (by kernel_rfl))
 f268:=Tryz.func192.trans (congrArg some (by kernel_rfl))
 f314:=Tryz.func218.trans (congrArg some (by kernel_rfl))
 t0:=Tryz.underlying0
 a0:=Tryz.isAgg0
 z0:=Tryz.sizeOf0
 v0:=Tryz.zeroValue0
 t3:=Tryz.underlying3
 a3:=Tryz.isAgg3
 z3:=Tryz.sizeOf3
 v3:=Tryz.zeroValue3
 t4:=Tryz.underlying4
 a4:=Tryz.isAgg4
 z4:=Tryz.sizeOf4
 v4:=Tryz.zeroValue4
 t5:=Tryz.underlying5
 a5:=Tryz.isAgg5
 z5:=Tryz.sizeOf5
 v5:=Tryz.zeroValue5
 t9:=Tryz.underlying9
 a9:=Tryz.isAgg9
 z9:=Tryz.sizeOf9
 v9:=Tryz.zeroValue9
 t21:=Tryz.underlying21
 a21:=Tryz.isAgg21
 z21:=Tryz.sizeOf21
 v21:=Tryz.zeroValue21
 t31:=Tryz.underlying92
 a31:=Tryz.isAgg92
 z31:=Tryz.sizeOf92
 v31:=Tryz.zeroValue92
 t46:=Tryz.underlying130
 a46:=Tryz.isAgg130
 z46:=Tryz.sizeOf130
 v46:=Tryz.zeroValue130
 t51:=Tryz.underlying163
 a51:=Tryz.isAgg163
 z51:=Tryz.sizeOf163
 v51:=Tryz.zeroValue163
 t105:=Tryz.underlying193
 a105:=Tryz.isAgg193
 z105:=Tryz.sizeOf193
 v105:=Tryz.zeroValue193
 t119:=Tryz.underlying218
 a119:=Tryz.isAgg218
 z119:=Tryz.sizeOf218
 t138:=Tryz.underlying220
 a138:=Tryz.isAgg220
 z138:=Tryz.sizeOf220
 v138:=Tryz.zeroValue220
 t139:=Tryz.underlying221
 a139:=Tryz.isAgg221
 z139:=Tryz.sizeOf221
 v139:=Tryz.zeroValue221
 t146:=Tryz.underlying229
 a146:=Tryz.isAgg229
 z146:=Tryz.sizeOf229
 v146:=Tryz.zeroValue229
 g1:=by kernel_rfl
 g3:=by kernel_rfl
 g4:=by kernel_rfl }
end
section
open Go.RowKit
set_option linter.unusedSimpArgs false
set_option linter.unusedSectionVars false
set_option maxHeartbeats 4000000
set_option maxRecDepth 100000
attribute [local irreducible] DW SeqD DV DOp DC DVX
def encJ (x:Int):V:=.int .i64 x
end
section
open Go.RowKit Go.ChangeShapes Go.WideShapes Go.Deep
set_option linter.unusedSimpArgs false
set_option linter.unusedSectionVars false
theorem Sim.none (w:World):Sim w []:=⟨(fun _ h=>nomatch h),List.Pairwise.nil,List.Pairwise.nil⟩
theorem stable_none {w:World} {a:Addr} (h:(w.cell? a).isSome=true):stable w [] a:=⟨h,(fun _ h=>nomatch h)⟩
section
variable {H:Type} {enc:TypeId×Value->H} {P:Program} {w:World}
def Opens (P:Program) (enc:TypeId×Value->H) (w:World) (e:TypeId) (C:Nat) {α:Type} (ea:α->V) (Q:α->Prop):Prop :=
 ∀ (cs:List Value) (n:Nat) (y:DataW H×List MemPlace),cs.length=C->DataW.trod enc P w 0 (fun _=>true) true n e cs=some y ->
  ∃ a,Q a/\∀ o,o<C->R (stable w []) w (cs.getD o undef) ((ea a).cs.getD o .any)
theorem open_elems {e:TypeId} {C:Nat} {α:Type} {ea:α->V} {Q:α->Prop} (hC:0<C) (hn:∀ a,(ea a).cs.length=C) (ho:Opens P enc w e C ea Q) {A:Option Addr} {len cap:Nat} (hE:Elems enc P w e C A len cap) :
  ∃ l:List α,l.length=len/\(∀ a∈l,Q a)/\R (stable w []) w (.slice A len cap) (.sl (l.map ea)):=by
 have one:∀ i,i<len->∃ a,Q a/\∃ b off,A=some ⟨b,off,none⟩/\∀ o,o<C->∃ v,w.cell? ⟨b,off+i * C+o,none⟩=some v/\R (stable w []) w v ((ea a).cs.getD o .any):=fun i hi=>by
  obtain ⟨b,off,cs,n,y,hA,hb,hl,hc,ht⟩:=hE.at_ i hi
  obtain ⟨a,hq,hr⟩:=ho cs n y hl ht
  refine ⟨a,hq,b,off,hA,fun o hlt=>?_⟩
  have hlt':o<cs.length:=by omega
  refine ⟨cs[o],hc o _ (List.getElem?_eq_getElem hlt'),?_⟩
  have:=hr o hlt
  simpa [List.getD_eq_getElem?_getD,hlt'] using this
 have all:∀ m,m<=len->∃ l:List α,l.length=m/\(∀ a∈l,Q a)/\∀ i (hi:i<l.length),∃ b off,A=some ⟨b,off,none⟩/\∀ o,o<C->∃ v,w.cell? ⟨b,off+i * C+o,none⟩=some v/\R (stable w []) w v ((ea l[i]).cs.getD o .any):=fun m=>by
  induction m with
  | zero=>exact fun _=>⟨[],rfl,(fun _ h=>nomatch h),fun i hi=>absurd hi (Nat.not_lt_zero _)⟩
  | succ m ih =>
   intro hm
   obtain ⟨l,h1,h2,h3⟩:=ih (by omega)
   obtain ⟨a,hq,hx⟩:=one m (by omega)
   refine ⟨l++[a],by simp [h1],fun z hz=>?_,fun i hi=>?_⟩
   · rcases List.mem_append.1 hz with hz | hz
     · exact h2 z hz
     · simp at hz;subst hz;exact hq
   · by_cases hil:i<l.length
     · simpa [List.getElem_append_left,hil] using h3 i hil
     · have:i=l.length:=by simp at hi;omega
       subst this
       simp only [List.getElem_concat_length]
       rw [h1];exact hx
 obtain ⟨l,h1,h2,h3⟩:=all len (Nat.le_refl _)
 refine ⟨l,h1,h2,?_⟩
 have hel:∀ i,i<l.length->∃ hi:i<l.length,(l.map ea).getD i .any=ea l[i]:=fun i hi=>⟨hi,by simp [List.getD_eq_getElem?_getD,hi]⟩
 refine .sl A len cap _ C (by simp [h1]) hE.le (fun h=>?_) (fun b hb hne=>?_) (fun i hi=>?_) (fun b i k hb hi hk=>?_) (fun b i k hb hi hk=>?_)
 · have:=hE.nil h
   have:l=[]:=List.eq_nil_of_length_eq_zero (by omega)
   subst this;rfl
 · have hl:0<l.length:=List.length_pos_iff.2 fun h=>hne (by rw [h];rfl)
   obtain ⟨b',off,hA,_⟩:=h3 0 hl
   rw [hA] at hb
   injection hb with hb
   rw [<-hb]
 · simp only [List.length_map] at hi
   obtain ⟨_,e⟩:=hel i hi
   rw [e,<-cs_n];exact hn _
 · simp only [List.length_map] at hi
   obtain ⟨b',off,hA,hx⟩:=h3 i hi
   rw [hA] at hb
   injection hb with hb
   subst hb
   obtain ⟨v,hv,_⟩:=hx k hk
   exact stable_none (by simp only;rw [hv];rfl)
 · simp only [List.length_map] at hi
   obtain ⟨b',off,hA,hx⟩:=h3 i hi
   rw [hA] at hb
   injection hb with hb
   subst hb
   obtain ⟨v,hv,hr⟩:=hx k hk
   obtain ⟨_,e⟩:=hel i hi
   simp only
   rw [cellAt,hv,e,cs_cell _ _ (by rw [hn];exact hk)]
   exact hr
end
end
end Go.Proofs.YtifdpbghkccaoaaGreatDoor
