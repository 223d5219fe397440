/- Texts as hex digits. -/
import Derived.Test.YtbmbcjmgjdnlnaaGreatDoorPt3x
import Derived.Test.YtbmbcjmgjdnlnaaGreatDoorEu
import Derived.KernelRfl
import Derived.Test.YtbmbcjmgjdnlnaaGreatDoorTbx
namespace Go.Proofs.YtbmbcjmgjdnlnaaGreatDoor
open Go.RowKit
set_option linter.unusedSimpArgs false
set_option linter.unusedVariables false
set_option linter.unusedSectionVars false
set_option maxHeartbeats 4000000
set_option maxRecDepth 100000
section
attribute [local irreducible] DW SeqD DV DOp DC DVX
def hexL:List UInt8:=[48,49,50,51,52,53,54,55,56,57,97,98,99,100,101,102]
theorem hex_hi (c:UInt8):0<=(c.toNat:Int).fdiv (2 ^ min 4 IntKind.u8.bits)/\(c.toNat:Int).fdiv (2 ^ min 4 IntKind.u8.bits)<16:=by
 have hc:=c.toNat_lt
 have e:(2:Int) ^ min 4 IntKind.u8.bits=16:=by decide
 rw [e,Int.fdiv_eq_ediv_of_nonneg _ (by decide)]
 omega
theorem hex_lo (c:UInt8):0<=IntKind.u8.wrap ((BitVec.ofInt IntKind.u8.bits (c.toNat:Int) &&& BitVec.ofInt IntKind.u8.bits 15).toNat:Int)/\IntKind.u8.wrap ((BitVec.ofInt IntKind.u8.bits (c.toNat:Int) &&& BitVec.ofInt IntKind.u8.bits 15).toNat:Int)<16:=by
 have h:(BitVec.ofInt IntKind.u8.bits (c.toNat:Int) &&& BitVec.ofInt IntKind.u8.bits 15).toNat<=15:=by
  rw [BitVec.toNat_and]
  exact Nat.le_trans Nat.and_le_right (by decide)
 simp [IntKind.wrap,IntKind.bits,IntKind.signed] at h ⊢
 omega
def hexA (c:UInt8):UInt8:=hexL.getD ((c.toNat:Int).fdiv (2 ^ min 4 IntKind.u8.bits)).toNat 0
def hexB (c:UInt8):UInt8:=hexL.getD (IntKind.u8.wrap ((BitVec.ofInt IntKind.u8.bits (c.toNat:Int) &&& BitVec.ofInt IntKind.u8.bits 15).toNat:Int)).toNat 0
def hexK (t:List UInt8) (k:Nat):List UInt8:=((List.range k).map fun i=>[hexA (t.getD i 0),hexB (t.getD i 0)]).flatten
theorem hexK_0 (t:List UInt8):hexK t 0=[]:=rfl
theorem hexK_more (t:List UInt8) (k:Nat):hexK t (k+1)=hexK t k++[hexA (t.getD k 0),hexB (t.getD k 0)]:=by simp [hexK,List.range_succ]
theorem hexK_len (t:List UInt8) (k:Nat):(hexK t k).length=2 * k:=by
 induction k with
 | zero=>rfl
 | succ k ih=>rw [hexK_more,List.length_append,ih];simp only [List.length_cons,List.length_nil];omega
def hexM (t:List UInt8):List UInt8:=if t=[] then [45] else hexK t t.length
theorem hexM_1 {t:List UInt8} (h:t=[]):hexM t=[45]:=if_pos h
theorem hexM_2 {t:List UInt8} (h:¬ t=[]):hexM t=hexK t t.length:=if_neg h
theorem hexM_len (t:List UInt8):(hexM t).length<=2 * t.length+1:=by
 unfold hexM;split
 · simp
 · rw [hexK_len];omega
section
attribute [local push_cast 2000] u8 bytes_are bytes_back
end
end
section
theorem deed_dflt:deedOk default:=⟨by decide,by decide,by decide,by decide⟩
theorem deed_at {l:List TDeed} (h:∀ d∈l,deedOk d) (k:Nat):deedOk (l.getD k default):=by
 by_cases hk:k<l.length
 · exact h _ (getD_mem hk)
 · rw [List.getD_eq_getElem?_getD,List.getElem?_eq_none (by omega)];exact deed_dflt
theorem filterM_len (k:Int):(filterM k).length<=1000000000:=by
 unfold filterM
 have key:∀ n,(filterL.getD n default).length<=1000000000:=by
  intro n
  by_cases h:n<filterL.length
  · have:=getD_mem h
    have key:∀ f∈filterL,f.length<=1000000000:=by decide
    exact key _ this
  · rw [List.getD_eq_getElem?_getD,List.getElem?_eq_none (by omega)];exact Nat.zero_le _
 exact key _
theorem topicM_len (k:Int):(topicM k).length<=1000000000:=by
 unfold topicM
 have key:∀ n,(topicL.getD n default).length<=1000000000:=by
  intro n
  by_cases h:n<topicL.length
  · have:=getD_mem h
    have key:∀ f∈topicL,f.length<=1000000000:=by decide
    exact key _ this
  · rw [List.getD_eq_getElem?_getD,List.getElem?_eq_none (by omega)];exact Nat.zero_le _
 exact key _
theorem Story.lite {i:Nat} {s:TSt} (h:Story i s) (hi:i<=20) {n:Int} (hn:0<=n/\n<3):Lite 3072 (s.ts.getD n.toNat default):=by
 obtain ⟨t1,t2,_⟩:=h.tab hn
 exact story_lite hi t1 t2
theorem Story.top {i:Nat} {s:TSt} (h:Story i s) (hi:i<=20) {n:Int} (hn:0<=n/\n<3) (m e:Int) : -1000000000000<=topM (s.ts.getD n.toNat default).seen m e/\topM (s.ts.getD n.toNat default).seen m e<=1000000000000:=by
 obtain ⟨t1,t2,_⟩:=h.tab hn
 have:=top_le t1.seen (fun d hd=>(t2.s d hd).2.2.2) m e
 exact ⟨by have:=this.1;show _<=topM (tabT s n).seen m e;omega,by have:=this.2;show topM (tabT s n).seen m e<=_;omega⟩
theorem Story.pAdd {i:Nat} {s:TSt} (h:Story i s) (hi:i<=20) {n:Int} (hn:0<=n/\n<3) (m e k:Int):Lite 1000000000 (s.ts.getD n.toNat default)/\(filterM k).length<=1000000000 /\ -1000000000000<=topM (s.ts.getD n.toNat default).seen m e/\topM (s.ts.getD n.toNat default).seen m e<=1000000000000 :=
 ⟨(h.lite hi hn).mono (by decide),filterM_len k,(h.top hi hn m e).1,(h.top hi hn m e).2⟩
theorem Story.pDrop {i:Nat} {s:TSt} (h:Story i s) (hi:i<=20) {n:Int} (hn:0<=n/\n<3) (m e:Int):Lite 1000000000 (s.ts.getD n.toNat default) /\ -1000000000000<=topM (s.ts.getD n.toNat default).seen m e/\topM (s.ts.getD n.toNat default).seen m e<=1000000000000 :=
 ⟨(h.lite hi hn).mono (by decide),(h.top hi hn m e).1,(h.top hi hn m e).2⟩
theorem Story.pPut {i:Nat} {s:TSt} (h:Story i s) (hi:i<=20) {n:Int} (hn:0<=n/\n<3) (m e k:Int) {x:Str} (hx:x.length<=30):Lite 1000000000 (s.ts.getD n.toNat default)/\((topicM k).length<=1000000000/\x.length<=1000000000) /\ -1000000000000<=topM (s.ts.getD n.toNat default).seen m e/\topM (s.ts.getD n.toNat default).seen m e<=1000000000000 :=
 ⟨(h.lite hi hn).mono (by decide),⟨topicM_len k,Nat.le_trans hx (by decide)⟩,(h.top hi hn m e).1,(h.top hi hn m e).2⟩
theorem Story.pFence {i:Nat} {s:TSt} (h:Story i s) (hi:i<=20) {n:Int} (hn:0<=n/\n<3):Lite 100000000 (s.ts.getD n.toNat default):=(h.lite hi hn).mono (by decide)
theorem Story.pMerge {i:Nat} {s:TSt} (h:Story i s) (hi:i<=20) {n m:Int} (hn:0<=n/\n<3) (hm:0<=m/\m<3):Lite 4000000 (s.ts.getD n.toNat default)/\Lite 4000000 (s.ts.getD m.toNat default):=⟨(h.lite hi hn).mono (by decide),(h.lite hi hm).mono (by decide)⟩
theorem add_fe (t:TTable) (n e:Int) (f:Str):(routeAddM t n e f).fences=t.fences:=by unfold routeAddM;split<;>rfl
theorem drop_fe (t:TTable) (n e:Int) (f:Str):(routeDropM t n e f).fences=t.fences:=by unfold routeDropM;split<;>rfl
theorem put_fe (t:TTable) (n e:Int) (s:TStamp) (m1 m2:Str) (m3:Int):(cellPutM t n e s m1 m2 m3).fences=t.fences:=by unfold cellPutM;split<;>rfl
theorem Story.f1 {i:Nat} {s:TSt} (h:Story i s) (hi:i<=20) {n:Int} (hn:0<=n/\n<3):(s.ts.getD n.toNat default).fences.length<=1000000000:=Nat.le_trans (h.lite hi hn).f (by decide)
theorem Story.f2 {i:Nat} {s:TSt} (h:Story i s) (hi:i<=20) {n:Int} (hn:0<=n/\n<3) (m e:Int) (f:Str):(routeAddM (s.ts.getD n.toNat default) m e f).fences.length<=1000000000:=by rw [add_fe];exact h.f1 hi hn
theorem Story.f3 {i:Nat} {s:TSt} (h:Story i s) (hi:i<=20) {n:Int} (hn:0<=n/\n<3) (m e:Int) (f:Str):(routeDropM (s.ts.getD n.toNat default) m e f).fences.length<=1000000000:=by rw [drop_fe];exact h.f1 hi hn
theorem Story.f4 {i:Nat} {s:TSt} (h:Story i s) (hi:i<=20) {n:Int} (hn:0<=n/\n<3) (m e:Int) (a:TStamp) (m1 m2:Str) (m3:Int):(cellPutM (s.ts.getD n.toNat default) m e a m1 m2 m3).fences.length<=1000000000:=by rw [put_fe];exact h.f1 hi hn
theorem Story.f5 {i:Nat} {s:TSt} (h:Story i s) (hi:i<=20) {n:Int} (hn:0<=n/\n<3) (m e:Int):(fenceM (s.ts.getD n.toNat default) m e).fences.length<=1000000000:=by
 have h1:=(fenceM_facts (s.ts.getD n.toNat default) m e).2.2.1
 have h2:=(h.lite hi hn).f
 omega
theorem Story.f6 {i:Nat} {s:TSt} (h:Story i s) (hi:i<=20) {n m:Int} (hn:0<=n/\n<3) (hm:0<=m/\m<3):(mergeM (s.ts.getD n.toNat default) (s.ts.getD m.toNat default)).fences.length<=1000000000 :=
 Nat.le_trans (merge_lite (h.lite hi hn) (h.lite hi hm)).f (by decide)
theorem step_of {s:TSt} {d:TDeed} {t:TTable} (h:actT s d (s.at_+d.k.tmod 3)=t):stepT s d=⟨s.ts.set (d.who.tmod 3).toNat t,if fencedL t.fences (d.who.tmod 3) (s.es.getD (d.who.tmod 3).toNat default)=true then s.es.set (d.who.tmod 3).toNat (s.es.getD (d.who.tmod 3).toNat default+1) else s.es,s.at_+d.k.tmod 3⟩:=by
 rw [stepT,h];rfl
theorem step_y {s:TSt} {d:TDeed} {t:TTable} (h:actT s d (s.at_+d.k.tmod 3)=t) (hf:fencedL t.fences (d.who.tmod 3) (s.es.getD (d.who.tmod 3).toNat default)=true):stepT s d=⟨s.ts.set (d.who.tmod 3).toNat t,s.es.set (d.who.tmod 3).toNat (s.es.getD (d.who.tmod 3).toNat default+1),s.at_+d.k.tmod 3⟩:=by
 rw [step_of h,if_pos hf]
theorem step_n {s:TSt} {d:TDeed} {t:TTable} (h:actT s d (s.at_+d.k.tmod 3)=t) (hf:fencedL t.fences (d.who.tmod 3) (s.es.getD (d.who.tmod 3).toNat default)=false):stepT s d=⟨s.ts.set (d.who.tmod 3).toNat t,s.es,s.at_+d.k.tmod 3⟩:=by
 rw [step_of h,if_neg (by rw [hf];simp)]
theorem act_1 {s:TSt} {d:TDeed} {a:Int} (h:d.what.tmod 8=0\/d.what.tmod 8=1):actT s d a=routeAddM (s.ts.getD (d.who.tmod 3).toNat default) (d.who.tmod 3) (s.es.getD (d.who.tmod 3).toNat default) (filterM d.k):=by rw [actT,if_pos h];rfl
theorem act_2 {s:TSt} {d:TDeed} {a:Int} (h:d.what.tmod 8=2):actT s d a=routeDropM (s.ts.getD (d.who.tmod 3).toNat default) (d.who.tmod 3) (s.es.getD (d.who.tmod 3).toNat default) (filterM d.k):=by rw [actT,if_neg (by omega),if_pos h];rfl
theorem act_3 {s:TSt} {d:TDeed} {a:Int} (h:d.what.tmod 8=3\/d.what.tmod 8=4):actT s d a=cellPutM (s.ts.getD (d.who.tmod 3).toNat default) (d.who.tmod 3) (s.es.getD (d.who.tmod 3).toNat default) ⟨a,d.k.tmod 2,d.who.tmod 3⟩ (topicM d.k) d.x (d.k.tmod 3):=by rw [actT,if_neg (by omega),if_neg (by omega),if_pos h];rfl
theorem act_5 {s:TSt} {d:TDeed} {a:Int} (h:d.what.tmod 8=5) (h4:d.k.tmod 4=0):actT s d a=fenceM (s.ts.getD (d.who.tmod 3).toNat default) ((d.k.tdiv 4).tmod 3) (s.es.getD ((d.k.tdiv 4).tmod 3).toNat default):=by rw [actT,if_neg (by omega),if_neg (by omega),if_neg (by omega),if_pos h,if_pos h4];rfl
theorem act_0 {s:TSt} {d:TDeed} {a:Int} (h:d.what.tmod 8=5) (h4:¬ d.k.tmod 4=0):actT s d a=s.ts.getD (d.who.tmod 3).toNat default:=by rw [actT,if_neg (by omega),if_neg (by omega),if_neg (by omega),if_pos h,if_neg h4];rfl
theorem act_6 {s:TSt} {d:TDeed} {a:Int} (h:5<d.what.tmod 8):actT s d a=mergeM (s.ts.getD (d.who.tmod 3).toNat default) (s.ts.getD (d.k.tmod 3).toNat default):=by rw [actT,if_neg (by omega),if_neg (by omega),if_neg (by omega),if_neg (by omega)];rfl
theorem set_same {α:Type} [Inhabited α] {l:List α} {k:Nat} (h:k<l.length):l.set k (l.getD k default)=l:=by
 rw [getD_get l k h,List.set_getElem_self]
theorem getD_set_same {α:Type} [Inhabited α] {l:List α} {k:Nat} {x:α} (h:k<l.length):(l.set k x).getD k default=x:=by
 rw [List.getD_eq_getElem?_getD,List.getElem?_set_self h];rfl
theorem cells_flt {α:Type} (f:α->V):∀ l:List α,cells (l.map f)=flt (fun a=>(f a).cs) l
 | []=>rfl
 | x::l=>by
  rw [List.map_cons,cells_cons,cells_flt f l];rfl
theorem cells_tlen (ts:List TTable):(cells (ts.map encTable)).length=ts.length * 4:=by rw [cells_len (sz:=4) _ (by intro y hy;obtain ⟨x,_,rfl⟩:=List.mem_map.1 hy;rfl),List.length_map]
theorem cells_tab {ts:List TTable} {k:Nat} (h:k<ts.length):List.take 4 (List.drop (k * 4) (cells (ts.map encTable)))=[.sl ((ts.getD k default).seen.map encDot), .sl ((ts.getD k default).fences.map encFence), .sl ((ts.getD k default).routes.map encRoute), .sl ((ts.getD k default).cells.map encCell)]:=by
 rw [cells_flt]
 exact flt_row (n:=4) (g:=fun a=>(encTable a).cs) (fun _=>rfl) ts k h
theorem cells_tset {ts:List TTable} {k:Nat} {x:TTable} (h:k<ts.length):layV (cells (ts.map encTable)) (k * 4) [.sl (x.seen.map encDot), .sl (x.fences.map encFence), .sl (x.routes.map encRoute), .sl (x.cells.map encCell)]=cells ((ts.set k x).map encTable):=by
 rw [cells_flt,cells_flt]
 exact flt_set (n:=4) (g:=fun a=>(encTable a).cs) (fun _=>rfl) ts k x h
theorem ints_at {es:List Int} {k:Nat} (h:k<es.length):(es.map encJ).getD k .any = .int .i64 (es.getD k default):=by
 rw [List.getD_eq_getElem?_getD,List.getElem?_map]
 simp [h,encJ]
theorem ints_drop {es:List Int} {k:Nat} (h:k<es.length):(List.drop k (es.map encJ)).getD 0 .any = .int .i64 (es.getD k default):=by
 rw [dropD,Nat.add_zero,ints_at h]
theorem ints_set:∀ {es:List Int} {k:Nat} {x:Int},k<es.length->layV (es.map encJ) k [.int .i64 x]=(es.set k x).map encJ
 | [],k,x,h=>absurd h (Nat.not_lt_zero _)
 | e::es,0,x,_=>rfl
 | e::es,k+1,x,h=>by
  rw [List.map_cons,lay_cons,ints_set (by simpa using h)];rfl
theorem ints_len (es:List Int):(es.map encJ).length=es.length:=List.length_map _
def tabG (s:TSt):List V:=cells (s.ts.map encTable)
def epsG (s:TSt):List V:=s.es.map encJ
theorem tabG_0:tabG startT=[.sl [], .sl [], .sl [], .sl [], .sl [], .sl [], .sl [], .sl [], .sl [], .sl [], .sl [], .sl []]:=rfl
theorem epsG_0:epsG startT=[.int .i64 1, .int .i64 1, .int .i64 1]:=rfl
end
end Go.Proofs.YtbmbcjmgjdnlnaaGreatDoor
