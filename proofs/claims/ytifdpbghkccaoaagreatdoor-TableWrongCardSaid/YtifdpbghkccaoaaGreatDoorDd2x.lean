/- What is written to a builder, wherever it lies. -/
import Derived.Test.YtifdpbghkccaoaaGreatDoorDd1x
import Derived.KernelRfl
import Derived.Test.YtifdpbghkccaoaaGreatDoorRa1x
import Derived.Test.YtifdpbghkccaoaaGreatDoorRe2x
import Derived.Test.YtifdpbghkccaoaaGreatDoorEu
namespace Go.Proofs.YtifdpbghkccaoaaGreatDoor
open Go.RowKit
set_option linter.unusedSimpArgs false
set_option linter.unusedVariables false
set_option linter.unusedSectionVars false
set_option maxHeartbeats 4000000
set_option maxRecDepth 100000
section
theorem OnTb_id {H:Own} {b:Nat} {G:TypeId->List V->(Ent->Own)->Prop} (h:OnTb H b G):OnTb H b G:=h
theorem OnBa_id {H:Own} {v:Value} {G:TypeId->List UInt8->(Ent->Own)->Prop} (h:OnBa H v G):OnBa H v G:=h
def liesB (T:TypeId) (off n:Nat):Prop:=liesAt Tryz.prog Tryz.prog.depth T (n / Tryz.prog.cellsOf T) off 97 1=true
theorem layCk:Go.Proofs.Lays.n240 Tryz.prog layJoin_ren:={ layJoin with }
theorem layXtra:Go.Proofs.Builder.Extra Tryz.prog layJoin_ren where
 sizeBuilder:=by kernel_rfl
 liesBuilder:=by kernel_rfl
 t5:=Tryz.underlying5
 a5:=Tryz.isAgg5
 z5:=Tryz.sizeOf5
 v5:=Tryz.zeroValue5
 infoByte:=by kernel_rfl
 cellsByte:=by kernel_rfl
 sizeByte:=by kernel_rfl
 neB5:=by decide
theorem layStr2:Go.Proofs.Lays.n169 Tryz.prog layJoin_ren:={ layJoin with }
structure BAt (T:TypeId) (bk off:Nat) (cs:List V) (v:Value) (n:Nat):Prop where
 u:∃ u,cs.getD off .any=selfP bk off u
 a:cs.getD (off+1) .any = .ar v n
 lt:off+1<cs.length
 lies:liesB T off cs.length
def lay2 (bk off:Nat) (cs:List V) (v:Value) (n:Nat):List V:=layV (layV cs off [selfP bk off true]) (off+1) [.ar v n]
theorem lay2_is (bk off:Nat) (cs:List V) (v:Value) (n:Nat):lay2 bk off cs v n=layV (layV cs off [selfP bk off true]) (off+1) [.ar v n]:=rfl
theorem lay_lenB (cs d:List V) (k:Nat) (h:k+d.length<=cs.length):(layV cs k d).length=cs.length:=(lay_at cs d k h).1
theorem lay_get (cs:List V) (k j:Nat) (x:V) (h:k+1<=cs.length):(layV cs k [x]).getD j .any=if j=k then x else cs.getD j .any:=by
 rw [(lay_at cs [x] k h).2 j]
 by_cases e:j=k
 · subst e;rw [if_pos (by simp),if_pos rfl,Nat.sub_self];rfl
 · rw [if_neg (by simp;omega),if_neg e]
theorem lay2_len {bk off:Nat} {cs:List V} {v:Value} {n:Nat} (h:off+1<cs.length):(lay2 bk off cs v n).length=cs.length:=by
 unfold lay2;rw [lay_lenB _ _ _ (by rw [lay_lenB _ _ _ (by simp;omega)];simp;omega),lay_lenB _ _ _ (by simp;omega)]
theorem BAt.next {T:TypeId} {bk off:Nat} {cs:List V} {v:Value} {n:Nat} (h:BAt T bk off cs v n) (v':Value) (n':Nat):BAt T bk off (lay2 bk off cs v' n') v' n':=by
 have hlt:=h.lt
 have l1:(layV cs off [selfP bk off true]).length=cs.length:=lay_lenB _ _ _ (by simp;omega)
 refine ⟨⟨true,?_⟩,?_,by rw [lay2_len hlt];exact hlt,by rw [lay2_len hlt];exact h.lies⟩
 · unfold lay2;rw [lay_get _ _ _ _ (by omega),if_neg (by omega),lay_get _ _ _ _ (by omega),if_pos rfl]
 · unfold lay2;rw [lay_get _ _ _ _ (by omega),if_pos rfl]
theorem ccheck_dc (T:TypeId) (bk off:Nat) (cs:List V) (v:Value) (n:Nat) (F:Own):(BAt T bk off cs v n)->DC Tryz.prog 107 [.raw (.pointer (some ⟨bk,off,none⟩))] ([.tb T bk cs]++F) fun d G=>d = .tup []/\G=[.tb T bk (layV cs off [selfP bk off true])]++F:=fun h=>by
 obtain ⟨u,hu⟩:=h.u
 exact DC.ccheck layCk (by kernel_rfl) (by kernel_rfl) T bk off cs u F ⟨hu,by have:=h.lt;omega,h.lies⟩
theorem bstr_dc (T:TypeId) (bk off:Nat) (cs:List V) (v:Value) (l:List UInt8) (F:Own):(BAt T bk off cs v l.length/\l.length<=140737488355328)->DC Tryz.prog 63 [.raw (.pointer (some ⟨bk,off,none⟩))] ([.tb T bk cs, .ba 5 v l]++F) fun d G=>d = .str l/\G=[.tb T bk cs]++F:=fun h =>
 DC.bstring layStr2 layXtra (by kernel_rfl) T bk off cs v l F ⟨h.1.a,h.1.lt,h.2⟩
theorem join_dc (ws:List (List UInt8)) (sep:List UInt8) (F:Own):(ws.length<=1000000/\(Lib.join ws sep).length<=140737488355328)->DC Tryz.prog 65 [.sl (ws.map V.str), .str sep] ([loose]++F) fun d G=>d = .str (Lib.join ws sep)/\G=[loose]++F:=fun h =>
 DC.join layJoin layXtra (by kernel_rfl) ws sep F h
theorem appB_s (l xs:List UInt8) (h:l.length+xs.length<=140737488355328):AppB Tryz.prog 44 9 5 l xs:=by
 unfold AppB;rw [ty_44,ty_9,ty_5];exact ⟨rfl,rfl,rfl,by decide,by decide,by decide,rfl,rfl,rfl,h⟩
theorem appB_b (l xs:List UInt8) (h:l.length+xs.length<=140737488355328):AppB Tryz.prog 44 44 5 l xs:=by
 unfold AppB;rw [ty_44,ty_5];exact ⟨rfl,rfl,rfl,by decide,by decide,by decide,rfl,rfl,rfl,h⟩
attribute [local irreducible] DW SeqD DV DOp DC DVX lay2 selfP liesB
theorem s_wstr_dc {P Q:Prop} (q:Q) (h:Hid Q->P:=by (intro q;simp (maxSteps:=1000000) (disch:=omega) only [push_cast,↓reduceIte,reduceCtorEq,Nat.reduceAdd,Nat.reduceMul,Nat.reduceLT,Nat.reduceLeDiff,Nat.reduceEqDiff,Nat.reduceSub,Int.reduceToNat,Int.reduceLT,Int.reduceLE,Int.reduceAdd,Int.reduceSub,Int.reduceMul,Int.reduceNeg,Nat.reduceBEq,Int.reduceBEq,Int.reduceBNe,Nat.reduceBNe,Int.reduceEq,getD_drop',z1,l1,addr_mk,u8];exact q.1)):P:=h ⟨q⟩
section
attribute [local push_cast 2000] getD_drop' addr_mk u8
theorem wstr_dc (T:TypeId) (bk off:Nat) (cs:List V) (v:Value) (l:List UInt8) (s2:List UInt8) (F:Own):(BAt T bk off cs v l.length/\l.length+s2.length<=140737488355328)->DC Tryz.prog 60 [.raw (.pointer (some ⟨bk,off,none⟩)), .str s2] ([.tb T bk cs, .ba 5 v l]++F) fun d G=>∃ v',d = .tup [.int .i64 s2.length, .raw .nilIface]/\G=[.tb T bk (lay2 bk off cs v' (l++s2).length), .ba 5 v' (l++s2)]++F:=by
 intro hA
 obtain ⟨hB,hm⟩:=hA
 refine DC.bodyS (n_:=19) (show Tryz.prog.funcs[60]? = some Tryz.f60 by kernel_rfl) rfl rfl (by rfl) ?_
 simp only [env0,List.cons_append,List.nil_append]
 have kw:=ksIs [0,1,4,5]
 have ow:=ownIs []
 have hlt:=hB.lt
 have l1:(layV cs off [selfP bk off true]).length=cs.length:=lay_lenB _ _ _ (by simp;omega)
 have z1:(layV cs off [selfP bk off true]).getD (off+1) .any = .ar v l.length:=by rw [lay_get _ _ _ _ (by omega),if_neg (by omega)];exact hB.a
 repeat' (first
  | ((refine DOp.loadT_ rfl rfl ?_);(repeat (with_reducible first | refine OnTb.here ?_ | refine OnTb.next ?_));(fail_if_success (with_reducible apply OnTb_id));refine s_wstr_dc ?_)
  | ((refine DOp.storeT_ rfl rfl ?_);(repeat (with_reducible first | refine OnTb.here ?_ | refine OnTb.next ?_));(fail_if_success (with_reducible apply OnTb_id));refine s_wstr_dc ?_)
  | ((refine DOp.appba_ rfl rfl rfl ?_);(repeat (with_reducible first | refine OnBa.here ?_ | refine OnBa.next ?_));(fail_if_success (with_reducible apply OnBa_id));(refine And.intro (by first | exact appB_s _ _ (by omega) | exact appB_b _ _ (by simp only [List.length_cons,List.length_nil];omega)) ?_);(with_reducible intro w1);refine s_wstr_dc ?_)
  | refine g_ ?_
  | ((with_reducible refine And.intro ?_ ?_);(exact sv))
  | (refine DW.cond (by rfl) ?_ ?_<;>(first | exact i0_ | (intro hb;(try simp only [↓reduceCtorEq,not_true_eq_false,not_false_eq_true,hbs,Int.reduceBEq,Int.reduceBNe,Int.reduceEq] at hb);(try refine s_wstr_dc ?_))))
  | ((with_reducible refine FVg_cases ?_ ?_)<;>(intro hb;rw [hb];revert hb;(first | exact i0_ | (intro hb;(try simp only [↓reduceCtorEq,not_true_eq_false,not_false_eq_true,hbs,Int.reduceBEq,Int.reduceBNe,Int.reduceEq] at hb);(try refine s_wstr_dc ?_)))))
  | ((first | refine rn_ ?_ | refine kn_ ?_)<;>(refine s_wstr_dc ?_))
  | (refine p_ (ccheck_dc _ _ _ _ _ _ _) ?_;rintro d H1 ⟨rfl,rfl⟩<;>refine s_wstr_dc ?_)
  | ((refine on_ ?_);refine s_wstr_dc ?_)
  | refine f_ ?_
  | with_reducible intro b)
 all_goals first
 | (refine ⟨_,_,le.rfl_,⟨w1,rfl,rfl⟩,?_⟩;(simp only [lay2_is,List.length_append,List.length_cons,List.length_nil,Nat.zero_add]);(exact sub_);done)
 | (trace_state;fail)
end
theorem s_wbyte_dc {P Q:Prop} (q:Q) (h:Hid Q->P:=by (intro q;simp (maxSteps:=1000000) (disch:=omega) only [push_cast,↓reduceIte,reduceCtorEq,Nat.reduceAdd,Nat.reduceMul,Nat.reduceLT,Nat.reduceLeDiff,Nat.reduceEqDiff,Nat.reduceSub,Int.reduceToNat,Int.reduceLT,Int.reduceLE,Int.reduceAdd,Int.reduceSub,Int.reduceMul,Int.reduceNeg,Nat.reduceBEq,Int.reduceBEq,Int.reduceBNe,Nat.reduceBNe,Int.reduceEq,getD_drop',z1,l1,addr_mk,u8];exact q.1)):P:=h ⟨q⟩
section
attribute [local push_cast 2000] getD_drop' addr_mk u8
theorem wbyte_dc (T:TypeId) (bk off:Nat) (cs:List V) (v:Value) (l:List UInt8) (c:UInt8) (F:Own):(BAt T bk off cs v l.length/\l.length+1<=140737488355328)->DC Tryz.prog 108 [.raw (.pointer (some ⟨bk,off,none⟩)), .int .u8 (c.toNat:Int)] ([.tb T bk cs, .ba 5 v l]++F) fun d G=>∃ v',d = .raw .nilIface/\G=[.tb T bk (lay2 bk off cs v' (l++[c]).length), .ba 5 v' (l++[c])]++F:=by
 intro hA
 obtain ⟨hB,hm⟩:=hA
 refine DC.bodyS (n_:=17) (show Tryz.prog.funcs[108]? = some Tryz.f108 by kernel_rfl) rfl rfl (by rfl) ?_
 simp only [env0,List.cons_append,List.nil_append]
 have kw:=ksIs [0,1,4]
 have ow:=ownIs []
 have hlt:=hB.lt
 have l1:(layV cs off [selfP bk off true]).length=cs.length:=lay_lenB _ _ _ (by simp;omega)
 have z1:(layV cs off [selfP bk off true]).getD (off+1) .any = .ar v l.length:=by rw [lay_get _ _ _ _ (by omega),if_neg (by omega)];exact hB.a
 repeat' (first
  | ((refine DOp.loadT_ rfl rfl ?_);(repeat (with_reducible first | refine OnTb.here ?_ | refine OnTb.next ?_));(fail_if_success (with_reducible apply OnTb_id));refine s_wbyte_dc ?_)
  | ((refine DOp.storeT_ rfl rfl ?_);(repeat (with_reducible first | refine OnTb.here ?_ | refine OnTb.next ?_));(fail_if_success (with_reducible apply OnTb_id));refine s_wbyte_dc ?_)
  | ((refine DOp.appba_ (xs:=[c]) rfl rfl rfl ?_);(repeat (with_reducible first | refine OnBa.here ?_ | refine OnBa.next ?_));(fail_if_success (with_reducible apply OnBa_id));(refine And.intro (by first | exact appB_s _ _ (by omega) | exact appB_b _ _ (by simp only [List.length_cons,List.length_nil];omega)) ?_);(with_reducible intro w1);refine s_wbyte_dc ?_)
  | refine g_ ?_
  | ((with_reducible refine And.intro ?_ ?_);(exact sv))
  | (refine DW.cond (by rfl) ?_ ?_<;>(first | exact i0_ | (intro hb;(try simp only [↓reduceCtorEq,not_true_eq_false,not_false_eq_true,hbs,Int.reduceBEq,Int.reduceBNe,Int.reduceEq] at hb);(try refine s_wbyte_dc ?_))))
  | ((with_reducible refine FVg_cases ?_ ?_)<;>(intro hb;rw [hb];revert hb;(first | exact i0_ | (intro hb;(try simp only [↓reduceCtorEq,not_true_eq_false,not_false_eq_true,hbs,Int.reduceBEq,Int.reduceBNe,Int.reduceEq] at hb);(try refine s_wbyte_dc ?_)))))
  | ((first | refine rn_ ?_ | refine kn_ ?_)<;>(refine s_wbyte_dc ?_))
  | (refine p_ (ccheck_dc _ _ _ _ _ _ _) ?_;rintro d H1 ⟨rfl,rfl⟩<;>refine s_wbyte_dc ?_)
  | ((refine on_ ?_);refine s_wbyte_dc ?_)
  | refine f_ ?_
  | with_reducible intro b)
 all_goals first
 | (refine ⟨_,_,le.rfl_,⟨w1,rfl,rfl⟩,?_⟩;(simp only [lay2_is,List.length_append,List.length_cons,List.length_nil,Nat.zero_add]);(exact sub_);done)
 | (trace_state;fail)
end
end
section
def routeAddM (t:TTable) (n e:Int) (f:Str):TTable:=if filterB f=true/\pairB n e=true/\fencedL t.fences n e=false then ⟨addM t.seen (nextDot t.seen n e),t.fences,insR (withoutR t.routes n e f) ⟨nextDot t.seen n e,f⟩,t.cells⟩ else t
def routeDropM (t:TTable) (n e:Int) (f:Str):TTable:=if (withoutR t.routes n e f).length<t.routes.length then ⟨addM t.seen (nextDot t.seen n e),t.fences,withoutR t.routes n e f,t.cells⟩ else t
def fenceM (t:TTable) (n e:Int):TTable:=if pairB n e=true/\fencedL t.fences n e=false then ⟨t.seen,fenceL t.fences n e,unfR (fenceL t.fences n e) t.routes,t.cells⟩ else t
def cellPutM (t:TTable) (n e:Int) (s:TStamp) (m1 m2:Str) (m3:Int):TTable:=if putOk n e s.l s.c s.node m1 m3=true then ⟨addM t.seen (nextDot t.seen n e),t.fences,t.routes,cellInM t.cells (putC (nextDot t.seen n e) s.l s.c s.node m1 m2 m3)⟩ else t
def mergeRo (ro l:List TRoute):List TRoute:=l.foldl (fun ro r=>if (withoutR ro r.dot.node r.dot.epoch r.filter).length<ro.length then ro else insR ro r) ro
def mergeCe (ce m:List TCell):List TCell:=m.foldl (fun ce c=>if ce.any (fun o=>o.topic==c.topic)=true then ce else cellInM ce c) ce
def mergeFe (t:TTable) (l:List TFence):TTable:=l.foldl (fun t f=>fenceM t f.node f.epoch) t
def merge0 (a b:TTable):TTable:=⟨joinM a.seen b.seen,a.fences,mergeRo (staysM a.routes b.seen b.routes) (staysM b.routes a.seen a.routes),mergeCe (keepsM a.cells b.seen b.cells) (keepsM b.cells a.seen a.cells)⟩
def merge1 (a b:TTable):TTable:=mergeFe (merge0 a b) b.fences
def merge2 (a b:TTable):TTable:={ merge1 a b with routes:=unfR (merge1 a b).fences (merge1 a b).routes }
def emptyT:TTable:=⟨[],[],[],[]⟩
def mergeM (a b:TTable):TTable:=if tabB a=true then (if tabB b=true then (if tabB (merge2 a b)=true then merge2 a b else a) else a) else (if tabB b=true then b else emptyT)
theorem ins_perm {α:Type} (l:List α) (p:Nat) (x:α):(l.take p++x::l.drop p).Perm (x::l):=by
 have:=@List.perm_middle α x (l.take p) (l.drop p)
 rwa [List.take_append_drop] at this
theorem insR_perm (ro:List TRoute) (r:TRoute):(insR ro r).Perm (r::ro):=ins_perm ro _ r
theorem mem_insR {ro:List TRoute} {r x:TRoute}:x∈insR ro r↔x=r\/x∈ro:=by rw [(insR_perm ro r).mem_iff,List.mem_cons]
theorem mem_without {ro:List TRoute} {n e:Int} {f:Str} {x:TRoute}:x∈withoutR ro n e f↔x∈ro/\¬ (x.dot.node=n/\x.dot.epoch=e/\x.filter=f):=by
 unfold withoutR
 rw [List.mem_filter]
 simp only [Bool.not_eq_true',<-Bool.not_eq_true,own_iff]
theorem without_sub (ro:List TRoute) (n e:Int) (f:Str):(withoutR ro n e f).Sublist ro:=List.filter_sublist
theorem next_one {se:List TDot} (h:rightB se=true) {n e:Int} (hp:pairB n e=true):oneB (nextDot se n e)=true:=by
 have:=top_nonneg h n e
 rw [one_iff]
 simp only [pairB,Bool.and_eq_true,decide_eq_true_eq] at hp
 simp only [nextDot]
 omega
theorem next_fresh {se:List TDot} {n e:Int} {x:TDot} (hx:hasB se x=true):x≠nextDot se n e:=by
 rintro rfl
 rw [has_iff] at hx
 simp only [nextDot] at hx
 omega
theorem TR.sub {t:TTable} (h:TR t) {se':List TDot} {fe':List TFence} {ro':List TRoute} (hs:rightB se'=true) (hm:∀ x,hasB t.seen x=true->hasB se' x=true) (hf:FR fe') (hr:ro'.Sublist t.routes) (hn:∀ r∈ro',fencedL fe' r.dot.node r.dot.epoch=false):TR ⟨se',fe',ro',t.cells⟩ where
 seen:=hs
 fences:=hf
 rsort:=h.rsort.sublist hr
 rok r hr':=⟨(h.rok r (hr.subset hr')).1,hm _ (h.rok r (hr.subset hr')).2.1,hn r hr'⟩
 rone:=h.rone.sublist hr
 csort:=h.csort
 cok c hc:=⟨(h.cok c hc).1,hm _ (h.cok c hc).2⟩
 fresh:=h.fresh.sublist ((hr.map _).append (List.Sublist.refl _))
theorem TR.hasDots {t:TTable} (h:TR t):∀ d∈dotsOf t.routes t.cells,hasB t.seen d=true:=by
 intro d hd
 rcases List.mem_append.1 hd with hd | hd
 · obtain ⟨r,hr,rfl⟩:=List.mem_map.1 hd;exact (h.rok r hr).2.1
 · obtain ⟨c,hc,rfl⟩:=List.mem_map.1 hd;exact (h.cok c hc).2
theorem TR.add {t:TTable} (h:TR t) (n e:Int) (f:Str):TR (routeAddM t n e f):=by
 unfold routeAddM
 split
 · rename_i hc
   obtain ⟨hf,hp,hn⟩:=hc
   have h1:=next_one h.seen hp
   have hm:=fun x=>@has_add t.seen h.seen (nextDot t.seen n e) x
   have hw:=without_sub t.routes n e f
   have hne:∀ x∈withoutR t.routes n e f,rbefore x ⟨nextDot t.seen n e,f⟩=false->rbefore ⟨nextDot t.seen n e,f⟩ x=true:=by
    intro x hx hb
    cases hb':rbefore ⟨nextDot t.seen n e,f⟩ x with
    | true=>rfl
    | false =>
     have:=rbefore_tri hb hb'
     exact absurd (congrArg TRoute.dot this) (next_fresh (h.rok x (hw.subset hx)).2.1)
   have hi:=ins_pw (R:=rbefore) rbefore_trans (h.rsort.sublist hw) hne (p:=placeR (withoutR t.routes n e f) ⟨nextDot t.seen n e,f⟩) rfl
   refine ⟨add_right h.seen _,h.fences,hi.2.1,fun x hx=>?_,?_,h.csort,fun c hc=>⟨(h.cok c hc).1,hm _ (h.cok c hc).2⟩,?_⟩
   · rcases mem_insR.1 hx with rfl | hx
     · exact ⟨hf,has_self h.seen h1,hn⟩
     · have:=h.rok x (hw.subset hx)
       exact ⟨this.1,hm _ this.2.1,this.2.2⟩
   · refine ((insR_perm _ _).pairwise_iff (fun {a b} (hab:lineNe a b)=>?_)).2 (List.pairwise_cons.2 ⟨fun x hx=>?_,h.rone.sublist hw⟩)
     · exact fun hh=>hab ⟨hh.1.symm,hh.2.1.symm,hh.2.2.symm⟩
     · exact fun hh=>(mem_without.1 hx).2 ⟨hh.1.symm,hh.2.1.symm,hh.2.2.symm⟩
   · have pm:(dotsOf (insR (withoutR t.routes n e f) ⟨nextDot t.seen n e,f⟩) t.cells).Perm (nextDot t.seen n e::dotsOf (withoutR t.routes n e f) t.cells):=((insR_perm _ _).map TRoute.dot).append_right _
     refine (pm.pairwise_iff (fun {a b} (hab:a≠b)=>hab.symm)).2 (List.pairwise_cons.2 ⟨fun x hx=>?_,h.fresh.sublist ((hw.map _).append (List.Sublist.refl _))⟩)
     have:x∈dotsOf t.routes t.cells:=((hw.map TRoute.dot).append (List.Sublist.refl _)).subset hx
     exact (next_fresh (h.hasDots x this)).symm
 · exact h
theorem TR.drop {t:TTable} (h:TR t) (n e:Int) (f:Str):TR (routeDropM t n e f):=by
 unfold routeDropM
 split
 · exact h.sub (add_right h.seen _) (fun x=>has_add h.seen _) h.fences (without_sub _ _ _ _) (fun r hr=>(h.rok r ((without_sub _ _ _ _).subset hr)).2.2)
 · exact h
theorem stepFe_true {n e:Int}:∀ (l:List TFence) (acc:List TFence),(∀ f∈l,n<f.node)->l.foldl (stepFe n e) (acc,true)=(acc++l,true)
 | [],acc,_=>by simp
 | f::l,acc,h=>by
  have hf:=h f (List.mem_cons_self ..)
  rw [List.foldl_cons,stepFe_3 (.inl rfl) (by omega),stepFe_true l _ (fun x hx=>h x (List.mem_cons_of_mem _ hx))]
  simp
def finFe (n e:Int) (a:List TFence×Bool):List TFence:=if a.2=true then a.1 else a.1++[⟨n,e⟩]
theorem filter_none {α:Type} {p:α->Bool} {l:List α} (h:∀ x∈l,p x=false):l.filter p=[]:=List.filter_eq_nil_iff.2 fun x hx=>by rw [h x hx];simp
theorem filter_all {α:Type} {p:α->Bool} {l:List α} (h:∀ x∈l,p x=true):l.filter p=l:=List.filter_eq_self.2 h
theorem stepFe_false {n e:Int}:∀ (l:List TFence) (acc:List TFence),l.Pairwise (fun a b=>a.node<b.node)->finFe n e (l.foldl (stepFe n e) (acc,false))=acc++(l.filter fun f=>decide (f.node<n))++⟨n,e⟩::(l.filter fun f=>decide (n<f.node))
 | [],acc,_=>by simp [finFe]
 | f::l,acc,h=>by
  have hp:=List.pairwise_cons.1 h
  rw [List.foldl_cons]
  rcases Int.lt_trichotomy f.node n with hf | hf | hf
  · rw [stepFe_3 (.inr hf) (by omega),stepFe_false l _ hp.2,List.filter_cons_of_pos (by simpa using hf),List.filter_cons_of_neg (by simp;omega)]
    simp
  · have hl:∀ x∈l,n<x.node:=fun x hx=>by have:=hp.1 x hx;omega
    rw [stepFe_2 rfl hf,stepFe_true l _ hl,List.filter_cons_of_neg (by simp;omega),List.filter_cons_of_neg (by simp;omega),filter_none (p:=fun (f:TFence)=>decide (f.node<n)) (fun x hx=>by have:=hl x hx;simp;omega),filter_all (p:=fun (f:TFence)=>decide (n<f.node)) (fun x hx=>by simpa using hl x hx)]
    simp [finFe]
  · have hl:∀ x∈l,n<x.node:=fun x hx=>by have:=hp.1 x hx;omega
    rw [stepFe_1 rfl (by omega) (by omega),stepFe_true l _ hl,List.filter_cons_of_neg (by simp;omega),List.filter_cons_of_pos (by simpa using hf),filter_none (p:=fun (f:TFence)=>decide (f.node<n)) (fun x hx=>by have:=hl x hx;simp;omega),filter_all (p:=fun (f:TFence)=>decide (n<f.node)) (fun x hx=>by simpa using hl x hx)]
    simp [finFe]
theorem fenceL_eq {fe:List TFence} (h:FR fe) (n e:Int):fenceL fe n e=(fe.filter fun f=>decide (f.node<n))++⟨n,e⟩::(fe.filter fun f=>decide (n<f.node)):=by
 have:=stepFe_false (n:=n) (e:=e) fe [] h.1
 rw [List.nil_append] at this
 rw [<-this]
 unfold fenceL finFe fenceAcc
 rw [List.take_length]
theorem mem_fenceL {fe:List TFence} (h:FR fe) {n e:Int} {x:TFence}:x∈fenceL fe n e↔x=⟨n,e⟩\/(x∈fe/\x.node≠n):=by
 rw [fenceL_eq h,List.mem_append,List.mem_cons,List.mem_filter,List.mem_filter]
 simp only [decide_eq_true_eq]
 constructor
 · rintro (⟨h1,h2⟩ | rfl | ⟨h1,h2⟩)
   · exact .inr ⟨h1,by omega⟩
   · exact .inl rfl
   · exact .inr ⟨h1,by omega⟩
 · rintro (rfl | ⟨h1,h2⟩)
   · exact .inr (.inl rfl)
   · rcases Int.lt_or_gt_of_ne h2 with h3 | h3
     · exact .inl ⟨h1,h3⟩
     · exact .inr (.inr ⟨h1,h3⟩)
theorem fence_right {fe:List TFence} (h:FR fe) {n e:Int} (hp:pairB n e=true):FR (fenceL fe n e):=by
 refine ⟨?_,fun x hx=>?_⟩
 · rw [fenceL_eq h]
   refine List.pairwise_append.2 ⟨h.1.sublist List.filter_sublist,List.pairwise_cons.2 ⟨fun x hx=>by simpa using (List.mem_filter.1 hx).2,h.1.sublist List.filter_sublist⟩,fun x hx y hy=>?_⟩
   have h1:x.node<n:=by simpa using (List.mem_filter.1 hx).2
   rcases List.mem_cons.1 hy with rfl | hy
   · exact h1
   · have h2:n<y.node:=by simpa using (List.mem_filter.1 hy).2
     omega
 · rcases (mem_fenceL h).1 hx with rfl | ⟨hx,_⟩
   · exact hp
   · exact h.2 x hx
theorem fenced_fenceL {fe:List TFence} (h:FR fe) {n e m k:Int}:fencedL (fenceL fe n e) m k=true↔(m=n/\k<=e)\/(m≠n/\fencedL fe m k=true):=by
 rw [fenced_iff,fenced_iff]
 constructor
 · rintro ⟨f,hf,rfl,h2⟩
   rcases (mem_fenceL h).1 hf with rfl | ⟨hf,h3⟩
   · exact .inl ⟨rfl,h2⟩
   · exact .inr ⟨h3,f,hf,rfl,h2⟩
 · rintro (⟨rfl,h2⟩ | ⟨h1,f,hf,rfl,h2⟩)
   · exact ⟨⟨m,e⟩,(mem_fenceL h).2 (.inl rfl),rfl,h2⟩
   · exact ⟨f,(mem_fenceL h).2 (.inr ⟨hf,h1⟩),rfl,h2⟩
theorem mem_unfR {fe:List TFence} {ro:List TRoute} {r:TRoute}:r∈unfR fe ro↔r∈ro/\fencedL fe r.dot.node r.dot.epoch=false:=by
 unfold unfR;rw [List.mem_filter];simp
theorem TR.fence {t:TTable} (h:TR t) (n e:Int):TR (fenceM t n e):=by
 unfold fenceM
 split
 · rename_i hc
   exact h.sub h.seen (fun _ hx=>hx) (fence_right h.fences hc.1) List.filter_sublist (fun r hr=>(mem_unfR.1 hr).2)
 · exact h
theorem TR.cell {t:TTable} (h:TR t) {n e:Int} (hp:pairB n e=true) {c:TCell} (hc:cellB c=true) (hd:c.dot=nextDot t.seen n e) {ce' ce0:List TCell} (hpm:ce'.Perm (c::ce0)) (hs:ce0.Sublist t.cells) (hsort:ce'.Pairwise (fun a b=>Op.bytesLess a.topic b.topic=true)):TR ⟨addM t.seen (nextDot t.seen n e),t.fences,t.routes,ce'⟩ where
 seen:=add_right h.seen _
 fences:=h.fences
 rsort:=h.rsort
 rok r hr:=⟨(h.rok r hr).1,has_add h.seen _ (h.rok r hr).2.1,(h.rok r hr).2.2⟩
 rone:=h.rone
 csort:=hsort
 cok x hx:=by
  rcases List.mem_cons.1 (hpm.mem_iff.1 hx) with rfl | hx
  · exact ⟨hc,by rw [hd];exact has_self h.seen (next_one h.seen hp)⟩
  · exact ⟨(h.cok x (hs.subset hx)).1,has_add h.seen _ (h.cok x (hs.subset hx)).2⟩
 fresh:=by
  have pm:(dotsOf t.routes ce').Perm (nextDot t.seen n e::dotsOf t.routes ce0):=by
   have h1:(dotsOf t.routes ce').Perm (t.routes.map TRoute.dot++nextDot t.seen n e::ce0.map TCell.dot):=by
    have:=(hpm.map TCell.dot).append_left (t.routes.map TRoute.dot)
    rwa [List.map_cons,hd] at this
   exact h1.trans List.perm_middle
  refine (pm.pairwise_iff (fun {a b} (hab:a≠b)=>hab.symm)).2 (List.pairwise_cons.2 ⟨fun x hx=>?_,h.fresh.sublist ((List.Sublist.refl _).append (hs.map _))⟩)
  have:x∈dotsOf t.routes t.cells:=((List.Sublist.refl _).append (hs.map TCell.dot)).subset hx
  exact (next_fresh (h.hasDots x this)).symm
theorem putC_ok {n e:Int} {s1 s2 s3:Int} {m1 m2:Str} {m3:Int} (h:putOk n e s1 s2 s3 m1 m3=true) (d:TDot):cellB (putC d s1 s2 s3 m1 m2 m3)=true/\pairB n e=true:=by
 simp only [putOk,Bool.and_eq_true,decide_eq_true_eq] at h
 obtain ⟨⟨⟨⟨h1,h2⟩,h3⟩,h4⟩,h5⟩:=h
 refine ⟨?_,h4⟩
 unfold cellB putC
 simp only [h1,h5,Bool.true_and,Bool.and_eq_true,decide_eq_true_eq]
 by_cases hl:((m2.length:Int)==0)=true
 · rw [if_pos hl,hl];simp
 · rw [if_neg hl];simp only [Bool.not_eq_true] at hl;rw [hl];simp [h2,h3]
theorem cellIn_facts {ce:List TCell} (hs:ce.Pairwise (fun a b=>Op.bytesLess a.topic b.topic=true)) (c:TCell) :
  cellInM ce c=ce\/∃ ce0,ce0.Sublist ce/\(cellInM ce c).Perm (c::ce0)/\(cellInM ce c).Pairwise (fun a b=>Op.bytesLess a.topic b.topic=true)/\(∀ x∈ce,x.topic≠c.topic->x∈ce0)/\(∀ x∈ce0,x.topic≠c.topic):=by
 obtain ⟨p,hp⟩:∃ p,p=placeC ce c.topic:=⟨_,rfl⟩
 obtain ⟨h1,h2,h3,h4⟩:=firstK_le (fun i=>!Op.bytesLess (ce.getD i default).topic c.topic) ce.length 0
 have hp':firstK (fun i=>!Op.bytesLess (ce.getD i default).topic c.topic) ce.length 0=p:=hp.symm
 rw [hp'] at h1 h2 h3 h4
 have hpl:p<=ce.length:=by omega
 have bef:∀ x∈ce.take p,Op.bytesLess x.topic c.topic=true:=by
  intro x hx
  obtain ⟨i,hi,rfl⟩:=(mem_take_iff hpl).1 hx
  simpa using h3 i (Nat.zero_le _) hi
 have hat:p<ce.length->Op.bytesLess (ce.getD p default).topic c.topic=false:=fun hlt=>by simpa using h4 (by omega)
 have nb:∀ x∈ce.take p,x.topic≠c.topic:=fun x hx e=>by have:=bef x hx;rw [e,bl_irrefl] at this;cases this
 by_cases hc:p<ce.length/\(ce.getD p default).topic=c.topic
 · by_cases hn:newerM (ce.getD p default) c=true
   · left;rw [cellInM,<-hp,if_pos hc,if_pos hn]
   · right
     have e:cellInM ce c=ce.take p++c::ce.drop (p+1):=by rw [cellInM,<-hp,if_pos hc,if_neg hn]
     have aft:∀ x∈ce.drop (p+1),Op.bytesLess c.topic x.topic=true:=by
      intro x hx
      obtain ⟨j,hj1,hj2,rfl⟩:=mem_drop_iff.1 hx
      have:=pw_at hs (show p<j by omega) hj2
      rwa [hc.2] at this
     refine ⟨ce.take p++ce.drop (p+1),skip_sub ce p,?_,?_,fun x hx hne=>?_,fun x hx=>?_⟩
     · rw [e];exact List.perm_middle
     · rw [e];exact pw_ins (hs.sublist (skip_sub ce p)) bef aft
     · obtain ⟨j,hj,rfl⟩:=mem_getD hx
       rcases Nat.lt_trichotomy j p with hjp | rfl | hjp
       · exact List.mem_append_left _ ((mem_take_iff hpl).2 ⟨j,hjp,rfl⟩)
       · exact absurd hc.2 hne
       · exact List.mem_append_right _ (mem_drop_iff.2 ⟨j,hjp,hj,rfl⟩)
     · rcases List.mem_append.1 hx with hx | hx
       · exact nb x hx
       · intro e;have:=aft x hx;rw [e,bl_irrefl] at this;cases this
 · right
   have e:cellInM ce c=ce.take p++c::ce.drop p:=by rw [cellInM,<-hp,if_neg hc]
   have aft:∀ x∈ce.drop p,Op.bytesLess c.topic x.topic=true:=by
    intro x hx
    obtain ⟨j,hj1,hj2,rfl⟩:=mem_drop_iff.1 hx
    have ha:Op.bytesLess c.topic (ce.getD p default).topic=true:=by
     cases hb:Op.bytesLess c.topic (ce.getD p default).topic with
     | true=>rfl
     | false=>exact absurd ⟨by omega,bl_tri _ _ (hat (by omega)) hb⟩ hc
    rcases Nat.eq_or_lt_of_le hj1 with rfl | hlt
    · exact ha
    · exact bl_trans _ _ _ ha (pw_at hs hlt hj2)
   refine ⟨ce,List.Sublist.refl _,?_,?_,fun x hx _=>hx,fun x hx=>?_⟩
   · rw [e];exact ins_perm ce p c
   · rw [e];exact pw_ins (by rw [List.take_append_drop];exact hs) bef aft
   · rw [<-List.take_append_drop p ce] at hx
     rcases List.mem_append.1 hx with hx | hx
     · exact nb x hx
     · intro e;have:=aft x hx;rw [e,bl_irrefl] at this;cases this
theorem TR.put {t:TTable} (h:TR t) (n e:Int) (s:TStamp) (m1 m2:Str) (m3:Int):TR (cellPutM t n e s m1 m2 m3):=by
 unfold cellPutM
 split
 · rename_i hc
   obtain ⟨hcb,hp⟩:=putC_ok (m2:=m2) hc (nextDot t.seen n e)
   rcases cellIn_facts h.csort (putC (nextDot t.seen n e) s.l s.c s.node m1 m2 m3) with he | ⟨ce0,h1,h2,h3,_⟩
   · rw [he]
     exact h.sub (add_right h.seen _) (fun x=>has_add h.seen _) h.fences (List.Sublist.refl _) (fun r hr=>(h.rok r hr).2.2)
   · exact h.cell hp hcb rfl h2 h1 h3
 · exact h
theorem TR.merge {a b:TTable} (ha:TR a) (hb:TR b):TR (mergeM a b):=by
 unfold mergeM
 rw [if_pos (tr_iff.2 ha),if_pos (tr_iff.2 hb)]
 split
 · rename_i h;exact tr_iff.1 h
 · exact ha
end
section
attribute [local irreducible] DW SeqD DV DOp DC DVX
structure Lite (m:Nat) (t:TTable):Prop where
 s:t.seen.length<=m
 f:t.fences.length<=m
 r:t.routes.length<=m
 c:t.cells.length<=m
 rf:∀ r∈t.routes,r.filter.length<=65535
 ct:∀ c∈t.cells,c.topic.length<=65535
 cp:∀ c∈t.cells,c.payload.length<=1000000000
theorem Lite.mono {m n:Nat} {t:TTable} (h:Lite m t) (hmn:m<=n):Lite n t:=⟨Nat.le_trans h.s hmn,Nat.le_trans h.f hmn,Nat.le_trans h.r hmn,Nat.le_trans h.c hmn,h.rf,h.ct,h.cp⟩
theorem insR_len (ro:List TRoute) (r:TRoute):(insR ro r).length=ro.length+1:=by rw [(insR_perm ro r).length_eq];rfl
theorem cellIn_len (ce:List TCell) (c:TCell):(cellInM ce c).length<=ce.length+1:=by
 unfold cellInM
 split
 · split
   · omega
   · simp only [List.length_append,List.length_take,List.length_cons,List.length_drop];omega
 · simp only [List.length_append,List.length_take,List.length_cons,List.length_drop];omega
theorem mem_cellIn {ce:List TCell} {c x:TCell} (h:x∈cellInM ce c):x=c\/x∈ce:=by
 unfold cellInM at h
 have key:∀ q,x∈ce.take (placeC ce c.topic)++c::ce.drop q->x=c\/x∈ce:=by
  intro q hx
  rcases List.mem_append.1 hx with hx | hx
  · exact .inr (List.mem_of_mem_take hx)
  · rcases List.mem_cons.1 hx with rfl | hx
    · exact .inl rfl
    · exact .inr (List.mem_of_mem_drop hx)
 split at h
 · split at h
   · exact .inr h
   · exact key _ h
 · exact key _ h
theorem join_len (a b:List TDot):(joinM a b).length<=a.length+b.length:=by
 unfold joinM
 split
 · exact fold_len b a
 · simp
theorem stays_len (ro1:List TRoute) (se2:List TDot) (ro2:List TRoute):(staysM ro1 se2 ro2).length<=ro1.length:=List.length_filter_le _ _
theorem keeps_len (ce1:List TCell) (se2:List TDot) (ce2:List TCell):(keepsM ce1 se2 ce2).length<=ce1.length:=List.length_filter_le _ _
def roStep (ro:List TRoute) (r:TRoute):List TRoute:=if (withoutR ro r.dot.node r.dot.epoch r.filter).length<ro.length then ro else insR ro r
def ceStep (ce:List TCell) (c:TCell):List TCell:=if ce.any (fun o=>o.topic==c.topic)=true then ce else cellInM ce c
theorem mergeRo_more (ro:List TRoute) {l:List TRoute} {k:Nat} (h:k<l.length):mergeRo ro (l.take (k+1))=roStep (mergeRo ro (l.take k)) (l.getD k default):=foldl_more _ _ h
theorem mergeCe_more (ce:List TCell) {l:List TCell} {k:Nat} (h:k<l.length):mergeCe ce (l.take (k+1))=ceStep (mergeCe ce (l.take k)) (l.getD k default):=foldl_more _ _ h
theorem mergeFe_more (t:TTable) {l:List TFence} {k:Nat} (h:k<l.length):mergeFe t (l.take (k+1))=fenceM (mergeFe t (l.take k)) (l.getD k default).node (l.getD k default).epoch:=foldl_more _ _ h
theorem mergeRo_facts (l:List TRoute):∀ ro:List TRoute,(mergeRo ro l).length<=ro.length+l.length/\∀ x∈mergeRo ro l,x∈ro\/x∈l:=by
 induction l with
 | nil=>intro ro;exact ⟨Nat.le_refl _,fun x hx=>.inl hx⟩
 | cons r l ih =>
  intro ro
  obtain ⟨h1,h2⟩:=ih (roStep ro r)
  have hs:(roStep ro r).length<=ro.length+1/\∀ x∈roStep ro r,x∈ro\/x=r:=by
   unfold roStep
   split
   · exact ⟨by omega,fun x hx=>.inl hx⟩
   · exact ⟨by rw [insR_len];exact Nat.le_refl _,fun x hx=>(mem_insR.1 hx).symm⟩
  refine ⟨?_,fun x hx=>?_⟩
  · show (mergeRo (roStep ro r) l).length<=_
    simp only [List.length_cons];omega
  · rcases h2 x hx with h | h
    · rcases hs.2 x h with h | rfl
      · exact .inl h
      · exact .inr (List.mem_cons_self ..)
    · exact .inr (List.mem_cons_of_mem _ h)
theorem mergeCe_facts (l:List TCell):∀ ce:List TCell,(mergeCe ce l).length<=ce.length+l.length/\∀ x∈mergeCe ce l,x∈ce\/x∈l:=by
 induction l with
 | nil=>intro ce;exact ⟨Nat.le_refl _,fun x hx=>.inl hx⟩
 | cons c l ih =>
  intro ce
  obtain ⟨h1,h2⟩:=ih (ceStep ce c)
  have hs:(ceStep ce c).length<=ce.length+1/\∀ x∈ceStep ce c,x∈ce\/x=c:=by
   unfold ceStep
   split
   · exact ⟨by omega,fun x hx=>.inl hx⟩
   · exact ⟨cellIn_len _ _,fun x hx=>(mem_cellIn hx).symm⟩
  refine ⟨?_,fun x hx=>?_⟩
  · show (mergeCe (ceStep ce c) l).length<=_
    simp only [List.length_cons];omega
  · rcases h2 x hx with h | h
    · rcases hs.2 x h with h | rfl
      · exact .inl h
      · exact .inr (List.mem_cons_self ..)
    · exact .inr (List.mem_cons_of_mem _ h)
theorem stepFe_len1 (node epoch:Int) (a:List TFence×Bool) (f:TFence):(stepFe node epoch a f).1.length+(if (stepFe node epoch a f).2=true then 0 else 1)<=a.1.length+(if a.2=true then 0 else 1)+1:=by
 obtain ⟨l,b⟩:=a
 unfold stepFe
 cases b
 · by_cases h1:f.node=node
   · rw [if_pos h1];by_cases h2:node<=f.node<;>simp [h2]
   · rw [if_neg h1];by_cases h2:node<=f.node<;>simp [h2]
 · by_cases h1:f.node=node<;>simp [h1]
theorem fenceL_len (fe:List TFence) (node epoch:Int):(fenceL fe node epoch).length<=fe.length+1:=by
 have key:∀ k,k<=fe.length->(fenceAcc fe node epoch k).1.length+(if (fenceAcc fe node epoch k).2=true then 0 else 1)<=k+1:=by
  intro k
  induction k with
  | zero=>intro _;simp [fenceAcc_0]
  | succ k ih =>
   intro hk
   rw [fenceAcc_more (by omega)]
   have:=stepFe_len1 node epoch (fenceAcc fe node epoch k) (fe.getD k default)
   have:=ih (by omega)
   omega
 have h:=key fe.length (Nat.le_refl _)
 unfold fenceL
 by_cases hb:(fenceAcc fe node epoch fe.length).2=true
 · rw [if_pos hb] at h ⊢;omega
 · rw [if_neg hb] at h ⊢;simp only [List.length_append,List.length_singleton];omega
theorem fenceM_facts (t:TTable) (n e:Int):(fenceM t n e).seen=t.seen/\(fenceM t n e).cells=t.cells/\(fenceM t n e).fences.length<=t.fences.length+1/\(fenceM t n e).routes.Sublist t.routes:=by
 unfold fenceM
 split
 · exact ⟨rfl,rfl,fenceL_len _ _ _,List.filter_sublist⟩
 · exact ⟨rfl,rfl,by omega,List.Sublist.refl _⟩
theorem mergeFe_facts (l:List TFence):∀ t:TTable,(mergeFe t l).seen=t.seen/\(mergeFe t l).cells=t.cells/\(mergeFe t l).fences.length<=t.fences.length+l.length/\(mergeFe t l).routes.Sublist t.routes:=by
 induction l with
 | nil=>intro t;exact ⟨rfl,rfl,Nat.le_refl _,List.Sublist.refl _⟩
 | cons f l ih =>
  intro t
  obtain ⟨h1,h2,h3,h4⟩:=ih (fenceM t f.node f.epoch)
  obtain ⟨g1,g2,g3,g4⟩:=fenceM_facts t f.node f.epoch
  refine ⟨h1.trans g1,h2.trans g2,?_,h4.trans g4⟩
  show (mergeFe (fenceM t f.node f.epoch) l).fences.length<=_
  simp only [List.length_cons];omega
theorem merge0_lite {m:Nat} {a b:TTable} (ha:Lite m a) (hb:Lite m b):Lite (m+m) (merge0 a b):=by
 have h1:=join_len a.seen b.seen
 have r1:=stays_len a.routes b.seen b.routes
 have r2:=stays_len b.routes a.seen a.routes
 have c1:=keeps_len a.cells b.seen b.cells
 have c2:=keeps_len b.cells a.seen a.cells
 obtain ⟨f1,f2⟩:=mergeRo_facts (staysM b.routes a.seen a.routes) (staysM a.routes b.seen b.routes)
 obtain ⟨g1,g2⟩:=mergeCe_facts (keepsM b.cells a.seen a.cells) (keepsM a.cells b.seen b.cells)
 have:=ha.s;have:=ha.f;have:=ha.r;have:=ha.c;have:=hb.s;have:=hb.f;have:=hb.r;have:=hb.c
 have mr:∀ x∈(merge0 a b).routes,x∈a.routes\/x∈b.routes:=fun x hx=>by
  rcases f2 x hx with h | h
  · exact .inl (List.filter_sublist.subset h)
  · exact .inr (List.filter_sublist.subset h)
 have mc:∀ x∈(merge0 a b).cells,x∈a.cells\/x∈b.cells:=fun x hx=>by
  rcases g2 x hx with h | h
  · exact .inl (List.filter_sublist.subset h)
  · exact .inr (List.filter_sublist.subset h)
 refine ⟨?_,?_,?_,?_,fun r hr=>?_,fun c hc=>?_,fun c hc=>?_⟩
 · show (joinM a.seen b.seen).length<=_;omega
 · show a.fences.length<=_;omega
 · show (mergeRo _ _).length<=_;omega
 · show (mergeCe _ _).length<=_;omega
 · rcases mr r hr with h | h
   · exact ha.rf r h
   · exact hb.rf r h
 · rcases mc c hc with h | h
   · exact ha.ct c h
   · exact hb.ct c h
 · rcases mc c hc with h | h
   · exact ha.cp c h
   · exact hb.cp c h
theorem merge1_lite {m:Nat} {a b:TTable} (ha:Lite m a) (hb:Lite m b) (k:Nat):Lite (m+m) (mergeFe (merge0 a b) (b.fences.take k)):=by
 have h:=merge0_lite ha hb
 obtain ⟨h1,h2,h3,h4⟩:=mergeFe_facts (b.fences.take k) (merge0 a b)
 have hf:(merge0 a b).fences.length<=m:=ha.f
 have:=hb.f
 refine ⟨by rw [h1];exact h.s,?_,Nat.le_trans h4.length_le h.r,by rw [h2];exact h.c,fun r hr=>h.rf r (h4.subset hr),by rw [h2];exact h.ct,by rw [h2];exact h.cp⟩
 rw [List.length_take] at h3;omega
theorem unf_lite {m:Nat} {t:TTable} (h:Lite m t):Lite m { t with routes:=unfR t.fences t.routes }:=by
 refine ⟨h.s,h.f,Nat.le_trans (List.length_filter_le _ _) h.r,h.c,fun r hr=>h.rf r (List.filter_sublist.subset hr),h.ct,h.cp⟩
def unfM (t:TTable):TTable:={ t with routes:=unfR t.fences t.routes }
theorem roStep_1 {ro:List TRoute} {r:TRoute} (h:(withoutR ro r.dot.node r.dot.epoch r.filter).length<ro.length):roStep ro r=ro:=if_pos h
theorem roStep_2 {ro:List TRoute} {r:TRoute} (h:¬ (withoutR ro r.dot.node r.dot.epoch r.filter).length<ro.length):roStep ro r=insR ro r:=if_neg h
theorem ceStep_1 {ce:List TCell} {c:TCell} (h:ce.any (fun o=>o.topic==c.topic)=true):ceStep ce c=ce:=if_pos h
theorem ceStep_2 {ce:List TCell} {c:TCell} (h:ce.any (fun o=>o.topic==c.topic)=false):ceStep ce c=cellInM ce c:=if_neg (by rw [h];simp)
theorem mergeFe_0 (t:TTable) (l:List TFence):mergeFe t (List.take 0 l)=t:=rfl
theorem m0_seen (a b:TTable):(merge0 a b).seen=joinM a.seen b.seen:=rfl
theorem m0_fences (a b:TTable):(merge0 a b).fences=a.fences:=rfl
theorem m0_routes (a b:TTable):(merge0 a b).routes=mergeRo (staysM a.routes b.seen b.routes) (staysM b.routes a.seen a.routes):=rfl
theorem m0_cells (a b:TTable):(merge0 a b).cells=mergeCe (keepsM a.cells b.seen b.cells) (keepsM b.cells a.seen a.cells):=rfl
theorem mergeM_1 {a b:TTable} (h1:tabB a=false) (h2:tabB b=false):mergeM a b=emptyT:=by rw [mergeM,if_neg (by rw [h1];simp),if_neg (by rw [h2];simp)]
theorem mergeM_2 {a b:TTable} (h1:tabB a=false) (h2:tabB b=true):mergeM a b=b:=by rw [mergeM,if_neg (by rw [h1];simp),if_pos h2]
theorem mergeM_3 {a b:TTable} (h1:tabB a=true) (h2:tabB b=false):mergeM a b=a:=by rw [mergeM,if_pos h1,if_neg (by rw [h2];simp)]
theorem mergeM_4 {a b:TTable} (h1:tabB a=true) (h2:tabB b=true) (h3:tabB (unfM (mergeFe (merge0 a b) b.fences))=false):mergeM a b=a:=by rw [mergeM,if_pos h1,if_pos h2,if_neg (by rw [show merge2 a b=unfM (mergeFe (merge0 a b) b.fences) from rfl,h3];simp)]
theorem mergeM_5 {a b:TTable} (h1:tabB a=true) (h2:tabB b=true) (h3:tabB (unfM (mergeFe (merge0 a b) b.fences))=true):mergeM a b=unfM (mergeFe (merge0 a b) b.fences):=by rw [mergeM,if_pos h1,if_pos h2,if_pos (show tabB (merge2 a b)=true from h3)];rfl
theorem merge2_lite {m:Nat} {a b:TTable} (ha:Lite m a) (hb:Lite m b):Lite (m+m) (merge2 a b):=by
 have:=merge1_lite ha hb b.fences.length
 rw [List.take_length] at this
 exact unf_lite this
theorem merge_lite {m:Nat} {a b:TTable} (ha:Lite m a) (hb:Lite m b):Lite (m+m) (mergeM a b):=by
 unfold mergeM
 split
 · split
   · split
     · exact merge2_lite ha hb
     · exact ha.mono (by omega)
   · exact ha.mono (by omega)
 · split
   · exact hb.mono (by omega)
   · exact ⟨Nat.zero_le _,Nat.zero_le _,Nat.zero_le _,Nat.zero_le _,(fun _ h=>nomatch h),(fun _ h=>nomatch h),(fun _ h=>nomatch h)⟩
theorem fenceT_dc (t:TTable) (n e:Int) (F:Own):(Lite 100000000 t)->DC Tryz.prog 67 [.agg [.sl (t.seen.map encDot), .sl (t.fences.map encFence), .sl (t.routes.map encRoute), .sl (t.cells.map encCell)], .int .i64 n, .int .i64 e] (([]:Own)++F) fun d G=>d = .agg [.sl ((fenceM t n e).seen.map encDot), .sl ((fenceM t n e).fences.map encFence), .sl ((fenceM t n e).routes.map encRoute), .sl ((fenceM t n e).cells.map encCell)]/\G=[]++F:=by
 intro h
 refine (rfence_dc t.seen t.fences t.routes t.cells n e F ⟨⟨by have:=h.s;omega,by have:=h.f;omega,by have:=h.r;omega,by have:=h.c;omega⟩,h.f⟩).mono fun d G hd=>?_
 obtain ⟨hd | hd,hG⟩:=hd
 · rw [fenceM,if_neg (by rintro ⟨x,y⟩;rcases hd.1 with h | h<;>simp_all)];exact ⟨hd.2,hG⟩
 · rw [fenceM,if_pos hd.1];exact ⟨hd.2,hG⟩
theorem unfT_dc (t:TTable) (F:Own):(Lite 1000000000 t)->DC Tryz.prog 113 [.agg [.sl (t.seen.map encDot), .sl (t.fences.map encFence), .sl (t.routes.map encRoute), .sl (t.cells.map encCell)]] (([]:Own)++F) fun d G=>d = .agg [.sl ((unfM t).seen.map encDot), .sl ((unfM t).fences.map encFence), .sl ((unfM t).routes.map encRoute), .sl ((unfM t).cells.map encCell)]/\G=[]++F:=by
 intro h
 exact unfenced_dc t.seen t.fences t.routes t.cells F ⟨h.s,h.f,h.r,h.c⟩
theorem rightT_dc (t:TTable) (F:Own):(Lite 1000000000 t)->DC Tryz.prog 22 [.agg [.sl (t.seen.map encDot), .sl (t.fences.map encFence), .sl (t.routes.map encRoute), .sl (t.cells.map encCell)]] (([]:Own)++F) fun d G=>d = .bool (tabB t)/\G=[]++F:=by
 intro h
 exact tableright_dc t.seen t.fences t.routes t.cells F ⟨⟨h.s,h.f,h.r,h.c⟩,fun k hk=>h.rf _ (getD_mem hk),fun k hk=>h.ct _ (getD_mem hk),fun k hk=>h.cp _ (getD_mem hk)⟩
theorem addT_dc (t:TTable) (n e:Int) (f:Str) (F:Own):(Lite 1000000000 t/\f.length<=1000000000 /\ -1000000000000<=topM t.seen n e/\topM t.seen n e<=1000000000000)->DC Tryz.prog 16 [.agg [.sl (t.seen.map encDot), .sl (t.fences.map encFence), .sl (t.routes.map encRoute), .sl (t.cells.map encCell)], .int .i64 n, .int .i64 e, .str f] (([]:Own)++F) fun d G=>d = .agg [.sl ((routeAddM t n e f).seen.map encDot), .sl ((routeAddM t n e f).fences.map encFence), .sl ((routeAddM t n e f).routes.map encRoute), .sl ((routeAddM t n e f).cells.map encCell)]/\G=[]++F:=by
 intro h
 obtain ⟨h,h1,h2,h3⟩:=h
 refine (routeadd_dc t.seen t.fences t.routes t.cells n e f F ⟨⟨h.s,h.f,h.r,h.c⟩,h1,h2,h3⟩).mono fun d G hd=>?_
 obtain ⟨hd | hd,hG⟩:=hd
 · rw [routeAddM,if_neg (by rintro ⟨x,y,z⟩;rcases hd.1 with h | h | h<;>simp_all)];exact ⟨hd.2,hG⟩
 · rw [routeAddM,if_pos hd.1];exact ⟨hd.2,hG⟩
theorem dropT_dc (t:TTable) (n e:Int) (f:Str) (F:Own):(Lite 1000000000 t /\ -1000000000000<=topM t.seen n e/\topM t.seen n e<=1000000000000)->DC Tryz.prog 18 [.agg [.sl (t.seen.map encDot), .sl (t.fences.map encFence), .sl (t.routes.map encRoute), .sl (t.cells.map encCell)], .int .i64 n, .int .i64 e, .str f] (([]:Own)++F) fun d G=>d = .agg [.sl ((routeDropM t n e f).seen.map encDot), .sl ((routeDropM t n e f).fences.map encFence), .sl ((routeDropM t n e f).routes.map encRoute), .sl ((routeDropM t n e f).cells.map encCell)]/\G=[]++F:=by
 intro h
 obtain ⟨h,h2,h3⟩:=h
 refine (rdrop_dc t.seen t.fences t.routes t.cells n e f F ⟨⟨h.s,h.f,h.r,h.c⟩,h2,h3⟩).mono fun d G hd=>?_
 obtain ⟨hd | hd,hG⟩:=hd
 · rw [routeDropM,if_neg (by have:=hd.1;omega)];exact ⟨hd.2,hG⟩
 · rw [routeDropM,if_pos hd.1];exact ⟨hd.2,hG⟩
theorem putT_dc (t:TTable) (n e s1 s2 s3:Int) (m1 m2:Str) (m3:Int) (m4:Bool) (F:Own):(Lite 1000000000 t/\(m1.length<=1000000000/\m2.length<=1000000000) /\ -1000000000000<=topM t.seen n e/\topM t.seen n e<=1000000000000)->DC Tryz.prog 19 [.agg [.sl (t.seen.map encDot), .sl (t.fences.map encFence), .sl (t.routes.map encRoute), .sl (t.cells.map encCell)], .int .i64 n, .int .i64 e, .agg [.int .i64 s1, .int .i64 s2, .int .i64 s3], .agg [.str m1, .sl (m2.map u8), .int .i64 m3, .bool m4]] (([]:Own)++F) fun d G=>d = .agg [.sl ((cellPutM t n e ⟨s1,s2,s3⟩ m1 m2 m3).seen.map encDot), .sl ((cellPutM t n e ⟨s1,s2,s3⟩ m1 m2 m3).fences.map encFence), .sl ((cellPutM t n e ⟨s1,s2,s3⟩ m1 m2 m3).routes.map encRoute), .sl ((cellPutM t n e ⟨s1,s2,s3⟩ m1 m2 m3).cells.map encCell)]/\G=[]++F:=by
 intro h
 obtain ⟨h,h1,h2,h3⟩:=h
 refine (cellput_dc t.seen t.fences t.routes t.cells n e s1 s2 s3 m1 m2 m3 m4 F ⟨⟨h.s,h.f,h.r,h.c⟩,h1,h2,h3⟩).mono fun d G hd=>?_
 obtain ⟨hd | hd,hG⟩:=hd
 · rw [cellPutM,if_neg (by rw [hd.1];simp)];exact ⟨hd.2,hG⟩
 · rw [cellPutM,if_pos hd.1];exact ⟨hd.2,hG⟩
end
section
attribute [local irreducible] DW SeqD DV DOp DC DVX lay2 selfP liesB
end
section
theorem after_lt {ops:List Oper} (hup:∀ k o,ops[k]? = some o->∀ e∈o.after,Region.binds .any e=true->e.on<k):∀ {i j:Nat},After ops.toArray i j->j<i:=by
 have one:∀ i j,Region.waitsFor .any ops.toArray i j=true->j<i:=fun i j h=>by
  obtain ⟨oj,hoj,e,he,hb,hon⟩:=Region.waitsFor_spec h
  have:=hup i oj (by simpa using hoj) e he hb
  omega
 have key:∀ f i j,AfterN ops.toArray f i j->j<i:=by
  intro f
  induction f with
  | zero=>exact fun i j h=>one i j h
  | succ f ih =>
   rintro i j ⟨m,h1,h2⟩
   have:=one i m h1
   have:=ih m j h2
   omega
 rintro i j ⟨f,h⟩
 exact key f i j h
section
variable {P:Program} {ops:List Oper} {mv:List Nat} {T J:Nat->Own->Prop} {val:Nat->Oper->(Operand->V)->V} {side:Nat->Oper->(Operand->V)->Prop} {K:(Nat->V)->Own->Prop} {n:Nat}
def RVJ (P:Program) (ops:List Oper) (mv:List Nat) (J:Nat->Own->Prop) (val:Nat->Oper->(Operand->V)->V) (side:Nat->Oper->(Operand->V)->Prop) (K:(Nat->V)->Own->Prop) (L:Nat->Bool):Nat->List Oper->(Nat->V)->Own->Prop
 | _,[],F,H=>K F H
 | k,o::rest,F,H =>
  if L k=true then RVJ P ops mv J val side K L (k+1) rest F H
  else match gst ops o F with
   | some true =>
    if mv.contains k=true then DOp P o (opdF F) H fun d H'=>J k H'/\RVJ P ops mv J val side K L (k+1) rest (putF F o.dst d) H'
    else side k o (opdF F)/\RVJ P ops mv J val side K L (k+1) rest (putF F o.dst (val k o (opdF F))) H
   | some false=>RVJ P ops mv J val side K L (k+1) rest (putF F o.dst (.tup [])) H
   | none=>False
theorem RVJ.congrL {L L':Nat->Bool}:∀ (l:List Oper) (k:Nat) (F:Nat->V) (H:Own),(∀ j,k<=j->L j=L' j)->RVJ P ops mv J val side K L k l F H->RVJ P ops mv J val side K L' k l F H
 | [],_,_,_,_,h=>h
 | o::rest,k,F,H,he,h=>by
  have ih:=fun F H=>RVJ.congrL rest (k+1) F H fun j hj=>he j (by omega)
  unfold RVJ at h ⊢
  rw [<-he k (Nat.le_refl _)]
  split
  · rename_i hl;rw [if_pos hl] at h;exact ih _ _ h
  · rename_i hl
    rw [if_neg hl] at h
    cases hg:gst ops o F with
    | none=>rw [hg] at h;exact h.elim
    | some b =>
     rw [hg] at h
     cases b with
     | false=>exact ih _ _ h
     | true =>
      simp only at h ⊢
      split
      · rename_i hm;rw [if_pos hm] at h;exact h.mono fun d H' h=>⟨h.1,ih _ _ h.2⟩
      · rename_i hm;rw [if_neg hm] at h;exact ⟨h.1,ih _ _ h.2⟩
variable (hval:∀ k o f f',(∀ x,x∈o.op.operands->f x=f' x)->val k o f=val k o f'/\(side k o f->side k o f'))
include hval
theorem RVJ.pull {L:Nat->Bool} {j:Nat} {oj:Oper} (hj:L j=false) (hun:∀ i oi,i<j->ops[i]? = some oi->L i=false->Free ops oi oj) :
  ∀ (l:List Oper) (k:Nat) (F:Nat->V) (H:Own) (d:V),(∀ i,i<l.length->l[i]? = ops[k+i]?)->k<=j->j<k+l.length->l[j - k]? = some oj ->
   (gst ops oj F=some false->d = .tup [])->(gst ops oj F=some true->mv.contains j=false/\d=val j oj (opdF F)) ->
   RVJ P ops mv J val side K L k l F H->RVJ P ops mv J val side K (fun i=>L i||i==j) k l (putF F oj.dst d) H
 | [],k,F,H,d,_,h1,h2,_,_,_,_=>by simp at h2;omega
 | o::rest,k,F,H,d,hl,hkj,hjk,hoj,hd0,hd1,h=>by
  have h0:ops[k]? = some o:=by simpa using (hl 0 (by simp)).symm
  have hl':∀ i,i<rest.length->rest[i]? = ops[k+1+i]?:=fun i hi=>by have:=hl (i+1) (by simp;omega);simpa [Nat.add_assoc,Nat.add_comm 1 i] using this
  unfold RVJ at h ⊢
  by_cases hk:k=j
  · subst hk
    have ho:o=oj:=by simpa using hoj
    subst ho
    rw [if_pos (by simp)]
    rw [if_neg (by simp [hj])] at h
    have hc:∀ {F H},RVJ P ops mv J val side K L (k+1) rest F H->RVJ P ops mv J val side K (fun i=>L i||i==k) (k+1) rest F H:=fun {F H} h =>
     RVJ.congrL rest _ _ _ (fun i hi=>by simp;omega) h
    cases hg:gst ops o F with
    | none=>rw [hg] at h;exact h.elim
    | some b =>
     rw [hg] at h
     cases b with
     | false=>rw [hd0 hg];exact hc h
     | true =>
      obtain ⟨hm,hd⟩:=hd1 hg
      simp only [hm,Bool.false_eq_true,if_false] at h
      rw [hd]
      exact hc h.2
  · have hlt:k<j:=by omega
    have hjk':j<k+1+rest.length:=by simp at hjk;omega
    have hoj':rest[j - (k+1)]? = some oj:=by
     have:j - k=(j - (k+1))+1:=by omega
     rw [this] at hoj
     simpa using hoj
    have hneq:(k==j)=false:=by simp;omega
    simp only [hneq,Bool.or_false]
    by_cases hlk:L k=true
    · rw [if_pos hlk] at h ⊢
      exact RVJ.pull hj hun rest (k+1) F H d hl' (by omega) hjk' hoj' hd0 hd1 h
    · rw [if_neg hlk] at h ⊢
      have fr:=hun k o hlt h0 (by simpa using hlk)
      rw [fr.gst2]
      have ih:=fun F' H' (e1:gst ops oj F'=gst ops oj F) (e2:val j oj (opdF F')=val j oj (opdF F))=>RVJ.pull hj hun rest (k+1) F' H' d hl' (by omega) hjk' hoj' (fun h=>hd0 (e1▸h)) (fun h=>by rw [e2];exact hd1 (e1▸h))
      cases hg:gst ops o F with
      | none=>rw [hg] at h;exact h.elim
      | some b =>
       rw [hg] at h
       cases b with
       | false =>
        simp only at h ⊢
        rw [<-fr.put]
        exact ih _ _ (fr.gst1 _ _) (fr.val1 hval _ _ _) h
       | true =>
        simp only at h ⊢
        split
        · rename_i hm
          rw [if_pos hm] at h
          refine (h.congr fun x hx=>(fr.ops2 F d x hx).symm).mono fun d' H' h=>⟨h.1,?_⟩
          rw [<-fr.put]
          exact ih _ _ (fr.gst1 _ _) (fr.val1 hval _ _ _) h.2
        · rename_i hm
          rw [if_neg hm] at h
          refine ⟨fr.side2 hval _ _ _ h.1,?_⟩
          rw [fr.val2 hval k,<-fr.put]
          exact ih _ _ (fr.gst1 _ _) (fr.val1 hval _ _ _) h.2
theorem RVJ.pullM {L:Nat->Bool} {j:Nat} {oj:Oper} (hj:L j=false) (hm:mv.contains j=true) (hun:∀ i oi,i<j->ops[i]? = some oi->L i=false->Free ops oi oj/\mv.contains i=false) :
  ∀ (l:List Oper) (k:Nat) (F:Nat->V) (H:Own),(∀ i,i<l.length->l[i]? = ops[k+i]?)->k<=j->j<k+l.length->l[j - k]? = some oj->gst ops oj F=some true ->
   RVJ P ops mv J val side K L k l F H->DOp P oj (opdF F) H fun d H'=>J j H'/\RVJ P ops mv J val side K (fun i=>L i||i==j) k l (putF F oj.dst d) H'
 | [],k,F,H,_,h1,h2,_,_,_=>by simp at h2;omega
 | o::rest,k,F,H,hl,hkj,hjk,hoj,hgj,h=>by
  have h0:ops[k]? = some o:=by simpa using (hl 0 (by simp)).symm
  have hl':∀ i,i<rest.length->rest[i]? = ops[k+1+i]?:=fun i hi=>by have:=hl (i+1) (by simp;omega);simpa [Nat.add_assoc,Nat.add_comm 1 i] using this
  by_cases hk:k=j
  · subst hk
    have ho:o=oj:=by simpa using hoj
    subst ho
    unfold RVJ at h
    rw [if_neg (by simp [hj]),hgj] at h
    simp only [hm,if_true] at h
    refine h.mono fun d H' h=>⟨h.1,?_⟩
    unfold RVJ
    rw [if_pos (by simp)]
    exact RVJ.congrL rest _ _ _ (fun i hi=>by simp;omega) h.2
  · have hlt:k<j:=by omega
    have hjk':j<k+1+rest.length:=by simp at hjk;omega
    have hoj':rest[j - (k+1)]? = some oj:=by
     have:j - k=(j - (k+1))+1:=by omega
     rw [this] at hoj
     simpa using hoj
    have hneq:(k==j)=false:=by simp;omega
    unfold RVJ at h
    by_cases hlk:L k=true
    · rw [if_pos hlk] at h
      refine (RVJ.pullM hj hm hun rest (k+1) F H hl' (by omega) hjk' hoj' hgj h).mono fun d H' h=>⟨h.1,?_⟩
      unfold RVJ
      rw [if_pos (by simp [hlk])]
      exact h.2
    · rw [if_neg hlk] at h
      obtain ⟨fr,hmk⟩:=hun k o hlt h0 (by simpa using hlk)
      cases hg:gst ops o F with
      | none=>rw [hg] at h;exact h.elim
      | some b =>
       rw [hg] at h
       cases b with
       | false =>
        simp only at h
        refine ((RVJ.pullM hj hm hun rest (k+1) _ H hl' (by omega) hjk' hoj' (by rw [fr.gst1];exact hgj) h).congr fun x hx=>fr.ops1 F _ x hx).mono fun d H' h=>⟨h.1,?_⟩
        unfold RVJ
        rw [if_neg (by simp [hlk];omega),fr.gst2,hg]
        simp only
        rw [<-fr.put]
        exact h.2
       | true =>
        simp only [hmk,Bool.false_eq_true,if_false] at h
        refine ((RVJ.pullM hj hm hun rest (k+1) _ H hl' (by omega) hjk' hoj' (by rw [fr.gst1];exact hgj) h.2).congr fun x hx=>fr.ops1 F _ x hx).mono fun d H' h'=>⟨h'.1,?_⟩
        unfold RVJ
        rw [if_neg (by simp [hlk];omega),fr.gst2,hg]
        simp only [hmk,Bool.false_eq_true,if_false]
        refine ⟨fr.side2 hval _ _ _ h.1,?_⟩
        rw [fr.val2 hval k,<-fr.put]
        exact h'.2
variable (hok:DrawOk ops mv []) (hfl:∀ k o,ops[k]? = some o->mv.contains k=false->∀ f H,T k H->side k o f->DOp P o f H fun d H'=>d=val k o f/\H'=H) (hJ:∀ i H,mv.contains i=true->J i H->∀ k,k<ops.length->k≠i->¬ After ops.toArray i k->T k H) (hdst:dstB n ops=true)
include hok hfl hJ hdst
theorem dst_ofJ (k:Nat) (o:Oper) (h:ops[k]? = some o):o.dst.all (· < n)=true:=by
 have:=List.all_eq_true.1 hdst o (List.mem_of_getElem? h)
 simpa using this
theorem RVJ.known {L:Nat->Bool} {j:Nat} {oj:Oper} (hj:L j=false) (hun:∀ i oi,i<j->ops[i]? = some oi->L i=false->Free ops oi oj) :
  ∀ (l:List Oper) (k:Nat) (F:Nat->V) (H:Own) (a:Act) (w:World),(∀ i,i<l.length->l[i]? = ops[k+i]?)->k<=j->j<k+l.length->l[j - k]? = some oj ->
   Sim w H->(∀ i,k<=i->i<ops.length->L i=false->T i H)->RF n w H a.tmps F->RVJ P ops mv J val side K L k l F H->(∃ b,gst ops oj F=some b)/\(gst ops oj F=some true->mv.contains j=false->side j oj (opdF F))
 | [],k,F,H,a,w,_,h1,h2,_,_,_,_,_=>by simp at h2;omega
 | o::rest,k,F,H,a,w,hl,hkj,hjk,hoj,hs,hi,hr,h=>by
  have h0:ops[k]? = some o:=by simpa using (hl 0 (by simp)).symm
  have hl':∀ i,i<rest.length->rest[i]? = ops[k+1+i]?:=fun i hi=>by have:=hl (i+1) (by simp;omega);simpa [Nat.add_assoc,Nat.add_comm 1 i] using this
  have hdo:=dst_ofJ hval hok hfl hJ hdst k o h0
  have hko:k<ops.length:=(List.getElem?_eq_some_iff.1 h0).1
  have hnx:∀ i,k+1<=i->i<ops.length->L i=false->T i H:=fun i h=>hi i (by omega)
  unfold RVJ at h
  by_cases hk:k=j
  · subst hk
    have ho:o=oj:=by simpa using hoj
    subst ho
    rw [if_neg (by simp [hj])] at h
    cases hg:gst ops o F with
    | none=>rw [hg] at h;exact h.elim
    | some b =>
     rw [hg] at h
     refine ⟨⟨b,rfl⟩,fun hb hm=>?_⟩
     injection hb with hb
     subst hb
     simp only [hm,Bool.false_eq_true,if_false] at h
     exact h.1
  · have hlt:k<j:=by omega
    have hjk':j<k+1+rest.length:=by simp at hjk;omega
    have hoj':rest[j - (k+1)]? = some oj:=by
     have:j - k=(j - (k+1))+1:=by omega
     rw [this] at hoj
     simpa using hoj
    by_cases hlk:L k=true
    · rw [if_pos hlk] at h
      exact RVJ.known hj hun rest (k+1) F H a w hl' (by omega) hjk' hoj' hs hnx hr h
    · rw [if_neg hlk] at h
      have fr:=hun k o hlt h0 (by simpa using hlk)
      have back:∀ d,((∃ b,gst ops oj (putF F o.dst d)=some b)/\(gst ops oj (putF F o.dst d)=some true->mv.contains j=false->side j oj (opdF (putF F o.dst d)))) ->
        (∃ b,gst ops oj F=some b)/\(gst ops oj F=some true->mv.contains j=false->side j oj (opdF F)):=fun d ⟨x,y⟩=>by
       rw [fr.gst1] at x y
       exact ⟨x,fun h1 h2=>fr.side1 hval _ _ _ (y h1 h2)⟩
      cases hg:gst ops o F with
      | none=>rw [hg] at h;exact h.elim
      | some b =>
       rw [hg] at h
       cases b with
       | false=>exact back _ (RVJ.known hj hun rest (k+1) _ H (a.put o.dst undef) w hl' (by omega) hjk' hoj' hs hnx (hr.put hdo (R.skipped _ _)) h)
       | true =>
        simp only at h
        split at h
        · rename_i hm
          refine wp_some (P:=P) (o:=o) (a:=a) (w:=w) (h a w _ _ hs (fun x _=>hr.opd x) fun v w' d H' s x r k'=>?_)
          exact back _ (RVJ.known hj hun rest (k+1) _ H' _ w' hl' (by omega) hjk' hoj' s (fun i h1 h2 _=>hJ k H' hm k'.1 i h2 (by omega) fun ha=>by
           have:=after_lt hok.up ha
           omega) ((hr.ext x).put hdo r) k'.2)
        · rename_i hm
          refine wp_some (P:=P) (o:=o) (a:=a) (w:=w) (hfl k o h0 (by simpa using hm) _ H (hi k (Nat.le_refl _) hko (by simpa using hlk)) h.1 a w _ _ hs (fun x _=>hr.opd x) fun v w' d H' s x r ⟨hd,hH⟩=>?_)
          subst hd
          subst hH
          exact back _ (RVJ.known hj hun rest (k+1) _ H' _ w' hl' (by omega) hjk' hoj' s hnx ((hr.ext x).put hdo r) h.2)
theorem closed_afterJ {listed:Array Bool} (inv:HeadInv .any ops.toArray ops.length listed):∀ (f i j:Nat),listed.getD i false=true->AfterN ops.toArray f i j->listed.getD j false=true
 | 0,i,j,hi,h=>by
  obtain ⟨oj,hoj,e,he,hb,hon⟩:=Region.waitsFor_spec h
  have:=inv.closed i oj hoj hi e he hb
  rwa [hon] at this
 | f+1,i,j,hi,⟨m,h1,h2⟩=>by
  obtain ⟨oj,hoj,e,he,hb,hon⟩:=Region.waitsFor_spec h1
  have:=inv.closed i oj hoj hi e he hb
  exact closed_afterJ inv f m j (hon▸this) h2
theorem ready_afterJ {listed:Array Bool} (inv:HeadInv .any ops.toArray ops.length listed) {i j:Nat} (hi:i∈Region.ready .any ops.toArray listed) (h:After ops.toArray i j):listed.getD j false=true:=by
 obtain ⟨f,hf⟩:=h
 have one:∀ j,Region.waitsFor .any ops.toArray i j=true->listed.getD j false=true:=fun j h=>by
  obtain ⟨_,oi,hoi,hall⟩:=mem_ready.1 hi
  obtain ⟨oj,hoj,e,he,hb,hon⟩:=Region.waitsFor_spec h
  have:oj=oi:=Option.some.inj (hoj.symm.trans hoi)
  subst this
  have:=hall e he hb
  rwa [hon] at this
 cases f with
 | zero=>exact one j hf
 | succ f =>
  obtain ⟨m,h1,h2⟩:=hf
  exact closed_afterJ hval hok hfl hJ hdst inv f m j (one m h1) h2
theorem RVJ.done {L:Nat->Bool}:∀ (l:List Oper) (k:Nat) (F:Nat->V) (H:Own),(∀ j,k<=j->j<k+l.length->L j=true)->RVJ P ops mv J val side K L k l F H->K F H
 | [],_,_,_,_,h=>h
 | o::rest,k,F,H,hL,h=>by
  unfold RVJ at h
  rw [if_pos (hL k (Nat.le_refl _) (by simp))] at h
  exact RVJ.done rest (k+1) F H (fun j h1 h2=>hL j (by omega) (by simp;omega)) h
theorem count_lessJ {listed:Array Bool} {i:Nat} (h:listed.getD i true=false):(listed.setIfInBounds i true).toList.count false+1=listed.toList.count false:=by
 have hlt:i<listed.size:=by
  rcases Nat.lt_or_ge i listed.size with h' | h'
  · exact h'
  · simp [Array.getElem?_eq_none h'] at h
 have h0:listed.toList[i]'(by simpa using hlt)=false:=by simpa [hlt] using h
 have hpos:0<listed.toList.count false:=List.count_pos_iff.2 (h0▸List.getElem_mem _)
 have hc:=List.count_set (a:=true) (b:=false) (l:=listed.toList) (i:=i) (by simpa using hlt)
 rw [h0] at hc
 rw [Array.toList_setIfInBounds,hc]
 simp only [BEq.rfl,if_true,show ((true==false)=true)=False by simp,if_false,Nat.add_zero]
 omega
theorem first_unJ {listed:Array Bool} (hs:listed.size=ops.length):∀ m,(∀ j,j<m->listed.getD j false=true)\/∃ k,k<m/\listed.getD k false=false/\∀ j,j<k->listed.getD j false=true
 | 0=>.inl fun j hj=>by omega
 | m+1=>by
  rcases first_unJ hs m with h | ⟨k,h1,h2,h3⟩
  · cases hm:listed.getD m false with
    | true =>
     refine .inl fun j hj=>?_
     rcases Nat.lt_or_ge j m with h' | h'
     · exact h j h'
     · rw [show j=m by omega];exact hm
    | false=>exact .inr ⟨m,by omega,hm,h⟩
  · exact .inr ⟨k,by omega,h2,h3⟩
theorem RVJ.all {Q:Exit->Act->World->Prop} {w0:World} {G0:Own} {D:List Deferred} (hQ:∀ a' w' F' H',a'.defers=D->Sim w' H'->RF n w' H' a'.tmps F'->Ext w0 G0 w' H'->K F' H'->Q .normal a' w') :
  ∀ (c:Nat) (listed:Array Bool) (F:Nat->V) (H:Own) (a:Act) (w:World),listed.toList.count false=c->HeadInv .any ops.toArray ops.length listed->RVJ P ops mv J val side K (fun k=>listed.getD k false) 0 ops F H ->
   Sim w H->(∀ i,i<ops.length->listed.getD i false=false->T i H)->RF n w H a.tmps F->Ext w0 G0 w H->a.defers=D->wpAny P .any ops.toArray Q c listed a w:=by
 intro c
 induction c with
 | zero =>
  intro listed F H a w hc inv h hs hi hr hx hD
  have hall:∀ j,listed.getD j true=true:=fun j=>by
   cases hj:listed.getD j true with
   | true=>rfl
   | false=>have:=count_lessJ hval hok hfl hJ hdst hj;omega
  refine ⟨?_,?_⟩
  · cases hrd:Region.ready .any ops.toArray listed with
    | nil=>rfl
    | cons i l =>
     have:i∈Region.ready .any ops.toArray listed:=by rw [hrd];exact List.mem_cons_self
     have:=(mem_ready.1 this).1
     rw [hall] at this
     cases this
  · refine hQ a w F H hD hs hr hx (RVJ.done hval hok hfl hJ hdst ops 0 F H (fun j _ hj=>?_) h)
    have h1:=hall j
    have h2:j<listed.size:=by rw [inv.size];simpa using hj
    simp [h2] at h1 ⊢
    exact h1
 | succ c ih =>
  intro listed F H a w hc inv h hs hi hr hx hD
  have hsz:listed.size=ops.length:=by simpa using inv.size
  refine ⟨fun h0=>?_,fun i hi'=>?_⟩
  · rcases first_unJ hval hok hfl hJ hdst hsz ops.length with hall | ⟨k,hk,hkf,hlow⟩
    · exfalso
      have:listed.toList.count false=0:=List.count_eq_zero.2 fun hm=>by
       obtain ⟨j,hj,e⟩:=List.getElem_of_mem hm
       have hj':j<listed.size:=by simpa using hj
       have:=hall j (by omega)
       simp [hj'] at this
       simp at e
       rw [this] at e
       cases e
      omega
    · exfalso
      have hkl:k<listed.size:=by omega
      have:k∈Region.ready .any ops.toArray listed:=mem_ready.2 ⟨getD_in hkl hkf,ops[k],by simp [hk],fun e he hb=>hlow _ (hok.up k _ (by simp [hk]) e he hb)⟩
      rw [h0] at this
      cases this
  · obtain ⟨hun,oi,hoi,_⟩:=mem_ready.1 hi'
    have hoi':ops[i]? = some oi:=by simpa using hoi
    have hilt:i<ops.length:=(List.getElem?_eq_some_iff.1 hoi').1
    have hlf:listed.getD i false=false:=getD_both hun
    have inv':=inv.set hi' (by simpa using hilt)
    have hc':(listed.setIfInBounds i true).toList.count false=c:=by have:=count_lessJ hval hok hfl hJ hdst hun;omega
    have hpair:∀ k ok,k<i->ops[k]? = some ok->listed.getD k false=false->Free ops ok oi/\¬ (mv.contains k=true/\mv.contains i=true):=fun k ok hk hok' hkf=>by
     rcases hok.pair k i ok oi hk hok' hoi' with h' | ⟨h1,h2⟩
     · rw [ready_afterJ hval hok hfl hJ hdst inv hi' h'] at hkf;cases hkf
     · exact ⟨free_of h1,h2⟩
    have hLc:∀ {F H},RVJ P ops mv J val side K (fun k=>listed.getD k false||k==i) 0 ops F H->RVJ P ops mv J val side K (fun k=>(listed.setIfInBounds i true).getD k false) 0 ops F H:=fun {F H} h =>
     RVJ.congrL ops 0 F H (fun j _=>by
      by_cases hji:j=i
      · subst hji
        have:j<listed.size:=by omega
        simp [this]
      · have:(j==i)=false:=by simpa using hji
        rw [this,Bool.or_false,getD_set_ne false (Ne.symm hji)]) h
    have hback:∀ m,(listed.setIfInBounds i true).getD m false=false->listed.getD m false=false/\m≠i:=fun m h=>by
     by_cases hmi:m=i
     · subst hmi
       have:m<listed.size:=by omega
       simp [this] at h
     · rw [getD_set_ne false (Ne.symm hmi)] at h
       exact ⟨h,hmi⟩
    obtain ⟨⟨b,hb⟩,hside⟩:=RVJ.known hval hok hfl hJ hdst (L:=fun k=>listed.getD k false) hlf (fun k ok h1 h2 h3=>(hpair k ok h1 h2 h3).1) ops 0 F H a w (fun k _=>by simp) (Nat.zero_le _) (by simpa using hilt) (by simpa using hoi') hs (fun k _ hk hkf=>hi k hk hkf) hr h
    have hw:=gst_wanted hr hb
    have hdi:=dst_ofJ hval hok hfl hJ hdst i oi hoi'
    unfold wpOp
    rw [hoi]
    simp only [hw]
    cases b with
    | false =>
     simp only [Bool.false_eq_true,if_false]
     refine ih _ (putF F oi.dst (.tup [])) H _ w hc' inv' (hLc ?_) hs (fun k hk hkf=>hi k hk (hback k hkf).1) (hr.put hdi (R.skipped _ _)) hx (by rw [<-hD];cases oi.dst<;>rfl)
     exact RVJ.pull hval hlf (fun k ok h1 h2 h3=>(hpair k ok h1 h2 h3).1) ops 0 F H _ (fun k _=>by simp) (Nat.zero_le _) (by simpa using hilt) (by simpa using hoi') (fun _=>rfl) (fun h'=>by rw [hb] at h';cases h') h
    | true =>
     simp only [if_true]
     refine .inl ?_
     cases hm:mv.contains i with
     | true =>
      refine RVJ.pullM hval hlf hm (fun k ok h1 h2 h3=>?_) ops 0 F H (fun k _=>by simp) (Nat.zero_le _) (by simpa using hilt) (by simpa using hoi') hb h a w _ _ hs (fun x _=>hr.opd x) fun v w' d H' s x r k'=>?_
      · obtain ⟨g1,g2⟩:=hpair k ok h1 h2 h3
        refine ⟨g1,?_⟩
        cases hmk:mv.contains k with
        | true=>exact absurd ⟨hmk,hm⟩ g2
        | false=>rfl
      · exact ih _ _ H' _ w' hc' inv' (hLc k'.2) s (fun k hk hkf=>hJ i H' hm k'.1 k hk (hback k hkf).2 fun ha=>by
         have:=ready_afterJ hval hok hfl hJ hdst inv hi' ha
         rw [(hback k hkf).1] at this;cases this) ((hr.ext x).put hdi r) (hx.trans x) (by rw [<-hD];cases oi.dst<;>rfl)
     | false =>
      refine hfl i oi hoi' hm _ H (hi i hilt hlf) (hside hb hm) a w _ _ hs (fun x _=>hr.opd x) fun v w' d H' s x r ⟨hd,hH⟩=>?_
      subst hd
      subst hH
      refine ih _ _ H' _ w' hc' inv' (hLc ?_) s (fun k hk hkf=>hi k hk (hback k hkf).1) ((hr.ext x).put hdi r) (hx.trans x) (by rw [<-hD];cases oi.dst<;>rfl)
      exact RVJ.pull hval hlf (fun k ok h1 h2 h3=>(hpair k ok h1 h2 h3).1) ops 0 F H' _ (fun k _=>by simp) (Nat.zero_le _) (by simpa using hilt) (by simpa using hoi') (fun h'=>by rw [hb] at h';cases h') (fun _=>⟨hm,rfl⟩) h
end
def klV (P:Program) (cs0:List V) (o:Oper) (f:Operand->V):V :=
 match o.op with
 | .load t x=>match f x with
  | .raw (.pointer (some p))=>partV (ty P t) (cs0.drop p.off) 0
  | _=>.any
 | _=>.any
def klS (P:Program) (B:Nat) (cs0:List V) (o:Oper) (f:Operand->V):Prop :=
 match o.op with
 | .load t x=>match f x with
  | .raw (.pointer (some p))=>p.block=B/\p.spot=none/\partS (ty P t) (cs0.drop p.off) 0
  | _=>False
 | _=>False
theorem kl_sound {P:Program} {B:Nat} {cs0:List V} {o:Oper} {f:Operand->V} {H:Own} (h:klS P B cs0 o f) (hm:Ent.blk B cs0∈H):DOp P o f H fun d H'=>d=klV P cs0 o f/\H'=H:=by
 unfold klS at h
 split at h
 · rename_i t x hop
   split at h
   · rename_i p hx
     obtain ⟨h1,h2,h3⟩:=h
     obtain ⟨b,off,sp⟩:=p
     simp only at h1 h2 h3
     subst h1 h2
     obtain ⟨L1,L2,rfl⟩:=List.append_of_mem hm
     refine DOp.load_ hop hx ⟨cs0,L1,L2,rfl,h3,?_,rfl⟩
     unfold klV;rw [hop];simp only;rw [hx]
   · exact h.elim
 · exact h.elim
theorem kl_congr {P:Program} {B:Nat} {cs0:List V} (o:Oper) (f f':Operand->V) (h:∀ x,x∈o.op.operands->f x=f' x):klV P cs0 o f=klV P cs0 o f'/\(klS P B cs0 o f->klS P B cs0 o f'):=by
 unfold klV klS
 split
 · rename_i t x hop
   rw [h x (by simp [hop,Op.operands])]
   exact ⟨rfl,fun h=>h⟩
 · exact ⟨rfl,fun h=>h⟩
def DVJ (P:Program) (mv kl nb:List Nat) (B:Nat) (cs0:List V) (K:Env->Own->Prop):Nat->List Oper->Env->Own->Prop
 | _,[],e,H=>K e H
 | i,o::rest,e,H=>o.guard=none /\
  if mv.contains i=true then DOp P o (opd e) H fun d H'=>(nb.contains i=true->Ent.blk B cs0∈H')/\DVJ P mv kl nb B cs0 K (i+1) rest (putO e o.dst d) H'
  else if kl.contains i=true then klS P B cs0 o (opd e)/\DVJ P mv kl nb B cs0 K (i+1) rest (putO e o.dst (klV P cs0 o (opd e))) H
  else side P o (opd e)/\DVJ P mv kl nb B cs0 K (i+1) rest (putO e o.dst (val P o (opd e))) H
@[congr] theorem DVJ_congr (P:Program) (mv kl nb:List Nat) (B:Nat) (cs0:List V) (K:Env->Own->Prop) (i:Nat) (l:List Oper) {e e':Env} {H H':Own} (h:e=e') (hH:H=H'):DVJ P mv kl nb B cs0 K i l e H=DVJ P mv kl nb B cs0 K i l e' H':=by rw [h,hH]
def nbOk (ops:List Oper) (mv kl nb:List Nat):Bool:=mv.all fun i=>nb.contains i||(List.range ops.length).all fun k=>!kl.contains k||k==i||((masks ops).getD i 0).testBit k
def valJ (P:Program) (kl:List Nat) (cs0:List V) (k:Nat) (o:Oper) (f:Operand->V):V:=if kl.contains k=true then klV P cs0 o f else val P o f
def sideJ (P:Program) (kl:List Nat) (B:Nat) (cs0:List V) (k:Nat) (o:Oper) (f:Operand->V):Prop:=if kl.contains k=true then klS P B cs0 o f else side P o f
theorem DVJ.rv {P:Program} {mv kl nb:List Nat} {B:Nat} {cs0:List V} {K:Env->Own->Prop} {ops:List Oper}:∀ (l:List Oper) (i:Nat) (e:Env) (H:Own),DVJ P mv kl nb B cs0 K i l e H ->
  RVJ P ops mv (fun i H'=>nb.contains i=true->Ent.blk B cs0∈H') (valJ P kl cs0) (sideJ P kl B cs0) (KF K) (fun _=>false) i l (get e) H
 | [],i,e,H,h=>⟨e,rfl,h⟩
 | o::rest,i,e,H,h=>by
  unfold DVJ at h
  obtain ⟨hg,h⟩:=h
  unfold RVJ
  rw [if_neg (by simp),show gst ops o (get e)=some true by unfold gst;rw [hg]]
  simp only
  rw [opdF_get]
  split at h
  · rename_i hm
    rw [if_pos hm]
    exact h.mono fun d H' h=>⟨h.1,by rw [<-get_putO];exact DVJ.rv rest (i+1) _ _ h.2⟩
  · rename_i hm
    rw [if_neg hm]
    unfold valJ sideJ
    split at h
    · rename_i hk
      rw [if_pos hk,if_pos hk,<-get_putO]
      exact ⟨h.1,DVJ.rv rest (i+1) _ _ h.2⟩
    · rename_i hk
      rw [if_neg hk,if_neg hk,<-get_putO]
      exact ⟨h.1,DVJ.rv rest (i+1) _ _ h.2⟩
section
variable {P:Program} {n:Nat} {Q:Exit->Env->Own->Prop} {e:Env} {H:Own}
theorem DVJ.nil_ {mv kl nb:List Nat} {B:Nat} {cs0:List V} {K:Env->Own->Prop} {i:Nat} (h:K e H):DVJ P mv kl nb B cs0 K i [] e H:=h
theorem DVJ.ma_ {mv kl nb:List Nat} {B:Nat} {cs0:List V} {K:Env->Own->Prop} {i:Nat} {o:Oper} {rest:List Oper} (hg:o.guard=none) (hm:mv.contains i=true) (hn:nb.contains i=true)
  (h:DOp P o (opd e) H fun d H'=>Ent.blk B cs0∈H'/\DVJ P mv kl nb B cs0 K (i+1) rest (putO e o.dst d) H'):DVJ P mv kl nb B cs0 K i (o::rest) e H:=by
 unfold DVJ;rw [if_pos hm];exact ⟨hg,h.mono fun d H' h=>⟨fun _=>h.1,h.2⟩⟩
theorem DVJ.mb_ {mv kl nb:List Nat} {B:Nat} {cs0:List V} {K:Env->Own->Prop} {i:Nat} {o:Oper} {rest:List Oper} (hg:o.guard=none) (hm:mv.contains i=true) (hn:nb.contains i=false)
  (h:DOp P o (opd e) H fun d H'=>DVJ P mv kl nb B cs0 K (i+1) rest (putO e o.dst d) H'):DVJ P mv kl nb B cs0 K i (o::rest) e H:=by
 unfold DVJ;rw [if_pos hm];exact ⟨hg,h.mono fun d H' h=>⟨(fun hh=>by rw [hn] at hh;cases hh),h⟩⟩
theorem DVJ.k_ {mv kl nb:List Nat} {B:Nat} {cs0:List V} {K:Env->Own->Prop} {i:Nat} {o:Oper} {rest:List Oper} (hg:o.guard=none) (hm:mv.contains i=false) (hk:kl.contains i=true)
  (h:klS P B cs0 o (opd e)/\DVJ P mv kl nb B cs0 K (i+1) rest (putO e o.dst (klV P cs0 o (opd e))) H):DVJ P mv kl nb B cs0 K i (o::rest) e H:=by
 unfold DVJ;rw [if_neg (by rw [hm];exact Bool.false_ne_true),if_pos hk];exact ⟨hg,h⟩
theorem DVJ.f_ {mv kl nb:List Nat} {B:Nat} {cs0:List V} {K:Env->Own->Prop} {i:Nat} {o:Oper} {rest:List Oper} (hg:o.guard=none) (hm:mv.contains i=false) (hk:kl.contains i=false)
  (h:side P o (opd e)/\DVJ P mv kl nb B cs0 K (i+1) rest (putO e o.dst (val P o (opd e))) H):DVJ P mv kl nb B cs0 K i (o::rest) e H:=by
 unfold DVJ;rw [if_neg (by rw [hm];exact Bool.false_ne_true),if_neg (by rw [hk];exact Bool.false_ne_true)];exact ⟨hg,h⟩
theorem DW.drawJ (t:Nat) (ks mv kl nb:List Nat) {B:Nat} {id:Nat} {l:List Oper} (ht:get e t = .raw (.pointer (some ⟨B,0,none⟩))) (hm:P.follows .mixedOrders=true) (hd:dstB n l=true) (hB:drawB l mv []=true) (hN:nbOk l mv kl nb=true)
  (h:OnB H B fun cs0 _=>DVJ P mv kl nb B cs0 (Q .normal) 0 l (keepL ks e) H):DW P n (.region id l.toArray true) Q e H:=by
 obtain ⟨cs0,L1,L2,hH,h⟩:=h
 refine DW.weak _ H (get_keepL ks e) (List.Sublist.refl _) fun a w hs hr=>?_
 have hmem:Ent.blk B cs0∈H:=by rw [hH];simp
 refine wp_region_any hm ?_
 have hok:=drawOk_of hB
 have hrv:=DVJ.rv (ops:=l) l 0 _ _ h
 have hdr:=hs.drew
 have hinv:HeadInv .any l.toArray l.length (Array.replicate l.toArray.size false):=⟨by simp,fun j oj _ hl=>(by rw [getD_replicate_false] at hl;cases hl),fun t _ ht=>getD_in (by simpa using ht) (getD_replicate_false _ _)⟩
 refine RVJ.all (n:=n) (mv:=mv) (T:=fun k H'=>kl.contains k=true->Ent.blk B cs0∈H') (J:=fun i H'=>nb.contains i=true->Ent.blk B cs0∈H') (K:=KF (Q .normal)) (val:=valJ P kl cs0) (side:=sideJ P kl B cs0) (fun k o f f' hf=>?_) hok (fun k o ho hk f H' hh hs=>?_) (fun i H' hi hJ k hk hki hna hkl=>?_) hd (Q:=_) (w0:=w) (G0:=H) (D:=a.defers) (fun a' w' F' H' hd' s r x ⟨e',he,hq⟩=>⟨hd',e',H',s,⟨r.size,fun t=>by rw [he];exact r.slot t⟩,x,hq⟩)
  l.toArray.size (Array.replicate l.toArray.size false) (get (keepL ks e)) H a w.drew (by simp) hinv ?_ hdr.1 (fun _ _ _ _=>hmem) ⟨hr.size,fun t=>hdr.2.rel (hr.slot t)⟩ hdr.2 rfl
 · unfold valJ sideJ
   split
   · exact kl_congr o f f' hf
   · exact val_congr o f f' hf
 · unfold sideJ at hs
   unfold valJ
   split at hs
   · rename_i ht
     rw [if_pos ht]
     exact kl_sound hs (hh ht)
   · rename_i ht
     rw [if_neg ht]
     exact val_sound hs
 · refine hJ ?_
   have h1:=List.all_eq_true.1 hN i (by simpa using hi)
   rw [Bool.or_eq_true] at h1
   rcases h1 with h1 | h1
   · exact h1
   · have h2:=List.all_eq_true.1 h1 k (List.mem_range.2 hk)
     simp only [hkl,Bool.not_true,Bool.false_or,Bool.or_eq_true,beq_iff_eq] at h2
     rcases h2 with h2 | h2
     · exact absurd h2 hki
     · exact absurd (after_of_masks h2) hna
 · exact RVJ.congrL (L:=fun _=>false) l 0 _ _ (fun j _=>(getD_replicate_false _ _).symm) hrv
end
end
section
inductive CvO (v:Value) (l:List V):Own->Own->Prop
 | nil:CvO v l [] []
 | keep (e:Ent) {H H':Own} (h:CvO v l H H'):CvO v l (e::H) (e::H')
 | blk (b:Nat) {cs ds:List V} (hc:CvL v l cs ds) {H H':Own} (h:CvO v l H H'):CvO v l (.blk b cs::H) (.blk b ds::H')
theorem CvO.rfl_ (v:Value) (l:List V):∀ H:Own,CvO v l H H
 | []=>.nil
 | e::H=>.keep e (CvO.rfl_ v l H)
theorem CvO.mem {v:Value} {l:List V} {H H':Own} (h:CvO v l H H'):(∀ e'∈H',∃ e∈H,(∀ a,e'.owns a↔e.owns a)/\(∀ b,e'.touches b↔e.touches b))/\(∀ e∈H,∃ e'∈H',(∀ a,e'.owns a↔e.owns a)/\(∀ b,e'.touches b↔e.touches b)):=by
 induction h with
 | nil=>exact ⟨(fun _ h=>nomatch h),(fun _ h=>nomatch h)⟩
 | keep e _ ih =>
  refine ⟨fun x hx=>?_,fun x hx=>?_⟩
  · rcases List.mem_cons.1 hx with rfl | hx
    · exact ⟨_,List.mem_cons_self ..,fun _=>Iff.rfl,fun _=>Iff.rfl⟩
    · obtain ⟨y,hy,h⟩:=ih.1 x hx;exact ⟨y,List.mem_cons_of_mem _ hy,h⟩
  · rcases List.mem_cons.1 hx with rfl | hx
    · exact ⟨_,List.mem_cons_self ..,fun _=>Iff.rfl,fun _=>Iff.rfl⟩
    · obtain ⟨y,hy,h⟩:=ih.2 x hx;exact ⟨y,List.mem_cons_of_mem _ hy,h⟩
 | blk b hc _ ih =>
  refine ⟨fun x hx=>?_,fun x hx=>?_⟩
  · rcases List.mem_cons.1 hx with rfl | hx
    · exact ⟨_,List.mem_cons_self ..,fun _=>Iff.rfl,fun _=>Iff.rfl⟩
    · obtain ⟨y,hy,h⟩:=ih.1 x hx;exact ⟨y,List.mem_cons_of_mem _ hy,h⟩
  · rcases List.mem_cons.1 hx with rfl | hx
    · exact ⟨_,List.mem_cons_self ..,fun _=>Iff.rfl,fun _=>Iff.rfl⟩
    · obtain ⟨y,hy,h⟩:=ih.2 x hx;exact ⟨y,List.mem_cons_of_mem _ hy,h⟩
theorem CvO.pw {v:Value} {l:List V} {H H':Own} (h:CvO v l H H') :
  (H.Pairwise (fun e f=>∀ a,e.owns a->¬ f.owns a)->H'.Pairwise (fun e f=>∀ a,e.owns a->¬ f.owns a))/\(H.Pairwise (fun e f=>∀ b,e.touches b->¬ f.touches b)->H'.Pairwise (fun e f=>∀ b,e.touches b->¬ f.touches b)):=by
 induction h with
 | nil=>exact ⟨fun h=>h,fun h=>h⟩
 | keep e h ih =>
  refine ⟨fun hp=>?_,fun hp=>?_⟩
  · rw [List.pairwise_cons] at hp ⊢
    refine ⟨fun x hx a ha hb=>?_,ih.1 hp.2⟩
    obtain ⟨y,hy,h1,_⟩:=h.mem.1 x hx
    exact hp.1 y hy a ha ((h1 a).1 hb)
  · rw [List.pairwise_cons] at hp ⊢
    refine ⟨fun x hx a ha hb=>?_,ih.2 hp.2⟩
    obtain ⟨y,hy,_,h1⟩:=h.mem.1 x hx
    exact hp.1 y hy a ha ((h1 a).1 hb)
 | blk b hc h ih =>
  refine ⟨fun hp=>?_,fun hp=>?_⟩
  · rw [List.pairwise_cons] at hp ⊢
    refine ⟨fun x hx a ha hb=>?_,ih.1 hp.2⟩
    obtain ⟨y,hy,h1,_⟩:=h.mem.1 x hx
    exact hp.1 y hy a ha ((h1 a).1 hb)
  · rw [List.pairwise_cons] at hp ⊢
    refine ⟨fun x hx a ha hb=>?_,ih.2 hp.2⟩
    obtain ⟨y,hy,_,h1⟩:=h.mem.1 x hx
    exact hp.1 y hy a ha ((h1 a).1 hb)
theorem CvO.holds {v:Value} {l:List V} {w:World} {S S':Addr->Prop} (hv:R S' w v (.gs v l)) (hS:∀ a,S a->S' a) {H H':Own} (h:CvO v l H H') (hh:∀ e∈H,e.holds S w):∀ e∈H',e.holds S' w:=by
 induction h with
 | nil=>exact fun _ h=>nomatch h
 | keep e _ ih =>
  intro x hx
  rcases List.mem_cons.1 hx with rfl | hx
  · exact Ent.holds_mono (hh _ (List.mem_cons_self ..)) (fun a ha=>⟨hS a ha,rfl⟩) (fun _ _=>rfl)
  · exact ih (fun e he=>hh e (List.mem_cons_of_mem _ he)) x hx
 | blk b hc _ ih =>
  intro x hx
  rcases List.mem_cons.1 hx with rfl | hx
  · obtain ⟨xs,T,fr,h1,h2,h3,h4⟩:=hh _ (List.mem_cons_self ..)
    exact ⟨xs,T,fr,h1,h2,h3.trans hc.len,fun k hk=>R.cv hv (hc.at k) ((h4 k (by rw [hc.len];exact hk)).mono fun a ha=>⟨hS a ha,rfl⟩)⟩
  · exact ih (fun e he=>hh e (List.mem_cons_of_mem _ he)) x hx
theorem CvO.stable {v:Value} {l:List V} {w:World} {H H':Own} (h:CvO v l H H') {a:Addr} (hs:stable w H a):stable w H' a:=⟨hs.1,fun e he ho=>by
 obtain ⟨y,hy,h1,_⟩:=h.mem.1 e he
 exact hs.2 y hy ((h1 a).1 ho)⟩
theorem CvO.loose {v:Value} {l:List V} {H H':Own} (h:CvO v l H H') (hl:Go.Proofs.YtifdpbghkccaoaaGreatDoor.loose∈H'):Go.Proofs.YtifdpbghkccaoaaGreatDoor.loose∈H:=by
 induction h with
 | nil=>exact hl
 | keep e _ ih =>
  rcases List.mem_cons.1 hl with hl | hl
  · exact hl▸List.mem_cons_self ..
  · exact List.mem_cons_of_mem _ (ih hl)
 | blk b hc _ ih =>
  rcases List.mem_cons.1 hl with hl | hl
  · cases hl
  · exact List.mem_cons_of_mem _ (ih hl)
theorem CvO.sim {v:Value} {l:List V} {w:World} {H H':Own} (h:CvO v l H H') (hs:Sim w H) (hv:R (Go.Proofs.YtifdpbghkccaoaaGreatDoor.stable w H) w v (.gs v l)):Sim w H'/\Ext w H w H' :=
 ⟨⟨h.holds (hv.mono fun a ha=>⟨h.stable ha,rfl⟩) (fun a ha=>h.stable ha) hs.holds,h.pw.1 hs.disj,h.pw.2 hs.apart⟩,
   ⟨rfl,rfl,rfl,Nat.le_refl _,fun a ha=>⟨h.stable ha,rfl⟩,fun b _ hb=>⟨rfl,fun e he=>by
     obtain ⟨y,hy,_,h1⟩:=h.mem.1 e he
     exact fun ht=>hb y hy ((h1 b).1 ht)⟩,fun n=>⟨fun hl=>n (h.loose hl),Nat.le_refl _⟩⟩⟩
section
variable {P:Program} {n:Nat} {Q:Exit->Env->Own->Prop} {e e':Env} {H:Own}
theorem DW.frzO {c:Code} (v:Value) {l:List V} (h:OnA H v fun sz cs C=>cs=cells l/\0<sz/\(∀ y∈l,y.n=sz)/\CvE v l e e'/\∃ H',CvO v l (C (.tail sz v)) H'/\DW P n c Q e' H'):DW P n c Q e H:=by
 obtain ⟨sz,cs,L1,L2,rfl,rfl,hz,hl,hc,H',ho,h⟩:=h
 intro a w hs hr
 obtain ⟨⟨g1,g2⟩,g3⟩:=hs.frz hz hl
 obtain ⟨k1,k2⟩:=ho.sim g1 g3
 exact wp_mono (h a w k1 ⟨hr.size,fun t=>(R.cv g3 (hc.get t) (g2.rel (hr.slot t))).mono k2.cells⟩) fun x a1 w1 ⟨hd,e1,H1,s,r,x1,q⟩=>⟨hd,e1,H1,s,r,(g2.trans k2).trans x1,q⟩
theorem DW.frzOR (id:Nat) {ops:Array Oper} {d:Bool} (v:Value) {l:List V} (h:OnA H v fun sz cs C=>cs=cells l/\0<sz/\(∀ y∈l,y.n=sz)/\CvE v l e e'/\∃ H',CvO v l (C (.tail sz v)) H'/\DW P n (.region id ops d) Q e' H'):DW P n (.region id ops d) Q e H:=DW.frzO v h
end
theorem DC.someV {P:Program} {f:FuncId} {l:List V} {rest:List V} {H:Own} {K:V->Own->Prop} (he:enterB P f=true)
  (h:∀ (a:Option Addr) (cap:Nat),(a=none->l=[])->DC P f (.gs (.slice a l.length cap) l::rest) H K):DC P f (.sl l::rest) H K:=by
 refine ⟨he,fun xs w hs hn hr=>?_⟩
 have h0:=hr 0 (by simp)
 change R _ w (xs.getD 0 undef) (.sl l) at h0
 generalize hx:xs.getD 0 undef=u at h0
 have h0':=h0
 cases h0 with
 | sl a n cap _ sz hl hc ha h1 h2 h3 h4 =>
 subst hl
 refine (h a cap ha).2 xs w hs hn fun k hk=>?_
 cases k with
 | zero=>show R _ w (xs.getD 0 undef) (.gs (.slice a l.length cap) l);rw [hx];exact .gs _ _ h0'
 | succ k=>exact hr (k+1) (by simpa using hk)
theorem DC.own0 {P:Program} {f:FuncId} {args:List V} {H F:Own} (sz:Nat) (h:DC P f args H fun d G=>d = .gs (.slice none 0 0) []/\G=F):DC P f args H fun d G=>d = .ar (.slice none 0 0) 0/\G = .arr sz (.slice none 0 0) []::F :=
 ⟨h.1,fun xs w hs hn hr=>(h.2 xs w hs hn hr).mono fun x w' ⟨v,d,H',he,s,ex,r,hd,hG⟩=>by
   subst hd hG
   obtain ⟨g1,g2⟩:=s.arr0 sz
   cases r
   exact ⟨_,_,_,he,g1,ex.trans g2, .ar _ _ _ (Nat.le_refl _) (fun _=>rfl),rfl,rfl⟩⟩
theorem DC.frz {P:Program} {f:FuncId} {args:List V} {H F:Own} {K:Value->Prop} {D D':Value->V} {sz:Nat} {l:List V} {L:Value->Own} (hz:0<sz) (hl:∀ y∈l,y.n=sz) (hc:∀ v,Cv v l (D v) (D' v))
  (h:DC P f args H fun d G=>∃ v,d=D v/\G = .arr sz v (cells l)::L v/\K v):DC P f args H fun d G=>∃ v,d=D' v/\G=L v/\K v :=
 ⟨h.1,fun xs w hs hn hr=>(h.2 xs w hs hn hr).mono fun x w' ⟨u,d,H',he,s,ex,r,v,hd,hG,hk⟩=>by
   subst hd hG
   obtain ⟨⟨g1,g2⟩,g3⟩:=Sim.frz (L1:=[]) s hz hl
   have k1:Ext w' (.tail sz v::L v) w' (L v):=Ext.drop fun x hx=>List.mem_cons_of_mem _ hx
   exact ⟨u,D' v,L v,he,g1.drop (List.sublist_cons_self _ _),(ex.trans g2).trans k1,(R.cv g3 (hc v) (g2.rel r)).mono k1.cells,v,rfl,rfl,hk⟩⟩
theorem DC.le_ {P:Program} {f:FuncId} {args:List V} {H G0:Own} {d':V} (D:Value->V) (hd:∀ v,le (D v) d') (h:DC P f args H fun d G=>∃ v,d=D v/\G=G0):DC P f args H fun d G=>d=d'/\G=G0 :=
 ⟨h.1,fun xs w hs hn hr=>(h.2 xs w hs hn hr).mono fun x w' ⟨u,d,H',he,s,ex,r,v,hv,hG⟩=>by
   subst hv
   exact ⟨u,d',H',he,s,ex,hd v _ _ _ r,rfl,hG⟩⟩
end
section
structure TDeed where
 what:Int
 who:Int
 k:Int
 x:Str
 deriving DecidableEq,Inhabited
def encDeed (d:TDeed):V:=.agg [.int .u8 d.what, .int .u8 d.who, .int .u8 d.k, .sl (d.x.map u8)]
def topicL:List Str:=[[97],[97,47,98],[98,47,99],[36,115,47,97],[97,47,47,98],[195,169,47,97],[99]]
def filterL:List Str:=[[97],[35],[97,47,43],[43,47,98],[97,47,35],[98,47,99],[36,115,47,35],[43],[43,47,43],[195,169,47,35]]
def topicM (k:Int):Str:=topicL.getD (k.tmod 7).toNat default
def filterM (k:Int):Str:=filterL.getD (k.tmod 10).toNat default
structure TSt where
 ts:List TTable
 es:List Int
 at_:Int
def tabT (s:TSt) (n:Int):TTable:=s.ts.getD n.toNat default
def epT (s:TSt) (n:Int):Int:=s.es.getD n.toNat default
def actT (s:TSt) (d:TDeed) (a:Int):TTable :=
 if d.what.tmod 8=0\/d.what.tmod 8=1 then routeAddM (tabT s (d.who.tmod 3)) (d.who.tmod 3) (epT s (d.who.tmod 3)) (filterM d.k)
 else if d.what.tmod 8=2 then routeDropM (tabT s (d.who.tmod 3)) (d.who.tmod 3) (epT s (d.who.tmod 3)) (filterM d.k)
 else if d.what.tmod 8=3\/d.what.tmod 8=4 then cellPutM (tabT s (d.who.tmod 3)) (d.who.tmod 3) (epT s (d.who.tmod 3)) ⟨a,d.k.tmod 2,d.who.tmod 3⟩ (topicM d.k) d.x (d.k.tmod 3)
 else if d.what.tmod 8=5 then (if d.k.tmod 4=0 then fenceM (tabT s (d.who.tmod 3)) ((d.k.tdiv 4).tmod 3) (epT s ((d.k.tdiv 4).tmod 3)) else tabT s (d.who.tmod 3))
 else mergeM (tabT s (d.who.tmod 3)) (tabT s (d.k.tmod 3))
def endT (s:TSt) (d:TDeed) (t:TTable):TSt :=
 ⟨s.ts.set (d.who.tmod 3).toNat t,if fencedL t.fences (d.who.tmod 3) (epT s (d.who.tmod 3))=true then s.es.set (d.who.tmod 3).toNat (epT s (d.who.tmod 3)+1) else s.es,s.at_+d.k.tmod 3⟩
def stepT (s:TSt) (d:TDeed):TSt:=endT s d (actT s d (s.at_+d.k.tmod 3))
def startT:TSt:=⟨[emptyT,emptyT,emptyT],[1,1,1],1⟩
def storyT (l:List TDeed):TSt:=l.foldl stepT startT
def tablesM (l:List TDeed):List TTable:=(storyT l).ts
theorem mem_add {l:List TDot} {d x:TDot} (h:x∈addM l d):x=d\/x∈l:=by
 unfold addM at h
 split at h
 · rename_i hr
   split at h
   · rename_i hc
     rcases ((put_facts (right_iff.1 hr) hc.1).2 x).1 h with h | h
     · exact .inl h
     · exact .inr h.1
   · exact .inr h
 · cases h
theorem mem_fold (b:List TDot):∀ (a:List TDot) (x:TDot),x∈b.foldl addM a->x∈a\/x∈b:=by
 induction b with
 | nil=>intro a x h;exact .inl h
 | cons d b ih =>
  intro a x h
  rcases ih _ x h with h | h
  · rcases mem_add h with rfl | h
    · exact .inr (List.mem_cons_self ..)
    · exact .inl h
  · exact .inr (List.mem_cons_of_mem _ h)
theorem mem_join {a b:List TDot} {x:TDot} (h:x∈joinM a b):x∈a\/x∈b:=by
 unfold joinM at h
 split at h
 · exact mem_fold b a x h
 · cases h
theorem mem_fenceL' {fe:List TFence} {n e:Int} {x:TFence} (h:x∈fenceL fe n e):x=⟨n,e⟩\/x∈fe:=by
 have key:∀ k,k<=fe.length->∀ x,x∈(fenceAcc fe n e k).1->x=⟨n,e⟩\/x∈fe:=by
  intro k
  induction k with
  | zero=>intro _ x hx;rw [fenceAcc_0] at hx;cases hx
  | succ k ih =>
   intro hk x hx
   rw [fenceAcc_more (by omega)] at hx
   have hm:fe.getD k default∈fe:=getD_mem (by omega)
   have ih:=ih (by omega)
   unfold stepFe at hx
   split at hx
   · split at hx
     · rcases List.mem_append.1 hx with hx | hx
       · exact ih x hx
       · rw [List.mem_singleton] at hx;exact .inl hx
     · exact ih x hx
   · split at hx
     · rcases List.mem_append.1 hx with hx | hx
       · rcases List.mem_append.1 hx with hx | hx
         · exact ih x hx
         · rw [List.mem_singleton] at hx;exact .inl hx
       · rw [List.mem_singleton] at hx;exact .inr (hx▸hm)
     · rcases List.mem_append.1 hx with hx | hx
       · exact ih x hx
       · rw [List.mem_singleton] at hx;exact .inr (hx▸hm)
 unfold fenceL at h
 split at h
 · exact key _ (Nat.le_refl _) x h
 · rcases List.mem_append.1 h with h | h
   · exact key _ (Nat.le_refl _) x h
   · rw [List.mem_singleton] at h;exact .inl h
theorem mem_fenceM {t:TTable} {n e:Int} {x:TFence} (h:x∈(fenceM t n e).fences):x=⟨n,e⟩\/x∈t.fences:=by
 unfold fenceM at h
 split at h
 · exact mem_fenceL' h
 · exact .inr h
theorem mem_mergeFe (l:List TFence):∀ (t:TTable) (x:TFence),x∈(mergeFe t l).fences->x∈t.fences\/x∈l:=by
 induction l with
 | nil=>intro t x h;exact .inl h
 | cons f l ih =>
  intro t x h
  rcases ih (fenceM t f.node f.epoch) x h with h | h
  · rcases mem_fenceM h with rfl | h
    · exact .inr (List.mem_cons_self ..)
    · exact .inl h
  · exact .inr (List.mem_cons_of_mem _ h)
structure All4 (ps:TDot->Prop) (pf:TFence->Prop) (pr:TRoute->Prop) (pc:TCell->Prop) (t:TTable):Prop where
 s:∀ d∈t.seen,ps d
 f:∀ f∈t.fences,pf f
 r:∀ r∈t.routes,pr r
 c:∀ c∈t.cells,pc c
section
variable {ps:TDot->Prop} {pf:TFence->Prop} {pr:TRoute->Prop} {pc:TCell->Prop}
theorem All4.empty:All4 ps pf pr pc emptyT:=⟨(fun _ h=>nomatch h),(fun _ h=>nomatch h),(fun _ h=>nomatch h),(fun _ h=>nomatch h)⟩
theorem All4.merge0 {a b:TTable} (ha:All4 ps pf pr pc a) (hb:All4 ps pf pr pc b):All4 ps pf pr pc (merge0 a b) where
 s d hd:=by
  rcases mem_join hd with h | h
  · exact ha.s d h
  · exact hb.s d h
 f:=ha.f
 r x hx:=by
  rcases (mergeRo_facts _ _).2 x hx with h | h
  · exact ha.r x (List.filter_sublist.subset h)
  · exact hb.r x (List.filter_sublist.subset h)
 c x hx:=by
  rcases (mergeCe_facts _ _).2 x hx with h | h
  · exact ha.c x (List.filter_sublist.subset h)
  · exact hb.c x (List.filter_sublist.subset h)
theorem All4.merge {a b:TTable} (ha:All4 ps pf pr pc a) (hb:All4 ps pf pr pc b):All4 ps pf pr pc (mergeM a b):=by
 have h0:=ha.merge0 hb
 obtain ⟨h1,h2,_,h4⟩:=mergeFe_facts b.fences (Go.Proofs.YtifdpbghkccaoaaGreatDoor.merge0 a b)
 have h2':All4 ps pf pr pc (merge2 a b):=by
  refine ⟨?_,?_,?_,?_⟩
  · show ∀ d∈(mergeFe _ _).seen,ps d
    rw [h1];exact h0.s
  · intro x hx
    rcases mem_mergeFe _ _ x hx with h | h
    · exact h0.f x h
    · exact hb.f x h
  · intro x hx
    exact h0.r x (h4.subset (List.filter_sublist.subset hx))
  · show ∀ d∈(mergeFe _ _).cells,pc d
    rw [h2];exact h0.c
 unfold mergeM
 split
 · split
   · split
     · exact h2'
     · exact ha
   · exact ha
 · split
   · exact hb
   · exact All4.empty
theorem All4.add {t:TTable} (h:All4 ps pf pr pc t) (n e:Int) (f:Str) (h1:fencedL t.fences n e=false->pairB n e=true->ps (nextDot t.seen n e)) (h2:pr ⟨nextDot t.seen n e,f⟩):All4 ps pf pr pc (routeAddM t n e f):=by
 unfold routeAddM
 split
 · rename_i hc
   refine ⟨fun d hd=>?_,h.f,fun r hr=>?_,h.c⟩
   · rcases mem_add hd with rfl | hd
     · exact h1 hc.2.2 hc.2.1
     · exact h.s d hd
   · rcases mem_insR.1 hr with rfl | hr
     · exact h2
     · exact h.r r ((without_sub _ _ _ _).subset hr)
 · exact h
theorem All4.drop {t:TTable} (h:All4 ps pf pr pc t) (n e:Int) (f:Str) (h1:ps (nextDot t.seen n e)):All4 ps pf pr pc (routeDropM t n e f):=by
 unfold routeDropM
 split
 · refine ⟨fun d hd=>?_,h.f,fun r hr=>h.r r ((without_sub _ _ _ _).subset hr),h.c⟩
   rcases mem_add hd with rfl | hd
   · exact h1
   · exact h.s d hd
 · exact h
theorem All4.fence {t:TTable} (h:All4 ps pf pr pc t) (n e:Int) (h1:pf ⟨n,e⟩):All4 ps pf pr pc (fenceM t n e):=by
 unfold fenceM
 split
 · refine ⟨h.s,fun f hf=>?_,fun r hr=>h.r r (List.filter_sublist.subset hr),h.c⟩
   rcases mem_fenceL' hf with rfl | hf
   · exact h1
   · exact h.f f hf
 · exact h
theorem All4.put {t:TTable} (h:All4 ps pf pr pc t) (n e:Int) (s:TStamp) (m1 m2:Str) (m3:Int) (h1:ps (nextDot t.seen n e)) (h2:pc (putC (nextDot t.seen n e) s.l s.c s.node m1 m2 m3)):All4 ps pf pr pc (cellPutM t n e s m1 m2 m3):=by
 unfold cellPutM
 split
 · refine ⟨fun d hd=>?_,h.f,h.r,fun c hc=>?_⟩
   · rcases mem_add hd with rfl | hd
     · exact h1
     · exact h.s d hd
   · rcases mem_cellIn hc with rfl | hc
     · exact h2
     · exact h.c c hc
 · exact h
end
abbrev Rng (i:Nat):TTable->Prop:=All4 (fun d=>(0<=d.node/\d.node<3)/\(1<=d.epoch/\d.epoch<=i+1)/\(1<=d.n/\d.n<=i)) (fun f=>(0<=f.node/\f.node<3)/\(1<=f.epoch/\f.epoch<=i+1)) (fun r=>r.filter∈filterL) (fun c=>c.topic∈topicL/\c.payload.length<=30/\1<=c.stamp.l/\c.stamp.l<=1+2 * i/\(c.stamp.c=0\/c.stamp.c=1))
theorem Rng.mono {i j:Nat} {t:TTable} (h:Rng i t) (hij:i<=j):Rng j t where
 s d hd:=by have:=h.s d hd;omega
 f d hd:=by have:=h.f d hd;omega
 r:=h.r
 c c hc:=by
  obtain ⟨h1,h2,h3,h4,h5⟩:=h.c c hc
  exact ⟨h1,h2,h3,by omega,h5⟩
theorem top_le {i:Nat} {l:List TDot} (hr:rightB l=true) (h:∀ d∈l,d.n<=i) (n e:Int):0<=topM l n e/\topM l n e<=i:=by
 rcases top_cases hr n e with ⟨d,hd,_,_,h3⟩ | ⟨_,h3⟩
 · have:=h d hd
   have:=(right_iff.1 hr).2 d hd
   rw [one_iff] at this
   omega
 · rw [h3];omega
theorem filterM_mem {k:Int} (h:0<=k):filterM k∈filterL:=by
 have h1:=Int.tmod_nonneg 10 h
 have h2:=Int.tmod_lt_of_pos k (show (0:Int)<10 by decide)
 exact getD_mem (by show _<10;omega)
theorem topicM_mem {k:Int} (h:0<=k):topicM k∈topicL:=by
 have h1:=Int.tmod_nonneg 7 h
 have h2:=Int.tmod_lt_of_pos k (show (0:Int)<7 by decide)
 exact getD_mem (by show _<7;omega)
def deedOk (d:TDeed):Prop:=(0<=d.what/\d.what<=255)/\(0<=d.who/\d.who<=255)/\(0<=d.k/\d.k<=255)/\d.x.length<=30
structure Story (i:Nat) (s:TSt):Prop where
 lt:s.ts.length=3
 le:s.es.length=3
 tr:∀ t∈s.ts,TR t
 rng:∀ t∈s.ts,Rng i t
 ep:∀ e∈s.es,1<=e/\e<=i+1
 at1:1<=s.at_
 at2:s.at_<=1+2 * i
theorem Story.start:Story 0 startT:=⟨rfl,rfl,(fun t h=>by simp [startT] at h;subst h;exact tr_empty),(fun t h=>by simp [startT] at h;subst h;exact All4.empty),(fun e h=>by simp [startT] at h;omega),by decide,by decide⟩
theorem tmod3 {k:Int} (h:0<=k):0<=k.tmod 3/\k.tmod 3<3:=⟨Int.tmod_nonneg 3 h,Int.tmod_lt_of_pos k (by decide)⟩
theorem Story.tab {i:Nat} {s:TSt} (h:Story i s) {n:Int} (hn:0<=n/\n<3):TR (tabT s n)/\Rng i (tabT s n)/\(1<=epT s n/\epT s n<=i+1):=by
 have h1:=h.lt;have h2:=h.le
 exact ⟨h.tr _ (getD_mem (by omega)),h.rng _ (getD_mem (by omega)),h.ep _ (getD_mem (by omega))⟩
theorem Story.act {i:Nat} {s:TSt} (h:Story i s) {d:TDeed} (hd:deedOk d):TR (actT s d (s.at_+d.k.tmod 3))/\Rng (i+1) (actT s d (s.at_+d.k.tmod 3)):=by
 obtain ⟨hw,ho,hk,hx⟩:=hd
 have m:=tmod3 ho.1
 have mk:=tmod3 hk.1
 obtain ⟨t1,t2,t3⟩:=h.tab m
 have t2':=t2.mono (Nat.le_succ i)
 have tl:=top_le t1.seen (fun d hd=>(t2.s d hd).2.2.2) (d.who.tmod 3) (epT s (d.who.tmod 3))
 have nx:((0<=(nextDot (tabT s (d.who.tmod 3)).seen (d.who.tmod 3) (epT s (d.who.tmod 3))).node/\(nextDot (tabT s (d.who.tmod 3)).seen (d.who.tmod 3) (epT s (d.who.tmod 3))).node<3)/\(1<=(nextDot (tabT s (d.who.tmod 3)).seen (d.who.tmod 3) (epT s (d.who.tmod 3))).epoch/\(nextDot (tabT s (d.who.tmod 3)).seen (d.who.tmod 3) (epT s (d.who.tmod 3))).epoch<=((i+1:Nat):Int)+1)/\(1<=(nextDot (tabT s (d.who.tmod 3)).seen (d.who.tmod 3) (epT s (d.who.tmod 3))).n/\(nextDot (tabT s (d.who.tmod 3)).seen (d.who.tmod 3) (epT s (d.who.tmod 3))).n<=((i+1:Nat):Int))):=by
  simp only [nextDot]
  omega
 unfold actT
 split
 · exact ⟨t1.add _ _ _,t2'.add _ _ _ (fun _ _=>nx) (filterM_mem hk.1)⟩
 · split
   · exact ⟨t1.drop _ _ _,t2'.drop _ _ _ nx⟩
   · split
     · refine ⟨t1.put _ _ _ _ _ _,t2'.put _ _ _ _ _ _ nx ⟨topicM_mem hk.1,hx,?_,?_,?_⟩⟩
       · have:=h.at1;show 1<=s.at_+_;omega
       · have:=h.at2;show s.at_+_<=1+2 * ((i+1:Nat):Int);omega
       · have h1:=Int.tmod_nonneg 2 hk.1
         have h2:=Int.tmod_lt_of_pos d.k (show (0:Int)<2 by decide)
         show d.k.tmod 2=0\/d.k.tmod 2=1;omega
     · split
       · split
         · have m4:=tmod3 (Int.tdiv_nonneg hk.1 (show (0:Int)<=4 by decide))
           obtain ⟨_,_,e3⟩:=h.tab m4
           exact ⟨t1.fence _ _,t2'.fence _ _ ⟨m4,e3.1,by have:=e3.2;show epT s _<=((i+1:Nat):Int)+1;omega⟩⟩
         · exact ⟨t1,t2'⟩
       · obtain ⟨k1,k2,_⟩:=h.tab mk
         exact ⟨t1.merge k1,t2'.merge (k2.mono (Nat.le_succ i))⟩
theorem mem_set_of {α:Type} {l:List α} {k:Nat} {a x:α} (h:x∈l.set k a):x∈l\/x=a:=List.mem_or_eq_of_mem_set h
theorem Story.step {i:Nat} {s:TSt} (h:Story i s) {d:TDeed} (hd:deedOk d):Story (i+1) (stepT s d):=by
 obtain ⟨a1,a2⟩:=h.act hd
 obtain ⟨hw,ho,hk,hx⟩:=hd
 have m:=tmod3 ho.1
 have mk:=tmod3 hk.1
 obtain ⟨_,_,t3⟩:=h.tab m
 refine ⟨?_,?_,fun t ht=>?_,fun t ht=>?_,fun e he=>?_,?_,?_⟩
 · simp only [stepT,endT,List.length_set];exact h.lt
 · simp only [stepT,endT];split
   · rw [List.length_set];exact h.le
   · exact h.le
 · rcases mem_set_of ht with ht | rfl
   · exact h.tr t ht
   · exact a1
 · rcases mem_set_of ht with ht | rfl
   · exact (h.rng t ht).mono (Nat.le_succ i)
   · exact a2
 · simp only [stepT,endT] at he
   split at he
   · rcases mem_set_of he with he | rfl
     · have:=h.ep e he;omega
     · omega
   · have:=h.ep e he;omega
 · have:=h.at1;show 1<=s.at_+_;omega
 · have:=h.at2;show s.at_+_<=1+2 * ((i+1:Nat):Int);omega
theorem Story.take {l:List TDeed} (h:∀ d∈l,deedOk d):∀ k,k<=l.length->Story k ((l.take k).foldl stepT startT):=by
 intro k
 induction k with
 | zero=>intro _;exact Story.start
 | succ k ih =>
  intro hk
  rw [foldl_more _ _ (by omega)]
  exact (ih (by omega)).step (h _ (getD_mem (by omega)))
theorem Story.of {l:List TDeed} (h:∀ d∈l,deedOk d):Story l.length (storyT l):=by
 have:=Story.take h l.length (Nat.le_refl _)
 rwa [List.take_length] at this
theorem pigeon:∀ (n:Nat) (l:List Nat),l.Pairwise (fun a b=>a≠b)->(∀ x∈l,x<n)->l.length<=n
 | 0,[],_,_=>Nat.le_refl _
 | 0,x::l,_,h=>absurd (h x (List.mem_cons_self ..)) (Nat.not_lt_zero _)
 | n+1,l,hp,h=>by
  have h1:(l.erase n).length<=n:=by
   refine pigeon n _ (hp.sublist List.erase_sublist) fun x hx=>?_
   have hne:=(List.Nodup.mem_erase_iff hp).1 hx
   have:=h x hne.2
   have:=hne.1
   omega
  rw [List.length_erase] at h1
  split at h1<;>omega
theorem pigeon_map {α:Type} (f:α->Nat) (n:Nat) {l:List α} (hp:l.Pairwise (fun a b=>f a≠f b)) (h:∀ x∈l,f x<n):l.length<=n:=by
 have:=pigeon n (l.map f) (List.pairwise_map.2 hp) (fun x hx=>by obtain ⟨y,hy,rfl⟩:=List.mem_map.1 hx;exact h y hy)
 rwa [List.length_map] at this
theorem pw_mem {α:Type} {R S:α->α->Prop} {l:List α} (h:l.Pairwise R) (hs:∀ a∈l,∀ b∈l,R a b->S a b):l.Pairwise S:=h.imp_of_mem (fun ha hb hab=>hs _ ha _ hb hab)
theorem story_len {i:Nat} {t:TTable} (hi:i<=20) (h:TR t) (hr:Rng i t):t.seen.length<=96/\t.fences.length<=3/\t.routes.length+t.cells.length<=3072:=by
 refine ⟨?_,?_,?_⟩
 · refine pigeon_map (fun d=>(d.node * 32+d.epoch).toNat) 96 (pw_mem (right_iff.1 h.seen).1 fun a ha b hb hab=>?_) fun d hd=>?_
   · have h1:=hr.s a ha;have h2:=hr.s b hb;have:=ahead_iff.1 hab
     show (a.node * 32+a.epoch).toNat≠(b.node * 32+b.epoch).toNat
     omega
   · have h1:=hr.s d hd
     show (d.node * 32+d.epoch).toNat<96
     omega
 · refine pigeon_map (fun f=>f.node.toNat) 3 (pw_mem h.fences.1 fun a ha b hb hab=>?_) fun d hd=>?_
   · have h1:=hr.f a ha;have h2:=hr.f b hb
     show a.node.toNat≠b.node.toNat
     omega
   · have h1:=hr.f d hd
     show d.node.toNat<3
     omega
 · have hin:∀ d∈dotsOf t.routes t.cells,(0<=d.node/\d.node<3)/\(1<=d.epoch/\d.epoch<=i+1)/\(1<=d.n/\d.n<=i):=by
    intro d hd
    have hh:=has_iff.1 (h.hasDots d hd)
    rcases top_cases h.seen d.node d.epoch with ⟨x,hx,h1,h2,h3⟩ | ⟨_,h3⟩
    · have:=hr.s x hx;omega
    · omega
   have:=pigeon_map (fun d:TDot=>((d.node * 32+d.epoch) * 32+d.n).toNat) 3072 (pw_mem h.fresh fun a ha b hb hab=>?_) fun d hd=>?_
   · rwa [dotsOf_len] at this
   · have h1:=hin a ha;have h2:=hin b hb
     show ((a.node * 32+a.epoch) * 32+a.n).toNat≠((b.node * 32+b.epoch) * 32+b.n).toNat
     intro e
     refine hab ?_
     cases a;cases b
     simp only [TDot.mk.injEq] at *
     omega
   · have h1:=hin d hd
     show ((d.node * 32+d.epoch) * 32+d.n).toNat<3072
     omega
theorem story_lite {i:Nat} {t:TTable} (hi:i<=20) (h:TR t) (hr:Rng i t):Lite 3072 t:=by
 obtain ⟨h1,h2,h3⟩:=story_len hi h hr
 refine ⟨by omega,by omega,by omega,by omega,fun r hr'=>?_,fun c hc=>?_,fun c hc=>?_⟩
 · have:=hr.r r hr'
   have key:∀ f∈filterL,f.length<=65535:=by decide
   exact key _ this
 · have:=(hr.c c hc).1
   have key:∀ f∈topicL,f.length<=65535:=by decide
   exact key _ this
 · have:=(hr.c c hc).2.1;omega
end
end Go.Proofs.YtifdpbghkccaoaaGreatDoor
