/- What is written to a builder, wherever it lies. -/
import Derived.Test.YtbmbcjmgjdnlnaaGreatDoorDd1x
import Derived.KernelRfl
namespace Go.Proofs.YtbmbcjmgjdnlnaaGreatDoor
open Go.RowKit
set_option linter.unusedSimpArgs false
set_option linter.unusedVariables false
set_option linter.unusedSectionVars false
set_option maxHeartbeats 4000000
set_option maxRecDepth 100000
section
theorem OnTb_id {H:Own} {b:Nat} {G:TypeId->List V->(Ent->Own)->Prop} (h:OnTb H b G):OnTb H b G:=h
theorem OnBa_id {H:Own} {v:Value} {G:TypeId->List UInt8->(Ent->Own)->Prop} (h:OnBa H v G):OnBa H v G:=h
def liesB (T:TypeId) (off n:Nat):Prop:=liesAt Tryz.prog Tryz.prog.depth T (n / Tryz.prog.cellsOf T) off 128 1=true
theorem layCk:Go.Proofs.Lays.n240 Tryz.prog layJoin_ren:={ layJoin with }
theorem layXtra:Go.Proofs.Builder.Extra Tryz.prog layJoin_ren where
 sizeBuilder:=by kernel_rfl
 liesBuilder:=by kernel_rfl
 t5:=Tryz.underlying5
 a5:=Tryz.isAgg5
 z5:=Tryz.sizeOf5
 v5:=Tryz.zeroValue5
 infoByte:=by kernel_rfl
 cellsByte:=by kernel_rfl
 sizeByte:=by kernel_rfl
 neB5:=by decide
theorem layStr2:Go.Proofs.Lays.n169 Tryz.prog layJoin_ren:={ layJoin with }
structure BAt (T:TypeId) (bk off:Nat) (cs:List V) (v:Value) (n:Nat):Prop where
 u:∃ u,cs.getD off .any=selfP bk off u
 a:cs.getD (off+1) .any = .ar v n
 lt:off+1<cs.length
 lies:liesB T off cs.length
def lay2 (bk off:Nat) (cs:List V) (v:Value) (n:Nat):List V:=layV (layV cs off [selfP bk off true]) (off+1) [.ar v n]
theorem lay2_is (bk off:Nat) (cs:List V) (v:Value) (n:Nat):lay2 bk off cs v n=layV (layV cs off [selfP bk off true]) (off+1) [.ar v n]:=rfl
theorem lay_lenB (cs d:List V) (k:Nat) (h:k+d.length<=cs.length):(layV cs k d).length=cs.length:=(lay_at cs d k h).1
theorem lay_get (cs:List V) (k j:Nat) (x:V) (h:k+1<=cs.length):(layV cs k [x]).getD j .any=if j=k then x else cs.getD j .any:=by
 rw [(lay_at cs [x] k h).2 j]
 by_cases e:j=k
 · subst e;rw [if_pos (by simp),if_pos rfl,Nat.sub_self];rfl
 · rw [if_neg (by simp;omega),if_neg e]
theorem lay2_len {bk off:Nat} {cs:List V} {v:Value} {n:Nat} (h:off+1<cs.length):(lay2 bk off cs v n).length=cs.length:=by
 unfold lay2;rw [lay_lenB _ _ _ (by rw [lay_lenB _ _ _ (by simp;omega)];simp;omega),lay_lenB _ _ _ (by simp;omega)]
theorem BAt.next {T:TypeId} {bk off:Nat} {cs:List V} {v:Value} {n:Nat} (h:BAt T bk off cs v n) (v':Value) (n':Nat):BAt T bk off (lay2 bk off cs v' n') v' n':=by
 have hlt:=h.lt
 have l1:(layV cs off [selfP bk off true]).length=cs.length:=lay_lenB _ _ _ (by simp;omega)
 refine ⟨⟨true,?_⟩,?_,by rw [lay2_len hlt];exact hlt,by rw [lay2_len hlt];exact h.lies⟩
 · unfold lay2;rw [lay_get _ _ _ _ (by omega),if_neg (by omega),lay_get _ _ _ _ (by omega),if_pos rfl]
 · unfold lay2;rw [lay_get _ _ _ _ (by omega),if_pos rfl]
theorem lay_mid1 (A C:List V) (x y:V) {k:Nat} (hk:k=A.length):layV (A++x::C) k [y]=A++y::C:=by
 subst hk
 unfold layV
 simp
theorem two_split {cs:List V} {off:Nat} (h:off+1<cs.length):∃ A C x y,cs=A++x::y::C/\A.length=off:=by
 refine ⟨cs.take off,cs.drop (off+2),cs[off],cs[off+1],?_,by rw [List.length_take];omega⟩
 rw [<-List.drop_eq_getElem_cons,<-List.drop_eq_getElem_cons,List.take_append_drop]
theorem lay2_eq {bk off:Nat} {A C:List V} {x y:V} (hA:A.length=off) (v:Value) (n:Nat):lay2 bk off (A++x::y::C) v n=A++selfP bk off true :: .ar v n::C:=by
 unfold lay2
 rw [lay_mid1 _ _ _ _ hA.symm]
 have e:A++selfP bk off true::y::C=(A++[selfP bk off true])++y::C:=by simp
 rw [e,lay_mid1 _ _ _ _ (by rw [List.length_append,hA];rfl)]
 simp
theorem lay2_lay2 {bk off:Nat} {cs:List V} {v v':Value} {n n':Nat} (h:off+1<cs.length):lay2 bk off (lay2 bk off cs v n) v' n'=lay2 bk off cs v' n':=by
 obtain ⟨A,C,x,y,rfl,hA⟩:=two_split h
 rw [lay2_eq hA,lay2_eq hA,lay2_eq hA]
theorem ccheck_dc (T:TypeId) (bk off:Nat) (cs:List V) (v:Value) (n:Nat) (F:Own):(BAt T bk off cs v n)->DC Tryz.prog 192 [.raw (.pointer (some ⟨bk,off,none⟩))] ([.tb T bk cs]++F) fun d G=>d = .tup []/\G=[.tb T bk (layV cs off [selfP bk off true])]++F:=fun h=>by
 obtain ⟨u,hu⟩:=h.u
 exact DC.ccheck layCk (by kernel_rfl) (by kernel_rfl) T bk off cs u F ⟨hu,by have:=h.lt;omega,h.lies⟩
theorem bstr_dc (T:TypeId) (bk off:Nat) (cs:List V) (v:Value) (l:List UInt8) (F:Own):(BAt T bk off cs v l.length/\l.length<=140737488355328)->DC Tryz.prog 93 [.raw (.pointer (some ⟨bk,off,none⟩))] ([.tb T bk cs, .ba 5 v l]++F) fun d G=>d = .str l/\G=[.tb T bk cs]++F:=fun h =>
 DC.bstring layStr2 layXtra (by kernel_rfl) T bk off cs v l F ⟨h.1.a,h.1.lt,h.2⟩
theorem join_dc (ws:List (List UInt8)) (sep:List UInt8) (F:Own):(ws.length<=1000000/\(Lib.join ws sep).length<=140737488355328)->DC Tryz.prog 146 [.sl (ws.map V.str), .str sep] ([loose]++F) fun d G=>d = .str (Lib.join ws sep)/\G=[loose]++F:=fun h =>
 DC.join layJoin layXtra (by kernel_rfl) ws sep F h
theorem appB_s (l xs:List UInt8) (h:l.length+xs.length<=140737488355328):AppB Tryz.prog 29 9 5 l xs:=by
 unfold AppB;rw [ty_29,ty_9,ty_5];exact ⟨rfl,rfl,rfl,by decide,by decide,by decide,rfl,rfl,rfl,h⟩
theorem appB_b (l xs:List UInt8) (h:l.length+xs.length<=140737488355328):AppB Tryz.prog 29 29 5 l xs:=by
 unfold AppB;rw [ty_29,ty_5];exact ⟨rfl,rfl,rfl,by decide,by decide,by decide,rfl,rfl,rfl,h⟩
attribute [local irreducible] DW SeqD DV DOp DC DVX lay2 selfP liesB
theorem s_wstr_dc {P Q:Prop} (q:Q) (h:Hid Q->P:=by (intro q;simp (maxSteps:=1000000) (disch:=omega) only [push_cast,↓reduceIte,reduceCtorEq,Nat.reduceAdd,Nat.reduceMul,Nat.reduceLT,Nat.reduceLeDiff,Nat.reduceEqDiff,Nat.reduceSub,Int.reduceToNat,Int.reduceLT,Int.reduceLE,Int.reduceAdd,Int.reduceSub,Int.reduceMul,Int.reduceNeg,Nat.reduceBEq,Int.reduceBEq,Int.reduceBNe,Nat.reduceBNe,Int.reduceEq,getD_drop',z1,l1,addr_mk,u8];exact q.1)):P:=h ⟨q⟩
section
attribute [local push_cast 2000] getD_drop' addr_mk u8
theorem wstr_dc (T:TypeId) (bk off:Nat) (cs:List V) (v:Value) (l:List UInt8) (s2:List UInt8) (F:Own):(BAt T bk off cs v l.length/\l.length+s2.length<=140737488355328)->DC Tryz.prog 145 [.raw (.pointer (some ⟨bk,off,none⟩)), .str s2] ([.tb T bk cs, .ba 5 v l]++F) fun d G=>∃ v',d = .tup [.int .i64 s2.length, .raw .nilIface]/\G=[.tb T bk (lay2 bk off cs v' (l++s2).length), .ba 5 v' (l++s2)]++F:=by
 intro hA
 obtain ⟨hB,hm⟩:=hA
 refine DC.bodyS (n_:=19) (show Tryz.prog.funcs[145]? = some Tryz.f145 by kernel_rfl) rfl rfl (by rfl) ?_
 simp only [env0,List.cons_append,List.nil_append]
 have kw:=ksIs [0,1,4,5]
 have ow:=ownIs []
 have hlt:=hB.lt
 have l1:(layV cs off [selfP bk off true]).length=cs.length:=lay_lenB _ _ _ (by simp;omega)
 have z1:(layV cs off [selfP bk off true]).getD (off+1) .any = .ar v l.length:=by rw [lay_get _ _ _ _ (by omega),if_neg (by omega)];exact hB.a
 repeat' (first
  | ((refine DOp.loadT_ rfl rfl ?_);(repeat (with_reducible first | refine OnTb.here ?_ | refine OnTb.next ?_));(fail_if_success (with_reducible apply OnTb_id));refine s_wstr_dc ?_)
  | ((refine DOp.storeT_ rfl rfl ?_);(repeat (with_reducible first | refine OnTb.here ?_ | refine OnTb.next ?_));(fail_if_success (with_reducible apply OnTb_id));refine s_wstr_dc ?_)
  | ((refine DOp.appba_ rfl rfl rfl ?_);(repeat (with_reducible first | refine OnBa.here ?_ | refine OnBa.next ?_));(fail_if_success (with_reducible apply OnBa_id));(refine And.intro (by first | exact appB_s _ _ (by omega) | exact appB_b _ _ (by simp only [List.length_cons,List.length_nil];omega)) ?_);(with_reducible intro w1);refine s_wstr_dc ?_)
  | refine g_ ?_
  | ((with_reducible refine And.intro ?_ ?_);(exact sv))
  | (refine DW.cond (by rfl) ?_ ?_<;>(first | exact i0_ | (intro hb;(try simp only [↓reduceCtorEq,not_true_eq_false,not_false_eq_true,hbs,Int.reduceBEq,Int.reduceBNe,Int.reduceEq] at hb);(try refine s_wstr_dc ?_))))
  | ((with_reducible refine FVg_cases ?_ ?_)<;>(intro hb;rw [hb];revert hb;(first | exact i0_ | (intro hb;(try simp only [↓reduceCtorEq,not_true_eq_false,not_false_eq_true,hbs,Int.reduceBEq,Int.reduceBNe,Int.reduceEq] at hb);(try refine s_wstr_dc ?_)))))
  | ((first | refine rn_ ?_ | refine kn_ ?_)<;>(refine s_wstr_dc ?_))
  | (refine p_ (ccheck_dc _ _ _ _ _ _ _) ?_;rintro d H1 ⟨rfl,rfl⟩<;>refine s_wstr_dc ?_)
  | ((refine on_ ?_);refine s_wstr_dc ?_)
  | refine f_ ?_
  | with_reducible intro b)
 all_goals first
 | (refine ⟨_,_,le.rfl_,⟨w1,rfl,rfl⟩,?_⟩;(simp only [lay2_is,List.length_append,List.length_cons,List.length_nil,Nat.zero_add]);(exact sub_);done)
 | (trace_state;fail)
end
theorem s_wbyte_dc {P Q:Prop} (q:Q) (h:Hid Q->P:=by (intro q;simp (maxSteps:=1000000) (disch:=omega) only [push_cast,↓reduceIte,reduceCtorEq,Nat.reduceAdd,Nat.reduceMul,Nat.reduceLT,Nat.reduceLeDiff,Nat.reduceEqDiff,Nat.reduceSub,Int.reduceToNat,Int.reduceLT,Int.reduceLE,Int.reduceAdd,Int.reduceSub,Int.reduceMul,Int.reduceNeg,Nat.reduceBEq,Int.reduceBEq,Int.reduceBNe,Nat.reduceBNe,Int.reduceEq,getD_drop',z1,l1,addr_mk,u8];exact q.1)):P:=h ⟨q⟩
section
attribute [local push_cast 2000] getD_drop' addr_mk u8
theorem wbyte_dc (T:TypeId) (bk off:Nat) (cs:List V) (v:Value) (l:List UInt8) (c:UInt8) (F:Own):(BAt T bk off cs v l.length/\l.length+1<=140737488355328)->DC Tryz.prog 147 [.raw (.pointer (some ⟨bk,off,none⟩)), .int .u8 (c.toNat:Int)] ([.tb T bk cs, .ba 5 v l]++F) fun d G=>∃ v',d = .raw .nilIface/\G=[.tb T bk (lay2 bk off cs v' (l++[c]).length), .ba 5 v' (l++[c])]++F:=by
 intro hA
 obtain ⟨hB,hm⟩:=hA
 refine DC.bodyS (n_:=17) (show Tryz.prog.funcs[147]? = some Tryz.f147 by kernel_rfl) rfl rfl (by rfl) ?_
 simp only [env0,List.cons_append,List.nil_append]
 have kw:=ksIs [0,1,4]
 have ow:=ownIs []
 have hlt:=hB.lt
 have l1:(layV cs off [selfP bk off true]).length=cs.length:=lay_lenB _ _ _ (by simp;omega)
 have z1:(layV cs off [selfP bk off true]).getD (off+1) .any = .ar v l.length:=by rw [lay_get _ _ _ _ (by omega),if_neg (by omega)];exact hB.a
 repeat' (first
  | ((refine DOp.loadT_ rfl rfl ?_);(repeat (with_reducible first | refine OnTb.here ?_ | refine OnTb.next ?_));(fail_if_success (with_reducible apply OnTb_id));refine s_wbyte_dc ?_)
  | ((refine DOp.storeT_ rfl rfl ?_);(repeat (with_reducible first | refine OnTb.here ?_ | refine OnTb.next ?_));(fail_if_success (with_reducible apply OnTb_id));refine s_wbyte_dc ?_)
  | ((refine DOp.appba_ (xs:=[c]) rfl rfl rfl ?_);(repeat (with_reducible first | refine OnBa.here ?_ | refine OnBa.next ?_));(fail_if_success (with_reducible apply OnBa_id));(refine And.intro (by first | exact appB_s _ _ (by omega) | exact appB_b _ _ (by simp only [List.length_cons,List.length_nil];omega)) ?_);(with_reducible intro w1);refine s_wbyte_dc ?_)
  | refine g_ ?_
  | ((with_reducible refine And.intro ?_ ?_);(exact sv))
  | (refine DW.cond (by rfl) ?_ ?_<;>(first | exact i0_ | (intro hb;(try simp only [↓reduceCtorEq,not_true_eq_false,not_false_eq_true,hbs,Int.reduceBEq,Int.reduceBNe,Int.reduceEq] at hb);(try refine s_wbyte_dc ?_))))
  | ((with_reducible refine FVg_cases ?_ ?_)<;>(intro hb;rw [hb];revert hb;(first | exact i0_ | (intro hb;(try simp only [↓reduceCtorEq,not_true_eq_false,not_false_eq_true,hbs,Int.reduceBEq,Int.reduceBNe,Int.reduceEq] at hb);(try refine s_wbyte_dc ?_)))))
  | ((first | refine rn_ ?_ | refine kn_ ?_)<;>(refine s_wbyte_dc ?_))
  | (refine p_ (ccheck_dc _ _ _ _ _ _ _) ?_;rintro d H1 ⟨rfl,rfl⟩<;>refine s_wbyte_dc ?_)
  | ((refine on_ ?_);refine s_wbyte_dc ?_)
  | refine f_ ?_
  | with_reducible intro b)
 all_goals first
 | (refine ⟨_,_,le.rfl_,⟨w1,rfl,rfl⟩,?_⟩;(simp only [lay2_is,List.length_append,List.length_cons,List.length_nil,Nat.zero_add]);(exact sub_);done)
 | (trace_state;fail)
end
end
end Go.Proofs.YtbmbcjmgjdnlnaaGreatDoor
