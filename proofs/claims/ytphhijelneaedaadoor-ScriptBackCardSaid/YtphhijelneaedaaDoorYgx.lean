/- An event is read. -/
import Derived.Test.YtphhijelneaedaaDoorYfx
import Derived.KernelRfl
namespace Go.Proofs.YtphhijelneaedaaDoor
open Go.RowKit
set_option linter.unusedSimpArgs false
set_option linter.unusedVariables false
set_option linter.unusedSectionVars false
set_option maxHeartbeats 4000000
set_option maxRecDepth 100000
section
def encE (e:Ev):V:=.agg [.int .i64 e.kind, .int .i64 e.node, .int .i64 e.conn, .int .i64 e.n, .sl (e.b.map u8)]
structure EO (ws:List YS):Prop where
 ne:0<ws.length
 f:FitE ws
 l:∀ k,(ws.getD k []).length<=1000000000
 n:ws.length<=1000000000
def spY (k:Nat):YS:=(kindsY.getD k default).2
def wdY (k:Nat):YS:=(kindsY.getD k default).1
theorem kinds_at {k:Nat} (h:k<10):(kindsY.map encK).getD k .any = .agg [.str (wdY k), .str (spY k)]:=by
 have:∀ k,k<10->(kindsY.getD k default)=(wdY k,spY k):=fun k _=>rfl
 rw [List.getD_eq_getElem?_getD,List.getElem?_map,List.getElem?_eq_getElem (show k<kindsY.length from h)]
 have e:=this k h
 rw [List.getD_eq_getElem?_getD,List.getElem?_eq_getElem (show k<kindsY.length from h)] at e
 show encK (kindsY[k]'h)=_
 rw [show kindsY[k]'h=(wdY k,spY k) from e];rfl
theorem spY_c:∀ k,k<10->∀ c∈spY k,c=120\/c=110\/c=99\/c=107:=by decide
theorem spY_l:∀ k,k<10->(spY k).length<=3:=by decide
theorem spY_l2 (k:Nat):(spY k).length<=3:=by
 by_cases h:k<10
 · exact spY_l k h
 · unfold spY
   rw [List.getD_eq_getElem?_getD,List.getElem?_eq_none (show kindsY.length<=k by show 10<=k;omega)];decide
theorem isK_next {ws:List YS} {k:Nat} (h:∀ j,j<k->isK ws j=false) (h2:isK ws k=false):∀ j,j<k+1->isK ws j=false:=fun j hj=>by
 rcases Nat.lt_or_eq_of_le (Nat.le_of_lt_succ hj) with h3 | rfl
 · exact h j h3
 · exact h2
theorem EO.fw {ws:List YS} (h:EO ws) {k i:Nat} (hk:k<10) (his:isK ws k=true) (hi:i<(spY k).length):FW ((spY k).getD i 0) (ws.getD (1+i) []) :=
 ⟨spY_c k hk _ (getD_inY hi),h.f k hk his i hi,h.l _⟩
theorem isK_no1 {ws:List YS} {k:Nat} (h:¬ wdY k=ws.getD 0 default):isK ws k=false:=by
 unfold isK
 rw [decide_eq_false (show ¬ (kindsY.getD k default).1=ws.getD 0 [] from h)];rfl
theorem isK_no2 {ws:List YS} {k:Nat} (h:¬ ws.length=1+(spY k).length):isK ws k=false:=by
 unfold isK
 rw [decide_eq_false (show ¬ ws.length=1+(kindsY.getD k default).2.length from h),Bool.and_false]
theorem isK_yes {ws:List YS} {k:Nat} (h:wdY k=ws.getD 0 default) (h2:ws.length=1+(spY k).length):isK ws k=true:=by
 unfold isK
 rw [decide_eq_true (show (kindsY.getD k default).1=ws.getD 0 [] from h),decide_eq_true (show ws.length=1+(kindsY.getD k default).2.length from h2)];rfl
theorem all_s {sp:YS} {ws:List YS} {i:Nat} (h:allY sp ws i=true) (h2:okY (sp.getD i 0) (ws.getD (1+i) [])=true):allY sp ws (i+1)=true:=by
 unfold allY at *
 rw [List.range_succ,List.all_append,h,List.all_cons,h2];rfl
theorem all_no {sp:YS} {ws:List YS} {i n:Nat} (hi:i<n) (h2:okY (sp.getD i 0) (ws.getD (1+i) [])=false):allY sp ws n=false:=by
 unfold allY
 rw [List.all_eq_false]
 exact ⟨i,List.mem_range.2 hi,by rw [h2];decide⟩
theorem ev_yes {ws:List YS} {k:Nat} (hk:k<10) (h0:∀ j,j<k->isK ws j=false) (h:isK ws k=true) (ha:allY (spY k) ws (spY k).length=true):evY ws=(foldY ⟨k,0,0,0,[]⟩ (spY k) ws (spY k).length,true):=by
 rw [evY_hit hk h h0];unfold evK;exact if_pos ha
theorem ev_no {ws:List YS} {k:Nat} (hk:k<10) (h0:∀ j,j<k->isK ws j=false) (h:isK ws k=true) (ha:allY (spY k) ws (spY k).length=false):evY ws=(default,false):=by
 rw [evY_hit hk h h0];unfold evK;exact if_neg (by rw [show allY (kindsY.getD k default).2 ws (kindsY.getD k default).2.length=false from ha];decide)
theorem ev_le (e:Ev):le (.agg [.int .i64 e.kind, .int .i64 e.node, .int .i64 e.conn, .int .i64 e.n,bvY e.b]) (encE e):=le.agg (Les.cons le.rfl_ (Les.cons le.rfl_ (Les.cons le.rfl_ (Les.cons le.rfl_ (Les.cons (bvY_le _) Les.nil)))))
theorem ev_le0:le (.agg [.int .i64 0, .int .i64 0, .int .i64 0, .int .i64 0, .gs (.slice none 0 0) []]) (encE default):=ev_le default
theorem fold_0 (e:Ev) (sp:YS) (ws:List YS):foldY e sp ws 0=e:=rfl
theorem fold_s (e:Ev) (sp:YS) (ws:List YS) (i:Nat):foldY e sp ws (i+1)=setY (foldY e sp ws i) (sp.getD i 0) (ws.getD (1+i) default):=rfl
theorem one_n (i:Nat):(1+(i:Int)).toNat=1+i:=by omega
attribute [local irreducible] DW SeqD DV DOp DC DVX wdY spY foldY bvY setY okY
theorem sv_event_dc {p:Prop} (h:p:=by first | exact sv | exact hE.fw (by omega) his (by omega) | fail):p:=h
section
attribute [local push_cast 2000] kinds_at one_n bvY_m1 bvY_m3 bvY_m4
theorem event_dc (T5:TypeId) (fr:Nat×Nat) (ws:List YS) (F:Own):(EO ws)->DC Tryd.prog 55 [.sl (ws.map V.str)] ([knP T5 fr]++F) fun d G=>d = .tup [encE (evY ws).1, .bool (evY ws).2]/\G=[knP T5 fr]++F:=by
 intro hA
 have hE:=hA
 refine DC.bodyS (n_:=54) (show Tryd.prog.funcs[55]? = some Tryd.f55 by kernel_rfl) rfl rfl (by rfl) ?_
 simp only [env0,fold_0,bvY_nil,List.cons_append,List.nil_append]
 have kw:=ksIs [0,2,3,4,5,6,7,8,9,10,11,29,34,35,36,48]
 have ow:=ownIs []
 have dw4:=drIs 4 [] [1,4,10]
 have dw9:=drIs 9 [9] [1,8]
 have rw_:=rsIs [.cell 2 54, .tmp 3]
 have hw0:=hE.ne;have hwn:=hE.n;have hKL:kindsY.length=10:=rfl
 repeat' (first
  | ((with_reducible apply DW.frzB 4 5);(focus (exact rfl));(repeat (with_reducible first | refine Out.here ?_ | refine Out.next ?_));simp only [put_cons,put_nil,Nat.reduceEqDiff,↓reduceIte,if_true,if_false,reduceCtorEq])
  | ((with_reducible refine DW.loopB 0 (X:=Nat) (fun x=>x<=10/\∀ j,j<x->isK ws j=false) (fun x=>[(0, .sl (ws.map V.str)),(2, .raw (.pointer (some ⟨b2,0,none⟩))),(8, .sl (kindsY.map encK)),(9, .int .i64 kindsY.length),(10, .int .i64 x)]) (fun x=>[.blk b2 [.int .i64 0, .int .i64 0, .int .i64 0, .int .i64 0, .gs (.slice none 0 0) []],knP T5 fr]) (fun x=>10 - x) (0) ?_ ?_ ?_);exact (⟨Nat.zero_le _,fun j h=>absurd h (Nat.not_lt_zero _)⟩);(simp [Sub,get,keepL]<;>fail);(try simp only [fold_0,bvY_nil,List.cons_append,List.nil_append]);refine pl_ ?_;intro k ⟨hk,hno⟩;(try simp only [fold_0,bvY_nil,List.cons_append,List.nil_append]);(try simp only at hk hno);have hsl:=spY_l2 k)
  | ((have his:isK ws k=true:=isK_yes (by assumption) (by omega));(have hkt:k<10:=by omega);((with_reducible refine DW.loopB 2 (X:=Nat) (fun x=>x<=(spY k).length/\allY (spY k) ws x=true) (fun x=>[(0, .sl (ws.map V.str)),(2, .raw (.pointer (some ⟨b2,0,none⟩))),(5, .sp [.str (wdY k), .str (spY k)]),(6, .raw (.pointer (some ⟨b6,0,none⟩))),(34, .int .i64 (spY k).length),(35, .int .i64 x)]) (fun x=>[.blk b6 [.int .i64 (foldY ⟨(k:Int),0,0,0,[]⟩ (spY k) ws x).kind, .int .i64 (foldY ⟨(k:Int),0,0,0,[]⟩ (spY k) ws x).node, .int .i64 (foldY ⟨(k:Int),0,0,0,[]⟩ (spY k) ws x).conn, .int .i64 (foldY ⟨(k:Int),0,0,0,[]⟩ (spY k) ws x).n,bvY (foldY ⟨(k:Int),0,0,0,[]⟩ (spY k) ws x).b], .blk b2 [.int .i64 0, .int .i64 0, .int .i64 0, .int .i64 0, .gs (.slice none 0 0) []],knP T5 fr]) (fun x=>(spY k).length - x) (0) ?_ ?_ ?_);exact (⟨Nat.zero_le _,rfl⟩);(simp [Sub,get,keepL,fold_0,bvY_nil]<;>fail);(try simp only [fold_0,bvY_nil,List.cons_append,List.nil_append]);refine pl_ ?_;intro i ⟨hi,hall⟩;(try simp only [fold_0,bvY_nil,List.cons_append,List.nil_append])))
  | refine g_ ?_
  | ((with_reducible refine And.intro ?_ ?_);(exact sv_event_dc))
  | (refine DW.cond (by rfl) ?_ ?_<;>(first | exact i0_ | (refine ic_ ?_;intro hb)))
  | ((with_reducible first | refine FVg_cases ?_ ?_ | refine FDg_cases ?_ ?_)<;>(intro hb;rw [hb];revert hb;(first | exact i0_ | (refine i_ ?_;intro hb))))
  | refine r_ ?_
  | refine d_ ?_
  | refine k_ ?_
  | ((refine dm_ ?_);(first | (refine v_ (kinds_dc _) ?_ (ha:=by exact sv_event_dc))))
  | refine vo_ ?_
  | (refine q_ (kinds_dc _) ?_ (ha:=by exact sv_event_dc))
  | (refine p_ (read_dc _ _ _ _ _ _ _) ?_ (ha:=by exact sv_event_dc);rintro d H1 ⟨rfl,rfl⟩<;>refine s_ ?_)
  | refine o_ ?_
  | refine f_ ?_
  | refine vm_ ?_
  | ((fail_if_success (have zz:=b2));with_reducible intro b2)
  | ((fail_if_success (have zz:=b5));with_reducible intro b5)
  | ((fail_if_success (have zz:=b6));with_reducible intro b6)
  | with_reducible intro b)
 all_goals first
 | (refine ⟨k+1,⟨by (try simp only);omega,isK_next hno (isK_no1 hb)⟩,by (try simp only);omega,by simp [Sub,get],?_⟩;(exact sub_);done)
 | (refine ⟨k+1,⟨by (try simp only);omega,isK_next hno (isK_no2 (by omega))⟩,by (try simp only);omega,by simp [Sub,get],?_⟩;(exact sub_);done)
 | (refine ⟨i+1,⟨by (try simp only);omega,all_s hall hb⟩,by (try simp only);omega,by simp [Sub,get],?_⟩;((try dsimp only);rw [fold_s];(exact sub_));done)
 | ((rw [ev_no hkt hno his (all_no (by omega) hb)];(refine ⟨_,_,le.tup (Les.cons ev_le0 (Les.cons le.rfl_ Les.nil)),⟨rfl,rfl⟩,?_⟩);(exact sub_);done))
 | (((have hil:i=(spY k).length:=by omega);(subst hil);rw [ev_yes hkt hno his hall];(refine ⟨_,_,le.tup (Les.cons (ev_le _) (Les.cons le.rfl_ Les.nil)),⟨rfl,rfl⟩,?_⟩);(exact sub_);done))
 | (((have hk10:k=10:=by omega);(subst hk10);rw [evY_miss hno];(refine ⟨_,_,le.tup (Les.cons ev_le0 (Les.cons le.rfl_ Les.nil)),⟨rfl,rfl⟩,?_⟩);(exact sub_);done))
 | (trace_state;fail)
end
end
end Go.Proofs.YtphhijelneaedaaDoor
