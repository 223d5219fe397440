/- The program finds just those tables right that the document does. -/
import Derived.Test.YtifdpbghkccaoaaGreatDoorPv2x
import Derived.KernelRfl
namespace Go.Proofs.YtifdpbghkccaoaaGreatDoor
open Go.RowKit
set_option linter.unusedSimpArgs false
set_option linter.unusedVariables false
set_option linter.unusedSectionVars false
set_option maxHeartbeats 4000000
set_option maxRecDepth 100000
section
def linesL (ro:List TRoute) (k:Nat):List ((Int×Int×Str)×Bool):=(ro.take k).map fun r=>(lineL r,true)
def seenD (L:List TDot) (k:Nat):List (TDot×Bool):=(L.take k).map fun d=>(d,true)
theorem lines_0 (ro:List TRoute):linesL ro 0=[]:=rfl
theorem seen_0 (L:List TDot):seenD L 0=[]:=rfl
theorem anyK_ex {p:Nat->Bool} {n:Nat} (h:anyK p n=true):∃ j,j<n/\p j=true:=by
 obtain ⟨j,hj,hp⟩:=List.any_eq_true.1 h
 exact ⟨j,List.mem_range.1 hj,hp⟩
theorem anyK_none {p:Nat->Bool} {n:Nat} (h:∀ j,j<n->p j=false):anyK p n=false:=by
 cases ha:anyK p n with
 | false=>rfl
 | true=>obtain ⟨j,hj,hp⟩:=anyK_ex ha;rw [h j hj] at hp;cases hp
theorem dot_ext2 {x y:TDot} (h:x.node=y.node/\x.epoch=y.epoch/\x.n=y.n):x=y:=by
 obtain ⟨a,b,c⟩:=x;obtain ⟨a',b',c'⟩:=y
 simp only at h;obtain ⟨rfl,rfl,rfl⟩:=h;rfl
theorem look_true {α:Type} [DecidableEq α] {l:List (α×Bool)} (h:∀ x∈l,x.2=true) {k:α} (hb:(lookA k l).getD false=false):lookA k l=none:=by
 cases hl:lookA k l with
 | none=>rfl
 | some v=>rw [hl] at hb;have:=h _ (lookA_some hl);simp only at this hb;rw [this] at hb;cases hb
theorem look_yes {α:Type} [DecidableEq α] {l:List (α×Bool)} {k:α} (hb:(lookA k l).getD false=true):∃ x∈l,x.1=k:=by
 cases hl:lookA k l with
 | none=>rw [hl] at hb;cases hb
 | some v=>exact ⟨_,lookA_some hl,rfl⟩
section
variable {se:List TDot} {fe:List TFence} {ro:List TRoute} {ce:List TCell}
theorem line_yes {k:Nat} (hk:k<=ro.length) {r:TRoute} (hb:(lookA (r.dot.node,r.dot.epoch,r.filter) (linesL ro k)).getD false=true):∃ j,j<k/\ownB (ro.getD j default) r.dot.node r.dot.epoch r.filter=true:=by
 obtain ⟨x,hx,he⟩:=look_yes hb
 obtain ⟨y,hy,rfl⟩:=List.mem_map.1 hx
 obtain ⟨j,hj,rfl⟩:=(mem_take_iff hk).1 hy
 simp only [lineL,Prod.mk.injEq] at he
 exact ⟨j,hj,own_iff.2 ⟨he.1,he.2.1,he.2.2⟩⟩
theorem line_no {k:Nat} (hk:k<=ro.length) {r:TRoute} (hb:(lookA (r.dot.node,r.dot.epoch,r.filter) (linesL ro k)).getD false=false):(∀ j,j<k->ownB (ro.getD j default) r.dot.node r.dot.epoch r.filter=false)/\updA (r.dot.node,r.dot.epoch,r.filter) true (linesL ro k)=linesL ro k++[((r.dot.node,r.dot.epoch,r.filter),true)]:=by
 have hn:=look_true (fun x hx=>by obtain ⟨y,_,rfl⟩:=List.mem_map.1 hx;rfl) hb
 refine ⟨fun j hj=>?_,updA_new hn⟩
 cases ho:ownB (ro.getD j default) r.dot.node r.dot.epoch r.filter with
 | false=>rfl
 | true =>
  obtain ⟨h1,h2,h3⟩:=own_iff.1 ho
  rw [lookA_none] at hn
  exact absurd (by simp only [lineL];rw [h1,h2,h3]) (hn _ (List.mem_map.2 ⟨_,(mem_take_iff hk).2 ⟨j,hj,rfl⟩,rfl⟩))
theorem lines_s {k:Nat} (hk:k<ro.length):linesL ro (k+1)=linesL ro k++[(((ro.getD k default).dot.node,(ro.getD k default).dot.epoch,(ro.getD k default).filter),true)]:=by
 unfold linesL;rw [take_more ro k hk,List.map_append];rfl
theorem seen_s {L:List TDot} {k:Nat} (hk:k<L.length):seenD L (k+1)=seenD L k++[(L.getD k default,true)]:=by
 unfold seenD;rw [take_more L k hk,List.map_append];rfl
theorem seen_yes {L:List TDot} {k:Nat} (hk:k<L.length) {d:TDot} (hd:d=L.getD k default) (hb:(lookA d (seenD L k)).getD false=true):dotFresh L k=false:=by
 obtain ⟨x,hx,he⟩:=look_yes hb
 obtain ⟨y,hy,rfl⟩:=List.mem_map.1 hx
 obtain ⟨j,hj,rfl⟩:=(mem_take_iff (by omega)).1 hy
 simp only at he
 have e:dotSame L k j=true:=by unfold dotSame;rw [he,hd];simp
 rw [dotFresh,anyK_at e hj];rfl
theorem seen_no {L:List TDot} {k:Nat} (hk:k<L.length) {d:TDot} (hd:d=L.getD k default) (hb:(lookA d (seenD L k)).getD false=false):dotFresh L k=true/\updA d true (seenD L k)=seenD L (k+1):=by
 have hn:=look_true (fun x hx=>by obtain ⟨y,_,rfl⟩:=List.mem_map.1 hx;rfl) hb
 refine ⟨?_,by rw [updA_new hn,seen_s hk,hd]⟩
 rw [dotFresh,Bool.not_eq_true']
 cases ha:anyK (dotSame L k) k with
 | false=>rfl
 | true =>
  exfalso
  obtain ⟨j,hj,hs⟩:=anyK_ex ha
  rw [lookA_none] at hn
  unfold dotSame at hs
  simp only [Bool.and_eq_true,beq_iff_eq] at hs
  exact hn _ (List.mem_map.2 ⟨_,(mem_take_iff (by omega)).2 ⟨j,hj,rfl⟩,rfl⟩) (by rw [hd];exact dot_ext2 ⟨hs.1.1,hs.1.2,hs.2⟩)
theorem dotsOf_r {k:Nat} (hk:k<ro.length):(dotsOf ro ce).getD k default=(ro.getD k default).dot:=by
 unfold dotsOf
 rw [List.getD_eq_getElem?_getD,List.getElem?_append_left (by simpa using hk)]
 simp [List.getD_eq_getElem?_getD,hk]
theorem dotsOf_c {k:Nat} (hk:k<ce.length):(dotsOf ro ce).getD (ro.length+k) default=(ce.getD k default).dot:=by
 unfold dotsOf
 rw [List.getD_eq_getElem?_getD,List.getElem?_append_right (by simp)]
 simp [List.getD_eq_getElem?_getD,hk]
theorem cellOk_is {k:Nat}:cellOk se ce k=((decide (k=0)||Op.bytesLess (ce.getD (k - 1) default).topic (ce.getD k default).topic)&&hasB se (ce.getD k default).dot&&cellOkB (ce.getD k default)):=by
 unfold cellOk cellOkB
 simp only [Bool.and_assoc]
 cases (decide (k=0)||Op.bytesLess (ce.getD (k - 1) default).topic (ce.getD k default).topic)<;>cases nameB (ce.getD k default).topic<;>cases hasB se (ce.getD k default).dot<;>first | rfl | simp
end
attribute [local irreducible] DW SeqD DV DOp DC DVX DVJ nameB filterB hasB fencedL rightB fencesB rbefore cellOkB tableB linesL seenD stampedM Op.bytesLess
theorem sv_ptright_dc {p:Prop} (h:p:=by first | exact sv | exact Nat.le_trans (hrf _ (by omega)) (by decide) | exact ⟨Nat.le_trans (hct _ (by omega)) (by decide),hcp _ (by omega)⟩ | fail):p:=h
section
attribute [local push_cast 2000] encRoute encCell route_eta dot_eta stamp_eta cell_eta toNat_pred2 look_nil upd_nil look_str upd_str drop_str opt_bool opt_int opt_some entM_nil entM_len look_dot upd_dot look_line upd_line keyS_63 keyS0_63 zeroD_68 keyS_80 keyS0_80 zeroD_4 keyS_81 keyS0_81 keyS_113 keyS0_113 zeroD_76 lines_0 seen_0
theorem ptright_dc (se:List TDot) (fe:List TFence) (ro:List TRoute) (ce:List TCell) (m:Int) (F:Own):((se.length<=1000000000/\fe.length<=1000000000/\ro.length<=1000000000/\ce.length<=1000000000)/\(∀ k,k<ro.length->(ro.getD k default).filter.length<=2000000)/\(∀ k,k<ce.length->(ce.getD k default).topic.length<=2000000)/\(∀ k,k<ce.length->(ce.getD k default).payload.length<=1000000000))->DC Tryz.prog 12 [.agg [.sl (se.map encDot), .sl (fe.map encFence), .sl (ro.map encRoute), .sl (ce.map encCell)]] ([knF,knA,knM m]++F) fun d G=>d = .bool (tableB se fe ro ce)/\G=[knF,knA,knM m]++F:=by
 intro hA
 obtain ⟨⟨hs,hf,hr,hc⟩,hrf,hct,hcp⟩:=hA
 refine DC.bodyS (n_:=130) (show Tryz.prog.funcs[12]? = some Tryz.f12 by kernel_rfl) rfl rfl (by rfl) ?_
 simp only [env0,lines_0,seen_0,entM_nil,Nat.add_zero,List.cons_append,List.nil_append]
 have kw:=ksIs [0,1,2,3,4,5,6,7,8,18,22,23,24,25,77,86,87,88,89,125]
 have ow:=ownIs []
 have dw7:=drIs 7 [] [4,8,9,10,15,16,21,23,24,28,31,34,35,39,40,41,46,47]
 have dw9:=drIs 9 [6,7] [2,4,5]
 have dw14:=drIs 14 [] [4,9,11,15,16,21,23,24,30,31]
 repeat' (first
  | ((with_reducible apply DW.frzB 7 6);(focus (exact rfl));(repeat (with_reducible first | refine Out.here ?_ | refine Out.next ?_));simp only [put_cons,put_nil,Nat.reduceEqDiff,↓reduceIte,if_true,if_false,reduceCtorEq])
  | ((with_reducible apply DW.frzB 14 8);(focus (exact rfl));(repeat (with_reducible first | refine Out.here ?_ | refine Out.next ?_));simp only [put_cons,put_nil,Nat.reduceEqDiff,↓reduceIte,if_true,if_false,reduceCtorEq])
  | ((with_reducible refine DW.loopB 0 (X:=Nat) (fun x=>x<=ro.length/\allK (routeOk se fe ro) x=true/\allK (dotFresh (dotsOf ro ce)) x=true) (fun x=>[(1, .sp [.sl (se.map encDot), .sl (fe.map encFence), .sl (ro.map encRoute), .sl (ce.map encCell)]),(3, .raw (.map (some b1))),(4, .raw (.map (some b2))),(22, .sl (ro.map encRoute)),(23, .int .i64 ro.length),(24, .int .i64 x)]) (fun x=>[.map b2 (entM encLine V.bool (linesL ro x)), .map b1 (entM encDot V.bool (seenD (dotsOf ro ce) x)),knF,knA,knM m]) (fun x=>ro.length - x) (0) ?_ ?_ ?_);exact (⟨Nat.zero_le _,rfl,rfl⟩);(simp [Sub,get,keepL]<;>fail);(try simp only [lines_0,seen_0,entM_nil,Nat.add_zero,List.cons_append,List.nil_append]);refine pl_ ?_;intro k ⟨hk,ha,hd⟩;(try simp only [lines_0,seen_0,entM_nil,Nat.add_zero,List.cons_append,List.nil_append]);have hdl:=dotsOf_len (ro:=ro) (ce:=ce))
  | ((have hkl:k=ro.length:=by omega);subst hkl;((with_reducible refine DW.loopB 2 (X:=Nat) (fun x=>x<=ce.length/\allK (cellOk se ce) x=true/\allK (dotFresh (dotsOf ro ce)) (ro.length+x)=true) (fun x=>[(1, .sp [.sl (se.map encDot), .sl (fe.map encFence), .sl (ro.map encRoute), .sl (ce.map encCell)]),(3, .raw (.map (some b1))),(86, .sl (ce.map encCell)),(87, .int .i64 ce.length),(88, .int .i64 x)]) (fun x=>[.map b1 (entM encDot V.bool (seenD (dotsOf ro ce) (ro.length+x))),knF,knA,knM m]) (fun x=>ce.length - x) (0) ?_ ?_ ?_);exact (⟨Nat.zero_le _,rfl,hd⟩);(simp [Sub,get,keepL]<;>fail);(try simp only [lines_0,seen_0,entM_nil,Nat.add_zero,List.cons_append,List.nil_append]);refine pl_ ?_;intro k2 ⟨hk2,ha2,hd2⟩;(try simp only [lines_0,seen_0,entM_nil,Nat.add_zero,List.cons_append,List.nil_append])))
  | refine g_ ?_
  | ((with_reducible refine And.intro ?_ ?_);(exact sv_ptright_dc))
  | (refine DW.cond (by rfl) ?_ ?_<;>(first | exact i0_ | (refine ic_ ?_;intro hb)))
  | ((with_reducible first | refine FVg_cases ?_ ?_ | refine FDg_cases ?_ ?_)<;>(intro hb;rw [hb];revert hb;(first | exact i0_ | (refine i_ ?_;intro hb))))
  | refine r_ ?_
  | refine d_ ?_
  | refine k_ ?_
  | ((refine dm_ ?_);(first | ((first | refine v_ (pright_dc _ _) ?_ (ha:=by exact sv_ptright_dc) | refine v_ (pfences_dc _ _) ?_ (ha:=by exact sv_ptright_dc) | refine v_ (prbefore_dc _ _ _ _ _ _ _ _ _) ?_ (ha:=by exact sv_ptright_dc) | refine v_ (filterA_dc _ _ _) ?_ (ha:=by exact sv_ptright_dc) | refine v_ (phas_dc _ _ _ _ _) ?_ (ha:=by exact sv_ptright_dc) | refine v_ (pfenced_dc _ _ _ _ _ _ _) ?_ (ha:=by exact sv_ptright_dc) | refine v_ (line_dc _ _ _ _ _) ?_ (ha:=by exact sv_ptright_dc) | refine v_ (pcell_dc _ _ _ _ _ _ _ _ _ _ _ _) ?_ (ha:=by exact sv_ptright_dc))) | (refine DVop.look_ rfl rfl rfl rfl ?_;(repeat (with_reducible first | refine OnM.here ?_ | refine OnM.next ?_));refine s_ ?_)))
  | refine vo_ ?_
  | ((first | (refine DOp.look_ rfl rfl ?_;(repeat (with_reducible first | refine OnM.here ?_ | refine OnM.next ?_))) | (refine DOp.upd_ rfl rfl ?_;(repeat (with_reducible first | refine OnM.here ?_ | refine OnM.next ?_))) | (refine DOp.lenm_ rfl rfl ?_;(repeat (with_reducible first | refine OnM.here ?_ | refine OnM.next ?_))))<;>(refine s_ ?_))
  | ((first | refine q_ (pright_dc _ _) ?_ (ha:=by exact sv_ptright_dc) | refine q_ (pfences_dc _ _) ?_ (ha:=by exact sv_ptright_dc) | refine q_ (prbefore_dc _ _ _ _ _ _ _ _ _) ?_ (ha:=by exact sv_ptright_dc) | refine q_ (filterA_dc _ _ _) ?_ (ha:=by exact sv_ptright_dc) | refine q_ (phas_dc _ _ _ _ _) ?_ (ha:=by exact sv_ptright_dc) | refine q_ (pfenced_dc _ _ _ _ _ _ _) ?_ (ha:=by exact sv_ptright_dc) | refine q_ (line_dc _ _ _ _ _) ?_ (ha:=by exact sv_ptright_dc) | refine q_ (pcell_dc _ _ _ _ _ _ _ _ _ _ _ _) ?_ (ha:=by exact sv_ptright_dc)))
  | refine o_ ?_
  | refine f_ ?_
  | refine vm_ ?_
  | ((fail_if_success (have zz:=b1));with_reducible intro b1)
  | ((fail_if_success (have zz:=b2));with_reducible intro b2)
  | ((fail_if_success (have zz:=b3));with_reducible intro b3)
  | with_reducible intro b)
 all_goals first
 | (have eF:tableB se fe ro ce=false:=tableB_1 (by first | (left;assumption) | (right;assumption))
    rw [eF];(first | exact fin_ | refine finq_ ?_);done)
 | (have eF:tableB se fe ro ce=false:=tableB_2 (k:=k) (by omega) (routeOk_no (by first | (left;refine ⟨?_,?_⟩;(omega);assumption) | (right;left;assumption) | (right;right;left;assumption) | (right;right;right;left;assumption)))
    rw [eF];(first | exact fin_ | refine finq_ ?_);done)
 | (have h9:=line_yes (by omega) hb
    obtain ⟨j,hj1,hj2⟩:=h9
    have hj3:=anyK_at (show sameAt ro k j=true from hj2) hj1
    have eR:routeOk se fe ro k=false:=routeOk_no (.inr (.inr (.inr (.inr hj3))))
    have eF:tableB se fe ro ce=false:=tableB_2 (k:=k) (by omega) eR
    rw [eF];(first | exact fin_ | refine finq_ ?_);done)
 | (have eD:=seen_yes (by omega) (dotsOf_r (ce:=ce) (by omega)).symm hb
    have eF:tableB se fe ro ce=false:=tableB_4 (k:=k) (by omega) eD
    rw [eF];(first | exact fin_ | refine finq_ ?_);done)
 | (have h5:(lookA ((ro.getD k default).dot.node,(ro.getD k default).dot.epoch,(ro.getD k default).filter) (linesL ro k)).getD false=false:=by assumption
    obtain ⟨hl1,hl2⟩:=line_no (by omega) h5
    have h6:=seen_no (by omega) (dotsOf_r (ce:=ce) (by omega)).symm hb
    obtain ⟨hs1,hs2⟩:=h6
    have e1:routeOk se fe ro k=true:=routeOk_yes (by first | (left;omega) | (right;assumption)) (by assumption) (by assumption) (by assumption) (anyK_none hl1)
    refine ⟨k+1,⟨by omega,allK_next ha e1,allK_next hd hs1⟩,by omega,by simp [Sub,get],?_⟩;(rw [hl2,hs2,<-lines_s (by omega)]);(exact sub_);done)
 | (have eC:cellOk se ce k2=false:=by (rw [cellOk_is];first | (rw [decide_eq_false (by omega)];simp_all;done) | (simp_all;done))
    have eF:tableB se fe ro ce=false:=tableB_3 (k:=k2) (by omega) eC
    rw [eF];(first | exact fin_ | refine finq_ ?_);done)
 | (have eD:=seen_yes (by omega) (dotsOf_c (ro:=ro) (by omega)).symm hb
    have eF:tableB se fe ro ce=false:=tableB_4 (k:=ro.length+k2) (by omega) eD
    rw [eF];(first | exact fin_ | refine finq_ ?_);done)
 | (have h6:=seen_no (by omega) (dotsOf_c (ro:=ro) (by omega)).symm hb
    obtain ⟨hs1,hs2⟩:=h6
    have e1:cellOk se ce k2=true:=by (rw [cellOk_is,(by assumption:cellOkB (ce.getD k2 default)=true),(by assumption:hasB se (ce.getD k2 default).dot=true)];first | (rw [decide_eq_true (show k2=0 by omega)];rfl) | (rw [(by assumption:Op.bytesLess (ce.getD (k2 - 1) default).topic (ce.getD k2 default).topic=true)];simp;done))
    refine ⟨k2+1,⟨by omega,allK_next ha2 e1,allK_next hd2 hs1⟩,by omega,by simp [Sub,get],?_⟩;(rw [hs2,Nat.add_assoc]);(exact sub_);done)
 | (have hkl2:k2=ce.length:=by omega
    subst hkl2
    rw [tableB_5 (by assumption) (by assumption) ha ha2 (by rw [hdl];exact hd2)];(first | exact fin_ | refine finq_ ?_);done)
 | (trace_state;fail)
end
end
end Go.Proofs.YtifdpbghkccaoaaGreatDoor
