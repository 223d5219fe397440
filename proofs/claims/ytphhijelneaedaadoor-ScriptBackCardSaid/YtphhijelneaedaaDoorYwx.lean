/- Which events may be, their lines, and that they come back (the walk). -/
import Derived.Test.YtphhijelneaedaaDoorYvx
import Derived.Test.YtphhijelneaedaaDoorYux
import Derived.Test.YtphhijelneaedaaDoorYtx
import Derived.Test.YtphhijelneaedaaDoorYqx
import Derived.Test.YtphhijelneaedaaDoorYix
import Derived.KernelRfl
namespace Go.Proofs.YtphhijelneaedaaDoor
open Go.RowKit
set_option linter.unusedSimpArgs false
set_option linter.unusedVariables false
set_option linter.unusedSectionVars false
set_option maxHeartbeats 4000000
set_option maxRecDepth 100000
section
theorem event_mk (wh a b_ c dd:Int) (x:YS) (F:Own):(((0<=wh/\wh<=255)/\(0<=a/\a<=255)/\(0<=b_/\b_<=255)/\(0<=c/\c<=255)/\(0<=dd/\dd<=255))/\x.length<=40)->DC Tryd.prog 23 [.agg [.int .u8 wh, .int .u8 a, .int .u8 b_, .int .u8 c, .int .u8 dd, .sl (x.map u8)], .int .i64 3, .int .i64 4] (([]:Own)++F) fun d G=>∃ e:Ev,EvB e/\d=encE e/\G=[]++F:=event_pre bytes_dc wh a b_ c dd x F
theorem snoc_ev {l:List Ev} (h:∀ k,EvB (l.getD k default)) {e:Ev} (he:EvB e):∀ k,EvB ((l++[e]).getD k default):=fun k=>by
 rw [List.getD_eq_getElem?_getD,List.getElem?_append]
 split
 · have:=h k;rwa [List.getD_eq_getElem?_getD] at this
 · rcases Nat.eq_zero_or_pos (k - l.length) with h0 | h0
   · rw [h0];exact he
   · rw [List.getElem?_eq_none (by simp;omega)]
     have:=h l.length
     rwa [List.getD_eq_getElem?_getD,List.getElem?_eq_none (Nat.le_refl _)] at this
theorem nil_ev:∀ k,EvB (([]:List Ev).getD k default):=fun k=>by
 show EvB default
 exact ⟨⟨⟨by decide,by decide⟩,⟨by decide,by decide⟩,⟨by decide,by decide⟩⟩,by decide⟩
def evI (e:Ev):Prop:=i64b e.node/\i64b e.conn/\i64b e.n
theorem evI_at {l:List Ev} (h:∀ e∈l,evI e) (k:Nat):evI (l.getD k default):=by
 by_cases hk:k<l.length
 · exact h _ (getD_inY hk)
 · rw [List.getD_eq_getElem?_getD,List.getElem?_eq_none (by omega)]
   exact ⟨⟨by decide,by decide⟩,⟨by decide,by decide⟩,⟨by decide,by decide⟩⟩
theorem back_dc (T5:TypeId) (fr:Nat×Nat) (m:Int) (l:LEv) (F:Own):(l.length<=1000/\∀ k,EvB (l.getD k default))->DC Tryd.prog 26 [.str (printY l)] ([knP T5 fr,knM m]++F) fun d G=>d = .tup [.sl ((l.filter rightY).map encE), .int .i64 0, .int .i64 0]/\G=[knP T5 fr,knM m]++F:=fun ⟨hl,hev⟩=>by
 obtain ⟨h1,h2⟩:=print_back l
 have h3:=print_len hev l.length (Nat.le_refl _)
 rw [List.take_length] at h3
 have h:=parse_dc T5 fr m (printY l) F ⟨by omega,h2⟩
 rw [h1] at h;exact h
theorem filt_s {l:List Ev} {k:Nat} (h:k<l.length) (hr:rightY (l.getD k default)=true):(l.take (k+1)).filter rightY=(l.take k).filter rightY++[l.getD k default]:=by
 rw [take_sY h,List.filter_append,List.filter_cons,hr];simp
theorem filt_n {l:List Ev} {k:Nat} (h:k<l.length) (hr:rightY (l.getD k default)=false):(l.take (k+1)).filter rightY=(l.take k).filter rightY:=by
 rw [take_sY h,List.filter_append,List.filter_cons,hr];simp
theorem filt_le (l:List Ev) (k:Nat):((l.take k).filter rightY).length<=l.length:=Nat.le_trans (List.length_filter_le _ _) (by rw [List.length_take];omega)
theorem same_fl_dc (l:LEv) (k:Nat) (F:Own):(l.length<=k/\l.length<=1000)->DC Tryd.prog 28 [.sl ((l.filter rightY).map encE), .sl (((l.take k).filter rightY).map encE)] (([]:Own)++F) fun d G=>d = .bool true/\G=[]++F:=fun ⟨hk,hl⟩=>by
 rw [List.take_of_length_le hk]
 exact same_evs_dc _ F (Nat.le_trans (List.length_filter_le _ _) (by omega))
attribute [local irreducible] DW SeqD DV DOp DC DVX rightY printY
theorem sv_scriptBack_dc {p:Prop} (h:p:=by first | exact sv | (refine ⟨?_,?_⟩<;>omega) | (have hfl:=filt_le l2 k;(refine ⟨?_,?_⟩<;>omega)) | exact ⟨actY_at hacts j,ha2 j⟩ | exact ⟨by omega,h2e⟩ | exact h2e k | (have hfl:=filt_le l2 k;(refine ⟨?_,?_,fun _ _=>rfl⟩<;>omega)) | (have hfl:=filt_le l2 l2.length;rw [List.take_length] at hfl;omega) | (refine ⟨?_,?_,fun _ _=>rfl⟩<;>omega) | fail):p:=h
section
attribute [local push_cast 2000] encE encY beq_self_eq_true Bool.not_true Bool.not_false
theorem scriptBack_dc (raw:LEv) (acts:List YAct) (T5:TypeId) (fr:Nat×Nat) (m:Int) (F:Own):((∀ e∈raw,evI e)/\(∀ t∈acts,actY t))->DC Tryd.prog 4 [.sl (raw.map encE), .sl (acts.map encY)] ([loose,knP T5 fr,knM m]++F) fun d G=>d = .bool true/\G=[loose,knP T5 fr,knM m]++F:=by
 intro hA
 obtain ⟨hraw,hacts⟩:=hA
 refine DC.bodyS (n_:=104) (show Tryd.prog.funcs[4]? = some Tryd.f4 by kernel_rfl) rfl rfl (by rfl) ?_
 simp only [env0,List.cons_append,List.nil_append]
 have kw:=ksIs [0,1,4,5,6,7,8,9,10,11,12,14,22,26,35,46,60,73,78]
 have ow:=ownIs []
 have dw19:=drIs 19 [] [3,4,8,9]
 refine DW.tail0 5 ?_
 refine DW.tail0 5 ?_
 repeat' (first
  | ((with_reducible refine DW.loopB 0 (X:=Nat×LEv×Value) (fun x=>x.1<=raw.length/\x.2.1.length<=x.1/\∀ k,EvB (x.2.1.getD k default)) (fun x=>[(0, .sl (raw.map encE)),(1, .sl (acts.map encY)),(5, .gs x.2.2 (x.2.1.map encE)),(6, .gs (.slice none 0 0) []),(7, .int .i64 x.1)]) (fun x=>[.tail 5 x.2.2, .tail 5 (.slice none 0 0),loose,knP T5 fr,knM m]) (fun x=>raw.length - x.1) ((0,[], .slice none 0 0)) ?_ ?_ ?_);exact (⟨Nat.zero_le _,Nat.zero_le _,nil_ev⟩);(simp [Sub,get,keepL]<;>fail);(try simp only [List.cons_append,List.nil_append]);refine pl_ ?_;intro ⟨i,l,v⟩ ⟨hi,hli,hle⟩;(try simp only [List.cons_append,List.nil_append]);(try simp only at hi hli hle))
  | ((obtain ⟨ha1,ha2⟩:=hr (by assumption));((with_reducible refine DW.loopB 2 (X:=Nat×LEv×Value) (fun x=>x.1<=acts.length/\x.2.1.length<=20+x.1/\∀ k,EvB (x.2.1.getD k default)) (fun x=>[(1, .sl (acts.map encY)),(5, .gs x.2.2 (x.2.1.map encE)),(6, .gs (.slice none 0 0) []),(8, .int .i64 x.1)]) (fun x=>[.tail 5 x.2.2, .tail 5 (.slice none 0 0),loose,knP T5 fr,knM m]) (fun x=>acts.length - x.1) ((0,l,v)) ?_ ?_ ?_);exact (⟨Nat.zero_le _,by (try simp only);omega,hle⟩);(simp [Sub,get,keepL]<;>fail);(try simp only [List.cons_append,List.nil_append]);refine pl_ ?_;intro ⟨j,l2,v2⟩ ⟨hj,h2l,h2e⟩;(try simp only [List.cons_append,List.nil_append]);(try simp only at hj h2l h2e)))
  | ((with_reducible refine DW.loopB 4 (X:=Nat×Value) (fun x=>x.1<=l2.length) (fun x=>[(5, .gs v2 (l2.map encE)),(6, .gs x.2 (((l2.take x.1).filter rightY).map encE)),(9, .int .i64 x.1)]) (fun x=>[.tail 5 x.2,loose,knP T5 fr,knM m]) (fun x=>l2.length - x.1) ((0, .slice none 0 0)) ?_ ?_ ?_);exact (Nat.zero_le _);(simp [Sub,get,keepL]<;>fail);(try simp only [List.cons_append,List.nil_append]);refine pl_ ?_;intro ⟨k,y⟩ hk;(try simp only [List.cons_append,List.nil_append]);(try simp only at hk))
  | refine g_ ?_
  | ((with_reducible refine And.intro ?_ ?_);(exact sv_scriptBack_dc))
  | (refine DW.cond (by rfl) ?_ ?_<;>(first | exact i0_ | (refine ic_ ?_;intro hb)))
  | ((with_reducible first | refine FVg_cases ?_ ?_ | refine FDg_cases ?_ ?_)<;>(intro hb;rw [hb];revert hb;(first | exact i0_ | (refine i_ ?_;intro hb))))
  | refine r_ ?_
  | refine d_ ?_
  | refine k_ ?_
  | ((refine dm_ ?_);(first | ((first | refine v_ (known23_dc _ _ _ _) ?_ (ha:=by exact sv_scriptBack_dc) | refine v_ (right_dc _ _) ?_ (ha:=by exact sv_scriptBack_dc) | refine v_ (right2_dc _ _) ?_ (ha:=by exact sv_scriptBack_dc) | refine v_ (print_dc _ _ _ _) ?_ (ha:=by exact sv_scriptBack_dc) | refine v_ (back_dc _ _ _ _ _) ?_ (ha:=by exact sv_scriptBack_dc) | refine v_ (same_fl_dc _ _ _) ?_ (ha:=by exact sv_scriptBack_dc)))))
  | refine vo_ ?_
  | ((first | refine q_ (known23_dc _ _ _ _) ?_ (ha:=by exact sv_scriptBack_dc) | refine q_ (right_dc _ _) ?_ (ha:=by exact sv_scriptBack_dc) | refine q_ (right2_dc _ _) ?_ (ha:=by exact sv_scriptBack_dc) | refine q_ (print_dc _ _ _ _) ?_ (ha:=by exact sv_scriptBack_dc) | refine q_ (back_dc _ _ _ _ _) ?_ (ha:=by exact sv_scriptBack_dc) | refine q_ (same_fl_dc _ _ _) ?_ (ha:=by exact sv_scriptBack_dc)))
  | (refine p_ (few23_dc _ _) ?_ (ha:=by exact sv_scriptBack_dc);rintro d H1 ⟨r,hr,rfl,rfl⟩<;>refine s_ ?_)
  | (refine p_ (event_mk _ _ _ _ _ _ _) ?_ (ha:=by exact sv_scriptBack_dc);rintro d H1 ⟨ev,hev,rfl,rfl⟩<;>refine s_ ?_)
  | refine o_ ?_
  | refine f_ ?_
  | refine vm_ ?_
  | with_reducible intro b)
 all_goals first
 | ((first | exact fin_ | refine finq_ ?_);done)
 | (refine ⟨(i+1,l++[raw.getD i default],b),⟨by (try simp only);omega,by (simp only [List.length_append,List.length_cons,List.length_nil];omega),snoc_ev hle ⟨evI_at hraw i,by omega⟩⟩,by (try simp only);omega,by simp [Sub,get,encE],?_⟩;((try dsimp only);(exact sub_));done)
 | (refine ⟨(j+1,l2++[ev],b),⟨by (try simp only);omega,by (simp only [List.length_append,List.length_cons,List.length_nil];omega),snoc_ev h2e hev⟩,by (try simp only);omega,by simp [Sub,get,encE],?_⟩;((try dsimp only);(exact sub_));done)
 | ((have e:=filt_s (show k<l2.length by omega) hb)
    refine ⟨(k+1,b),by (try simp only);omega,by (try simp only);omega,by simp [Sub,get,encE,e],?_⟩;((try dsimp only);(exact sub_));done)
 | ((have e:=filt_n (show k<l2.length by omega) hb)
    refine ⟨(k+1,y),by (try simp only);omega,by (try simp only);omega,by simp [Sub,get,encE,e],?_⟩;((try dsimp only);(exact sub_));done)
 | (trace_state;fail)
end
end
end Go.Proofs.YtphhijelneaedaaDoor
