/- A fence among fences. -/
import Derived.Test.YtifdpbghkccaoaaGreatDoorPt7x
import Derived.KernelRfl
import Derived.Shelf.Unicode.DecodeSlow
namespace Go.Proofs.YtifdpbghkccaoaaGreatDoor
open Go.RowKit
set_option linter.unusedSimpArgs false
set_option linter.unusedVariables false
set_option linter.unusedSectionVars false
set_option maxHeartbeats 4000000
set_option maxRecDepth 100000
section
def placeF (l:List TFence) (n:Int):Nat:=firstK (fun i=>!decide ((l.getD i default).node<n)) l.length 0
def foundF (l:List TFence) (n:Int):Bool:=decide (placeF l n<l.length)&&(cmpI (l.getD (placeF l n) default).node n==0)
theorem cmpI_lt (a b:Int):cmpI a b<0↔a<b:=by unfold cmpI;split<;>(try split)<;>omega
theorem cmpI_z (a b:Int):cmpI a b=0↔a=b:=by unfold cmpI;split<;>(try split)<;>omega
theorem cmpI_nlt (a b:Int):0<=cmpI a b↔¬ a<b:=by unfold cmpI;split<;>(try split)<;>omega
theorem fence_mono {l:List TFence} (h:FR l) (n:Int):∀ a b,a<=b->b<l.length->decide ((l.getD b default).node<n)=true->decide ((l.getD a default).node<n)=true:=fun a b hab hb ha=>by
 rcases Nat.eq_or_lt_of_le hab with rfl | hlt
 · exact ha
 · have:=pw_at h.1 hlt hb
   rw [decide_eq_true_eq] at *;omega
theorem bsF {l:List TFence} (h:FR l) {n:Int} {i:Nat} (hi:i<=l.length) (h1:i=0\/(l.getD (i - 1) default).node<n) (h2:i=l.length\/¬ (l.getD i default).node<n):placeF l n=i :=
 bs_end (fence_mono h n) hi (h1.imp id fun h=>by simpa using h) (h2.imp id fun h=>by simpa using h)
theorem foundF_lt {l:List TFence} {n:Int} (h:foundF l n=true):placeF l n<l.length:=by
 simp only [foundF,Bool.and_eq_true,decide_eq_true_eq] at h;exact h.1
theorem placeF_le (l:List TFence) (n:Int):placeF l n<=l.length:=by
 obtain ⟨h1,h2,h3,h4⟩:=firstK_le (fun i=>!decide ((l.getD i default).node<n)) l.length 0
 show firstK (fun i=>!decide ((l.getD i default).node<n)) l.length 0<=l.length
 omega
def fenceP (l:List TFence) (n e:Int):List TFence:=if foundF l n=true then l.set (placeF l n) ⟨(l.getD (placeF l n) default).node,max (l.getD (placeF l n) default).epoch e⟩ else l.take (placeF l n)++⟨n,e⟩::l.drop (placeF l n)
attribute [local irreducible] DW SeqD DV DOp DC DVX DVJ
theorem fc1_dc (a b x:Int) (F:Own):(True)->DC Tryz.prog 80 [.agg [.int .i64 a, .int .i64 b], .int .i64 x] (([]:Own)++F) fun d G=>d = .int .i64 (cmpI a x)/\G=[]++F:=by
 intro hA
 refine DC.bodyS (n_:=9) (show Tryz.prog.funcs[80]? = some Tryz.f80 by kernel_rfl) rfl rfl (by rfl) ?_
 simp only [env0,List.cons_append,List.nil_append]
 have kw:=ksIs [0,1,2,4]
 have ow:=ownIs []
 repeat' (first
  | refine g_ ?_
  | ((with_reducible refine And.intro ?_ ?_);(exact sv))
  | (refine DW.cond (by rfl) ?_ ?_<;>(first | exact i0_ | (refine ic_ ?_;intro hb)))
  | ((with_reducible refine FVg_cases ?_ ?_)<;>(intro hb;rw [hb];revert hb;(first | exact i0_ | (refine i_ ?_;intro hb))))
  | refine r_ ?_
  | refine k_ ?_
  | (refine q_ (cmpi_dc _ _ _) ?_)
  | refine o_ ?_
  | refine f_ ?_
  | with_reducible intro b)
 (first | exact fin_ | refine finq_ ?_)
 all_goals rfl
section
attribute [local push_cast 2000] encFence encFence_eta half_eq cells_encf cells_encFence
theorem bsf0_dc (l:List TFence) (v:Value) (n:Nat) (nd:Int) (F:Own):(n=l.length/\FR l/\l.length<=1000000000)->DC Tryz.prog 79 [.ar v n, .int .i64 nd, .fn (.func 80) [] []] ([.arr 2 v (cells (l.map encFence))]++F) fun d G=>d = .tup [.int .i64 (placeF l nd), .bool (foundF l nd)]/\G=[.arr 2 v (cells (l.map encFence))]++F:=by
 intro hA
 obtain ⟨hn,hr,hl⟩:=hA
 refine DC.bodyS (n_:=49) (show Tryz.prog.funcs[79]? = some Tryz.f79 by kernel_rfl) rfl rfl (by rfl) ?_
 simp only [env0,List.cons_append,List.nil_append]
 have kw:=ksIs [0,1,2,6,7,8,9,10,11,17,31]
 have ow:=ownIs []
 subst hn
 repeat' (first
  | ((with_reducible refine DW.loopB 0 (X:=Nat×Nat) (fun x=>x.1<=x.2/\x.2<=l.length/\(x.1=0\/(l.getD (x.1 - 1) default).node<nd)/\(x.2=l.length\/¬ (l.getD x.2 default).node<nd)) (fun x=>[(0, .ar v l.length),(1, .int .i64 nd),(2, .fn (.func 80) [] []),(8, .int .i64 l.length),(9, .int .i64 x.1),(10, .int .i64 x.2)]) (fun x=>.arr 2 v (cells (l.map encFence))::([]:Own)) (fun x=>x.2 - x.1) ((0,l.length)) ?_ ?_ ?_);exact (⟨Nat.zero_le _,Nat.le_refl _, .inl rfl, .inl rfl⟩);(simp [Sub,get,keepL]<;>fail);(try simp only [List.cons_append,List.nil_append]);refine pl_ ?_;intro ⟨i,j⟩ ⟨hij,hj,h1,h2⟩;(try simp only [List.cons_append,List.nil_append]);simp only at hij hj h1 h2)
  | refine g_ ?_
  | ((with_reducible refine And.intro ?_ ?_);(exact sv))
  | (refine DW.cond (by rfl) ?_ ?_<;>(first | exact i0_ | (refine ic_ ?_;intro hb)))
  | ((with_reducible refine FVg_cases ?_ ?_)<;>(intro hb;rw [hb];revert hb;(first | exact i0_ | (refine i_ ?_;intro hb))))
  | refine r_ ?_
  | refine k_ ?_
  | (refine q_ (fc1_dc _ _ _ _) ?_)
  | refine o_ ?_
  | refine f_ ?_
  | with_reducible intro b)
 all_goals first
 | (refine ⟨((i+j) / 2+1,j),⟨by simp only;omega,by simp only;omega, .inr (by simpa using (cmpI_lt _ _).1 (by assumption)),h2⟩,by simp only;omega,by simp [Sub,get],?_⟩;(exact sub_);done)
 | (refine ⟨(i,(i+j) / 2),⟨by simp only;omega,by simp only;omega,h1, .inr ((cmpI_nlt _ _).1 (by assumption))⟩,by simp only;omega,by simp [Sub,get],?_⟩;(exact sub_);done)
 | (obtain rfl:j=i:=by omega
    have hp:=bsF (n:=nd) hr hj h1 h2
    have hf:foundF l nd=(cmpI (l.getD j default).node nd==0):=by rw [foundF,hp,decide_eq_true (by omega),Bool.true_and]
    rw [hp,hf];(first | exact fin_ | refine finq_ ?_);done)
 | (obtain rfl:j=i:=by omega
    have hp:=bsF (n:=nd) hr hj h1 h2
    have hf:foundF l nd=false:=by rw [foundF,hp,decide_eq_false (by omega),Bool.false_and]
    rw [hp,hf];(first | exact fin_ | refine finq_ ?_);done)
end
theorem bsf_dc (l:List TFence) (v:Value) (n:Nat) (x:Int) (F:Own):(n=l.length/\FR l/\l.length<=1000000000)->DC Tryz.prog 79 [.ar v n, .int .i64 x, .fn (.func 80) [] []] ([.arr 2 v (cells (l.map encFence))]++F) fun d G=>(foundF l x=true/\placeF l x<l.length/\d = .tup [.int .i64 (placeF l x), .bool true]\/foundF l x=false/\d = .tup [.int .i64 (placeF l x), .bool false])/\G=[.arr 2 v (cells (l.map encFence))]++F:=fun h =>
 (bsf0_dc l v n x F h).mono fun d G ⟨h1,h2⟩=>⟨by
   cases hf:foundF l x with
   | true=>rw [hf] at h1;exact .inl ⟨rfl,foundF_lt hf,h1⟩
   | false=>rw [hf] at h1;exact .inr ⟨rfl,h1⟩,h2⟩
section
attribute [local push_cast 2000] encRoute encRoute_eta
end
section
attribute [local push_cast 2000] encRoute encRoute_eta Nat.sub_zero
end
end
section
theorem cells_fe {l:List TFence} {k:Nat} (h:k<l.length):(cells (l.map encFence)).getD (k * 2+1) V.any = .int .i64 (l.getD k default).epoch:=by
 rw [cells_at (sz:=2) _ k 1 (fun y hy=>by obtain ⟨x,_,rfl⟩:=List.mem_map.1 hy;rfl) (by simpa using h) (by decide)]
 simp [List.getD_eq_getElem?_getD,h,encFence,V.cell]
theorem cells_setf:∀ (l:List TFence) (k:Nat) (n:Int),k<l.length->layV (cells (l.map encFence)) (k * 2+1) [.int .i64 n]=cells ((l.set k ⟨(l.getD k default).node,n⟩).map encFence)
 | [],k,n,h=>absurd h (Nat.not_lt_zero _)
 | d::l,0,n,_=>rfl
 | d::l,k+1,n,h=>by
  have:=cells_setf l k n (by simpa using h)
  rw [List.getD_cons_succ,List.set_cons_succ,List.map_cons,List.map_cons,cells_cons,cells_cons,<-this]
  have e:(k+1) * 2+1=(encFence d).cs.length+(k * 2+1):=by show _=2+_;omega
  rw [e,lay_app]
theorem fenceP_1 {l:List TFence} {n e:Int} (h:foundF l n=true):fenceP l n e=l.set (placeF l n) ⟨(l.getD (placeF l n) default).node,max (l.getD (placeF l n) default).epoch e⟩:=by rw [fenceP,if_pos h]
theorem fenceP_2 {l:List TFence} {n e:Int} (h:foundF l n=false):fenceP l n e=l.take (placeF l n)++⟨n,e⟩::l.drop (placeF l n):=by rw [fenceP,if_neg (by rw [h];simp)]
attribute [local irreducible] DW SeqD DV DOp DC DVX DVJ
theorem ppair_dc (node epoch:Int) (F:Own):(True)->DC Tryz.prog 78 [.int .i64 node, .int .i64 epoch] (([]:Own)++F) fun d G=>d = .bool (pairB node epoch)/\G=[]++F:=by
 intro hA
 refine DC.bodyS (n_:=15) (show Tryz.prog.funcs[78]? = some Tryz.f78 by kernel_rfl) rfl rfl (by rfl) ?_
 simp only [env0,List.cons_append,List.nil_append]
 have kw:=ksIs [0,1,4]
 have ow:=ownIs []
 repeat' (first
  | refine g_ ?_
  | ((with_reducible refine And.intro ?_ ?_);(exact sv))
  | (refine DW.cond (by rfl) ?_ ?_<;>(first | exact i0_ | (refine ic_ ?_;intro hb)))
  | ((with_reducible refine FVg_cases ?_ ?_)<;>(intro hb;rw [hb];revert hb;(first | exact i0_ | (refine i_ ?_;intro hb))))
  | refine r_ ?_
  | refine k_ ?_
  | refine o_ ?_
  | refine f_ ?_
  | with_reducible intro b)
 all_goals
  refine ⟨_,_,le.of_eq ?_,⟨rfl,rfl⟩,SubP.refl⟩
  unfold pairB
  simp_all<;>omega
section
attribute [local push_cast 2000] encFence encFence_eta cells_encf cells_encFence cells_fe cells_setf
end
end
section
def OnK (H:Own) (b:Nat) (G:List V->Prop):Prop:=∃ cs,Ent.know b cs∈H/\G cs
theorem OnK.here {H:Own} {b:Nat} {cs:List V} {G:List V->Prop} (h:G cs):OnK (.know b cs::H) b G:=⟨cs,List.mem_cons_self ..,h⟩
theorem OnK.next {H:Own} {b:Nat} {e:Ent} {G:List V->Prop} (h:OnK H b G):OnK (e::H) b G:=let ⟨cs,h1,h2⟩:=h;⟨cs,List.mem_cons_of_mem _ h1,h2⟩
theorem OnK_id {H:Own} {b:Nat} {G:List V->Prop} (h:OnK H b G):OnK H b G:=h
theorem DOp.loadk_ {P:Program} {o:Oper} {f:Operand->V} {H:Own} {K:V->Own->Prop} {t:TypeId} {x:Operand} {b off:Nat} (hop:o.op = .load t x) (hx:f x = .raw (.pointer (some ⟨b,off,none⟩))) (h:OnK H b fun cs=>partS (ty P t) (cs.drop off) 0/\K (partV (ty P t) (cs.drop off) 0) H):DOp P o f H K:=by
 obtain ⟨cs,hm,hp,hk⟩:=h
 refine DOp.step fun a w hs hr=>?_
 have hv:=hr x (by simp [hop,Op.operands])
 rw [hx] at hv
 have hv:a.eval x = .pointer (some ⟨b,off,none⟩):=by generalize a.eval x=v at hv;cases hv;rfl
 have hh:=hs.holds _ hm
 obtain ⟨v,e1,e2⟩:=loadVar_run (P:=P) (S:=stable w H) (w:=w) (t:=t) (b:=⟨b,off,none⟩) (cs:=cs.drop off) rfl (fun k hk=>by
  rw [List.length_drop] at hk
  exact (hh (off+k) (by omega)).1.1) (fun k hk=>by
  rw [List.length_drop] at hk
  have:=(hh (off+k) (by omega)).2
  simpa [List.getD_eq_getElem?_getD,List.getElem?_drop] using this) hp
 refine ⟨v,w,_,_,?_,⟨hs, .refl _ _⟩,e2,hk⟩
 unfold execOp
 rw [hop]
 simp [Instr.loadAt,hv,Instr.sureAddr,e1]
def firstC:List V:=(List.range 256).map fun c=>.int .u8 (Go.Lib.firstT c)
def accC:List V:=((List.range 16).map fun i=>[V.int .u8 (Go.Lib.accLo i),V.int .u8 (Go.Lib.accHi i)]).flatten
abbrev knF:Ent:=.know 1 firstC
abbrev knA:Ent:=.know 2 accC
theorem first_195:(List.drop 195 firstC).getD 0 V.any = .int .u8 2:=by kernel_rfl
theorem first_len:firstC.length=256:=by kernel_rfl
theorem acc_0:List.take 2 (List.drop 0 accC)=[.int .u8 128, .int .u8 191]:=by kernel_rfl
theorem acc_0':List.take 2 accC=[.int .u8 128, .int .u8 191]:=by kernel_rfl
theorem acc_len:accC.length=32:=by kernel_rfl
attribute [local irreducible] DW SeqD DV DOp DC DVX DVJ
section
attribute [local push_cast 2000] u8 first_195 first_len acc_0 acc_0' acc_len
end
end
end Go.Proofs.YtifdpbghkccaoaaGreatDoor
