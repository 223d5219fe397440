/- What is put into a row at a place. -/
import Derived.Test.YtifdpbghkccaoaaGreatDoorPt3x
import Derived.Test.YtifdpbghkccaoaaGreatDoorKbx
import Derived.KernelRfl
namespace Go.Proofs.YtifdpbghkccaoaaGreatDoor
open Go.RowKit
set_option linter.unusedSimpArgs false
set_option linter.unusedVariables false
set_option linter.unusedSectionVars false
set_option maxHeartbeats 4000000
set_option maxRecDepth 100000
section
theorem toNs (a b:Nat):((a:Int)+1 - (b:Int)).toNat=a+1 - b:=by omega
theorem toNp (a:Nat):((a:Int)+1).toNat=a+1:=by omega
theorem all_part {cs:List V} (h:∀ y∈cs,V.one y=true) (a b:Nat):(List.take a (List.drop b cs)).all V.one=true:=List.all_eq_true.2 fun y hy=>h y (List.mem_of_mem_drop (List.mem_of_mem_take hy))
theorem cells_one {l:List V} (h:∀ y∈l,∀ z∈y.cs,V.one z=true):∀ z∈cells l,V.one z=true:=fun z hz=>by
 unfold cells at hz
 obtain ⟨m,hm,hz⟩:=List.mem_flatten.1 hz
 obtain ⟨y,hy,rfl⟩:=List.mem_map.1 hm
 exact h y hy z hz
theorem one_d (l:List TDot) (a b:Nat):(List.take a (List.drop b (cells (l.map encDot)))).all V.one=true:=all_part (cells_one fun y hy z hz=>by
 obtain ⟨x,_,rfl⟩:=List.mem_map.1 hy
 simp only [encDot,V.cs,List.mem_cons,List.not_mem_nil,or_false] at hz
 rcases hz with rfl | rfl | rfl<;>rfl) a b
theorem part_left {cs R:List V} {a b:Nat} (h:b+a<=cs.length):List.take a (List.drop b (cs++R))=List.take a (List.drop b cs):=by
 rw [List.drop_append,List.take_append_of_le_length (by rw [List.length_drop];omega)]
theorem lay0 (R X:List V):layV R 0 X=X++R.drop X.length:=by simp [layV]
theorem layG {c X:List V} {p q s:Nat} (hc:c.length=p+q) (hX:X.length=s):layV (layV (c.take p++List.replicate (q+s) V.any) p X) (p+s) ((c.drop p).take q)=c.take p++(X++c.drop p):=by
 have h1:(c.drop p).take q=c.drop p:=List.take_of_length_le (by rw [List.length_drop];omega)
 have ha:(c.take p).length=p:=by rw [List.length_take];omega
 have hb:(c.drop p).length=q:=by rw [List.length_drop];omega
 rw [h1]
 generalize c.take p=a at *
 generalize c.drop p=b at *
 have e1:layV (a++List.replicate (q+s) V.any) p X=a++(X++List.replicate q V.any):=by
  have:=lay_app a (List.replicate (q+s) V.any) X 0
  rw [Nat.add_zero,ha,lay0,List.drop_replicate,hX,Nat.add_sub_cancel] at this
  exact this
 have e2:=lay_app a (X++List.replicate q V.any) b s
 have e3:=lay_app X (List.replicate q V.any) b 0
 rw [Nat.add_zero,hX,lay0,List.drop_replicate,hb,Nat.sub_self] at e3
 rw [e1,<-ha,e2,e3];simp
theorem layS {c X R:List V} {p q s:Nat} (hc:c.length=p+q) (hX:X.length=s) (hR:R.length=s):layV (layV (c++R) (p+s) (((c++R).drop p).take q)) p X=c.take p++(X++c.drop p):=by
 have ha:(c.take p).length=p:=by rw [List.length_take];omega
 have hb:(c.drop p).length=q:=by rw [List.length_drop];omega
 have h0:c=c.take p++c.drop p:=(List.take_append_drop p c).symm
 rw [part_left (by omega),List.take_of_length_le (l:=c.drop p) (by omega)]
 generalize hA:c.take p=a at *
 generalize hB:c.drop p=b at *
 subst h0
 have e1:=lay_app a (b++R) b s
 rw [ha] at e1
 have e2:layV (b++R) s b=List.take s (b++R)++b:=by
  unfold layV
  rw [List.drop_of_length_le (l:=b++R) (by simp;omega),List.append_nil]
 have e3:=lay_app a (List.take s (b++R)++b) X 0
 rw [Nat.add_zero,ha,lay0,hX,List.drop_left' (by simp;omega)] at e3
 rw [List.append_assoc,e1,e2,e3]
section
variable {T:Type} {enc:T->V} {s:Nat}
theorem cells_tk (hs:∀ x,(enc x).cs.length=s):∀ (l:List T) (i:Nat),cells ((l.take i).map enc)=(cells (l.map enc)).take (i * s)
 | [],i=>by simp [cells]
 | x::l,0=>by simp [cells]
 | x::l,i+1=>by
  rw [List.take_succ_cons,List.map_cons,cells_cons,List.map_cons,cells_cons,cells_tk hs l i,show (i+1) * s=(enc x).cs.length+i * s by rw [hs,Nat.succ_mul];omega,List.take_append,List.take_of_length_le (l:=(enc x).cs) (by omega),Nat.add_sub_cancel_left]
theorem cells_dp (hs:∀ x,(enc x).cs.length=s):∀ (l:List T) (i:Nat),cells ((l.drop i).map enc)=(cells (l.map enc)).drop (i * s)
 | [],i=>by simp [cells]
 | x::l,0=>by simp [cells]
 | x::l,i+1=>by
  rw [List.drop_succ_cons,List.map_cons,cells_cons,cells_dp hs l i,show (i+1) * s=(enc x).cs.length+i * s by rw [hs,Nat.succ_mul];omega,List.drop_append,List.drop_of_length_le (l:=(enc x).cs) (by omega),Nat.add_sub_cancel_left,List.nil_append]
theorem ins_all (hs:∀ x,(enc x).cs.length=s) (l:List T) (x:T) (i:Nat):cells ((l.take i++x::l.drop i).map enc)=(cells (l.map enc)).take (i * s)++((enc x).cs++(cells (l.map enc)).drop (i * s)):=by
 rw [List.map_append,cells_append,List.map_cons,cells_cons,cells_tk hs,cells_dp hs]
theorem len_all (hs:∀ x,(enc x).cs.length=s):∀ l:List T,(cells (l.map enc)).length=l.length * s
 | []=>by simp [cells]
 | x::l=>by rw [List.map_cons,cells_cons,List.length_append,hs,len_all hs l,List.length_cons,Nat.succ_mul];omega
theorem insE (hs:∀ x,(enc x).cs.length=s) {l:List T} {x:T} {i:Nat} {X:List V} (hx:(enc x).cs=X) (hi:i=l.length):cells ((l.take i++x::l.drop i).map enc)=cells (l.map enc)++X:=by
 have:=len_all hs l
 rw [ins_all hs,hx,hi,List.take_of_length_le (by omega),List.drop_of_length_le (by omega),List.append_nil]
theorem insG (hs:∀ x,(enc x).cs.length=s) {l:List T} {x:T} {i:Nat} {X:List V} (hx:(enc x).cs=X) {A:Prop} (hi:i<l.length/\A):cells ((l.take i++x::l.drop i).map enc) =
  layV (layV (List.take (i * s) (cells (l.map enc))++List.replicate ((l.length+1 - i) * s) V.any) (i * s) X) ((i+1) * s) (List.take ((l.length - i) * s) (List.drop (i * s) (cells (l.map enc)))):=by
 have hi:=hi.1
 have h1:=len_all hs l
 have h2:l.length * s=i * s+(l.length - i) * s:=by rw [<-Nat.add_mul];congr 1;omega
 rw [ins_all hs,hx,show (l.length+1 - i) * s=(l.length - i) * s+s by rw [<-Nat.succ_mul];congr 1;omega,Nat.succ_mul,layG (by omega) (by rw [<-hx,hs])]
theorem insS (hs:∀ x,(enc x).cs.length=s) {l:List T} {x:T} {i:Nat} {X:List V} (hx:(enc x).cs=X) (hi:i<l.length):cells ((l.take i++x::l.drop i).map enc) =
  layV (layV (cells (l.map enc)++List.replicate ((l.length+1 - l.length) * s) V.any) ((i+1) * s) (List.take ((l.length+1 - (i+1)) * s) (List.drop (i * s) (cells (l.map enc)++List.replicate ((l.length+1 - l.length) * s) V.any)))) (i * s) X:=by
 have h1:=len_all hs l
 have h2:l.length * s=i * s+(l.length - i) * s:=by rw [<-Nat.add_mul];congr 1;omega
 rw [ins_all hs,hx,show l.length+1 - (i+1)=l.length - i by omega,show l.length+1 - l.length=1 by omega,Nat.one_mul,Nat.succ_mul,layS (by omega) (by rw [<-hx,hs]) (by simp)]
end
theorem one_f (l:List TFence) (a b:Nat):(List.take a (List.drop b (cells (l.map encFence)))).all V.one=true:=all_part (cells_one fun y hy z hz=>by
 obtain ⟨x,_,rfl⟩:=List.mem_map.1 hy
 simp only [encFence,V.cs,List.mem_cons,List.not_mem_nil,or_false] at hz
 rcases hz with rfl | rfl<;>rfl) a b
theorem one2_f (l:List TFence) {a b c:Nat} (h:b+a<=l.length * 2):(List.take a (List.drop b (cells (l.map encFence)++List.replicate c V.any))).all V.one=true:=by
 rw [part_left (by rw [len_all (s:=2) (fun _=>rfl)];exact h)];exact one_f l a b
theorem cells_encf (l:List TFence):(cells (l.map encFence)).length=l.length * 2:=len_all (s:=2) (fun _=>rfl) l
theorem one2_d (l:List TDot) {a b c:Nat} (h:b+a<=l.length * 3):(List.take a (List.drop b (cells (l.map encDot)++List.replicate c V.any))).all V.one=true:=by
 rw [part_left (by rw [len_all (s:=3) (fun _=>rfl)];exact h)];exact one_d l a b
theorem cells_encd (l:List TDot):(cells (l.map encDot)).length=l.length * 3:=by rw [cells_len (sz:=3) _ (fun y hy=>by obtain ⟨x,_,rfl⟩:=List.mem_map.1 hy;rfl),List.length_map]
attribute [local irreducible] DW SeqD DV DOp DC DVX DVJ
theorem hovd:∀ args w,(callFunc 156 args).run Tryz.prog w=((Extern.SlicesOverlaps.overlaps #[27,27] #[4] args).run Tryz.prog w).andThen fun v w'=>.ok (.value v) w':=fun args w =>
 run_callFunc_extern (show Tryz.prog.funcs[156]? = some Tryz.f156 by kernel_rfl) (by kernel_rfl) (by kernel_rfl) (by kernel_rfl) (by kernel_rfl) args w
theorem sv_insd_dc {p:Prop} (h:p:=by first | exact sv | (focus ((repeat (with_reducible first | exact InA.here | apply InA.next | apply Two.here | apply Two.there | apply Two.next));done)) | (simp [encDot,V.one]<;>omega) | fail):p:=h
section
attribute [local push_cast 2000] cells_encd encDot AppZ Nat.sub_zero toNs toNp one_d one2_d List.length_take Nat.min_eq_left Nat.min_eq_right
theorem insd_dc (l:List TDot) (x1 x2 x3:Int) (v u:Value) (n i:Nat) (F:Own):(n=l.length/\i<=l.length/\l.length<=1000000000)->DC Tryz.prog 117 [.ar v n, .int .i64 i, .ar u 1] ([.arr 3 v (cells (l.map encDot)), .arr 3 u [.int .i64 x1, .int .i64 x2, .int .i64 x3]]++F) fun d G=>∃ v2,d = .ar v2 (l.length+1)/\G = .arr 3 v2 (cells ((l.take i++⟨x1,x2,x3⟩::l.drop i).map encDot))::F:=by
 intro hA
 obtain ⟨hn,hi,hl⟩:=hA
 refine DC.bodyS (n_:=95) (show Tryz.prog.funcs[117]? = some Tryz.f117 by kernel_rfl) rfl rfl (by rfl) ?_
 simp only [env0,List.cons_append,List.nil_append]
 have kw:=ksIs [0,1,2,6,7,8,9,16,22,31,68]
 have ow:=ownIs []
 have dw11:=drIs 11 [8] [4,7]
 have dw15:=drIs 15 [8] [4,7]
 subst hn
 repeat' (first
  | ((with_reducible apply DW.frzR 7 u);(repeat (with_reducible first | refine OnA.here ?_ | refine OnA.next ?_));refine ⟨(show _=cells [encDot ⟨x1,x2,x3⟩] by simp [cells,V.cs,encDot,encFence]),by decide,(by intro y hy;simp only [List.mem_singleton] at hy;subst hy;rfl),?_,?_⟩;(repeat (first | exact CvE.nil | apply CvE.cons (Cv.hit _) | apply CvE.cons (Cv.rfl _))))
  | ((with_reducible apply DW.frzR 9 u);(repeat (with_reducible first | refine OnA.here ?_ | refine OnA.next ?_));refine ⟨(show _=cells [encDot ⟨x1,x2,x3⟩] by simp [cells,V.cs,encDot,encFence]),by decide,(by intro y hy;simp only [List.mem_singleton] at hy;subst hy;rfl),?_,?_⟩;(repeat (first | exact CvE.nil | apply CvE.cons (Cv.hit _) | apply CvE.cons (Cv.rfl _))))
  | ((with_reducible apply DW.frzR 15 u);(repeat (with_reducible first | refine OnA.here ?_ | refine OnA.next ?_));refine ⟨(show _=cells [encDot ⟨x1,x2,x3⟩] by simp [cells,V.cs,encDot,encFence]),by decide,(by intro y hy;simp only [List.mem_singleton] at hy;subst hy;rfl),?_,?_⟩;(repeat (first | exact CvE.nil | apply CvE.cons (Cv.hit _) | apply CvE.cons (Cv.rfl _))))
  | refine g_ ?_
  | ((with_reducible refine And.intro ?_ ?_);(exact sv_insd_dc))
  | (refine DW.cond (by rfl) ?_ ?_<;>(first | exact i0_ | (refine ic_ ?_;intro hb)))
  | ((with_reducible first | refine FVg_cases ?_ ?_ | refine FDg_cases ?_ ?_)<;>(intro hb;rw [hb];revert hb;(first | exact i0_ | (refine i_ ?_;intro hb))))
  | refine d_ ?_
  | refine k_ ?_
  | ((with_reducible refine DW.regK [0,1,2,6,7,8,9,16,22,31,68] (by kernel_rfl) ?_)<;>(refine s_ ?_))
  | ((refine dm_ ?_);(first | (refine DVop.slicea_ rfl rfl rfl rfl ?_;refine s_ ?_)))
  | refine vo_ ?_
  | ((first | ((with_reducible refine SeqD.op rfl ?_);(first | (refine DOp.slicexd_ [60] rfl rfl rfl rfl ?_;(repeat (with_reducible first | refine OnA.here ?_ | refine OnA.next ?_))) | (refine DOp.over_ (tS:=27) (tR:=4) rfl rfl rfl rfl hovd ?_) | (refine DOp.slicea_ rfl rfl ?_) | (refine DOp.capa_ rfl rfl ?_) | (refine DOp.lensub_ rfl rfl ?_) | (refine DOp.copyaa2_ rfl rfl rfl ?_;(repeat (with_reducible first | refine OnA.here ?_ | refine OnA.next ?_));(repeat (with_reducible first | refine OnA.here ?_ | refine OnA.next ?_))) | (refine DOp.copyas2_ rfl rfl rfl ?_;(repeat (with_reducible first | refine OnA.here ?_ | refine OnA.next ?_))) | (refine DOp.cleara2_ rfl rfl ?_;(repeat (with_reducible first | refine OnA.here ?_ | refine OnA.next ?_))) | (refine DOp.appsubz_ rfl rfl rfl ?_;(repeat (with_reducible first | refine OnA.here ?_ | refine OnA.next ?_))) | (refine DOp.appsub_ rfl rfl rfl ?_;(repeat (with_reducible first | refine OnA.here ?_ | refine OnA.next ?_))) | (refine on_ ?_))) | (refine SeqD.opP rfl ?_) | (refine DOp.slicexd_ [60] rfl rfl rfl rfl ?_;(repeat (with_reducible first | refine OnA.here ?_ | refine OnA.next ?_))) | (refine DOp.over_ (tS:=27) (tR:=4) rfl rfl rfl rfl hovd ?_) | (refine DOp.slicea_ rfl rfl ?_) | (refine DOp.capa_ rfl rfl ?_) | (refine DOp.lensub_ rfl rfl ?_) | (refine DOp.copyaa2_ rfl rfl rfl ?_;(repeat (with_reducible first | refine OnA.here ?_ | refine OnA.next ?_));(repeat (with_reducible first | refine OnA.here ?_ | refine OnA.next ?_))) | (refine DOp.copyas2_ rfl rfl rfl ?_;(repeat (with_reducible first | refine OnA.here ?_ | refine OnA.next ?_))) | (refine DOp.cleara2_ rfl rfl ?_;(repeat (with_reducible first | refine OnA.here ?_ | refine OnA.next ?_))) | (refine DOp.appsubz_ rfl rfl rfl ?_;(repeat (with_reducible first | refine OnA.here ?_ | refine OnA.next ?_))) | (refine DOp.appsub_ rfl rfl rfl ?_;(repeat (with_reducible first | refine OnA.here ?_ | refine OnA.next ?_))))<;>(refine s_ ?_))
  | refine o_ ?_
  | refine f_ ?_
  | refine vm_ ?_
  | with_reducible intro b)
 all_goals first
 | (have hq:i=l.length:=by omega
    have e:=insE (enc:=encDot) (s:=3) (fun _=>rfl) (l:=l) (x:=⟨x1,x2,x3⟩) (X:=[.int .i64 x1, .int .i64 x2, .int .i64 x3]) rfl hq
    refine ⟨_,_,?_,⟨?_,rfl,rfl⟩,?_⟩;rotate_left 2;(rw [e]);(exact sub_);(first | exact le.rfl_ | exact le.of_eq (congrArg (V.ar _) (by omega))))
 | (have hq:i<l.length/\((capI v:Int)<(l.length:Int)+1):=by omega
    have e:=insG (enc:=encDot) (s:=3) (fun _=>rfl) (l:=l) (x:=⟨x1,x2,x3⟩) (X:=[.int .i64 x1, .int .i64 x2, .int .i64 x3]) rfl hq
    refine ⟨_,_,?_,⟨?_,rfl,rfl⟩,?_⟩;rotate_left 2;(rw [e]);(exact sub_);(first | exact le.rfl_ | exact le.of_eq (congrArg (V.ar _) (by omega))))
 | (have hq:i<l.length:=by omega
    have e:=insS (enc:=encDot) (s:=3) (fun _=>rfl) (l:=l) (x:=⟨x1,x2,x3⟩) (X:=[.int .i64 x1, .int .i64 x2, .int .i64 x3]) rfl hq
    refine ⟨_,_,?_,⟨?_,rfl,rfl⟩,?_⟩;rotate_left 2;(rw [e]);(exact sub_);(first | exact le.rfl_ | exact le.of_eq (congrArg (V.ar _) (by omega))))
end
theorem hovf:∀ args w,(callFunc 123 args).run Tryz.prog w=((Extern.SlicesOverlaps.overlaps #[28,28] #[4] args).run Tryz.prog w).andThen fun v w'=>.ok (.value v) w':=fun args w =>
 run_callFunc_extern (show Tryz.prog.funcs[123]? = some Tryz.f123 by kernel_rfl) (by kernel_rfl) (by kernel_rfl) (by kernel_rfl) (by kernel_rfl) args w
theorem sv_insf_dc {p:Prop} (h:p:=by first | exact sv | (focus ((repeat (with_reducible first | exact InA.here | apply InA.next | apply Two.here | apply Two.there | apply Two.next));done)) | (simp [encFence,V.one]<;>omega) | fail):p:=h
section
attribute [local push_cast 2000] cells_encf encFence AppZ Nat.sub_zero toNs toNp one_f one2_f List.length_take Nat.min_eq_left Nat.min_eq_right
theorem insf_dc (l:List TFence) (x1 x2:Int) (v u:Value) (n i:Nat) (F:Own):(n=l.length/\i<=l.length/\l.length<=1000000000)->DC Tryz.prog 82 [.ar v n, .int .i64 i, .ar u 1] ([.arr 2 v (cells (l.map encFence)), .arr 2 u [.int .i64 x1, .int .i64 x2]]++F) fun d G=>∃ v2,d = .ar v2 (l.length+1)/\G = .arr 2 v2 (cells ((l.take i++⟨x1,x2⟩::l.drop i).map encFence))::F:=by
 intro hA
 obtain ⟨hn,hi,hl⟩:=hA
 refine DC.bodyS (n_:=95) (show Tryz.prog.funcs[82]? = some Tryz.f82 by kernel_rfl) rfl rfl (by rfl) ?_
 simp only [env0,List.cons_append,List.nil_append]
 have kw:=ksIs [0,1,2,6,7,8,9,16,22,31,68]
 have ow:=ownIs []
 have dw11:=drIs 11 [8] [4,7]
 have dw15:=drIs 15 [8] [4,7]
 subst hn
 repeat' (first
  | ((with_reducible apply DW.frzR 7 u);(repeat (with_reducible first | refine OnA.here ?_ | refine OnA.next ?_));refine ⟨(show _=cells [encFence ⟨x1,x2⟩] by simp [cells,V.cs,encDot,encFence]),by decide,(by intro y hy;simp only [List.mem_singleton] at hy;subst hy;rfl),?_,?_⟩;(repeat (first | exact CvE.nil | apply CvE.cons (Cv.hit _) | apply CvE.cons (Cv.rfl _))))
  | ((with_reducible apply DW.frzR 9 u);(repeat (with_reducible first | refine OnA.here ?_ | refine OnA.next ?_));refine ⟨(show _=cells [encFence ⟨x1,x2⟩] by simp [cells,V.cs,encDot,encFence]),by decide,(by intro y hy;simp only [List.mem_singleton] at hy;subst hy;rfl),?_,?_⟩;(repeat (first | exact CvE.nil | apply CvE.cons (Cv.hit _) | apply CvE.cons (Cv.rfl _))))
  | ((with_reducible apply DW.frzR 15 u);(repeat (with_reducible first | refine OnA.here ?_ | refine OnA.next ?_));refine ⟨(show _=cells [encFence ⟨x1,x2⟩] by simp [cells,V.cs,encDot,encFence]),by decide,(by intro y hy;simp only [List.mem_singleton] at hy;subst hy;rfl),?_,?_⟩;(repeat (first | exact CvE.nil | apply CvE.cons (Cv.hit _) | apply CvE.cons (Cv.rfl _))))
  | refine g_ ?_
  | ((with_reducible refine And.intro ?_ ?_);(exact sv_insf_dc))
  | (refine DW.cond (by rfl) ?_ ?_<;>(first | exact i0_ | (refine ic_ ?_;intro hb)))
  | ((with_reducible first | refine FVg_cases ?_ ?_ | refine FDg_cases ?_ ?_)<;>(intro hb;rw [hb];revert hb;(first | exact i0_ | (refine i_ ?_;intro hb))))
  | refine d_ ?_
  | refine k_ ?_
  | ((with_reducible refine DW.regK [0,1,2,6,7,8,9,16,22,31,68] (by kernel_rfl) ?_)<;>(refine s_ ?_))
  | ((refine dm_ ?_);(first | (refine DVop.slicea_ rfl rfl rfl rfl ?_;refine s_ ?_)))
  | refine vo_ ?_
  | ((first | ((with_reducible refine SeqD.op rfl ?_);(first | (refine DOp.slicexd_ [60] rfl rfl rfl rfl ?_;(repeat (with_reducible first | refine OnA.here ?_ | refine OnA.next ?_))) | (refine DOp.over_ (tS:=28) (tR:=4) rfl rfl rfl rfl hovf ?_) | (refine DOp.slicea_ rfl rfl ?_) | (refine DOp.capa_ rfl rfl ?_) | (refine DOp.lensub_ rfl rfl ?_) | (refine DOp.copyaa2_ rfl rfl rfl ?_;(repeat (with_reducible first | refine OnA.here ?_ | refine OnA.next ?_));(repeat (with_reducible first | refine OnA.here ?_ | refine OnA.next ?_))) | (refine DOp.copyas2_ rfl rfl rfl ?_;(repeat (with_reducible first | refine OnA.here ?_ | refine OnA.next ?_))) | (refine DOp.cleara2_ rfl rfl ?_;(repeat (with_reducible first | refine OnA.here ?_ | refine OnA.next ?_))) | (refine DOp.appsubz_ rfl rfl rfl ?_;(repeat (with_reducible first | refine OnA.here ?_ | refine OnA.next ?_))) | (refine DOp.appsub_ rfl rfl rfl ?_;(repeat (with_reducible first | refine OnA.here ?_ | refine OnA.next ?_))) | (refine on_ ?_))) | (refine SeqD.opP rfl ?_) | (refine DOp.slicexd_ [60] rfl rfl rfl rfl ?_;(repeat (with_reducible first | refine OnA.here ?_ | refine OnA.next ?_))) | (refine DOp.over_ (tS:=28) (tR:=4) rfl rfl rfl rfl hovf ?_) | (refine DOp.slicea_ rfl rfl ?_) | (refine DOp.capa_ rfl rfl ?_) | (refine DOp.lensub_ rfl rfl ?_) | (refine DOp.copyaa2_ rfl rfl rfl ?_;(repeat (with_reducible first | refine OnA.here ?_ | refine OnA.next ?_));(repeat (with_reducible first | refine OnA.here ?_ | refine OnA.next ?_))) | (refine DOp.copyas2_ rfl rfl rfl ?_;(repeat (with_reducible first | refine OnA.here ?_ | refine OnA.next ?_))) | (refine DOp.cleara2_ rfl rfl ?_;(repeat (with_reducible first | refine OnA.here ?_ | refine OnA.next ?_))) | (refine DOp.appsubz_ rfl rfl rfl ?_;(repeat (with_reducible first | refine OnA.here ?_ | refine OnA.next ?_))) | (refine DOp.appsub_ rfl rfl rfl ?_;(repeat (with_reducible first | refine OnA.here ?_ | refine OnA.next ?_))))<;>(refine s_ ?_))
  | refine o_ ?_
  | refine f_ ?_
  | refine vm_ ?_
  | with_reducible intro b)
 all_goals first
 | (have hq:i=l.length:=by omega
    have e:=insE (enc:=encFence) (s:=2) (fun _=>rfl) (l:=l) (x:=⟨x1,x2⟩) (X:=[.int .i64 x1, .int .i64 x2]) rfl hq
    refine ⟨_,_,?_,⟨?_,rfl,rfl⟩,?_⟩;rotate_left 2;(rw [e]);(exact sub_);(first | exact le.rfl_ | exact le.of_eq (congrArg (V.ar _) (by omega))))
 | (have hq:i<l.length/\((capI v:Int)<(l.length:Int)+1):=by omega
    have e:=insG (enc:=encFence) (s:=2) (fun _=>rfl) (l:=l) (x:=⟨x1,x2⟩) (X:=[.int .i64 x1, .int .i64 x2]) rfl hq
    refine ⟨_,_,?_,⟨?_,rfl,rfl⟩,?_⟩;rotate_left 2;(rw [e]);(exact sub_);(first | exact le.rfl_ | exact le.of_eq (congrArg (V.ar _) (by omega))))
 | (have hq:i<l.length:=by omega
    have e:=insS (enc:=encFence) (s:=2) (fun _=>rfl) (l:=l) (x:=⟨x1,x2⟩) (X:=[.int .i64 x1, .int .i64 x2]) rfl hq
    refine ⟨_,_,?_,⟨?_,rfl,rfl⟩,?_⟩;rotate_left 2;(rw [e]);(exact sub_);(first | exact le.rfl_ | exact le.of_eq (congrArg (V.ar _) (by omega))))
end
end
end Go.Proofs.YtifdpbghkccaoaaGreatDoor
