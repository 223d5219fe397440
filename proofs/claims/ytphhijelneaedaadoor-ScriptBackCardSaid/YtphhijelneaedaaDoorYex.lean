/- Numbers, bytes as words; a word of an event. -/
import Derived.Test.YtphhijelneaedaaDoorYdx
import Derived.Test.YtphhijelneaedaaDoorFzx
import Derived.KernelRfl
namespace Go.Proofs.YtphhijelneaedaaDoor
open Go.RowKit
set_option linter.unusedSimpArgs false
set_option linter.unusedVariables false
set_option linter.unusedSectionVars false
set_option maxHeartbeats 4000000
set_option maxRecDepth 100000
section
def hexZ (b:YS):YS:=b.flatMap hexB
theorem hexZ_len:∀ b:YS,(hexZ b).length=2 * b.length
 | []=>rfl
 | c::b=>by
  have:=hexZ_len b
  simp only [hexZ,List.flatMap_cons,List.length_append,hexB,List.length_cons,List.length_nil] at this ⊢
  omega
theorem hexZ_get:∀ (b:YS) (k:Nat),k<b.length->(hexZ b).getD (2 * k) 0=hexD ((b.getD k 0).toNat / 16)/\(hexZ b).getD (2 * k+1) 0=hexD ((b.getD k 0).toNat%16)
 | [],k,h=>absurd h (Nat.not_lt_zero _)
 | c::b,0,_=>⟨rfl,rfl⟩
 | c::b,k+1,h=>by
  have:=hexZ_get b k (by simpa using h)
  rw [List.getD_cons_succ,<-this.1,<-this.2,show 2 * (k+1)=2 * k+1+1 by omega]
  exact ⟨rfl,rfl⟩
theorem hexZ_0 {b:YS} {k:Nat} (h:k<b.length):(hexZ b).getD (2 * (k:Int)).toNat 0=hexD ((b.getD k 0).toNat / 16):=by rw [show (2 * (k:Int)).toNat=2 * k by omega];exact (hexZ_get b k h).1
theorem hexZ_1 {b:YS} {k:Nat} (h:k<b.length):(hexZ b).getD (2 * (k:Int)+1).toNat 0=hexD ((b.getD k 0).toNat%16):=by rw [show (2 * (k:Int)+1).toNat=2 * k+1 by omega];exact (hexZ_get b k h).2
theorem hex_hi16 (c:UInt8):Lib.indexByte digsY (hexD (c.toNat / 16))=((c.toNat / 16:Nat):Int):=unD_hexD _ (c16 c).1
theorem hex_lo16 (c:UInt8):Lib.indexByte digsY (hexD (c.toNat%16))=((c.toNat%16:Nat):Int):=unD_hexD _ (c16 c).2
theorem inY_i64 {n:Int} (h:inY n=true):i64b n:=by
 simp only [inY,Bool.and_eq_true,decide_eq_true_eq] at h
 exact ⟨by omega,by omega⟩
theorem und_iface {P:Program} {t:TypeId} (h:(ty P t).kind=10):∃ ms,P.underlying t=some (.interface ms):=by
 unfold ty at h
 split at h
 · rename_i i d hi hd;rw [hd];cases d<;>simp_all [tyOf]
 · cases h
theorem DOp.eqNil_ {P:Program} {o:Oper} {f:Operand->V} {H:Own} {K:V->Own->Prop} {t t':TypeId} {x:Operand} (hop:o.op = .binOp .eql t x (.const .nilIface) t') (hk:(ty P t).kind=10) (hx:f x = .raw .nilIface) (h:K (.bool true) H):DOp P o f H K :=
 DOp.step fun a w hs hr=>by
  have hv:a.eval x = .nilIface:=raw_val (by have:=hr x (by rw [hop];simp [Op.operands]);rw [hx] at this;exact this)
  obtain ⟨ms,hu⟩:=und_iface hk
  have he:(Op.equal t .nilIface .nilIface).run P w = .ok true w:=by
   have:∀ d,(Op.equalIn (d+1) t .nilIface .nilIface).run P w = .ok true w:=fun d=>by
    unfold Op.equalIn;simp [run_underlying hu]
   exact this 9999
  refine ⟨.bool true,w, .bool true,H,?_,⟨hs, .refl _ _⟩, .bool _,h⟩
  unfold execOp
  rw [hop]
  simp only [hv]
  have e1:eqGuard .eql t x (.const .nilIface) .nilIface (a.eval (.const .nilIface))=pure ():=by unfold eqGuard;simp [Act.eval]
  have e2:binOp .eql t .nilIface (a.eval (.const .nilIface))=(do pure (.bool (<-Op.equal t .nilIface .nilIface))):=rfl
  rw [e1,e2]
  simp [he]
theorem Les.at_ {cs ds:List V} (h:Les cs ds):cs.length=ds.length/\∀ k,k<ds.length->le (cs.getD k .any) (ds.getD k .any):=by
 induction h with
 | nil=>exact ⟨rfl,fun k hk=>absurd hk (Nat.not_lt_zero _)⟩
 | cons h1 h2 ih =>
  refine ⟨by simp [ih.1],fun k hk=>?_⟩
  cases k with
  | zero=>simpa using h1
  | succ k=>simpa using ih.2 k (by simpa using hk)
theorem le.tup {cs ds:List V} (h:Les cs ds):le (.tup cs) (.tup ds):=by
 have key:=h.at_
 intro S w u r
 cases r with
 | tup xs cs' hn hc=>exact .tup xs ds (hn.trans key.1) fun k hk=>key.2 k hk S w _ (hc k (by rw [key.1];exact hk))
theorem even_b (n:Nat):((2 * (n:Int)).tmod 2==0)=true:=by
 rw [beq_iff_eq,Int.mul_tmod_right]
theorem hex_or_n:∀ n:Nat,n<256->IntKind.u8.wrap (IntKind.i64.wrap ((BitVec.ofInt IntKind.i64.bits (IntKind.i64.wrap ((n:Int) / 16 * 2 ^ min 4 IntKind.i64.bits))|||BitVec.ofInt IntKind.i64.bits ((n:Int)%16)).toNat:Int))=(n:Int):=by decide +kernel
theorem hex_or (c:UInt8):IntKind.u8.wrap (IntKind.i64.wrap ((BitVec.ofInt IntKind.i64.bits (IntKind.i64.wrap (((c.toNat:Nat):Int) / 16 * 2 ^ min 4 IntKind.i64.bits))|||BitVec.ofInt IntKind.i64.bits (((c.toNat:Nat):Int)%16)).toNat:Int))=((c.toNat:Nat):Int):=hex_or_n _ c.toNat_lt
theorem u8take_s {b:YS} {k:Nat} (h:k<b.length):(b.take k).map u8++[u8 (b.getD k 0)]=(b.take (k+1)).map u8:=by
 rw [List.take_add_one,List.map_append,List.getElem?_eq_getElem h,List.getD_eq_getElem?_getD,List.getElem?_eq_getElem h];rfl
attribute [local irreducible] DW SeqD DV DOp DC DVX Lib.indexByte hexD
theorem sv_number_dc {p:Prop} (h:p:=by first | exact sv | exact ⟨by assumption,by omega⟩ | exact inY_i64 (by assumption) | fail):p:=h
theorem number_dc (T5:TypeId) (fr:Nat×Nat) (l:YS) (F:Own):(okNum l/\l.length<=1000000000)->DC Tryd.prog 107 [.str l] ([knP T5 fr]++F) fun d G=>d = .tup [.int .i64 (numV l), .bool (numB l)]/\G=[knP T5 fr]++F:=by
 intro hA
 obtain ⟨hl,hz⟩:=hA
 refine DC.bodyS (n_:=24) (show Tryd.prog.funcs[107]? = some Tryd.f107 by kernel_rfl) rfl rfl (by rfl) ?_
 simp only [env0,List.cons_append,List.nil_append]
 have kw:=ksIs [0,2,3,4,5]
 have ow:=ownIs []
 repeat' (first
  | ((with_reducible refine DW.regK (id:=2) [0,2,3,4,5] (by kernel_rfl) ?_);(refine SeqD.opP rfl ?_);(refine s_ ?_);(refine SeqD.opP rfl ?_);(refine s_ ?_);(with_reducible refine SeqD.op rfl ?_);(refine DOp.eqNil_ rfl rfl rfl ?_);(refine SeqD.gow ow ?_);(refine s_ ?_))
  | refine g_ ?_
  | ((with_reducible refine And.intro ?_ ?_);(exact sv_number_dc))
  | (refine DW.cond (by rfl) ?_ ?_<;>(first | exact i0_ | (refine ic_ ?_;intro hb)))
  | ((with_reducible refine FVg_cases ?_ ?_)<;>(intro hb;rw [hb];revert hb;(first | exact i0_ | (refine i_ ?_;intro hb))))
  | refine r_ ?_
  | refine k_ ?_
  | ((first | refine q_ (atoi_dc _ _) ?_ (ha:=by exact sv_number_dc) | refine q_ (inY_dc _ _) ?_ (ha:=by exact sv_number_dc) | refine q_ (itoa_dc _ _ _ _) ?_ (ha:=by exact sv_number_dc)))
  | refine o_ ?_
  | refine f_ ?_
  | with_reducible intro b)
 all_goals first
 | ((have e:numB l=(Lib.itoa (numV l)==l):=by unfold numB;rw [hb];rfl);rw [e];(first | exact fin_ | refine finq_ ?_);done)
 | ((have e:numB l=false:=by unfold numB;rw [hb];rfl);rw [e];(first | exact fin_ | refine finq_ ?_);done)
 | (trace_state;fail)
theorem hex0_dc  (F:Own):(True)->DC Tryd.prog 106 [.str [45]] (([]:Own)++F) fun d G=>d = .tup [.gs (.slice none 0 0) [], .bool true]/\G=[]++F:=by
 intro hA
 refine DC.bodyS (n_:=45) (show Tryd.prog.funcs[106]? = some Tryd.f106 by kernel_rfl) rfl rfl (by rfl) ?_
 simp only [env0,List.cons_append,List.nil_append]
 have kw:=ksIs [0,2,3,4,5,6,7,9,14,31]
 have ow:=ownIs []
 have dw7:=drIs 7 [] [3,8]
 repeat' (first
  | refine g_ ?_
  | ((with_reducible refine And.intro ?_ ?_);(exact sv))
  | (refine DW.cond (by rfl) ?_ ?_<;>(first | exact i0_ | (refine ic_ ?_;intro hb)))
  | ((with_reducible first | refine FVg_cases ?_ ?_ | refine FDg_cases ?_ ?_)<;>(intro hb;rw [hb];revert hb;(first | exact i0_ | (refine i_ ?_;intro hb))))
  | refine r_ ?_
  | refine d_ ?_
  | refine k_ ?_
  | refine vo_ ?_
  | refine o_ ?_
  | refine f_ ?_
  | refine vm_ ?_
  | with_reducible intro b)
 (first | exact fin_ | refine finq_ ?_)
 all_goals rfl
theorem sv_hexn_dc {p:Prop} (h:p:=by first | exact sv | exact ⟨by rw [List.length_take];omega,by rw [List.length_take];omega,fun _ _=>rfl⟩ | fail):p:=h
theorem s_hexn_dc {P Q:Prop} (q:Q) (h:Hid Q->P:=by (intro q;simp (maxSteps:=1000000) (disch:=omega) only [push_cast,↓reduceIte,reduceCtorEq,Nat.reduceAdd,Nat.reduceMul,Nat.reduceLT,Nat.reduceLeDiff,Nat.reduceEqDiff,Nat.reduceSub,Int.reduceToNat,Int.reduceLT,Int.reduceLE,Int.reduceAdd,Int.reduceSub,Int.reduceMul,Int.reduceNeg,Nat.reduceBEq,Int.reduceBEq,Int.reduceBNe,Nat.reduceBNe,Int.reduceEq,hex_or,hexZ_0,hexZ_1,hexZ_len,hex_hi16,hex_lo16,hne,even_b];exact q.1)):P:=h ⟨q⟩
section
attribute [local push_cast 2000] hex_or hexZ_0 hexZ_1 hexZ_len hex_hi16 hex_lo16 even_b
theorem hexn_dc (y:YS) (F:Own):(y≠[]/\y.length<=1000000000)->DC Tryd.prog 106 [.str (hexZ y)] (([]:Own)++F) fun d G=>d = .tup [.sl (y.map u8), .bool true]/\G=[]++F:=by
 intro hA
 obtain ⟨hb0,hl⟩:=hA
 refine DC.bodyS (n_:=45) (show Tryd.prog.funcs[106]? = some Tryd.f106 by kernel_rfl) rfl rfl (by rfl) ?_
 simp only [env0,List.cons_append,List.nil_append]
 have kw:=ksIs [0,2,3,4,5,6,7,9,14,31]
 have ow:=ownIs []
 have dw7:=drIs 7 [] [3,8]
 have hne:(hexZ y==[45])=false:=by
  rw [beq_eq_false_iff_ne];intro e;have:=congrArg List.length e;rw [hexZ_len] at this;simp at this;omega
 refine DW.tail0 1 ?_
 repeat' (first
  | ((with_reducible refine DW.loopB 0 (X:=Nat×Value) (fun x=>x.1<=y.length) (fun x=>[(0, .str (hexZ y)),(4, .gs x.2 ((y.take x.1).map u8)),(5, .int .i64 (2 * (x.1:Int)))]) (fun x=>.tail 1 x.2::([]:Own)) (fun x=>y.length - x.1) ((0, .slice none 0 0)) ?_ ?_ ?_);exact (Nat.zero_le _);(simp [Sub,get,keepL]<;>fail);(try simp only [List.cons_append,List.nil_append]);refine pl_ ?_;intro ⟨k,v⟩ hk;(try simp only [List.cons_append,List.nil_append]);(try simp only at hk))
  | refine g_ ?_
  | ((with_reducible refine And.intro ?_ ?_);(exact sv_hexn_dc))
  | (refine DW.cond (by rfl) ?_ ?_<;>(first | exact i0_ | (intro hb;(try simp only [↓reduceCtorEq,not_true_eq_false,not_false_eq_true,hbs,Int.reduceBEq,Int.reduceBNe,Int.reduceEq] at hb);(try refine s_hexn_dc ?_))))
  | ((with_reducible first | refine FVg_cases ?_ ?_ | refine FDg_cases ?_ ?_)<;>(intro hb;rw [hb];revert hb;(first | exact i0_ | (intro hb;(try simp only [↓reduceCtorEq,not_true_eq_false,not_false_eq_true,hbs,Int.reduceBEq,Int.reduceBNe,Int.reduceEq] at hb);(try refine s_hexn_dc ?_)))))
  | ((first | refine rn_ ?_ | refine dn_ ?_ | refine kn_ ?_)<;>(refine s_hexn_dc ?_))
  | ((refine dm_ ?_);(first | (refine v_ (digit_dc _ _) ?_ (ha:=by exact sv_hexn_dc) (hk:=fun q=>q.1);refine s_hexn_dc ?_)))
  | ((refine von_ ?_);refine s_hexn_dc ?_)
  | (refine q_ (digit_dc _ _) ?_ (ha:=by exact sv_hexn_dc) (hk:=fun q=>q.1);refine s_hexn_dc ?_)
  | ((refine on_ ?_);refine s_hexn_dc ?_)
  | refine f_ ?_
  | refine vm_ ?_
  | with_reducible intro b)
 all_goals first
 | ((have hkl:k=y.length:=by omega);(subst hkl);(rw [List.take_length]);(refine ⟨_,_,le.tup (Les.cons (le.gs rfl) (Les.cons le.rfl_ Les.nil)),⟨rfl,rfl⟩,?_⟩);(exact sub_);done)
 | ((have e:(y.take k).map u8++[V.int .u8 (((y.getD k 0).toNat:Nat):Int)]=(y.take (k+1)).map u8:=u8take_s (by omega));refine ⟨(k+1,b),?_,?_,?_,?_⟩;((try simp only);omega);((try simp only);omega);(simp [Sub,get,<-e]<;>omega);((try simp only);(exact sub_));done)
 | (trace_state;fail)
end
end
end Go.Proofs.YtphhijelneaedaaDoor
