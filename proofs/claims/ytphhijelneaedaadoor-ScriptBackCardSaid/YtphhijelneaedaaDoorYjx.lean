/- A word, a line of an event. -/
import Derived.Test.YtphhijelneaedaaDoorYhx
import Derived.Test.YtphhijelneaedaaDoorYix
import Derived.KernelRfl
namespace Go.Proofs.YtphhijelneaedaaDoor
open Go.RowKit
set_option linter.unusedSimpArgs false
set_option linter.unusedVariables false
set_option linter.unusedSectionVars false
set_option maxHeartbeats 4000000
set_option maxRecDepth 100000
section
def hexT (b:YS) (k:Nat):YS:=hexZ (b.take k)
theorem hexT_0 (b:YS):hexT b 0=[]:=rfl
theorem hexT_s {b:YS} {k:Nat} (h:k<b.length):hexT b (k+1)=hexT b k++[hexD ((b.getD k default).toNat / 16),hexD ((b.getD k default).toNat%16)]:=by
 unfold hexT hexZ
 rw [List.take_add_one,List.getElem?_eq_getElem h,List.flatMap_append,List.getD_eq_getElem?_getD,List.getElem?_eq_getElem h]
 rfl
theorem hexT_len {b:YS} {k:Nat} (h:k<=b.length):(hexT b k).length=2 * k:=by unfold hexT;rw [hexZ_len,List.length_take,Nat.min_eq_left h]
theorem hexT_all (b:YS):hexT b b.length=hexZ b:=by unfold hexT;rw [List.take_length]
theorem shr_4n:∀ n:Nat,n<256->(n:Int).fdiv (2 ^ min 4 IntKind.u8.bits)=((n / 16:Nat):Int):=by decide +kernel
theorem shr_4 (c:UInt8):(((c.toNat:Nat):Int)).fdiv (2 ^ min 4 IntKind.u8.bits)=((c.toNat / 16:Nat):Int):=shr_4n _ c.toNat_lt
theorem and_15n:∀ n:Nat,n<256->IntKind.u8.wrap ((BitVec.ofInt IntKind.u8.bits (n:Int) &&& BitVec.ofInt IntKind.u8.bits 15).toNat:Int)=((n%16:Nat):Int):=by decide +kernel
theorem and_15 (c:UInt8):IntKind.u8.wrap ((BitVec.ofInt IntKind.u8.bits ((c.toNat:Nat):Int) &&& BitVec.ofInt IntKind.u8.bits 15).toNat:Int)=((c.toNat%16:Nat):Int):=and_15n _ c.toNat_lt
theorem dig_hi (c:UInt8):([48,49,50,51,52,53,54,55,56,57,97,98,99,100,101,102]:List UInt8).getD (((c.toNat:Nat):Int) / 16).toNat 0=hexD (c.toNat / 16):=by rw [show (((c.toNat:Nat):Int) / 16).toNat=c.toNat / 16 by omega];rfl
theorem dig_lo (c:UInt8):([48,49,50,51,52,53,54,55,56,57,97,98,99,100,101,102]:List UInt8).getD (((c.toNat:Nat):Int)%16).toNat 0=hexD (c.toNat%16):=by rw [show (((c.toNat:Nat):Int)%16).toNat=c.toNat%16 by omega];rfl
theorem BAt.cast {T:TypeId} {bk off:Nat} {cs:List V} {v:Value} {n m:Nat} (h:BAt T bk off cs v n) (e:n=m):BAt T bk off cs v m:=e▸h
theorem w_n {e:Ev}:wordY e 110=Lib.itoa e.node:=rfl
theorem w_c {e:Ev}:wordY e 99=Lib.itoa e.conn:=rfl
theorem w_k {e:Ev}:wordY e 107=Lib.itoa e.n:=rfl
theorem w_x {e:Ev}:wordY e 120=hexW e.b:=rfl
theorem w_x0 {e:Ev} (h:e.b.length=0):hexW e.b=[45]:=by rw [List.length_eq_zero_iff.1 h];rfl
theorem w_x1 {e:Ev} (h:¬ e.b.length=0):hexW e.b=hexZ e.b:=hexW_n fun e=>h (by rw [e];rfl)
theorem is_x {c:UInt8} (hc:c=120\/c=110\/c=99\/c=107) (h1:¬ c=110) (h2:¬ c=99) (h3:¬ c=107):c=120:=by
 rcases hc with h | h | h | h
 · exact h
 · exact absurd h h1
 · exact absurd h h2
 · exact absurd h h3
def EvB (e:Ev):Prop:=(i64b e.node/\i64b e.conn/\i64b e.n)/\e.b.length<=10000
attribute [local irreducible] DW SeqD DV DOp DC DVX lay2 selfP liesB Lib.itoa hexD hexT hexZ
theorem sv_word_dc {p:Prop} (h:p:=by first | exact sv | (have:=UInt8.toNat_lt (List.getD e.b k default);omega) | exact he.1.1 | exact he.1.2.1 | exact he.1.2.2 | exact ⟨hB1,by omega⟩ | exact ⟨(hB1.next _ _).cast (by simp only [List.length_append,List.length_cons,List.length_nil]),by (simp only [List.length_append,List.length_cons,List.length_nil];omega)⟩ | fail):p:=h
section
attribute [local push_cast 2000] c_x c_n c_c c_k u8 shr_4 and_15 dig_hi dig_lo
theorem word_dc (T5:TypeId) (fr:Nat×Nat) (e:Ev) (c:UInt8) (F:Own):(EvB e/\(c=120\/c=110\/c=99\/c=107))->DC Tryd.prog 56 [.agg [.int .i64 e.kind, .int .i64 e.node, .int .i64 e.conn, .int .i64 e.n, .sl (e.b.map u8)], .int .u8 (c.toNat:Int)] ([knP T5 fr]++F) fun d G=>d = .str (wordY e c)/\G=[knP T5 fr]++F:=by
 intro hA
 obtain ⟨he,hc⟩:=hA
 refine DC.bodyS (n_:=45) (show Tryd.prog.funcs[56]? = some Tryd.f56 by kernel_rfl) rfl rfl (by rfl) ?_
 simp only [env0,hexT_0,List.cons_append,List.nil_append]
 have kw:=ksIs [0,1,2,4,5,7,8,9,14,19,27,29,30,31,32]
 have ow:=ownIs []
 have hbl:=he.2
 repeat' (first
  | ((refine DOp.allocS_ rfl ?_);(with_reducible intro b5);refine s_ ?_)
  | ((with_reducible refine DW.loopB 1 (X:=Nat×Value×VS) (fun x=>x.1<=e.b.length/\BAt 105 b5 0 x.2.2 x.2.1 (hexT e.b x.1).length) (fun x=>[(5, .raw (.pointer (some ⟨b5,0,none⟩))),(29, .sl (e.b.map u8)),(30, .int .i64 e.b.length),(31, .int .i64 x.1)]) (fun x=>[.tb 105 b5 x.2.2, .ba 5 x.2.1 (hexT e.b x.1),knP T5 fr]) (fun x=>e.b.length - x.1) ((0, .slice none 0 0,[.raw (.pointer none), .ar (.slice none 0 0) 0])) ?_ ?_ ?_);exact (⟨Nat.zero_le _,by (simp only [hexT_0,List.length_nil];exact bat0 _)⟩);(simp [Sub,get,keepL]<;>fail);(try simp only [hexT_0,List.cons_append,List.nil_append]);refine pl_ ?_;intro ⟨k,v1,c1⟩ ⟨hk,hB1⟩;(try simp only [hexT_0,List.cons_append,List.nil_append]);(try simp only at hk hB1);have hT:=hexT_len hk)
  | refine g_ ?_
  | ((with_reducible refine And.intro ?_ ?_);(exact sv_word_dc))
  | (refine DW.cond (by rfl) ?_ ?_<;>(first | exact i0_ | (refine ic_ ?_;intro hb)))
  | ((with_reducible refine FVg_cases ?_ ?_)<;>(intro hb;rw [hb];revert hb;(first | exact i0_ | (refine i_ ?_;intro hb))))
  | refine r_ ?_
  | refine k_ ?_
  | (refine q_ (itoa_dc _ _ _ _) ?_ (ha:=by exact sv_word_dc))
  | (refine p_ (wbyte_dc _ _ _ _ _ _ _ _) ?_ (ha:=by exact sv_word_dc);rintro d H1 ⟨w1,rfl,rfl⟩<;>refine s_ ?_)
  | (refine p_ (bstr_dc _ _ _ _ _ _ _) ?_ (ha:=by exact sv_word_dc);rintro d H1 ⟨rfl,rfl⟩<;>refine s_ ?_)
  | refine o_ ?_
  | refine f_ ?_
  | ((fail_if_success (have zz:=b5));with_reducible intro b5)
  | with_reducible intro b)
 all_goals first
 | (subst hb;(first | rw [w_n] | rw [w_c] | rw [w_k]);(first | exact fin_ | refine finq_ ?_);done)
 | ((have hx:=is_x hc (by assumption) (by assumption) (by assumption));(subst hx);(rw [w_x,w_x0 (by omega)];(first | exact fin_ | refine finq_ ?_);done))
 | ((have hx:=is_x hc (by assumption) (by assumption) (by assumption));(subst hx);(have hkl:k=e.b.length:=by omega);(subst hkl);(rw [w_x,w_x1 (by omega),hexT_all];(first | exact fin_ | refine finq_ ?_);done))
 | ((have e1:=hexT_s (b:=e.b) (k:=k) (by omega))
    (rw [lay2_lay2 hB1.lt])
    refine ⟨(k+1,w1,lay2 b5 0 c1 w1 ((hexT e.b k).length+2)),⟨by (try simp only);omega,?_⟩,by (try simp only);omega,by simp [Sub,get],?_⟩;((try dsimp only);rw [e1];exact (hB1.next _ _).cast (by simp only [List.length_append,List.length_cons,List.length_nil]));((try dsimp only);rw [e1];(exact sub_));done)
 | (trace_state;fail)
end
end
end Go.Proofs.YtphhijelneaedaaDoor
