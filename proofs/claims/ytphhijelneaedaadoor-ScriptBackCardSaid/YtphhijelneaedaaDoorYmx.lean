/- The document's packets: numbers, texts laid down. -/
import Derived.Test.YtphhijelneaedaaDoorYhx
import Derived.Test.YtphhijelneaedaaDoorRf2x
import Derived.Test.YtphhijelneaedaaDoorEu
import Derived.KernelRfl
namespace Go.Proofs.YtphhijelneaedaaDoor
open Go.RowKit
set_option linter.unusedSimpArgs false
set_option linter.unusedVariables false
set_option linter.unusedSectionVars false
set_option maxHeartbeats 4000000
set_option maxRecDepth 100000
section
structure Pk where
 kind:Int
 dup:Bool
 retain:Bool
 qos:Int
 id:Int
 topic:YS
 payload:YS
 level:Int
 client:YS
 clean:Bool
 keep:Int
 hasWill:Bool
 wtopic:YS
 wpay:YS
 wqos:Int
 wretain:Bool
 hasUser:Bool
 hasPass:Bool
 user:YS
 pass:YS
 present:Bool
 code:Int
 subs:List (YS×Int)
 codes:List Int
 deriving Inhabited
def encU (x:YS×Int):V:=.agg [.str x.1, .int .i64 x.2]
structure PkB (p:Pk):Prop where
 topic:p.topic.length<=100
 payload:p.payload.length<=100
 client:p.client.length<=100
 wtopic:p.wtopic.length<=100
 wpay:p.wpay.length<=100
 user:p.user.length<=100
 pass:p.pass.length<=100
 subs:p.subs.length<=3
 flt:∀ k,(p.subs.getD k default).1.length<=100
 codes:p.codes.length<=3
def byteW (z:Int):UInt8:=UInt8.ofNat (IntKind.u8.wrap z).toNat
theorem u8_byteW (z:Int):V.int .u8 (IntKind.u8.wrap z)=u8 (byteW z):=by
 have h:0<=IntKind.u8.wrap z/\IntKind.u8.wrap z<=255:=by simp [IntKind.wrap,IntKind.bits,IntKind.signed];omega
 unfold u8 byteW
 congr 1
 have:(UInt8.ofNat (IntKind.u8.wrap z).toNat).toNat=(IntKind.u8.wrap z).toNat:=by simp [UInt8.toNat_ofNat];omega
 rw [this];omega
theorem any_u8 {n:Int} (h:0<=n/\n<=255):∃ c:UInt8,V.int .u8 n=u8 c:=⟨UInt8.ofNat n.toNat,by
 unfold u8
 have:(UInt8.ofNat n.toNat).toNat=n.toNat:=by simp [UInt8.toNat_ofNat];omega
 rw [this];congr 1;omega⟩
theorem snoc2 (l:YS) (a c:UInt8):l.map u8++[u8 a,u8 c]=(l++[a,c]).map u8:=by simp
theorem one2 (a c:UInt8):[u8 a,u8 c]=[a,c].map u8:=rfl
theorem cells_u8Y:∀ l:YS,cells (l.map u8)=l.map u8
 | []=>rfl
 | a::l=>by
  have:=cells_u8Y l
  rw [List.map_cons,cells_cons,this];rfl
attribute [local irreducible] DW SeqD DV DOp DC DVX chkB
theorem in3_dc (v a b:Int) (F:Own):(True)->DC Tryd.prog 120 [.int .i64 v, .int .i64 a, .int .i64 b] (([]:Own)++F) fun d G=>∃ r:Bool,d = .bool r/\G=([]:Own)++F:=by
 intro hA
 refine DC.bodyS (n_:=15) (show Tryd.prog.funcs[120]? = some Tryd.f120 by kernel_rfl) rfl rfl (by rfl) ?_
 simp only [env0,List.cons_append,List.nil_append]
 have kw:=ksIs [0,1,2,6]
 have ow:=ownIs []
 repeat' (first
  | refine g_ ?_
  | ((with_reducible refine And.intro ?_ ?_);(exact sv))
  | (refine DW.cond (by rfl) ?_ ?_<;>(first | exact i0_ | (refine ic_ ?_;intro hb)))
  | ((with_reducible refine FVg_cases ?_ ?_)<;>(intro hb;rw [hb];revert hb;(first | exact i0_ | (refine i_ ?_;intro hb))))
  | refine r_ ?_
  | refine k_ ?_
  | refine o_ ?_
  | refine f_ ?_
  | with_reducible intro b)
 all_goals first
 | (refine ⟨_,_,le.rfl_,⟨_,rfl,rfl⟩,?_⟩;(exact sub_);done)
 | (trace_state;fail)
section
attribute [local push_cast 2000] bytes_are bytes_back
theorem text3_dc (l:YS) (F:Own):(l.length<=100000)->DC Tryd.prog 124 [.str l] (([]:Own)++F) fun d G=>∃ r:Bool,d = .bool r/\G=([]:Own)++F:=by
 intro hA
 have hl:=hA
 refine DC.bodyS (n_:=12) (show Tryd.prog.funcs[124]? = some Tryd.f124 by kernel_rfl) rfl rfl (by rfl) ?_
 simp only [env0,List.cons_append,List.nil_append]
 have kw:=ksIs [0,2]
 have ow:=ownIs []
 repeat' (first
  | refine g_ ?_
  | ((with_reducible refine And.intro ?_ ?_);(exact sv))
  | (refine DW.cond (by rfl) ?_ ?_<;>(first | exact i0_ | (refine ic_ ?_;intro hb)))
  | ((with_reducible refine FVg_cases ?_ ?_)<;>(intro hb;rw [hb];revert hb;(first | exact i0_ | (refine i_ ?_;intro hb))))
  | refine r_ ?_
  | refine k_ ?_
  | (refine p_ (check_dc _ _) ?_;rintro d H1 ⟨i1,rfl,hi1,rfl⟩<;>refine s_ ?_)
  | refine o_ ?_
  | refine f_ ?_
  | with_reducible intro b)
 all_goals first
 | (refine ⟨_,_,le.rfl_,⟨_,rfl,rfl⟩,?_⟩;(exact sub_);done)
 | (trace_state;fail)
end
theorem bit_dc (b:Bool) (n:Int) (F:Own):(True)->DC Tryd.prog 100 [.bool b, .int .i64 n] (([]:Own)++F) fun d G=>d = .int .i64 (if b=true then n else 0)/\G=[]++F:=by
 intro hA
 refine DC.bodyS (n_:=7) (show Tryd.prog.funcs[100]? = some Tryd.f100 by kernel_rfl) rfl rfl (by rfl) ?_
 simp only [env0,List.cons_append,List.nil_append]
 have kw:=ksIs [0,1,4,5]
 have ow:=ownIs []
 repeat' (first
  | refine g_ ?_
  | ((with_reducible refine And.intro ?_ ?_);(exact sv))
  | (refine DW.cond (by rfl) ?_ ?_<;>(first | exact i0_ | (refine ic_ ?_;intro hb)))
  | ((with_reducible refine FVg_cases ?_ ?_)<;>(intro hb;rw [hb];revert hb;(first | exact i0_ | (refine i_ ?_;intro hb))))
  | refine r_ ?_
  | refine k_ ?_
  | refine o_ ?_
  | refine f_ ?_
  | with_reducible intro b)
 all_goals first
 | ((simp only [hb,↓reduceIte,Bool.false_eq_true];(first | exact fin_ | refine finq_ ?_);done))
 | (trace_state;fail)
theorem sv_two_dc {p:Prop} (h:p:=by first | exact sv | (simp [u8,V.one,V.n];omega) | (simp [u8,V.one,V.n]<;>fail) | fail):p:=h
section
attribute [local push_cast 2000] cells_u8Y
theorem two_dc (v:Value) (n:Nat) (l:YS) (z:Int) (F:Own):(n=l.length/\l.length<=1000000)->DC Tryd.prog 126 [.ar v n, .int .i64 z] (.arr 1 v (l.map u8)::([]:Own)++F) fun d G=>∃ (v':Value) (l':YS),l'.length=n+2/\d = .ar v' l'.length/\G = .arr 1 v' (l'.map u8)::F:=by
 intro hA
 obtain ⟨hn,hl⟩:=hA
 refine DC.bodyS (n_:=13) (show Tryd.prog.funcs[126]? = some Tryd.f126 by kernel_rfl) rfl rfl (by rfl) ?_
 simp only [env0,List.cons_append,List.nil_append]
 have kw:=ksIs [0,1,4]
 have ow:=ownIs []
 repeat' (first
  | refine g_ ?_
  | ((with_reducible refine And.intro ?_ ?_);(exact sv_two_dc))
  | (refine DW.cond (by rfl) ?_ ?_<;>(first | exact i0_ | (refine ic_ ?_;intro hb)))
  | ((with_reducible refine FVg_cases ?_ ?_)<;>(intro hb;rw [hb];revert hb;(first | exact i0_ | (refine i_ ?_;intro hb))))
  | refine r_ ?_
  | refine k_ ?_
  | refine o_ ?_
  | refine f_ ?_
  | with_reducible intro b)
 all_goals first
 | ((simp only [u8_byteW,snoc2]);refine ⟨_,_,le.of_eq ?_,⟨b,l++[byteW (z.fdiv (2 ^ min 8 IntKind.i64.bits)),byteW z],by simp [hn],rfl,rfl⟩,?_⟩;(rw [hn];simp);(exact sub_);done)
 | (trace_state;fail)
end
section
attribute [local push_cast 2000] cells_u8Y cells_cons cells_nil
theorem twoN_dc (z:Int) (F:Own):(True)->DC Tryd.prog 126 [.gs (.slice none 0 0) [], .int .i64 z] (([]:Own)++F) fun d G=>∃ (v':Value) (l':YS),l'.length=2/\d = .ar v' l'.length/\G = .arr 1 v' (l'.map u8)::F:=by
 intro hA
 refine DC.bodyS (n_:=13) (show Tryd.prog.funcs[126]? = some Tryd.f126 by kernel_rfl) rfl rfl (by rfl) ?_
 simp only [env0,List.cons_append,List.nil_append]
 have kw:=ksIs [0,1,4]
 have ow:=ownIs []
 repeat' (first
  | refine g_ ?_
  | ((with_reducible refine And.intro ?_ ?_);(exact sv_twoN_dc))
  | (refine DW.cond (by rfl) ?_ ?_<;>(first | exact i0_ | (refine ic_ ?_;intro hb)))
  | ((with_reducible refine FVg_cases ?_ ?_)<;>(intro hb;rw [hb];revert hb;(first | exact i0_ | (refine i_ ?_;intro hb))))
  | refine r_ ?_
  | refine k_ ?_
  | ((first | (refine DOp.app0a_ [12] rfl rfl rfl rfl (by intro h;cases h) ?_))<;>(refine s_ ?_))
  | refine o_ ?_
  | refine f_ ?_
  | with_reducible intro b)
 all_goals first
 | ((simp only [u8_byteW,List.nil_append,one2]);refine ⟨_,_,le.of_eq ?_,⟨b,[byteW (z.fdiv (2 ^ min 8 IntKind.i64.bits)),byteW z],rfl,rfl,rfl⟩,?_⟩;rfl;(exact sub_);done)
 | (trace_state;fail)
end
theorem sv_lump_dc {p:Prop} (h:p:=by first | exact sv | (simp [u8,V.one,V.n];omega) | (simp [u8,V.one,V.n]<;>fail) | fail):p:=h
section
attribute [local push_cast 2000] cells_u8Y
theorem lump_dc (v:Value) (n:Nat) (l t:YS) (F:Own):(n=l.length/\l.length<=100000/\t.length<=100000)->DC Tryd.prog 125 [.ar v n, .str t] (.arr 1 v (l.map u8)::([]:Own)++F) fun d G=>∃ (v':Value) (l':YS),l'.length=n+2+t.length/\d = .ar v' l'.length/\G = .arr 1 v' (l'.map u8)::F:=by
 intro hA
 obtain ⟨hn,hl,ht⟩:=hA
 refine DC.bodyS (n_:=11) (show Tryd.prog.funcs[125]? = some Tryd.f125 by kernel_rfl) rfl rfl (by rfl) ?_
 simp only [env0,List.cons_append,List.nil_append]
 have kw:=ksIs [0,1,4]
 have ow:=ownIs []
 repeat' (first
  | refine g_ ?_
  | ((with_reducible refine And.intro ?_ ?_);(exact sv_lump_dc))
  | (refine DW.cond (by rfl) ?_ ?_<;>(first | exact i0_ | (refine ic_ ?_;intro hb)))
  | ((with_reducible refine FVg_cases ?_ ?_)<;>(intro hb;rw [hb];revert hb;(first | exact i0_ | (refine i_ ?_;intro hb))))
  | refine r_ ?_
  | refine k_ ?_
  | (refine p_ (two_dc _ _ _ _ _) ?_ (ha:=by exact sv_lump_dc);rintro d H1 ⟨v1,l1,hl1,rfl,rfl⟩<;>refine s_ ?_)
  | refine o_ ?_
  | refine f_ ?_
  | with_reducible intro b)
 all_goals first
 | ((simp only [<-List.map_append]);refine ⟨_,_,le.of_eq ?_,⟨b,l1++t,by simp [hl1],rfl,rfl⟩,?_⟩;simp;(exact sub_);done)
 | (trace_state;fail)
end
theorem sv_lumpN_dc {p:Prop} (h:p:=by first | exact sv | (simp [u8,V.one,V.n];omega) | (simp [u8,V.one,V.n]<;>fail) | fail):p:=h
section
attribute [local push_cast 2000] cells_u8Y
theorem lumpN_dc (t:YS) (F:Own):(t.length<=100000)->DC Tryd.prog 125 [.gs (.slice none 0 0) [], .str t] (([]:Own)++F) fun d G=>∃ (v':Value) (l':YS),l'.length=2+t.length/\d = .ar v' l'.length/\G = .arr 1 v' (l'.map u8)::F:=by
 intro hA
 have ht:=hA
 refine DC.bodyS (n_:=11) (show Tryd.prog.funcs[125]? = some Tryd.f125 by kernel_rfl) rfl rfl (by rfl) ?_
 simp only [env0,List.cons_append,List.nil_append]
 have kw:=ksIs [0,1,4]
 have ow:=ownIs []
 repeat' (first
  | refine g_ ?_
  | ((with_reducible refine And.intro ?_ ?_);(exact sv_lumpN_dc))
  | (refine DW.cond (by rfl) ?_ ?_<;>(first | exact i0_ | (refine ic_ ?_;intro hb)))
  | ((with_reducible refine FVg_cases ?_ ?_)<;>(intro hb;rw [hb];revert hb;(first | exact i0_ | (refine i_ ?_;intro hb))))
  | refine r_ ?_
  | refine k_ ?_
  | (refine p_ (twoN_dc _ _) ?_ (ha:=by exact sv_lumpN_dc);rintro d H1 ⟨v1,l1,hl1,rfl,rfl⟩<;>refine s_ ?_)
  | refine o_ ?_
  | refine f_ ?_
  | with_reducible intro b)
 all_goals first
 | ((simp only [<-List.map_append]);refine ⟨_,_,le.of_eq ?_,⟨b,l1++t,by simp [hl1],rfl,rfl⟩,?_⟩;simp;(exact sub_);done)
 | (trace_state;fail)
end
end
end Go.Proofs.YtphhijelneaedaaDoor
