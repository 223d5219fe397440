/- The bytes of a packet. -/
import Derived.Test.YtphhijelneaedaaDoorYnx
import Derived.Test.YtphhijelneaedaaDoorYqx
import Derived.Test.YtphhijelneaedaaDoorYzx
import Derived.Test.YtphhijelneaedaaDoorYvx
import Derived.KernelRfl
namespace Go.Proofs.YtphhijelneaedaaDoor
open Go.RowKit
set_option linter.unusedSimpArgs false
set_option linter.unusedVariables false
set_option linter.unusedSectionVars false
set_option maxHeartbeats 4000000
set_option maxRecDepth 100000
section
theorem body_dc (p:Pk) (F:Own):PkB p->DC Tryd.prog 101 [.agg [.int .i64 p.kind, .bool p.dup, .bool p.retain, .int .i64 p.qos, .int .i64 p.id, .str p.topic, .sl (p.payload.map u8), .int .i64 p.level, .str p.client, .bool p.clean, .int .i64 p.keep, .bool p.hasWill, .str p.wtopic, .sl (p.wpay.map u8), .int .i64 p.wqos, .bool p.wretain, .bool p.hasUser, .bool p.hasPass, .str p.user, .sl (p.pass.map u8), .bool p.present, .int .i64 p.code, .sl (p.subs.map encU), .sl (p.codes.map (V.int .i64))]] (([]:Own)++F) fun d G=>∃ x:YS,x.length<=2000/\d = .sl (x.map u8)/\G=[]++F:=fun hp=>DC.frz1 (bodyA_dc p F hp)
theorem right3_dc (p:Pk) (F:Own):(PkB p)->DC Tryd.prog 99 [.agg [.int .i64 p.kind, .bool p.dup, .bool p.retain, .int .i64 p.qos, .int .i64 p.id, .str p.topic, .sl (p.payload.map u8), .int .i64 p.level, .str p.client, .bool p.clean, .int .i64 p.keep, .bool p.hasWill, .str p.wtopic, .sl (p.wpay.map u8), .int .i64 p.wqos, .bool p.wretain, .bool p.hasUser, .bool p.hasPass, .str p.user, .sl (p.pass.map u8), .bool p.present, .int .i64 p.code, .sl (p.subs.map encU), .sl (p.codes.map (V.int .i64))]] (([]:Own)++F) fun d G=>∃ r:Bool,d = .bool r/\G=([]:Own)++F:=right3_pre same3_dc body_dc p F
theorem u8_is {z:Int} (h1:0<=z) (h2:z<=255):∃ y:UInt8,V.int .u8 z=u8 y:=⟨byteW z,by
 rw [<-u8_byteW]
 have e:IntKind.u8.wrap z=z:=by simp [IntKind.wrap,IntKind.bits,IntKind.signed];omega
 rw [e]⟩
theorem put_fin {b:Value} {v:V} {ln lb:YS} {F:Own} (h1:ln.length<=4) (h2:lb.length<=2000) (hv:∃ y:UInt8,v=u8 y):∃ d' G,le (V.tup [.ar b (1+ln.length+lb.length), .int .i64 0]) d'/\((∃ e:Int,d'=V.tup [.gs (.slice none 0 0) [], .int .i64 e]/\G=F)\/∃ (v:Value) (x:YS) (e:Int),x.length<=3000/\d'=V.tup [.ar v x.length, .int .i64 e]/\G = .arr 1 v (x.map u8)::F)/\SubP G (.arr 1 b (v::(ln.map u8++lb.map u8))::F):=by
 obtain ⟨y,rfl⟩:=hv
 have e1:1+ln.length+lb.length=(y::(ln++lb)).length:=by simp;omega
 have e2:u8 y::(ln.map u8++lb.map u8)=(y::(ln++lb)).map u8:=by simp
 rw [e1,e2]
 exact ⟨_,_,le.rfl_, .inr ⟨b,_,0,by rw [<-e1];omega,rfl,rfl⟩,SubP.refl⟩
attribute [local irreducible] DW SeqD DV DOp DC DVX
theorem sv_putA_dc {p:Prop} (h:p:=by first | exact sv | exact hp | (simp [u8,V.one,V.n];omega) | (simp [u8,V.one,V.n]<;>fail) | fail):p:=h
section
attribute [local push_cast 2000] cells_u8Y
theorem putA_dc (p:Pk) (F:Own):(PkB p)->DC Tryd.prog 77 [.agg [.int .i64 p.kind, .bool p.dup, .bool p.retain, .int .i64 p.qos, .int .i64 p.id, .str p.topic, .sl (p.payload.map u8), .int .i64 p.level, .str p.client, .bool p.clean, .int .i64 p.keep, .bool p.hasWill, .str p.wtopic, .sl (p.wpay.map u8), .int .i64 p.wqos, .bool p.wretain, .bool p.hasUser, .bool p.hasPass, .str p.user, .sl (p.pass.map u8), .bool p.present, .int .i64 p.code, .sl (p.subs.map encU), .sl (p.codes.map (V.int .i64))]] (([]:Own)++F) fun d G=>(∃ e:Int,d = .tup [.gs (.slice none 0 0) [], .int .i64 e]/\G=F)\/∃ (v:Value) (x:YS) (e:Int),x.length<=3000/\d = .tup [.ar v x.length, .int .i64 e]/\G = .arr 1 v (x.map u8)::F:=by
 intro hA
 have hp:=hA
 refine DC.bodyS (n_:=49) (show Tryd.prog.funcs[77]? = some Tryd.f77 by kernel_rfl) rfl rfl (by rfl) ?_
 simp only [env0,List.cons_append,List.nil_append]
 have kw:=ksIs [0,1,2,3,4,5,6,10,12,13,17]
 have ow:=ownIs [44]
 have dw10:=drIs 10 [] [1,2,4,8,9]
 repeat' (first
  | refine g_ ?_
  | ((with_reducible refine And.intro ?_ ?_);(exact sv_putA_dc))
  | (refine DW.cond (by rfl) ?_ ?_<;>(first | exact i0_ | (refine ic_ ?_;intro hb)))
  | ((with_reducible first | refine FVg_cases ?_ ?_ | refine FDg_cases ?_ ?_)<;>(intro hb;rw [hb];revert hb;(first | exact i0_ | (refine i_ ?_;intro hb))))
  | refine r_ ?_
  | refine d_ ?_
  | refine k_ ?_
  | ((refine dm_ ?_);(first | (refine v_ (bit_dc _ _ _) ?_ (ha:=by exact sv_putA_dc))))
  | refine vo_ ?_
  | ((first | (refine DOp.lista_ [44] rfl rfl ?_) | (refine DOp.makea_ [44] rfl rfl rfl rfl ?_))<;>(refine s_ ?_))
  | (refine p_ (right3_dc _ _) ?_ (ha:=by exact sv_putA_dc);rintro d H1 ⟨r,rfl,rfl⟩<;>refine s_ ?_)
  | (refine q_ (bit_dc _ _ _) ?_ (ha:=by exact sv_putA_dc))
  | (refine p_ (body_dc _ _) ?_ (ha:=by exact sv_putA_dc);rintro d H1 ⟨lb,hlb,rfl,rfl⟩<;>refine s_ ?_)
  | (refine p_ (put1_dc _ _) ?_ (ha:=by exact sv_putA_dc);rintro d H1 ⟨ln,le1,hln,rfl,rfl⟩<;>refine s_ ?_)
  | refine o_ ?_
  | refine f_ ?_
  | refine vm_ ?_
  | with_reducible intro b)
 all_goals first
 | (refine ⟨_,_,le.rfl_, .inl ⟨_,rfl,rfl⟩,?_⟩;(exact sub_);done)
 | (exact put_fin hln hlb ⟨_,u8_byteW _⟩)
 | (refine put_fin hln hlb (u8_is ?_ ?_)<;>omega)
 | (trace_state;fail)
end
theorem put3_dc (p:Pk) (F:Own):PkB p->DC Tryd.prog 77 [.agg [.int .i64 p.kind, .bool p.dup, .bool p.retain, .int .i64 p.qos, .int .i64 p.id, .str p.topic, .sl (p.payload.map u8), .int .i64 p.level, .str p.client, .bool p.clean, .int .i64 p.keep, .bool p.hasWill, .str p.wtopic, .sl (p.wpay.map u8), .int .i64 p.wqos, .bool p.wretain, .bool p.hasUser, .bool p.hasPass, .str p.user, .sl (p.pass.map u8), .bool p.present, .int .i64 p.code, .sl (p.subs.map encU), .sl (p.codes.map (V.int .i64))]] (([]:Own)++F) fun d G=>∃ (x:YS) (e:Int),x.length<=3000/\d = .tup [.sl (x.map u8), .int .i64 e]/\G=[]++F:=fun hp=>DC.frzP (Q:=fun x=>x.length<=3000) (by decide) (putA_dc p F hp)
theorem sv_bytes_dc {p:Prop} (h:p:=by first | exact sv | exact hp | fail):p:=h
theorem bytes_dc (p:Pk) (F:Own):(PkB p)->DC Tryd.prog 46 [.agg [.int .i64 p.kind, .bool p.dup, .bool p.retain, .int .i64 p.qos, .int .i64 p.id, .str p.topic, .sl (p.payload.map u8), .int .i64 p.level, .str p.client, .bool p.clean, .int .i64 p.keep, .bool p.hasWill, .str p.wtopic, .sl (p.wpay.map u8), .int .i64 p.wqos, .bool p.wretain, .bool p.hasUser, .bool p.hasPass, .str p.user, .sl (p.pass.map u8), .bool p.present, .int .i64 p.code, .sl (p.subs.map encU), .sl (p.codes.map (V.int .i64))]] (([]:Own)++F) fun d G=>∃ x:YS,x.length<=3000/\d = .sl (x.map u8)/\G=[]++F:=by
 intro hA
 have hp:=hA
 refine DC.bodyS (n_:=11) (show Tryd.prog.funcs[46]? = some Tryd.f46 by kernel_rfl) rfl rfl (by rfl) ?_
 simp only [env0,List.cons_append,List.nil_append]
 have kw:=ksIs [0,1,2,3]
 have ow:=ownIs []
 repeat' (first
  | refine g_ ?_
  | ((with_reducible refine And.intro ?_ ?_);(exact sv_bytes_dc))
  | (refine DW.cond (by rfl) ?_ ?_<;>(first | exact i0_ | (refine ic_ ?_;intro hb)))
  | ((with_reducible refine FVg_cases ?_ ?_)<;>(intro hb;rw [hb];revert hb;(first | exact i0_ | (refine i_ ?_;intro hb))))
  | refine r_ ?_
  | refine k_ ?_
  | (refine p_ (put3_dc _ _) ?_ (ha:=by exact sv_bytes_dc);rintro d H1 ⟨lx,e1,hlx,rfl,rfl⟩<;>refine s_ ?_)
  | refine o_ ?_
  | refine f_ ?_
  | with_reducible intro b)
 all_goals first
 | (refine ⟨_,_,le.rfl_,⟨_,hlx,rfl,rfl⟩,?_⟩;(exact sub_);done)
 | (trace_state;fail)
end
end Go.Proofs.YtphhijelneaedaaDoor
