/- The program's packets: rows put together; what a broker's packet is in bytes. -/
import Derived.Test.YtgekknefphagbaaGreatDoorWix
import Derived.KernelRfl
namespace Go.Proofs.YtgekknefphagbaaGreatDoor
open Go.RowKit
set_option linter.unusedSimpArgs false
set_option linter.unusedVariables false
set_option linter.unusedSectionVars false
set_option maxHeartbeats 4000000
set_option maxRecDepth 100000
section
theorem zpG:capI (.slice none 0 0)=0:=rfl
def encB (l:YS):V:=.sl (l.map u8)
def sumN (ls:List YS):Nat:=ls.flatten.length
theorem zqj {ls:List YS} {k:Nat} (h:k<ls.length):sumN (ls.take (k+1))=sumN (ls.take k)+(ls.getD k default).length:=by
 unfold sumN;rw [zeg h,List.flatten_append,List.length_append];simp
theorem zqg {ls:List YS} {k:Nat} (h:k<ls.length):(ls.take (k+1)).flatten=(ls.take k).flatten++ls.getD k default:=by
 rw [zeg h,List.flatten_append];simp
theorem zhc {ls:List YS} (k:Nat):sumN (ls.take k)<=sumN ls:=by
 unfold sumN
 conv=>rhs;rw [<-List.take_append_drop k ls,List.flatten_append,List.length_append]
 omega
theorem sumN_or {ls:List YS} {k:Nat} (h:k<=ls.length):k<ls.length\/sumN (ls.take k)=sumN ls:=by
 rcases Nat.lt_or_ge k ls.length with h1 | h1
 · exact .inl h1
 · exact .inr (by rw [List.take_of_length_le h1])
theorem zmu {ls:List YS} (k:Nat):(ls.getD k default).length<=sumN ls:=by
 rcases Nat.lt_or_ge k ls.length with h | h
 · have:=zqj h;have:=zhc (ls:=ls) (k+1);omega
 · rw [List.getD_eq_getElem?_getD,List.getElem?_eq_none h];exact Nat.zero_le _
theorem sumN_0 (ls:List YS):sumN (ls.take 0)=0:=rfl
theorem sumN_00:sumN []=0:=rfl
attribute [local irreducible] DW SeqD DV DOp DC DVX DVJ sumN
section
attribute [local push_cast 2000] zpG AppZ Int.sub_zero Int.zero_add Nat.zero_add zhm zjp zhd zje Nat.sub_zero List.drop_zero List.take_zero
theorem grow_dc (n:Int) (F:Own):(0<n/\n<=1000000)->DC Tryz.prog 206 [.gs (.slice none 0 0) [], .int .i64 n] (([]:Own)++F) fun d G=>∃ v,d = .ar v 0/\G = .arr 1 v []::F:=by
 intro hA
 obtain ⟨hn0,hn1⟩:=hA
 refine DC.bodyS (n_:=27) (show Tryz.prog.funcs[206]? = some Tryz.f206 by kernel_rfl) rfl rfl (by rfl) ?_
 simp only [env0,List.cons_append,List.nil_append]
 have kw:=ksIs [0,1,4,6,16]
 have ow:=zaf []
 repeat' (first
  | ((fail_if_success (have zz:=hown));(refine DW.own0 1 0 (by rfl) ?_);(simp only [zcf,zcK,Nat.reduceEqDiff,↓reduceIte,if_true,if_false,reduceCtorEq]);(have hown:True:=trivial))
  | ((with_reducible apply DW.preR 6 0);(focus (exact rfl));(repeat (with_reducible first | refine OnA.here ?_ | refine OnA.next ?_));(refine ⟨⟨rfl,by simp⟩,?_⟩);(with_reducible intro v2);(simp only [zcf,zcK,Nat.reduceEqDiff,↓reduceIte,if_true,if_false,reduceCtorEq,Nat.zero_mul,List.take_zero]))
  | refine g_ ?_
  | ((with_reducible refine And.intro ?_ ?_);(exact sv))
  | (refine DW.cond (by rfl) ?_ ?_<;>(first | exact i0_ | (refine ic_ ?_;intro hb)))
  | ((with_reducible refine zaa ?_ ?_)<;>(intro hb;rw [hb];revert hb;(first | exact i0_ | (refine i_ ?_;intro hb))))
  | refine k_ ?_
  | ((with_reducible refine DW.regK [0,1,4,6,16] (by kernel_rfl) ?_)<;>(refine s_ ?_))
  | ((first | ((with_reducible refine SeqD.op rfl ?_);(first | (refine DOp.slicea_ rfl rfl ?_) | (refine DOp.capa_ rfl rfl ?_) | (refine DOp.lensub_ rfl rfl ?_) | (refine DOp.copyaa2_ rfl rfl rfl ?_;(repeat (with_reducible first | refine OnA.here ?_ | refine OnA.next ?_));(repeat (with_reducible first | refine OnA.here ?_ | refine OnA.next ?_))) | (refine DOp.copyas2_ rfl rfl rfl ?_;(repeat (with_reducible first | refine OnA.here ?_ | refine OnA.next ?_))) | (refine DOp.cleara2_ rfl rfl ?_;(repeat (with_reducible first | refine OnA.here ?_ | refine OnA.next ?_))) | (refine DOp.appsubz_ rfl rfl rfl ?_;(repeat (with_reducible first | refine OnA.here ?_ | refine OnA.next ?_))) | (refine DOp.appsub_ rfl rfl rfl ?_;(repeat (with_reducible first | refine OnA.here ?_ | refine OnA.next ?_))) | (refine on_ ?_))) | (refine SeqD.opP rfl ?_) | (refine DOp.slicea_ rfl rfl ?_) | (refine DOp.capa_ rfl rfl ?_) | (refine DOp.lensub_ rfl rfl ?_) | (refine DOp.copyaa2_ rfl rfl rfl ?_;(repeat (with_reducible first | refine OnA.here ?_ | refine OnA.next ?_));(repeat (with_reducible first | refine OnA.here ?_ | refine OnA.next ?_))) | (refine DOp.copyas2_ rfl rfl rfl ?_;(repeat (with_reducible first | refine OnA.here ?_ | refine OnA.next ?_))) | (refine DOp.cleara2_ rfl rfl ?_;(repeat (with_reducible first | refine OnA.here ?_ | refine OnA.next ?_))) | (refine DOp.appsubz_ rfl rfl rfl ?_;(repeat (with_reducible first | refine OnA.here ?_ | refine OnA.next ?_))) | (refine DOp.appsub_ rfl rfl rfl ?_;(repeat (with_reducible first | refine OnA.here ?_ | refine OnA.next ?_))))<;>(refine s_ ?_))
  | refine o_ ?_
  | refine f_ ?_
  | with_reducible intro b)
 all_goals first
 | (refine ⟨_,_,le.rfl_,⟨_,rfl,rfl⟩,?_⟩;(exact sub_);done)
 | (trace_state;fail)
end
theorem zfg {p:Prop} (h:p:=by first | exact sv | (refine ⟨?_,?_,fun j _=>⟨rfl,rfl⟩⟩<;>omega) | (simp [u8,V.one,V.n];omega) | (simp [u8,V.one,V.n]<;>fail) | fail):p:=h
section
attribute [local push_cast 2000] encB zaO
theorem zlX (ls:List YS) (F:Own):(ls.length<=100/\0<sumN ls/\sumN ls<=1000000)->DC Tryz.prog 153 [.sl (ls.map encB)] (([]:Own)++F) fun d G=>∃ v':Value,d = .ar v' (ls.flatten).length/\G = .arr 1 v' ((ls.flatten).map u8)::F:=by
 intro hA
 obtain ⟨hl,hs0,hs1⟩:=hA
 refine DC.bodyS (n_:=36) (show Tryz.prog.funcs[153]? = some Tryz.f153 by kernel_rfl) rfl rfl (by rfl) ?_
 simp only [env0,List.map_nil,List.cons_append,List.nil_append]
 have kw:=ksIs [0,2,3,5,6,8,9,10,11,12,20,25,26,27,28]
 have ow:=zaf []
 repeat' (first
  | ((with_reducible refine DW.loopB 0 (X:=Nat) (fun x=>x<=ls.length) (fun x=>[(0, .sl (ls.map encB)),(3, .int .i64 (sumN (ls.take x))),(9, .sl (ls.map encB)),(10, .int .i64 ls.length),(11, .int .i64 x)]) (fun x=>([]:Own)) (fun x=>ls.length - x) (0) ?_ ?_ ?_);exact (Nat.zero_le _);(simp [Sub,get,zaW,sumN_0,sumN_00]<;>fail);(try simp only [List.map_nil,List.cons_append,List.nil_append]);refine pl_ ?_;intro k hk;(try simp only [List.map_nil,List.cons_append,List.nil_append]);(try simp only at hk);have hsk:=zhc (ls:=ls) k;have hsk1:=zhc (ls:=ls) (k+1);have hgk:=zmu (ls:=ls) k;have hor:=sumN_or hk)
  | ((with_reducible refine DW.loopB 2 (X:=Nat×Value×YSw) (fun x=>x.1<=ls.length/\x.2.2=(ls.take x.1).flatten/\x.2.2.length<=sumN ls) (fun x=>[(6, .ar x.2.1 x.2.2.length),(25, .sl (ls.map encB)),(26, .int .i64 ls.length),(27, .int .i64 x.1)]) (fun x=>.arr 1 x.2.1 (x.2.2.map u8)::([]:Own)) (fun x=>ls.length - x.1) ((0,v1,[])) ?_ ?_ ?_);exact (⟨Nat.zero_le _,rfl,Nat.zero_le _⟩);(simp [Sub,get,zaW]<;>fail);(try simp only [List.map_nil,List.cons_append,List.nil_append]);refine pl_ ?_;intro ⟨i,v,x⟩ ⟨hi,hxe,hxl⟩;(try simp only [List.map_nil,List.cons_append,List.nil_append]);(try simp only at hi hxe hxl);have hsi:=zhc (ls:=ls) (i+1);have hgi:=zmu (ls:=ls) i)
  | refine g_ ?_
  | ((with_reducible refine And.intro ?_ ?_);(exact zfg))
  | (refine DW.cond (by rfl) ?_ ?_<;>(first | exact i0_ | (refine ic_ ?_;intro hb)))
  | ((with_reducible refine zaa ?_ ?_)<;>(intro hb;rw [hb];revert hb;(first | exact i0_ | (refine i_ ?_;intro hb))))
  | refine r_ ?_
  | refine k_ ?_
  | (refine p_ (grow_dc _ _) ?_ (ha:=by exact zfg);rintro d H1 ⟨v1,rfl,rfl⟩<;>refine s_ ?_)
  | refine o_ ?_
  | refine f_ ?_
  | with_reducible intro b)
 all_goals first
 | ((have e:=zqj (ls:=ls) (k:=k) (by omega));refine ⟨k+1,by (try simp only);omega,by (try simp only);omega,by simp [Sub,get,e],?_⟩;(exact sub_);done)
 | (refine ⟨(i+1,b,x++ls.getD i default),⟨by (try simp only);omega,?_,?_⟩,by (try simp only);omega,by simp [Sub,get],?_⟩;(focus ((try dsimp only);rw [zqg (by omega),<-hxe]));(focus ((try dsimp only);rw [hxe,<-zqg (by omega)];unfold sumN at hsi ⊢;exact hsi));((try dsimp only);(try rw [List.map_append]);(exact sub_));done)
 | ((have hii:i=ls.length:=by omega);(subst hii);(rw [List.take_length] at hxe);(subst hxe);refine ⟨_,_,le.rfl_,⟨_,rfl,rfl⟩,?_⟩;(exact sub_);done)
 | (trace_state;fail)
end
end
section
structure SendK (p:Pk):Prop where
 n:PkN p
 kind:p.kind=2\/p.kind=3\/p.kind=4\/p.kind=5\/p.kind=6\/p.kind=7\/p.kind=9\/p.kind=11\/p.kind=13
 only:onlyM p=p
theorem SendK.not {p:Pk} (h:SendK p):p.kind≠1/\p.kind≠8/\p.kind≠10:=by have:=h.kind;omega
theorem zee {p:Pk} (h:SendK p):p.subs=[]/\p.client=[]/\p.wtopic=[]/\p.wpay=[]/\p.user=[]/\p.pass=[]/\p.level=0/\p.keep=0/\p.wqos=0/\p.hasPass=false/\p.hasUser=false/\(p.kind≠3->p.topic=[]/\p.payload=[]/\p.qos=0)/\(p.kind≠2->p.present=false/\p.code=0)/\(p.kind≠9->p.codes=[]):=by
 have e:=h.only
 have hk:=h.kind
 have hn:=h.not
 unfold onlyM at e
 rw [if_neg hn.1] at e
 cases p
 simp only at e hk hn
 (repeat' split at e)<;>simp only [Pk.mk.injEq] at e<;>(obtain ⟨e1,e2,e3,e4,e5,e6,e7,e8,e9,e10,e11,e12,e13,e14,e15,e16,e17,e18,e19,e20,e21,e22,e23,e24⟩:=e)<;>subst_vars<;>simp_all<;>(try omega)<;>(repeat' apply And.intro)<;>(try rfl)
theorem zkY {p:Pk} (h:SendK p):zal p=(valM p&&decide ((zbi p).length<=8192)):=by
 obtain ⟨f1,f2,f3,f4,f5,f6,f7,f8,f9,f10,f11,f12,f13,f14⟩:=zee h
 have hk:=h.kind
 have hn:=h.not
 have hs:zer p (onlyM p)=true:=by rw [h.only];exact sameM_t rfl
 have t0:zdZ []=true:=by decide
 unfold zal preM valM
 rw [hs,f1,f2,f3,f4,f5,f6,f7,f8,f9,f10,f11,t0]
 have key:∀ a b c d e:Bool,(a&&b&&c&&d&&e)=(a&&(b&&c&&d&&e)):=by intro a b c d e;cases a<;>rfl
 rcases hk with k | k | k | k | k | k | k | k | k
 case inr.inl =>
  obtain ⟨g4,g5⟩:=f13 (by omega)
  rw [f14 (by omega),g4,g5]
  simp only [k,numM]
  cases inM p.id 1 65535<;>cases inM p.qos 0 2<;>cases zdZ p.topic<;>cases decide ((zbi p).length<=8192)<;>by_cases hq:0<p.qos<;>simp [inM,hq]
 case inl =>
  obtain ⟨g1,g2,g3⟩:=f12 (by omega)
  rw [f14 (by omega),g1,g3,t0]
  simp only [k,numM]
  cases p.present<;>by_cases hc:p.code=0<;>by_cases h1:0<=p.code<;>by_cases h2:p.code<=5<;>simp [inM,hc,h1,h2]<;>omega
 all_goals
  obtain ⟨g1,g2,g3⟩:=f12 (by omega)
  obtain ⟨g4,g5⟩:=f13 (by omega)
  rw [g1,g3,g4,g5,t0]
 case inr.inr.inr.inr.inr.inr.inl =>
  simp only [k,numM]
  cases inM p.id 1 65535<;>cases p.codes.all zcm<;>cases decide ((zbi p).length<=8192)<;>by_cases hc:p.codes.length=0<;>simp [inM,hc]<;>omega
 all_goals
  rw [f14 (by omega)]
  simp only [k,numM]
  cases inM p.id 1 65535<;>cases decide ((zbi p).length<=8192)<;>simp [inM]
theorem send13 {p:Pk} (h:SendK p) (k:p.kind=13):p=ackP 13 0:=by
 have e:=h.only
 unfold onlyM at e
 rw [k] at e
 rw [<-e];rfl
theorem numA {p:Pk} (h:p.kind=4\/p.kind=5\/p.kind=6\/p.kind=7\/p.kind=9\/p.kind=11):numM p=true:=by
 unfold numM;rw [if_neg (by omega)];simp;omega
theorem bodyA {p:Pk} (hs:SendK p) (h:p.kind=4\/p.kind=5\/p.kind=6\/p.kind=7\/p.kind=9\/p.kind=11):zbi p=twoM p.id++p.codes.map zbn:=by
 unfold zbi
 rw [if_neg (by omega),if_neg (by omega),if_neg (by omega),if_neg (by omega),(zee hs).1]
 simp [zim]
theorem zh3 (p:Pk) (F:Own):SendK p->DC Tryz.prog 151 [.agg [.int .i64 p.kind, .bool p.dup, .bool p.retain, .int .i64 p.qos, .int .i64 p.id, .str p.topic, .sl (p.payload.map u8), .int .i64 p.level, .str p.client, .bool p.clean, .int .i64 p.keep, .bool p.hasWill, .str p.wtopic, .sl (p.wpay.map u8), .int .i64 p.wqos, .bool p.wretain, .bool p.hasUser, .bool p.hasPass, .str p.user, .sl (p.pass.map u8), .bool p.present, .int .i64 p.code, .sl (p.subs.map encU), .sl (p.codes.map (V.int .i64))]] (([]:Own)++F) fun d G=>d = .sl ((zbi p).map u8)/\G=[]++F:=fun hs=>by
 obtain ⟨f1,_,_,_,_,_,_,_,_,_,_,f12,f13,f14⟩:=zee hs
 have frz:∀ {x:YS},x=zbi p->DC Tryz.prog 151 [.agg [.int .i64 p.kind, .bool p.dup, .bool p.retain, .int .i64 p.qos, .int .i64 p.id, .str p.topic, .sl (p.payload.map u8), .int .i64 p.level, .str p.client, .bool p.clean, .int .i64 p.keep, .bool p.hasWill, .str p.wtopic, .sl (p.wpay.map u8), .int .i64 p.wqos, .bool p.wretain, .bool p.hasUser, .bool p.hasPass, .str p.user, .sl (p.pass.map u8), .bool p.present, .int .i64 p.code, .sl (p.subs.map encU), .sl (p.codes.map (V.int .i64))]] (([]:Own)++F) (fun d G=>∃ v':Value,d = .ar v' x.length/\G = .arr 1 v' (x.map u8)::F)->DC Tryz.prog 151 [.agg [.int .i64 p.kind, .bool p.dup, .bool p.retain, .int .i64 p.qos, .int .i64 p.id, .str p.topic, .sl (p.payload.map u8), .int .i64 p.level, .str p.client, .bool p.clean, .int .i64 p.keep, .bool p.hasWill, .str p.wtopic, .sl (p.wpay.map u8), .int .i64 p.wqos, .bool p.wretain, .bool p.hasUser, .bool p.hasPass, .str p.user, .sl (p.pass.map u8), .bool p.present, .int .i64 p.code, .sl (p.subs.map encU), .sl (p.codes.map (V.int .i64))]] (([]:Own)++F) fun d G=>d = .sl ((zbi p).map u8)/\G=[]++F:=fun {x} hx h =>
  (DC.frz1 (Q:=fun y=>y=zbi p) (h.mono fun d G ⟨v,hd,hG⟩=>⟨v,x,hx,hd,hG⟩)).mono fun d G ⟨y,hy,hd,hG⟩=>by subst hy;exact ⟨hd,hG⟩
 rcases hs.kind with k | k | k | k | k | k | k | k | k
 case inl =>
  have e:zbi p=[zbn (if p.present=true then 1 else 0),zbn p.code]:=by unfold zbi;rw [if_neg (by omega),if_pos k]
  rw [e];exact wb2_dc p F k
 case inr.inl =>
  have g4:=f14 (by omega)
  cases hq:numM p with
  | true =>
   have hq0:=zpU hq
   exact frz (by unfold zbi;rw [if_neg (by omega),if_neg (by omega),if_pos k,if_pos (by omega)]) (wbQ_dc p F ⟨hs.n,k,by rw [f1];rfl,by rw [g4];rfl,hq⟩)
  | false =>
   have hq0:=zqm hq
   exact frz (by unfold zbi;rw [if_neg (by omega),if_neg (by omega),if_pos k,if_neg (by omega),List.append_nil]) (wbZ_dc p F ⟨hs.n,k,by rw [f1];rfl,by rw [g4];rfl,hq⟩)
 case inr.inr.inr.inr.inr.inr.inr.inr =>
  rw [send13 hs k]
  exact wb13_dc F trivial
 all_goals exact frz (bodyA hs (by omega)).symm (wbA_dc p F ⟨hs.n,by omega,by rw [f1];rfl,by rw [(f12 (by omega)).2.1];rfl,numA (by omega)⟩)
theorem zi0 (p:Pk) (F:Own):SendK p->DC Tryz.prog 198 [.agg [.int .i64 p.kind, .bool p.dup, .bool p.retain, .int .i64 p.qos, .int .i64 p.id, .str p.topic, .sl (p.payload.map u8), .int .i64 p.level, .str p.client, .bool p.clean, .int .i64 p.keep, .bool p.hasWill, .str p.wtopic, .sl (p.wpay.map u8), .int .i64 p.wqos, .bool p.wretain, .bool p.hasUser, .bool p.hasPass, .str p.user, .sl (p.pass.map u8), .bool p.present, .int .i64 p.code, .sl (p.subs.map encU), .sl (p.codes.map (V.int .i64))]] (([]:Own)++F) fun d G=>d = .agg [.int .i64 p.kind, .bool p.dup, .bool p.retain, .int .i64 p.qos, .int .i64 p.id, .str p.topic, .sl (p.payload.map u8), .int .i64 p.level, .str p.client, .bool p.clean, .int .i64 p.keep, .bool p.hasWill, .str p.wtopic, .sl (p.wpay.map u8), .int .i64 p.wqos, .bool p.wretain, .bool p.hasUser, .bool p.hasPass, .str p.user, .sl (p.pass.map u8), .bool p.present, .int .i64 p.code, .sl (p.subs.map encU), .sl (p.codes.map (V.int .i64))]/\G=[]++F:=fun hs=>by
 have:=zp2 p F trivial
 rwa [hs.only] at this
theorem zl7 (p:Pk) (F:Own):True->DC Tryz.prog 154 [.agg [.int .i64 p.kind, .bool p.dup, .bool p.retain, .int .i64 p.qos, .int .i64 p.id, .str p.topic, .sl (p.payload.map u8), .int .i64 p.level, .str p.client, .bool p.clean, .int .i64 p.keep, .bool p.hasWill, .str p.wtopic, .sl (p.wpay.map u8), .int .i64 p.wqos, .bool p.wretain, .bool p.hasUser, .bool p.hasPass, .str p.user, .sl (p.pass.map u8), .bool p.present, .int .i64 p.code, .sl (p.subs.map encU), .sl (p.codes.map (V.int .i64))]] (([]:Own)++F) fun d G=>d = .int .u8 (((ze8 p).toNat:Nat):Int)/\G=[]++F:=fun h=>znO p F h
theorem zlz (c:UInt8) (y z:YS) (F:Own):(y.length<=100000/\z.length<=100000)->DC Tryz.prog 153 [.sl [.sl [.int .u8 ((c.toNat:Nat):Int)], .sl (y.map u8), .sl (z.map u8)]] (([]:Own)++F) fun d G=>∃ v':Value,d = .ar v' (c::(y++z)).length/\G = .arr 1 v' ((c::(y++z)).map u8)::F:=fun ⟨hy,hz⟩=>by
 have e:([[c],y,z]:List YS).flatten=c::(y++z):=by simp
 have h:=zlX [[c],y,z] F ⟨by simp,by unfold sumN;rw [e];simp,by unfold sumN;rw [e];simp;omega⟩
 rw [e] at h
 exact h
attribute [local irreducible] DW SeqD DV DOp DC DVX DVJ onlyM preM zal valM zbi ze8 varM putM
theorem zbp {p:Prop} (h:p:=by first | exact sv | exact hs | exact hs.n | exact ⟨hs.n,hs.not⟩ | fail):p:=h
theorem zgg {P Q:Prop} (q:Q) (h:Hid Q->P:=by (intro q;simp (maxSteps:=1000000) (disch:=omega) only [push_cast,↓reduceIte,reduceCtorEq,Nat.reduceAdd,Nat.reduceMul,Nat.reduceLT,Nat.reduceLeDiff,Nat.reduceEqDiff,Nat.reduceSub,Int.reduceToNat,Int.reduceLT,Int.reduceLE,Int.reduceAdd,Int.reduceSub,Int.reduceMul,Int.reduceNeg,Nat.reduceBEq,Int.reduceBEq,Int.reduceBNe,Nat.reduceBNe,Int.reduceEq,hin,hval];exact q.1)):P:=h ⟨q⟩
theorem znr (p:Pk) (F:Own):(SendK p)->DC Tryz.prog 150 [.agg [.int .i64 p.kind, .bool p.dup, .bool p.retain, .int .i64 p.qos, .int .i64 p.id, .str p.topic, .sl (p.payload.map u8), .int .i64 p.level, .str p.client, .bool p.clean, .int .i64 p.keep, .bool p.hasWill, .str p.wtopic, .sl (p.wpay.map u8), .int .i64 p.wqos, .bool p.wretain, .bool p.hasUser, .bool p.hasPass, .str p.user, .sl (p.pass.map u8), .bool p.present, .int .i64 p.code, .sl (p.subs.map encU), .sl (p.codes.map (V.int .i64))]] ([knF,knA]++F) fun d G=>d = .bool (zal p)/\G=[knF,knA]++F:=by
 intro hA
 have hs:=hA
 refine DC.bodyS (n_:=22) (show Tryz.prog.funcs[150]? = some Tryz.f150 by kernel_rfl) rfl rfl (by rfl) ?_
 simp only [env0,List.cons_append,List.nil_append]
 have kw:=ksIs [0,1,2]
 have ow:=zaf []
 have dw1:=drIs 1 [] [1,2,4,5,6,7,10,11,14,15]
 have hin:inM p.kind 1 14=true:=by have:=hs.kind;unfold inM;simp;omega
 have hval:True:=trivial
 clear hval
 have hrs:=zkY hs
 rcases hval:valM p with _ | _
 all_goals skip
 repeat' (first
  | refine g_ ?_
  | ((with_reducible refine And.intro ?_ ?_);(exact zbp))
  | (refine DW.cond (by rfl) ?_ ?_<;>(first | exact i0_ | (intro hb;(try simp only [↓reduceCtorEq,not_true_eq_false,not_false_eq_true,hbs,Int.reduceBEq,Int.reduceBNe,Int.reduceEq] at hb);(try refine zgg ?_))))
  | ((with_reducible first | refine zaa ?_ ?_ | refine zai ?_ ?_)<;>(intro hb;rw [hb];revert hb;(first | exact i0_ | (intro hb;(try simp only [↓reduceCtorEq,not_true_eq_false,not_false_eq_true,hbs,Int.reduceBEq,Int.reduceBNe,Int.reduceEq] at hb);(try refine zgg ?_)))))
  | ((first | refine rn_ ?_ | refine dn_ ?_ | refine kn_ ?_)<;>(refine zgg ?_))
  | ((refine dm_ ?_);(first | ((first | refine v_ (zk4 _ _ _ _) ?_ (ha:=by exact zbp) (hk:=fun q=>q.1) | refine v_ (zk8 _ _) ?_ (ha:=by exact zbp) (hk:=fun q=>q.1) | refine v_ (zmY _ _) ?_ (ha:=by exact zbp) (hk:=fun q=>q.1));refine zgg ?_) | (refine v_ (zi0 _ _) ?_ (ha:=by exact zbp) (hk:=fun q=>q.1);refine zgg ?_) | (refine v_ (zh3 _ _) ?_ (ha:=by exact zbp) (hk:=fun q=>q.1);refine zgg ?_)))
  | ((refine von_ ?_);refine zgg ?_)
  | ((first | refine q_ (zk4 _ _ _ _) ?_ (ha:=by exact zbp) (hk:=fun q=>q.1) | refine q_ (zk8 _ _) ?_ (ha:=by exact zbp) (hk:=fun q=>q.1) | refine q_ (zmY _ _) ?_ (ha:=by exact zbp) (hk:=fun q=>q.1));refine zgg ?_)
  | (refine q_ (zi0 _ _) ?_ (ha:=by exact zbp) (hk:=fun q=>q.1);refine zgg ?_)
  | (refine q_ (zh3 _ _) ?_ (ha:=by exact zbp) (hk:=fun q=>q.1);refine zgg ?_)
  | ((refine on_ ?_);refine zgg ?_)
  | refine f_ ?_
  | refine vm_ ?_
  | with_reducible intro b)
 all_goals first
 | ((refine ⟨_,_,le.of_eq ?_,⟨rfl,rfl⟩,?_⟩);rotate_left;(exact sub_);(rw [hrs,hval]);(simp<;>done);done)
 | ((refine ⟨_,_,le.of_eq ?_,⟨rfl,rfl⟩,?_⟩);rotate_left;(exact sub_);(rw [hrs,hval]);congr 1;rw [Bool.eq_iff_iff];(simp<;>omega);done)
 | (trace_state;fail)
theorem zcn {p:Prop} (h:p:=by first | exact sv | exact hs | (have hl8:=zhH (p:=p) (by assumption);have hv4:=zdR (zbi p).length;have hz4:=zf6 (zbi p).length;omega) | (simp [u8,layV,V.flat,V.n]<;>fail) | fail):p:=h
theorem zgY {P Q:Prop} (q:Q) (h:Hid Q->P:=by (intro q;simp (maxSteps:=1000000) (disch:=omega) only [push_cast,↓reduceIte,reduceCtorEq,Nat.reduceAdd,Nat.reduceMul,Nat.reduceLT,Nat.reduceLeDiff,Nat.reduceEqDiff,Nat.reduceSub,Int.reduceToNat,Int.reduceLT,Int.reduceLE,Int.reduceAdd,Int.reduceSub,Int.reduceMul,Int.reduceNeg,Nat.reduceBEq,Int.reduceBEq,Int.reduceBNe,Nat.reduceBNe,Int.reduceEq,hrt];exact q.1)):P:=h ⟨q⟩
theorem zpF (p:Pk) (F:Own):(SendK p)->DC Tryz.prog 89 [.agg [.int .i64 p.kind, .bool p.dup, .bool p.retain, .int .i64 p.qos, .int .i64 p.id, .str p.topic, .sl (p.payload.map u8), .int .i64 p.level, .str p.client, .bool p.clean, .int .i64 p.keep, .bool p.hasWill, .str p.wtopic, .sl (p.wpay.map u8), .int .i64 p.wqos, .bool p.wretain, .bool p.hasUser, .bool p.hasPass, .str p.user, .sl (p.pass.map u8), .bool p.present, .int .i64 p.code, .sl (p.subs.map encU), .sl (p.codes.map (V.int .i64))]] ([knF,knA]++F) fun d G=>(∃ e:Int,(putM p=[]/\e=if zal p=true then 0 else 26)/\d = .tup [.gs (.slice none 0 0) [], .int .i64 e]/\G=[knF,knA]++F)\/∃ (v:Value) (x:YS) (e:Int),(putM p=x/\e=if zal p=true then 0 else 26)/\d = .tup [.ar v x.length, .int .i64 e]/\G = .arr 1 v (x.map u8)::([knF,knA]++F):=by
 intro hA
 have hs:=hA
 refine DC.bodyS (n_:=25) (show Tryz.prog.funcs[89]? = some Tryz.f89 by kernel_rfl) rfl rfl (by rfl) ?_
 simp only [env0,List.cons_append,List.nil_append]
 have kw:=ksIs [0,1,2,3,4,5,9]
 have ow:=zaf []
 have hrt:True:=trivial
 clear hrt
 rcases hrt:zal p with _ | _
 all_goals skip
 repeat' (first
  | refine g_ ?_
  | ((with_reducible refine And.intro ?_ ?_);(exact zcn))
  | (refine DW.cond (by rfl) ?_ ?_<;>(first | exact i0_ | (intro hb;(try simp only [↓reduceCtorEq,not_true_eq_false,not_false_eq_true,hbs,Int.reduceBEq,Int.reduceBNe,Int.reduceEq] at hb);(try refine zgY ?_))))
  | ((with_reducible refine zaa ?_ ?_)<;>(intro hb;rw [hb];revert hb;(first | exact i0_ | (intro hb;(try simp only [↓reduceCtorEq,not_true_eq_false,not_false_eq_true,hbs,Int.reduceBEq,Int.reduceBNe,Int.reduceEq] at hb);(try refine zgY ?_)))))
  | ((first | refine rn_ ?_ | refine kn_ ?_)<;>(refine zgY ?_))
  | (refine q_ (znr _ _) ?_ (ha:=by exact zcn) (hk:=fun q=>q.1);refine zgY ?_)
  | (refine q_ (zh3 _ _) ?_ (ha:=by exact zcn) (hk:=fun q=>q.1);refine zgY ?_)
  | (refine p_ (zpq _ _) ?_ (ha:=by exact zcn);rintro d H1 ⟨e1,he1,rfl,rfl⟩<;>refine zgY ?_)
  | (refine q_ (zl7 _ _) ?_ (ha:=by exact zcn) (hk:=fun q=>q.1);refine zgY ?_)
  | (refine p_ (zlz _ _ _ _) ?_ (ha:=by exact zcn);rintro d H1 ⟨v3,rfl,rfl⟩<;>refine zgY ?_)
  | ((refine on_ ?_);refine zgY ?_)
  | refine f_ ?_
  | with_reducible intro b)
 all_goals first
 | (refine ⟨_,_,le.rfl_, .inl ⟨26,⟨by unfold putM;rw [if_neg (by rw [hrt];decide)],by (try rw [hrt]);rfl⟩,rfl,rfl⟩,?_⟩;(exact sub_);done)
 | ((have e0:putM p=ze8 p::(varM (zbi p).length++zbi p):=by unfold putM;rw [if_pos hrt])
    refine ⟨_,_,le.of_eq ?_, .inr ⟨v3,ze8 p::(varM (zbi p).length++zbi p),0,⟨e0,by (try rw [hrt]);rfl⟩,rfl,rfl⟩,?_⟩;(focus (congr 2;simp));(simp only [List.map_cons];(exact sub_));done)
 | (trace_state;fail)
theorem wput_dc (p:Pk) (F:Own):SendK p->DC Tryz.prog 89 [.agg [.int .i64 p.kind, .bool p.dup, .bool p.retain, .int .i64 p.qos, .int .i64 p.id, .str p.topic, .sl (p.payload.map u8), .int .i64 p.level, .str p.client, .bool p.clean, .int .i64 p.keep, .bool p.hasWill, .str p.wtopic, .sl (p.wpay.map u8), .int .i64 p.wqos, .bool p.wretain, .bool p.hasUser, .bool p.hasPass, .str p.user, .sl (p.pass.map u8), .bool p.present, .int .i64 p.code, .sl (p.subs.map encU), .sl (p.codes.map (V.int .i64))]] ([knF,knA]++F) fun d G=>d = .tup [.sl ((putM p).map u8), .int .i64 (if zal p=true then 0 else 26)]/\G=[knF,knA]++F:=fun hs =>
by
 refine (DC.frzQ (F:=[knF,knA]++F) (Q:=fun x e=>putM p=x/\e=if zal p=true then 0 else 26) (zpF p F hs)).mono fun d G h=>?_
 obtain ⟨x,e,⟨h1,h2⟩,hd,hG⟩:=h
 subst h1;subst h2;exact ⟨hd,hG⟩
end
end Go.Proofs.YtgekknefphagbaaGreatDoor
