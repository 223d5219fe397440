/- The program's packets: values, the first byte, lengths. -/
import Derived.Test.YtgekknefphagbaaGreatDoorSvx
import Derived.KernelRfl
import Derived.Test.YtgekknefphagbaaGreatDoorNsx
import Derived.Test.YtgekknefphagbaaGreatDoorJax
namespace Go.Proofs.YtgekknefphagbaaGreatDoor
open Go.RowKit
set_option linter.unusedSimpArgs false
set_option linter.unusedVariables false
set_option linter.unusedSectionVars false
set_option maxHeartbeats 4000000
set_option maxRecDepth 100000
section
def valM (p:Pk):Bool:=(!numM p||inM p.id 1 65535)&&(if p.kind=2 then inM p.code 0 5&&(decide (p.code=0) || !p.present) else if p.kind=3 then inM p.qos 0 2&&zeE p.topic else if p.kind=9 then decide (0<p.codes.length)&&p.codes.all zdg else true)
theorem low7W:∀ r:Fin 256,IntKind.u8.wrap ((BitVec.ofInt IntKind.u8.bits ((r.val:Nat):Int) &&& ~~~ BitVec.ofInt IntKind.u8.bits 128).toNat:Int)=((r.val%128:Nat):Int):=by decide
theorem hi7W:∀ r:Fin 128,IntKind.u8.wrap ((BitVec.ofInt IntKind.u8.bits ((r.val:Nat):Int)|||BitVec.ofInt IntKind.u8.bits 128).toNat:Int)=((r.val+128:Nat):Int):=by decide
theorem sh7W (n:Int) (k:Nat) (h0:0<=n) (h1:n<268435456) (hk:k<=3):IntKind.u8.wrap ((BitVec.ofInt IntKind.u8.bits (IntKind.u8.wrap (n.fdiv (2 ^ min (7 * (k:Int)).toNat IntKind.i64.bits))) &&& ~~~ BitVec.ofInt IntKind.u8.bits 128).toNat:Int)=((n.toNat / 128 ^ k%128:Nat):Int):=by
 have e:=fdiv7 n.toNat k hk
 rw [Int.toNat_of_nonneg h0] at e
 rw [e]
 have e2:IntKind.u8.wrap ((n.toNat / 128 ^ k:Nat):Int)=((n.toNat / 128 ^ k%256:Nat):Int):=by simp [IntKind.wrap,IntKind.bits,IntKind.signed]
 rw [e2]
 have:=low7W ⟨n.toNat / 128 ^ k%256,Nat.mod_lt _ (by decide)⟩
 simp only at this
 rw [this,Nat.mod_mod_of_dvd _ (by decide)]
theorem or7W (r:Nat) (h:r<128):IntKind.u8.wrap ((BitVec.ofInt IntKind.u8.bits ((r:Nat):Int)|||BitVec.ofInt IntKind.u8.bits 128).toNat:Int)=((r+128:Nat):Int):=hi7W ⟨r,h⟩
theorem u8_of (r:Nat) (h:r<256):V.int .u8 ((r:Nat):Int)=u8 (zbw ((r:Nat):Int)):=u8_bW (by omega)
attribute [local irreducible] DW SeqD DV DOp DC DVX numM inM zeE zdg zdd varM
theorem wv1_dc (c:Int) (F:Own):(True)->DC Tryz.prog 252 [.int .i64 c] (([]:Own)++F) fun d G=>d = .bool (!zdg c)/\G=[]++F:=by
 intro hA
 refine DC.bodyS (n_:=10) (show Tryz.prog.funcs[252]? = some Tryz.f252 by kernel_rfl) rfl rfl (by rfl) ?_
 simp only [env0,List.cons_append,List.nil_append]
 have kw:=ksIs [0,2]
 have ow:=zai []
 repeat' (first
  | refine g_ ?_
  | ((with_reducible refine And.intro ?_ ?_);(exact sv))
  | (refine DW.cond (by rfl) ?_ ?_<;>(first | exact i0_ | (refine ic_ ?_;intro hb)))
  | ((with_reducible refine zaa ?_ ?_)<;>(intro hb;rw [hb];revert hb;(first | exact i0_ | (refine i_ ?_;intro hb))))
  | refine r_ ?_
  | refine k_ ?_
  | (refine q_ (zkX _ _ _ _) ?_)
  | refine o_ ?_
  | refine f_ ?_
  | with_reducible intro b)
 all_goals first
 | ((refine ⟨_,_,le.of_eq ?_,⟨rfl,rfl⟩,?_⟩);rotate_left;(exact sub_);congr 1;unfold zdg;rw [hb];rw [Bool.eq_iff_iff];(simp<;>done);done)
 | (trace_state;fail)
theorem wif_dc (l:List Int) (F:Own):(l.length<=1000000)->DC Tryz.prog 281 [.sl (l.map (V.int .i64)), .fn (.func 252) [] []] (([]:Own)++F) fun d G=>∃ i:Int,decide (i ≥ 0) = !l.all zdg/\d = .int .i64 i/\G=[]++F:=by
 intro hA
 have hl:=hA
 refine DC.bodyS (n_:=19) (show Tryz.prog.funcs[281]? = some Tryz.f281 by kernel_rfl) rfl rfl (by rfl) ?_
 simp only [env0,List.cons_append,List.nil_append]
 have kw:=ksIs [0,1,4,5,7,8,9,16]
 have ow:=zai []
 repeat' (first
  | ((with_reducible refine DW.loopB 0 (X:=Nat) (fun x=>x<=l.length/\(l.take x).all zdg=true) (fun x=>[(0, .sl (l.map (V.int .i64))),(1, .fn (.func 252) [] []),(7, .int .i64 l.length),(8, .int .i64 x)]) (fun x=>([]:Own)) (fun x=>l.length - x) (0) ?_ ?_ ?_);exact (⟨Nat.zero_le _,rfl⟩);(simp [Sub,get,zbn]<;>fail);(try simp only [List.cons_append,List.nil_append]);refine pl_ ?_;intro k ⟨hk,hks⟩;(try simp only [List.cons_append,List.nil_append]);(try simp only at hk hks))
  | refine g_ ?_
  | ((with_reducible refine And.intro ?_ ?_);(exact sv))
  | (refine DW.cond (by rfl) ?_ ?_<;>(first | exact i0_ | (refine ic_ ?_;intro hb)))
  | ((with_reducible refine zaa ?_ ?_)<;>(intro hb;rw [hb];revert hb;(first | exact i0_ | (refine i_ ?_;intro hb))))
  | refine r_ ?_
  | refine k_ ?_
  | (refine q_ (wv1_dc _ _) ?_)
  | refine o_ ?_
  | refine f_ ?_
  | with_reducible intro b)
 all_goals first
 | ((have hc:zdg (l.getD k default)=false:=by simpa using hb)
    refine ⟨_,_,le.rfl_,⟨(k:Int),?_,rfl,rfl⟩,SubP.refl⟩;(rw [zle (f:=zdg) (k:=k) (by omega) hc];simp;done))
 | ((have hc:zdg (l.getD k default)=true:=by simpa using hb)
    refine ⟨k+1,⟨by (try simp only);omega,zlq hks (by omega) hc⟩,by (try simp only);omega,by simp [Sub,get],?_⟩;((try dsimp only);(exact sub_));done)
 | ((have e:l.all zdg=true:=by rwa [List.take_of_length_le (by omega)] at hks)
    refine ⟨_,_,le.rfl_,⟨-1,?_,rfl,rfl⟩,SubP.refl⟩;(rw [e];rfl))
 | (trace_state;fail)
theorem wcf_dc (l:List Int) (F:Own):(l.length<=1000000)->DC Tryz.prog 251 [.sl (l.map (V.int .i64)), .fn (.func 252) [] []] (([]:Own)++F) fun d G=>d = .bool (!l.all zdg)/\G=[]++F:=by
 intro hA
 have hl:=hA
 refine DC.bodyS (n_:=9) (show Tryz.prog.funcs[251]? = some Tryz.f251 by kernel_rfl) rfl rfl (by rfl) ?_
 simp only [env0,List.cons_append,List.nil_append]
 have kw:=ksIs [0,1,4]
 have ow:=zai []
 repeat' (first
  | refine g_ ?_
  | ((with_reducible refine And.intro ?_ ?_);(exact sv))
  | (refine DW.cond (by rfl) ?_ ?_<;>(first | exact i0_ | (refine ic_ ?_;intro hb)))
  | ((with_reducible refine zaa ?_ ?_)<;>(intro hb;rw [hb];revert hb;(first | exact i0_ | (refine i_ ?_;intro hb))))
  | refine r_ ?_
  | refine k_ ?_
  | (refine p_ (wif_dc _ _) ?_;rintro d H1 ⟨i,hi,rfl,rfl⟩<;>refine s_ ?_)
  | refine o_ ?_
  | refine f_ ?_
  | with_reducible intro b)
 all_goals first
 | ((rw [<-hi]);(first | exact fin_ | refine finq_ ?_);done)
 | ((refine ⟨_,_,le.of_eq ?_,⟨rfl,rfl⟩,?_⟩);rotate_left;(exact sub_);(rw [<-hi]);done)
 | (trace_state;fail)
theorem zls {P Q:Prop} (q:Q) (h:Hid Q->P:=by (intro q;simp (maxSteps:=1000000) (disch:=omega) only [push_cast,↓reduceIte,reduceCtorEq,Nat.reduceAdd,Nat.reduceMul,Nat.reduceLT,Nat.reduceLeDiff,Nat.reduceEqDiff,Nat.reduceSub,Int.reduceToNat,Int.reduceLT,Int.reduceLE,Int.reduceAdd,Int.reduceSub,Int.reduceMul,Int.reduceNeg,Nat.reduceBEq,Int.reduceBEq,Int.reduceBNe,Nat.reduceBNe,Int.reduceEq,hnum];exact q.1)):P:=h ⟨q⟩
section
attribute [local push_cast 2000] List.append_eq List.cons_append List.nil_append
theorem zm0 (p:Pk) (F:Own):(PkN p/\(p.kind≠1/\p.kind≠8/\p.kind≠10))->DC Tryz.prog 199 [.agg [.int .i64 p.kind, .bool p.dup, .bool p.retain, .int .i64 p.qos, .int .i64 p.id, .str p.topic, .sl (p.payload.map u8), .int .i64 p.level, .str p.client, .bool p.clean, .int .i64 p.keep, .bool p.hasWill, .str p.wtopic, .sl (p.wpay.map u8), .int .i64 p.wqos, .bool p.wretain, .bool p.hasUser, .bool p.hasPass, .str p.user, .sl (p.pass.map u8), .bool p.present, .int .i64 p.code, .sl (p.subs.map encU), .sl (p.codes.map (V.int .i64))]] ([knF,knA]++F) fun d G=>d = .bool (valM p)/\G=[knF,knA]++F:=by
 intro hA
 obtain ⟨hp,hk1,hk8,hk10⟩:=hA
 refine DC.bodyS (n_:=114) (show Tryz.prog.funcs[199]? = some Tryz.f199 by kernel_rfl) rfl rfl (by rfl) ?_
 simp only [env0,List.cons_append,List.nil_append]
 have kw:=ksIs [0,1,2,10,12,13,67,82,92,97,102]
 have ow:=zai []
 have s2:=hp.codes;have h1:=hp.topic
 have hnum:True:=trivial
 clear hnum
 rcases hnum:numM p with _ | _
 all_goals skip
 repeat' (first
  | refine g_ ?_
  | ((with_reducible refine And.intro ?_ ?_);(exact sv))
  | (refine DW.cond (by rfl) ?_ ?_<;>(first | exact i0_ | (intro hb;(try simp only [↓reduceCtorEq,not_true_eq_false,not_false_eq_true,hbs,Int.reduceBEq,Int.reduceBNe,Int.reduceEq] at hb);(try refine zls ?_))))
  | ((with_reducible refine zaa ?_ ?_)<;>(intro hb;rw [hb];revert hb;(first | exact i0_ | (intro hb;(try simp only [↓reduceCtorEq,not_true_eq_false,not_false_eq_true,hbs,Int.reduceBEq,Int.reduceBNe,Int.reduceEq] at hb);(try refine zls ?_)))))
  | ((first | refine rn_ ?_ | refine kn_ ?_)<;>(refine zls ?_))
  | ((first | refine q_ (zeq _ _) ?_ (hk:=fun q=>q.1) | refine q_ (zkX _ _ _ _) ?_ (hk:=fun q=>q.1) | refine q_ (zpQ _ _) ?_ (hk:=fun q=>q.1));refine zls ?_)
  | (refine q_ (wcf_dc _ _) ?_ (hk:=fun q=>q.1);refine zls ?_)
  | ((refine on_ ?_);refine zls ?_)
  | refine f_ ?_
  | with_reducible intro b)
 all_goals first
 | ((refine ⟨_,_,le.of_eq ?_,⟨rfl,rfl⟩,?_⟩);rotate_left;(exact sub_);congr 1;unfold valM;rw [Bool.eq_iff_iff];(simp_all<;>omega);done)
 | ((refine ⟨_,_,le.of_eq ?_,⟨rfl,rfl⟩,?_⟩);rotate_left;(exact sub_);congr 1;unfold valM;(simp_all<;>omega);done)
 | (trace_state;fail)
end
theorem znr (p:Pk) (F:Own):(True)->DC Tryz.prog 154 [.agg [.int .i64 p.kind, .bool p.dup, .bool p.retain, .int .i64 p.qos, .int .i64 p.id, .str p.topic, .sl (p.payload.map u8), .int .i64 p.level, .str p.client, .bool p.clean, .int .i64 p.keep, .bool p.hasWill, .str p.wtopic, .sl (p.wpay.map u8), .int .i64 p.wqos, .bool p.wretain, .bool p.hasUser, .bool p.hasPass, .str p.user, .sl (p.pass.map u8), .bool p.present, .int .i64 p.code, .sl (p.subs.map encU), .sl (p.codes.map (V.int .i64))]] (([]:Own)++F) fun d G=>d=u8 (zj9 p)/\G=[]++F:=by
 intro hA
 refine DC.bodyS (n_:=29) (show Tryz.prog.funcs[154]? = some Tryz.f154 by kernel_rfl) rfl rfl (by rfl) ?_
 simp only [env0,List.cons_append,List.nil_append]
 have kw:=ksIs [0,1,2,3,5,6,10]
 have ow:=zai []
 have dw8:=drIs 8 [] [1,2,4,8,9]
 repeat' (first
  | refine g_ ?_
  | ((with_reducible refine And.intro ?_ ?_);(exact sv))
  | (refine DW.cond (by rfl) ?_ ?_<;>(first | exact i0_ | (refine ic_ ?_;intro hb)))
  | ((with_reducible first | refine zaa ?_ ?_ | refine zak ?_ ?_)<;>(intro hb;rw [hb];revert hb;(first | exact i0_ | (refine i_ ?_;intro hb))))
  | refine r_ ?_
  | refine d_ ?_
  | refine k_ ?_
  | ((refine dm_ ?_);(first | (refine v_ (zfF _ _ _) ?_)))
  | refine vo_ ?_
  | (refine q_ (zfF _ _ _) ?_)
  | refine o_ ?_
  | refine f_ ?_
  | refine vm_ ?_
  | with_reducible intro b)
 all_goals first
 | ((refine ⟨_,_,le.of_eq ?_,⟨rfl,rfl⟩,?_⟩);rotate_left;(exact sub_);(rw [zdz]);congr 1;unfold zj9 zqH;(simp only [*,↓reduceIte,Int.reduceEq,or_self,or_true,true_or,or_false,false_or,if_true,if_false]);(apply znC);(simp [IntKind.wrap,IntKind.bits,IntKind.signed]<;>omega);done)
 | (trace_state;fail)
theorem zps (n:Int) (F:Own):(True)->DC Tryz.prog 205 [.int .i64 n] (([]:Own)++F) fun d G=>d = .int .i64 (zdd n)/\G=[]++F:=by
 intro hA
 refine DC.bodyS (n_:=19) (show Tryz.prog.funcs[205]? = some Tryz.f205 by kernel_rfl) rfl rfl (by rfl) ?_
 simp only [env0,List.cons_append,List.nil_append]
 have kw:=ksIs [0,2,3,10,13,16]
 have ow:=zai []
 repeat' (first
  | refine g_ ?_
  | ((with_reducible refine And.intro ?_ ?_);(exact sv))
  | (refine DW.cond (by rfl) ?_ ?_<;>(first | exact i0_ | (refine ic_ ?_;intro hb)))
  | ((with_reducible refine zaa ?_ ?_)<;>(intro hb;rw [hb];revert hb;(first | exact i0_ | (refine i_ ?_;intro hb))))
  | refine r_ ?_
  | refine k_ ?_
  | refine o_ ?_
  | refine f_ ?_
  | with_reducible intro b)
 all_goals first
 | ((refine ⟨_,_,le.of_eq ?_,⟨rfl,rfl⟩,?_⟩);rotate_left;(exact sub_);congr 1;unfold zdd;(repeat' split)<;>(first | rfl | omega))
 | (trace_state;fail)
theorem zge {p:Prop} (h:p:=by first | exact sv | (refine ⟨?_,?_,fun _ _=>rfl⟩<;>omega) | fail):p:=h
theorem zpa (n:Int) (F:Own):(True)->DC Tryz.prog 152 [.int .i64 n] (([]:Own)++F) fun d G=>∃ e:Int,(zdd n≠0->e=0)/\d = .tup [.sl ((varM n).map u8), .int .i64 e]/\G=[]++F:=by
 intro hA
 refine DC.bodyS (n_:=34) (show Tryz.prog.funcs[152]? = some Tryz.f152 by kernel_rfl) rfl rfl (by rfl) ?_
 simp only [env0,List.cons_append,List.nil_append]
 have kw:=ksIs [0,2,3,4,5,6,7,11,12,13,14,25]
 have ow:=zai []
 have hz4:=zk3 n
 refine DW.tail0 1 ?_
 repeat' (first
  | ((with_reducible refine DW.loopB 0 (X:=Nat×Value×YSx) (fun x=>x.1<=zdd n/\x.2.2=(varM n).take x.1/\x.2.2.length=x.1) (fun x=>[(0, .int .i64 n),(4, .int .i64 (zdd n)),(5, .gs x.2.1 (x.2.2.map u8)),(12, .int .i64 (zdd n)),(13, .int .i64 x.1)]) (fun x=>.tail 1 x.2.1::([]:Own)) (fun x=>zdd n - x.1) ((0, .slice none 0 0,[])) ?_ ?_ ?_);exact (⟨Nat.zero_le _,rfl,rfl⟩);(simp [Sub,get,zbn]<;>fail);(try simp only [List.cons_append,List.nil_append]);refine pl_ ?_;intro ⟨k,v,x⟩ ⟨hk,hxe,hx⟩;(try simp only [List.cons_append,List.nil_append]);(try simp only at hk hxe hx))
  | refine g_ ?_
  | ((with_reducible refine And.intro ?_ ?_);(exact zge))
  | (refine DW.cond (by rfl) ?_ ?_<;>(first | exact i0_ | (refine ic_ ?_;intro hb)))
  | ((with_reducible refine zaa ?_ ?_)<;>(intro hb;rw [hb];revert hb;(first | exact i0_ | (refine i_ ?_;intro hb))))
  | refine r_ ?_
  | refine k_ ?_
  | (refine q_ (zps _ _) ?_ (ha:=by exact zge))
  | refine o_ ?_
  | refine f_ ?_
  | with_reducible intro b)
 all_goals first
 | ((have e0:varM n=[]:=List.eq_nil_of_length_eq_zero (by rw [zie];omega));(rw [e0]);refine ⟨_,_,le.tup (Les.cons (le.gs List.map_nil.symm) (Les.cons le.rfl_ Les.nil)),⟨_,(fun h=>absurd (by omega) h),rfl,rfl⟩,?_⟩;(exact sub_);done)
 | ((rw [List.take_of_length_le (by rw [zie];omega)] at hxe);(subst hxe);refine ⟨_,_,le.tup (Les.cons (le.gs rfl) (Les.cons le.rfl_ Les.nil)),⟨0,(fun _=>rfl),rfl,rfl⟩,?_⟩;(exact sub_);done)
 | ((obtain ⟨n0,n1⟩:=zkB (n:=n) (by omega));(rw [sh7W n k n0 n1 (by omega),or7W _ (Nat.mod_lt _ (by decide)),u8_of _ (by have:=Nat.mod_lt (n.toNat / 128 ^ k) (show 0<128 by decide);omega)]);refine ⟨(k+1,b,x++[zbw ((n.toNat / 128 ^ k%128+128:Nat):Int)]),⟨by (try simp only);omega,by (rw [var_hi (by omega),<-hxe]),by simp [hx]⟩,by (try simp only);omega,by simp [Sub,get],?_⟩;((try dsimp only);(exact sub_));done)
 | ((obtain ⟨n0,n1⟩:=zkB (n:=n) (by omega));(rw [sh7W n k n0 n1 (by omega),u8_of _ (by have:=Nat.mod_lt (n.toNat / 128 ^ k) (show 0<128 by decide);omega)]);refine ⟨(k+1,b,x++[zbw ((n.toNat / 128 ^ k%128:Nat):Int)]),⟨by (try simp only);omega,by (rw [var_lo (by omega) (by omega),<-hxe]),by simp [hx]⟩,by (try simp only);omega,by simp [Sub,get],?_⟩;((try dsimp only);(exact sub_));done)
 | (trace_state;fail)
end
section
theorem zfK (p:Pk) (F:Own):(p.kind=3)->DC Tryz.prog 203 [.agg [.int .i64 3, .bool p.dup, .bool p.retain, .int .i64 p.qos, .int .i64 p.id, .str p.topic, .sl (p.payload.map u8), .int .i64 p.level, .str p.client, .bool p.clean, .int .i64 p.keep, .bool p.hasWill, .str p.wtopic, .sl (p.wpay.map u8), .int .i64 p.wqos, .bool p.wretain, .bool p.hasUser, .bool p.hasPass, .str p.user, .sl (p.pass.map u8), .bool p.present, .int .i64 p.code, .sl (p.subs.map encU), .sl (p.codes.map (V.int .i64))]] (([]:Own)++F) fun d G=>d = .bool (numM p)/\G=[]++F:=fun h=>by
 have:=zeq p F trivial
 rwa [h] at this
attribute [local irreducible] DW SeqD DV DOp DC DVX
theorem zdI {p:Prop} (h:p:=by first | exact sv | (refine ⟨?_,?_⟩<;>((try simp only [List.length_append,List.length_cons,List.length_nil,zaZ,zbz,List.length_map])<;>omega)) | (refine ⟨?_,?_,?_⟩<;>((try simp only [List.length_append,List.length_cons,List.length_nil,zaZ,zbz,List.length_map])<;>omega)) | (simp [u8,V.one,V.n];omega) | (simp [u8,V.one,V.n]<;>fail) | fail):p:=h
theorem zd9 {P Q:Prop} (q:Q) (h:Hid Q->P:=by (intro q;simp (maxSteps:=1000000) (disch:=omega) only [push_cast,↓reduceIte,reduceCtorEq,Nat.reduceAdd,Nat.reduceMul,Nat.reduceLT,Nat.reduceLeDiff,Nat.reduceEqDiff,Nat.reduceSub,Int.reduceToNat,Int.reduceLT,Int.reduceLE,Int.reduceAdd,Int.reduceSub,Int.reduceMul,Int.reduceNeg,Nat.reduceBEq,Int.reduceBEq,Int.reduceBNe,Nat.reduceBNe,Int.reduceEq,hnum,hkd,hsub,hcod];exact q.1)):P:=h ⟨q⟩
section
attribute [local push_cast 2000] zip zja zaE zby zba zaZ zbz
theorem wbQ_dc (p:Pk) (F:Own):(PkN p/\p.kind=3/\p.subs.length=0/\p.codes.length=0/\numM p=true)->DC Tryz.prog 151 [.agg [.int .i64 p.kind, .bool p.dup, .bool p.retain, .int .i64 p.qos, .int .i64 p.id, .str p.topic, .sl (p.payload.map u8), .int .i64 p.level, .str p.client, .bool p.clean, .int .i64 p.keep, .bool p.hasWill, .str p.wtopic, .sl (p.wpay.map u8), .int .i64 p.wqos, .bool p.wretain, .bool p.hasUser, .bool p.hasPass, .str p.user, .sl (p.pass.map u8), .bool p.present, .int .i64 p.code, .sl (p.subs.map encU), .sl (p.codes.map (V.int .i64))]] (([]:Own)++F) fun d G=>∃ v':Value,d = .ar v' ((zcw p.topic++twoM p.id++p.payload)).length/\G = .arr 1 v' (((zcw p.topic++twoM p.id++p.payload)).map u8)::F:=by
 intro hA
 obtain ⟨hp,hkd,hsub,hcod,hnum⟩:=hA
 refine DC.bodyS (n_:=73) (show Tryz.prog.funcs[151]? = some Tryz.f151 by kernel_rfl) rfl rfl (by rfl) ?_
 simp only [env0,List.cons_append,List.nil_append]
 have kw:=ksIs [0,1,2,3,5,7,9,10,14,24,30,36,37,38,39,48,57,58,59,60]
 have ow:=zai []
 have dw6:=drIs 6 [] [1,2,5]
 have h1:=hp.topic;have h2:=hp.payload
 repeat' (first
  | ((with_reducible refine DW.loopB 1 (X:=Nat) (fun x=>x<=0) (fun x=>[(1, .sp [.int .i64 3, .bool p.dup, .bool p.retain, .int .i64 p.qos, .int .i64 p.id, .str p.topic, .sl (p.payload.map u8), .int .i64 p.level, .str p.client, .bool p.clean, .int .i64 p.keep, .bool p.hasWill, .str p.wtopic, .sl (p.wpay.map u8), .int .i64 p.wqos, .bool p.wretain, .bool p.hasUser, .bool p.hasPass, .str p.user, .sl (p.pass.map u8), .bool p.present, .int .i64 p.code, .sl (p.subs.map encU), .sl (p.codes.map (V.int .i64))]),(3, .ar v2 (zcw p.topic++twoM p.id).length),(36, .sl (p.subs.map encU)),(37, .int .i64 0),(38, .int .i64 x)]) (fun x=>.arr 1 v2 ((zcw p.topic++twoM p.id).map u8)::([]:Own)) (fun x=>0) (0) ?_ ?_ ?_);exact (Nat.zero_le _);(simp [Sub,get,zbn]<;>fail);(try simp only [List.cons_append,List.nil_append]);refine pl_ ?_;intro k hk;(try simp only [List.cons_append,List.nil_append]);(try simp only at hk))
  | ((with_reducible refine DW.loopB 3 (X:=Nat) (fun x=>x<=0) (fun x=>[(1, .sp [.int .i64 3, .bool p.dup, .bool p.retain, .int .i64 p.qos, .int .i64 p.id, .str p.topic, .sl (p.payload.map u8), .int .i64 p.level, .str p.client, .bool p.clean, .int .i64 p.keep, .bool p.hasWill, .str p.wtopic, .sl (p.wpay.map u8), .int .i64 p.wqos, .bool p.wretain, .bool p.hasUser, .bool p.hasPass, .str p.user, .sl (p.pass.map u8), .bool p.present, .int .i64 p.code, .sl (p.subs.map encU), .sl (p.codes.map (V.int .i64))]),(3, .ar v2 (zcw p.topic++twoM p.id).length),(57, .sl (p.codes.map (V.int .i64))),(58, .int .i64 0),(59, .int .i64 x)]) (fun x=>.arr 1 v2 ((zcw p.topic++twoM p.id).map u8)::([]:Own)) (fun x=>0) (0) ?_ ?_ ?_);exact (Nat.zero_le _);(simp [Sub,get,zbn]<;>fail);(try simp only [List.cons_append,List.nil_append]);refine pl_ ?_;intro i hi;(try simp only [List.cons_append,List.nil_append]);(try simp only at hi))
  | refine g_ ?_
  | ((with_reducible refine And.intro ?_ ?_);(exact zdI))
  | (refine DW.cond (by rfl) ?_ ?_<;>(first | exact i0_ | (intro hb;(try simp only [↓reduceCtorEq,not_true_eq_false,not_false_eq_true,hbs,Int.reduceBEq,Int.reduceBNe,Int.reduceEq] at hb);(try refine zd9 ?_))))
  | ((with_reducible first | refine zaa ?_ ?_ | refine zak ?_ ?_)<;>(intro hb;rw [hb];revert hb;(first | exact i0_ | (intro hb;(try simp only [↓reduceCtorEq,not_true_eq_false,not_false_eq_true,hbs,Int.reduceBEq,Int.reduceBNe,Int.reduceEq] at hb);(try refine zd9 ?_)))))
  | ((first | refine rn_ ?_ | refine dn_ ?_ | refine kn_ ?_)<;>(refine zd9 ?_))
  | ((refine dm_ ?_);(first | (refine v_ (zfK _ _) ?_ (ha:=by exact zdI) (hk:=fun q=>q.1);refine zd9 ?_)))
  | ((refine von_ ?_);refine zd9 ?_)
  | (refine q_ (zfK _ _) ?_ (ha:=by exact zdI) (hk:=fun q=>q.1);refine zd9 ?_)
  | (refine p_ (ziN _ _) ?_ (ha:=by exact zdI);rintro d H1 ⟨v1,rfl,rfl⟩<;>refine zd9 ?_)
  | (refine p_ (zmX _ _ _ _ _) ?_ (ha:=by exact zdI);rintro d H1 ⟨v2,rfl,rfl⟩<;>refine zd9 ?_)
  | ((refine on_ ?_);refine zd9 ?_)
  | refine f_ ?_
  | refine vm_ ?_
  | with_reducible intro b)
 all_goals first
 | ((rw [<-List.map_append]);(try rw [List.append_assoc]);(refine ⟨_,_,le.of_eq ?_,⟨b,rfl,rfl⟩,?_⟩);(focus (congr 1;omega));(exact sub_);done)
 | ((rw [<-List.map_append]);(try rw [List.append_assoc]);(refine ⟨_,_,le.of_eq ?_,⟨b,rfl,rfl⟩,?_⟩);(focus rfl);(exact sub_);done)
 | (trace_state;fail)
end
theorem zdR {p:Prop} (h:p:=by first | exact sv | (refine ⟨?_,?_⟩<;>((try simp only [List.length_append,List.length_cons,List.length_nil,zaZ,zbz,List.length_map])<;>omega)) | (refine ⟨?_,?_,?_⟩<;>((try simp only [List.length_append,List.length_cons,List.length_nil,zaZ,zbz,List.length_map])<;>omega)) | (simp [u8,V.one,V.n];omega) | (simp [u8,V.one,V.n]<;>fail) | fail):p:=h
section
attribute [local push_cast 2000] zip zja zaE zby zba zaZ zbz
theorem wbZ_dc (p:Pk) (F:Own):(PkN p/\p.kind=3/\p.subs.length=0/\p.codes.length=0/\numM p=false)->DC Tryz.prog 151 [.agg [.int .i64 p.kind, .bool p.dup, .bool p.retain, .int .i64 p.qos, .int .i64 p.id, .str p.topic, .sl (p.payload.map u8), .int .i64 p.level, .str p.client, .bool p.clean, .int .i64 p.keep, .bool p.hasWill, .str p.wtopic, .sl (p.wpay.map u8), .int .i64 p.wqos, .bool p.wretain, .bool p.hasUser, .bool p.hasPass, .str p.user, .sl (p.pass.map u8), .bool p.present, .int .i64 p.code, .sl (p.subs.map encU), .sl (p.codes.map (V.int .i64))]] (([]:Own)++F) fun d G=>∃ v':Value,d = .ar v' ((zcw p.topic++p.payload)).length/\G = .arr 1 v' (((zcw p.topic++p.payload)).map u8)::F:=by
 intro hA
 obtain ⟨hp,hkd,hsub,hcod,hnum⟩:=hA
 refine DC.bodyS (n_:=73) (show Tryz.prog.funcs[151]? = some Tryz.f151 by kernel_rfl) rfl rfl (by rfl) ?_
 simp only [env0,List.cons_append,List.nil_append]
 have kw:=ksIs [0,1,2,3,5,7,9,10,14,24,30,36,37,38,39,48,57,58,59,60]
 have ow:=zai []
 have dw6:=drIs 6 [] [1,2,5]
 have h1:=hp.topic;have h2:=hp.payload
 repeat' (first
  | ((with_reducible refine DW.loopB 1 (X:=Nat) (fun x=>x<=0) (fun x=>[(1, .sp [.int .i64 3, .bool p.dup, .bool p.retain, .int .i64 p.qos, .int .i64 p.id, .str p.topic, .sl (p.payload.map u8), .int .i64 p.level, .str p.client, .bool p.clean, .int .i64 p.keep, .bool p.hasWill, .str p.wtopic, .sl (p.wpay.map u8), .int .i64 p.wqos, .bool p.wretain, .bool p.hasUser, .bool p.hasPass, .str p.user, .sl (p.pass.map u8), .bool p.present, .int .i64 p.code, .sl (p.subs.map encU), .sl (p.codes.map (V.int .i64))]),(3, .ar v1 (zcw p.topic).length),(36, .sl (p.subs.map encU)),(37, .int .i64 0),(38, .int .i64 x)]) (fun x=>.arr 1 v1 ((zcw p.topic).map u8)::([]:Own)) (fun x=>0) (0) ?_ ?_ ?_);exact (Nat.zero_le _);(simp [Sub,get,zbn]<;>fail);(try simp only [List.cons_append,List.nil_append]);refine pl_ ?_;intro k hk;(try simp only [List.cons_append,List.nil_append]);(try simp only at hk))
  | ((with_reducible refine DW.loopB 3 (X:=Nat) (fun x=>x<=0) (fun x=>[(1, .sp [.int .i64 3, .bool p.dup, .bool p.retain, .int .i64 p.qos, .int .i64 p.id, .str p.topic, .sl (p.payload.map u8), .int .i64 p.level, .str p.client, .bool p.clean, .int .i64 p.keep, .bool p.hasWill, .str p.wtopic, .sl (p.wpay.map u8), .int .i64 p.wqos, .bool p.wretain, .bool p.hasUser, .bool p.hasPass, .str p.user, .sl (p.pass.map u8), .bool p.present, .int .i64 p.code, .sl (p.subs.map encU), .sl (p.codes.map (V.int .i64))]),(3, .ar v1 (zcw p.topic).length),(57, .sl (p.codes.map (V.int .i64))),(58, .int .i64 0),(59, .int .i64 x)]) (fun x=>.arr 1 v1 ((zcw p.topic).map u8)::([]:Own)) (fun x=>0) (0) ?_ ?_ ?_);exact (Nat.zero_le _);(simp [Sub,get,zbn]<;>fail);(try simp only [List.cons_append,List.nil_append]);refine pl_ ?_;intro i hi;(try simp only [List.cons_append,List.nil_append]);(try simp only at hi))
  | refine g_ ?_
  | ((with_reducible refine And.intro ?_ ?_);(exact zdR))
  | (refine DW.cond (by rfl) ?_ ?_<;>(first | exact i0_ | (intro hb;(try simp only [↓reduceCtorEq,not_true_eq_false,not_false_eq_true,hbs,Int.reduceBEq,Int.reduceBNe,Int.reduceEq] at hb);(try refine zd9 ?_))))
  | ((with_reducible first | refine zaa ?_ ?_ | refine zak ?_ ?_)<;>(intro hb;rw [hb];revert hb;(first | exact i0_ | (intro hb;(try simp only [↓reduceCtorEq,not_true_eq_false,not_false_eq_true,hbs,Int.reduceBEq,Int.reduceBNe,Int.reduceEq] at hb);(try refine zd9 ?_)))))
  | ((first | refine rn_ ?_ | refine dn_ ?_ | refine kn_ ?_)<;>(refine zd9 ?_))
  | ((refine dm_ ?_);(first | (refine v_ (zfK _ _) ?_ (ha:=by exact zdR) (hk:=fun q=>q.1);refine zd9 ?_)))
  | ((refine von_ ?_);refine zd9 ?_)
  | (refine q_ (zfK _ _) ?_ (ha:=by exact zdR) (hk:=fun q=>q.1);refine zd9 ?_)
  | (refine p_ (ziN _ _) ?_ (ha:=by exact zdR);rintro d H1 ⟨v1,rfl,rfl⟩<;>refine zd9 ?_)
  | (refine p_ (zmX _ _ _ _ _) ?_ (ha:=by exact zdR);rintro d H1 ⟨v2,rfl,rfl⟩<;>refine zd9 ?_)
  | ((refine on_ ?_);refine zd9 ?_)
  | refine f_ ?_
  | refine vm_ ?_
  | with_reducible intro b)
 all_goals first
 | ((rw [<-List.map_append]);(try rw [List.append_assoc]);(refine ⟨_,_,le.of_eq ?_,⟨b,rfl,rfl⟩,?_⟩);(focus (congr 1;omega));(exact sub_);done)
 | ((rw [<-List.map_append]);(try rw [List.append_assoc]);(refine ⟨_,_,le.of_eq ?_,⟨b,rfl,rfl⟩,?_⟩);(focus rfl);(exact sub_);done)
 | (trace_state;fail)
end
theorem zeN {p:Prop} (h:p:=by first | exact sv | (refine ⟨?_,?_⟩<;>((try simp only [List.length_append,List.length_cons,List.length_nil,zaZ,zbz,List.length_map])<;>omega)) | (refine ⟨?_,?_,?_⟩<;>((try simp only [List.length_append,List.length_cons,List.length_nil,zaZ,zbz,List.length_map])<;>omega)) | (simp [u8,V.one,V.n];omega) | (simp [u8,V.one,V.n]<;>fail) | fail):p:=h
theorem zex {P Q:Prop} (q:Q) (h:Hid Q->P:=by (intro q;simp (maxSteps:=1000000) (disch:=omega) only [push_cast,↓reduceIte,reduceCtorEq,Nat.reduceAdd,Nat.reduceMul,Nat.reduceLT,Nat.reduceLeDiff,Nat.reduceEqDiff,Nat.reduceSub,Int.reduceToNat,Int.reduceLT,Int.reduceLE,Int.reduceAdd,Int.reduceSub,Int.reduceMul,Int.reduceNeg,Nat.reduceBEq,Int.reduceBEq,Int.reduceBNe,Nat.reduceBNe,Int.reduceEq,hnum,hkd,hsub];exact q.1)):P:=h ⟨q⟩
section
attribute [local push_cast 2000] zip zja zaE zby zba zaZ zbz
theorem wbA_dc (p:Pk) (F:Own):(PkN p/\(p.kind=4\/p.kind=5\/p.kind=6\/p.kind=7\/p.kind=9\/p.kind=11)/\p.subs.length=0/\p.payload.length=0/\numM p=true)->DC Tryz.prog 151 [.agg [.int .i64 p.kind, .bool p.dup, .bool p.retain, .int .i64 p.qos, .int .i64 p.id, .str p.topic, .sl (p.payload.map u8), .int .i64 p.level, .str p.client, .bool p.clean, .int .i64 p.keep, .bool p.hasWill, .str p.wtopic, .sl (p.wpay.map u8), .int .i64 p.wqos, .bool p.wretain, .bool p.hasUser, .bool p.hasPass, .str p.user, .sl (p.pass.map u8), .bool p.present, .int .i64 p.code, .sl (p.subs.map encU), .sl (p.codes.map (V.int .i64))]] (([]:Own)++F) fun d G=>∃ v':Value,d = .ar v' ((twoM p.id++p.codes.map zbw)).length/\G = .arr 1 v' (((twoM p.id++p.codes.map zbw)).map u8)::F:=by
 intro hA
 obtain ⟨hp,hkk,hsub,hpl,hnum⟩:=hA
 refine DC.bodyS (n_:=73) (show Tryz.prog.funcs[151]? = some Tryz.f151 by kernel_rfl) rfl rfl (by rfl) ?_
 simp only [env0,List.cons_append,List.nil_append]
 have kw:=ksIs [0,1,2,3,5,7,9,10,14,24,30,36,37,38,39,48,57,58,59,60]
 have ow:=zai []
 have dw6:=drIs 6 [] [1,2,5]
 have s2:=hp.codes
 have hkd:True:=trivial
 repeat' (first
  | ((with_reducible refine DW.loopB 1 (X:=Nat) (fun x=>x<=0) (fun x=>[(1, .sp [.int .i64 p.kind, .bool p.dup, .bool p.retain, .int .i64 p.qos, .int .i64 p.id, .str p.topic, .sl (p.payload.map u8), .int .i64 p.level, .str p.client, .bool p.clean, .int .i64 p.keep, .bool p.hasWill, .str p.wtopic, .sl (p.wpay.map u8), .int .i64 p.wqos, .bool p.wretain, .bool p.hasUser, .bool p.hasPass, .str p.user, .sl (p.pass.map u8), .bool p.present, .int .i64 p.code, .sl (p.subs.map encU), .sl (p.codes.map (V.int .i64))]),(3, .ar v1 (twoM p.id).length),(36, .sl (p.subs.map encU)),(37, .int .i64 0),(38, .int .i64 x)]) (fun x=>.arr 1 v1 ((twoM p.id).map u8)::([]:Own)) (fun x=>0) (0) ?_ ?_ ?_);exact (Nat.zero_le _);(simp [Sub,get,zbn]<;>fail);(try simp only [List.cons_append,List.nil_append]);refine pl_ ?_;intro k hk;(try simp only [List.cons_append,List.nil_append]);(try simp only at hk))
  | ((with_reducible refine DW.loopB 3 (X:=Nat×Value×YSw) (fun x=>x.1<=p.codes.length/\x.2.2=twoM p.id++(p.codes.take x.1).map zbw/\x.2.2.length<=2+x.1) (fun x=>[(1, .sp [.int .i64 p.kind, .bool p.dup, .bool p.retain, .int .i64 p.qos, .int .i64 p.id, .str p.topic, .sl (p.payload.map u8), .int .i64 p.level, .str p.client, .bool p.clean, .int .i64 p.keep, .bool p.hasWill, .str p.wtopic, .sl (p.wpay.map u8), .int .i64 p.wqos, .bool p.wretain, .bool p.hasUser, .bool p.hasPass, .str p.user, .sl (p.pass.map u8), .bool p.present, .int .i64 p.code, .sl (p.subs.map encU), .sl (p.codes.map (V.int .i64))]),(3, .ar x.2.1 x.2.2.length),(57, .sl (p.codes.map (V.int .i64))),(58, .int .i64 p.codes.length),(59, .int .i64 x.1)]) (fun x=>.arr 1 x.2.1 (x.2.2.map u8)::([]:Own)) (fun x=>p.codes.length - x.1) ((0,v1,twoM p.id)) ?_ ?_ ?_);exact (⟨Nat.zero_le _,by simp,by simp [zaZ]⟩);(simp [Sub,get,zbn]<;>fail);(try simp only [List.cons_append,List.nil_append]);refine pl_ ?_;intro ⟨i,z,m⟩ ⟨hi,hme,hmi⟩;(try simp only [List.cons_append,List.nil_append]);(try simp only at hi hme hmi))
  | refine g_ ?_
  | ((with_reducible refine And.intro ?_ ?_);(exact zeN))
  | (refine DW.cond (by rfl) ?_ ?_<;>(first | exact i0_ | (intro hb;(try simp only [↓reduceCtorEq,not_true_eq_false,not_false_eq_true,hbs,Int.reduceBEq,Int.reduceBNe,Int.reduceEq] at hb);(try refine zex ?_))))
  | ((with_reducible first | refine zaa ?_ ?_ | refine zak ?_ ?_)<;>(intro hb;rw [hb];revert hb;(first | exact i0_ | (intro hb;(try simp only [↓reduceCtorEq,not_true_eq_false,not_false_eq_true,hbs,Int.reduceBEq,Int.reduceBNe,Int.reduceEq] at hb);(try refine zex ?_)))))
  | ((first | refine rn_ ?_ | refine dn_ ?_ | refine kn_ ?_)<;>(refine zex ?_))
  | ((refine dm_ ?_);(first | (refine v_ (zeq _ _) ?_ (ha:=by exact zeN) (hk:=fun q=>q.1);refine zex ?_)))
  | ((refine von_ ?_);refine zex ?_)
  | (refine q_ (zeq _ _) ?_ (ha:=by exact zeN) (hk:=fun q=>q.1);refine zex ?_)
  | (refine p_ (zkC _ _) ?_ (ha:=by exact zeN);rintro d H1 ⟨v1,rfl,rfl⟩<;>refine zex ?_)
  | ((refine on_ ?_);refine zex ?_)
  | refine f_ ?_
  | refine vm_ ?_
  | with_reducible intro b)
 all_goals first
 | ((have hii:i=p.codes.length:=by omega);(subst hii);(rw [List.take_of_length_le (Nat.le_refl _)] at hme);(rw [List.length_eq_zero_iff.1 hpl]);(simp only [List.map_nil,List.append_nil,List.length_nil,Nat.add_zero]);(rw [hme]);(refine ⟨_,_,le.of_eq ?_,⟨b,rfl,rfl⟩,?_⟩);(focus (congr 1;simp [zaZ]));(exact sub_);done)
 | (refine ⟨(i+1,b,m++[zbw (p.codes.getD i default)]),⟨by (try simp only);omega,by (rw [codes_s (by omega),hme];simp),by ((try simp only [List.length_append,List.length_cons,List.length_nil,zaZ,zbz,List.length_map])<;>omega)⟩,by (try simp only);omega,by simp [Sub,get],?_⟩;((try dsimp only);(exact sub_));done)
 | (trace_state;fail)
end
theorem zfW {p:Prop} (h:p:=by first | exact sv | (refine ⟨?_,?_⟩<;>((try simp only [List.length_append,List.length_cons,List.length_nil,zaZ,zbz,List.length_map])<;>omega)) | (refine ⟨?_,?_,?_⟩<;>((try simp only [List.length_append,List.length_cons,List.length_nil,zaZ,zbz,List.length_map])<;>omega)) | (simp [u8,V.one,V.n];omega) | (simp [u8,V.one,V.n]<;>fail) | fail):p:=h
section
attribute [local push_cast 2000] zip zja zaE zby zba zaZ zbz
theorem wb2_dc (p:Pk) (F:Own):(p.kind=2)->DC Tryz.prog 151 [.agg [.int .i64 p.kind, .bool p.dup, .bool p.retain, .int .i64 p.qos, .int .i64 p.id, .str p.topic, .sl (p.payload.map u8), .int .i64 p.level, .str p.client, .bool p.clean, .int .i64 p.keep, .bool p.hasWill, .str p.wtopic, .sl (p.wpay.map u8), .int .i64 p.wqos, .bool p.wretain, .bool p.hasUser, .bool p.hasPass, .str p.user, .sl (p.pass.map u8), .bool p.present, .int .i64 p.code, .sl (p.subs.map encU), .sl (p.codes.map (V.int .i64))]] (([]:Own)++F) fun d G=>d = .sl ([zbw (if p.present=true then 1 else 0),zbw p.code].map u8)/\G=[]++F:=by
 intro hA
 have hkd:=hA
 refine DC.bodyS (n_:=73) (show Tryz.prog.funcs[151]? = some Tryz.f151 by kernel_rfl) rfl rfl (by rfl) ?_
 simp only [env0,List.cons_append,List.nil_append]
 have kw:=ksIs [0,1,2,3,5,7,9,10,14,24,30,36,37,38,39,48,57,58,59,60]
 have ow:=zai []
 have dw6:=drIs 6 [] [1,2,5]
 have hnum:True:=trivial
 have hsub:True:=trivial
 repeat' (first
  | refine g_ ?_
  | ((with_reducible refine And.intro ?_ ?_);(exact zfW))
  | (refine DW.cond (by rfl) ?_ ?_<;>(first | exact i0_ | (intro hb;(try simp only [↓reduceCtorEq,not_true_eq_false,not_false_eq_true,hbs,Int.reduceBEq,Int.reduceBNe,Int.reduceEq] at hb);(try refine zex ?_))))
  | ((with_reducible first | refine zaa ?_ ?_ | refine zak ?_ ?_)<;>(intro hb;rw [hb];revert hb;(first | exact i0_ | (intro hb;(try simp only [↓reduceCtorEq,not_true_eq_false,not_false_eq_true,hbs,Int.reduceBEq,Int.reduceBNe,Int.reduceEq] at hb);(try refine zex ?_)))))
  | ((first | refine rn_ ?_ | refine dn_ ?_ | refine kn_ ?_)<;>(refine zex ?_))
  | ((refine dm_ ?_);(first | (refine v_ (zfF _ _ _) ?_ (ha:=by exact zfW) (hk:=fun q=>q.1);refine zex ?_)))
  | ((refine von_ ?_);refine zex ?_)
  | (refine q_ (zfF _ _ _) ?_ (ha:=by exact zfW) (hk:=fun q=>q.1);refine zex ?_)
  | ((refine on_ ?_);refine zex ?_)
  | refine f_ ?_
  | refine vm_ ?_
  | with_reducible intro b)
 all_goals first
 | ((rw [show V.int .u8 (if p.present=true then 1 else 0)=u8 (zbw (if p.present=true then 1 else 0)) from u8_bW (by split<;>omega),zdz]);(first | exact fin_ | refine finq_ ?_);done)
 | (trace_state;fail)
end
theorem zkV (F:Own):True->DC Tryz.prog 203 [.agg [.int .i64 13, .bool false, .bool false, .int .i64 0, .int .i64 0, .str [], .sl [], .int .i64 0, .str [], .bool false, .int .i64 0, .bool false, .str [], .sl [], .int .i64 0, .bool false, .bool false, .bool false, .str [], .sl [], .bool false, .int .i64 0, .sl [], .sl []]] (([]:Own)++F) fun d G=>d = .bool false/\G=[]++F:=fun _=>zeq (ackP 13 0) F trivial
theorem wb13_dc  (F:Own):(True)->DC Tryz.prog 151 [.agg [.int .i64 13, .bool false, .bool false, .int .i64 0, .int .i64 0, .str [], .sl [], .int .i64 0, .str [], .bool false, .int .i64 0, .bool false, .str [], .sl [], .int .i64 0, .bool false, .bool false, .bool false, .str [], .sl [], .bool false, .int .i64 0, .sl [], .sl []]] (([]:Own)++F) fun d G=>d = .sl []/\G=[]++F:=by
 intro hA
 refine DC.bodyS (n_:=73) (show Tryz.prog.funcs[151]? = some Tryz.f151 by kernel_rfl) rfl rfl (by rfl) ?_
 simp only [env0,List.cons_append,List.nil_append]
 have kw:=ksIs [0,1,2,3,5,7,9,10,14,24,30,36,37,38,39,48,57,58,59,60]
 have ow:=zai []
 have dw6:=drIs 6 [] [1,2,5]
 repeat' (first
  | ((with_reducible refine DW.loopB 1 (X:=Nat) (fun x=>x<=0) (fun x=>[(1, .sp [.int .i64 13, .bool false, .bool false, .int .i64 0, .int .i64 0, .str [], .sl [], .int .i64 0, .str [], .bool false, .int .i64 0, .bool false, .str [], .sl [], .int .i64 0, .bool false, .bool false, .bool false, .str [], .sl [], .bool false, .int .i64 0, .sl [], .sl []]),(3, .gs (.slice none 0 0) []),(36, .sl []),(37, .int .i64 0),(38, .int .i64 x)]) (fun x=>([]:Own)) (fun x=>0) (0) ?_ ?_ ?_);exact (Nat.zero_le _);(simp [Sub,get,zbn]<;>fail);(try simp only [List.cons_append,List.nil_append]);refine pl_ ?_;intro k hk;(try simp only [List.cons_append,List.nil_append]);(try simp only at hk))
  | ((with_reducible refine DW.loopB 3 (X:=Nat) (fun x=>x<=0) (fun x=>[(1, .sp [.int .i64 13, .bool false, .bool false, .int .i64 0, .int .i64 0, .str [], .sl [], .int .i64 0, .str [], .bool false, .int .i64 0, .bool false, .str [], .sl [], .int .i64 0, .bool false, .bool false, .bool false, .str [], .sl [], .bool false, .int .i64 0, .sl [], .sl []]),(3, .gs (.slice none 0 0) []),(57, .sl []),(58, .int .i64 0),(59, .int .i64 x)]) (fun x=>([]:Own)) (fun x=>0) (0) ?_ ?_ ?_);exact (Nat.zero_le _);(simp [Sub,get,zbn]<;>fail);(try simp only [List.cons_append,List.nil_append]);refine pl_ ?_;intro k hk;(try simp only [List.cons_append,List.nil_append]);(try simp only at hk))
  | refine g_ ?_
  | ((with_reducible refine And.intro ?_ ?_);(exact sv))
  | (refine DW.cond (by rfl) ?_ ?_<;>(first | exact i0_ | (refine ic_ ?_;intro hb)))
  | ((with_reducible first | refine zaa ?_ ?_ | refine zak ?_ ?_)<;>(intro hb;rw [hb];revert hb;(first | exact i0_ | (refine i_ ?_;intro hb))))
  | refine r_ ?_
  | refine d_ ?_
  | refine k_ ?_
  | ((refine dm_ ?_);(first | (refine v_ (zkV _) ?_)))
  | refine vo_ ?_
  | (refine q_ (zkV _) ?_)
  | refine o_ ?_
  | refine f_ ?_
  | refine vm_ ?_
  | with_reducible intro b)
 (first | exact fin_ | refine finq_ ?_)
 all_goals rfl
end
section
theorem zqd:capI (.slice none 0 0)=0:=rfl
def encB (l:YS):V:=.sl (l.map u8)
def sumN (ls:List YS):Nat:=ls.flatten.length
theorem zqF {ls:List YS} {k:Nat} (h:k<ls.length):sumN (ls.take (k+1))=sumN (ls.take k)+(ls.getD k default).length:=by
 unfold sumN;rw [zhK h,List.flatten_append,List.length_append];simp
theorem zq8 {ls:List YS} {k:Nat} (h:k<ls.length):(ls.take (k+1)).flatten=(ls.take k).flatten++ls.getD k default:=by
 rw [zhK h,List.flatten_append];simp
theorem zhL {ls:List YS} (k:Nat):sumN (ls.take k)<=sumN ls:=by
 unfold sumN
 conv=>rhs;rw [<-List.take_append_drop k ls,List.flatten_append,List.length_append]
 omega
theorem sumN_or {ls:List YS} {k:Nat} (h:k<=ls.length):k<ls.length\/sumN (ls.take k)=sumN ls:=by
 rcases Nat.lt_or_ge k ls.length with h1 | h1
 · exact .inl h1
 · exact .inr (by rw [List.take_of_length_le h1])
theorem zmW {ls:List YS} (k:Nat):(ls.getD k default).length<=sumN ls:=by
 rcases Nat.lt_or_ge k ls.length with h | h
 · have:=zqF h;have:=zhL (ls:=ls) (k+1);omega
 · rw [List.getD_eq_getElem?_getD,List.getElem?_eq_none h];exact Nat.zero_le _
theorem sumN_0 (ls:List YS):sumN (ls.take 0)=0:=rfl
theorem sumN_00:sumN []=0:=rfl
attribute [local irreducible] DW SeqD DV DOp DC DVX DVJ sumN
section
attribute [local push_cast 2000] zqd AppZ Int.sub_zero Int.zero_add Nat.zero_add zia zjr zhS zjo Nat.sub_zero List.drop_zero List.take_zero
theorem grow_dc (n:Int) (F:Own):(0<n/\n<=1000000)->DC Tryz.prog 206 [.gs (.slice none 0 0) [], .int .i64 n] (([]:Own)++F) fun d G=>∃ v,d = .ar v 0/\G = .arr 1 v []::F:=by
 intro hA
 obtain ⟨hn0,hn1⟩:=hA
 refine DC.bodyS (n_:=27) (show Tryz.prog.funcs[206]? = some Tryz.f206 by kernel_rfl) rfl rfl (by rfl) ?_
 simp only [env0,List.cons_append,List.nil_append]
 have kw:=ksIs [0,1,4,6,16]
 have ow:=zai []
 repeat' (first
  | ((fail_if_success (have zz:=hown));(refine DW.own0 1 0 (by rfl) ?_);(simp only [zdu,zez,Nat.reduceEqDiff,↓reduceIte,if_true,if_false,reduceCtorEq]);(have hown:True:=trivial))
  | ((with_reducible apply DW.preR 6 0);(focus (exact rfl));(repeat (with_reducible first | refine OnA.here ?_ | refine OnA.next ?_));(refine ⟨⟨rfl,by simp⟩,?_⟩);(with_reducible intro v2);(simp only [zdu,zez,Nat.reduceEqDiff,↓reduceIte,if_true,if_false,reduceCtorEq,Nat.zero_mul,List.take_zero]))
  | refine g_ ?_
  | ((with_reducible refine And.intro ?_ ?_);(exact sv))
  | (refine DW.cond (by rfl) ?_ ?_<;>(first | exact i0_ | (refine ic_ ?_;intro hb)))
  | ((with_reducible refine zaa ?_ ?_)<;>(intro hb;rw [hb];revert hb;(first | exact i0_ | (refine i_ ?_;intro hb))))
  | refine k_ ?_
  | ((with_reducible refine DW.regK [0,1,4,6,16] (by kernel_rfl) ?_)<;>(refine s_ ?_))
  | ((first | ((with_reducible refine SeqD.op rfl ?_);(first | (refine DOp.slicea_ rfl rfl ?_) | (refine DOp.capa_ rfl rfl ?_) | (refine DOp.lensub_ rfl rfl ?_) | (refine DOp.copyaa2_ rfl rfl rfl ?_;(repeat (with_reducible first | refine OnA.here ?_ | refine OnA.next ?_));(repeat (with_reducible first | refine OnA.here ?_ | refine OnA.next ?_))) | (refine DOp.copyas2_ rfl rfl rfl ?_;(repeat (with_reducible first | refine OnA.here ?_ | refine OnA.next ?_))) | (refine DOp.cleara2_ rfl rfl ?_;(repeat (with_reducible first | refine OnA.here ?_ | refine OnA.next ?_))) | (refine DOp.appsubz_ rfl rfl rfl ?_;(repeat (with_reducible first | refine OnA.here ?_ | refine OnA.next ?_))) | (refine DOp.appsub_ rfl rfl rfl ?_;(repeat (with_reducible first | refine OnA.here ?_ | refine OnA.next ?_))) | (refine on_ ?_))) | (refine SeqD.opP rfl ?_) | (refine DOp.slicea_ rfl rfl ?_) | (refine DOp.capa_ rfl rfl ?_) | (refine DOp.lensub_ rfl rfl ?_) | (refine DOp.copyaa2_ rfl rfl rfl ?_;(repeat (with_reducible first | refine OnA.here ?_ | refine OnA.next ?_));(repeat (with_reducible first | refine OnA.here ?_ | refine OnA.next ?_))) | (refine DOp.copyas2_ rfl rfl rfl ?_;(repeat (with_reducible first | refine OnA.here ?_ | refine OnA.next ?_))) | (refine DOp.cleara2_ rfl rfl ?_;(repeat (with_reducible first | refine OnA.here ?_ | refine OnA.next ?_))) | (refine DOp.appsubz_ rfl rfl rfl ?_;(repeat (with_reducible first | refine OnA.here ?_ | refine OnA.next ?_))) | (refine DOp.appsub_ rfl rfl rfl ?_;(repeat (with_reducible first | refine OnA.here ?_ | refine OnA.next ?_))))<;>(refine s_ ?_))
  | refine o_ ?_
  | refine f_ ?_
  | with_reducible intro b)
 all_goals first
 | (refine ⟨_,_,le.rfl_,⟨_,rfl,rfl⟩,?_⟩;(exact sub_);done)
 | (trace_state;fail)
end
theorem zf5 {p:Prop} (h:p:=by first | exact sv | (refine ⟨?_,?_,fun j _=>⟨rfl,rfl⟩⟩<;>omega) | (simp [u8,V.one,V.n];omega) | (simp [u8,V.one,V.n]<;>fail) | fail):p:=h
section
attribute [local push_cast 2000] encB zaE
theorem znq (ls:List YS) (F:Own):(ls.length<=100/\0<sumN ls/\sumN ls<=1000000)->DC Tryz.prog 153 [.sl (ls.map encB)] (([]:Own)++F) fun d G=>∃ v':Value,d = .ar v' (ls.flatten).length/\G = .arr 1 v' ((ls.flatten).map u8)::F:=by
 intro hA
 obtain ⟨hl,hs0,hs1⟩:=hA
 refine DC.bodyS (n_:=36) (show Tryz.prog.funcs[153]? = some Tryz.f153 by kernel_rfl) rfl rfl (by rfl) ?_
 simp only [env0,List.map_nil,List.cons_append,List.nil_append]
 have kw:=ksIs [0,2,3,5,6,8,9,10,11,12,20,25,26,27,28]
 have ow:=zai []
 repeat' (first
  | ((with_reducible refine DW.loopB 0 (X:=Nat) (fun x=>x<=ls.length) (fun x=>[(0, .sl (ls.map encB)),(3, .int .i64 (sumN (ls.take x))),(9, .sl (ls.map encB)),(10, .int .i64 ls.length),(11, .int .i64 x)]) (fun x=>([]:Own)) (fun x=>ls.length - x) (0) ?_ ?_ ?_);exact (Nat.zero_le _);(simp [Sub,get,zbn,sumN_0,sumN_00]<;>fail);(try simp only [List.map_nil,List.cons_append,List.nil_append]);refine pl_ ?_;intro k hk;(try simp only [List.map_nil,List.cons_append,List.nil_append]);(try simp only at hk);have hsk:=zhL (ls:=ls) k;have hsk1:=zhL (ls:=ls) (k+1);have hgk:=zmW (ls:=ls) k;have hor:=sumN_or hk)
  | ((with_reducible refine DW.loopB 2 (X:=Nat×Value×YSw) (fun x=>x.1<=ls.length/\x.2.2=(ls.take x.1).flatten/\x.2.2.length<=sumN ls) (fun x=>[(6, .ar x.2.1 x.2.2.length),(25, .sl (ls.map encB)),(26, .int .i64 ls.length),(27, .int .i64 x.1)]) (fun x=>.arr 1 x.2.1 (x.2.2.map u8)::([]:Own)) (fun x=>ls.length - x.1) ((0,v1,[])) ?_ ?_ ?_);exact (⟨Nat.zero_le _,rfl,Nat.zero_le _⟩);(simp [Sub,get,zbn]<;>fail);(try simp only [List.map_nil,List.cons_append,List.nil_append]);refine pl_ ?_;intro ⟨i,v,x⟩ ⟨hi,hxe,hxl⟩;(try simp only [List.map_nil,List.cons_append,List.nil_append]);(try simp only at hi hxe hxl);have hsi:=zhL (ls:=ls) (i+1);have hgi:=zmW (ls:=ls) i)
  | refine g_ ?_
  | ((with_reducible refine And.intro ?_ ?_);(exact zf5))
  | (refine DW.cond (by rfl) ?_ ?_<;>(first | exact i0_ | (refine ic_ ?_;intro hb)))
  | ((with_reducible refine zaa ?_ ?_)<;>(intro hb;rw [hb];revert hb;(first | exact i0_ | (refine i_ ?_;intro hb))))
  | refine r_ ?_
  | refine k_ ?_
  | (refine p_ (grow_dc _ _) ?_ (ha:=by exact zf5);rintro d H1 ⟨v1,rfl,rfl⟩<;>refine s_ ?_)
  | refine o_ ?_
  | refine f_ ?_
  | with_reducible intro b)
 all_goals first
 | ((have e:=zqF (ls:=ls) (k:=k) (by omega));refine ⟨k+1,by (try simp only);omega,by (try simp only);omega,by simp [Sub,get,e],?_⟩;(exact sub_);done)
 | (refine ⟨(i+1,b,x++ls.getD i default),⟨by (try simp only);omega,?_,?_⟩,by (try simp only);omega,by simp [Sub,get],?_⟩;(focus ((try dsimp only);rw [zq8 (by omega),<-hxe]));(focus ((try dsimp only);rw [hxe,<-zq8 (by omega)];unfold sumN at hsi ⊢;exact hsi));((try dsimp only);(try rw [List.map_append]);(exact sub_));done)
 | ((have hii:i=ls.length:=by omega);(subst hii);(rw [List.take_length] at hxe);(subst hxe);refine ⟨_,_,le.rfl_,⟨_,rfl,rfl⟩,?_⟩;(exact sub_);done)
 | (trace_state;fail)
end
end
section
structure SendK (p:Pk):Prop where
 n:PkN p
 kind:p.kind=2\/p.kind=3\/p.kind=4\/p.kind=5\/p.kind=6\/p.kind=7\/p.kind=9\/p.kind=11\/p.kind=13
 only:onlyM p=p
theorem SendK.not {p:Pk} (h:SendK p):p.kind≠1/\p.kind≠8/\p.kind≠10:=by have:=h.kind;omega
theorem ze1 {p:Pk} (h:SendK p):p.subs=[]/\p.client=[]/\p.wtopic=[]/\p.wpay=[]/\p.user=[]/\p.pass=[]/\p.level=0/\p.keep=0/\p.wqos=0/\p.hasPass=false/\p.hasUser=false/\(p.kind≠3->p.topic=[]/\p.payload=[]/\p.qos=0)/\(p.kind≠2->p.present=false/\p.code=0)/\(p.kind≠9->p.codes=[]):=by
 have e:=h.only
 have hk:=h.kind
 have hn:=h.not
 unfold onlyM at e
 rw [if_neg hn.1] at e
 cases p
 simp only at e hk hn
 (repeat' split at e)<;>simp only [Pk.mk.injEq] at e<;>(obtain ⟨e1,e2,e3,e4,e5,e6,e7,e8,e9,e10,e11,e12,e13,e14,e15,e16,e17,e18,e19,e20,e21,e22,e23,e24⟩:=e)<;>subst_vars<;>simp_all<;>(try omega)<;>(repeat' apply And.intro)<;>(try rfl)
theorem zlO {p:Pk} (h:SendK p):zax p=(valM p&&decide ((zcl p).length<=8192)):=by
 obtain ⟨f1,f2,f3,f4,f5,f6,f7,f8,f9,f10,f11,f12,f13,f14⟩:=ze1 h
 have hk:=h.kind
 have hn:=h.not
 have hs:zjH p (onlyM p)=true:=by rw [h.only];exact sameM_t rfl
 have t0:zeE []=true:=by decide
 unfold zax preM valM
 rw [hs,f1,f2,f3,f4,f5,f6,f7,f8,f9,f10,f11,t0]
 have key:∀ a b c d e:Bool,(a&&b&&c&&d&&e)=(a&&(b&&c&&d&&e)):=by intro a b c d e;cases a<;>rfl
 rcases hk with k | k | k | k | k | k | k | k | k
 case inr.inl =>
  obtain ⟨g4,g5⟩:=f13 (by omega)
  rw [f14 (by omega),g4,g5]
  simp only [k,numM]
  cases inM p.id 1 65535<;>cases inM p.qos 0 2<;>cases zeE p.topic<;>cases decide ((zcl p).length<=8192)<;>by_cases hq:0<p.qos<;>simp [inM,hq]
 case inl =>
  obtain ⟨g1,g2,g3⟩:=f12 (by omega)
  rw [f14 (by omega),g1,g3,t0]
  simp only [k,numM]
  cases p.present<;>by_cases hc:p.code=0<;>by_cases h1:0<=p.code<;>by_cases h2:p.code<=5<;>simp [inM,hc,h1,h2]<;>omega
 all_goals
  obtain ⟨g1,g2,g3⟩:=f12 (by omega)
  obtain ⟨g4,g5⟩:=f13 (by omega)
  rw [g1,g3,g4,g5,t0]
 case inr.inr.inr.inr.inr.inr.inl =>
  simp only [k,numM]
  cases inM p.id 1 65535<;>cases p.codes.all zdg<;>cases decide ((zcl p).length<=8192)<;>by_cases hc:p.codes.length=0<;>simp [inM,hc]<;>omega
 all_goals
  rw [f14 (by omega)]
  simp only [k,numM]
  cases inM p.id 1 65535<;>cases decide ((zcl p).length<=8192)<;>simp [inM]
theorem send13 {p:Pk} (h:SendK p) (k:p.kind=13):p=ackP 13 0:=by
 have e:=h.only
 unfold onlyM at e
 rw [k] at e
 rw [<-e];rfl
theorem numA {p:Pk} (h:p.kind=4\/p.kind=5\/p.kind=6\/p.kind=7\/p.kind=9\/p.kind=11):numM p=true:=by
 unfold numM;rw [if_neg (by omega)];simp;omega
theorem bodyA {p:Pk} (hs:SendK p) (h:p.kind=4\/p.kind=5\/p.kind=6\/p.kind=7\/p.kind=9\/p.kind=11):zcl p=twoM p.id++p.codes.map zbw:=by
 unfold zcl
 rw [if_neg (by omega),if_neg (by omega),if_neg (by omega),if_neg (by omega),(ze1 hs).1]
 simp [subsM]
theorem zih (p:Pk) (F:Own):SendK p->DC Tryz.prog 151 [.agg [.int .i64 p.kind, .bool p.dup, .bool p.retain, .int .i64 p.qos, .int .i64 p.id, .str p.topic, .sl (p.payload.map u8), .int .i64 p.level, .str p.client, .bool p.clean, .int .i64 p.keep, .bool p.hasWill, .str p.wtopic, .sl (p.wpay.map u8), .int .i64 p.wqos, .bool p.wretain, .bool p.hasUser, .bool p.hasPass, .str p.user, .sl (p.pass.map u8), .bool p.present, .int .i64 p.code, .sl (p.subs.map encU), .sl (p.codes.map (V.int .i64))]] (([]:Own)++F) fun d G=>d = .sl ((zcl p).map u8)/\G=[]++F:=fun hs=>by
 obtain ⟨f1,_,_,_,_,_,_,_,_,_,_,f12,f13,f14⟩:=ze1 hs
 have frz:∀ {x:YS},x=zcl p->DC Tryz.prog 151 [.agg [.int .i64 p.kind, .bool p.dup, .bool p.retain, .int .i64 p.qos, .int .i64 p.id, .str p.topic, .sl (p.payload.map u8), .int .i64 p.level, .str p.client, .bool p.clean, .int .i64 p.keep, .bool p.hasWill, .str p.wtopic, .sl (p.wpay.map u8), .int .i64 p.wqos, .bool p.wretain, .bool p.hasUser, .bool p.hasPass, .str p.user, .sl (p.pass.map u8), .bool p.present, .int .i64 p.code, .sl (p.subs.map encU), .sl (p.codes.map (V.int .i64))]] (([]:Own)++F) (fun d G=>∃ v':Value,d = .ar v' x.length/\G = .arr 1 v' (x.map u8)::F)->DC Tryz.prog 151 [.agg [.int .i64 p.kind, .bool p.dup, .bool p.retain, .int .i64 p.qos, .int .i64 p.id, .str p.topic, .sl (p.payload.map u8), .int .i64 p.level, .str p.client, .bool p.clean, .int .i64 p.keep, .bool p.hasWill, .str p.wtopic, .sl (p.wpay.map u8), .int .i64 p.wqos, .bool p.wretain, .bool p.hasUser, .bool p.hasPass, .str p.user, .sl (p.pass.map u8), .bool p.present, .int .i64 p.code, .sl (p.subs.map encU), .sl (p.codes.map (V.int .i64))]] (([]:Own)++F) fun d G=>d = .sl ((zcl p).map u8)/\G=[]++F:=fun {x} hx h =>
  (DC.frz1 (Q:=fun y=>y=zcl p) (h.mono fun d G ⟨v,hd,hG⟩=>⟨v,x,hx,hd,hG⟩)).mono fun d G ⟨y,hy,hd,hG⟩=>by subst hy;exact ⟨hd,hG⟩
 rcases hs.kind with k | k | k | k | k | k | k | k | k
 case inl =>
  have e:zcl p=[zbw (if p.present=true then 1 else 0),zbw p.code]:=by unfold zcl;rw [if_neg (by omega),if_pos k]
  rw [e];exact wb2_dc p F k
 case inr.inl =>
  have g4:=f14 (by omega)
  cases hq:numM p with
  | true =>
   have hq0:=zqG hq
   exact frz (by unfold zcl;rw [if_neg (by omega),if_neg (by omega),if_pos k,if_pos (by omega)]) (wbQ_dc p F ⟨hs.n,k,by rw [f1];rfl,by rw [g4];rfl,hq⟩)
  | false =>
   have hq0:=zqB hq
   exact frz (by unfold zcl;rw [if_neg (by omega),if_neg (by omega),if_pos k,if_neg (by omega),List.append_nil]) (wbZ_dc p F ⟨hs.n,k,by rw [f1];rfl,by rw [g4];rfl,hq⟩)
 case inr.inr.inr.inr.inr.inr.inr.inr =>
  rw [send13 hs k]
  exact wb13_dc F trivial
 all_goals exact frz (bodyA hs (by omega)).symm (wbA_dc p F ⟨hs.n,by omega,by rw [f1];rfl,by rw [(f12 (by omega)).2.1];rfl,numA (by omega)⟩)
theorem zje (p:Pk) (F:Own):SendK p->DC Tryz.prog 198 [.agg [.int .i64 p.kind, .bool p.dup, .bool p.retain, .int .i64 p.qos, .int .i64 p.id, .str p.topic, .sl (p.payload.map u8), .int .i64 p.level, .str p.client, .bool p.clean, .int .i64 p.keep, .bool p.hasWill, .str p.wtopic, .sl (p.wpay.map u8), .int .i64 p.wqos, .bool p.wretain, .bool p.hasUser, .bool p.hasPass, .str p.user, .sl (p.pass.map u8), .bool p.present, .int .i64 p.code, .sl (p.subs.map encU), .sl (p.codes.map (V.int .i64))]] (([]:Own)++F) fun d G=>d = .agg [.int .i64 p.kind, .bool p.dup, .bool p.retain, .int .i64 p.qos, .int .i64 p.id, .str p.topic, .sl (p.payload.map u8), .int .i64 p.level, .str p.client, .bool p.clean, .int .i64 p.keep, .bool p.hasWill, .str p.wtopic, .sl (p.wpay.map u8), .int .i64 p.wqos, .bool p.wretain, .bool p.hasUser, .bool p.hasPass, .str p.user, .sl (p.pass.map u8), .bool p.present, .int .i64 p.code, .sl (p.subs.map encU), .sl (p.codes.map (V.int .i64))]/\G=[]++F:=fun hs=>by
 have:=zqa p F trivial
 rwa [hs.only] at this
theorem zlC (p:Pk) (F:Own):True->DC Tryz.prog 154 [.agg [.int .i64 p.kind, .bool p.dup, .bool p.retain, .int .i64 p.qos, .int .i64 p.id, .str p.topic, .sl (p.payload.map u8), .int .i64 p.level, .str p.client, .bool p.clean, .int .i64 p.keep, .bool p.hasWill, .str p.wtopic, .sl (p.wpay.map u8), .int .i64 p.wqos, .bool p.wretain, .bool p.hasUser, .bool p.hasPass, .str p.user, .sl (p.pass.map u8), .bool p.present, .int .i64 p.code, .sl (p.subs.map encU), .sl (p.codes.map (V.int .i64))]] (([]:Own)++F) fun d G=>d = .int .u8 (((zj9 p).toNat:Nat):Int)/\G=[]++F:=fun h=>znr p F h
theorem zlD (c:UInt8) (y z:YS) (F:Own):(y.length<=100000/\z.length<=100000)->DC Tryz.prog 153 [.sl [.sl [.int .u8 ((c.toNat:Nat):Int)], .sl (y.map u8), .sl (z.map u8)]] (([]:Own)++F) fun d G=>∃ v':Value,d = .ar v' (c::(y++z)).length/\G = .arr 1 v' ((c::(y++z)).map u8)::F:=fun ⟨hy,hz⟩=>by
 have e:([[c],y,z]:List YS).flatten=c::(y++z):=by simp
 have h:=znq [[c],y,z] F ⟨by simp,by unfold sumN;rw [e];simp,by unfold sumN;rw [e];simp;omega⟩
 rw [e] at h
 exact h
attribute [local irreducible] DW SeqD DV DOp DC DVX DVJ onlyM preM zax valM zcl zj9 varM putM
theorem zbh {p:Prop} (h:p:=by first | exact sv | exact hs | exact hs.n | exact ⟨hs.n,hs.not⟩ | fail):p:=h
theorem zg1 {P Q:Prop} (q:Q) (h:Hid Q->P:=by (intro q;simp (maxSteps:=1000000) (disch:=omega) only [push_cast,↓reduceIte,reduceCtorEq,Nat.reduceAdd,Nat.reduceMul,Nat.reduceLT,Nat.reduceLeDiff,Nat.reduceEqDiff,Nat.reduceSub,Int.reduceToNat,Int.reduceLT,Int.reduceLE,Int.reduceAdd,Int.reduceSub,Int.reduceMul,Int.reduceNeg,Nat.reduceBEq,Int.reduceBEq,Int.reduceBNe,Nat.reduceBNe,Int.reduceEq,hin,hval];exact q.1)):P:=h ⟨q⟩
theorem zn7 (p:Pk) (F:Own):(SendK p)->DC Tryz.prog 150 [.agg [.int .i64 p.kind, .bool p.dup, .bool p.retain, .int .i64 p.qos, .int .i64 p.id, .str p.topic, .sl (p.payload.map u8), .int .i64 p.level, .str p.client, .bool p.clean, .int .i64 p.keep, .bool p.hasWill, .str p.wtopic, .sl (p.wpay.map u8), .int .i64 p.wqos, .bool p.wretain, .bool p.hasUser, .bool p.hasPass, .str p.user, .sl (p.pass.map u8), .bool p.present, .int .i64 p.code, .sl (p.subs.map encU), .sl (p.codes.map (V.int .i64))]] ([knF,knA]++F) fun d G=>d = .bool (zax p)/\G=[knF,knA]++F:=by
 intro hA
 have hs:=hA
 refine DC.bodyS (n_:=22) (show Tryz.prog.funcs[150]? = some Tryz.f150 by kernel_rfl) rfl rfl (by rfl) ?_
 simp only [env0,List.cons_append,List.nil_append]
 have kw:=ksIs [0,1,2]
 have ow:=zai []
 have dw1:=drIs 1 [] [1,2,4,5,6,7,10,11,14,15]
 have hin:inM p.kind 1 14=true:=by have:=hs.kind;unfold inM;simp;omega
 have hval:True:=trivial
 clear hval
 have hrs:=zlO hs
 rcases hval:valM p with _ | _
 all_goals skip
 repeat' (first
  | refine g_ ?_
  | ((with_reducible refine And.intro ?_ ?_);(exact zbh))
  | (refine DW.cond (by rfl) ?_ ?_<;>(first | exact i0_ | (intro hb;(try simp only [↓reduceCtorEq,not_true_eq_false,not_false_eq_true,hbs,Int.reduceBEq,Int.reduceBNe,Int.reduceEq] at hb);(try refine zg1 ?_))))
  | ((with_reducible first | refine zaa ?_ ?_ | refine zak ?_ ?_)<;>(intro hb;rw [hb];revert hb;(first | exact i0_ | (intro hb;(try simp only [↓reduceCtorEq,not_true_eq_false,not_false_eq_true,hbs,Int.reduceBEq,Int.reduceBNe,Int.reduceEq] at hb);(try refine zg1 ?_)))))
  | ((first | refine rn_ ?_ | refine dn_ ?_ | refine kn_ ?_)<;>(refine zg1 ?_))
  | ((refine dm_ ?_);(first | ((first | refine v_ (zkX _ _ _ _) ?_ (ha:=by exact zbh) (hk:=fun q=>q.1) | refine v_ (zkJ _ _) ?_ (ha:=by exact zbh) (hk:=fun q=>q.1) | refine v_ (zm0 _ _) ?_ (ha:=by exact zbh) (hk:=fun q=>q.1));refine zg1 ?_) | (refine v_ (zje _ _) ?_ (ha:=by exact zbh) (hk:=fun q=>q.1);refine zg1 ?_) | (refine v_ (zih _ _) ?_ (ha:=by exact zbh) (hk:=fun q=>q.1);refine zg1 ?_)))
  | ((refine von_ ?_);refine zg1 ?_)
  | ((first | refine q_ (zkX _ _ _ _) ?_ (ha:=by exact zbh) (hk:=fun q=>q.1) | refine q_ (zkJ _ _) ?_ (ha:=by exact zbh) (hk:=fun q=>q.1) | refine q_ (zm0 _ _) ?_ (ha:=by exact zbh) (hk:=fun q=>q.1));refine zg1 ?_)
  | (refine q_ (zje _ _) ?_ (ha:=by exact zbh) (hk:=fun q=>q.1);refine zg1 ?_)
  | (refine q_ (zih _ _) ?_ (ha:=by exact zbh) (hk:=fun q=>q.1);refine zg1 ?_)
  | ((refine on_ ?_);refine zg1 ?_)
  | refine f_ ?_
  | refine vm_ ?_
  | with_reducible intro b)
 all_goals first
 | ((refine ⟨_,_,le.of_eq ?_,⟨rfl,rfl⟩,?_⟩);rotate_left;(exact sub_);(rw [hrs,hval]);(simp<;>done);done)
 | ((refine ⟨_,_,le.of_eq ?_,⟨rfl,rfl⟩,?_⟩);rotate_left;(exact sub_);(rw [hrs,hval]);congr 1;rw [Bool.eq_iff_iff];(simp<;>omega);done)
 | (trace_state;fail)
theorem zcm {p:Prop} (h:p:=by first | exact sv | exact hs | (have hl8:=zoq (p:=p) (by assumption);have hv4:=zie (zcl p).length;have hz4:=zk3 (zcl p).length;omega) | (simp [u8,layV,V.flat,V.n]<;>fail) | fail):p:=h
theorem zhR {P Q:Prop} (q:Q) (h:Hid Q->P:=by (intro q;simp (maxSteps:=1000000) (disch:=omega) only [push_cast,↓reduceIte,reduceCtorEq,Nat.reduceAdd,Nat.reduceMul,Nat.reduceLT,Nat.reduceLeDiff,Nat.reduceEqDiff,Nat.reduceSub,Int.reduceToNat,Int.reduceLT,Int.reduceLE,Int.reduceAdd,Int.reduceSub,Int.reduceMul,Int.reduceNeg,Nat.reduceBEq,Int.reduceBEq,Int.reduceBNe,Nat.reduceBNe,Int.reduceEq,hrt];exact q.1)):P:=h ⟨q⟩
theorem zpd (p:Pk) (F:Own):(SendK p)->DC Tryz.prog 89 [.agg [.int .i64 p.kind, .bool p.dup, .bool p.retain, .int .i64 p.qos, .int .i64 p.id, .str p.topic, .sl (p.payload.map u8), .int .i64 p.level, .str p.client, .bool p.clean, .int .i64 p.keep, .bool p.hasWill, .str p.wtopic, .sl (p.wpay.map u8), .int .i64 p.wqos, .bool p.wretain, .bool p.hasUser, .bool p.hasPass, .str p.user, .sl (p.pass.map u8), .bool p.present, .int .i64 p.code, .sl (p.subs.map encU), .sl (p.codes.map (V.int .i64))]] ([knF,knA]++F) fun d G=>(∃ e:Int,(putM p=[]/\e=if zax p=true then 0 else 26)/\d = .tup [.gs (.slice none 0 0) [], .int .i64 e]/\G=[knF,knA]++F)\/∃ (v:Value) (x:YS) (e:Int),(putM p=x/\e=if zax p=true then 0 else 26)/\d = .tup [.ar v x.length, .int .i64 e]/\G = .arr 1 v (x.map u8)::([knF,knA]++F):=by
 intro hA
 have hs:=hA
 refine DC.bodyS (n_:=25) (show Tryz.prog.funcs[89]? = some Tryz.f89 by kernel_rfl) rfl rfl (by rfl) ?_
 simp only [env0,List.cons_append,List.nil_append]
 have kw:=ksIs [0,1,2,3,4,5,9]
 have ow:=zai []
 have hrt:True:=trivial
 clear hrt
 rcases hrt:zax p with _ | _
 all_goals skip
 repeat' (first
  | refine g_ ?_
  | ((with_reducible refine And.intro ?_ ?_);(exact zcm))
  | (refine DW.cond (by rfl) ?_ ?_<;>(first | exact i0_ | (intro hb;(try simp only [↓reduceCtorEq,not_true_eq_false,not_false_eq_true,hbs,Int.reduceBEq,Int.reduceBNe,Int.reduceEq] at hb);(try refine zhR ?_))))
  | ((with_reducible refine zaa ?_ ?_)<;>(intro hb;rw [hb];revert hb;(first | exact i0_ | (intro hb;(try simp only [↓reduceCtorEq,not_true_eq_false,not_false_eq_true,hbs,Int.reduceBEq,Int.reduceBNe,Int.reduceEq] at hb);(try refine zhR ?_)))))
  | ((first | refine rn_ ?_ | refine kn_ ?_)<;>(refine zhR ?_))
  | (refine q_ (zn7 _ _) ?_ (ha:=by exact zcm) (hk:=fun q=>q.1);refine zhR ?_)
  | (refine q_ (zih _ _) ?_ (ha:=by exact zcm) (hk:=fun q=>q.1);refine zhR ?_)
  | (refine p_ (zpa _ _) ?_ (ha:=by exact zcm);rintro d H1 ⟨e1,he1,rfl,rfl⟩<;>refine zhR ?_)
  | (refine q_ (zlC _ _) ?_ (ha:=by exact zcm) (hk:=fun q=>q.1);refine zhR ?_)
  | (refine p_ (zlD _ _ _ _) ?_ (ha:=by exact zcm);rintro d H1 ⟨v3,rfl,rfl⟩<;>refine zhR ?_)
  | ((refine on_ ?_);refine zhR ?_)
  | refine f_ ?_
  | with_reducible intro b)
 all_goals first
 | (refine ⟨_,_,le.rfl_, .inl ⟨26,⟨by unfold putM;rw [if_neg (by rw [hrt];decide)],by (try rw [hrt]);rfl⟩,rfl,rfl⟩,?_⟩;(exact sub_);done)
 | ((have e0:putM p=zj9 p::(varM (zcl p).length++zcl p):=by unfold putM;rw [if_pos hrt])
    refine ⟨_,_,le.of_eq ?_, .inr ⟨v3,zj9 p::(varM (zcl p).length++zcl p),0,⟨e0,by (try rw [hrt]);rfl⟩,rfl,rfl⟩,?_⟩;(focus (congr 2;simp));(simp only [List.map_cons];(exact sub_));done)
 | (trace_state;fail)
theorem wput_dc (p:Pk) (F:Own):SendK p->DC Tryz.prog 89 [.agg [.int .i64 p.kind, .bool p.dup, .bool p.retain, .int .i64 p.qos, .int .i64 p.id, .str p.topic, .sl (p.payload.map u8), .int .i64 p.level, .str p.client, .bool p.clean, .int .i64 p.keep, .bool p.hasWill, .str p.wtopic, .sl (p.wpay.map u8), .int .i64 p.wqos, .bool p.wretain, .bool p.hasUser, .bool p.hasPass, .str p.user, .sl (p.pass.map u8), .bool p.present, .int .i64 p.code, .sl (p.subs.map encU), .sl (p.codes.map (V.int .i64))]] ([knF,knA]++F) fun d G=>d = .tup [.sl ((putM p).map u8), .int .i64 (if zax p=true then 0 else 26)]/\G=[knF,knA]++F:=fun hs =>
by
 refine (DC.frzQ (F:=[knF,knA]++F) (Q:=fun x e=>putM p=x/\e=if zax p=true then 0 else 26) (zpd p F hs)).mono fun d G h=>?_
 obtain ⟨x,e,⟨h1,h2⟩,hd,hG⟩:=h
 subst h1;subst h2;exact ⟨hd,hG⟩
end
end Go.Proofs.YtgekknefphagbaaGreatDoor
