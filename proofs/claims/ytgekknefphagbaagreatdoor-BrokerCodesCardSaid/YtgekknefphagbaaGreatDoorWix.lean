/- The program's packets: values, the first byte, lengths. -/
import Derived.Test.YtgekknefphagbaaGreatDoorWdx
import Derived.KernelRfl
import Derived.Test.YtgekknefphagbaaGreatDoorNsx
import Derived.Test.YtgekknefphagbaaGreatDoorJax
namespace Go.Proofs.YtgekknefphagbaaGreatDoor
open Go.RowKit
set_option linter.unusedSimpArgs false
set_option linter.unusedVariables false
set_option linter.unusedSectionVars false
set_option maxHeartbeats 4000000
set_option maxRecDepth 100000
section
def valM (p:Pk):Bool:=(!numM p||inM p.id 1 65535)&&(if p.kind=2 then inM p.code 0 5&&(decide (p.code=0) || !p.present) else if p.kind=3 then inM p.qos 0 2&&zdZ p.topic else if p.kind=9 then decide (0<p.codes.length)&&p.codes.all zcm else true)
theorem low7W:∀ r:Fin 256,IntKind.u8.wrap ((BitVec.ofInt IntKind.u8.bits ((r.val:Nat):Int) &&& ~~~ BitVec.ofInt IntKind.u8.bits 128).toNat:Int)=((r.val%128:Nat):Int):=by decide
theorem hi7W:∀ r:Fin 128,IntKind.u8.wrap ((BitVec.ofInt IntKind.u8.bits ((r.val:Nat):Int)|||BitVec.ofInt IntKind.u8.bits 128).toNat:Int)=((r.val+128:Nat):Int):=by decide
theorem sh7W (n:Int) (k:Nat) (h0:0<=n) (h1:n<268435456) (hk:k<=3):IntKind.u8.wrap ((BitVec.ofInt IntKind.u8.bits (IntKind.u8.wrap (n.fdiv (2 ^ min (7 * (k:Int)).toNat IntKind.i64.bits))) &&& ~~~ BitVec.ofInt IntKind.u8.bits 128).toNat:Int)=((n.toNat / 128 ^ k%128:Nat):Int):=by
 have e:=fdiv7 n.toNat k hk
 rw [Int.toNat_of_nonneg h0] at e
 rw [e]
 have e2:IntKind.u8.wrap ((n.toNat / 128 ^ k:Nat):Int)=((n.toNat / 128 ^ k%256:Nat):Int):=by simp [IntKind.wrap,IntKind.bits,IntKind.signed]
 rw [e2]
 have:=low7W ⟨n.toNat / 128 ^ k%256,Nat.mod_lt _ (by decide)⟩
 simp only at this
 rw [this,Nat.mod_mod_of_dvd _ (by decide)]
theorem or7W (r:Nat) (h:r<128):IntKind.u8.wrap ((BitVec.ofInt IntKind.u8.bits ((r:Nat):Int)|||BitVec.ofInt IntKind.u8.bits 128).toNat:Int)=((r+128:Nat):Int):=hi7W ⟨r,h⟩
theorem u8_of (r:Nat) (h:r<256):V.int .u8 ((r:Nat):Int)=u8 (zbn ((r:Nat):Int)):=zoA (by omega)
attribute [local irreducible] DW SeqD DV DOp DC DVX numM inM zdZ zcm zck varM
theorem wv1_dc (c:Int) (F:Own):(True)->DC Tryz.prog 252 [.int .i64 c] (([]:Own)++F) fun d G=>d = .bool (!zcm c)/\G=[]++F:=by
 intro hA
 refine DC.bodyS (n_:=10) (show Tryz.prog.funcs[252]? = some Tryz.f252 by kernel_rfl) rfl rfl (by rfl) ?_
 simp only [env0,List.cons_append,List.nil_append]
 have kw:=ksIs [0,2]
 have ow:=zaf []
 repeat' (first
  | refine g_ ?_
  | ((with_reducible refine And.intro ?_ ?_);(exact sv))
  | (refine DW.cond (by rfl) ?_ ?_<;>(first | exact i0_ | (refine ic_ ?_;intro hb)))
  | ((with_reducible refine zaa ?_ ?_)<;>(intro hb;rw [hb];revert hb;(first | exact i0_ | (refine i_ ?_;intro hb))))
  | refine r_ ?_
  | refine k_ ?_
  | (refine q_ (zk4 _ _ _ _) ?_)
  | refine o_ ?_
  | refine f_ ?_
  | with_reducible intro b)
 all_goals first
 | ((refine ⟨_,_,le.of_eq ?_,⟨rfl,rfl⟩,?_⟩);rotate_left;(exact sub_);congr 1;unfold zcm;rw [hb];rw [Bool.eq_iff_iff];(simp<;>done);done)
 | (trace_state;fail)
theorem wif_dc (l:List Int) (F:Own):(l.length<=1000000)->DC Tryz.prog 281 [.sl (l.map (V.int .i64)), .fn (.func 252) [] []] (([]:Own)++F) fun d G=>∃ i:Int,decide (i ≥ 0) = !l.all zcm/\d = .int .i64 i/\G=[]++F:=by
 intro hA
 have hl:=hA
 refine DC.bodyS (n_:=19) (show Tryz.prog.funcs[281]? = some Tryz.f281 by kernel_rfl) rfl rfl (by rfl) ?_
 simp only [env0,List.cons_append,List.nil_append]
 have kw:=ksIs [0,1,4,5,7,8,9,16]
 have ow:=zaf []
 repeat' (first
  | ((with_reducible refine DW.loopB 0 (X:=Nat) (fun x=>x<=l.length/\(l.take x).all zcm=true) (fun x=>[(0, .sl (l.map (V.int .i64))),(1, .fn (.func 252) [] []),(7, .int .i64 l.length),(8, .int .i64 x)]) (fun x=>([]:Own)) (fun x=>l.length - x) (0) ?_ ?_ ?_);exact (⟨Nat.zero_le _,rfl⟩);(simp [Sub,get,zaW]<;>fail);(try simp only [List.cons_append,List.nil_append]);refine pl_ ?_;intro k ⟨hk,hks⟩;(try simp only [List.cons_append,List.nil_append]);(try simp only at hk hks))
  | refine g_ ?_
  | ((with_reducible refine And.intro ?_ ?_);(exact sv))
  | (refine DW.cond (by rfl) ?_ ?_<;>(first | exact i0_ | (refine ic_ ?_;intro hb)))
  | ((with_reducible refine zaa ?_ ?_)<;>(intro hb;rw [hb];revert hb;(first | exact i0_ | (refine i_ ?_;intro hb))))
  | refine r_ ?_
  | refine k_ ?_
  | (refine q_ (wv1_dc _ _) ?_)
  | refine o_ ?_
  | refine f_ ?_
  | with_reducible intro b)
 all_goals first
 | ((have hc:zcm (l.getD k default)=false:=by simpa using hb)
    refine ⟨_,_,le.rfl_,⟨(k:Int),?_,rfl,rfl⟩,SubP.refl⟩;(rw [zeV (f:=zcm) (k:=k) (by omega) hc];simp;done))
 | ((have hc:zcm (l.getD k default)=true:=by simpa using hb)
    refine ⟨k+1,⟨by (try simp only);omega,zeL hks (by omega) hc⟩,by (try simp only);omega,by simp [Sub,get],?_⟩;((try dsimp only);(exact sub_));done)
 | ((have e:l.all zcm=true:=by rwa [List.take_of_length_le (by omega)] at hks)
    refine ⟨_,_,le.rfl_,⟨-1,?_,rfl,rfl⟩,SubP.refl⟩;(rw [e];rfl))
 | (trace_state;fail)
theorem wcf_dc (l:List Int) (F:Own):(l.length<=1000000)->DC Tryz.prog 251 [.sl (l.map (V.int .i64)), .fn (.func 252) [] []] (([]:Own)++F) fun d G=>d = .bool (!l.all zcm)/\G=[]++F:=by
 intro hA
 have hl:=hA
 refine DC.bodyS (n_:=9) (show Tryz.prog.funcs[251]? = some Tryz.f251 by kernel_rfl) rfl rfl (by rfl) ?_
 simp only [env0,List.cons_append,List.nil_append]
 have kw:=ksIs [0,1,4]
 have ow:=zaf []
 repeat' (first
  | refine g_ ?_
  | ((with_reducible refine And.intro ?_ ?_);(exact sv))
  | (refine DW.cond (by rfl) ?_ ?_<;>(first | exact i0_ | (refine ic_ ?_;intro hb)))
  | ((with_reducible refine zaa ?_ ?_)<;>(intro hb;rw [hb];revert hb;(first | exact i0_ | (refine i_ ?_;intro hb))))
  | refine r_ ?_
  | refine k_ ?_
  | (refine p_ (wif_dc _ _) ?_;rintro d H1 ⟨i,hi,rfl,rfl⟩<;>refine s_ ?_)
  | refine o_ ?_
  | refine f_ ?_
  | with_reducible intro b)
 all_goals first
 | ((rw [<-hi]);(first | exact fin_ | refine finq_ ?_);done)
 | ((refine ⟨_,_,le.of_eq ?_,⟨rfl,rfl⟩,?_⟩);rotate_left;(exact sub_);(rw [<-hi]);done)
 | (trace_state;fail)
theorem zkA {P Q:Prop} (q:Q) (h:Hid Q->P:=by (intro q;simp (maxSteps:=1000000) (disch:=omega) only [push_cast,↓reduceIte,reduceCtorEq,Nat.reduceAdd,Nat.reduceMul,Nat.reduceLT,Nat.reduceLeDiff,Nat.reduceEqDiff,Nat.reduceSub,Int.reduceToNat,Int.reduceLT,Int.reduceLE,Int.reduceAdd,Int.reduceSub,Int.reduceMul,Int.reduceNeg,Nat.reduceBEq,Int.reduceBEq,Int.reduceBNe,Nat.reduceBNe,Int.reduceEq,hnum];exact q.1)):P:=h ⟨q⟩
section
attribute [local push_cast 2000] List.append_eq List.cons_append List.nil_append
theorem zmY (p:Pk) (F:Own):(PkN p/\(p.kind≠1/\p.kind≠8/\p.kind≠10))->DC Tryz.prog 199 [.agg [.int .i64 p.kind, .bool p.dup, .bool p.retain, .int .i64 p.qos, .int .i64 p.id, .str p.topic, .sl (p.payload.map u8), .int .i64 p.level, .str p.client, .bool p.clean, .int .i64 p.keep, .bool p.hasWill, .str p.wtopic, .sl (p.wpay.map u8), .int .i64 p.wqos, .bool p.wretain, .bool p.hasUser, .bool p.hasPass, .str p.user, .sl (p.pass.map u8), .bool p.present, .int .i64 p.code, .sl (p.subs.map encU), .sl (p.codes.map (V.int .i64))]] ([knF,knA]++F) fun d G=>d = .bool (valM p)/\G=[knF,knA]++F:=by
 intro hA
 obtain ⟨hp,hk1,hk8,hk10⟩:=hA
 refine DC.bodyS (n_:=114) (show Tryz.prog.funcs[199]? = some Tryz.f199 by kernel_rfl) rfl rfl (by rfl) ?_
 simp only [env0,List.cons_append,List.nil_append]
 have kw:=ksIs [0,1,2,10,12,13,67,82,92,97,102]
 have ow:=zaf []
 have s2:=hp.codes;have h1:=hp.topic
 have hnum:True:=trivial
 clear hnum
 rcases hnum:numM p with _ | _
 all_goals skip
 repeat' (first
  | refine g_ ?_
  | ((with_reducible refine And.intro ?_ ?_);(exact sv))
  | (refine DW.cond (by rfl) ?_ ?_<;>(first | exact i0_ | (intro hb;(try simp only [↓reduceCtorEq,not_true_eq_false,not_false_eq_true,hbs,Int.reduceBEq,Int.reduceBNe,Int.reduceEq] at hb);(try refine zkA ?_))))
  | ((with_reducible refine zaa ?_ ?_)<;>(intro hb;rw [hb];revert hb;(first | exact i0_ | (intro hb;(try simp only [↓reduceCtorEq,not_true_eq_false,not_false_eq_true,hbs,Int.reduceBEq,Int.reduceBNe,Int.reduceEq] at hb);(try refine zkA ?_)))))
  | ((first | refine rn_ ?_ | refine kn_ ?_)<;>(refine zkA ?_))
  | ((first | refine q_ (zed _ _) ?_ (hk:=fun q=>q.1) | refine q_ (zk4 _ _ _ _) ?_ (hk:=fun q=>q.1) | refine q_ (zpe _ _) ?_ (hk:=fun q=>q.1));refine zkA ?_)
  | (refine q_ (wcf_dc _ _) ?_ (hk:=fun q=>q.1);refine zkA ?_)
  | ((refine on_ ?_);refine zkA ?_)
  | refine f_ ?_
  | with_reducible intro b)
 all_goals first
 | ((refine ⟨_,_,le.of_eq ?_,⟨rfl,rfl⟩,?_⟩);rotate_left;(exact sub_);congr 1;unfold valM;rw [Bool.eq_iff_iff];(simp_all<;>omega);done)
 | ((refine ⟨_,_,le.of_eq ?_,⟨rfl,rfl⟩,?_⟩);rotate_left;(exact sub_);congr 1;unfold valM;(simp_all<;>omega);done)
 | (trace_state;fail)
end
theorem znO (p:Pk) (F:Own):(True)->DC Tryz.prog 154 [.agg [.int .i64 p.kind, .bool p.dup, .bool p.retain, .int .i64 p.qos, .int .i64 p.id, .str p.topic, .sl (p.payload.map u8), .int .i64 p.level, .str p.client, .bool p.clean, .int .i64 p.keep, .bool p.hasWill, .str p.wtopic, .sl (p.wpay.map u8), .int .i64 p.wqos, .bool p.wretain, .bool p.hasUser, .bool p.hasPass, .str p.user, .sl (p.pass.map u8), .bool p.present, .int .i64 p.code, .sl (p.subs.map encU), .sl (p.codes.map (V.int .i64))]] (([]:Own)++F) fun d G=>d=u8 (ze8 p)/\G=[]++F:=by
 intro hA
 refine DC.bodyS (n_:=29) (show Tryz.prog.funcs[154]? = some Tryz.f154 by kernel_rfl) rfl rfl (by rfl) ?_
 simp only [env0,List.cons_append,List.nil_append]
 have kw:=ksIs [0,1,2,3,5,6,10]
 have ow:=zaf []
 have dw8:=drIs 8 [] [1,2,4,8,9]
 repeat' (first
  | refine g_ ?_
  | ((with_reducible refine And.intro ?_ ?_);(exact sv))
  | (refine DW.cond (by rfl) ?_ ?_<;>(first | exact i0_ | (refine ic_ ?_;intro hb)))
  | ((with_reducible first | refine zaa ?_ ?_ | refine zai ?_ ?_)<;>(intro hb;rw [hb];revert hb;(first | exact i0_ | (refine i_ ?_;intro hb))))
  | refine r_ ?_
  | refine d_ ?_
  | refine k_ ?_
  | ((refine dm_ ?_);(first | (refine v_ (zf0 _ _ _) ?_)))
  | refine vo_ ?_
  | (refine q_ (zf0 _ _ _) ?_)
  | refine o_ ?_
  | refine f_ ?_
  | refine vm_ ?_
  | with_reducible intro b)
 all_goals first
 | ((refine ⟨_,_,le.of_eq ?_,⟨rfl,rfl⟩,?_⟩);rotate_left;(exact sub_);(rw [zci]);congr 1;unfold ze8 zko;(simp only [*,↓reduceIte,Int.reduceEq,or_self,or_true,true_or,or_false,false_or,if_true,if_false]);(apply zgi);(simp [IntKind.wrap,IntKind.bits,IntKind.signed]<;>omega);done)
 | (trace_state;fail)
theorem zoC (n:Int) (F:Own):(True)->DC Tryz.prog 205 [.int .i64 n] (([]:Own)++F) fun d G=>d = .int .i64 (zck n)/\G=[]++F:=by
 intro hA
 refine DC.bodyS (n_:=19) (show Tryz.prog.funcs[205]? = some Tryz.f205 by kernel_rfl) rfl rfl (by rfl) ?_
 simp only [env0,List.cons_append,List.nil_append]
 have kw:=ksIs [0,2,3,10,13,16]
 have ow:=zaf []
 repeat' (first
  | refine g_ ?_
  | ((with_reducible refine And.intro ?_ ?_);(exact sv))
  | (refine DW.cond (by rfl) ?_ ?_<;>(first | exact i0_ | (refine ic_ ?_;intro hb)))
  | ((with_reducible refine zaa ?_ ?_)<;>(intro hb;rw [hb];revert hb;(first | exact i0_ | (refine i_ ?_;intro hb))))
  | refine r_ ?_
  | refine k_ ?_
  | refine o_ ?_
  | refine f_ ?_
  | with_reducible intro b)
 all_goals first
 | ((refine ⟨_,_,le.of_eq ?_,⟨rfl,rfl⟩,?_⟩);rotate_left;(exact sub_);congr 1;unfold zck;(repeat' split)<;>(first | rfl | omega))
 | (trace_state;fail)
theorem zgh {p:Prop} (h:p:=by first | exact sv | (refine ⟨?_,?_,fun _ _=>rfl⟩<;>omega) | fail):p:=h
theorem zpq (n:Int) (F:Own):(True)->DC Tryz.prog 152 [.int .i64 n] (([]:Own)++F) fun d G=>∃ e:Int,(zck n≠0->e=0)/\d = .tup [.sl ((varM n).map u8), .int .i64 e]/\G=[]++F:=by
 intro hA
 refine DC.bodyS (n_:=34) (show Tryz.prog.funcs[152]? = some Tryz.f152 by kernel_rfl) rfl rfl (by rfl) ?_
 simp only [env0,List.cons_append,List.nil_append]
 have kw:=ksIs [0,2,3,4,5,6,7,11,12,13,14,25]
 have ow:=zaf []
 have hz4:=zf6 n
 refine DW.tail0 1 ?_
 repeat' (first
  | ((with_reducible refine DW.loopB 0 (X:=Nat×Value×YSx) (fun x=>x.1<=zck n/\x.2.2=(varM n).take x.1/\x.2.2.length=x.1) (fun x=>[(0, .int .i64 n),(4, .int .i64 (zck n)),(5, .gs x.2.1 (x.2.2.map u8)),(12, .int .i64 (zck n)),(13, .int .i64 x.1)]) (fun x=>.tail 1 x.2.1::([]:Own)) (fun x=>zck n - x.1) ((0, .slice none 0 0,[])) ?_ ?_ ?_);exact (⟨Nat.zero_le _,rfl,rfl⟩);(simp [Sub,get,zaW]<;>fail);(try simp only [List.cons_append,List.nil_append]);refine pl_ ?_;intro ⟨k,v,x⟩ ⟨hk,hxe,hx⟩;(try simp only [List.cons_append,List.nil_append]);(try simp only at hk hxe hx))
  | refine g_ ?_
  | ((with_reducible refine And.intro ?_ ?_);(exact zgh))
  | (refine DW.cond (by rfl) ?_ ?_<;>(first | exact i0_ | (refine ic_ ?_;intro hb)))
  | ((with_reducible refine zaa ?_ ?_)<;>(intro hb;rw [hb];revert hb;(first | exact i0_ | (refine i_ ?_;intro hb))))
  | refine r_ ?_
  | refine k_ ?_
  | (refine q_ (zoC _ _) ?_ (ha:=by exact zgh))
  | refine o_ ?_
  | refine f_ ?_
  | with_reducible intro b)
 all_goals first
 | ((have e0:varM n=[]:=List.eq_nil_of_length_eq_zero (by rw [zdR];omega));(rw [e0]);refine ⟨_,_,le.tup (Les.cons (le.gs List.map_nil.symm) (Les.cons le.rfl_ Les.nil)),⟨_,(fun h=>absurd (by omega) h),rfl,rfl⟩,?_⟩;(exact sub_);done)
 | ((rw [List.take_of_length_le (by rw [zdR];omega)] at hxe);(subst hxe);refine ⟨_,_,le.tup (Les.cons (le.gs rfl) (Les.cons le.rfl_ Les.nil)),⟨0,(fun _=>rfl),rfl,rfl⟩,?_⟩;(exact sub_);done)
 | ((obtain ⟨n0,n1⟩:=zfA (n:=n) (by omega));(rw [sh7W n k n0 n1 (by omega),or7W _ (Nat.mod_lt _ (by decide)),u8_of _ (by have:=Nat.mod_lt (n.toNat / 128 ^ k) (show 0<128 by decide);omega)]);refine ⟨(k+1,b,x++[zbn ((n.toNat / 128 ^ k%128+128:Nat):Int)]),⟨by (try simp only);omega,by (rw [zqf (by omega),<-hxe]),by simp [hx]⟩,by (try simp only);omega,by simp [Sub,get],?_⟩;((try dsimp only);(exact sub_));done)
 | ((obtain ⟨n0,n1⟩:=zfA (n:=n) (by omega));(rw [sh7W n k n0 n1 (by omega),u8_of _ (by have:=Nat.mod_lt (n.toNat / 128 ^ k) (show 0<128 by decide);omega)]);refine ⟨(k+1,b,x++[zbn ((n.toNat / 128 ^ k%128:Nat):Int)]),⟨by (try simp only);omega,by (rw [zqk (by omega) (by omega),<-hxe]),by simp [hx]⟩,by (try simp only);omega,by simp [Sub,get],?_⟩;((try dsimp only);(exact sub_));done)
 | (trace_state;fail)
end
section
theorem zf9 (p:Pk) (F:Own):(p.kind=3)->DC Tryz.prog 203 [.agg [.int .i64 3, .bool p.dup, .bool p.retain, .int .i64 p.qos, .int .i64 p.id, .str p.topic, .sl (p.payload.map u8), .int .i64 p.level, .str p.client, .bool p.clean, .int .i64 p.keep, .bool p.hasWill, .str p.wtopic, .sl (p.wpay.map u8), .int .i64 p.wqos, .bool p.wretain, .bool p.hasUser, .bool p.hasPass, .str p.user, .sl (p.pass.map u8), .bool p.present, .int .i64 p.code, .sl (p.subs.map encU), .sl (p.codes.map (V.int .i64))]] (([]:Own)++F) fun d G=>d = .bool (numM p)/\G=[]++F:=fun h=>by
 have:=zed p F trivial
 rwa [h] at this
attribute [local irreducible] DW SeqD DV DOp DC DVX
theorem zd5 {p:Prop} (h:p:=by first | exact sv | (refine ⟨?_,?_⟩<;>((try simp only [List.length_append,List.length_cons,List.length_nil,za0,za3,List.length_map])<;>omega)) | (refine ⟨?_,?_,?_⟩<;>((try simp only [List.length_append,List.length_cons,List.length_nil,za0,za3,List.length_map])<;>omega)) | (simp [u8,V.one,V.n];omega) | (simp [u8,V.one,V.n]<;>fail) | fail):p:=h
theorem zd3 {P Q:Prop} (q:Q) (h:Hid Q->P:=by (intro q;simp (maxSteps:=1000000) (disch:=omega) only [push_cast,↓reduceIte,reduceCtorEq,Nat.reduceAdd,Nat.reduceMul,Nat.reduceLT,Nat.reduceLeDiff,Nat.reduceEqDiff,Nat.reduceSub,Int.reduceToNat,Int.reduceLT,Int.reduceLE,Int.reduceAdd,Int.reduceSub,Int.reduceMul,Int.reduceNeg,Nat.reduceBEq,Int.reduceBEq,Int.reduceBNe,Nat.reduceBNe,Int.reduceEq,hnum,hkd,hsub,hcod];exact q.1)):P:=h ⟨q⟩
section
attribute [local push_cast 2000] zia ziL zaO zbw zbl za0 za3
theorem wbQ_dc (p:Pk) (F:Own):(PkN p/\p.kind=3/\p.subs.length=0/\p.codes.length=0/\numM p=true)->DC Tryz.prog 151 [.agg [.int .i64 p.kind, .bool p.dup, .bool p.retain, .int .i64 p.qos, .int .i64 p.id, .str p.topic, .sl (p.payload.map u8), .int .i64 p.level, .str p.client, .bool p.clean, .int .i64 p.keep, .bool p.hasWill, .str p.wtopic, .sl (p.wpay.map u8), .int .i64 p.wqos, .bool p.wretain, .bool p.hasUser, .bool p.hasPass, .str p.user, .sl (p.pass.map u8), .bool p.present, .int .i64 p.code, .sl (p.subs.map encU), .sl (p.codes.map (V.int .i64))]] (([]:Own)++F) fun d G=>∃ v':Value,d = .ar v' ((zbB p.topic++twoM p.id++p.payload)).length/\G = .arr 1 v' (((zbB p.topic++twoM p.id++p.payload)).map u8)::F:=by
 intro hA
 obtain ⟨hp,hkd,hsub,hcod,hnum⟩:=hA
 refine DC.bodyS (n_:=73) (show Tryz.prog.funcs[151]? = some Tryz.f151 by kernel_rfl) rfl rfl (by rfl) ?_
 simp only [env0,List.cons_append,List.nil_append]
 have kw:=ksIs [0,1,2,3,5,7,9,10,14,24,30,36,37,38,39,48,57,58,59,60]
 have ow:=zaf []
 have dw6:=drIs 6 [] [1,2,5]
 have h1:=hp.topic;have h2:=hp.payload
 repeat' (first
  | ((with_reducible refine DW.loopB 1 (X:=Nat) (fun x=>x<=0) (fun x=>[(1, .sp [.int .i64 3, .bool p.dup, .bool p.retain, .int .i64 p.qos, .int .i64 p.id, .str p.topic, .sl (p.payload.map u8), .int .i64 p.level, .str p.client, .bool p.clean, .int .i64 p.keep, .bool p.hasWill, .str p.wtopic, .sl (p.wpay.map u8), .int .i64 p.wqos, .bool p.wretain, .bool p.hasUser, .bool p.hasPass, .str p.user, .sl (p.pass.map u8), .bool p.present, .int .i64 p.code, .sl (p.subs.map encU), .sl (p.codes.map (V.int .i64))]),(3, .ar v2 (zbB p.topic++twoM p.id).length),(36, .sl (p.subs.map encU)),(37, .int .i64 0),(38, .int .i64 x)]) (fun x=>.arr 1 v2 ((zbB p.topic++twoM p.id).map u8)::([]:Own)) (fun x=>0) (0) ?_ ?_ ?_);exact (Nat.zero_le _);(simp [Sub,get,zaW]<;>fail);(try simp only [List.cons_append,List.nil_append]);refine pl_ ?_;intro k hk;(try simp only [List.cons_append,List.nil_append]);(try simp only at hk))
  | ((with_reducible refine DW.loopB 3 (X:=Nat) (fun x=>x<=0) (fun x=>[(1, .sp [.int .i64 3, .bool p.dup, .bool p.retain, .int .i64 p.qos, .int .i64 p.id, .str p.topic, .sl (p.payload.map u8), .int .i64 p.level, .str p.client, .bool p.clean, .int .i64 p.keep, .bool p.hasWill, .str p.wtopic, .sl (p.wpay.map u8), .int .i64 p.wqos, .bool p.wretain, .bool p.hasUser, .bool p.hasPass, .str p.user, .sl (p.pass.map u8), .bool p.present, .int .i64 p.code, .sl (p.subs.map encU), .sl (p.codes.map (V.int .i64))]),(3, .ar v2 (zbB p.topic++twoM p.id).length),(57, .sl (p.codes.map (V.int .i64))),(58, .int .i64 0),(59, .int .i64 x)]) (fun x=>.arr 1 v2 ((zbB p.topic++twoM p.id).map u8)::([]:Own)) (fun x=>0) (0) ?_ ?_ ?_);exact (Nat.zero_le _);(simp [Sub,get,zaW]<;>fail);(try simp only [List.cons_append,List.nil_append]);refine pl_ ?_;intro i hi;(try simp only [List.cons_append,List.nil_append]);(try simp only at hi))
  | refine g_ ?_
  | ((with_reducible refine And.intro ?_ ?_);(exact zd5))
  | (refine DW.cond (by rfl) ?_ ?_<;>(first | exact i0_ | (intro hb;(try simp only [↓reduceCtorEq,not_true_eq_false,not_false_eq_true,hbs,Int.reduceBEq,Int.reduceBNe,Int.reduceEq] at hb);(try refine zd3 ?_))))
  | ((with_reducible first | refine zaa ?_ ?_ | refine zai ?_ ?_)<;>(intro hb;rw [hb];revert hb;(first | exact i0_ | (intro hb;(try simp only [↓reduceCtorEq,not_true_eq_false,not_false_eq_true,hbs,Int.reduceBEq,Int.reduceBNe,Int.reduceEq] at hb);(try refine zd3 ?_)))))
  | ((first | refine rn_ ?_ | refine dn_ ?_ | refine kn_ ?_)<;>(refine zd3 ?_))
  | ((refine dm_ ?_);(first | (refine v_ (zf9 _ _) ?_ (ha:=by exact zd5) (hk:=fun q=>q.1);refine zd3 ?_)))
  | ((refine von_ ?_);refine zd3 ?_)
  | (refine q_ (zf9 _ _) ?_ (ha:=by exact zd5) (hk:=fun q=>q.1);refine zd3 ?_)
  | (refine p_ (zil _ _) ?_ (ha:=by exact zd5);rintro d H1 ⟨v1,rfl,rfl⟩<;>refine zd3 ?_)
  | (refine p_ (znL _ _ _ _ _) ?_ (ha:=by exact zd5);rintro d H1 ⟨v2,rfl,rfl⟩<;>refine zd3 ?_)
  | ((refine on_ ?_);refine zd3 ?_)
  | refine f_ ?_
  | refine vm_ ?_
  | with_reducible intro b)
 all_goals first
 | ((rw [<-List.map_append]);(try rw [List.append_assoc]);(refine ⟨_,_,le.of_eq ?_,⟨b,rfl,rfl⟩,?_⟩);(focus (congr 1;omega));(exact sub_);done)
 | ((rw [<-List.map_append]);(try rw [List.append_assoc]);(refine ⟨_,_,le.of_eq ?_,⟨b,rfl,rfl⟩,?_⟩);(focus rfl);(exact sub_);done)
 | (trace_state;fail)
end
theorem zdC {p:Prop} (h:p:=by first | exact sv | (refine ⟨?_,?_⟩<;>((try simp only [List.length_append,List.length_cons,List.length_nil,za0,za3,List.length_map])<;>omega)) | (refine ⟨?_,?_,?_⟩<;>((try simp only [List.length_append,List.length_cons,List.length_nil,za0,za3,List.length_map])<;>omega)) | (simp [u8,V.one,V.n];omega) | (simp [u8,V.one,V.n]<;>fail) | fail):p:=h
section
attribute [local push_cast 2000] zia ziL zaO zbw zbl za0 za3
theorem wbZ_dc (p:Pk) (F:Own):(PkN p/\p.kind=3/\p.subs.length=0/\p.codes.length=0/\numM p=false)->DC Tryz.prog 151 [.agg [.int .i64 p.kind, .bool p.dup, .bool p.retain, .int .i64 p.qos, .int .i64 p.id, .str p.topic, .sl (p.payload.map u8), .int .i64 p.level, .str p.client, .bool p.clean, .int .i64 p.keep, .bool p.hasWill, .str p.wtopic, .sl (p.wpay.map u8), .int .i64 p.wqos, .bool p.wretain, .bool p.hasUser, .bool p.hasPass, .str p.user, .sl (p.pass.map u8), .bool p.present, .int .i64 p.code, .sl (p.subs.map encU), .sl (p.codes.map (V.int .i64))]] (([]:Own)++F) fun d G=>∃ v':Value,d = .ar v' ((zbB p.topic++p.payload)).length/\G = .arr 1 v' (((zbB p.topic++p.payload)).map u8)::F:=by
 intro hA
 obtain ⟨hp,hkd,hsub,hcod,hnum⟩:=hA
 refine DC.bodyS (n_:=73) (show Tryz.prog.funcs[151]? = some Tryz.f151 by kernel_rfl) rfl rfl (by rfl) ?_
 simp only [env0,List.cons_append,List.nil_append]
 have kw:=ksIs [0,1,2,3,5,7,9,10,14,24,30,36,37,38,39,48,57,58,59,60]
 have ow:=zaf []
 have dw6:=drIs 6 [] [1,2,5]
 have h1:=hp.topic;have h2:=hp.payload
 repeat' (first
  | ((with_reducible refine DW.loopB 1 (X:=Nat) (fun x=>x<=0) (fun x=>[(1, .sp [.int .i64 3, .bool p.dup, .bool p.retain, .int .i64 p.qos, .int .i64 p.id, .str p.topic, .sl (p.payload.map u8), .int .i64 p.level, .str p.client, .bool p.clean, .int .i64 p.keep, .bool p.hasWill, .str p.wtopic, .sl (p.wpay.map u8), .int .i64 p.wqos, .bool p.wretain, .bool p.hasUser, .bool p.hasPass, .str p.user, .sl (p.pass.map u8), .bool p.present, .int .i64 p.code, .sl (p.subs.map encU), .sl (p.codes.map (V.int .i64))]),(3, .ar v1 (zbB p.topic).length),(36, .sl (p.subs.map encU)),(37, .int .i64 0),(38, .int .i64 x)]) (fun x=>.arr 1 v1 ((zbB p.topic).map u8)::([]:Own)) (fun x=>0) (0) ?_ ?_ ?_);exact (Nat.zero_le _);(simp [Sub,get,zaW]<;>fail);(try simp only [List.cons_append,List.nil_append]);refine pl_ ?_;intro k hk;(try simp only [List.cons_append,List.nil_append]);(try simp only at hk))
  | ((with_reducible refine DW.loopB 3 (X:=Nat) (fun x=>x<=0) (fun x=>[(1, .sp [.int .i64 3, .bool p.dup, .bool p.retain, .int .i64 p.qos, .int .i64 p.id, .str p.topic, .sl (p.payload.map u8), .int .i64 p.level, .str p.client, .bool p.clean, .int .i64 p.keep, .bool p.hasWill, .str p.wtopic, .sl (p.wpay.map u8), .int .i64 p.wqos, .bool p.wretain, .bool p.hasUser, .bool p.hasPass, .str p.user, .sl (p.pass.map u8), .bool p.present, .int .i64 p.code, .sl (p.subs.map encU), .sl (p.codes.map (V.int .i64))]),(3, .ar v1 (zbB p.topic).length),(57, .sl (p.codes.map (V.int .i64))),(58, .int .i64 0),(59, .int .i64 x)]) (fun x=>.arr 1 v1 ((zbB p.topic).map u8)::([]:Own)) (fun x=>0) (0) ?_ ?_ ?_);exact (Nat.zero_le _);(simp [Sub,get,zaW]<;>fail);(try simp only [List.cons_append,List.nil_append]);refine pl_ ?_;intro i hi;(try simp only [List.cons_append,List.nil_append]);(try simp only at hi))
  | refine g_ ?_
  | ((with_reducible refine And.intro ?_ ?_);(exact zdC))
  | (refine DW.cond (by rfl) ?_ ?_<;>(first | exact i0_ | (intro hb;(try simp only [↓reduceCtorEq,not_true_eq_false,not_false_eq_true,hbs,Int.reduceBEq,Int.reduceBNe,Int.reduceEq] at hb);(try refine zd3 ?_))))
  | ((with_reducible first | refine zaa ?_ ?_ | refine zai ?_ ?_)<;>(intro hb;rw [hb];revert hb;(first | exact i0_ | (intro hb;(try simp only [↓reduceCtorEq,not_true_eq_false,not_false_eq_true,hbs,Int.reduceBEq,Int.reduceBNe,Int.reduceEq] at hb);(try refine zd3 ?_)))))
  | ((first | refine rn_ ?_ | refine dn_ ?_ | refine kn_ ?_)<;>(refine zd3 ?_))
  | ((refine dm_ ?_);(first | (refine v_ (zf9 _ _) ?_ (ha:=by exact zdC) (hk:=fun q=>q.1);refine zd3 ?_)))
  | ((refine von_ ?_);refine zd3 ?_)
  | (refine q_ (zf9 _ _) ?_ (ha:=by exact zdC) (hk:=fun q=>q.1);refine zd3 ?_)
  | (refine p_ (zil _ _) ?_ (ha:=by exact zdC);rintro d H1 ⟨v1,rfl,rfl⟩<;>refine zd3 ?_)
  | (refine p_ (znL _ _ _ _ _) ?_ (ha:=by exact zdC);rintro d H1 ⟨v2,rfl,rfl⟩<;>refine zd3 ?_)
  | ((refine on_ ?_);refine zd3 ?_)
  | refine f_ ?_
  | refine vm_ ?_
  | with_reducible intro b)
 all_goals first
 | ((rw [<-List.map_append]);(try rw [List.append_assoc]);(refine ⟨_,_,le.of_eq ?_,⟨b,rfl,rfl⟩,?_⟩);(focus (congr 1;omega));(exact sub_);done)
 | ((rw [<-List.map_append]);(try rw [List.append_assoc]);(refine ⟨_,_,le.of_eq ?_,⟨b,rfl,rfl⟩,?_⟩);(focus rfl);(exact sub_);done)
 | (trace_state;fail)
end
theorem zez {p:Prop} (h:p:=by first | exact sv | (refine ⟨?_,?_⟩<;>((try simp only [List.length_append,List.length_cons,List.length_nil,za0,za3,List.length_map])<;>omega)) | (refine ⟨?_,?_,?_⟩<;>((try simp only [List.length_append,List.length_cons,List.length_nil,za0,za3,List.length_map])<;>omega)) | (simp [u8,V.one,V.n];omega) | (simp [u8,V.one,V.n]<;>fail) | fail):p:=h
theorem zef {P Q:Prop} (q:Q) (h:Hid Q->P:=by (intro q;simp (maxSteps:=1000000) (disch:=omega) only [push_cast,↓reduceIte,reduceCtorEq,Nat.reduceAdd,Nat.reduceMul,Nat.reduceLT,Nat.reduceLeDiff,Nat.reduceEqDiff,Nat.reduceSub,Int.reduceToNat,Int.reduceLT,Int.reduceLE,Int.reduceAdd,Int.reduceSub,Int.reduceMul,Int.reduceNeg,Nat.reduceBEq,Int.reduceBEq,Int.reduceBNe,Nat.reduceBNe,Int.reduceEq,hnum,hkd,hsub];exact q.1)):P:=h ⟨q⟩
section
attribute [local push_cast 2000] zia ziL zaO zbw zbl za0 za3
theorem wbA_dc (p:Pk) (F:Own):(PkN p/\(p.kind=4\/p.kind=5\/p.kind=6\/p.kind=7\/p.kind=9\/p.kind=11)/\p.subs.length=0/\p.payload.length=0/\numM p=true)->DC Tryz.prog 151 [.agg [.int .i64 p.kind, .bool p.dup, .bool p.retain, .int .i64 p.qos, .int .i64 p.id, .str p.topic, .sl (p.payload.map u8), .int .i64 p.level, .str p.client, .bool p.clean, .int .i64 p.keep, .bool p.hasWill, .str p.wtopic, .sl (p.wpay.map u8), .int .i64 p.wqos, .bool p.wretain, .bool p.hasUser, .bool p.hasPass, .str p.user, .sl (p.pass.map u8), .bool p.present, .int .i64 p.code, .sl (p.subs.map encU), .sl (p.codes.map (V.int .i64))]] (([]:Own)++F) fun d G=>∃ v':Value,d = .ar v' ((twoM p.id++p.codes.map zbn)).length/\G = .arr 1 v' (((twoM p.id++p.codes.map zbn)).map u8)::F:=by
 intro hA
 obtain ⟨hp,hkk,hsub,hpl,hnum⟩:=hA
 refine DC.bodyS (n_:=73) (show Tryz.prog.funcs[151]? = some Tryz.f151 by kernel_rfl) rfl rfl (by rfl) ?_
 simp only [env0,List.cons_append,List.nil_append]
 have kw:=ksIs [0,1,2,3,5,7,9,10,14,24,30,36,37,38,39,48,57,58,59,60]
 have ow:=zaf []
 have dw6:=drIs 6 [] [1,2,5]
 have s2:=hp.codes
 have hkd:True:=trivial
 repeat' (first
  | ((with_reducible refine DW.loopB 1 (X:=Nat) (fun x=>x<=0) (fun x=>[(1, .sp [.int .i64 p.kind, .bool p.dup, .bool p.retain, .int .i64 p.qos, .int .i64 p.id, .str p.topic, .sl (p.payload.map u8), .int .i64 p.level, .str p.client, .bool p.clean, .int .i64 p.keep, .bool p.hasWill, .str p.wtopic, .sl (p.wpay.map u8), .int .i64 p.wqos, .bool p.wretain, .bool p.hasUser, .bool p.hasPass, .str p.user, .sl (p.pass.map u8), .bool p.present, .int .i64 p.code, .sl (p.subs.map encU), .sl (p.codes.map (V.int .i64))]),(3, .ar v1 (twoM p.id).length),(36, .sl (p.subs.map encU)),(37, .int .i64 0),(38, .int .i64 x)]) (fun x=>.arr 1 v1 ((twoM p.id).map u8)::([]:Own)) (fun x=>0) (0) ?_ ?_ ?_);exact (Nat.zero_le _);(simp [Sub,get,zaW]<;>fail);(try simp only [List.cons_append,List.nil_append]);refine pl_ ?_;intro k hk;(try simp only [List.cons_append,List.nil_append]);(try simp only at hk))
  | ((with_reducible refine DW.loopB 3 (X:=Nat×Value×YSw) (fun x=>x.1<=p.codes.length/\x.2.2=twoM p.id++(p.codes.take x.1).map zbn/\x.2.2.length<=2+x.1) (fun x=>[(1, .sp [.int .i64 p.kind, .bool p.dup, .bool p.retain, .int .i64 p.qos, .int .i64 p.id, .str p.topic, .sl (p.payload.map u8), .int .i64 p.level, .str p.client, .bool p.clean, .int .i64 p.keep, .bool p.hasWill, .str p.wtopic, .sl (p.wpay.map u8), .int .i64 p.wqos, .bool p.wretain, .bool p.hasUser, .bool p.hasPass, .str p.user, .sl (p.pass.map u8), .bool p.present, .int .i64 p.code, .sl (p.subs.map encU), .sl (p.codes.map (V.int .i64))]),(3, .ar x.2.1 x.2.2.length),(57, .sl (p.codes.map (V.int .i64))),(58, .int .i64 p.codes.length),(59, .int .i64 x.1)]) (fun x=>.arr 1 x.2.1 (x.2.2.map u8)::([]:Own)) (fun x=>p.codes.length - x.1) ((0,v1,twoM p.id)) ?_ ?_ ?_);exact (⟨Nat.zero_le _,by simp,by simp [za0]⟩);(simp [Sub,get,zaW]<;>fail);(try simp only [List.cons_append,List.nil_append]);refine pl_ ?_;intro ⟨i,z,m⟩ ⟨hi,hme,hmi⟩;(try simp only [List.cons_append,List.nil_append]);(try simp only at hi hme hmi))
  | refine g_ ?_
  | ((with_reducible refine And.intro ?_ ?_);(exact zez))
  | (refine DW.cond (by rfl) ?_ ?_<;>(first | exact i0_ | (intro hb;(try simp only [↓reduceCtorEq,not_true_eq_false,not_false_eq_true,hbs,Int.reduceBEq,Int.reduceBNe,Int.reduceEq] at hb);(try refine zef ?_))))
  | ((with_reducible first | refine zaa ?_ ?_ | refine zai ?_ ?_)<;>(intro hb;rw [hb];revert hb;(first | exact i0_ | (intro hb;(try simp only [↓reduceCtorEq,not_true_eq_false,not_false_eq_true,hbs,Int.reduceBEq,Int.reduceBNe,Int.reduceEq] at hb);(try refine zef ?_)))))
  | ((first | refine rn_ ?_ | refine dn_ ?_ | refine kn_ ?_)<;>(refine zef ?_))
  | ((refine dm_ ?_);(first | (refine v_ (zed _ _) ?_ (ha:=by exact zez) (hk:=fun q=>q.1);refine zef ?_)))
  | ((refine von_ ?_);refine zef ?_)
  | (refine q_ (zed _ _) ?_ (ha:=by exact zez) (hk:=fun q=>q.1);refine zef ?_)
  | (refine p_ (zk1 _ _) ?_ (ha:=by exact zez);rintro d H1 ⟨v1,rfl,rfl⟩<;>refine zef ?_)
  | ((refine on_ ?_);refine zef ?_)
  | refine f_ ?_
  | refine vm_ ?_
  | with_reducible intro b)
 all_goals first
 | ((have hii:i=p.codes.length:=by omega);(subst hii);(rw [List.take_of_length_le (Nat.le_refl _)] at hme);(rw [List.length_eq_zero_iff.1 hpl]);(simp only [List.map_nil,List.append_nil,List.length_nil,Nat.add_zero]);(rw [hme]);(refine ⟨_,_,le.of_eq ?_,⟨b,rfl,rfl⟩,?_⟩);(focus (congr 1;simp [za0]));(exact sub_);done)
 | (refine ⟨(i+1,b,m++[zbn (p.codes.getD i default)]),⟨by (try simp only);omega,by (rw [znF (by omega),hme];simp),by ((try simp only [List.length_append,List.length_cons,List.length_nil,za0,za3,List.length_map])<;>omega)⟩,by (try simp only);omega,by simp [Sub,get],?_⟩;((try dsimp only);(exact sub_));done)
 | (trace_state;fail)
end
theorem zfU {p:Prop} (h:p:=by first | exact sv | (refine ⟨?_,?_⟩<;>((try simp only [List.length_append,List.length_cons,List.length_nil,za0,za3,List.length_map])<;>omega)) | (refine ⟨?_,?_,?_⟩<;>((try simp only [List.length_append,List.length_cons,List.length_nil,za0,za3,List.length_map])<;>omega)) | (simp [u8,V.one,V.n];omega) | (simp [u8,V.one,V.n]<;>fail) | fail):p:=h
section
attribute [local push_cast 2000] zia ziL zaO zbw zbl za0 za3
theorem wb2_dc (p:Pk) (F:Own):(p.kind=2)->DC Tryz.prog 151 [.agg [.int .i64 p.kind, .bool p.dup, .bool p.retain, .int .i64 p.qos, .int .i64 p.id, .str p.topic, .sl (p.payload.map u8), .int .i64 p.level, .str p.client, .bool p.clean, .int .i64 p.keep, .bool p.hasWill, .str p.wtopic, .sl (p.wpay.map u8), .int .i64 p.wqos, .bool p.wretain, .bool p.hasUser, .bool p.hasPass, .str p.user, .sl (p.pass.map u8), .bool p.present, .int .i64 p.code, .sl (p.subs.map encU), .sl (p.codes.map (V.int .i64))]] (([]:Own)++F) fun d G=>d = .sl ([zbn (if p.present=true then 1 else 0),zbn p.code].map u8)/\G=[]++F:=by
 intro hA
 have hkd:=hA
 refine DC.bodyS (n_:=73) (show Tryz.prog.funcs[151]? = some Tryz.f151 by kernel_rfl) rfl rfl (by rfl) ?_
 simp only [env0,List.cons_append,List.nil_append]
 have kw:=ksIs [0,1,2,3,5,7,9,10,14,24,30,36,37,38,39,48,57,58,59,60]
 have ow:=zaf []
 have dw6:=drIs 6 [] [1,2,5]
 have hnum:True:=trivial
 have hsub:True:=trivial
 repeat' (first
  | refine g_ ?_
  | ((with_reducible refine And.intro ?_ ?_);(exact zfU))
  | (refine DW.cond (by rfl) ?_ ?_<;>(first | exact i0_ | (intro hb;(try simp only [↓reduceCtorEq,not_true_eq_false,not_false_eq_true,hbs,Int.reduceBEq,Int.reduceBNe,Int.reduceEq] at hb);(try refine zef ?_))))
  | ((with_reducible first | refine zaa ?_ ?_ | refine zai ?_ ?_)<;>(intro hb;rw [hb];revert hb;(first | exact i0_ | (intro hb;(try simp only [↓reduceCtorEq,not_true_eq_false,not_false_eq_true,hbs,Int.reduceBEq,Int.reduceBNe,Int.reduceEq] at hb);(try refine zef ?_)))))
  | ((first | refine rn_ ?_ | refine dn_ ?_ | refine kn_ ?_)<;>(refine zef ?_))
  | ((refine dm_ ?_);(first | (refine v_ (zf0 _ _ _) ?_ (ha:=by exact zfU) (hk:=fun q=>q.1);refine zef ?_)))
  | ((refine von_ ?_);refine zef ?_)
  | (refine q_ (zf0 _ _ _) ?_ (ha:=by exact zfU) (hk:=fun q=>q.1);refine zef ?_)
  | ((refine on_ ?_);refine zef ?_)
  | refine f_ ?_
  | refine vm_ ?_
  | with_reducible intro b)
 all_goals first
 | ((rw [show V.int .u8 (if p.present=true then 1 else 0)=u8 (zbn (if p.present=true then 1 else 0)) from zoA (by split<;>omega),zci]);(first | exact fin_ | refine finq_ ?_);done)
 | (trace_state;fail)
end
theorem zkc (F:Own):True->DC Tryz.prog 203 [.agg [.int .i64 13, .bool false, .bool false, .int .i64 0, .int .i64 0, .str [], .sl [], .int .i64 0, .str [], .bool false, .int .i64 0, .bool false, .str [], .sl [], .int .i64 0, .bool false, .bool false, .bool false, .str [], .sl [], .bool false, .int .i64 0, .sl [], .sl []]] (([]:Own)++F) fun d G=>d = .bool false/\G=[]++F:=fun _=>zed (ackP 13 0) F trivial
theorem wb13_dc  (F:Own):(True)->DC Tryz.prog 151 [.agg [.int .i64 13, .bool false, .bool false, .int .i64 0, .int .i64 0, .str [], .sl [], .int .i64 0, .str [], .bool false, .int .i64 0, .bool false, .str [], .sl [], .int .i64 0, .bool false, .bool false, .bool false, .str [], .sl [], .bool false, .int .i64 0, .sl [], .sl []]] (([]:Own)++F) fun d G=>d = .sl []/\G=[]++F:=by
 intro hA
 refine DC.bodyS (n_:=73) (show Tryz.prog.funcs[151]? = some Tryz.f151 by kernel_rfl) rfl rfl (by rfl) ?_
 simp only [env0,List.cons_append,List.nil_append]
 have kw:=ksIs [0,1,2,3,5,7,9,10,14,24,30,36,37,38,39,48,57,58,59,60]
 have ow:=zaf []
 have dw6:=drIs 6 [] [1,2,5]
 repeat' (first
  | ((with_reducible refine DW.loopB 1 (X:=Nat) (fun x=>x<=0) (fun x=>[(1, .sp [.int .i64 13, .bool false, .bool false, .int .i64 0, .int .i64 0, .str [], .sl [], .int .i64 0, .str [], .bool false, .int .i64 0, .bool false, .str [], .sl [], .int .i64 0, .bool false, .bool false, .bool false, .str [], .sl [], .bool false, .int .i64 0, .sl [], .sl []]),(3, .gs (.slice none 0 0) []),(36, .sl []),(37, .int .i64 0),(38, .int .i64 x)]) (fun x=>([]:Own)) (fun x=>0) (0) ?_ ?_ ?_);exact (Nat.zero_le _);(simp [Sub,get,zaW]<;>fail);(try simp only [List.cons_append,List.nil_append]);refine pl_ ?_;intro k hk;(try simp only [List.cons_append,List.nil_append]);(try simp only at hk))
  | ((with_reducible refine DW.loopB 3 (X:=Nat) (fun x=>x<=0) (fun x=>[(1, .sp [.int .i64 13, .bool false, .bool false, .int .i64 0, .int .i64 0, .str [], .sl [], .int .i64 0, .str [], .bool false, .int .i64 0, .bool false, .str [], .sl [], .int .i64 0, .bool false, .bool false, .bool false, .str [], .sl [], .bool false, .int .i64 0, .sl [], .sl []]),(3, .gs (.slice none 0 0) []),(57, .sl []),(58, .int .i64 0),(59, .int .i64 x)]) (fun x=>([]:Own)) (fun x=>0) (0) ?_ ?_ ?_);exact (Nat.zero_le _);(simp [Sub,get,zaW]<;>fail);(try simp only [List.cons_append,List.nil_append]);refine pl_ ?_;intro k hk;(try simp only [List.cons_append,List.nil_append]);(try simp only at hk))
  | refine g_ ?_
  | ((with_reducible refine And.intro ?_ ?_);(exact sv))
  | (refine DW.cond (by rfl) ?_ ?_<;>(first | exact i0_ | (refine ic_ ?_;intro hb)))
  | ((with_reducible first | refine zaa ?_ ?_ | refine zai ?_ ?_)<;>(intro hb;rw [hb];revert hb;(first | exact i0_ | (refine i_ ?_;intro hb))))
  | refine r_ ?_
  | refine d_ ?_
  | refine k_ ?_
  | ((refine dm_ ?_);(first | (refine v_ (zkc _) ?_)))
  | refine vo_ ?_
  | (refine q_ (zkc _) ?_)
  | refine o_ ?_
  | refine f_ ?_
  | refine vm_ ?_
  | with_reducible intro b)
 (first | exact fin_ | refine finq_ ?_)
 all_goals rfl
end
end Go.Proofs.YtgekknefphagbaaGreatDoor
