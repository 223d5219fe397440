/- Which packets may be, exactly. -/
import Derived.Test.YtgekknefphagbaaGreatDoorTex
import Derived.Test.YtgekknefphagbaaGreatDoorYox
import Derived.Test.YtgekknefphagbaaGreatDoorFxx
import Derived.KernelRfl
import Derived.Test.YtgekknefphagbaaGreatDoorSvx
import Derived.Test.YtgekknefphagbaaGreatDoorPv2x
import Derived.Test.YtgekknefphagbaaGreatDoorEqx
namespace Go.Proofs.YtgekknefphagbaaGreatDoor
open Go.RowKit
set_option linter.unusedSimpArgs false
set_option linter.unusedVariables false
set_option linter.unusedSectionVars false
set_option maxHeartbeats 4000000
set_option maxRecDepth 100000
section
theorem DC.frz1 {P:Program} {f:FuncId} {args:List V} {H F:Own} {Q:YS->Prop}
  (h:DC P f args H fun d G=>∃ (v:Value) (x:YS),Q x/\d = .ar v x.length/\G = .arr 1 v (x.map u8)::F):DC P f args H fun d G=>∃ x:YS,Q x/\d = .sl (x.map u8)/\G=F :=
 (DC.frzX (F:=F) (X:=YS) (Q:=Q) (sz:=1) (l:=fun x=>x.map u8) (by decide) (fun x y hy=>by obtain ⟨z,_,rfl⟩:=List.mem_map.1 hy;rfl) (h.mono fun d G ⟨v,x,hq,hd,hG⟩=>⟨v,x,by rw [List.length_map];exact hd,hq,by rw [zaS];exact hG⟩)).mono fun d G ⟨x,hq,hd,hG⟩=>⟨x,hq,hd,hG⟩
def numM (p:Pk):Bool:=if p.kind=3 then decide (0<p.qos) else decide (4<=p.kind/\p.kind<=11)
noncomputable def preM (p:Pk):Bool:=inM p.kind 1 14&&zjD p (onlyM p)&&(!numM p||inM p.id 1 65535)&&inM p.qos 0 2&&zeT p.topic&&zeT p.client&&zeT p.user&&zeT p.wtopic&&inM p.wqos 0 2&&decide ((p.wpay.length:Int)<=65535)&&decide ((p.pass.length:Int)<=65535)&&inM p.level 0 255&&inM p.keep 0 65535&&(!p.hasPass||p.hasUser)&&inM p.code 0 5&&(!p.present||decide (p.code=0))
def subOk (p:Pk) (x:YS×Int):Bool:=zeT x.1&&inM x.2 0 2 && !(decide (p.kind=10)&&decide (x.2≠0))
def zdo (c:Int):Bool:=inM c 0 2||decide (c=128)
noncomputable def zay (p:Pk):Bool:=preM p&&p.subs.all (subOk p)&&p.codes.all zdo && !((decide (p.kind=8)||decide (p.kind=10))&&decide (p.subs.length=0)) && !(decide (p.kind=9)&&decide (p.codes.length=0))&&decide ((zcl p).length<=8192)
theorem zib {α:Type} [Inhabited α] {l:List α} {k:Nat} (h:k<l.length):l.getD k default∈l:=by
 rw [List.getD_eq_getElem?_getD,List.getElem?_eq_getElem h];exact List.getElem_mem h
theorem zld {α:Type} [Inhabited α] {f:α->Bool} {l:List α} {k:Nat} (h:(l.take k).all f=true) (hk:k<l.length) (e:f (l.getD k default)=true):(l.take (k+1)).all f=true:=by
 rw [zij hk,List.all_append,h,List.all_cons,e];rfl
theorem zlt {α:Type} [Inhabited α] {f:α->Bool} {l:List α} {k:Nat} (hk:k<l.length) (e:f (l.getD k default)=false):l.all f=false:=by
 rw [List.all_eq_false]
 exact ⟨_,zib hk,by rw [e];decide⟩
inductive Bx (T:Prop):Prop where
 | mk:T->Bx T
attribute [local irreducible] DW SeqD DV DOp DC DVX onlyM preM zay
section
attribute [local push_cast 2000] List.append_eq List.cons_append List.nil_append encU
end
end
section
def zqB (p:Pk):Int:=if p.kind=6\/p.kind=8\/p.kind=10 then 2 else if p.kind=3 then (if p.dup=true then 8 else 0)+2 * p.qos+(if p.retain=true then 1 else 0) else 0
def zkb (p:Pk):UInt8:=zb0 (16 * p.kind+zqB p)
noncomputable def putM (p:Pk):YS:=if zay p=true then zkb p::(varM (zcl p).length++zcl p) else []
theorem zop {p:Pk} (h:zay p=true):(zcl p).length<=8192:=by
 unfold zay at h
 simp only [Bool.and_eq_true,decide_eq_true_eq] at h
 exact h.2
theorem DC.frzQ {P:Program} {f:FuncId} {args:List V} {H F:Own} {Q:YS->Int->Prop}
  (h:DC P f args H fun d G=>(∃ e:Int,Q [] e/\d = .tup [.gs (.slice none 0 0) [], .int .i64 e]/\G=F)\/∃ (v:Value) (x:YS) (e:Int),Q x e/\d = .tup [.ar v x.length, .int .i64 e]/\G = .arr 1 v (x.map u8)::F):DC P f args H fun d G=>∃ (x:YS) (e:Int),Q x e/\d = .tup [.sl (x.map u8), .int .i64 e]/\G=F :=
 ⟨h.1,fun xs w hs hn hr=>(h.2 xs w hs hn hr).mono fun e0 w' ⟨u,d,H',he,s,ex,r,hd⟩=>by
   rcases hd with ⟨e,hq,hd,hG⟩ | ⟨v,x,e,hq,hd,hG⟩
   · subst hd hG
     exact ⟨u, .tup [.sl (([]:YS).map u8), .int .i64 e],_,he,s,ex,le.tup (Les.cons (le.gs rfl) (Les.cons le.rfl_ Les.nil)) _ _ _ r,[],e,hq,rfl,rfl⟩
   · subst hd hG
     obtain ⟨⟨g1,g2⟩,g3⟩:=Sim.frz (L1:=[]) (l:=x.map u8) (by rw [zaS];exact s) (by decide) (fun y hy=>by obtain ⟨z,_,rfl⟩:=List.mem_map.1 hy;rfl)
     rw [zaS] at g2
     have k1:Ext w' (.tail 1 v::F) w' F:=Ext.drop fun x hx=>List.mem_cons_of_mem _ hx
     have r1:R (stable w' F) w' u (.tup [.gs v (x.map u8), .int .i64 e]):=(R.cv g3 (Cv.tupL (CvL.cons (Cv.hit _) (CvL.cons (Cv.rfl _) CvL.nil))) (g2.rel r)).mono k1.cells
     exact ⟨u, .tup [.sl (x.map u8), .int .i64 e],F,he,g1.drop (List.sublist_cons_self _ _),(ex.trans g2).trans k1,le.tup (Les.cons (le.gs rfl) (Les.cons le.rfl_ Les.nil)) _ _ _ r1,x,e,hq,rfl,rfl⟩⟩
attribute [local irreducible] DW SeqD DV DOp DC DVX varM zay zcl
section
attribute [local push_cast 2000] zaS
end
end
section
theorem zfq (p:List UInt8):(p==p)=true:=by simp
theorem zfo (p:Int):(p==p)=true:=by simp
theorem zfr (p:Int):(p != p)=false:=by simp
theorem zfk (p:List UInt8):(p != p)=false:=by simp
theorem zq1 {p:Pk} (h:numM p=true):(p.kind=3/\0<p.qos)\/(p.kind≠3/\4<=p.kind/\p.kind<=11):=by
 unfold numM at h;split at h
 · exact .inl ⟨by assumption,by simpa using h⟩
 · exact .inr ⟨by assumption,by simpa using h⟩
theorem zqA {p:Pk} (h:numM p=false):(p.kind=3/\¬ 0<p.qos)\/(p.kind≠3/\(p.kind<4\/11<p.kind)):=by
 unfold numM at h;split at h
 · exact .inl ⟨by assumption,by simpa using h⟩
 · refine .inr ⟨by assumption,?_⟩
   simp only [decide_eq_false_iff_not] at h
   omega
attribute [local irreducible] DW SeqD DV DOp DC DVX chkB
theorem zkz (v a b:Int) (F:Own):(True)->DC Tryz.prog 196 [.int .i64 v, .int .i64 a, .int .i64 b] (([]:Own)++F) fun d G=>d = .bool (inM v a b)/\G=[]++F:=by
 intro hA
 refine DC.bodyS (n_:=15) (show Tryz.prog.funcs[196]? = some Tryz.f196 by kernel_rfl) rfl rfl (by rfl) ?_
 simp only [env0,List.cons_append,List.nil_append]
 have kw:=ksIs [0,1,2,6]
 have ow:=zai []
 repeat' (first
  | refine g_ ?_
  | ((with_reducible refine And.intro ?_ ?_);(exact sv))
  | (refine DW.cond (by rfl) ?_ ?_<;>(first | exact i0_ | (refine ic_ ?_;intro hb)))
  | ((with_reducible refine zaa ?_ ?_)<;>(intro hb;rw [hb];revert hb;(first | exact i0_ | (refine i_ ?_;intro hb))))
  | refine r_ ?_
  | refine k_ ?_
  | refine o_ ?_
  | refine f_ ?_
  | with_reducible intro b)
 all_goals first
 | ((refine ⟨_,_,le.of_eq ?_,⟨rfl,rfl⟩,SubP.refl⟩);congr 1;rw [Bool.eq_iff_iff];(simp [inM]<;>omega);done)
 | (trace_state;fail)
section
attribute [local push_cast 2000] zby zbk
theorem zqs (l:YS) (F:Own):(l.length<=1000000000)->DC Tryz.prog 249 [.str l] ([knF,knA]++F) fun d G=>d = .bool (zeT l)/\G=[knF,knA]++F:=by
 intro hA
 have hl:=hA
 refine DC.bodyS (n_:=12) (show Tryz.prog.funcs[249]? = some Tryz.f249 by kernel_rfl) rfl rfl (by rfl) ?_
 simp only [env0,List.cons_append,List.nil_append]
 have kw:=ksIs [0,2]
 have ow:=zai []
 repeat' (first
  | refine g_ ?_
  | ((with_reducible refine And.intro ?_ ?_);(exact sv))
  | (refine DW.cond (by rfl) ?_ ?_<;>(first | exact i0_ | (refine ic_ ?_;intro hb)))
  | ((with_reducible refine zaa ?_ ?_)<;>(intro hb;rw [hb];revert hb;(first | exact i0_ | (refine i_ ?_;intro hb))))
  | refine r_ ?_
  | refine k_ ?_
  | (refine p_ (zq0 _ _) ?_;rintro d H1 ⟨i1,rfl,hi1,rfl⟩<;>refine s_ ?_)
  | refine o_ ?_
  | refine f_ ?_
  | with_reducible intro b)
 all_goals first
 | ((refine ⟨_,_,le.of_eq ?_,⟨rfl,rfl⟩,?_⟩);rotate_left;(exact sub_);congr 1;unfold zeT;(try rw [<-hi1]);rw [Bool.eq_iff_iff];(simp_all<;>omega);done)
 | (trace_state;fail)
end
theorem zfJ (b:Bool) (n:Int) (F:Own):(True)->DC Tryz.prog 201 [.bool b, .int .i64 n] (([]:Own)++F) fun d G=>d = .int .i64 (if b=true then n else 0)/\G=[]++F:=by
 intro hA
 refine DC.bodyS (n_:=7) (show Tryz.prog.funcs[201]? = some Tryz.f201 by kernel_rfl) rfl rfl (by rfl) ?_
 simp only [env0,List.cons_append,List.nil_append]
 have kw:=ksIs [0,1,4,5]
 have ow:=zai []
 repeat' (first
  | refine g_ ?_
  | ((with_reducible refine And.intro ?_ ?_);(exact sv))
  | (refine DW.cond (by rfl) ?_ ?_<;>(first | exact i0_ | (refine ic_ ?_;intro hb)))
  | ((with_reducible refine zaa ?_ ?_)<;>(intro hb;rw [hb];revert hb;(first | exact i0_ | (refine i_ ?_;intro hb))))
  | refine r_ ?_
  | refine k_ ?_
  | refine o_ ?_
  | refine f_ ?_
  | with_reducible intro b)
 all_goals first
 | ((simp only [hb,↓reduceIte,Bool.false_eq_true];(first | exact fin_ | refine finq_ ?_);done))
 | (trace_state;fail)
theorem zlM {p:Prop} (h:p:=by first | exact sv | (simp [u8,V.one,V.n];omega) | (simp [u8,V.one,V.n]<;>fail) | fail):p:=h
section
attribute [local push_cast 2000] zaS
theorem znU (v:Value) (n:Nat) (l:YS) (z:Int) (F:Own):(n=l.length/\l.length<=2000000000)->DC Tryz.prog 204 [.ar v n, .int .i64 z] (.arr 1 v (l.map u8)::([]:Own)++F) fun d G=>∃ v':Value,d = .ar v' (l++twoM z).length/\G = .arr 1 v' ((l++twoM z).map u8)::F:=by
 intro hA
 obtain ⟨hn,hl⟩:=hA
 refine DC.bodyS (n_:=13) (show Tryz.prog.funcs[204]? = some Tryz.f204 by kernel_rfl) rfl rfl (by rfl) ?_
 simp only [env0,List.cons_append,List.nil_append]
 have kw:=ksIs [0,1,4]
 have ow:=zai []
 repeat' (first
  | refine g_ ?_
  | ((with_reducible refine And.intro ?_ ?_);(exact zlM))
  | (refine DW.cond (by rfl) ?_ ?_<;>(first | exact i0_ | (refine ic_ ?_;intro hb)))
  | ((with_reducible refine zaa ?_ ?_)<;>(intro hb;rw [hb];revert hb;(first | exact i0_ | (refine i_ ?_;intro hb))))
  | refine r_ ?_
  | refine k_ ?_
  | refine o_ ?_
  | refine f_ ?_
  | with_reducible intro b)
 all_goals first
 | ((rw [<-zm4]);refine ⟨_,_,le.of_eq ?_,⟨b,rfl,rfl⟩,?_⟩;(rw [hn];simp [zbj]);(exact sub_);done)
 | (trace_state;fail)
end
section
attribute [local push_cast 2000] zaS zaU zaq
theorem zkX (z:Int) (F:Own):(True)->DC Tryz.prog 204 [.gs (.slice none 0 0) [], .int .i64 z] (([]:Own)++F) fun d G=>∃ v':Value,d = .ar v' (twoM z).length/\G = .arr 1 v' ((twoM z).map u8)::F:=by
 intro hA
 refine DC.bodyS (n_:=13) (show Tryz.prog.funcs[204]? = some Tryz.f204 by kernel_rfl) rfl rfl (by rfl) ?_
 simp only [env0,List.cons_append,List.nil_append]
 have kw:=ksIs [0,1,4]
 have ow:=zai []
 repeat' (first
  | refine g_ ?_
  | ((with_reducible refine And.intro ?_ ?_);(exact sv_twoNW_dc))
  | (refine DW.cond (by rfl) ?_ ?_<;>(first | exact i0_ | (refine ic_ ?_;intro hb)))
  | ((with_reducible refine zaa ?_ ?_)<;>(intro hb;rw [hb];revert hb;(first | exact i0_ | (refine i_ ?_;intro hb))))
  | refine r_ ?_
  | refine k_ ?_
  | ((first | (refine DOp.app0a_ [12] rfl rfl rfl rfl (by intro h;cases h) ?_))<;>(refine s_ ?_))
  | refine o_ ?_
  | refine f_ ?_
  | with_reducible intro b)
 all_goals first
 | ((have e:=zm4 [] z);(simp only [List.map_nil,List.nil_append] at e ⊢);(rw [<-e]);refine ⟨_,_,le.of_eq ?_,⟨b,rfl,rfl⟩,?_⟩;rfl;(exact sub_);done)
 | (trace_state;fail)
end
section
attribute [local push_cast 2000] zaS zbj
end
theorem zf1 {p:Prop} (h:p:=by first | exact sv | (simp [u8,V.one,V.n];omega) | (simp [u8,V.one,V.n]<;>fail) | fail):p:=h
section
attribute [local push_cast 2000] zaS zbj
theorem ziv (t:YS) (F:Own):(t.length<=1000000000)->DC Tryz.prog 202 [.gs (.slice none 0 0) [], .str t] (([]:Own)++F) fun d G=>∃ v':Value,d = .ar v' (zc0 t).length/\G = .arr 1 v' ((zc0 t).map u8)::F:=by
 intro hA
 have ht:=hA
 refine DC.bodyS (n_:=11) (show Tryz.prog.funcs[202]? = some Tryz.f202 by kernel_rfl) rfl rfl (by rfl) ?_
 simp only [env0,List.cons_append,List.nil_append]
 have kw:=ksIs [0,1,4]
 have ow:=zai []
 repeat' (first
  | refine g_ ?_
  | ((with_reducible refine And.intro ?_ ?_);(exact zf1))
  | (refine DW.cond (by rfl) ?_ ?_<;>(first | exact i0_ | (refine ic_ ?_;intro hb)))
  | ((with_reducible refine zaa ?_ ?_)<;>(intro hb;rw [hb];revert hb;(first | exact i0_ | (refine i_ ?_;intro hb))))
  | refine r_ ?_
  | refine k_ ?_
  | (refine p_ (zkX _ _) ?_ (ha:=by exact zf1);rintro d H1 ⟨v1,rfl,rfl⟩<;>refine s_ ?_)
  | refine o_ ?_
  | refine f_ ?_
  | with_reducible intro b)
 all_goals first
 | ((rw [znR]);refine ⟨_,_,le.of_eq ?_,⟨b,rfl,rfl⟩,?_⟩;(rw [zbx]);(exact sub_);done)
 | (trace_state;fail)
end
theorem ze1 (p:Pk) (F:Own):(True)->DC Tryz.prog 203 [.agg [.int .i64 p.kind, .bool p.dup, .bool p.retain, .int .i64 p.qos, .int .i64 p.id, .str p.topic, .sl (p.payload.map u8), .int .i64 p.level, .str p.client, .bool p.clean, .int .i64 p.keep, .bool p.hasWill, .str p.wtopic, .sl (p.wpay.map u8), .int .i64 p.wqos, .bool p.wretain, .bool p.hasUser, .bool p.hasPass, .str p.user, .sl (p.pass.map u8), .bool p.present, .int .i64 p.code, .sl (p.subs.map encU), .sl (p.codes.map (V.int .i64))]] (([]:Own)++F) fun d G=>d = .bool (numM p)/\G=[]++F:=by
 intro hA
 refine DC.bodyS (n_:=19) (show Tryz.prog.funcs[203]? = some Tryz.f203 by kernel_rfl) rfl rfl (by rfl) ?_
 simp only [env0,List.cons_append,List.nil_append]
 have kw:=ksIs [0,1,2,4,5,10]
 have ow:=zai []
 repeat' (first
  | refine g_ ?_
  | ((with_reducible refine And.intro ?_ ?_);(exact sv))
  | (refine DW.cond (by rfl) ?_ ?_<;>(first | exact i0_ | (refine ic_ ?_;intro hb)))
  | ((with_reducible refine zaa ?_ ?_)<;>(intro hb;rw [hb];revert hb;(first | exact i0_ | (refine i_ ?_;intro hb))))
  | refine r_ ?_
  | refine k_ ?_
  | refine o_ ?_
  | refine f_ ?_
  | with_reducible intro b)
 all_goals first
 | ((refine ⟨_,_,le.of_eq ?_,⟨rfl,rfl⟩,?_⟩);rotate_left;(exact sub_);congr 1;unfold numM;(simp_all<;>omega);done)
 | ((refine ⟨_,_,le.of_eq ?_,⟨rfl,rfl⟩,?_⟩);rotate_left;(exact sub_);congr 1;unfold numM;rw [Bool.eq_iff_iff];(simp_all<;>omega);done)
 | (trace_state;fail)
section
attribute [local push_cast 2000] zby zbk zfq zfo zfr zfk
theorem zjR (l:YS) (F:Own):(True)->DC Tryz.prog 244 [.sl (l.map u8), .sl (l.map u8)] (([]:Own)++F) fun d G=>d = .bool true/\G=[]++F:=by
 intro hA
 refine DC.bodyS (n_:=10) (show Tryz.prog.funcs[244]? = some Tryz.f244 by kernel_rfl) rfl rfl (by rfl) ?_
 simp only [env0,List.cons_append,List.nil_append]
 have kw:=ksIs [0,1,4]
 have ow:=zai []
 repeat' (first
  | refine g_ ?_
  | ((with_reducible refine And.intro ?_ ?_);(exact sv))
  | (refine DW.cond (by rfl) ?_ ?_<;>(first | exact i0_ | (refine ic_ ?_;intro hb)))
  | ((with_reducible refine zaa ?_ ?_)<;>(intro hb;rw [hb];revert hb;(first | exact i0_ | (refine i_ ?_;intro hb))))
  | refine r_ ?_
  | refine k_ ?_
  | refine o_ ?_
  | refine f_ ?_
  | with_reducible intro b)
 (first | exact fin_ | refine finq_ ?_)
 all_goals rfl
end
section
attribute [local push_cast 2000] zby zbk zfq zfo zfr zfk
theorem eqsI_dc (l:List Int) (F:Own):(l.length<=1000000)->DC Tryz.prog 248 [.sl (l.map (V.int .i64)), .sl (l.map (V.int .i64))] (([]:Own)++F) fun d G=>d = .bool true/\G=[]++F:=by
 intro hA
 have hl:=hA
 refine DC.bodyS (n_:=26) (show Tryz.prog.funcs[248]? = some Tryz.f248 by kernel_rfl) rfl rfl (by rfl) ?_
 simp only [env0,List.cons_append,List.nil_append]
 have kw:=ksIs [0,1,4,5,10,12,13,14,24]
 have ow:=zai []
 have dw6:=drIs 6 [] [3,7]
 repeat' (first
  | ((with_reducible refine DW.loopB 0 (X:=Nat) (fun x=>x<=l.length) (fun x=>[(0, .sl (l.map (V.int .i64))),(1, .sl (l.map (V.int .i64))),(12, .int .i64 l.length),(13, .int .i64 x)]) (fun x=>([]:Own)) (fun x=>l.length - x) (0) ?_ ?_ ?_);exact (Nat.zero_le _);(simp [Sub,get,zbu]<;>fail);(try simp only [List.cons_append,List.nil_append]);refine pl_ ?_;intro k hk;(try simp only [List.cons_append,List.nil_append]);(try simp only at hk))
  | refine g_ ?_
  | ((with_reducible refine And.intro ?_ ?_);(exact sv))
  | (refine DW.cond (by rfl) ?_ ?_<;>(first | exact i0_ | (refine ic_ ?_;intro hb)))
  | ((with_reducible first | refine zaa ?_ ?_ | refine zak ?_ ?_)<;>(intro hb;rw [hb];revert hb;(first | exact i0_ | (refine i_ ?_;intro hb))))
  | refine r_ ?_
  | refine d_ ?_
  | refine k_ ?_
  | refine vo_ ?_
  | refine o_ ?_
  | refine f_ ?_
  | refine vm_ ?_
  | with_reducible intro b)
 all_goals first
 | ((first | exact fin_ | refine finq_ ?_);done)
 | (refine ⟨k+1,?_,?_,?_,?_⟩;(((try simp only);omega));(((try simp only);omega));(simp [Sub,get]<;>(fail));(try dsimp only);(exact sub_);done)
 | (trace_state;fail)
end
section
attribute [local push_cast 2000] zby zbk zfq zfo zfr zfk encU
theorem eqsU_dc (l:List (YS×Int)) (F:Own):(l.length<=1000000)->DC Tryz.prog 247 [.sl (l.map encU), .sl (l.map encU)] (([]:Own)++F) fun d G=>d = .bool true/\G=[]++F:=by
 intro hA
 have hl:=hA
 refine DC.bodyS (n_:=26) (show Tryz.prog.funcs[247]? = some Tryz.f247 by kernel_rfl) rfl rfl (by rfl) ?_
 simp only [env0,List.cons_append,List.nil_append]
 have kw:=ksIs [0,1,4,5,10,12,13,14,24]
 have ow:=zai []
 have dw6:=drIs 6 [] [3,7]
 repeat' (first
  | ((with_reducible refine DW.loopB 0 (X:=Nat) (fun x=>x<=l.length) (fun x=>[(0, .sl (l.map encU)),(1, .sl (l.map encU)),(12, .int .i64 l.length),(13, .int .i64 x)]) (fun x=>([]:Own)) (fun x=>l.length - x) (0) ?_ ?_ ?_);exact (Nat.zero_le _);(simp [Sub,get,zbu]<;>fail);(try simp only [List.cons_append,List.nil_append]);refine pl_ ?_;intro k hk;(try simp only [List.cons_append,List.nil_append]);(try simp only at hk))
  | refine g_ ?_
  | ((with_reducible refine And.intro ?_ ?_);(exact sv))
  | (refine DW.cond (by rfl) ?_ ?_<;>(first | exact i0_ | (refine ic_ ?_;intro hb)))
  | ((with_reducible first | refine zaa ?_ ?_ | refine zak ?_ ?_)<;>(intro hb;rw [hb];revert hb;(first | exact i0_ | (refine i_ ?_;intro hb))))
  | refine r_ ?_
  | refine d_ ?_
  | refine k_ ?_
  | refine vo_ ?_
  | refine o_ ?_
  | refine f_ ?_
  | refine vm_ ?_
  | with_reducible intro b)
 all_goals first
 | ((first | exact fin_ | refine finq_ ?_);done)
 | (refine ⟨k+1,?_,?_,?_,?_⟩;(((try simp only);omega));(((try simp only);omega));(simp [Sub,get]<;>(fail));(try dsimp only);(exact sub_);done)
 | (trace_state;fail)
end
section
attribute [local push_cast 2000] zby zbk zfq zfo zfr zfk
theorem zn5 (a1 a2:YS) (a3:Int) (a4:Bool) (F:Own):(True)->DC Tryz.prog 246 [.agg [.str a1, .sl (a2.map u8), .int .i64 a3, .bool a4], .agg [.str a1, .sl (a2.map u8), .int .i64 a3, .bool a4]] (([]:Own)++F) fun d G=>d = .bool true/\G=[]++F:=by
 intro hA
 refine DC.bodyS (n_:=31) (show Tryz.prog.funcs[246]? = some Tryz.f246 by kernel_rfl) rfl rfl (by rfl) ?_
 simp only [env0,List.cons_append,List.nil_append]
 have kw:=ksIs [0,1,2,3,4]
 have ow:=zai []
 repeat' (first
  | refine g_ ?_
  | ((with_reducible refine And.intro ?_ ?_);(exact sv))
  | (refine DW.cond (by rfl) ?_ ?_<;>(first | exact i0_ | (refine ic_ ?_;intro hb)))
  | ((with_reducible refine zaa ?_ ?_)<;>(intro hb;rw [hb];revert hb;(first | exact i0_ | (refine i_ ?_;intro hb))))
  | refine r_ ?_
  | refine k_ ?_
  | (refine q_ (zjR _ _) ?_)
  | refine o_ ?_
  | refine f_ ?_
  | with_reducible intro b)
 (first | exact fin_ | refine finq_ ?_)
 all_goals rfl
end
section
attribute [local push_cast 2000] List.append_eq List.cons_append List.nil_append zby zbk zfq zfo zfr zfk
theorem zli (p:Pk) (F:Own):(True)->DC Tryz.prog 245 [.agg [.int .i64 p.kind, .bool p.dup, .bool p.retain, .int .i64 p.qos, .int .i64 p.id, .str p.topic, .sl (p.payload.map u8), .int .i64 p.level, .str p.client, .bool p.clean, .int .i64 p.keep, .bool p.hasWill, .str p.wtopic, .sl (p.wpay.map u8), .int .i64 p.wqos, .bool p.wretain, .bool p.hasUser, .bool p.hasPass, .str p.user, .sl (p.pass.map u8), .bool p.present, .int .i64 p.code, .sl (p.subs.map encU), .sl (p.codes.map (V.int .i64))], .agg [.int .i64 p.kind, .bool p.dup, .bool p.retain, .int .i64 p.qos, .int .i64 p.id, .str p.topic, .sl (p.payload.map u8), .int .i64 p.level, .str p.client, .bool p.clean, .int .i64 p.keep, .bool p.hasWill, .str p.wtopic, .sl (p.wpay.map u8), .int .i64 p.wqos, .bool p.wretain, .bool p.hasUser, .bool p.hasPass, .str p.user, .sl (p.pass.map u8), .bool p.present, .int .i64 p.code, .sl (p.subs.map encU), .sl (p.codes.map (V.int .i64))]] (([]:Own)++F) fun d G=>d = .bool true/\G=[]++F:=by
 intro hA
 refine DC.bodyS (n_:=80) (show Tryz.prog.funcs[245]? = some Tryz.f245 by kernel_rfl) rfl rfl (by rfl) ?_
 simp only [env0,List.cons_append,List.nil_append]
 have kw:=ksIs [0,1,2,3,4]
 have ow:=zai []
 repeat' (first
  | refine g_ ?_
  | ((with_reducible refine And.intro ?_ ?_);(exact sv))
  | (refine DW.cond (by rfl) ?_ ?_<;>(first | exact i0_ | (refine ic_ ?_;intro hb)))
  | ((with_reducible refine zaa ?_ ?_)<;>(intro hb;rw [hb];revert hb;(first | exact i0_ | (refine i_ ?_;intro hb))))
  | refine r_ ?_
  | refine k_ ?_
  | (refine q_ (zjR _ _) ?_)
  | refine o_ ?_
  | refine f_ ?_
  | with_reducible intro b)
 (first | exact fin_ | refine finq_ ?_)
 all_goals rfl
end
section
attribute [local push_cast 2000] List.append_eq List.cons_append List.nil_append zby zbk zfq zfo zfr zfk
theorem zkS (p:Pk) (F:Own):(PkN p)->DC Tryz.prog 197 [.agg [.int .i64 p.kind, .bool p.dup, .bool p.retain, .int .i64 p.qos, .int .i64 p.id, .str p.topic, .sl (p.payload.map u8), .int .i64 p.level, .str p.client, .bool p.clean, .int .i64 p.keep, .bool p.hasWill, .str p.wtopic, .sl (p.wpay.map u8), .int .i64 p.wqos, .bool p.wretain, .bool p.hasUser, .bool p.hasPass, .str p.user, .sl (p.pass.map u8), .bool p.present, .int .i64 p.code, .sl (p.subs.map encU), .sl (p.codes.map (V.int .i64))], .agg [.int .i64 p.kind, .bool p.dup, .bool p.retain, .int .i64 p.qos, .int .i64 p.id, .str p.topic, .sl (p.payload.map u8), .int .i64 p.level, .str p.client, .bool p.clean, .int .i64 p.keep, .bool p.hasWill, .str p.wtopic, .sl (p.wpay.map u8), .int .i64 p.wqos, .bool p.wretain, .bool p.hasUser, .bool p.hasPass, .str p.user, .sl (p.pass.map u8), .bool p.present, .int .i64 p.code, .sl (p.subs.map encU), .sl (p.codes.map (V.int .i64))]] (([]:Own)++F) fun d G=>d = .bool true/\G=[]++F:=by
 intro hA
 have hp:=hA
 refine DC.bodyS (n_:=78) (show Tryz.prog.funcs[197]? = some Tryz.f197 by kernel_rfl) rfl rfl (by rfl) ?_
 simp only [env0,List.cons_append,List.nil_append]
 have kw:=ksIs [0,1,2,3,4]
 have ow:=zai []
 have s1:=hp.subs;have s2:=hp.codes
 repeat' (first
  | refine g_ ?_
  | ((with_reducible refine And.intro ?_ ?_);(exact sv))
  | (refine DW.cond (by rfl) ?_ ?_<;>(first | exact i0_ | (refine ic_ ?_;intro hb)))
  | ((with_reducible refine zaa ?_ ?_)<;>(intro hb;rw [hb];revert hb;(first | exact i0_ | (refine i_ ?_;intro hb))))
  | refine r_ ?_
  | refine k_ ?_
  | (refine q_ (zjR _ _) ?_)
  | (refine q_ (zli _ _) ?_)
  | (refine q_ (zn5 _ _ _ _ _) ?_)
  | (refine q_ (eqsU_dc _ _) ?_)
  | (refine q_ (eqsI_dc _ _) ?_)
  | refine o_ ?_
  | refine f_ ?_
  | with_reducible intro b)
 (first | exact fin_ | refine finq_ ?_)
 all_goals rfl
end
theorem zfm {P Q:Prop} (q:Q) (h:Hid Q->P:=by (intro q;simp (maxSteps:=1000000) (disch:=omega) only [push_cast,↓reduceIte,reduceCtorEq,Nat.reduceAdd,Nat.reduceMul,Nat.reduceLT,Nat.reduceLeDiff,Nat.reduceEqDiff,Nat.reduceSub,Int.reduceToNat,Int.reduceLT,Int.reduceLE,Int.reduceAdd,Int.reduceSub,Int.reduceMul,Int.reduceNeg,Nat.reduceBEq,Int.reduceBEq,Int.reduceBNe,Nat.reduceBNe,Int.reduceEq,hnum];exact q.1)):P:=h ⟨q⟩
theorem zpC (p:Pk) (F:Own):(True)->DC Tryz.prog 198 [.agg [.int .i64 p.kind, .bool p.dup, .bool p.retain, .int .i64 p.qos, .int .i64 p.id, .str p.topic, .sl (p.payload.map u8), .int .i64 p.level, .str p.client, .bool p.clean, .int .i64 p.keep, .bool p.hasWill, .str p.wtopic, .sl (p.wpay.map u8), .int .i64 p.wqos, .bool p.wretain, .bool p.hasUser, .bool p.hasPass, .str p.user, .sl (p.pass.map u8), .bool p.present, .int .i64 p.code, .sl (p.subs.map encU), .sl (p.codes.map (V.int .i64))]] (([]:Own)++F) fun d G=>d = .agg [.int .i64 (onlyM p).kind, .bool (onlyM p).dup, .bool (onlyM p).retain, .int .i64 (onlyM p).qos, .int .i64 (onlyM p).id, .str (onlyM p).topic, .sl ((onlyM p).payload.map u8), .int .i64 (onlyM p).level, .str (onlyM p).client, .bool (onlyM p).clean, .int .i64 (onlyM p).keep, .bool (onlyM p).hasWill, .str (onlyM p).wtopic, .sl ((onlyM p).wpay.map u8), .int .i64 (onlyM p).wqos, .bool (onlyM p).wretain, .bool (onlyM p).hasUser, .bool (onlyM p).hasPass, .str (onlyM p).user, .sl ((onlyM p).pass.map u8), .bool (onlyM p).present, .int .i64 (onlyM p).code, .sl ((onlyM p).subs.map encU), .sl ((onlyM p).codes.map (V.int .i64))]/\G=[]++F:=by
 intro hA
 refine DC.bodyS (n_:=94) (show Tryz.prog.funcs[198]? = some Tryz.f198 by kernel_rfl) rfl rfl (by rfl) ?_
 simp only [env0,List.cons_append,List.nil_append]
 have kw:=ksIs [0,1,2,3,8,13,14,38,43,48,52,60,82,88]
 have ow:=zai []
 have dw6:=drIs 6 [15,17,19,21,23,25,27] [1]
 have dw14:=drIs 14 [5,7] [1]
 have dw16:=drIs 16 [16,18,20,22,24] [1,4]
 have rw_:=rsIs [.cell 2 29]
 have hnum:True:=trivial
 clear hnum
 rcases hnum:numM p with _ | _
 have hnm:=zqA hnum
 rotate_left
 have hnm:=zq1 hnum
 all_goals skip
 repeat' (first
  | refine g_ ?_
  | ((with_reducible refine And.intro ?_ ?_);(exact sv))
  | (refine DW.cond (by rfl) ?_ ?_<;>(first | exact i0_ | (intro hb;(try simp only [↓reduceCtorEq,not_true_eq_false,not_false_eq_true,hbs,Int.reduceBEq,Int.reduceBNe,Int.reduceEq] at hb);(try refine zfm ?_))))
  | ((with_reducible first | refine zaa ?_ ?_ | refine zak ?_ ?_)<;>(intro hb;rw [hb];revert hb;(first | exact i0_ | (intro hb;(try simp only [↓reduceCtorEq,not_true_eq_false,not_false_eq_true,hbs,Int.reduceBEq,Int.reduceBNe,Int.reduceEq] at hb);(try refine zfm ?_)))))
  | ((first | refine rn_ ?_ | refine dn_ ?_ | refine kn_ ?_)<;>(refine zfm ?_))
  | ((refine dm_ ?_);(first | (refine v_ (ze1 _ _) ?_ (hk:=fun q=>q.1);refine zfm ?_)))
  | ((refine von_ ?_);refine zfm ?_)
  | (refine q_ (ze1 _ _) ?_ (hk:=fun q=>q.1);refine zfm ?_)
  | ((refine on_ ?_);refine zfm ?_)
  | refine f_ ?_
  | refine vm_ ?_
  | with_reducible intro b)
 all_goals first
 | ((have hq0:¬ (0<p.qos):=by omega);(refine ⟨_,_,?_,⟨rfl,rfl⟩,?_⟩);rotate_left;(exact sub_);(clear hnm hnum);(unfold onlyM);(simp only [*,↓reduceIte,Bool.false_eq_true,reduceCtorEq,or_true,true_or,or_self,Int.reduceEq,if_true,if_false,Bool.and_true,Bool.and_false,decide_true,decide_false]);(refine le.agg ?_);(repeat (first | exact Les.nil | refine Les.cons le.rfl_ ?_ | refine Les.cons (le.gs rfl) ?_));done)
 | ((have hq0:0<p.qos:=by omega);(refine ⟨_,_,?_,⟨rfl,rfl⟩,?_⟩);rotate_left;(exact sub_);(clear hnm hnum);(unfold onlyM);(simp only [*,↓reduceIte,Bool.false_eq_true,reduceCtorEq,or_true,true_or,or_self,Int.reduceEq,if_true,if_false,Bool.and_true,Bool.and_false,decide_true,decide_false]);(refine le.agg ?_);(repeat (first | exact Les.nil | refine Les.cons le.rfl_ ?_ | refine Les.cons (le.gs rfl) ?_));done)
 | ((have hk5:p.kind=4\/p.kind=5\/p.kind=6\/p.kind=7\/p.kind=11:=by omega);(refine ⟨_,_,?_,⟨rfl,rfl⟩,?_⟩);rotate_left;(exact sub_);(clear hnm hnum);(unfold onlyM);(simp only [*,↓reduceIte,Bool.false_eq_true,reduceCtorEq,or_true,true_or,or_self,Int.reduceEq,if_true,if_false,Bool.and_true,Bool.and_false,decide_true,decide_false]);(refine le.agg ?_);(repeat (first | exact Les.nil | refine Les.cons le.rfl_ ?_ | refine Les.cons (le.gs rfl) ?_));done)
 | ((have hk5:¬ (p.kind=4\/p.kind=5\/p.kind=6\/p.kind=7\/p.kind=11):=by omega);(refine ⟨_,_,?_,⟨rfl,rfl⟩,?_⟩);rotate_left;(exact sub_);(clear hnm hnum);(unfold onlyM);(simp only [*,↓reduceIte,Bool.false_eq_true,reduceCtorEq,or_true,true_or,or_self,Int.reduceEq,if_true,if_false,Bool.and_true,Bool.and_false,decide_true,decide_false]);(refine le.agg ?_);(repeat (first | exact Les.nil | refine Les.cons le.rfl_ ?_ | refine Les.cons (le.gs rfl) ?_));done)
 | ((refine ⟨_,_,?_,⟨rfl,rfl⟩,?_⟩);rotate_left;(exact sub_);(clear hnm hnum);(unfold onlyM);(simp only [*,↓reduceIte,Bool.false_eq_true,reduceCtorEq,or_true,true_or,or_self,Int.reduceEq,if_true,if_false,Bool.and_true,Bool.and_false,decide_true,decide_false]);(refine le.agg ?_);(repeat (first | exact Les.nil | refine Les.cons le.rfl_ ?_ | refine Les.cons (le.gs rfl) ?_));done)
 | (trace_state;fail)
end
section
def valM (p:Pk):Bool:=(!numM p||inM p.id 1 65535)&&(if p.kind=2 then inM p.code 0 5&&(decide (p.code=0) || !p.present) else if p.kind=3 then inM p.qos 0 2&&zeT p.topic else if p.kind=9 then decide (0<p.codes.length)&&p.codes.all zdo else true)
theorem low7W:∀ r:Fin 256,IntKind.u8.wrap ((BitVec.ofInt IntKind.u8.bits ((r.val:Nat):Int) &&& ~~~ BitVec.ofInt IntKind.u8.bits 128).toNat:Int)=((r.val%128:Nat):Int):=by decide
theorem hi7W:∀ r:Fin 128,IntKind.u8.wrap ((BitVec.ofInt IntKind.u8.bits ((r.val:Nat):Int)|||BitVec.ofInt IntKind.u8.bits 128).toNat:Int)=((r.val+128:Nat):Int):=by decide
theorem sh7W (n:Int) (k:Nat) (h0:0<=n) (h1:n<268435456) (hk:k<=3):IntKind.u8.wrap ((BitVec.ofInt IntKind.u8.bits (IntKind.u8.wrap (n.fdiv (2 ^ min (7 * (k:Int)).toNat IntKind.i64.bits))) &&& ~~~ BitVec.ofInt IntKind.u8.bits 128).toNat:Int)=((n.toNat / 128 ^ k%128:Nat):Int):=by
 have e:=fdiv7 n.toNat k hk
 rw [Int.toNat_of_nonneg h0] at e
 rw [e]
 have e2:IntKind.u8.wrap ((n.toNat / 128 ^ k:Nat):Int)=((n.toNat / 128 ^ k%256:Nat):Int):=by simp [IntKind.wrap,IntKind.bits,IntKind.signed]
 rw [e2]
 have:=low7W ⟨n.toNat / 128 ^ k%256,Nat.mod_lt _ (by decide)⟩
 simp only at this
 rw [this,Nat.mod_mod_of_dvd _ (by decide)]
theorem or7W (r:Nat) (h:r<128):IntKind.u8.wrap ((BitVec.ofInt IntKind.u8.bits ((r:Nat):Int)|||BitVec.ofInt IntKind.u8.bits 128).toNat:Int)=((r+128:Nat):Int):=hi7W ⟨r,h⟩
theorem u8_of (r:Nat) (h:r<256):V.int .u8 ((r:Nat):Int)=u8 (zb0 ((r:Nat):Int)):=u8_bW (by omega)
attribute [local irreducible] DW SeqD DV DOp DC DVX numM inM zeT zdo zdf varM
theorem wv1_dc (c:Int) (F:Own):(True)->DC Tryz.prog 252 [.int .i64 c] (([]:Own)++F) fun d G=>d = .bool (!zdo c)/\G=[]++F:=by
 intro hA
 refine DC.bodyS (n_:=10) (show Tryz.prog.funcs[252]? = some Tryz.f252 by kernel_rfl) rfl rfl (by rfl) ?_
 simp only [env0,List.cons_append,List.nil_append]
 have kw:=ksIs [0,2]
 have ow:=zai []
 repeat' (first
  | refine g_ ?_
  | ((with_reducible refine And.intro ?_ ?_);(exact sv))
  | (refine DW.cond (by rfl) ?_ ?_<;>(first | exact i0_ | (refine ic_ ?_;intro hb)))
  | ((with_reducible refine zaa ?_ ?_)<;>(intro hb;rw [hb];revert hb;(first | exact i0_ | (refine i_ ?_;intro hb))))
  | refine r_ ?_
  | refine k_ ?_
  | (refine q_ (zkz _ _ _ _) ?_)
  | refine o_ ?_
  | refine f_ ?_
  | with_reducible intro b)
 all_goals first
 | ((refine ⟨_,_,le.of_eq ?_,⟨rfl,rfl⟩,?_⟩);rotate_left;(exact sub_);congr 1;unfold zdo;rw [hb];rw [Bool.eq_iff_iff];(simp<;>done);done)
 | (trace_state;fail)
theorem wif_dc (l:List Int) (F:Own):(l.length<=1000000)->DC Tryz.prog 281 [.sl (l.map (V.int .i64)), .fn (.func 252) [] []] (([]:Own)++F) fun d G=>∃ i:Int,decide (i ≥ 0) = !l.all zdo/\d = .int .i64 i/\G=[]++F:=by
 intro hA
 have hl:=hA
 refine DC.bodyS (n_:=19) (show Tryz.prog.funcs[281]? = some Tryz.f281 by kernel_rfl) rfl rfl (by rfl) ?_
 simp only [env0,List.cons_append,List.nil_append]
 have kw:=ksIs [0,1,4,5,7,8,9,16]
 have ow:=zai []
 repeat' (first
  | ((with_reducible refine DW.loopB 0 (X:=Nat) (fun x=>x<=l.length/\(l.take x).all zdo=true) (fun x=>[(0, .sl (l.map (V.int .i64))),(1, .fn (.func 252) [] []),(7, .int .i64 l.length),(8, .int .i64 x)]) (fun x=>([]:Own)) (fun x=>l.length - x) (0) ?_ ?_ ?_);exact (⟨Nat.zero_le _,rfl⟩);(simp [Sub,get,zbu]<;>fail);(try simp only [List.cons_append,List.nil_append]);refine pl_ ?_;intro k ⟨hk,hks⟩;(try simp only [List.cons_append,List.nil_append]);(try simp only at hk hks))
  | refine g_ ?_
  | ((with_reducible refine And.intro ?_ ?_);(exact sv))
  | (refine DW.cond (by rfl) ?_ ?_<;>(first | exact i0_ | (refine ic_ ?_;intro hb)))
  | ((with_reducible refine zaa ?_ ?_)<;>(intro hb;rw [hb];revert hb;(first | exact i0_ | (refine i_ ?_;intro hb))))
  | refine r_ ?_
  | refine k_ ?_
  | (refine q_ (wv1_dc _ _) ?_)
  | refine o_ ?_
  | refine f_ ?_
  | with_reducible intro b)
 all_goals first
 | ((have hc:zdo (l.getD k default)=false:=by simpa using hb)
    refine ⟨_,_,le.rfl_,⟨(k:Int),?_,rfl,rfl⟩,SubP.refl⟩;(rw [zlt (f:=zdo) (k:=k) (by omega) hc];simp;done))
 | ((have hc:zdo (l.getD k default)=true:=by simpa using hb)
    refine ⟨k+1,⟨by (try simp only);omega,zld hks (by omega) hc⟩,by (try simp only);omega,by simp [Sub,get],?_⟩;((try dsimp only);(exact sub_));done)
 | ((have e:l.all zdo=true:=by rwa [List.take_of_length_le (by omega)] at hks)
    refine ⟨_,_,le.rfl_,⟨-1,?_,rfl,rfl⟩,SubP.refl⟩;(rw [e];rfl))
 | (trace_state;fail)
theorem wcf_dc (l:List Int) (F:Own):(l.length<=1000000)->DC Tryz.prog 251 [.sl (l.map (V.int .i64)), .fn (.func 252) [] []] (([]:Own)++F) fun d G=>d = .bool (!l.all zdo)/\G=[]++F:=by
 intro hA
 have hl:=hA
 refine DC.bodyS (n_:=9) (show Tryz.prog.funcs[251]? = some Tryz.f251 by kernel_rfl) rfl rfl (by rfl) ?_
 simp only [env0,List.cons_append,List.nil_append]
 have kw:=ksIs [0,1,4]
 have ow:=zai []
 repeat' (first
  | refine g_ ?_
  | ((with_reducible refine And.intro ?_ ?_);(exact sv))
  | (refine DW.cond (by rfl) ?_ ?_<;>(first | exact i0_ | (refine ic_ ?_;intro hb)))
  | ((with_reducible refine zaa ?_ ?_)<;>(intro hb;rw [hb];revert hb;(first | exact i0_ | (refine i_ ?_;intro hb))))
  | refine r_ ?_
  | refine k_ ?_
  | (refine p_ (wif_dc _ _) ?_;rintro d H1 ⟨i,hi,rfl,rfl⟩<;>refine s_ ?_)
  | refine o_ ?_
  | refine f_ ?_
  | with_reducible intro b)
 all_goals first
 | ((rw [<-hi]);(first | exact fin_ | refine finq_ ?_);done)
 | ((refine ⟨_,_,le.of_eq ?_,⟨rfl,rfl⟩,?_⟩);rotate_left;(exact sub_);(rw [<-hi]);done)
 | (trace_state;fail)
section
attribute [local push_cast 2000] List.append_eq List.cons_append List.nil_append
theorem zmF (p:Pk) (F:Own):(PkN p/\(p.kind≠1/\p.kind≠8/\p.kind≠10))->DC Tryz.prog 199 [.agg [.int .i64 p.kind, .bool p.dup, .bool p.retain, .int .i64 p.qos, .int .i64 p.id, .str p.topic, .sl (p.payload.map u8), .int .i64 p.level, .str p.client, .bool p.clean, .int .i64 p.keep, .bool p.hasWill, .str p.wtopic, .sl (p.wpay.map u8), .int .i64 p.wqos, .bool p.wretain, .bool p.hasUser, .bool p.hasPass, .str p.user, .sl (p.pass.map u8), .bool p.present, .int .i64 p.code, .sl (p.subs.map encU), .sl (p.codes.map (V.int .i64))]] ([knF,knA]++F) fun d G=>d = .bool (valM p)/\G=[knF,knA]++F:=by
 intro hA
 obtain ⟨hp,hk1,hk8,hk10⟩:=hA
 refine DC.bodyS (n_:=114) (show Tryz.prog.funcs[199]? = some Tryz.f199 by kernel_rfl) rfl rfl (by rfl) ?_
 simp only [env0,List.cons_append,List.nil_append]
 have kw:=ksIs [0,1,2,10,12,13,67,82,92,97,102]
 have ow:=zai []
 have s2:=hp.codes;have h1:=hp.topic
 have hnum:True:=trivial
 clear hnum
 rcases hnum:numM p with _ | _
 all_goals skip
 repeat' (first
  | refine g_ ?_
  | ((with_reducible refine And.intro ?_ ?_);(exact sv))
  | (refine DW.cond (by rfl) ?_ ?_<;>(first | exact i0_ | (intro hb;(try simp only [↓reduceCtorEq,not_true_eq_false,not_false_eq_true,hbs,Int.reduceBEq,Int.reduceBNe,Int.reduceEq] at hb);(try refine zfm ?_))))
  | ((with_reducible refine zaa ?_ ?_)<;>(intro hb;rw [hb];revert hb;(first | exact i0_ | (intro hb;(try simp only [↓reduceCtorEq,not_true_eq_false,not_false_eq_true,hbs,Int.reduceBEq,Int.reduceBNe,Int.reduceEq] at hb);(try refine zfm ?_)))))
  | ((first | refine rn_ ?_ | refine kn_ ?_)<;>(refine zfm ?_))
  | ((first | refine q_ (ze1 _ _) ?_ (hk:=fun q=>q.1) | refine q_ (zkz _ _ _ _) ?_ (hk:=fun q=>q.1) | refine q_ (zqs _ _) ?_ (hk:=fun q=>q.1));refine zfm ?_)
  | (refine q_ (wcf_dc _ _) ?_ (hk:=fun q=>q.1);refine zfm ?_)
  | ((refine on_ ?_);refine zfm ?_)
  | refine f_ ?_
  | with_reducible intro b)
 all_goals first
 | ((refine ⟨_,_,le.of_eq ?_,⟨rfl,rfl⟩,?_⟩);rotate_left;(exact sub_);congr 1;unfold valM;rw [Bool.eq_iff_iff];(simp_all<;>omega);done)
 | ((refine ⟨_,_,le.of_eq ?_,⟨rfl,rfl⟩,?_⟩);rotate_left;(exact sub_);congr 1;unfold valM;(simp_all<;>omega);done)
 | (trace_state;fail)
end
theorem znd (p:Pk) (F:Own):(True)->DC Tryz.prog 154 [.agg [.int .i64 p.kind, .bool p.dup, .bool p.retain, .int .i64 p.qos, .int .i64 p.id, .str p.topic, .sl (p.payload.map u8), .int .i64 p.level, .str p.client, .bool p.clean, .int .i64 p.keep, .bool p.hasWill, .str p.wtopic, .sl (p.wpay.map u8), .int .i64 p.wqos, .bool p.wretain, .bool p.hasUser, .bool p.hasPass, .str p.user, .sl (p.pass.map u8), .bool p.present, .int .i64 p.code, .sl (p.subs.map encU), .sl (p.codes.map (V.int .i64))]] (([]:Own)++F) fun d G=>d=u8 (zkb p)/\G=[]++F:=by
 intro hA
 refine DC.bodyS (n_:=29) (show Tryz.prog.funcs[154]? = some Tryz.f154 by kernel_rfl) rfl rfl (by rfl) ?_
 simp only [env0,List.cons_append,List.nil_append]
 have kw:=ksIs [0,1,2,3,5,6,10]
 have ow:=zai []
 have dw8:=drIs 8 [] [1,2,4,8,9]
 repeat' (first
  | refine g_ ?_
  | ((with_reducible refine And.intro ?_ ?_);(exact sv))
  | (refine DW.cond (by rfl) ?_ ?_<;>(first | exact i0_ | (refine ic_ ?_;intro hb)))
  | ((with_reducible first | refine zaa ?_ ?_ | refine zak ?_ ?_)<;>(intro hb;rw [hb];revert hb;(first | exact i0_ | (refine i_ ?_;intro hb))))
  | refine r_ ?_
  | refine d_ ?_
  | refine k_ ?_
  | ((refine dm_ ?_);(first | (refine v_ (zfJ _ _ _) ?_)))
  | refine vo_ ?_
  | (refine q_ (zfJ _ _ _) ?_)
  | refine o_ ?_
  | refine f_ ?_
  | refine vm_ ?_
  | with_reducible intro b)
 all_goals first
 | ((refine ⟨_,_,le.of_eq ?_,⟨rfl,rfl⟩,?_⟩);rotate_left;(exact sub_);(rw [zdy]);congr 1;unfold zkb zqB;(simp only [*,↓reduceIte,Int.reduceEq,or_self,or_true,true_or,or_false,false_or,if_true,if_false]);(apply zmn);(simp [IntKind.wrap,IntKind.bits,IntKind.signed]<;>omega);done)
 | (trace_state;fail)
theorem zp9 (n:Int) (F:Own):(True)->DC Tryz.prog 205 [.int .i64 n] (([]:Own)++F) fun d G=>d = .int .i64 (zdf n)/\G=[]++F:=by
 intro hA
 refine DC.bodyS (n_:=19) (show Tryz.prog.funcs[205]? = some Tryz.f205 by kernel_rfl) rfl rfl (by rfl) ?_
 simp only [env0,List.cons_append,List.nil_append]
 have kw:=ksIs [0,2,3,10,13,16]
 have ow:=zai []
 repeat' (first
  | refine g_ ?_
  | ((with_reducible refine And.intro ?_ ?_);(exact sv))
  | (refine DW.cond (by rfl) ?_ ?_<;>(first | exact i0_ | (refine ic_ ?_;intro hb)))
  | ((with_reducible refine zaa ?_ ?_)<;>(intro hb;rw [hb];revert hb;(first | exact i0_ | (refine i_ ?_;intro hb))))
  | refine r_ ?_
  | refine k_ ?_
  | refine o_ ?_
  | refine f_ ?_
  | with_reducible intro b)
 all_goals first
 | ((refine ⟨_,_,le.of_eq ?_,⟨rfl,rfl⟩,?_⟩);rotate_left;(exact sub_);congr 1;unfold zdf;(repeat' split)<;>(first | rfl | omega))
 | (trace_state;fail)
theorem zgp {p:Prop} (h:p:=by first | exact sv | (refine ⟨?_,?_,fun _ _=>rfl⟩<;>omega) | fail):p:=h
theorem zoO (n:Int) (F:Own):(True)->DC Tryz.prog 152 [.int .i64 n] (([]:Own)++F) fun d G=>∃ e:Int,(zdf n≠0->e=0)/\d = .tup [.sl ((varM n).map u8), .int .i64 e]/\G=[]++F:=by
 intro hA
 refine DC.bodyS (n_:=34) (show Tryz.prog.funcs[152]? = some Tryz.f152 by kernel_rfl) rfl rfl (by rfl) ?_
 simp only [env0,List.cons_append,List.nil_append]
 have kw:=ksIs [0,2,3,4,5,6,7,11,12,13,14,25]
 have ow:=zai []
 have hz4:=zk3 n
 refine DW.tail0 1 ?_
 repeat' (first
  | ((with_reducible refine DW.loopB 0 (X:=Nat×Value×YSx) (fun x=>x.1<=zdf n/\x.2.2=(varM n).take x.1/\x.2.2.length=x.1) (fun x=>[(0, .int .i64 n),(4, .int .i64 (zdf n)),(5, .gs x.2.1 (x.2.2.map u8)),(12, .int .i64 (zdf n)),(13, .int .i64 x.1)]) (fun x=>.tail 1 x.2.1::([]:Own)) (fun x=>zdf n - x.1) ((0, .slice none 0 0,[])) ?_ ?_ ?_);exact (⟨Nat.zero_le _,rfl,rfl⟩);(simp [Sub,get,zbu]<;>fail);(try simp only [List.cons_append,List.nil_append]);refine pl_ ?_;intro ⟨k,v,x⟩ ⟨hk,hxe,hx⟩;(try simp only [List.cons_append,List.nil_append]);(try simp only at hk hxe hx))
  | refine g_ ?_
  | ((with_reducible refine And.intro ?_ ?_);(exact zgp))
  | (refine DW.cond (by rfl) ?_ ?_<;>(first | exact i0_ | (refine ic_ ?_;intro hb)))
  | ((with_reducible refine zaa ?_ ?_)<;>(intro hb;rw [hb];revert hb;(first | exact i0_ | (refine i_ ?_;intro hb))))
  | refine r_ ?_
  | refine k_ ?_
  | (refine q_ (zp9 _ _) ?_ (ha:=by exact zgp))
  | refine o_ ?_
  | refine f_ ?_
  | with_reducible intro b)
 all_goals first
 | ((have e0:varM n=[]:=List.eq_nil_of_length_eq_zero (by rw [zhR];omega));(rw [e0]);refine ⟨_,_,le.tup (Les.cons (le.gs List.map_nil.symm) (Les.cons le.rfl_ Les.nil)),⟨_,(fun h=>absurd (by omega) h),rfl,rfl⟩,?_⟩;(exact sub_);done)
 | ((rw [List.take_of_length_le (by rw [zhR];omega)] at hxe);(subst hxe);refine ⟨_,_,le.tup (Les.cons (le.gs rfl) (Les.cons le.rfl_ Les.nil)),⟨0,(fun _=>rfl),rfl,rfl⟩,?_⟩;(exact sub_);done)
 | ((obtain ⟨n0,n1⟩:=zks (n:=n) (by omega));(rw [sh7W n k n0 n1 (by omega),or7W _ (Nat.mod_lt _ (by decide)),u8_of _ (by have:=Nat.mod_lt (n.toNat / 128 ^ k) (show 0<128 by decide);omega)]);refine ⟨(k+1,b,x++[zb0 ((n.toNat / 128 ^ k%128+128:Nat):Int)]),⟨by (try simp only);omega,by (rw [var_hi (by omega),<-hxe]),by simp [hx]⟩,by (try simp only);omega,by simp [Sub,get],?_⟩;((try dsimp only);(exact sub_));done)
 | ((obtain ⟨n0,n1⟩:=zks (n:=n) (by omega));(rw [sh7W n k n0 n1 (by omega),u8_of _ (by have:=Nat.mod_lt (n.toNat / 128 ^ k) (show 0<128 by decide);omega)]);refine ⟨(k+1,b,x++[zb0 ((n.toNat / 128 ^ k%128:Nat):Int)]),⟨by (try simp only);omega,by (rw [var_lo (by omega) (by omega),<-hxe]),by simp [hx]⟩,by (try simp only);omega,by simp [Sub,get],?_⟩;((try dsimp only);(exact sub_));done)
 | (trace_state;fail)
end
end Go.Proofs.YtgekknefphagbaaGreatDoor
