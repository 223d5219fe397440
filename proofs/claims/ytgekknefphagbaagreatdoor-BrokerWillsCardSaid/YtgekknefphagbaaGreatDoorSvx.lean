/- slices.SortFunc at subscriptions, as it lies in this program (printed by the kit). -/
import Derived.Shelf.SlSortCmp.WholeK
import Derived.Test.YtgekknefphagbaaGreatDoorProg
import Derived.Test.YtgekknefphagbaaGreatDoorJax
import Derived.Test.YtgekknefphagbaaGreatDoorYox
import Derived.Test.YtgekknefphagbaaGreatDoorFxx
import Derived.KernelRfl
import Derived.Test.YtgekknefphagbaaGreatDoorSzx
import Derived.Test.YtgekknefphagbaaGreatDoorPv1x
import Derived.Test.YtgekknefphagbaaGreatDoorEqx
namespace Go.Proofs.YtgekknefphagbaaGreatDoor
open Go.Shelf Go.RowKit
set_option linter.unusedVariables false
section
def zit:Go.Shelf.Ren:=⟨fun | 6=>192 | 15=>163 | 14=>242 | 28=>219 | 29=>220 | 20=>273 | 21=>274 | 22=>275 | 23=>276 | 24=>277 | 25=>278 | 26=>279 | 27=>280 | 46=>292 | 47=>255 | 48=>256 | 49=>293 | 50=>294 | 57=>300 | n=>n,fun | 22=>26 | 24=>77 | 25=>265 | 3=>3 | 39=>221 | 0=>0 | 53=>281 | 55=>283 | 4=>4 | 46=>274 | 45=>273 | 50=>148 | 5=>5 | 9=>9 | 66=>315 | 70=>319 | 76=>334 | 77=>335 | n=>n,fun | n=>n⟩
theorem zpx:Go.Proofs.SlLaysF0.n6 Tryz.prog zit:={
 mixed:=by kernel_rfl
 f6:=⟨Tryz.f192.name,by decide,Tryz.func192.trans (congrArg some (by kernel_rfl))⟩
 f14:=⟨Tryz.f242.name,by decide,Tryz.func242.trans (congrArg some (by kernel_rfl))⟩
 f15:=Tryz.func163.trans (congrArg some (by kernel_rfl))
 f20:=⟨Tryz.f273.name,by decide,Tryz.func273.trans (congrArg some (by kernel_rfl))⟩
 f21:=⟨Tryz.f274.name,by decide,Tryz.func274.trans (congrArg some (by kernel_rfl))⟩
 f22:=⟨Tryz.f275.name,by decide,Tryz.func275.trans (congrArg some (by kernel_rfl))⟩
 f23:=⟨Tryz.f276.name,by decide,Tryz.func276.trans (congrArg some (by kernel_rfl))⟩
 f24:=⟨Tryz.f277.name,by decide,Tryz.func277.trans (congrArg some (by kernel_rfl))⟩
 f25:=⟨Tryz.f278.name,by decide,Tryz.func278.trans (congrArg some (by kernel_rfl))⟩
 f26:=⟨Tryz.f279.name,by decide,Tryz.func279.trans (congrArg some (by kernel_rfl))⟩
 f27:=⟨Tryz.f280.name,by decide,Tryz.func280.trans (congrArg some (by kernel_rfl))⟩
 f28:=Tryz.func219.trans (congrArg some (by kernel_rfl))
 f29:=Tryz.func220.trans (congrArg some (by kernel_rfl))
 f46:=⟨Tryz.f292.name,by decide,Tryz.func292.trans (congrArg some (by kernel_rfl))⟩
 f47:=Tryz.func255.trans (congrArg some (by kernel_rfl))
 f48:=Tryz.func256.trans (congrArg some (by kernel_rfl))
 f49:=⟨Tryz.f293.name,by decide,Tryz.func293.trans (congrArg some (by kernel_rfl))⟩
 f50:=⟨Tryz.f294.name,by decide,Tryz.func294.trans (congrArg some (by kernel_rfl))⟩
 f57:=⟨Tryz.f300.name,by decide,Tryz.func300.trans (congrArg some (by kernel_rfl))⟩
 t0:=Tryz.underlying0
 a0:=Tryz.isAgg0
 z0:=Tryz.sizeOf0
 v0:=Tryz.zeroValue0
 t3:=Tryz.underlying3
 a3:=Tryz.isAgg3
 z3:=Tryz.sizeOf3
 v3:=Tryz.zeroValue3
 t4:=Tryz.underlying4
 a4:=Tryz.isAgg4
 z4:=Tryz.sizeOf4
 v4:=Tryz.zeroValue4
 t5:=Tryz.underlying5
 a5:=Tryz.isAgg5
 z5:=Tryz.sizeOf5
 v5:=Tryz.zeroValue5
 t9:=Tryz.underlying9
 a9:=Tryz.isAgg9
 z9:=Tryz.sizeOf9
 v9:=Tryz.zeroValue9
 t22:=Tryz.underlying26
 a22:=Tryz.isAgg26
 z22:=Tryz.sizeOf26
 v22:=Tryz.zeroValue26
 t25:=Tryz.underlying265
 a25:=Tryz.isAgg265
 z25:=Tryz.sizeOf265
 v25:=Tryz.zeroValue265
 t39:=Tryz.underlying221
 a39:=Tryz.isAgg221
 z39:=Tryz.sizeOf221
 v39:=Tryz.zeroValue221
 t45:=Tryz.underlying273
 a45:=Tryz.isAgg273
 z45:=Tryz.sizeOf273
 v45:=Tryz.zeroValue273
 t46:=Tryz.underlying274
 a46:=Tryz.isAgg274
 z46:=Tryz.sizeOf274
 v46:=Tryz.zeroValue274
 t50:=Tryz.underlying148
 a50:=Tryz.isAgg148
 z50:=Tryz.sizeOf148
 v50:=Tryz.zeroValue148
 t53:=Tryz.underlying281
 a53:=Tryz.isAgg281
 z53:=Tryz.sizeOf281
 v53:=Tryz.zeroValue281
 t55:=Tryz.underlying283
 a55:=Tryz.isAgg283
 z55:=Tryz.sizeOf283
 v55:=Tryz.zeroValue283
 t66:=Tryz.underlying315
 a66:=Tryz.isAgg315
 z66:=Tryz.sizeOf315
 v66:=Tryz.zeroValue315
 t70:=Tryz.underlying319
 a70:=Tryz.isAgg319
 z70:=Tryz.sizeOf319
 v70:=Tryz.zeroValue319
 t76:=Tryz.underlying334
 a76:=Tryz.isAgg334
 z76:=Tryz.sizeOf334
 v76:=Tryz.zeroValue334
 t77:=Tryz.underlying335
 a77:=Tryz.isAgg335
 z77:=Tryz.sizeOf335
 v77:=Tryz.zeroValue335 }
end
section
open Go.RowKit
set_option linter.unusedSimpArgs false
set_option linter.unusedSectionVars false
set_option maxHeartbeats 4000000
set_option maxRecDepth 100000
theorem DC.frz1 {P:Program} {f:FuncId} {args:List V} {H F:Own} {Q:YS->Prop}
  (h:DC P f args H fun d G=>∃ (v:Value) (x:YS),Q x/\d = .ar v x.length/\G = .arr 1 v (x.map u8)::F):DC P f args H fun d G=>∃ x:YS,Q x/\d = .sl (x.map u8)/\G=F :=
 (DC.frzX (F:=F) (X:=YS) (Q:=Q) (sz:=1) (l:=fun x=>x.map u8) (by decide) (fun x y hy=>by obtain ⟨z,_,rfl⟩:=List.mem_map.1 hy;rfl) (h.mono fun d G ⟨v,x,hq,hd,hG⟩=>⟨v,x,by rw [List.length_map];exact hd,hq,by rw [zaE];exact hG⟩)).mono fun d G ⟨x,hq,hd,hG⟩=>⟨x,hq,hd,hG⟩
def numM (p:Pk):Bool:=if p.kind=3 then decide (0<p.qos) else decide (4<=p.kind/\p.kind<=11)
noncomputable def preM (p:Pk):Bool:=inM p.kind 1 14&&zjH p (onlyM p)&&(!numM p||inM p.id 1 65535)&&inM p.qos 0 2&&zeE p.topic&&zeE p.client&&zeE p.user&&zeE p.wtopic&&inM p.wqos 0 2&&decide ((p.wpay.length:Int)<=65535)&&decide ((p.pass.length:Int)<=65535)&&inM p.level 0 255&&inM p.keep 0 65535&&(!p.hasPass||p.hasUser)&&inM p.code 0 5&&(!p.present||decide (p.code=0))
def subOk (p:Pk) (x:YS×Int):Bool:=zeE x.1&&inM x.2 0 2 && !(decide (p.kind=10)&&decide (x.2≠0))
def zdg (c:Int):Bool:=inM c 0 2||decide (c=128)
noncomputable def zax (p:Pk):Bool:=preM p&&p.subs.all (subOk p)&&p.codes.all zdg && !((decide (p.kind=8)||decide (p.kind=10))&&decide (p.subs.length=0)) && !(decide (p.kind=9)&&decide (p.codes.length=0))&&decide ((zcl p).length<=8192)
theorem zhI {α:Type} [Inhabited α] {l:List α} {k:Nat} (h:k<l.length):l.getD k default∈l:=by
 rw [List.getD_eq_getElem?_getD,List.getElem?_eq_getElem h];exact List.getElem_mem h
theorem zlq {α:Type} [Inhabited α] {f:α->Bool} {l:List α} {k:Nat} (h:(l.take k).all f=true) (hk:k<l.length) (e:f (l.getD k default)=true):(l.take (k+1)).all f=true:=by
 rw [zhK hk,List.all_append,h,List.all_cons,e];rfl
theorem zle {α:Type} [Inhabited α] {f:α->Bool} {l:List α} {k:Nat} (hk:k<l.length) (e:f (l.getD k default)=false):l.all f=false:=by
 rw [List.all_eq_false]
 exact ⟨_,zhI hk,by rw [e];decide⟩
inductive Bx (T:Prop):Prop where
 | mk:T->Bx T
attribute [local irreducible] DW SeqD DV DOp DC DVX onlyM preM zax
section
attribute [local push_cast 2000] List.append_eq List.cons_append List.nil_append encU
end
end
section
open Go.RowKit
set_option linter.unusedSimpArgs false
set_option linter.unusedSectionVars false
set_option maxHeartbeats 4000000
set_option maxRecDepth 100000
def zqH (p:Pk):Int:=if p.kind=6\/p.kind=8\/p.kind=10 then 2 else if p.kind=3 then (if p.dup=true then 8 else 0)+2 * p.qos+(if p.retain=true then 1 else 0) else 0
def zj9 (p:Pk):UInt8:=zbw (16 * p.kind+zqH p)
noncomputable def putM (p:Pk):YS:=if zax p=true then zj9 p::(varM (zcl p).length++zcl p) else []
theorem zoq {p:Pk} (h:zax p=true):(zcl p).length<=8192:=by
 unfold zax at h
 simp only [Bool.and_eq_true,decide_eq_true_eq] at h
 exact h.2
theorem DC.frzQ {P:Program} {f:FuncId} {args:List V} {H F:Own} {Q:YS->Int->Prop}
  (h:DC P f args H fun d G=>(∃ e:Int,Q [] e/\d = .tup [.gs (.slice none 0 0) [], .int .i64 e]/\G=F)\/∃ (v:Value) (x:YS) (e:Int),Q x e/\d = .tup [.ar v x.length, .int .i64 e]/\G = .arr 1 v (x.map u8)::F):DC P f args H fun d G=>∃ (x:YS) (e:Int),Q x e/\d = .tup [.sl (x.map u8), .int .i64 e]/\G=F :=
 ⟨h.1,fun xs w hs hn hr=>(h.2 xs w hs hn hr).mono fun e0 w' ⟨u,d,H',he,s,ex,r,hd⟩=>by
   rcases hd with ⟨e,hq,hd,hG⟩ | ⟨v,x,e,hq,hd,hG⟩
   · subst hd hG
     exact ⟨u, .tup [.sl (([]:YS).map u8), .int .i64 e],_,he,s,ex,le.tup (Les.cons (le.gs rfl) (Les.cons le.rfl_ Les.nil)) _ _ _ r,[],e,hq,rfl,rfl⟩
   · subst hd hG
     obtain ⟨⟨g1,g2⟩,g3⟩:=Sim.frz (L1:=[]) (l:=x.map u8) (by rw [zaE];exact s) (by decide) (fun y hy=>by obtain ⟨z,_,rfl⟩:=List.mem_map.1 hy;rfl)
     rw [zaE] at g2
     have k1:Ext w' (.tail 1 v::F) w' F:=Ext.drop fun x hx=>List.mem_cons_of_mem _ hx
     have r1:R (stable w' F) w' u (.tup [.gs v (x.map u8), .int .i64 e]):=(R.cv g3 (Cv.tupL (CvL.cons (Cv.hit _) (CvL.cons (Cv.rfl _) CvL.nil))) (g2.rel r)).mono k1.cells
     exact ⟨u, .tup [.sl (x.map u8), .int .i64 e],F,he,g1.drop (List.sublist_cons_self _ _),(ex.trans g2).trans k1,le.tup (Les.cons (le.gs rfl) (Les.cons le.rfl_ Les.nil)) _ _ _ r1,x,e,hq,rfl,rfl⟩⟩
attribute [local irreducible] DW SeqD DV DOp DC DVX varM zax zcl
section
attribute [local push_cast 2000] zaE
end
end
section
open Go.RowKit
set_option linter.unusedSimpArgs false
set_option linter.unusedSectionVars false
set_option maxHeartbeats 4000000
set_option maxRecDepth 100000
theorem zfb (p:List UInt8):(p==p)=true:=by simp
theorem zfm (p:Int):(p==p)=true:=by simp
theorem zeW (p:Int):(p != p)=false:=by simp
theorem zfc (p:List UInt8):(p != p)=false:=by simp
theorem zqG {p:Pk} (h:numM p=true):(p.kind=3/\0<p.qos)\/(p.kind≠3/\4<=p.kind/\p.kind<=11):=by
 unfold numM at h;split at h
 · exact .inl ⟨by assumption,by simpa using h⟩
 · exact .inr ⟨by assumption,by simpa using h⟩
theorem zqB {p:Pk} (h:numM p=false):(p.kind=3/\¬ 0<p.qos)\/(p.kind≠3/\(p.kind<4\/11<p.kind)):=by
 unfold numM at h;split at h
 · exact .inl ⟨by assumption,by simpa using h⟩
 · refine .inr ⟨by assumption,?_⟩
   simp only [decide_eq_false_iff_not] at h
   omega
attribute [local irreducible] DW SeqD DV DOp DC DVX chkB
theorem zkX (v a b:Int) (F:Own):(True)->DC Tryz.prog 196 [.int .i64 v, .int .i64 a, .int .i64 b] (([]:Own)++F) fun d G=>d = .bool (inM v a b)/\G=[]++F:=by
 intro hA
 refine DC.bodyS (n_:=15) (show Tryz.prog.funcs[196]? = some Tryz.f196 by kernel_rfl) rfl rfl (by rfl) ?_
 simp only [env0,List.cons_append,List.nil_append]
 have kw:=ksIs [0,1,2,6]
 have ow:=zai []
 repeat' (first
  | refine g_ ?_
  | ((with_reducible refine And.intro ?_ ?_);(exact sv))
  | (refine DW.cond (by rfl) ?_ ?_<;>(first | exact i0_ | (refine ic_ ?_;intro hb)))
  | ((with_reducible refine zaa ?_ ?_)<;>(intro hb;rw [hb];revert hb;(first | exact i0_ | (refine i_ ?_;intro hb))))
  | refine r_ ?_
  | refine k_ ?_
  | refine o_ ?_
  | refine f_ ?_
  | with_reducible intro b)
 all_goals first
 | ((refine ⟨_,_,le.of_eq ?_,⟨rfl,rfl⟩,SubP.refl⟩);congr 1;rw [Bool.eq_iff_iff];(simp [inM]<;>omega);done)
 | (trace_state;fail)
section
attribute [local push_cast 2000] zby zba
theorem zpQ (l:YS) (F:Own):(l.length<=1000000000)->DC Tryz.prog 249 [.str l] ([knF,knA]++F) fun d G=>d = .bool (zeE l)/\G=[knF,knA]++F:=by
 intro hA
 have hl:=hA
 refine DC.bodyS (n_:=12) (show Tryz.prog.funcs[249]? = some Tryz.f249 by kernel_rfl) rfl rfl (by rfl) ?_
 simp only [env0,List.cons_append,List.nil_append]
 have kw:=ksIs [0,2]
 have ow:=zai []
 repeat' (first
  | refine g_ ?_
  | ((with_reducible refine And.intro ?_ ?_);(exact sv))
  | (refine DW.cond (by rfl) ?_ ?_<;>(first | exact i0_ | (refine ic_ ?_;intro hb)))
  | ((with_reducible refine zaa ?_ ?_)<;>(intro hb;rw [hb];revert hb;(first | exact i0_ | (refine i_ ?_;intro hb))))
  | refine r_ ?_
  | refine k_ ?_
  | (refine p_ (zq0 _ _) ?_;rintro d H1 ⟨i1,rfl,hi1,rfl⟩<;>refine s_ ?_)
  | refine o_ ?_
  | refine f_ ?_
  | with_reducible intro b)
 all_goals first
 | ((refine ⟨_,_,le.of_eq ?_,⟨rfl,rfl⟩,?_⟩);rotate_left;(exact sub_);congr 1;unfold zeE;(try rw [<-hi1]);rw [Bool.eq_iff_iff];(simp_all<;>omega);done)
 | (trace_state;fail)
end
theorem zfF (b:Bool) (n:Int) (F:Own):(True)->DC Tryz.prog 201 [.bool b, .int .i64 n] (([]:Own)++F) fun d G=>d = .int .i64 (if b=true then n else 0)/\G=[]++F:=by
 intro hA
 refine DC.bodyS (n_:=7) (show Tryz.prog.funcs[201]? = some Tryz.f201 by kernel_rfl) rfl rfl (by rfl) ?_
 simp only [env0,List.cons_append,List.nil_append]
 have kw:=ksIs [0,1,4,5]
 have ow:=zai []
 repeat' (first
  | refine g_ ?_
  | ((with_reducible refine And.intro ?_ ?_);(exact sv))
  | (refine DW.cond (by rfl) ?_ ?_<;>(first | exact i0_ | (refine ic_ ?_;intro hb)))
  | ((with_reducible refine zaa ?_ ?_)<;>(intro hb;rw [hb];revert hb;(first | exact i0_ | (refine i_ ?_;intro hb))))
  | refine r_ ?_
  | refine k_ ?_
  | refine o_ ?_
  | refine f_ ?_
  | with_reducible intro b)
 all_goals first
 | ((simp only [hb,↓reduceIte,Bool.false_eq_true];(first | exact fin_ | refine finq_ ?_);done))
 | (trace_state;fail)
theorem zlx {p:Prop} (h:p:=by first | exact sv | (simp [u8,V.one,V.n];omega) | (simp [u8,V.one,V.n]<;>fail) | fail):p:=h
section
attribute [local push_cast 2000] zaE
theorem zmX (v:Value) (n:Nat) (l:YS) (z:Int) (F:Own):(n=l.length/\l.length<=2000000000)->DC Tryz.prog 204 [.ar v n, .int .i64 z] (.arr 1 v (l.map u8)::([]:Own)++F) fun d G=>∃ v':Value,d = .ar v' (l++twoM z).length/\G = .arr 1 v' ((l++twoM z).map u8)::F:=by
 intro hA
 obtain ⟨hn,hl⟩:=hA
 refine DC.bodyS (n_:=13) (show Tryz.prog.funcs[204]? = some Tryz.f204 by kernel_rfl) rfl rfl (by rfl) ?_
 simp only [env0,List.cons_append,List.nil_append]
 have kw:=ksIs [0,1,4]
 have ow:=zai []
 repeat' (first
  | refine g_ ?_
  | ((with_reducible refine And.intro ?_ ?_);(exact zlx))
  | (refine DW.cond (by rfl) ?_ ?_<;>(first | exact i0_ | (refine ic_ ?_;intro hb)))
  | ((with_reducible refine zaa ?_ ?_)<;>(intro hb;rw [hb];revert hb;(first | exact i0_ | (refine i_ ?_;intro hb))))
  | refine r_ ?_
  | refine k_ ?_
  | refine o_ ?_
  | refine f_ ?_
  | with_reducible intro b)
 all_goals first
 | ((rw [<-zmj]);refine ⟨_,_,le.of_eq ?_,⟨b,rfl,rfl⟩,?_⟩;(rw [hn];simp [zaZ]);(exact sub_);done)
 | (trace_state;fail)
end
section
attribute [local push_cast 2000] zaE zaF zaq
theorem zkC (z:Int) (F:Own):(True)->DC Tryz.prog 204 [.gs (.slice none 0 0) [], .int .i64 z] (([]:Own)++F) fun d G=>∃ v':Value,d = .ar v' (twoM z).length/\G = .arr 1 v' ((twoM z).map u8)::F:=by
 intro hA
 refine DC.bodyS (n_:=13) (show Tryz.prog.funcs[204]? = some Tryz.f204 by kernel_rfl) rfl rfl (by rfl) ?_
 simp only [env0,List.cons_append,List.nil_append]
 have kw:=ksIs [0,1,4]
 have ow:=zai []
 repeat' (first
  | refine g_ ?_
  | ((with_reducible refine And.intro ?_ ?_);(exact sv_twoNW_dc))
  | (refine DW.cond (by rfl) ?_ ?_<;>(first | exact i0_ | (refine ic_ ?_;intro hb)))
  | ((with_reducible refine zaa ?_ ?_)<;>(intro hb;rw [hb];revert hb;(first | exact i0_ | (refine i_ ?_;intro hb))))
  | refine r_ ?_
  | refine k_ ?_
  | ((first | (refine DOp.app0a_ [12] rfl rfl rfl rfl (by intro h;cases h) ?_))<;>(refine s_ ?_))
  | refine o_ ?_
  | refine f_ ?_
  | with_reducible intro b)
 all_goals first
 | ((have e:=zmj [] z);(simp only [List.map_nil,List.nil_append] at e ⊢);(rw [<-e]);refine ⟨_,_,le.of_eq ?_,⟨b,rfl,rfl⟩,?_⟩;rfl;(exact sub_);done)
 | (trace_state;fail)
end
section
attribute [local push_cast 2000] zaE zaZ
end
theorem zfx {p:Prop} (h:p:=by first | exact sv | (simp [u8,V.one,V.n];omega) | (simp [u8,V.one,V.n]<;>fail) | fail):p:=h
section
attribute [local push_cast 2000] zaE zaZ
theorem ziN (t:YS) (F:Own):(t.length<=1000000000)->DC Tryz.prog 202 [.gs (.slice none 0 0) [], .str t] (([]:Own)++F) fun d G=>∃ v':Value,d = .ar v' (zcw t).length/\G = .arr 1 v' ((zcw t).map u8)::F:=by
 intro hA
 have ht:=hA
 refine DC.bodyS (n_:=11) (show Tryz.prog.funcs[202]? = some Tryz.f202 by kernel_rfl) rfl rfl (by rfl) ?_
 simp only [env0,List.cons_append,List.nil_append]
 have kw:=ksIs [0,1,4]
 have ow:=zai []
 repeat' (first
  | refine g_ ?_
  | ((with_reducible refine And.intro ?_ ?_);(exact zfx))
  | (refine DW.cond (by rfl) ?_ ?_<;>(first | exact i0_ | (refine ic_ ?_;intro hb)))
  | ((with_reducible refine zaa ?_ ?_)<;>(intro hb;rw [hb];revert hb;(first | exact i0_ | (refine i_ ?_;intro hb))))
  | refine r_ ?_
  | refine k_ ?_
  | (refine p_ (zkC _ _) ?_ (ha:=by exact zfx);rintro d H1 ⟨v1,rfl,rfl⟩<;>refine s_ ?_)
  | refine o_ ?_
  | refine f_ ?_
  | with_reducible intro b)
 all_goals first
 | ((rw [zoc]);refine ⟨_,_,le.of_eq ?_,⟨b,rfl,rfl⟩,?_⟩;(rw [zbz]);(exact sub_);done)
 | (trace_state;fail)
end
theorem zeq (p:Pk) (F:Own):(True)->DC Tryz.prog 203 [.agg [.int .i64 p.kind, .bool p.dup, .bool p.retain, .int .i64 p.qos, .int .i64 p.id, .str p.topic, .sl (p.payload.map u8), .int .i64 p.level, .str p.client, .bool p.clean, .int .i64 p.keep, .bool p.hasWill, .str p.wtopic, .sl (p.wpay.map u8), .int .i64 p.wqos, .bool p.wretain, .bool p.hasUser, .bool p.hasPass, .str p.user, .sl (p.pass.map u8), .bool p.present, .int .i64 p.code, .sl (p.subs.map encU), .sl (p.codes.map (V.int .i64))]] (([]:Own)++F) fun d G=>d = .bool (numM p)/\G=[]++F:=by
 intro hA
 refine DC.bodyS (n_:=19) (show Tryz.prog.funcs[203]? = some Tryz.f203 by kernel_rfl) rfl rfl (by rfl) ?_
 simp only [env0,List.cons_append,List.nil_append]
 have kw:=ksIs [0,1,2,4,5,10]
 have ow:=zai []
 repeat' (first
  | refine g_ ?_
  | ((with_reducible refine And.intro ?_ ?_);(exact sv))
  | (refine DW.cond (by rfl) ?_ ?_<;>(first | exact i0_ | (refine ic_ ?_;intro hb)))
  | ((with_reducible refine zaa ?_ ?_)<;>(intro hb;rw [hb];revert hb;(first | exact i0_ | (refine i_ ?_;intro hb))))
  | refine r_ ?_
  | refine k_ ?_
  | refine o_ ?_
  | refine f_ ?_
  | with_reducible intro b)
 all_goals first
 | ((refine ⟨_,_,le.of_eq ?_,⟨rfl,rfl⟩,?_⟩);rotate_left;(exact sub_);congr 1;unfold numM;(simp_all<;>omega);done)
 | ((refine ⟨_,_,le.of_eq ?_,⟨rfl,rfl⟩,?_⟩);rotate_left;(exact sub_);congr 1;unfold numM;rw [Bool.eq_iff_iff];(simp_all<;>omega);done)
 | (trace_state;fail)
section
attribute [local push_cast 2000] zby zba zfb zfm zeW zfc
theorem zkg (l:YS) (F:Own):(True)->DC Tryz.prog 244 [.sl (l.map u8), .sl (l.map u8)] (([]:Own)++F) fun d G=>d = .bool true/\G=[]++F:=by
 intro hA
 refine DC.bodyS (n_:=10) (show Tryz.prog.funcs[244]? = some Tryz.f244 by kernel_rfl) rfl rfl (by rfl) ?_
 simp only [env0,List.cons_append,List.nil_append]
 have kw:=ksIs [0,1,4]
 have ow:=zai []
 repeat' (first
  | refine g_ ?_
  | ((with_reducible refine And.intro ?_ ?_);(exact sv))
  | (refine DW.cond (by rfl) ?_ ?_<;>(first | exact i0_ | (refine ic_ ?_;intro hb)))
  | ((with_reducible refine zaa ?_ ?_)<;>(intro hb;rw [hb];revert hb;(first | exact i0_ | (refine i_ ?_;intro hb))))
  | refine r_ ?_
  | refine k_ ?_
  | refine o_ ?_
  | refine f_ ?_
  | with_reducible intro b)
 (first | exact fin_ | refine finq_ ?_)
 all_goals rfl
end
section
attribute [local push_cast 2000] zby zba zfb zfm zeW zfc
theorem eqsI_dc (l:List Int) (F:Own):(l.length<=1000000)->DC Tryz.prog 248 [.sl (l.map (V.int .i64)), .sl (l.map (V.int .i64))] (([]:Own)++F) fun d G=>d = .bool true/\G=[]++F:=by
 intro hA
 have hl:=hA
 refine DC.bodyS (n_:=26) (show Tryz.prog.funcs[248]? = some Tryz.f248 by kernel_rfl) rfl rfl (by rfl) ?_
 simp only [env0,List.cons_append,List.nil_append]
 have kw:=ksIs [0,1,4,5,10,12,13,14,24]
 have ow:=zai []
 have dw6:=drIs 6 [] [3,7]
 repeat' (first
  | ((with_reducible refine DW.loopB 0 (X:=Nat) (fun x=>x<=l.length) (fun x=>[(0, .sl (l.map (V.int .i64))),(1, .sl (l.map (V.int .i64))),(12, .int .i64 l.length),(13, .int .i64 x)]) (fun x=>([]:Own)) (fun x=>l.length - x) (0) ?_ ?_ ?_);exact (Nat.zero_le _);(simp [Sub,get,zbn]<;>fail);(try simp only [List.cons_append,List.nil_append]);refine pl_ ?_;intro k hk;(try simp only [List.cons_append,List.nil_append]);(try simp only at hk))
  | refine g_ ?_
  | ((with_reducible refine And.intro ?_ ?_);(exact sv))
  | (refine DW.cond (by rfl) ?_ ?_<;>(first | exact i0_ | (refine ic_ ?_;intro hb)))
  | ((with_reducible first | refine zaa ?_ ?_ | refine zak ?_ ?_)<;>(intro hb;rw [hb];revert hb;(first | exact i0_ | (refine i_ ?_;intro hb))))
  | refine r_ ?_
  | refine d_ ?_
  | refine k_ ?_
  | refine vo_ ?_
  | refine o_ ?_
  | refine f_ ?_
  | refine vm_ ?_
  | with_reducible intro b)
 all_goals first
 | ((first | exact fin_ | refine finq_ ?_);done)
 | (refine ⟨k+1,?_,?_,?_,?_⟩;(((try simp only);omega));(((try simp only);omega));(simp [Sub,get]<;>(fail));(try dsimp only);(exact sub_);done)
 | (trace_state;fail)
end
section
attribute [local push_cast 2000] zby zba zfb zfm zeW zfc encU
theorem eqsU_dc (l:List (YS×Int)) (F:Own):(l.length<=1000000)->DC Tryz.prog 247 [.sl (l.map encU), .sl (l.map encU)] (([]:Own)++F) fun d G=>d = .bool true/\G=[]++F:=by
 intro hA
 have hl:=hA
 refine DC.bodyS (n_:=26) (show Tryz.prog.funcs[247]? = some Tryz.f247 by kernel_rfl) rfl rfl (by rfl) ?_
 simp only [env0,List.cons_append,List.nil_append]
 have kw:=ksIs [0,1,4,5,10,12,13,14,24]
 have ow:=zai []
 have dw6:=drIs 6 [] [3,7]
 repeat' (first
  | ((with_reducible refine DW.loopB 0 (X:=Nat) (fun x=>x<=l.length) (fun x=>[(0, .sl (l.map encU)),(1, .sl (l.map encU)),(12, .int .i64 l.length),(13, .int .i64 x)]) (fun x=>([]:Own)) (fun x=>l.length - x) (0) ?_ ?_ ?_);exact (Nat.zero_le _);(simp [Sub,get,zbn]<;>fail);(try simp only [List.cons_append,List.nil_append]);refine pl_ ?_;intro k hk;(try simp only [List.cons_append,List.nil_append]);(try simp only at hk))
  | refine g_ ?_
  | ((with_reducible refine And.intro ?_ ?_);(exact sv))
  | (refine DW.cond (by rfl) ?_ ?_<;>(first | exact i0_ | (refine ic_ ?_;intro hb)))
  | ((with_reducible first | refine zaa ?_ ?_ | refine zak ?_ ?_)<;>(intro hb;rw [hb];revert hb;(first | exact i0_ | (refine i_ ?_;intro hb))))
  | refine r_ ?_
  | refine d_ ?_
  | refine k_ ?_
  | refine vo_ ?_
  | refine o_ ?_
  | refine f_ ?_
  | refine vm_ ?_
  | with_reducible intro b)
 all_goals first
 | ((first | exact fin_ | refine finq_ ?_);done)
 | (refine ⟨k+1,?_,?_,?_,?_⟩;(((try simp only);omega));(((try simp only);omega));(simp [Sub,get]<;>(fail));(try dsimp only);(exact sub_);done)
 | (trace_state;fail)
end
section
attribute [local push_cast 2000] zby zba zfb zfm zeW zfc
theorem zoe (a1 a2:YS) (a3:Int) (a4:Bool) (F:Own):(True)->DC Tryz.prog 246 [.agg [.str a1, .sl (a2.map u8), .int .i64 a3, .bool a4], .agg [.str a1, .sl (a2.map u8), .int .i64 a3, .bool a4]] (([]:Own)++F) fun d G=>d = .bool true/\G=[]++F:=by
 intro hA
 refine DC.bodyS (n_:=31) (show Tryz.prog.funcs[246]? = some Tryz.f246 by kernel_rfl) rfl rfl (by rfl) ?_
 simp only [env0,List.cons_append,List.nil_append]
 have kw:=ksIs [0,1,2,3,4]
 have ow:=zai []
 repeat' (first
  | refine g_ ?_
  | ((with_reducible refine And.intro ?_ ?_);(exact sv))
  | (refine DW.cond (by rfl) ?_ ?_<;>(first | exact i0_ | (refine ic_ ?_;intro hb)))
  | ((with_reducible refine zaa ?_ ?_)<;>(intro hb;rw [hb];revert hb;(first | exact i0_ | (refine i_ ?_;intro hb))))
  | refine r_ ?_
  | refine k_ ?_
  | (refine q_ (zkg _ _) ?_)
  | refine o_ ?_
  | refine f_ ?_
  | with_reducible intro b)
 (first | exact fin_ | refine finq_ ?_)
 all_goals rfl
end
section
attribute [local push_cast 2000] List.append_eq List.cons_append List.nil_append zby zba zfb zfm zeW zfc
theorem zlU (p:Pk) (F:Own):(True)->DC Tryz.prog 245 [.agg [.int .i64 p.kind, .bool p.dup, .bool p.retain, .int .i64 p.qos, .int .i64 p.id, .str p.topic, .sl (p.payload.map u8), .int .i64 p.level, .str p.client, .bool p.clean, .int .i64 p.keep, .bool p.hasWill, .str p.wtopic, .sl (p.wpay.map u8), .int .i64 p.wqos, .bool p.wretain, .bool p.hasUser, .bool p.hasPass, .str p.user, .sl (p.pass.map u8), .bool p.present, .int .i64 p.code, .sl (p.subs.map encU), .sl (p.codes.map (V.int .i64))], .agg [.int .i64 p.kind, .bool p.dup, .bool p.retain, .int .i64 p.qos, .int .i64 p.id, .str p.topic, .sl (p.payload.map u8), .int .i64 p.level, .str p.client, .bool p.clean, .int .i64 p.keep, .bool p.hasWill, .str p.wtopic, .sl (p.wpay.map u8), .int .i64 p.wqos, .bool p.wretain, .bool p.hasUser, .bool p.hasPass, .str p.user, .sl (p.pass.map u8), .bool p.present, .int .i64 p.code, .sl (p.subs.map encU), .sl (p.codes.map (V.int .i64))]] (([]:Own)++F) fun d G=>d = .bool true/\G=[]++F:=by
 intro hA
 refine DC.bodyS (n_:=80) (show Tryz.prog.funcs[245]? = some Tryz.f245 by kernel_rfl) rfl rfl (by rfl) ?_
 simp only [env0,List.cons_append,List.nil_append]
 have kw:=ksIs [0,1,2,3,4]
 have ow:=zai []
 repeat' (first
  | refine g_ ?_
  | ((with_reducible refine And.intro ?_ ?_);(exact sv))
  | (refine DW.cond (by rfl) ?_ ?_<;>(first | exact i0_ | (refine ic_ ?_;intro hb)))
  | ((with_reducible refine zaa ?_ ?_)<;>(intro hb;rw [hb];revert hb;(first | exact i0_ | (refine i_ ?_;intro hb))))
  | refine r_ ?_
  | refine k_ ?_
  | (refine q_ (zkg _ _) ?_)
  | refine o_ ?_
  | refine f_ ?_
  | with_reducible intro b)
 (first | exact fin_ | refine finq_ ?_)
 all_goals rfl
end
section
attribute [local push_cast 2000] List.append_eq List.cons_append List.nil_append zby zba zfb zfm zeW zfc
theorem zkJ (p:Pk) (F:Own):(PkN p)->DC Tryz.prog 197 [.agg [.int .i64 p.kind, .bool p.dup, .bool p.retain, .int .i64 p.qos, .int .i64 p.id, .str p.topic, .sl (p.payload.map u8), .int .i64 p.level, .str p.client, .bool p.clean, .int .i64 p.keep, .bool p.hasWill, .str p.wtopic, .sl (p.wpay.map u8), .int .i64 p.wqos, .bool p.wretain, .bool p.hasUser, .bool p.hasPass, .str p.user, .sl (p.pass.map u8), .bool p.present, .int .i64 p.code, .sl (p.subs.map encU), .sl (p.codes.map (V.int .i64))], .agg [.int .i64 p.kind, .bool p.dup, .bool p.retain, .int .i64 p.qos, .int .i64 p.id, .str p.topic, .sl (p.payload.map u8), .int .i64 p.level, .str p.client, .bool p.clean, .int .i64 p.keep, .bool p.hasWill, .str p.wtopic, .sl (p.wpay.map u8), .int .i64 p.wqos, .bool p.wretain, .bool p.hasUser, .bool p.hasPass, .str p.user, .sl (p.pass.map u8), .bool p.present, .int .i64 p.code, .sl (p.subs.map encU), .sl (p.codes.map (V.int .i64))]] (([]:Own)++F) fun d G=>d = .bool true/\G=[]++F:=by
 intro hA
 have hp:=hA
 refine DC.bodyS (n_:=78) (show Tryz.prog.funcs[197]? = some Tryz.f197 by kernel_rfl) rfl rfl (by rfl) ?_
 simp only [env0,List.cons_append,List.nil_append]
 have kw:=ksIs [0,1,2,3,4]
 have ow:=zai []
 have s1:=hp.subs;have s2:=hp.codes
 repeat' (first
  | refine g_ ?_
  | ((with_reducible refine And.intro ?_ ?_);(exact sv))
  | (refine DW.cond (by rfl) ?_ ?_<;>(first | exact i0_ | (refine ic_ ?_;intro hb)))
  | ((with_reducible refine zaa ?_ ?_)<;>(intro hb;rw [hb];revert hb;(first | exact i0_ | (refine i_ ?_;intro hb))))
  | refine r_ ?_
  | refine k_ ?_
  | (refine q_ (zkg _ _) ?_)
  | (refine q_ (zlU _ _) ?_)
  | (refine q_ (zoe _ _ _ _ _) ?_)
  | (refine q_ (eqsU_dc _ _) ?_)
  | (refine q_ (eqsI_dc _ _) ?_)
  | refine o_ ?_
  | refine f_ ?_
  | with_reducible intro b)
 (first | exact fin_ | refine finq_ ?_)
 all_goals rfl
end
theorem zjN {P Q:Prop} (q:Q) (h:Hid Q->P:=by (intro q;simp (maxSteps:=1000000) (disch:=omega) only [push_cast,↓reduceIte,reduceCtorEq,Nat.reduceAdd,Nat.reduceMul,Nat.reduceLT,Nat.reduceLeDiff,Nat.reduceEqDiff,Nat.reduceSub,Int.reduceToNat,Int.reduceLT,Int.reduceLE,Int.reduceAdd,Int.reduceSub,Int.reduceMul,Int.reduceNeg,Nat.reduceBEq,Int.reduceBEq,Int.reduceBNe,Nat.reduceBNe,Int.reduceEq,hnum];exact q.1)):P:=h ⟨q⟩
theorem zqa (p:Pk) (F:Own):(True)->DC Tryz.prog 198 [.agg [.int .i64 p.kind, .bool p.dup, .bool p.retain, .int .i64 p.qos, .int .i64 p.id, .str p.topic, .sl (p.payload.map u8), .int .i64 p.level, .str p.client, .bool p.clean, .int .i64 p.keep, .bool p.hasWill, .str p.wtopic, .sl (p.wpay.map u8), .int .i64 p.wqos, .bool p.wretain, .bool p.hasUser, .bool p.hasPass, .str p.user, .sl (p.pass.map u8), .bool p.present, .int .i64 p.code, .sl (p.subs.map encU), .sl (p.codes.map (V.int .i64))]] (([]:Own)++F) fun d G=>d = .agg [.int .i64 (onlyM p).kind, .bool (onlyM p).dup, .bool (onlyM p).retain, .int .i64 (onlyM p).qos, .int .i64 (onlyM p).id, .str (onlyM p).topic, .sl ((onlyM p).payload.map u8), .int .i64 (onlyM p).level, .str (onlyM p).client, .bool (onlyM p).clean, .int .i64 (onlyM p).keep, .bool (onlyM p).hasWill, .str (onlyM p).wtopic, .sl ((onlyM p).wpay.map u8), .int .i64 (onlyM p).wqos, .bool (onlyM p).wretain, .bool (onlyM p).hasUser, .bool (onlyM p).hasPass, .str (onlyM p).user, .sl ((onlyM p).pass.map u8), .bool (onlyM p).present, .int .i64 (onlyM p).code, .sl ((onlyM p).subs.map encU), .sl ((onlyM p).codes.map (V.int .i64))]/\G=[]++F:=by
 intro hA
 refine DC.bodyS (n_:=94) (show Tryz.prog.funcs[198]? = some Tryz.f198 by kernel_rfl) rfl rfl (by rfl) ?_
 simp only [env0,List.cons_append,List.nil_append]
 have kw:=ksIs [0,1,2,3,8,13,14,38,43,48,52,60,82,88]
 have ow:=zai []
 have dw6:=drIs 6 [15,17,19,21,23,25,27] [1]
 have dw14:=drIs 14 [5,7] [1]
 have dw16:=drIs 16 [16,18,20,22,24] [1,4]
 have rw_:=rsIs [.cell 2 29]
 have hnum:True:=trivial
 clear hnum
 rcases hnum:numM p with _ | _
 have hnm:=zqB hnum
 rotate_left
 have hnm:=zqG hnum
 all_goals skip
 repeat' (first
  | refine g_ ?_
  | ((with_reducible refine And.intro ?_ ?_);(exact sv))
  | (refine DW.cond (by rfl) ?_ ?_<;>(first | exact i0_ | (intro hb;(try simp only [↓reduceCtorEq,not_true_eq_false,not_false_eq_true,hbs,Int.reduceBEq,Int.reduceBNe,Int.reduceEq] at hb);(try refine zjN ?_))))
  | ((with_reducible first | refine zaa ?_ ?_ | refine zak ?_ ?_)<;>(intro hb;rw [hb];revert hb;(first | exact i0_ | (intro hb;(try simp only [↓reduceCtorEq,not_true_eq_false,not_false_eq_true,hbs,Int.reduceBEq,Int.reduceBNe,Int.reduceEq] at hb);(try refine zjN ?_)))))
  | ((first | refine rn_ ?_ | refine dn_ ?_ | refine kn_ ?_)<;>(refine zjN ?_))
  | ((refine dm_ ?_);(first | (refine v_ (zeq _ _) ?_ (hk:=fun q=>q.1);refine zjN ?_)))
  | ((refine von_ ?_);refine zjN ?_)
  | (refine q_ (zeq _ _) ?_ (hk:=fun q=>q.1);refine zjN ?_)
  | ((refine on_ ?_);refine zjN ?_)
  | refine f_ ?_
  | refine vm_ ?_
  | with_reducible intro b)
 all_goals first
 | ((have hq0:¬ (0<p.qos):=by omega);(refine ⟨_,_,?_,⟨rfl,rfl⟩,?_⟩);rotate_left;(exact sub_);(clear hnm hnum);(unfold onlyM);(simp only [*,↓reduceIte,Bool.false_eq_true,reduceCtorEq,or_true,true_or,or_self,Int.reduceEq,if_true,if_false,Bool.and_true,Bool.and_false,decide_true,decide_false]);(refine le.agg ?_);(repeat (first | exact Les.nil | refine Les.cons le.rfl_ ?_ | refine Les.cons (le.gs rfl) ?_));done)
 | ((have hq0:0<p.qos:=by omega);(refine ⟨_,_,?_,⟨rfl,rfl⟩,?_⟩);rotate_left;(exact sub_);(clear hnm hnum);(unfold onlyM);(simp only [*,↓reduceIte,Bool.false_eq_true,reduceCtorEq,or_true,true_or,or_self,Int.reduceEq,if_true,if_false,Bool.and_true,Bool.and_false,decide_true,decide_false]);(refine le.agg ?_);(repeat (first | exact Les.nil | refine Les.cons le.rfl_ ?_ | refine Les.cons (le.gs rfl) ?_));done)
 | ((have hk5:p.kind=4\/p.kind=5\/p.kind=6\/p.kind=7\/p.kind=11:=by omega);(refine ⟨_,_,?_,⟨rfl,rfl⟩,?_⟩);rotate_left;(exact sub_);(clear hnm hnum);(unfold onlyM);(simp only [*,↓reduceIte,Bool.false_eq_true,reduceCtorEq,or_true,true_or,or_self,Int.reduceEq,if_true,if_false,Bool.and_true,Bool.and_false,decide_true,decide_false]);(refine le.agg ?_);(repeat (first | exact Les.nil | refine Les.cons le.rfl_ ?_ | refine Les.cons (le.gs rfl) ?_));done)
 | ((have hk5:¬ (p.kind=4\/p.kind=5\/p.kind=6\/p.kind=7\/p.kind=11):=by omega);(refine ⟨_,_,?_,⟨rfl,rfl⟩,?_⟩);rotate_left;(exact sub_);(clear hnm hnum);(unfold onlyM);(simp only [*,↓reduceIte,Bool.false_eq_true,reduceCtorEq,or_true,true_or,or_self,Int.reduceEq,if_true,if_false,Bool.and_true,Bool.and_false,decide_true,decide_false]);(refine le.agg ?_);(repeat (first | exact Les.nil | refine Les.cons le.rfl_ ?_ | refine Les.cons (le.gs rfl) ?_));done)
 | ((refine ⟨_,_,?_,⟨rfl,rfl⟩,?_⟩);rotate_left;(exact sub_);(clear hnm hnum);(unfold onlyM);(simp only [*,↓reduceIte,Bool.false_eq_true,reduceCtorEq,or_true,true_or,or_self,Int.reduceEq,if_true,if_false,Bool.and_true,Bool.and_false,decide_true,decide_false]);(refine le.agg ?_);(repeat (first | exact Les.nil | refine Les.cons le.rfl_ ?_ | refine Les.cons (le.gs rfl) ?_));done)
 | (trace_state;fail)
end
end Go.Proofs.YtgekknefphagbaaGreatDoor
