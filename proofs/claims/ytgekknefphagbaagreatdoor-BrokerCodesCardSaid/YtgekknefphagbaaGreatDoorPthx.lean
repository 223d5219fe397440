/- strings.Split at a slash, and a topic: its levels. -/
import Derived.Test.YtgekknefphagbaaGreatDoorPtfx
import Derived.Test.YtgekknefphagbaaGreatDoorEqx
import Derived.Test.YtgekknefphagbaaGreatDoorGzx
import Derived.KernelRfl
namespace Go.Proofs.YtgekknefphagbaaGreatDoor
open Go.RowKit
set_option linter.unusedSimpArgs false
set_option linter.unusedVariables false
set_option linter.unusedSectionVars false
set_option maxHeartbeats 4000000
set_option maxRecDepth 100000
section
abbrev knM (m:Int):Ent:=.know 3 [.int .i64 m]
def levs (l:List UInt8):List (List UInt8):=(Lib.splitB (bs [47]) 0 (Lib.countB (bs l) (bs [47])) (bs l)).map (·.data.toList)
theorem bs_back (b:ByteArray):bs b.data.toList=b:=by cases b;simp [bs]
theorem ziM:∀ (n:Nat) (cs:List V),n=cs.length->zdF 1 false n cs=cs
 | 0,[],_=>rfl
 | n+1,c::cs,h=>by
  simp only [zdF,Bool.false_eq_true,if_false,List.getD_cons_zero,List.drop_succ_cons,List.drop_zero,ziM n cs (by simpa using h)]
theorem zjI (l:List UInt8):(levs l).length=Lib.countB (bs l) (bs [47])+1:=by
 unfold levs
 rw [List.length_map,Lib.splitB_all (bs [47]) (by decide) 0 _ (bs l) rfl]
theorem zp1 (m:Int) (l:List UInt8) (F:Own):l.length<=1000000000->DC Tryz.prog 173 [.str l, .str [47]] ([knM m]++F) fun d G=>d = .sl ((levs l).map V.str)/\G=[knM m]++F:=fun hl=>by
 refine ⟨by kernel_rfl,fun xs w hs hsz hr=>?_⟩
 have h0:=hr 0 (by simp)
 have h1:=hr 1 (by simp)
 obtain ⟨x0,x1,rfl⟩:=zpY hsz
 have e0:x0 = .string (bs l):=by
  have h0:R (stable w ([knM m]++F)) w x0 (.str l):=h0
  cases h0;rfl
 have e1:x1 = .string (bs [47]):=by
  have h1:R (stable w ([knM m]++F)) w x1 (.str [47]):=h1
  cases h1;rfl
 subst e0;subst e1
 have hh:=hs.holds (knM m) (List.mem_cons_self ..)
 obtain ⟨k1,k2⟩:=hh 0 (by simp)
 have k2:R (stable w ([knM m]++F)) w (zaS w ⟨3,0,none⟩) (.int .i64 m):=k2
 have hm:w.cell? ⟨3,0,none⟩=some (.int .i64 m):=by
  have k3:=k1.1
  unfold zaS at k2
  cases hc:w.cell? ⟨3,0,none⟩ with
  | none=>rw [hc] at k3;cases k3
  | some v=>rw [hc] at k2;cases k2;rfl
 have c:=Any.strings_Split zjM (by kernel_rfl) (bs l) (bs [47]) m w (by rw [zde];omega) hm (by decide)
 refine c.mono ?_
 rintro e w' ⟨rfl,rfl⟩
 have hz:((levs l).map V.str).length=(Lib.countB (bs l) (bs [47])+1) * 1:=by rw [List.length_map,zjI,Nat.mul_one]
 have rr:=zjn (w:=w) hs ((Lib.splitB (bs [47]) 0 (Lib.countB (bs l) (bs [47])) (bs l)).map Value.string).toArray (laySplit_ren.t 9) ((levs l).map V.str) (Lib.countB (bs l) (bs [47])+1) 1 false (by decide) (fun _=>⟨rfl,by simp [V.flat]⟩) (by simp [levs]) hz (fun k hk=>by
  have hk':k<(Lib.splitB (bs [47]) 0 (Lib.countB (bs l) (bs [47])) (bs l)).length:=by simpa [levs] using hk
  have e1:(((Lib.splitB (bs [47]) 0 (Lib.countB (bs l) (bs [47])) (bs l)).map Value.string).toArray).getD k undef=Value.string (bs ((Lib.splitB (bs [47]) 0 (Lib.countB (bs l) (bs [47])) (bs l))[k]).data.toList):=by
   rw [bs_back];simp [Array.getD_eq_getD_getElem?,hk']
  have e2:((levs l).map V.str).getD k .any = .str ((Lib.splitB (bs [47]) 0 (Lib.countB (bs l) (bs [47])) (bs l))[k]).data.toList:=by
   simp [levs,List.getD_eq_getElem?_getD,hk']
  rw [e1,e2];exact .str _)
 rw [ziM _ _ (by rw [hz,Nat.mul_one])] at rr
 exact ⟨_,_,_,rfl,(Sim.new hs _).1,(Sim.new hs _).2,rr,rfl,rfl⟩
attribute [local irreducible] DW SeqD DV DOp DC DVX
theorem zgM (m:Int) (l:List UInt8) (F:Own):(l.length<=1000000000)->DC Tryz.prog 120 [.str l] ([knM m]++F) fun d G=>d = .sl ((levs l).map V.str)/\G=[knM m]++F:=by
 intro hA
 have hl:=hA
 refine DC.bodyS (n_:=5) (show Tryz.prog.funcs[120]? = some Tryz.f120 by kernel_rfl) rfl rfl (by rfl) ?_
 simp only [env0,List.cons_append,List.nil_append]
 have kw:=ksIs [0,2]
 have ow:=zaf []
 repeat' (first
  | refine g_ ?_
  | ((with_reducible refine And.intro ?_ ?_);(exact sv))
  | (refine DW.cond (by rfl) ?_ ?_<;>(first | exact i0_ | (refine ic_ ?_;intro hb)))
  | ((with_reducible refine zaa ?_ ?_)<;>(intro hb;rw [hb];revert hb;(first | exact i0_ | (refine i_ ?_;intro hb))))
  | refine r_ ?_
  | refine k_ ?_
  | (refine q_ (zp1 _ _ _) ?_)
  | refine o_ ?_
  | refine f_ ?_
  | with_reducible intro b)
 (first | exact fin_ | refine finq_ ?_)
 all_goals rfl
section
attribute [local push_cast 2000] u8
end
end
section
attribute [local irreducible] DW SeqD DV DOp DC DVX
def zcz (l:List UInt8):Bool:=l.any fun c=>c==43||c==35
theorem zkx (r:Int) (F:Own):(True)->DC Tryz.prog 143 [.int .i32 r] (([]:Own)++F) fun d G=>d = .bool (r==43||r==35)/\G=[]++F:=by
 intro hA
 refine DC.bodyS (n_:=9) (show Tryz.prog.funcs[143]? = some Tryz.f143 by kernel_rfl) rfl rfl (by rfl) ?_
 simp only [env0,List.cons_append,List.nil_append]
 have kw:=ksIs [0,2]
 have ow:=zaf []
 repeat' (first
  | refine g_ ?_
  | ((with_reducible refine And.intro ?_ ?_);(exact sv))
  | (refine DW.cond (by rfl) ?_ ?_<;>(first | exact i0_ | (refine ic_ ?_;intro hb)))
  | ((with_reducible refine zaa ?_ ?_)<;>(intro hb;rw [hb];revert hb;(first | exact i0_ | (refine i_ ?_;intro hb))))
  | refine r_ ?_
  | refine k_ ?_
  | refine o_ ?_
  | refine f_ ?_
  | with_reducible intro b)
 all_goals
  refine ⟨_,_,le.of_eq ?_,⟨rfl,rfl⟩,SubP.refl⟩
  simp_all
end
section
attribute [local irreducible] DW SeqD DV DOp DC DVX
def okAt (ls:List (List UInt8)) (i:Nat):Bool:=ls.getD i default==[43]||(ls.getD i default==[35]&&decide ((i:Int)=(ls.length:Int) - 1)) || !zcz (ls.getD i default)
def okF (ls:List (List UInt8)):Bool:=(List.range ls.length).all (okAt ls)
theorem okF_t {ls:List (List UInt8)} (h:∀ i,i<ls.length->okAt ls i=true):okF ls=true:=by
 unfold okF;rw [List.all_eq_true];intro i hi;exact h i (List.mem_range.1 hi)
theorem okF_f {ls:List (List UInt8)} {k:Nat} (hk:k<ls.length) (h:okAt ls k=false):okF ls=false:=by
 cases e:okF ls with
 | false=>rfl
 | true=>unfold okF at e;rw [List.all_eq_true] at e;rw [e k (List.mem_range.2 hk)] at h;cases h
theorem ok_s {ls:List (List UInt8)} {k:Nat} (h:∀ i,i<k->okAt ls i=true) (hk:okAt ls k=true):∀ i,i<k+1->okAt ls i=true:=fun i hi=>by
 rcases Nat.lt_or_eq_of_le (Nat.le_of_lt_succ hi) with h1 | rfl
 · exact h i h1
 · exact hk
end
section
attribute [local irreducible] DW SeqD DV DOp DC DVX
def zfX:List (List UInt8)->List (List UInt8)->Bool
 | [],b=>b.isEmpty
 | x::a,b=>x==[35]||match b with
  | []=>false
  | y::b=>(x==[43]||x==y)&&zfX a b
theorem ze7 (l:List (List UInt8)):List.take l.length (List.map V.str l)=List.map V.str l:=List.take_of_length_le (by simp)
def hidT (l:List UInt8):Bool:=l.take 1==[36]
def zlV (a b:List (List UInt8)):Bool:=!(hidT (b.getD 0 default)&&(a.getD 0 default==[43]||a.getD 0 default==[35]))&&zfX a b
section
attribute [local push_cast 2000] ze7
end
end
end Go.Proofs.YtgekknefphagbaaGreatDoor
