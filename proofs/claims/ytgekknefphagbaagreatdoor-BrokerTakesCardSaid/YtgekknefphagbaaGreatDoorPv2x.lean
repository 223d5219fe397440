/- A text is what the document says. -/
import Derived.Test.YtgekknefphagbaaGreatDoorPtfx
import Derived.KernelRfl
import Derived.Test.YtgekknefphagbaaGreatDoorEqx
import Derived.Test.YtgekknefphagbaaGreatDoorGzx
namespace Go.Proofs.YtgekknefphagbaaGreatDoor
open Go.RowKit
set_option linter.unusedSimpArgs false
set_option linter.unusedVariables false
set_option linter.unusedSectionVars false
set_option maxHeartbeats 4000000
set_option maxRecDepth 100000
section
attribute [local irreducible] DW SeqD DV DOp DC DVX
theorem zo3 (l:List UInt8):List.take l.length (List.map u8 l)=List.map u8 l:=List.take_of_length_le (by simp)
theorem decS_dc (l:Str) (F:Own):((1<=l.length/\l.length<=1000000000)/\128<=bt l 0)->DC Tryz.prog 268 [.sl (l.map u8)] ([knF,knA]++F) fun d G=>((d = .tup [.int .i32 65533, .int .i64 1]/\(zaJ l).2.2=false)\/(∃ r:Int,∃ n:Nat,(d = .tup [.int .i32 r, .int .i64 (n:Int)]/\(zaJ l).2.2=true)/\(zaJ l).2.1=(n:Int)/\(2<=n/\n<=l.length)/\(zaJ l).1≠0))/\G=[knF,knA]++F:=fun ⟨hl,h0⟩=>by
 have hx:accN (bt l 0)=accN (bt l 0):=rfl
 conv at hx=>rhs;unfold accN
 repeat' split at hx
 all_goals first
 | exact zob l F ⟨hl,h0,hx⟩
 | exact zop l F ⟨hl,h0,hx⟩
 | exact znP l F ⟨hl,h0,hx⟩
 | exact znD l F ⟨hl,h0,hx⟩
 | exact zmo l F ⟨hl,h0,hx⟩
 | exact znn l F ⟨hl,h0,hx⟩
 | exact zoq l F ⟨hl,h0,hx⟩
 | exact zor l F ⟨hl,h0,hx⟩
section
attribute [local push_cast 2000] u8 zgi
theorem decR_dc (l:Str) (F:Own):(1<=l.length/\l.length<=1000000000)->DC Tryz.prog 237 [.sl (l.map u8)] ([knF,knA]++F) fun d G=>((bt l 0<128/\d = .tup [.int .i32 (bt l 0), .int .i64 1])\/128<=bt l 0/\((d = .tup [.int .i32 65533, .int .i64 1]/\(zaJ l).2.2=false)\/(∃ r:Int,∃ n:Nat,(d = .tup [.int .i32 r, .int .i64 (n:Int)]/\(zaJ l).2.2=true)/\(zaJ l).2.1=(n:Int)/\(2<=n/\n<=l.length)/\(zaJ l).1≠0)))/\G=[knF,knA]++F:=by
 intro hA
 obtain ⟨hl,hl2⟩:=hA
 refine DC.bodyS (n_:=22) (show Tryz.prog.funcs[237]? = some Tryz.f237 by kernel_rfl) rfl rfl (by rfl) ?_
 simp only [env0,List.cons_append,List.nil_append]
 have kw:=ksIs [0,2,3,5,6,7,8,9,13]
 have ow:=zaf []
 have q0:=u8_b (l.getD 0 0)
 repeat' (first
  | ((with_reducible refine DW.loopB 0 (X:=Nat) (fun x=>x<=0) (fun x=>[(0, .sl (l.map u8)),(6, .sl (l.map u8)),(7, .int .i64 (l.length:Int)),(8, .int .i64 x)]) (fun x=>[knF,knA]) (fun x=>0 - x) (0) ?_ ?_ ?_);exact (Nat.zero_le _);(exact kxcm);(try simp only [List.cons_append,List.nil_append]);refine pl_ ?_;intro k hk;(try simp only [List.cons_append,List.nil_append]);obtain rfl:k=0:=by omega)
  | refine g_ ?_
  | ((with_reducible refine And.intro ?_ ?_);(exact sv))
  | (refine DW.cond (by rfl) ?_ ?_<;>(first | exact i0_ | (refine ic_ ?_;intro hb)))
  | ((with_reducible refine zaa ?_ ?_)<;>(intro hb;rw [hb];revert hb;(first | exact i0_ | (refine i_ ?_;intro hb))))
  | refine r_ ?_
  | refine k_ ?_
  | (refine p_ (decS_dc _ _) ?_;rintro d H1 ⟨⟨rfl,hv⟩ | ⟨r,n,⟨rfl,hv⟩,hs⟩,rfl⟩<;>refine s_ ?_)
  | refine o_ ?_
  | refine f_ ?_
  | with_reducible intro b)
 all_goals first
 | ((refine ⟨_,_,le.rfl_,⟨.inl ⟨by show ((l.getD 0 0).toNat:Int)<128;omega,rfl⟩,rfl⟩,?_⟩;exact sub_;done))
 | ((refine ⟨_,_,le.rfl_,⟨.inr ⟨by show 128<=((l.getD 0 0).toNat:Int);omega, .inl ⟨rfl,hv⟩⟩,rfl⟩,?_⟩;exact sub_;done))
 | ((refine ⟨_,_,le.rfl_,⟨.inr ⟨by show 128<=((l.getD 0 0).toNat:Int);omega, .inr ⟨r,n,⟨rfl,hv⟩,hs⟩⟩,rfl⟩,?_⟩;exact sub_;done))
 | (trivial)
 | (exfalso;omega)
end
theorem zjA (l:Str) (k:Nat):bt (l.drop k) 0=((l.getD k 0).toNat:Int):=by unfold bt;simp [List.getD_eq_getElem?_getD,List.getElem?_drop]
theorem decP_dc (l:Str) (k:Nat) (F:Own):(k<l.length/\l.length<=1000000000)->DC Tryz.prog 237 [.sl ((l.map u8).drop k)] ([knF,knA]++F) fun d G =>
  (((((l.getD k 0).toNat:Int)<128/\(zaJ (l.drop k)).2.2=true/\(zaJ (l.drop k)).1=((l.getD k 0).toNat:Int)/\(zaJ (l.drop k)).2.1=1)/\d = .tup [.int .i32 ((l.getD k 0).toNat:Int), .int .i64 1])\/((128<=((l.getD k 0).toNat:Int)/\(zaJ (l.drop k)).2.2=false)/\d = .tup [.int .i32 65533, .int .i64 1]) \/
    ∃ r:Int,∃ n:Nat,(128<=((l.getD k 0).toNat:Int)/\(zaJ (l.drop k)).2.2=true/\(zaJ (l.drop k)).1≠0/\(zaJ (l.drop k)).2.1=(n:Int)/\2<=n/\k+n<=l.length)/\d = .tup [.int .i32 r, .int .i64 (n:Int)])/\G=[knF,knA]++F:=fun ⟨h1,h2⟩=>by
 have hm:(l.map u8).drop k=(l.drop k).map u8:=List.map_drop.symm
 rw [hm]
 refine (decR_dc (l.drop k) F ⟨by rw [List.length_drop];omega,by rw [List.length_drop];omega⟩).mono fun d G ⟨h,hG⟩=>⟨?_,hG⟩
 rw [zjA] at h
 rcases h with ⟨a,rfl⟩ | ⟨a,⟨rfl,b⟩ | ⟨r,n,⟨rfl,b⟩,c1,c2,c3⟩⟩
 · have e:=zm2 (l:=l.drop k) (by show bt (l.drop k) 0<128;rw [zjA];exact a)
   have e2:(((l.drop k).getD 0 0).toNat:Int)=((l.getD k 0).toNat:Int):=zjA l k
   rw [e2] at e
   exact .inl ⟨⟨a,by rw [e],by rw [e],by rw [e]⟩,rfl⟩
 · exact .inr (.inl ⟨⟨a,b⟩,rfl⟩)
 · rw [List.length_drop] at c2
   exact .inr (.inr ⟨r,n,⟨a,b,c3,c1,c2.1,by omega⟩,rfl⟩)
attribute [local irreducible] zaJ
section
attribute [local push_cast 2000] u8 zo3 zgi
theorem zrh (l:Str) (F:Own):(l.length<=1000000000)->DC Tryz.prog 190 [.sl (l.map u8)] ([knF,knA]++F) fun d G=>∃ i:Int,d = .int .i64 i/\decide (i<0)=chkB l/\G=[knF,knA]++F:=by
 intro hA
 have hl:=hA
 refine DC.bodyS (n_:=34) (show Tryz.prog.funcs[190]? = some Tryz.f190 by kernel_rfl) rfl rfl (by rfl) ?_
 simp only [env0,List.cons_append,List.nil_append]
 have kw:=ksIs [0,2,3,4,5,9,29]
 have ow:=zaf []
 repeat' (first
  | ((with_reducible refine DW.loopB 0 (X:=Nat) (fun x=>x<=l.length/\∃ f,l.length - x<=f/\chkB l=chkF f (l.drop x)) (fun x=>[(0, .sl (l.map u8)),(3, .int .i64 x)]) (fun x=>[knF,knA]) (fun x=>l.length - x) (0) ?_ ?_ ?_);exact (⟨Nat.zero_le _,l.length,by omega,by rw [List.drop_zero];rfl⟩);(exact kxcm);(try simp only [List.cons_append,List.nil_append]);refine pl_ ?_;intro k ⟨hk,f,hf,ha⟩;(try simp only [List.cons_append,List.nil_append]);have q0:=u8_b (l.getD k 0))
  | refine g_ ?_
  | ((with_reducible refine And.intro ?_ ?_);(exact sv))
  | (refine DW.cond (by rfl) ?_ ?_<;>(first | exact i0_ | (refine ic_ ?_;intro hb)))
  | ((with_reducible refine zaa ?_ ?_)<;>(intro hb;rw [hb];revert hb;(first | exact i0_ | (refine i_ ?_;intro hb))))
  | refine r_ ?_
  | refine k_ ?_
  | (refine p_ (decP_dc _ _ _) ?_;rintro d H1 ⟨⟨⟨c0,c1,c2,c3⟩,rfl⟩ | ⟨⟨c0,c1⟩,rfl⟩ | ⟨r,n,⟨c0,c1,c2,c3,c4,c5⟩,rfl⟩,rfl⟩<;>refine s_ ?_)
  | refine o_ ?_
  | refine f_ ?_
  | with_reducible intro b)
 all_goals first
 | (have hkl:k=l.length:=by omega
    subst hkl
    rw [List.drop_length,zko] at ha
    refine ⟨_,_,le.rfl_,⟨-1,rfl,by rw [ha];rfl,rfl⟩,?_⟩;exact sub_;done)
 | (have hb2:=znC (show k<l.length by omega) hf (by first | (left;assumption) | (right;omega))
    rw [hb2] at ha
    refine ⟨_,_,le.rfl_,⟨(k:Int),rfl,by rw [ha];exact decide_eq_false (by omega),rfl⟩,?_⟩;exact sub_;done)
 | (exact absurd trivial hb)
 | (obtain ⟨m,g,e1,e2,e3,e4,e5⟩:=znr (show k<l.length by omega) hf c1 (by omega)
    obtain rfl:m=1:=by omega
    refine ⟨k+1,⟨e3,g,e4,by rw [ha,e5]⟩,by omega,?_,?_⟩;(simp [Sub,get]<;>fail);(exact sub_);done)
 | (obtain ⟨m,g,e1,e2,e3,e4,e5⟩:=znr (show k<l.length by omega) hf c1 (by omega)
    obtain rfl:m=n:=by omega
    refine ⟨k+m,⟨e3,g,e4,by rw [ha,e5]⟩,by omega,?_,?_⟩;(simp [Sub,get]<;>fail);(exact sub_);done)
 | (exfalso;omega)
end
section
attribute [local push_cast 2000] u8
theorem zkO (l:Str) (F:Own):(l.length<=1000000000)->DC Tryz.prog 144 [.str l] ([knF,knA]++F) fun d G=>d = .bool (zdV l)/\G=[knF,knA]++F:=by
 intro hA
 have hl:=hA
 refine DC.bodyS (n_:=16) (show Tryz.prog.funcs[144]? = some Tryz.f144 by kernel_rfl) rfl rfl (by rfl) ?_
 simp only [env0,List.cons_append,List.nil_append]
 have kw:=ksIs [0,2]
 have ow:=zaf []
 repeat' (first
  | refine g_ ?_
  | ((with_reducible refine And.intro ?_ ?_);(exact sv))
  | (refine DW.cond (by rfl) ?_ ?_<;>(first | exact i0_ | (refine ic_ ?_;intro hb)))
  | ((with_reducible refine zaa ?_ ?_)<;>(intro hb;rw [hb];revert hb;(first | exact i0_ | (refine i_ ?_;intro hb))))
  | refine r_ ?_
  | refine k_ ?_
  | (refine p_ (zrh _ _) ?_;rintro d H1 ⟨i,rfl,hi1,rfl⟩<;>refine s_ ?_)
  | refine o_ ?_
  | refine f_ ?_
  | with_reducible intro b)
 all_goals first
 | (have e:zdV l=false:=by unfold zdV;first | (rw [decide_eq_false (show ¬ l.length<=65535 by omega)];simp) | (rw [(by assumption:l=[])];rfl)
    rw [e];(first | exact fin_ | refine finq_ ?_);done)
 | (have hne:1<=l.length:=by rcases Nat.eq_zero_or_pos l.length with h | h;(exact absurd (List.length_eq_zero_iff.1 h) (by assumption));exact h
    have e:zdV l=chkB l:=by unfold zdV;rw [decide_eq_true hne,decide_eq_true (by omega)];rfl
    rw [e,<-hi1];(first | exact fin_ | refine finq_ ?_);done)
end
end
section
abbrev knM (m:Int):Ent:=.know 3 [.int .i64 m]
def levs (l:List UInt8):List (List UInt8):=(Lib.splitB (bs [47]) 0 (Lib.countB (bs l) (bs [47])) (bs l)).map (·.data.toList)
theorem bs_back (b:ByteArray):bs b.data.toList=b:=by cases b;simp [bs]
theorem ziK:∀ (n:Nat) (cs:List V),n=cs.length->zdY 1 false n cs=cs
 | 0,[],_=>rfl
 | n+1,c::cs,h=>by
  simp only [zdY,Bool.false_eq_true,if_false,List.getD_cons_zero,List.drop_succ_cons,List.drop_zero,ziK n cs (by simpa using h)]
theorem zkj (l:List UInt8):(levs l).length=Lib.countB (bs l) (bs [47])+1:=by
 unfold levs
 rw [List.length_map,Lib.splitB_all (bs [47]) (by decide) 0 _ (bs l) rfl]
theorem zqc (m:Int) (l:List UInt8) (F:Own):l.length<=1000000000->DC Tryz.prog 173 [.str l, .str [47]] ([knM m]++F) fun d G=>d = .sl ((levs l).map V.str)/\G=[knM m]++F:=fun hl=>by
 refine ⟨by kernel_rfl,fun xs w hs hsz hr=>?_⟩
 have h0:=hr 0 (by simp)
 have h1:=hr 1 (by simp)
 obtain ⟨x0,x1,rfl⟩:=zqJ hsz
 have e0:x0 = .string (bs l):=by
  have h0:R (stable w ([knM m]++F)) w x0 (.str l):=h0
  cases h0;rfl
 have e1:x1 = .string (bs [47]):=by
  have h1:R (stable w ([knM m]++F)) w x1 (.str [47]):=h1
  cases h1;rfl
 subst e0;subst e1
 have hh:=hs.holds (knM m) (List.mem_cons_self ..)
 obtain ⟨k1,k2⟩:=hh 0 (by simp)
 have k2:R (stable w ([knM m]++F)) w (zbb w ⟨3,0,none⟩) (.int .i64 m):=k2
 have hm:w.cell? ⟨3,0,none⟩=some (.int .i64 m):=by
  have k3:=k1.1
  unfold zbb at k2
  cases hc:w.cell? ⟨3,0,none⟩ with
  | none=>rw [hc] at k3;cases k3
  | some v=>rw [hc] at k2;cases k2;rfl
 have c:=Any.strings_Split zkF (by kernel_rfl) (bs l) (bs [47]) m w (by rw [zdk];omega) hm (by decide)
 refine c.mono ?_
 rintro e w' ⟨rfl,rfl⟩
 have hz:((levs l).map V.str).length=(Lib.countB (bs l) (bs [47])+1) * 1:=by rw [List.length_map,zkj,Nat.mul_one]
 have rr:=zkc (w:=w) hs ((Lib.splitB (bs [47]) 0 (Lib.countB (bs l) (bs [47])) (bs l)).map Value.string).toArray (laySplit_ren.t 9) ((levs l).map V.str) (Lib.countB (bs l) (bs [47])+1) 1 false (by decide) (fun _=>⟨rfl,by simp [V.flat]⟩) (by simp [levs]) hz (fun k hk=>by
  have hk':k<(Lib.splitB (bs [47]) 0 (Lib.countB (bs l) (bs [47])) (bs l)).length:=by simpa [levs] using hk
  have e1:(((Lib.splitB (bs [47]) 0 (Lib.countB (bs l) (bs [47])) (bs l)).map Value.string).toArray).getD k undef=Value.string (bs ((Lib.splitB (bs [47]) 0 (Lib.countB (bs l) (bs [47])) (bs l))[k]).data.toList):=by
   rw [bs_back];simp [Array.getD_eq_getD_getElem?,hk']
  have e2:((levs l).map V.str).getD k .any = .str ((Lib.splitB (bs [47]) 0 (Lib.countB (bs l) (bs [47])) (bs l))[k]).data.toList:=by
   simp [levs,List.getD_eq_getElem?_getD,hk']
  rw [e1,e2];exact .str _)
 rw [ziK _ _ (by rw [hz,Nat.mul_one])] at rr
 exact ⟨_,_,_,rfl,(Sim.new hs _).1,(Sim.new hs _).2,rr,rfl,rfl⟩
attribute [local irreducible] DW SeqD DV DOp DC DVX
theorem zhi (m:Int) (l:List UInt8) (F:Own):(l.length<=1000000000)->DC Tryz.prog 120 [.str l] ([knM m]++F) fun d G=>d = .sl ((levs l).map V.str)/\G=[knM m]++F:=by
 intro hA
 have hl:=hA
 refine DC.bodyS (n_:=5) (show Tryz.prog.funcs[120]? = some Tryz.f120 by kernel_rfl) rfl rfl (by rfl) ?_
 simp only [env0,List.cons_append,List.nil_append]
 have kw:=ksIs [0,2]
 have ow:=zaf []
 repeat' (first
  | refine g_ ?_
  | ((with_reducible refine And.intro ?_ ?_);(exact sv))
  | (refine DW.cond (by rfl) ?_ ?_<;>(first | exact i0_ | (refine ic_ ?_;intro hb)))
  | ((with_reducible refine zaa ?_ ?_)<;>(intro hb;rw [hb];revert hb;(first | exact i0_ | (refine i_ ?_;intro hb))))
  | refine r_ ?_
  | refine k_ ?_
  | (refine q_ (zqc _ _ _) ?_)
  | refine o_ ?_
  | refine f_ ?_
  | with_reducible intro b)
 (first | exact fin_ | refine finq_ ?_)
 all_goals rfl
section
attribute [local push_cast 2000] u8
end
end
end Go.Proofs.YtgekknefphagbaaGreatDoor
