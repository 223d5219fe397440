/- A text is what the document says. -/
import Derived.Test.YtgekknefphagbaaGreatDoorPtfx
import Derived.KernelRfl
namespace Go.Proofs.YtgekknefphagbaaGreatDoor
open Go.RowKit
set_option linter.unusedSimpArgs false
set_option linter.unusedVariables false
set_option linter.unusedSectionVars false
set_option maxHeartbeats 4000000
set_option maxRecDepth 100000
section
attribute [local irreducible] DW SeqD DV DOp DC DVX
theorem zp9 (l:List UInt8):List.take l.length (List.map u8 l)=List.map u8 l:=List.take_of_length_le (by simp)
theorem decS_dc (l:Str) (F:Own):((1<=l.length/\l.length<=1000000000)/\128<=bt l 0)->DC Tryz.prog 268 [.sl (l.map u8)] ([knF,knA]++F) fun d G=>((d = .tup [.int .i32 65533, .int .i64 1]/\(za6 l).2.2=false)\/(∃ r:Int,∃ n:Nat,(d = .tup [.int .i32 r, .int .i64 (n:Int)]/\(za6 l).2.2=true)/\(za6 l).2.1=(n:Int)/\(2<=n/\n<=l.length)/\(za6 l).1≠0))/\G=[knF,knA]++F:=fun ⟨hl,h0⟩=>by
 have hx:accN (bt l 0)=accN (bt l 0):=rfl
 conv at hx=>rhs;unfold accN
 repeat' split at hx
 all_goals first
 | exact zmc l F ⟨hl,h0,hx⟩
 | exact znl l F ⟨hl,h0,hx⟩
 | exact znp l F ⟨hl,h0,hx⟩
 | exact zmS l F ⟨hl,h0,hx⟩
 | exact znf l F ⟨hl,h0,hx⟩
 | exact zlO l F ⟨hl,h0,hx⟩
 | exact znq l F ⟨hl,h0,hx⟩
 | exact zm1 l F ⟨hl,h0,hx⟩
section
attribute [local push_cast 2000] u8 zfD
theorem decR_dc (l:Str) (F:Own):(1<=l.length/\l.length<=1000000000)->DC Tryz.prog 237 [.sl (l.map u8)] ([knF,knA]++F) fun d G=>((bt l 0<128/\d = .tup [.int .i32 (bt l 0), .int .i64 1])\/128<=bt l 0/\((d = .tup [.int .i32 65533, .int .i64 1]/\(za6 l).2.2=false)\/(∃ r:Int,∃ n:Nat,(d = .tup [.int .i32 r, .int .i64 (n:Int)]/\(za6 l).2.2=true)/\(za6 l).2.1=(n:Int)/\(2<=n/\n<=l.length)/\(za6 l).1≠0)))/\G=[knF,knA]++F:=by
 intro hA
 obtain ⟨hl,hl2⟩:=hA
 refine DC.bodyS (n_:=22) (show Tryz.prog.funcs[237]? = some Tryz.f237 by kernel_rfl) rfl rfl (by rfl) ?_
 simp only [env0,List.cons_append,List.nil_append]
 have kw:=ksIs [0,2,3,5,6,7,8,9,13]
 have ow:=zaf []
 have q0:=u8_b (l.getD 0 0)
 repeat' (first
  | ((with_reducible refine DW.loopB 0 (X:=Nat) (fun x=>x<=0) (fun x=>[(0, .sl (l.map u8)),(6, .sl (l.map u8)),(7, .int .i64 (l.length:Int)),(8, .int .i64 x)]) (fun x=>[knF,knA]) (fun x=>0 - x) (0) ?_ ?_ ?_);exact (Nat.zero_le _);(simp [Sub,get,zaW]<;>fail);(try simp only [List.cons_append,List.nil_append]);refine pl_ ?_;intro k hk;(try simp only [List.cons_append,List.nil_append]);obtain rfl:k=0:=by omega)
  | refine g_ ?_
  | ((with_reducible refine And.intro ?_ ?_);(exact sv))
  | (refine DW.cond (by rfl) ?_ ?_<;>(first | exact i0_ | (refine ic_ ?_;intro hb)))
  | ((with_reducible refine zaa ?_ ?_)<;>(intro hb;rw [hb];revert hb;(first | exact i0_ | (refine i_ ?_;intro hb))))
  | refine r_ ?_
  | refine k_ ?_
  | (refine p_ (decS_dc _ _) ?_;rintro d H1 ⟨⟨rfl,hv⟩ | ⟨r,n,⟨rfl,hv⟩,hs⟩,rfl⟩<;>refine s_ ?_)
  | refine o_ ?_
  | refine f_ ?_
  | with_reducible intro b)
 all_goals first
 | ((refine ⟨_,_,le.rfl_,⟨.inl ⟨by show ((l.getD 0 0).toNat:Int)<128;omega,rfl⟩,rfl⟩,?_⟩;exact sub_;done))
 | ((refine ⟨_,_,le.rfl_,⟨.inr ⟨by show 128<=((l.getD 0 0).toNat:Int);omega, .inl ⟨rfl,hv⟩⟩,rfl⟩,?_⟩;exact sub_;done))
 | ((refine ⟨_,_,le.rfl_,⟨.inr ⟨by show 128<=((l.getD 0 0).toNat:Int);omega, .inr ⟨r,n,⟨rfl,hv⟩,hs⟩⟩,rfl⟩,?_⟩;exact sub_;done))
 | (trivial)
 | (exfalso;omega)
end
theorem zjw (l:Str) (k:Nat):bt (l.drop k) 0=((l.getD k 0).toNat:Int):=by unfold bt;simp [List.getD_eq_getElem?_getD,List.getElem?_drop]
theorem decP_dc (l:Str) (k:Nat) (F:Own):(k<l.length/\l.length<=1000000000)->DC Tryz.prog 237 [.sl ((l.map u8).drop k)] ([knF,knA]++F) fun d G =>
  (((((l.getD k 0).toNat:Int)<128/\(za6 (l.drop k)).2.2=true/\(za6 (l.drop k)).1=((l.getD k 0).toNat:Int)/\(za6 (l.drop k)).2.1=1)/\d = .tup [.int .i32 ((l.getD k 0).toNat:Int), .int .i64 1])\/((128<=((l.getD k 0).toNat:Int)/\(za6 (l.drop k)).2.2=false)/\d = .tup [.int .i32 65533, .int .i64 1]) \/
    ∃ r:Int,∃ n:Nat,(128<=((l.getD k 0).toNat:Int)/\(za6 (l.drop k)).2.2=true/\(za6 (l.drop k)).1≠0/\(za6 (l.drop k)).2.1=(n:Int)/\2<=n/\k+n<=l.length)/\d = .tup [.int .i32 r, .int .i64 (n:Int)])/\G=[knF,knA]++F:=fun ⟨h1,h2⟩=>by
 have hm:(l.map u8).drop k=(l.drop k).map u8:=List.map_drop.symm
 rw [hm]
 refine (decR_dc (l.drop k) F ⟨by rw [List.length_drop];omega,by rw [List.length_drop];omega⟩).mono fun d G ⟨h,hG⟩=>⟨?_,hG⟩
 rw [zjw] at h
 rcases h with ⟨a,rfl⟩ | ⟨a,⟨rfl,b⟩ | ⟨r,n,⟨rfl,b⟩,c1,c2,c3⟩⟩
 · have e:=znM (l:=l.drop k) (by show bt (l.drop k) 0<128;rw [zjw];exact a)
   have e2:(((l.drop k).getD 0 0).toNat:Int)=((l.getD k 0).toNat:Int):=zjw l k
   rw [e2] at e
   exact .inl ⟨⟨a,by rw [e],by rw [e],by rw [e]⟩,rfl⟩
 · exact .inr (.inl ⟨⟨a,b⟩,rfl⟩)
 · rw [List.length_drop] at c2
   exact .inr (.inr ⟨r,n,⟨a,b,c3,c1,c2.1,by omega⟩,rfl⟩)
attribute [local irreducible] za6
section
attribute [local push_cast 2000] u8 zp9 zfD
theorem zpI (l:Str) (F:Own):(l.length<=1000000000)->DC Tryz.prog 190 [.sl (l.map u8)] ([knF,knA]++F) fun d G=>∃ i:Int,d = .int .i64 i/\decide (i<0)=chkB l/\G=[knF,knA]++F:=by
 intro hA
 have hl:=hA
 refine DC.bodyS (n_:=34) (show Tryz.prog.funcs[190]? = some Tryz.f190 by kernel_rfl) rfl rfl (by rfl) ?_
 simp only [env0,List.cons_append,List.nil_append]
 have kw:=ksIs [0,2,3,4,5,9,29]
 have ow:=zaf []
 repeat' (first
  | ((with_reducible refine DW.loopB 0 (X:=Nat) (fun x=>x<=l.length/\∃ f,l.length - x<=f/\chkB l=chkF f (l.drop x)) (fun x=>[(0, .sl (l.map u8)),(3, .int .i64 x)]) (fun x=>[knF,knA]) (fun x=>l.length - x) (0) ?_ ?_ ?_);exact (⟨Nat.zero_le _,l.length,by omega,by rw [List.drop_zero];rfl⟩);(simp [Sub,get,zaW]<;>fail);(try simp only [List.cons_append,List.nil_append]);refine pl_ ?_;intro k ⟨hk,f,hf,ha⟩;(try simp only [List.cons_append,List.nil_append]);have q0:=u8_b (l.getD k 0))
  | refine g_ ?_
  | ((with_reducible refine And.intro ?_ ?_);(exact sv))
  | (refine DW.cond (by rfl) ?_ ?_<;>(first | exact i0_ | (refine ic_ ?_;intro hb)))
  | ((with_reducible refine zaa ?_ ?_)<;>(intro hb;rw [hb];revert hb;(first | exact i0_ | (refine i_ ?_;intro hb))))
  | refine r_ ?_
  | refine k_ ?_
  | (refine p_ (decP_dc _ _ _) ?_;rintro d H1 ⟨⟨⟨c0,c1,c2,c3⟩,rfl⟩ | ⟨⟨c0,c1⟩,rfl⟩ | ⟨r,n,⟨c0,c1,c2,c3,c4,c5⟩,rfl⟩,rfl⟩<;>refine s_ ?_)
  | refine o_ ?_
  | refine f_ ?_
  | with_reducible intro b)
 all_goals first
 | (have hkl:k=l.length:=by omega
    subst hkl
    rw [List.drop_length,zk6] at ha
    refine ⟨_,_,le.rfl_,⟨-1,rfl,by rw [ha];rfl,rfl⟩,?_⟩;exact sub_;done)
 | (have hb2:=zmn (show k<l.length by omega) hf (by first | (left;assumption) | (right;omega))
    rw [hb2] at ha
    refine ⟨_,_,le.rfl_,⟨(k:Int),rfl,by rw [ha];exact decide_eq_false (by omega),rfl⟩,?_⟩;exact sub_;done)
 | (exact absurd trivial hb)
 | (obtain ⟨m,g,e1,e2,e3,e4,e5⟩:=zmL (show k<l.length by omega) hf c1 (by omega)
    obtain rfl:m=1:=by omega
    refine ⟨k+1,⟨e3,g,e4,by rw [ha,e5]⟩,by omega,?_,?_⟩;(simp [Sub,get]<;>fail);(exact sub_);done)
 | (obtain ⟨m,g,e1,e2,e3,e4,e5⟩:=zmL (show k<l.length by omega) hf c1 (by omega)
    obtain rfl:m=n:=by omega
    refine ⟨k+m,⟨e3,g,e4,by rw [ha,e5]⟩,by omega,?_,?_⟩;(simp [Sub,get]<;>fail);(exact sub_);done)
 | (exfalso;omega)
end
section
attribute [local push_cast 2000] u8
theorem zjK (l:Str) (F:Own):(l.length<=1000000000)->DC Tryz.prog 144 [.str l] ([knF,knA]++F) fun d G=>d = .bool (zcL l)/\G=[knF,knA]++F:=by
 intro hA
 have hl:=hA
 refine DC.bodyS (n_:=16) (show Tryz.prog.funcs[144]? = some Tryz.f144 by kernel_rfl) rfl rfl (by rfl) ?_
 simp only [env0,List.cons_append,List.nil_append]
 have kw:=ksIs [0,2]
 have ow:=zaf []
 repeat' (first
  | refine g_ ?_
  | ((with_reducible refine And.intro ?_ ?_);(exact sv))
  | (refine DW.cond (by rfl) ?_ ?_<;>(first | exact i0_ | (refine ic_ ?_;intro hb)))
  | ((with_reducible refine zaa ?_ ?_)<;>(intro hb;rw [hb];revert hb;(first | exact i0_ | (refine i_ ?_;intro hb))))
  | refine r_ ?_
  | refine k_ ?_
  | (refine p_ (zpI _ _) ?_;rintro d H1 ⟨i,rfl,hi1,rfl⟩<;>refine s_ ?_)
  | refine o_ ?_
  | refine f_ ?_
  | with_reducible intro b)
 all_goals first
 | (have e:zcL l=false:=by unfold zcL;first | (rw [decide_eq_false (show ¬ l.length<=65535 by omega)];simp) | (rw [(by assumption:l=[])];rfl)
    rw [e];(first | exact fin_ | refine finq_ ?_);done)
 | (have hne:1<=l.length:=by rcases Nat.eq_zero_or_pos l.length with h | h;(exact absurd (List.length_eq_zero_iff.1 h) (by assumption));exact h
    have e:zcL l=chkB l:=by unfold zcL;rw [decide_eq_true hne,decide_eq_true (by omega)];rfl
    rw [e,<-hi1];(first | exact fin_ | refine finq_ ?_);done)
end
end
end Go.Proofs.YtgekknefphagbaaGreatDoor
