/- A cell where it belongs. -/
import Derived.Test.YtifdpbghkccaoaaGreatDoorRd7x
import Derived.Test.YtifdpbghkccaoaaGreatDoorRd4x
import Derived.KernelRfl
namespace Go.Proofs.YtifdpbghkccaoaaGreatDoor
open Go.RowKit
set_option linter.unusedSimpArgs false
set_option linter.unusedVariables false
set_option linter.unusedSectionVars false
set_option maxHeartbeats 4000000
set_option maxRecDepth 100000
section
attribute [local irreducible] DW SeqD DV DOp DC DVX
def newerM (a b:TCell):Bool:=newerDS a.dot a.stamp b.dot b.stamp
def placeC (ce:List TCell) (f:Str):Nat:=firstK (fun i=>!Op.bytesLess (ce.getD i default).topic f) ce.length 0
def cellInM (ce:List TCell) (c:TCell):List TCell :=
 if placeC ce c.topic<ce.length/\(ce.getD (placeC ce c.topic) default).topic=c.topic then
  if newerM (ce.getD (placeC ce c.topic) default) c=true then ce else ce.take (placeC ce c.topic)++(c::ce.drop (placeC ce c.topic+1))
 else ce.take (placeC ce c.topic)++(c::ce.drop (placeC ce c.topic))
theorem placeC_at {ce:List TCell} {f:Str} {k:Nat} (h:k<ce.length) (ha:∀ i,0<=i->i<k->(!Op.bytesLess (ce.getD i default).topic f)=false) (hk:Op.bytesLess (ce.getD k default).topic f=false):placeC ce f=k :=
 firstK_at _ ce.length 0 k (Nat.zero_le _) (by omega) ha (by rw [hk];rfl)
theorem placeC_no {ce:List TCell} {f:Str} {k:Nat} (h:ce.length<=k) (ha:∀ i,0<=i->i<k->(!Op.bytesLess (ce.getD i default).topic f)=false):placeC ce f=ce.length:=by
 have:=firstK_no (fun i=>!Op.bytesLess (ce.getD i default).topic f) ce.length 0 (fun i h1 h2=>ha i h1 (by omega))
 rw [Nat.zero_add] at this
 exact this
theorem cellIn_old {ce:List TCell} {c:TCell} {k:Nat} (hp:placeC ce c.topic=k) (h1:k<ce.length) (h2:(ce.getD k default).topic=c.topic) (h3:newerM (ce.getD k default) c=true):cellInM ce c=ce:=by
 rw [cellInM,hp,if_pos ⟨h1,h2⟩,if_pos h3]
theorem cellIn_set {ce:List TCell} {c:TCell} {k:Nat} (hp:placeC ce c.topic=k) (h1:k<ce.length) (h2:(ce.getD k default).topic=c.topic) (h3:newerM (ce.getD k default) c=false):cellInM ce c=ce.take k++(c::ce.drop (k+1)):=by
 rw [cellInM,hp,if_pos ⟨h1,h2⟩,if_neg (by rw [h3];simp)]
theorem cellIn_new {ce:List TCell} {c:TCell} {k:Nat} (hp:placeC ce c.topic=k) (h:ce.length<=k\/¬ (ce.getD k default).topic=c.topic):cellInM ce c=ce.take k++(c::ce.drop k):=by
 rw [cellInM,hp,if_neg]
 rintro ⟨h1,h2⟩
 rcases h with h | h
 · omega
 · exact h h2
attribute [local irreducible] newerDS
theorem sv_cellinto_dc {p:Prop} (h:p:=by first | exact sv | (simp [encDot,encRoute,encFence,V.one];omega) | (simp [encRoute,encDot,encFence,V.one,List.length_take,List.length_drop]<;>omega) | (refine ⟨by omega,by omega,?_⟩;intro y hy;rcases List.mem_append.1 hy with hy | hy;(obtain ⟨x,_,rfl⟩:=List.mem_map.1 hy;rfl);(simp only [List.mem_singleton] at hy;subst hy;rfl)) | (refine ⟨by omega,by omega,?_⟩;intro y hy;obtain ⟨x,_,rfl⟩:=List.mem_map.1 hy;first | rfl | exact ⟨rfl,rfl⟩) | (refine ⟨?_,?_,?_,?_⟩<;>first | omega | (simp only [List.length_append,List.length_singleton];omega)) | (simp [encCell,u8,V.one];omega) | (simp [encCell,u8,V.one,List.length_take,List.length_drop]<;>omega) | fail):p:=h
section
attribute [local push_cast 2000] encCell takeM dropM List.length_take List.length_drop
theorem cellinto_dc (ce:List TCell) (c1 c2 c3 c4 c5 c6:Int) (c7:Str) (c8:Str) (c9:Int) (c10:Bool) (F:Own):(ce.length<=1000000000)->DC Tryz.prog 56 [.sl (ce.map encCell), .agg [.int .i64 c1, .int .i64 c2, .int .i64 c3, .int .i64 c4, .int .i64 c5, .int .i64 c6, .str c7, .sl (c8.map u8), .int .i64 c9, .bool c10]] (([]:Own)++F) fun d G=>d = .sl ((cellInM ce ⟨⟨c1,c2,c3⟩,⟨c4,c5,c6⟩,c7,c8,c9,c10⟩).map encCell)/\G=[]++F:=by
 intro hA
 have hr:=hA
 refine DC.bodyS (n_:=66) (show Tryz.prog.funcs[56]? = some Tryz.f56 by kernel_rfl) rfl rfl (by rfl) ?_
 simp only [env0,List.cons_append,List.nil_append]
 have kw:=ksIs [0,1,3,4,5,19,35,41]
 have ow:=ownIs []
 have dw2:=drIs 2 [] [9,11]
 have dw4:=drIs 4 [] [9,11]
 have dw5:=drIs 5 [] [3,4,5]
 have dw7:=drIs 7 [3,6,11] []
 have dw8:=drIs 8 [3,6,10] []
 repeat' (first
  | ((with_reducible refine DW.loopB 0 (X:=Nat) (fun x=>x<=ce.length/\∀ i,0<=i->i<x->(!Op.bytesLess (ce.getD i default).topic c7)=false) (fun x=>[(0, .sl (ce.map encCell)),(3, .sp [.int .i64 c1, .int .i64 c2, .int .i64 c3, .int .i64 c4, .int .i64 c5, .int .i64 c6, .str c7, .sl (c8.map u8), .int .i64 c9, .bool c10]),(5, .int .i64 x)]) (fun x=>([]:Own)) (fun x=>ce.length - x) (0) ?_ ?_ ?_);exact (⟨Nat.zero_le _,fun i _ h=>absurd h (Nat.not_lt_zero _)⟩);(simp [Sub,get,keepL]<;>fail);(try simp only [List.cons_append,List.nil_append]);refine pl_ ?_;intro k ⟨hk,ha⟩;(try simp only [List.cons_append,List.nil_append]))
  | refine g_ ?_
  | ((with_reducible refine And.intro ?_ ?_);(exact sv_cellinto_dc))
  | (refine DW.cond (by rfl) ?_ ?_<;>(first | exact i0_ | (refine ic_ ?_;intro hb)))
  | ((with_reducible first | refine FVg_cases ?_ ?_ | refine FDg_cases ?_ ?_)<;>(intro hb;rw [hb];revert hb;(first | exact i0_ | (refine i_ ?_;intro hb))))
  | refine r_ ?_
  | refine d_ ?_
  | refine k_ ?_
  | ((refine dm_ ?_);(first | (refine v_ (newer_dc _ _ _ _ _ _ _ _ _ _ _ _ _ _ _ _ _ _ _ _ _) ?_ (ha:=by exact sv_cellinto_dc))))
  | refine vo_ ?_
  | (refine q_ (newer_dc _ _ _ _ _ _ _ _ _ _ _ _ _ _ _ _ _ _ _ _ _) ?_ (ha:=by exact sv_cellinto_dc))
  | refine o_ ?_
  | refine f_ ?_
  | refine vm_ ?_
  | with_reducible intro b)
 all_goals first
 | (refine ⟨k+1,⟨by omega,fun i h1 h2=>?_⟩,by omega,by simp [Sub,get],?_⟩;(by_cases hik:i=k;(subst hik;rw [‹Op.bytesLess _ _=true›];rfl);exact ha i h1 (by omega));(exact sub_);done)
 | (rw [cellIn_old (k:=k) (c:=⟨⟨c1,c2,c3⟩,⟨c4,c5,c6⟩,c7,c8,c9,c10⟩) (placeC_at (by omega) ha (by assumption)) (by omega) (by assumption) (by assumption)];(first | exact fin_ | refine finq_ ?_);done)
 | (rw [cellIn_set (k:=k) (c:=⟨⟨c1,c2,c3⟩,⟨c4,c5,c6⟩,c7,c8,c9,c10⟩) (placeC_at (by omega) ha (by assumption)) (by omega) (by assumption) (by assumption)];refine ⟨_,_,le.gs ?_,⟨rfl,rfl⟩,?_⟩;(simp [encCell]);(exact sub_);done)
 | (rw [cellIn_new (k:=k) (c:=⟨⟨c1,c2,c3⟩,⟨c4,c5,c6⟩,c7,c8,c9,c10⟩) (placeC_at (by omega) ha (by assumption)) (.inr (by assumption))];refine ⟨_,_,le.gs ?_,⟨rfl,rfl⟩,?_⟩;(simp [encCell]);(exact sub_);done)
 | (have hkl:k=ce.length:=by omega
    subst hkl
    rw [cellIn_new (c:=⟨⟨c1,c2,c3⟩,⟨c4,c5,c6⟩,c7,c8,c9,c10⟩) (placeC_no (Nat.le_refl _) ha) (.inl (Nat.le_refl _))];refine ⟨_,_,le.gs ?_,⟨rfl,rfl⟩,?_⟩;(simp [encCell]);(exact sub_);done)
end
end
end Go.Proofs.YtifdpbghkccaoaaGreatDoor
