/- What a story's tables are as frames: plain law. No statement of the program. -/
import Derived.Test.YtbmbcjmgjdnlnaaGreatDoorSp3x
import Derived.KernelRfl
namespace Go.Proofs.YtbmbcjmgjdnlnaaGreatDoor
open Go.RowKit
set_option linter.unusedSimpArgs false
set_option linter.unusedVariables false
set_option linter.unusedSectionVars false
section
theorem getD_or {α:Type} [Inhabited α] (l:List α) (k:Nat):l.getD k default∈l\/l.getD k default=default:=by
 by_cases h:k<l.length
 · exact .inl (getD_mem h)
 · right;rw [List.getD_eq_getElem?_getD,List.getElem?_eq_none (by omega)];rfl
theorem filterL_len {f:Str} (h:f∈filterL):f.length<=9:=by
 have:∀ f∈filterL,f.length<=9:=by decide
 exact this f h
theorem topicL_len {f:Str} (h:f∈topicL):f.length<=9:=by
 have:∀ f∈topicL,f.length<=9:=by decide
 exact this f h
theorem nat_0:natIn 0:=⟨by decide,by decide⟩
theorem dot_in {i:Nat} {t:TTable} (hi:i<=20) (h:TR t) (hr:Rng i t) {d:TDot} (hd:d∈dotsOf t.routes t.cells):dotIn d:=by
 have hh:=has_iff.1 (h.hasDots d hd)
 rcases top_cases h.seen d.node d.epoch with ⟨x,hx,h1,h2,h3⟩ | ⟨_,h3⟩
 · obtain ⟨a,b,c⟩:=hr.s x hx
   exact ⟨⟨by omega,by omega⟩,⟨by omega,by omega⟩,⟨by omega,by omega⟩⟩
 · omega
theorem story_neat {i:Nat} {t:TTable} (hi:i<=20) (h:TR t) (hr:Rng i t):Neat t:=by
 obtain ⟨l1,l2,l3⟩:=story_len hi h hr
 have hd:∀ d:TDot,d∈t.seen->dotIn d:=fun d hd=>by
  obtain ⟨a,b,c⟩:=hr.s d hd
  exact ⟨⟨by omega,by omega⟩,⟨by omega,by omega⟩,⟨by omega,by omega⟩⟩
 have hz:dotIn (default:TDot):=⟨nat_0,nat_0,nat_0⟩
 refine ⟨by omega,by omega,by omega,by omega,fun k=>?_,fun k=>?_,fun k=>?_,fun k=>?_⟩
 · rcases getD_or t.seen k with e | e
   · exact hd _ e
   · rw [e];exact hz
 · rcases getD_or t.fences k with e | e
   · obtain ⟨a,b⟩:=hr.f _ e
     exact ⟨⟨by omega,by omega⟩,⟨by omega,by omega⟩⟩
   · rw [e];exact ⟨nat_0,nat_0⟩
 · rcases getD_or t.routes k with e | e
   · have:=filterL_len (hr.r _ e)
     exact ⟨dot_in hi h hr (by simp only [dotsOf,List.mem_append,List.mem_map];exact .inl ⟨_,e,rfl⟩),by omega⟩
   · rw [e];exact ⟨hz,Nat.zero_le _⟩
 · rcases getD_or t.cells k with e | e
   · obtain ⟨a1,a2,a3,a4,a5⟩:=hr.c _ e
     have:=topicL_len a1
     have hc:=(h.cok _ e).1
     simp only [cellB,stampedM,Bool.and_eq_true,decide_eq_true_eq] at hc
     exact ⟨dot_in hi h hr (by simp only [dotsOf,List.mem_append,List.mem_map];exact .inr ⟨_,e,rfl⟩),⟨⟨by omega,by omega⟩,⟨by omega,by omega⟩,⟨by omega,by omega⟩⟩,⟨by omega,by omega⟩,by omega,by omega⟩
   · rw [e];exact ⟨hz,⟨nat_0,nat_0,nat_0⟩,nat_0,Nat.zero_le _,Nat.zero_le _⟩
theorem table_len {i:Nat} {t:TTable} (hi:i<=20) (h:TR t) (hr:Rng i t):(tableBy t).length<=1000000:=by
 obtain ⟨l1,l2,l3⟩:=story_len hi h hr
 have hn:=story_neat hi h hr
 have e1:(flatBy fenceBy t.fences).length=16 * t.fences.length:=flatBy_len (fun x _=>fenceBy_len x)
 have e2:(flatBy routeBy t.routes).length<=41 * t.routes.length:=flatBy_le fun x hx=>by rw [routeBy_len];have:=filterL_len (hr.r _ hx);omega
 have e3:(flatBy cellBy t.cells).length<=119 * t.cells.length:=flatBy_le fun x hx=>by
  rw [cellBy_len];obtain ⟨a1,a2,_⟩:=hr.c _ hx;have:=topicL_len a1;omega
 simp only [tableBy,List.length_append,dotsBy_len,numsL_len,List.length_cons,List.length_nil,e1]
 omega
theorem tables_at {l:List TDeed} (hn:l.length<=20) (h:∀ d∈l,deedOk d) {k:Int} (hk:0<=k/\k<3) :
  (tablesM l).length=3/\TR ((tablesM l).getD k.toNat default)/\Neat ((tablesM l).getD k.toNat default)/\Lite 3072 ((tablesM l).getD k.toNat default)/\(tableBy ((tablesM l).getD k.toNat default)).length<=1000000:=by
 have hs:=Story.of h
 obtain ⟨t1,t2,_⟩:=hs.tab hk
 exact ⟨hs.lt,t1,story_neat hn t1 t2,story_lite hn t1 t2,table_len hn t1 t2⟩
theorem full_split (f:TFrame):fullBy f=bodyBy f++leK 8 (fnvV (bodyBy f)):=rfl
theorem body_take (f:TFrame):(bodyBy f).take 3=[72,66,49]:=rfl
end
section
set_option maxHeartbeats 4000000
set_option maxRecDepth 100000
attribute [local irreducible] DW SeqD DV DOp DC DVX
section
attribute [local push_cast 2000] encDeed
theorem few_dc (l:List TDeed) (F:Own):(True)->DC Tryz.prog 13 [.sl (l.map encDeed)] (([]:Own)++F) fun d G=>(d = .bool true/\(l.length<=20/\∀ k,(l.getD k default).x.length<=30)/\G=[]++F)\/(d = .bool false/\G=[]++F):=by
 intro hA
 refine DC.bodyS (n_:=20) (show Tryz.prog.funcs[13]? = some Tryz.f13 by kernel_rfl) rfl rfl (by rfl) ?_
 simp only [env0,List.cons_append,List.nil_append]
 have kw:=ksIs [0,2,3,6,10,19]
 have ow:=ownIs []
 repeat' (first
  | ((with_reducible refine DW.loopB 0 (X:=Nat) (fun x=>x<=l.length/\∀ j,j<x->(l.getD j default).x.length<=30) (fun x=>[(0, .sl (l.map encDeed)),(3, .int .i64 x)]) (fun x=>([]:Own)) (fun x=>l.length - x) (0) ?_ ?_ ?_);exact (⟨Nat.zero_le _,fun j h=>absurd h (Nat.not_lt_zero _)⟩);(simp [Sub,get,keepL]<;>fail);(try simp only [List.cons_append,List.nil_append]);refine pl_ ?_;intro k ⟨hk,hj⟩;(try simp only [List.cons_append,List.nil_append]);try simp only at hk hj)
  | refine g_ ?_
  | ((with_reducible refine And.intro ?_ ?_);(exact sv))
  | (refine DW.cond (by rfl) ?_ ?_<;>(first | exact i0_ | (refine ic_ ?_;intro hb)))
  | ((with_reducible refine FVg_cases ?_ ?_)<;>(intro hb;rw [hb];revert hb;(first | exact i0_ | (refine i_ ?_;intro hb))))
  | refine r_ ?_
  | refine k_ ?_
  | refine o_ ?_
  | refine f_ ?_
  | with_reducible intro b)
 all_goals first
 | (exfalso;omega)
 | (refine ⟨_,_,le.rfl_, .inr ⟨rfl,rfl⟩,?_⟩;(exact sub_);done)
 | (refine ⟨k+1,⟨by omega,fun j hj2=>?_⟩,?_,?_,?_⟩;(rcases Nat.lt_succ_iff_lt_or_eq.1 hj2 with h | rfl;(exact hj j h);(omega));(omega);(simp [Sub,get]<;>fail);(try dsimp only);(exact sub_);done)
 | (refine ⟨_,_,le.rfl_, .inl ⟨rfl,⟨by omega,fun j=>?_⟩,rfl⟩,?_⟩;rotate_left;(exact sub_);(by_cases h:j<k;(exact hj j h);(rw [List.getD_eq_getElem?_getD,List.getElem?_eq_none (by omega)];exact Nat.zero_le _));done)
end
theorem story_dc (l:List TDeed) (F:Own):(l.length<=20/\∀ d∈l,deedOk d)->DC Tryz.prog 48 [.sl (l.map encDeed)] (([]:Own)++F) fun d G=>d = .sl ((tablesM l).map encTable)/\G=[]++F:=by
 intro hA
 have hA0:=hA
 refine DC.bodyS (n_:=5) (show Tryz.prog.funcs[48]? = some Tryz.f48 by kernel_rfl) rfl rfl (by rfl) ?_
 simp only [env0,List.cons_append,List.nil_append]
 have kw:=ksIs [0,2]
 have ow:=ownIs []
 repeat' (first
  | refine g_ ?_
  | ((with_reducible refine And.intro ?_ ?_);(exact sv))
  | (refine DW.cond (by rfl) ?_ ?_<;>(first | exact i0_ | (refine ic_ ?_;intro hb)))
  | ((with_reducible refine FVg_cases ?_ ?_)<;>(intro hb;rw [hb];revert hb;(first | exact i0_ | (refine i_ ?_;intro hb))))
  | refine r_ ?_
  | refine k_ ?_
  | (refine q_ (tables_dc _ _) ?_)
  | refine o_ ?_
  | refine f_ ?_
  | with_reducible intro b)
 (first | exact fin_ | refine finq_ ?_)
 all_goals rfl
theorem topic_name {k:Int} (h:0<=k):nameB (topicM k)=true/\(topicM k).length<=1000:=by
 have key:∀ f∈topicL,nameB f=true/\f.length<=1000:=by decide +kernel
 exact key _ (topicM_mem h)
section
attribute [local push_cast 2000] encTable
end
section
attribute [local push_cast 2000] toN3 takeMap isU8 isU8_map byteOf_map
end
end
end Go.Proofs.YtbmbcjmgjdnlnaaGreatDoor
