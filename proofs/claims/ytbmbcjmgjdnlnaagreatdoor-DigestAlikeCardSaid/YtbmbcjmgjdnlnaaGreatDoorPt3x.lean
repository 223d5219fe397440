/- Numbers as digits; sums of texts. -/
import Derived.Test.YtbmbcjmgjdnlnaaGreatDoorDg1x
import Derived.Test.YtbmbcjmgjdnlnaaGreatDoorLp
import Derived.KernelRfl
import Derived.Test.YtbmbcjmgjdnlnaaGreatDoorPt2x
import Derived.Test.YtbmbcjmgjdnlnaaGreatDoorEzx
import Derived.Test.YtbmbcjmgjdnlnaaGreatDoorEu
import Derived.Sort.Grow
import Derived.Deep.Draws
import Derived.Lib.Overlaps
import Derived.Test.YtbmbcjmgjdnlnaaGreatDoorRa2x
import Derived.Test.YtbmbcjmgjdnlnaaGreatDoorRa1x
namespace Go.Proofs.YtbmbcjmgjdnlnaaGreatDoor
open Go.RowKit
set_option linter.unusedSimpArgs false
set_option linter.unusedVariables false
set_option linter.unusedSectionVars false
set_option maxHeartbeats 4000000
set_option maxRecDepth 100000
section
attribute [local irreducible] DW SeqD DV DOp DC DVX
section
attribute [local push_cast 2000] u8 wrapU8
end
end
section
theorem found_lt {l:List TDot} {x:TDot} (h:foundB l x=true):placeD l x<l.length:=by
 simp only [foundB,Bool.and_eq_true,decide_eq_true_eq] at h;exact h.1
theorem bsd2_dc (l:List TDot) (x1 x2 x3:Int) (F:Own):(rightB l=true/\l.length<=1000000000)->DC Tryz.prog 197 [.sl (l.map encDot), .agg [.int .i64 x1, .int .i64 x2, .int .i64 x3], .fn (.func 125) [] []] (([]:Own)++F) fun d G=>(foundB l ⟨x1,x2,x3⟩=true/\placeD l ⟨x1,x2,x3⟩<l.length/\d = .tup [.int .i64 (placeD l ⟨x1,x2,x3⟩), .bool true]\/foundB l ⟨x1,x2,x3⟩=false/\d = .tup [.int .i64 (placeD l ⟨x1,x2,x3⟩), .bool false])/\G=[]++F:=fun h =>
 (bsd_dc l x1 x2 x3 F h).mono fun d G ⟨h1,h2⟩=>⟨by
   cases hf:foundB l ⟨x1,x2,x3⟩ with
   | true=>rw [hf] at h1;exact .inl ⟨rfl,found_lt hf,h1⟩
   | false=>rw [hf] at h1;exact .inr ⟨rfl,h1⟩,h2⟩
theorem top_wrong {l:List TDot} (h:rightB l=false) (n e:Int):topM l n e=0:=by rw [topM,if_neg (by rw [h];simp)]
theorem before_dec (a b:TDot):decide (orI (livesI a b) (cmpI a.n b.n)<0)=before a b:=by
 rw [Bool.eq_iff_iff,decide_eq_true_iff];exact before_lt a b
theorem order_dec (a b:TRoute):decide (orderI a b<0)=rbefore a b:=by
 rw [Bool.eq_iff_iff,decide_eq_true_iff];exact orderI_lt a b
attribute [local irreducible] DW SeqD DV DOp DC DVX
section
attribute [local push_cast 2000] encDot dot_eta
theorem topd_dc (l:List TDot) (x1 x2 x3:Int) (F:Own):(rightB l=true/\l.length<=1000000000)->DC Tryz.prog 220 [.sl (l.map encDot), .agg [.int .i64 x1, .int .i64 x2, .int .i64 x3]] (([]:Own)++F) fun d G=>d = .int .i64 (topM l x1 x2)/\G=[]++F:=by
 intro hA
 obtain ⟨hr,hl⟩:=hA
 refine DC.bodyS (n_:=19) (show Tryz.prog.funcs[220]? = some Tryz.f220 by kernel_rfl) rfl rfl (by rfl) ?_
 simp only [env0,List.cons_append,List.nil_append]
 have kw:=ksIs [0,1,3,4,5,6,13]
 have ow:=ownIs []
 have ht:=top_bs hr x1 x2 x3
 repeat' (first
  | refine g_ ?_
  | ((with_reducible refine And.intro ?_ ?_);(exact sv))
  | (refine DW.cond (by rfl) ?_ ?_<;>(first | exact i0_ | (refine ic_ ?_;intro hb)))
  | ((with_reducible refine FVg_cases ?_ ?_)<;>(intro hb;rw [hb];revert hb;(first | exact i0_ | (refine i_ ?_;intro hb))))
  | refine r_ ?_
  | refine k_ ?_
  | (refine p_ (bsd2_dc _ _ _ _ _) ?_;rintro d H1 ⟨⟨hf,hpl,rfl⟩ | ⟨hf,rfl⟩,rfl⟩<;>refine s_ ?_)
  | refine o_ ?_
  | refine f_ ?_
  | with_reducible intro b)
 all_goals first
 | (rw [ht,if_pos hf];(first | exact fin_ | refine finq_ ?_);done)
 | (rw [ht,if_neg (by rw [hf];simp)];(first | exact fin_ | refine finq_ ?_);done)
end
theorem ptop_dc (l:List TDot) (node epoch:Int) (F:Own):(l.length<=1000000000)->DC Tryz.prog 178 [.sl (l.map encDot), .int .i64 node, .int .i64 epoch] (([]:Own)++F) fun d G=>d = .int .i64 (topM l node epoch)/\G=[]++F:=by
 intro hA
 have hl:=hA
 refine DC.bodyS (n_:=15) (show Tryz.prog.funcs[178]? = some Tryz.f178 by kernel_rfl) rfl rfl (by rfl) ?_
 simp only [env0,List.cons_append,List.nil_append]
 have kw:=ksIs [0,1,2,6,9]
 have ow:=ownIs []
 repeat' (first
  | refine g_ ?_
  | ((with_reducible refine And.intro ?_ ?_);(exact sv))
  | (refine DW.cond (by rfl) ?_ ?_<;>(first | exact i0_ | (refine ic_ ?_;intro hb)))
  | ((with_reducible refine FVg_cases ?_ ?_)<;>(intro hb;rw [hb];revert hb;(first | exact i0_ | (refine i_ ?_;intro hb))))
  | refine r_ ?_
  | refine k_ ?_
  | (refine q_ (pright_dc _ _) ?_)
  | (refine q_ (topd_dc _ _ _ _ _) ?_)
  | refine o_ ?_
  | refine f_ ?_
  | with_reducible intro b)
 all_goals first
 | (rw [top_wrong (by assumption)];(first | exact fin_ | refine finq_ ?_);done)
 | ((first | exact fin_ | refine finq_ ?_);done)
theorem pbefore_dc (a1 a2 a3 b1 b2 b3:Int) (F:Own):(True)->DC Tryz.prog 200 [.agg [.int .i64 a1, .int .i64 a2, .int .i64 a3], .agg [.int .i64 b1, .int .i64 b2, .int .i64 b3]] (([]:Own)++F) fun d G=>d = .bool (before ⟨a1,a2,a3⟩ ⟨b1,b2,b3⟩)/\G=[]++F:=by
 intro hA
 refine DC.bodyS (n_:=16) (show Tryz.prog.funcs[200]? = some Tryz.f200 by kernel_rfl) rfl rfl (by rfl) ?_
 simp only [env0,List.cons_append,List.nil_append]
 have kw:=ksIs [0,1,2,3,4]
 have ow:=ownIs []
 have dw1:=drIs 1 [] [0,1,2,4,6,7,9]
 repeat' (first
  | refine g_ ?_
  | ((with_reducible refine And.intro ?_ ?_);(exact sv))
  | (refine DW.cond (by rfl) ?_ ?_<;>(first | exact i0_ | (refine ic_ ?_;intro hb)))
  | ((with_reducible first | refine FVg_cases ?_ ?_ | refine FDg_cases ?_ ?_)<;>(intro hb;rw [hb];revert hb;(first | exact i0_ | (refine i_ ?_;intro hb))))
  | refine r_ ?_
  | refine d_ ?_
  | refine k_ ?_
  | ((refine dm_ ?_);(first | ((first | refine v_ (cmpi_dc _ _ _) ?_ | refine v_ (or2_dc _ _ _) ?_ | refine v_ (lives_dc _ _ _ _ _ _ _) ?_))))
  | refine vo_ ?_
  | ((first | refine q_ (cmpi_dc _ _ _) ?_ | refine q_ (or2_dc _ _ _) ?_ | refine q_ (lives_dc _ _ _ _ _ _ _) ?_))
  | refine o_ ?_
  | refine f_ ?_
  | refine vm_ ?_
  | with_reducible intro b)
 all_goals
  refine ⟨_,_,le.of_eq ?_,⟨rfl,rfl⟩,SubP.refl⟩
  rw [<-before_dec]
theorem order_dc (a1 a2 a3:Int) (f1:Str) (b1 b2 b3:Int) (f2:Str) (F:Own):(True)->DC Tryz.prog 175 [.agg [.int .i64 a1, .int .i64 a2, .int .i64 a3, .str f1], .agg [.int .i64 b1, .int .i64 b2, .int .i64 b3, .str f2]] (([]:Own)++F) fun d G=>d = .int .i64 (orderI ⟨⟨a1,a2,a3⟩,f1⟩ ⟨⟨b1,b2,b3⟩,f2⟩)/\G=[]++F:=by
 intro hA
 refine DC.bodyS (n_:=26) (show Tryz.prog.funcs[175]? = some Tryz.f175 by kernel_rfl) rfl rfl (by rfl) ?_
 simp only [env0,List.cons_append,List.nil_append]
 have kw:=ksIs [0,1,2,3,4,5,12,14,20]
 have ow:=ownIs []
 repeat' (first
  | refine g_ ?_
  | ((with_reducible refine And.intro ?_ ?_);(exact sv))
  | (refine DW.cond (by rfl) ?_ ?_<;>(first | exact i0_ | (refine ic_ ?_;intro hb)))
  | ((with_reducible refine FVg_cases ?_ ?_)<;>(intro hb;rw [hb];revert hb;(first | exact i0_ | (refine i_ ?_;intro hb))))
  | refine r_ ?_
  | refine k_ ?_
  | (refine q_ (cmps_dc _ _ _) ?_)
  | (refine q_ (pbefore_dc _ _ _ _ _ _ _) ?_)
  | refine o_ ?_
  | refine f_ ?_
  | with_reducible intro b)
 all_goals
  refine ⟨_,_,le.of_eq ?_,⟨rfl,rfl⟩,SubP.refl⟩
  unfold orderI
  simp_all
theorem prbefore_dc (a1 a2 a3:Int) (f1:Str) (b1 b2 b3:Int) (f2:Str) (F:Own):(True)->DC Tryz.prog 106 [.agg [.int .i64 a1, .int .i64 a2, .int .i64 a3, .str f1], .agg [.int .i64 b1, .int .i64 b2, .int .i64 b3, .str f2]] (([]:Own)++F) fun d G=>d = .bool (rbefore ⟨⟨a1,a2,a3⟩,f1⟩ ⟨⟨b1,b2,b3⟩,f2⟩)/\G=[]++F:=by
 intro hA
 refine DC.bodyS (n_:=9) (show Tryz.prog.funcs[106]? = some Tryz.f106 by kernel_rfl) rfl rfl (by rfl) ?_
 simp only [env0,List.cons_append,List.nil_append]
 have kw:=ksIs [0,1,2,3,4]
 have ow:=ownIs []
 repeat' (first
  | refine g_ ?_
  | ((with_reducible refine And.intro ?_ ?_);(exact sv))
  | (refine DW.cond (by rfl) ?_ ?_<;>(first | exact i0_ | (refine ic_ ?_;intro hb)))
  | ((with_reducible refine FVg_cases ?_ ?_)<;>(intro hb;rw [hb];revert hb;(first | exact i0_ | (refine i_ ?_;intro hb))))
  | refine r_ ?_
  | refine k_ ?_
  | (refine q_ (order_dc _ _ _ _ _ _ _ _ _) ?_)
  | refine o_ ?_
  | refine f_ ?_
  | with_reducible intro b)
 all_goals
  refine ⟨_,_,le.of_eq ?_,⟨rfl,rfl⟩,SubP.refl⟩
  rw [<-order_dec]
end
section
inductive CvO (v:Value) (l:List V):Own->Own->Prop
 | nil:CvO v l [] []
 | keep (e:Ent) {H H':Own} (h:CvO v l H H'):CvO v l (e::H) (e::H')
 | blk (b:Nat) {cs ds:List V} (hc:CvL v l cs ds) {H H':Own} (h:CvO v l H H'):CvO v l (.blk b cs::H) (.blk b ds::H')
theorem CvO.mem {v:Value} {l:List V} {H H':Own} (h:CvO v l H H'):(∀ e'∈H',∃ e∈H,(∀ a,e'.owns a↔e.owns a)/\(∀ b,e'.touches b↔e.touches b))/\(∀ e∈H,∃ e'∈H',(∀ a,e'.owns a↔e.owns a)/\(∀ b,e'.touches b↔e.touches b)):=by
 induction h with
 | nil=>exact ⟨(fun _ h=>nomatch h),(fun _ h=>nomatch h)⟩
 | keep e _ ih =>
  refine ⟨fun x hx=>?_,fun x hx=>?_⟩
  · rcases List.mem_cons.1 hx with rfl | hx
    · exact ⟨_,List.mem_cons_self ..,fun _=>Iff.rfl,fun _=>Iff.rfl⟩
    · obtain ⟨y,hy,h⟩:=ih.1 x hx;exact ⟨y,List.mem_cons_of_mem _ hy,h⟩
  · rcases List.mem_cons.1 hx with rfl | hx
    · exact ⟨_,List.mem_cons_self ..,fun _=>Iff.rfl,fun _=>Iff.rfl⟩
    · obtain ⟨y,hy,h⟩:=ih.2 x hx;exact ⟨y,List.mem_cons_of_mem _ hy,h⟩
 | blk b hc _ ih =>
  refine ⟨fun x hx=>?_,fun x hx=>?_⟩
  · rcases List.mem_cons.1 hx with rfl | hx
    · exact ⟨_,List.mem_cons_self ..,fun _=>Iff.rfl,fun _=>Iff.rfl⟩
    · obtain ⟨y,hy,h⟩:=ih.1 x hx;exact ⟨y,List.mem_cons_of_mem _ hy,h⟩
  · rcases List.mem_cons.1 hx with rfl | hx
    · exact ⟨_,List.mem_cons_self ..,fun _=>Iff.rfl,fun _=>Iff.rfl⟩
    · obtain ⟨y,hy,h⟩:=ih.2 x hx;exact ⟨y,List.mem_cons_of_mem _ hy,h⟩
theorem CvO.holds {v:Value} {l:List V} {w:World} {S S':Addr->Prop} (hv:R S' w v (.gs v l)) (hS:∀ a,S a->S' a) {H H':Own} (h:CvO v l H H') (hh:∀ e∈H,e.holds S w):∀ e∈H',e.holds S' w:=by
 induction h with
 | nil=>exact fun _ h=>nomatch h
 | keep e _ ih =>
  intro x hx
  rcases List.mem_cons.1 hx with rfl | hx
  · exact Ent.holds_mono (hh _ (List.mem_cons_self ..)) (fun a ha=>⟨hS a ha,rfl⟩) (fun _ _=>rfl)
  · exact ih (fun e he=>hh e (List.mem_cons_of_mem _ he)) x hx
 | blk b hc _ ih =>
  intro x hx
  rcases List.mem_cons.1 hx with rfl | hx
  · obtain ⟨xs,T,fr,h1,h2,h3,h4⟩:=hh _ (List.mem_cons_self ..)
    exact ⟨xs,T,fr,h1,h2,h3.trans hc.len,fun k hk=>R.cv hv (hc.at k) ((h4 k (by rw [hc.len];exact hk)).mono fun a ha=>⟨hS a ha,rfl⟩)⟩
  · exact ih (fun e he=>hh e (List.mem_cons_of_mem _ he)) x hx
theorem CvO.stable {v:Value} {l:List V} {w:World} {H H':Own} (h:CvO v l H H') {a:Addr} (hs:stable w H a):stable w H' a:=⟨hs.1,fun e he ho=>by
 obtain ⟨y,hy,h1,_⟩:=h.mem.1 e he
 exact hs.2 y hy ((h1 a).1 ho)⟩
theorem CvO.loose {v:Value} {l:List V} {H H':Own} (h:CvO v l H H') (hl:Go.Proofs.YtbmbcjmgjdnlnaaGreatDoor.loose∈H'):Go.Proofs.YtbmbcjmgjdnlnaaGreatDoor.loose∈H:=by
 induction h with
 | nil=>exact hl
 | keep e _ ih =>
  rcases List.mem_cons.1 hl with hl | hl
  · exact hl▸List.mem_cons_self ..
  · exact List.mem_cons_of_mem _ (ih hl)
 | blk b hc _ ih =>
  rcases List.mem_cons.1 hl with hl | hl
  · cases hl
  · exact List.mem_cons_of_mem _ (ih hl)
section
variable {P:Program} {n:Nat} {Q:Exit->Env->Own->Prop} {e e':Env} {H:Own}
end
end
section
attribute [local irreducible] DW SeqD DV DOp DC DVX DVJ
section
attribute [local push_cast 2000] encDot
end
section
attribute [local push_cast 2000] encFence
end
section
attribute [local push_cast 2000] encRoute
end
section
attribute [local push_cast 2000] encCell
end
section
attribute [local push_cast 2000] u8
end
end
section
attribute [local irreducible] DW SeqD DV DOp DC DVX DVJ
section
end
end
section
structure Elm (S:Addr->Prop) (w:World) (k:Nat) {T:Type} (encV:T->V) (ok:T->Prop) where
 t:T
 vs:List Value
 len:vs.length=k
 one:∀ v∈vs,v.oneCell'=true
 rel:∀ j,j<k->R S w (vs.getD j undef) ((encV t).cell j)
 good:ok t
theorem two_of {xs:Array Value} (h:xs.size=2):∃ a b,xs = #[a,b]:=by
 obtain ⟨l⟩:=xs
 match l,h with
 | [a,b],_=>exact ⟨a,b,rfl⟩
theorem zero_of {xs:Array Value} (h:xs.size=0):xs = #[]:=by
 obtain ⟨l⟩:=xs
 match l,h with
 | [],_=>rfl
end
section
section
variable {P:Program} {o:Oper} {f:Operand->V} {H:Own} {K:V->Own->Prop}
inductive InA (sz:Nat) (u:Value):Own->Prop
 | here {cs:List V} {H:Own}:InA sz u (.arr sz u cs::H)
 | next {e:Ent} {H:Own} (h:InA sz u H):InA sz u (e::H)
inductive Two (sz:Nat) (v u:Value):Own->Prop
 | here {cs:List V} {H:Own} (h:InA sz u H):Two sz v u (.arr sz v cs::H)
 | there {cs:List V} {H:Own} (h:InA sz v H):Two sz v u (.arr sz u cs::H)
 | next {e:Ent} {H:Own} (h:Two sz v u H):Two sz v u (e::H)
theorem InA.mem {sz:Nat} {u:Value} {H:Own} (h:InA sz u H):∃ cs,Ent.arr sz u cs∈H:=by
 induction h with
 | here=>exact ⟨_,List.mem_cons_self ..⟩
 | next _ ih=>obtain ⟨cs,h⟩:=ih;exact ⟨cs,List.mem_cons_of_mem _ h⟩
end
end
section
section
variable {T:Type} {enc:T->V} {s:Nat}
end
attribute [local irreducible] DW SeqD DV DOp DC DVX DVJ
section
attribute [local push_cast 2000] encDot Nat.sub_zero List.length_take Nat.min_eq_left Nat.min_eq_right
end
section
attribute [local push_cast 2000] encFence Nat.sub_zero List.length_take Nat.min_eq_left Nat.min_eq_right
end
end
section
attribute [local irreducible] DW SeqD DV DOp DC DVX DVJ
section
attribute [local push_cast 2000] encDot dot_eta half_eq cells_dots cells_dot
end
section
attribute [local push_cast 2000] encDot dot_eta cells_dots cells_dot cells_setn
end
end
section
attribute [local irreducible] DW SeqD DV DOp DC DVX DVJ
end
section
theorem encRoute_eta (x:TRoute):(⟨⟨x.dot.node,x.dot.epoch,x.dot.n⟩,x.filter⟩:TRoute)=x:=rfl
theorem encFence_eta (x:TFence):(⟨x.node,x.epoch⟩:TFence)=x:=rfl
attribute [local irreducible] DW SeqD DV DOp DC DVX DVJ
section
attribute [local push_cast 2000] encRoute encRoute_eta
end
section
attribute [local push_cast 2000] encRoute encRoute_eta
end
section
attribute [local push_cast 2000] encFence encFence_eta
theorem idxf_dc (l:List TFence) (g:FuncId) (c1 c2:V) (p:TFence->Bool) (F:Own):((∀ (a b:Int) (F:Own),True->DC Tryz.prog g [.agg [.int .i64 a, .int .i64 b],c1,c2] (([]:Own)++F) fun d G=>d = .bool (p ⟨a,b⟩)/\G=[]++F)/\l.length<=1000000000)->DC Tryz.prog 207 [.sl (l.map encFence), .fn (.func g) [] [c1,c2]] (([]:Own)++F) fun d G=>((∀ q,q<l.length->p (l.getD q default)=false)/\d = .int .i64 (-1)\/∃ k:Nat,(k<l.length/\p (l.getD k default)=true/\∀ q,q<k->p (l.getD q default)=false)/\d = .int .i64 k)/\G=[]++F:=by
 intro hA
 obtain ⟨hcl,hl⟩:=hA
 refine DC.bodyS (n_:=19) (show Tryz.prog.funcs[207]? = some Tryz.f207 by kernel_rfl) rfl rfl (by rfl) ?_
 simp only [env0,List.cons_append,List.nil_append]
 have kw:=ksIs [0,1,4,5,7,8,9,16]
 have ow:=ownIs []
 repeat' (first
  | ((with_reducible refine DW.loopB 0 (X:=Nat) (fun x=>x<=l.length/\∀ q,q<x->p (l.getD q default)=false) (fun x=>[(0, .sl (l.map encFence)),(1, .fn (.func g) [] [c1,c2]),(7, .int .i64 l.length),(8, .int .i64 x)]) (fun x=>([]:Own)) (fun x=>l.length - x) (0) ?_ ?_ ?_);exact (⟨Nat.zero_le _,fun q h=>absurd h (Nat.not_lt_zero _)⟩);(simp [Sub,get,keepL]<;>fail);(try simp only [List.cons_append,List.nil_append]);refine pl_ ?_;intro k ⟨hk,ha⟩;(try simp only [List.cons_append,List.nil_append]))
  | refine g_ ?_
  | ((with_reducible refine And.intro ?_ ?_);(exact sv))
  | (refine DW.cond (by rfl) ?_ ?_<;>(first | exact i0_ | (refine ic_ ?_;intro hb)))
  | ((with_reducible refine FVg_cases ?_ ?_)<;>(intro hb;rw [hb];revert hb;(first | exact i0_ | (refine i_ ?_;intro hb))))
  | refine r_ ?_
  | refine k_ ?_
  | (refine q_ (hcl _ _ _) ?_)
  | refine o_ ?_
  | refine f_ ?_
  | with_reducible intro b)
 all_goals first
 | (refine ⟨_,_,le.rfl_,⟨.inr ⟨k,⟨by omega,hb,ha⟩,rfl⟩,rfl⟩,?_⟩;(exact sub_);done)
 | (refine ⟨k+1,⟨by omega,fun q hq=>?_⟩,by omega,by simp [Sub,get],?_⟩;(by_cases hqk:q=k;(subst hqk;exact hb);exact ha q (by omega));(exact sub_);done)
 | (refine ⟨_,_,le.rfl_,⟨.inl ⟨fun q hq=>ha q (by omega),rfl⟩,rfl⟩,?_⟩;(exact sub_);done)
end
end
section
attribute [local irreducible] DW SeqD DV DOp DC DVX
def encJ (x:Int):V:=.int .i64 x
section
end
section
attribute [local push_cast 2000] encJ
end
section
end
end
section
def eqK {α:Type} [Inhabited α] (l m:List α) (k:Nat):Prop:=∀ j,j<k->l.getD j default=m.getD j default
theorem eqK_0 {α:Type} [Inhabited α] (l m:List α):eqK l m 0:=fun j h=>absurd h (Nat.not_lt_zero _)
theorem eqK_s {α:Type} [Inhabited α] {l m:List α} {k:Nat} (h:eqK l m k) (e:l.getD k default=m.getD k default):eqK l m (k+1):=fun j hj=>by
 rcases Nat.lt_or_eq_of_le (Nat.le_of_lt_succ hj) with h1 | rfl
 · exact h j h1
 · exact e
theorem eqK_all {α:Type} [Inhabited α] {l m:List α} {k:Nat} (h:eqK l m k) (hk:l.length<=k) (hl:l.length=m.length):l=m:=by
 apply List.ext_getElem hl
 intro i h1 h2
 have:=h i (by omega)
 rwa [getD_get l i h1,getD_get m i h2] at this
attribute [local irreducible] DW SeqD DV DOp DC DVX DVJ
section
attribute [local push_cast 2000] bytes_back bytes_are
end
section
attribute [local push_cast 2000] encDot encFence encRoute encCell
end
end
end Go.Proofs.YtbmbcjmgjdnlnaaGreatDoor
