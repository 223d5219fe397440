/- What is owned told with less. No statement of the program. -/
import Derived.Test.YtbmbcjmgjdnlnaaGreatDoorEm
import Derived.Test.YtbmbcjmgjdnlnaaGreatDoorRa1x
import Derived.Test.YtbmbcjmgjdnlnaaGreatDoorGzx
import Derived.KernelRfl
import Derived.Test.YtbmbcjmgjdnlnaaGreatDoorFm1x
import Derived.Test.YtbmbcjmgjdnlnaaGreatDoorFrx
namespace Go.Proofs.YtbmbcjmgjdnlnaaGreatDoor
open Go.RowKit
set_option linter.unusedSimpArgs false
set_option linter.unusedVariables false
set_option linter.unusedSectionVars false
section
theorem Les.at_ {cs ds:List V} (h:Les cs ds):cs.length=ds.length/\∀ k,k<ds.length->le (cs.getD k .any) (ds.getD k .any):=by
 induction h with
 | nil=>exact ⟨rfl,fun k hk=>absurd hk (Nat.not_lt_zero _)⟩
 | cons h1 h2 ih =>
  refine ⟨by simp [ih.1],fun k hk=>?_⟩
  cases k with
  | zero=>simpa using h1
  | succ k=>simpa using ih.2 k (by simpa using hk)
def OLe (G G':Own):Prop:=∀ w:World,Sim w G->Sim w G'/\Ext w G w G'
theorem OLe.rfl_ {G:Own}:OLe G G:=fun w h=>⟨h, .refl _ _⟩
theorem OLe.trans {G G1 G2:Own} (h:OLe G G1) (k:OLe G1 G2):OLe G G2:=fun w hs=>by
 obtain ⟨s1,x1⟩:=h w hs
 obtain ⟨s2,x2⟩:=k w s1
 exact ⟨s2,x1.trans x2⟩
theorem OLe.blk {b:Nat} {cs ds:List V} {F:Own} (hl:Les cs ds):OLe (.blk b cs::F) (.blk b ds::F):=fun w hs=>by
 obtain ⟨l1,l2⟩:=hl.at_
 exact Sim.swap (L1:=[]) (w':=w) (e0:=.blk b cs) (e1:=.blk b ds) hs rfl rfl rfl (Nat.le_refl _) (fun _ _ _=>rfl) (fun _ _ _=>rfl) (fun b hb=>.inl hb) (fun q hq=>.inl hq) (fun hst=>by
  obtain ⟨xs,T,fr,h1,h2,h3,h4⟩:=hs.holds (.blk b cs) (by simp)
  exact ⟨xs,T,fr,h1,h2,h3.trans l1,fun k hk=>l2 k hk _ _ _ ((h4 k (by omega)).mono hst)⟩)
theorem DC.post_le {P:Program} {f:FuncId} {args:List V} {H:Own} {K K':V->Own->Prop} (h:DC P f args H K) (hk:∀ d G,K d G->∃ d' G',le d d'/\OLe G G'/\K' d' G'):DC P f args H K' :=
 ⟨h.1,fun xs w hs hn hr=>(h.2 xs w hs hn hr).mono fun x w' ⟨v,d,H1,he,s,ex,r,k⟩=>by
   obtain ⟨d',G',hd,ho,hk'⟩:=hk d H1 k
   obtain ⟨s2,x2⟩:=ho w' s
   exact ⟨v,d',G',he,s2,ex.trans x2,hd _ _ _ (x2.rel r),hk'⟩⟩
end
section
set_option maxHeartbeats 4000000
set_option maxRecDepth 100000
theorem dot_ext {x y:TDot} (h:x.node=y.node/\x.epoch=y.epoch/\x.n=y.n):x=y:=by
 obtain ⟨a,b,c⟩:=x;obtain ⟨a',b',c'⟩:=y
 simp only at h;obtain ⟨rfl,rfl,rfl⟩:=h;rfl
theorem fence_ext {x y:TFence} (h:x.node=y.node/\x.epoch=y.epoch):x=y:=by
 obtain ⟨a,b⟩:=x;obtain ⟨a',b'⟩:=y
 simp only at h;obtain ⟨rfl,rfl⟩:=h;rfl
theorem route_ext {x y:TRoute} (h:x.dot.node=y.dot.node/\x.dot.epoch=y.dot.epoch/\x.dot.n=y.dot.n/\x.filter=y.filter):x=y:=by
 obtain ⟨⟨a,b,c⟩,d⟩:=x;obtain ⟨⟨a',b',c'⟩,d'⟩:=y
 simp only at h;obtain ⟨rfl,rfl,rfl,rfl⟩:=h;rfl
def eqK {α:Type} [Inhabited α] (l m:List α) (k:Nat):Prop:=∀ j,j<k->l.getD j default=m.getD j default
theorem eqK_0 {α:Type} [Inhabited α] (l m:List α):eqK l m 0:=fun j h=>absurd h (Nat.not_lt_zero _)
theorem eqK_s {α:Type} [Inhabited α] {l m:List α} {k:Nat} (h:eqK l m k) (e:l.getD k default=m.getD k default):eqK l m (k+1):=fun j hj=>by
 rcases Nat.lt_or_eq_of_le (Nat.le_of_lt_succ hj) with h1 | rfl
 · exact h j h1
 · exact e
theorem eqK_all {α:Type} [Inhabited α] {l m:List α} {k:Nat} (h:eqK l m k) (hk:l.length<=k) (hl:l.length=m.length):l=m:=by
 apply List.ext_getElem hl
 intro i h1 h2
 have:=h i (by omega)
 rwa [getD_get l i h1,getD_get m i h2] at this
theorem tab_ext {a b:TTable} (h1:a.seen=b.seen) (h2:a.fences=b.fences) (h3:a.routes=b.routes) (h4:a.cells=b.cells):decide (a=b)=true:=by
 obtain ⟨_,_,_,_⟩:=a;obtain ⟨_,_,_,_⟩:=b
 simp only at h1 h2 h3 h4;subst h1;subst h2;subst h3;subst h4;exact decide_eq_true rfl
def sameC (a b:TCell):Bool:=decide (a=b)
theorem sameC_t {a b:TCell} (h:sameC a b=true):a=b:=of_decide_eq_true h
theorem sameC_f {a b:TCell} (h:sameC a b=false):a≠b:=of_decide_eq_false h
attribute [local irreducible] DW SeqD DV DOp DC DVX DVJ
section
attribute [local push_cast 2000] bytes_back bytes_are
theorem samec_dc (a1 a2 a3 a4 a5 a6:Int) (a7 a8:Str) (a9:Int) (a10:Bool) (b1 b2 b3 b4 b5 b6:Int) (b7 b8:Str) (b9:Int) (b10:Bool) (F:Own):(True)->DC Tryz.prog 128 [.agg [.int .i64 a1, .int .i64 a2, .int .i64 a3, .int .i64 a4, .int .i64 a5, .int .i64 a6, .str a7, .sl (a8.map u8), .int .i64 a9, .bool a10], .agg [.int .i64 b1, .int .i64 b2, .int .i64 b3, .int .i64 b4, .int .i64 b5, .int .i64 b6, .str b7, .sl (b8.map u8), .int .i64 b9, .bool b10]] (([]:Own)++F) fun d G=>d = .bool (sameC (⟨⟨a1,a2,a3⟩,⟨a4,a5,a6⟩,a7,a8,a9,a10⟩:TCell) (⟨⟨b1,b2,b3⟩,⟨b4,b5,b6⟩,b7,b8,b9,b10⟩:TCell))/\G=[]++F:=by
 intro hA
 refine DC.bodyS (n_:=47) (show Tryz.prog.funcs[128]? = some Tryz.f128 by kernel_rfl) rfl rfl (by rfl) ?_
 simp only [env0,List.cons_append,List.nil_append]
 have kw:=ksIs [0,1,2,3,4]
 have ow:=ownIs []
 repeat' (first
  | refine g_ ?_
  | ((with_reducible refine And.intro ?_ ?_);(exact sv))
  | (refine DW.cond (by rfl) ?_ ?_<;>(first | exact i0_ | (refine ic_ ?_;intro hb)))
  | ((with_reducible refine FVg_cases ?_ ?_)<;>(intro hb;rw [hb];revert hb;(first | exact i0_ | (refine i_ ?_;intro hb))))
  | refine r_ ?_
  | refine k_ ?_
  | refine o_ ?_
  | refine f_ ?_
  | with_reducible intro b)
 all_goals first
 | ((refine ⟨_,_,le.of_eq ?_,⟨rfl,rfl⟩,?_⟩);(unfold sameC;congr 1;rw [Bool.eq_iff_iff];simp_all [and_assoc]);(exact sub_);done)
end
section
attribute [local push_cast 2000] encDot encFence encRoute encCell
theorem same_dc (a b:TTable) (F:Own):(Lite 1000000000 a/\Lite 1000000000 b)->DC Tryz.prog 65 [.agg [.sl (a.seen.map encDot), .sl (a.fences.map encFence), .sl (a.routes.map encRoute), .sl (a.cells.map encCell)], .agg [.sl (b.seen.map encDot), .sl (b.fences.map encFence), .sl (b.routes.map encRoute), .sl (b.cells.map encCell)]] (([]:Own)++F) fun d G=>d = .bool (decide (a=b))/\G=[]++F:=by
 intro hA
 obtain ⟨hLa,hLb⟩:=hA
 refine DC.bodyS (n_:=116) (show Tryz.prog.funcs[65]? = some Tryz.f65 by kernel_rfl) rfl rfl (by rfl) ?_
 simp only [env0,List.cons_append,List.nil_append]
 have kw:=ksIs [0,1,2,3,4,5,6,7,8,42,47,60,65,78,83,96,101,115]
 have ow:=ownIs []
 have dw6:=drIs 6 [] [1,4,6,9]
 have dw11:=drIs 11 [] [1,4,6,9]
 have dw16:=drIs 16 [] [1,4,6,9]
 have dw21:=drIs 21 [] [1,4,6,9,10]
 have:=hLa.s;have:=hLa.f;have:=hLa.r;have:=hLa.c;have:=hLb.s;have:=hLb.f;have:=hLb.r;have:=hLb.c
 repeat' (first
  | ((with_reducible refine DW.loopB 0 (X:=Nat) (fun x=>x<=a.seen.length/\eqK a.seen b.seen x) (fun x=>[(2, .sp [.sl (a.seen.map encDot), .sl (a.fences.map encFence), .sl (a.routes.map encRoute), .sl (a.cells.map encCell)]),(3, .sp [.sl (b.seen.map encDot), .sl (b.fences.map encFence), .sl (b.routes.map encRoute), .sl (b.cells.map encCell)]),(5, .int .i64 x)]) (fun x=>([]:Own)) (fun x=>a.seen.length - x) (0) ?_ ?_ ?_);exact (⟨Nat.zero_le _,eqK_0 _ _⟩);(simp [Sub,get,keepL]<;>fail);(try simp only [List.cons_append,List.nil_append]);refine pl_ ?_;intro i ⟨hi,ei⟩;(try simp only [List.cons_append,List.nil_append]))
  | ((with_reducible refine DW.loopB 2 (X:=Nat) (fun x=>x<=a.fences.length/\eqK a.fences b.fences x) (fun x=>[(2, .sp [.sl (a.seen.map encDot), .sl (a.fences.map encFence), .sl (a.routes.map encRoute), .sl (a.cells.map encCell)]),(3, .sp [.sl (b.seen.map encDot), .sl (b.fences.map encFence), .sl (b.routes.map encRoute), .sl (b.cells.map encCell)]),(6, .int .i64 x)]) (fun x=>([]:Own)) (fun x=>a.fences.length - x) (0) ?_ ?_ ?_);exact (⟨Nat.zero_le _,eqK_0 _ _⟩);(simp [Sub,get,keepL]<;>fail);(try simp only [List.cons_append,List.nil_append]);refine pl_ ?_;intro j ⟨hj,ej⟩;(try simp only [List.cons_append,List.nil_append]))
  | ((with_reducible refine DW.loopB 4 (X:=Nat) (fun x=>x<=a.routes.length/\eqK a.routes b.routes x) (fun x=>[(2, .sp [.sl (a.seen.map encDot), .sl (a.fences.map encFence), .sl (a.routes.map encRoute), .sl (a.cells.map encCell)]),(3, .sp [.sl (b.seen.map encDot), .sl (b.fences.map encFence), .sl (b.routes.map encRoute), .sl (b.cells.map encCell)]),(7, .int .i64 x)]) (fun x=>([]:Own)) (fun x=>a.routes.length - x) (0) ?_ ?_ ?_);exact (⟨Nat.zero_le _,eqK_0 _ _⟩);(simp [Sub,get,keepL]<;>fail);(try simp only [List.cons_append,List.nil_append]);refine pl_ ?_;intro k ⟨hk,ek⟩;(try simp only [List.cons_append,List.nil_append]))
  | ((with_reducible refine DW.loopB 6 (X:=Nat) (fun x=>x<=a.cells.length/\eqK a.cells b.cells x) (fun x=>[(2, .sp [.sl (a.seen.map encDot), .sl (a.fences.map encFence), .sl (a.routes.map encRoute), .sl (a.cells.map encCell)]),(3, .sp [.sl (b.seen.map encDot), .sl (b.fences.map encFence), .sl (b.routes.map encRoute), .sl (b.cells.map encCell)]),(8, .int .i64 x)]) (fun x=>([]:Own)) (fun x=>a.cells.length - x) (0) ?_ ?_ ?_);exact (⟨Nat.zero_le _,eqK_0 _ _⟩);(simp [Sub,get,keepL]<;>fail);(try simp only [List.cons_append,List.nil_append]);refine pl_ ?_;intro q ⟨hq,eq⟩;(try simp only [List.cons_append,List.nil_append]))
  | refine g_ ?_
  | ((with_reducible refine And.intro ?_ ?_);(exact sv))
  | (refine DW.cond (by rfl) ?_ ?_<;>(first | exact i0_ | (refine ic_ ?_;intro hb)))
  | ((with_reducible first | refine FVg_cases ?_ ?_ | refine FDg_cases ?_ ?_)<;>(intro hb;rw [hb];revert hb;(first | exact i0_ | (refine i_ ?_;intro hb))))
  | refine r_ ?_
  | refine d_ ?_
  | refine k_ ?_
  | ((refine dm_ ?_);(first | (refine v_ (samec_dc _ _ _ _ _ _ _ _ _ _ _ _ _ _ _ _ _ _ _ _ _) ?_)))
  | refine vo_ ?_
  | (refine q_ (samec_dc _ _ _ _ _ _ _ _ _ _ _ _ _ _ _ _ _ _ _ _ _) ?_)
  | refine o_ ?_
  | refine f_ ?_
  | refine vm_ ?_
  | with_reducible intro b)
 all_goals first
 | ((rw [tab_ext (eqK_all ei (by omega) (by omega)) (eqK_all ej (by omega) (by omega)) (eqK_all ek (by omega) (by omega)) (eqK_all eq (by omega) (by omega))];(first | exact fin_ | refine finq_ ?_);done))
 | (refine ⟨q+1,⟨by omega,eqK_s eq ?_⟩,by omega,by simp [Sub,get],?_⟩;rotate_left;(exact sub_);(first | exact sameC_t hb | exact dot_ext hb | exact fence_ext hb | exact route_ext hb);done)
 | (refine ⟨k+1,⟨by omega,eqK_s ek ?_⟩,by omega,by simp [Sub,get],?_⟩;rotate_left;(exact sub_);(first | exact sameC_t hb | exact dot_ext hb | exact fence_ext hb | exact route_ext hb);done)
 | (refine ⟨j+1,⟨by omega,eqK_s ej ?_⟩,by omega,by simp [Sub,get],?_⟩;rotate_left;(exact sub_);(first | exact sameC_t hb | exact dot_ext hb | exact fence_ext hb | exact route_ext hb);done)
 | (refine ⟨i+1,⟨by omega,eqK_s ei ?_⟩,by omega,by simp [Sub,get],?_⟩;rotate_left;(exact sub_);(first | exact sameC_t hb | exact dot_ext hb | exact fence_ext hb | exact route_ext hb);done)
 | ((rw [show decide (a=b)=false from decide_eq_false (fun e=>by subst e;first | (exact absurd rfl hb) | (exact absurd rfl (sameC_f hb)) | (simp at hb;done) | omega)];(first | exact fin_ | refine finq_ ?_);done))
end
end
section
set_option maxHeartbeats 4000000
set_option maxRecDepth 100000
structure Few (m:Nat) (t:TTable):Prop where
 s:t.seen.length<=m
 f:t.fences.length<=m
 r:t.routes.length<=m
 c:t.cells.length<=m
attribute [local irreducible] DW SeqD DV DOp DC DVX DVJ
theorem palike_dc (a1 a2 a3 a4 a5 a6:Int) (a7 a8:Str) (a9:Int) (a10:Bool) (b1 b2 b3 b4 b5 b6:Int) (b7 b8:Str) (b9:Int) (b10:Bool) (F:Own):(True)->DC Tryz.prog 111 [.agg [.int .i64 a1, .int .i64 a2, .int .i64 a3, .int .i64 a4, .int .i64 a5, .int .i64 a6, .str a7, .sl (a8.map u8), .int .i64 a9, .bool a10], .agg [.int .i64 b1, .int .i64 b2, .int .i64 b3, .int .i64 b4, .int .i64 b5, .int .i64 b6, .str b7, .sl (b8.map u8), .int .i64 b9, .bool b10]] (([]:Own)++F) fun d G=>d = .bool (sameC (⟨⟨a1,a2,a3⟩,⟨a4,a5,a6⟩,a7,a8,a9,a10⟩:TCell) (⟨⟨b1,b2,b3⟩,⟨b4,b5,b6⟩,b7,b8,b9,b10⟩:TCell))/\G=[]++F:=by
 intro hA
 refine DC.bodyS (n_:=45) (show Tryz.prog.funcs[111]? = some Tryz.f111 by kernel_rfl) rfl rfl (by rfl) ?_
 simp only [env0,List.cons_append,List.nil_append]
 have kw:=ksIs [0,1,2,3,4]
 have ow:=ownIs []
 repeat' (first
  | refine g_ ?_
  | ((with_reducible refine And.intro ?_ ?_);(exact sv))
  | (refine DW.cond (by rfl) ?_ ?_<;>(first | exact i0_ | (refine ic_ ?_;intro hb)))
  | ((with_reducible refine FVg_cases ?_ ?_)<;>(intro hb;rw [hb];revert hb;(first | exact i0_ | (refine i_ ?_;intro hb))))
  | refine r_ ?_
  | refine k_ ?_
  | (refine q_ (eqb_dc _ _ _) ?_)
  | refine o_ ?_
  | refine f_ ?_
  | with_reducible intro b)
 all_goals first
 | ((refine ⟨_,_,le.of_eq ?_,⟨rfl,rfl⟩,?_⟩);(unfold sameC;congr 1;rw [Bool.eq_iff_iff];simp_all [and_assoc]);(exact sub_);done)
section
attribute [local push_cast 2000] encDot
theorem peqDot_dc (a b:List TDot) (F:Own):(a.length<=1000000000/\b.length<=1000000000)->DC Tryz.prog 107 [.sl (a.map encDot), .sl (b.map encDot)] (([]:Own)++F) fun d G=>d = .bool (decide (a=b))/\G=[]++F:=by
 intro hA
 obtain ⟨hla,hlb⟩:=hA
 refine DC.bodyS (n_:=26) (show Tryz.prog.funcs[107]? = some Tryz.f107 by kernel_rfl) rfl rfl (by rfl) ?_
 simp only [env0,List.cons_append,List.nil_append]
 have kw:=ksIs [0,1,4,5,10,12,13,14,24]
 have ow:=ownIs []
 have dw6:=drIs 6 [] [3,7]
 repeat' (first
  | ((with_reducible refine DW.loopB 0 (X:=Nat) (fun x=>x<=a.length/\eqK a b x) (fun x=>[(0, .sl (a.map encDot)),(1, .sl (b.map encDot)),(12, .int .i64 a.length),(13, .int .i64 x)]) (fun x=>([]:Own)) (fun x=>a.length - x) (0) ?_ ?_ ?_);exact (⟨Nat.zero_le _,eqK_0 _ _⟩);(simp [Sub,get,keepL]<;>fail);(try simp only [List.cons_append,List.nil_append]);refine pl_ ?_;intro k ⟨hk,ek⟩;(try simp only [List.cons_append,List.nil_append]))
  | refine g_ ?_
  | ((with_reducible refine And.intro ?_ ?_);(exact sv))
  | (refine DW.cond (by rfl) ?_ ?_<;>(first | exact i0_ | (refine ic_ ?_;intro hb)))
  | ((with_reducible first | refine FVg_cases ?_ ?_ | refine FDg_cases ?_ ?_)<;>(intro hb;rw [hb];revert hb;(first | exact i0_ | (refine i_ ?_;intro hb))))
  | refine r_ ?_
  | refine d_ ?_
  | refine k_ ?_
  | refine vo_ ?_
  | refine o_ ?_
  | refine f_ ?_
  | refine vm_ ?_
  | with_reducible intro b)
 all_goals first
 | ((rw [show decide (a=b)=true from decide_eq_true (eqK_all ek (by omega) (by omega))];(first | exact fin_ | refine finq_ ?_);done))
 | (refine ⟨k+1,⟨by omega,eqK_s ek ?_⟩,by omega,by simp [Sub,get],?_⟩;rotate_left;(exact sub_);(exact dot_ext hb);done)
 | ((rw [show decide (a=b)=false from decide_eq_false (fun e=>by subst e;first | (exact absurd rfl hb) | (exact absurd rfl (sameC_f hb)) | (simp at hb;done) | omega)];(first | exact fin_ | refine finq_ ?_);done))
end
section
attribute [local push_cast 2000] encFence
theorem peqFence_dc (a b:List TFence) (F:Own):(a.length<=1000000000/\b.length<=1000000000)->DC Tryz.prog 108 [.sl (a.map encFence), .sl (b.map encFence)] (([]:Own)++F) fun d G=>d = .bool (decide (a=b))/\G=[]++F:=by
 intro hA
 obtain ⟨hla,hlb⟩:=hA
 refine DC.bodyS (n_:=26) (show Tryz.prog.funcs[108]? = some Tryz.f108 by kernel_rfl) rfl rfl (by rfl) ?_
 simp only [env0,List.cons_append,List.nil_append]
 have kw:=ksIs [0,1,4,5,10,12,13,14,24]
 have ow:=ownIs []
 have dw6:=drIs 6 [] [3,7]
 repeat' (first
  | ((with_reducible refine DW.loopB 0 (X:=Nat) (fun x=>x<=a.length/\eqK a b x) (fun x=>[(0, .sl (a.map encFence)),(1, .sl (b.map encFence)),(12, .int .i64 a.length),(13, .int .i64 x)]) (fun x=>([]:Own)) (fun x=>a.length - x) (0) ?_ ?_ ?_);exact (⟨Nat.zero_le _,eqK_0 _ _⟩);(simp [Sub,get,keepL]<;>fail);(try simp only [List.cons_append,List.nil_append]);refine pl_ ?_;intro k ⟨hk,ek⟩;(try simp only [List.cons_append,List.nil_append]))
  | refine g_ ?_
  | ((with_reducible refine And.intro ?_ ?_);(exact sv))
  | (refine DW.cond (by rfl) ?_ ?_<;>(first | exact i0_ | (refine ic_ ?_;intro hb)))
  | ((with_reducible first | refine FVg_cases ?_ ?_ | refine FDg_cases ?_ ?_)<;>(intro hb;rw [hb];revert hb;(first | exact i0_ | (refine i_ ?_;intro hb))))
  | refine r_ ?_
  | refine d_ ?_
  | refine k_ ?_
  | refine vo_ ?_
  | refine o_ ?_
  | refine f_ ?_
  | refine vm_ ?_
  | with_reducible intro b)
 all_goals first
 | ((rw [show decide (a=b)=true from decide_eq_true (eqK_all ek (by omega) (by omega))];(first | exact fin_ | refine finq_ ?_);done))
 | (refine ⟨k+1,⟨by omega,eqK_s ek ?_⟩,by omega,by simp [Sub,get],?_⟩;rotate_left;(exact sub_);(exact fence_ext hb);done)
 | ((rw [show decide (a=b)=false from decide_eq_false (fun e=>by subst e;first | (exact absurd rfl hb) | (exact absurd rfl (sameC_f hb)) | (simp at hb;done) | omega)];(first | exact fin_ | refine finq_ ?_);done))
end
section
attribute [local push_cast 2000] encRoute
theorem peqRoute_dc (a b:List TRoute) (F:Own):(a.length<=1000000000/\b.length<=1000000000)->DC Tryz.prog 109 [.sl (a.map encRoute), .sl (b.map encRoute)] (([]:Own)++F) fun d G=>d = .bool (decide (a=b))/\G=[]++F:=by
 intro hA
 obtain ⟨hla,hlb⟩:=hA
 refine DC.bodyS (n_:=26) (show Tryz.prog.funcs[109]? = some Tryz.f109 by kernel_rfl) rfl rfl (by rfl) ?_
 simp only [env0,List.cons_append,List.nil_append]
 have kw:=ksIs [0,1,4,5,10,12,13,14,24]
 have ow:=ownIs []
 have dw6:=drIs 6 [] [3,7]
 repeat' (first
  | ((with_reducible refine DW.loopB 0 (X:=Nat) (fun x=>x<=a.length/\eqK a b x) (fun x=>[(0, .sl (a.map encRoute)),(1, .sl (b.map encRoute)),(12, .int .i64 a.length),(13, .int .i64 x)]) (fun x=>([]:Own)) (fun x=>a.length - x) (0) ?_ ?_ ?_);exact (⟨Nat.zero_le _,eqK_0 _ _⟩);(simp [Sub,get,keepL]<;>fail);(try simp only [List.cons_append,List.nil_append]);refine pl_ ?_;intro k ⟨hk,ek⟩;(try simp only [List.cons_append,List.nil_append]))
  | refine g_ ?_
  | ((with_reducible refine And.intro ?_ ?_);(exact sv))
  | (refine DW.cond (by rfl) ?_ ?_<;>(first | exact i0_ | (refine ic_ ?_;intro hb)))
  | ((with_reducible first | refine FVg_cases ?_ ?_ | refine FDg_cases ?_ ?_)<;>(intro hb;rw [hb];revert hb;(first | exact i0_ | (refine i_ ?_;intro hb))))
  | refine r_ ?_
  | refine d_ ?_
  | refine k_ ?_
  | refine vo_ ?_
  | refine o_ ?_
  | refine f_ ?_
  | refine vm_ ?_
  | with_reducible intro b)
 all_goals first
 | ((rw [show decide (a=b)=true from decide_eq_true (eqK_all ek (by omega) (by omega))];(first | exact fin_ | refine finq_ ?_);done))
 | (refine ⟨k+1,⟨by omega,eqK_s ek ?_⟩,by omega,by simp [Sub,get],?_⟩;rotate_left;(exact sub_);(exact route_ext hb);done)
 | ((rw [show decide (a=b)=false from decide_eq_false (fun e=>by subst e;first | (exact absurd rfl hb) | (exact absurd rfl (sameC_f hb)) | (simp at hb;done) | omega)];(first | exact fin_ | refine finq_ ?_);done))
end
section
attribute [local push_cast 2000] encCell cell_eta
theorem peqCell_dc (p q:List TCell) (F:Own):(p.length<=1000000000/\q.length<=1000000000)->DC Tryz.prog 110 [.sl (p.map encCell), .sl (q.map encCell), .fn (.func 111) [] []] (([]:Own)++F) fun d G=>d = .bool (decide (p=q))/\G=[]++F:=by
 intro hA
 obtain ⟨hla,hlb⟩:=hA
 refine DC.bodyS (n_:=32) (show Tryz.prog.funcs[110]? = some Tryz.f110 by kernel_rfl) rfl rfl (by rfl) ?_
 simp only [env0,List.cons_append,List.nil_append]
 have kw:=ksIs [0,1,2,6,7,8,9,14,15,16,17,18,30]
 have ow:=ownIs []
 repeat' (first
  | ((with_reducible refine DW.loopB 0 (X:=Nat) (fun x=>x<=p.length/\eqK p q x) (fun x=>[(1, .sl (q.map encCell)),(2, .fn (.func 111) [] []),(15, .sl (p.map encCell)),(16, .int .i64 p.length),(17, .int .i64 x)]) (fun x=>([]:Own)) (fun x=>p.length - x) (0) ?_ ?_ ?_);exact (⟨Nat.zero_le _,eqK_0 _ _⟩);(simp [Sub,get,keepL]<;>fail);(try simp only [List.cons_append,List.nil_append]);refine pl_ ?_;intro k ⟨hk,ek⟩;(try simp only [List.cons_append,List.nil_append]))
  | refine g_ ?_
  | ((with_reducible refine And.intro ?_ ?_);(exact sv))
  | (refine DW.cond (by rfl) ?_ ?_<;>(first | exact i0_ | (refine ic_ ?_;intro hb)))
  | ((with_reducible refine FVg_cases ?_ ?_)<;>(intro hb;rw [hb];revert hb;(first | exact i0_ | (refine i_ ?_;intro hb))))
  | refine r_ ?_
  | refine k_ ?_
  | (refine q_ (palike_dc _ _ _ _ _ _ _ _ _ _ _ _ _ _ _ _ _ _ _ _ _) ?_)
  | refine o_ ?_
  | refine f_ ?_
  | with_reducible intro b)
 all_goals first
 | ((rw [show decide (p=q)=true from decide_eq_true (eqK_all ek (by omega) (by omega))];(first | exact fin_ | refine finq_ ?_);done))
 | (refine ⟨k+1,⟨by omega,eqK_s ek ?_⟩,by omega,by simp [Sub,get],?_⟩;rotate_left;(exact sub_);(exact sameC_t hb);done)
 | ((rw [show decide (p=q)=false from decide_eq_false (fun e=>by subst e;first | (exact absurd rfl hb) | (exact absurd rfl (sameC_f hb)) | (simp at hb;done) | omega)];(first | exact fin_ | refine finq_ ?_);done))
end
theorem sv_psame_dc {p:Prop} (h:p:=by first | exact sv | exact ⟨hLa.s,hLb.s⟩ | exact ⟨hLa.f,hLb.f⟩ | exact ⟨hLa.r,hLb.r⟩ | exact ⟨hLa.c,hLb.c⟩ | fail):p:=h
theorem psame_dc (a b:TTable) (F:Own):(Few 1000000000 a/\Few 1000000000 b)->DC Tryz.prog 40 [.agg [.sl (a.seen.map encDot), .sl (a.fences.map encFence), .sl (a.routes.map encRoute), .sl (a.cells.map encCell)], .agg [.sl (b.seen.map encDot), .sl (b.fences.map encFence), .sl (b.routes.map encRoute), .sl (b.cells.map encCell)]] (([]:Own)++F) fun d G=>d = .bool (decide (a=b))/\G=[]++F:=by
 intro hA
 obtain ⟨hLa,hLb⟩:=hA
 refine DC.bodyS (n_:=31) (show Tryz.prog.funcs[40]? = some Tryz.f40 by kernel_rfl) rfl rfl (by rfl) ?_
 simp only [env0,List.cons_append,List.nil_append]
 have kw:=ksIs [0,1,2,3,4]
 have ow:=ownIs []
 repeat' (first
  | refine g_ ?_
  | ((with_reducible refine And.intro ?_ ?_);(exact sv_psame_dc))
  | (refine DW.cond (by rfl) ?_ ?_<;>(first | exact i0_ | (refine ic_ ?_;intro hb)))
  | ((with_reducible refine FVg_cases ?_ ?_)<;>(intro hb;rw [hb];revert hb;(first | exact i0_ | (refine i_ ?_;intro hb))))
  | refine r_ ?_
  | refine k_ ?_
  | (refine q_ (peqDot_dc _ _ _) ?_ (ha:=by exact sv_psame_dc))
  | (refine q_ (peqFence_dc _ _ _) ?_ (ha:=by exact sv_psame_dc))
  | (refine q_ (peqRoute_dc _ _ _) ?_ (ha:=by exact sv_psame_dc))
  | (refine q_ (peqCell_dc _ _ _) ?_ (ha:=by exact sv_psame_dc))
  | refine o_ ?_
  | refine f_ ?_
  | with_reducible intro b)
 all_goals first
 | ((rw [show decide (a=b)=false from decide_eq_false (fun e=>by subst e;exact absurd rfl hb)];(first | exact fin_ | refine finq_ ?_);done))
 | ((rw [show decide (a=b)=decide (a.cells=b.cells) from (by obtain ⟨_,_,_,_⟩:=a;obtain ⟨_,_,_,_⟩:=b;simp_all)];(first | exact fin_ | refine finq_ ?_);done))
 | ((refine ⟨_,_,le.of_eq ?_,⟨rfl,rfl⟩,?_⟩);(focus (congr 1;obtain ⟨_,_,_,_⟩:=a;obtain ⟨_,_,_,_⟩:=b;simp_all;done));(exact sub_);done)
 | (trace_state;fail)
end
section
set_option maxHeartbeats 4000000
set_option maxRecDepth 100000
theorem textBy_is {t:Str} (h:t.length<=1000000000000):textBy t=leK 8 t.length++t:=by unfold textBy;rw [numsL_1 _ ⟨by omega,by omega⟩]
theorem numbersJ1_dc (v:Value) (l:List UInt8) (x0:Int) (F:Own):(l.length<=999999999000)->DC Tryz.prog 50 [.gs v (l.map u8), .sl [.int .i64 x0]] ([.tail 1 v]++F) fun d G=>∃ v1,d = .gs v1 ((l++numsL [x0]).map u8)/\G = .tail 1 v1::F:=fun h=>numbers_dc v l [x0] F ⟨h,by simp⟩
theorem numbersJ2_dc (v:Value) (l:List UInt8) (x0 x1:Int) (F:Own):(l.length<=999999999000)->DC Tryz.prog 50 [.gs v (l.map u8), .sl [.int .i64 x0, .int .i64 x1]] ([.tail 1 v]++F) fun d G=>∃ v1,d = .gs v1 ((l++numsL [x0,x1]).map u8)/\G = .tail 1 v1::F:=fun h=>numbers_dc v l [x0,x1] F ⟨h,by simp⟩
theorem numbersJ3_dc (v:Value) (l:List UInt8) (x0 x1 x2:Int) (F:Own):(l.length<=999999999000)->DC Tryz.prog 50 [.gs v (l.map u8), .sl [.int .i64 x0, .int .i64 x1, .int .i64 x2]] ([.tail 1 v]++F) fun d G=>∃ v1,d = .gs v1 ((l++numsL [x0,x1,x2]).map u8)/\G = .tail 1 v1::F:=fun h=>numbers_dc v l [x0,x1,x2] F ⟨h,by simp⟩
theorem numbersJ6_dc (v:Value) (l:List UInt8) (x0 x1 x2 x3 x4 x5:Int) (F:Own):(l.length<=999999999000)->DC Tryz.prog 50 [.gs v (l.map u8), .sl [.int .i64 x0, .int .i64 x1, .int .i64 x2, .int .i64 x3, .int .i64 x4, .int .i64 x5]] ([.tail 1 v]++F) fun d G=>∃ v1,d = .gs v1 ((l++numsL [x0,x1,x2,x3,x4,x5]).map u8)/\G = .tail 1 v1::F:=fun h=>numbers_dc v l [x0,x1,x2,x3,x4,x5] F ⟨h,by simp⟩
theorem textJ_dc (v:Value) (l t:List UInt8) (F:Own):(l.length<=999999999000/\t.length<=1000000000000)->DC Tryz.prog 54 [.gs v (l.map u8), .str t] ([.tail 1 v]++F) fun d G=>∃ v1,d = .gs v1 ((l++textBy t).map u8)/\G = .tail 1 v1::F:=fun h=>by
 rw [textBy_is h.2];exact text_dc v l t F h
theorem dotsBy_is (ds:List TDot):numsL [(ds.length:Int)]++flatBy dotBy ds=dotsBy ds:=rfl
theorem flatBy_0 {α:Type} (f:α->Str):flatBy f []=[]:=rfl
attribute [local irreducible] DW SeqD DV DOp DC DVX DVJ numsL textBy flatBy dotsBy
theorem sv_plines_dc {p:Prop} (h:p:=by first | exact sv | (simp only [List.length_append,leK_len,numsL_len,textBy_len,dotsBy_len,List.length_cons,List.length_nil];omega) | (refine ⟨?_,?_⟩<;>first | omega | (simp only [List.length_append,leK_len,numsL_len,textBy_len,dotsBy_len,List.length_cons,List.length_nil];omega)) | (refine ⟨?_,?_,?_⟩<;>first | omega | (simp only [List.length_append,leK_len,numsL_len,textBy_len,dotsBy_len,List.length_cons,List.length_nil];omega)) | fail):p:=h
section
attribute [local push_cast 2000] encDot
theorem plines_dc (v:Value) (l:List UInt8) (ds:List TDot) (F:Own):(l.length<=1000000000/\ds.length<=1000000)->DC Tryz.prog 52 [.gs v (l.map u8), .sl (ds.map encDot)] ([.tail 1 v]++F) fun d G=>∃ v1,d = .gs v1 ((l++dotsBy ds).map u8)/\G = .tail 1 v1::F:=by
 intro hA
 obtain ⟨hl,hd⟩:=hA
 refine DC.bodyS (n_:=29) (show Tryz.prog.funcs[52]? = some Tryz.f52 by kernel_rfl) rfl rfl (by rfl) ?_
 simp only [env0,List.cons_append,List.nil_append]
 have kw:=ksIs [0,1,4,6,12,13,14,15]
 have ow:=ownIs []
 repeat' (first
  | ((with_reducible apply DW.frzB 5 6);(focus (exact rfl));(repeat (with_reducible first | refine Out.here ?_ | refine Out.next ?_));simp only [put_cons,put_nil,Nat.reduceEqDiff,↓reduceIte,if_true,if_false,reduceCtorEq])
  | ((with_reducible refine DW.loopB 0 (X:=Nat×Value×Str) (fun x=>x.1<=ds.length/\x.2.2=l++numsL [(ds.length:Int)]++flatBy dotBy (ds.take x.1)/\x.2.2.length<=1000000100+24 * x.1) (fun x=>[(0, .gs x.2.1 (x.2.2.map u8)),(12, .sl (ds.map encDot)),(13, .int .i64 ds.length),(14, .int .i64 x.1)]) (fun x=>.tail 1 x.2.1::([]:Own)) (fun x=>ds.length - x.1) ((0,v1,l++numsL [(ds.length:Int)])) ?_ ?_ ?_);exact (⟨Nat.zero_le _,by simp [flatBy_0],by simp only [List.length_append,numsL_len,List.length_cons,List.length_nil];omega⟩);(simp [Sub,get,keepL]<;>fail);(try simp only [List.cons_append,List.nil_append]);refine pl_ ?_;intro ⟨k,y,ls⟩ ⟨hk,hs,hm⟩;(try simp only [List.cons_append,List.nil_append]);simp only at hk hs hm)
  | refine g_ ?_
  | ((with_reducible refine And.intro ?_ ?_);(exact sv_plines_dc))
  | (refine DW.cond (by rfl) ?_ ?_<;>(first | exact i0_ | (refine ic_ ?_;intro hb)))
  | ((with_reducible refine FVg_cases ?_ ?_)<;>(intro hb;rw [hb];revert hb;(first | exact i0_ | (refine i_ ?_;intro hb))))
  | refine r_ ?_
  | refine k_ ?_
  | (refine p_ (numbersJ1_dc _ _ _ _) ?_ (ha:=by exact sv_plines_dc);rintro d H1 ⟨v1,rfl,rfl⟩<;>refine s_ ?_)
  | (refine p_ (numbersJ2_dc _ _ _ _ _) ?_ (ha:=by exact sv_plines_dc);rintro d H1 ⟨v1,rfl,rfl⟩<;>refine s_ ?_)
  | (refine p_ (numbersJ3_dc _ _ _ _ _ _) ?_ (ha:=by exact sv_plines_dc);rintro d H1 ⟨v1,rfl,rfl⟩<;>refine s_ ?_)
  | (refine p_ (numbersJ6_dc _ _ _ _ _ _ _ _ _) ?_ (ha:=by exact sv_plines_dc);rintro d H1 ⟨v1,rfl,rfl⟩<;>refine s_ ?_)
  | refine o_ ?_
  | refine f_ ?_
  | with_reducible intro b)
 all_goals first
 | (refine ⟨(k+1,v1,ls++dotBy (ds.getD k default)),⟨?_,?_,?_⟩,?_,?_,?_⟩;(dsimp only;omega);(dsimp only;rw [hs,flatBy_next dotBy (show k<ds.length by omega)];simp only [List.append_assoc]);(dsimp only;rw [List.length_append];have hx:=dotBy_len (ds.getD k default);omega);(dsimp only;omega);(simp [Sub,get,dotBy]<;>fail);(dsimp only;(try simp only [dotBy,List.append_assoc]);(exact sub_));done)
 | (have hkx:k=ds.length:=by omega
    subst hkx
    rw [List.take_length,List.append_assoc] at hs
    rw [dotsBy_is] at hs
    subst hs
    refine ⟨_,_,le.rfl_,⟨_,rfl,rfl⟩,?_⟩;(exact sub_);done)
 | (trace_state;fail)
end
theorem sv_pstate_dc {p:Prop} (h:p:=by first | exact sv | (simp only [List.length_append,leK_len,numsL_len,textBy_len,dotsBy_len,List.length_cons,List.length_nil];omega) | (refine ⟨?_,?_⟩<;>first | omega | (simp only [List.length_append,leK_len,numsL_len,textBy_len,dotsBy_len,List.length_cons,List.length_nil];omega)) | (refine ⟨?_,?_,?_⟩<;>first | omega | (simp only [List.length_append,leK_len,numsL_len,textBy_len,dotsBy_len,List.length_cons,List.length_nil];omega)) | (have hq1:=hrf _ hlt;simp only [List.length_append,leK_len,numsL_len,textBy_len,dotsBy_len,List.length_cons,List.length_nil];omega) | (have hq1:=hct _ hlt;have hq2:=hcp _ hlt;simp only [List.length_append,leK_len,numsL_len,textBy_len,dotsBy_len,List.length_cons,List.length_nil];omega) | fail):p:=h
section
attribute [local push_cast 2000] encFence encRoute encCell bytes_are bytes_back
theorem pstate_dc (v:Value) (l:List UInt8) (se:List TDot) (fe:List TFence) (ro:List TRoute) (ce:List TCell) (F:Own):(l.length<=1000000000/\(se.length<=1000000/\fe.length<=1000000/\ro.length<=100000/\ce.length<=100000)/\(∀ k,k<ro.length->(ro.getD k default).filter.length<=2000000)/\(∀ k,k<ce.length->(ce.getD k default).topic.length<=2000000)/\(∀ k,k<ce.length->(ce.getD k default).payload.length<=2000000))->DC Tryz.prog 53 [.gs v (l.map u8), .agg [.sl (se.map encDot), .sl (fe.map encFence), .sl (ro.map encRoute), .sl (ce.map encCell)]] ([.tail 1 v]++F) fun d G=>∃ v1,d = .gs v1 ((l++tableBy ⟨se,fe,ro,ce⟩).map u8)/\G = .tail 1 v1::F:=by
 intro hA
 obtain ⟨hl,⟨hse,hfe,hro,hce⟩,hrf,hct,hcp⟩:=hA
 refine DC.bodyS (n_:=116) (show Tryz.prog.funcs[53]? = some Tryz.f53 by kernel_rfl) rfl rfl (by rfl) ?_
 simp only [env0,List.cons_append,List.nil_append]
 have kw:=ksIs [0,1,3,4,6,8,10,11,22,23,24,25,43,44,45,46,72,73,74,75,79]
 have ow:=ownIs []
 have dw1:=drIs 1 [3,8] [2]
 have dw11:=drIs 11 [11,14] [3,6,9]
 have dw21:=drIs 21 [3,7,12] [2]
 repeat' (first
  | ((with_reducible apply DW.frzB 5 6);(focus (exact rfl));(repeat (with_reducible first | refine Out.here ?_ | refine Out.next ?_));simp only [put_cons,put_nil,Nat.reduceEqDiff,↓reduceIte,if_true,if_false,reduceCtorEq])
  | ((with_reducible apply DW.frzB 11 8);(focus (exact rfl));(repeat (with_reducible first | refine Out.here ?_ | refine Out.next ?_));simp only [put_cons,put_nil,Nat.reduceEqDiff,↓reduceIte,if_true,if_false,reduceCtorEq])
  | ((with_reducible apply DW.frzB 18 10);(focus (exact rfl));(repeat (with_reducible first | refine Out.here ?_ | refine Out.next ?_));simp only [put_cons,put_nil,Nat.reduceEqDiff,↓reduceIte,if_true,if_false,reduceCtorEq])
  | ((with_reducible refine DW.loopB 0 (X:=Nat×Value×Str) (fun x=>x.1<=fe.length/\x.2.2=l++dotsBy se++numsL [(fe.length:Int)]++flatBy fenceBy (fe.take x.1)/\x.2.2.length<=2000000000+16 * x.1) (fun x=>[(0, .gs x.2.1 (x.2.2.map u8)),(3, .sp [.sl (se.map encDot), .sl (fe.map encFence), .sl (ro.map encRoute), .sl (ce.map encCell)]),(22, .sl (fe.map encFence)),(23, .int .i64 fe.length),(24, .int .i64 x.1)]) (fun x=>.tail 1 x.2.1::([]:Own)) (fun x=>fe.length - x.1) ((0,v1,l++(dotsBy se++numsL [(fe.length:Int)]))) ?_ ?_ ?_);exact (⟨Nat.zero_le _,by simp [flatBy_0],by simp only [List.length_append,numsL_len,dotsBy_len,List.length_cons,List.length_nil];omega⟩);(simp [Sub,get,keepL]<;>fail);(try simp only [List.cons_append,List.nil_append]);refine pl_ ?_;intro ⟨k,y,ls⟩ ⟨hk,hs,hm⟩;(try simp only [List.cons_append,List.nil_append]);simp only at hk hs hm)
  | ((have hkx:k=fe.length:=by omega);subst hkx;rw [List.take_length] at hs;((with_reducible refine DW.loopB 2 (X:=Nat×Value×Str) (fun x=>x.1<=ro.length/\x.2.2=l++dotsBy se++numsL [(fe.length:Int)]++flatBy fenceBy fe++numsL [(ro.length:Int)]++flatBy routeBy (ro.take x.1)/\x.2.2.length<=3000000000+2000100 * x.1) (fun x=>[(0, .gs x.2.1 (x.2.2.map u8)),(3, .sp [.sl (se.map encDot), .sl (fe.map encFence), .sl (ro.map encRoute), .sl (ce.map encCell)]),(43, .sl (ro.map encRoute)),(44, .int .i64 ro.length),(45, .int .i64 x.1)]) (fun x=>.tail 1 x.2.1::([]:Own)) (fun x=>ro.length - x.1) ((0,v1,ls++numsL [(ro.length:Int)])) ?_ ?_ ?_);exact (⟨Nat.zero_le _,by simp [flatBy_0,hs],by simp only [List.length_append,numsL_len,List.length_cons,List.length_nil];omega⟩);(simp [Sub,get,keepL]<;>fail);(try simp only [List.cons_append,List.nil_append]);refine pl_ ?_;intro ⟨k2,y2,ls2⟩ ⟨hk2,hs2,hm2⟩;(try simp only [List.cons_append,List.nil_append]);simp only at hk2 hs2 hm2;rcases (show ro.length<=k2\/k2<ro.length by omega) with hge | hlt))
  | ((have hkx:k2=ro.length:=by omega);subst hkx;rw [List.take_length] at hs2;((with_reducible refine DW.loopB 4 (X:=Nat×Value×Str) (fun x=>x.1<=ce.length/\x.2.2=l++dotsBy se++numsL [(fe.length:Int)]++flatBy fenceBy fe++numsL [(ro.length:Int)]++flatBy routeBy ro++numsL [(ce.length:Int)]++flatBy cellBy (ce.take x.1)/\x.2.2.length<=300000000000+4000200 * x.1) (fun x=>[(0, .gs x.2.1 (x.2.2.map u8)),(72, .sl (ce.map encCell)),(73, .int .i64 ce.length),(74, .int .i64 x.1)]) (fun x=>.tail 1 x.2.1::([]:Own)) (fun x=>ce.length - x.1) ((0,v1,ls2++numsL [(ce.length:Int)])) ?_ ?_ ?_);exact (⟨Nat.zero_le _,by simp [flatBy_0,hs2],by simp only [List.length_append,numsL_len,List.length_cons,List.length_nil];omega⟩);(simp [Sub,get,keepL]<;>fail);(try simp only [List.cons_append,List.nil_append]);refine pl_ ?_;intro ⟨k3,y3,ls3⟩ ⟨hk3,hs3,hm3⟩;(try simp only [List.cons_append,List.nil_append]);simp only at hk3 hs3 hm3;rcases (show ce.length<=k3\/k3<ce.length by omega) with hge | hlt))
  | refine g_ ?_
  | ((with_reducible refine And.intro ?_ ?_);(exact sv_pstate_dc))
  | (refine DW.cond (by rfl) ?_ ?_<;>(first | exact i0_ | (refine ic_ ?_;intro hb)))
  | ((with_reducible first | refine FVg_cases ?_ ?_ | refine FDg_cases ?_ ?_)<;>(intro hb;rw [hb];revert hb;(first | exact i0_ | (refine i_ ?_;intro hb))))
  | refine r_ ?_
  | refine d_ ?_
  | refine k_ ?_
  | refine vo_ ?_
  | (refine p_ (numbersJ1_dc _ _ _ _) ?_ (ha:=by exact sv_pstate_dc);rintro d H1 ⟨v1,rfl,rfl⟩<;>refine s_ ?_)
  | (refine p_ (numbersJ2_dc _ _ _ _ _) ?_ (ha:=by exact sv_pstate_dc);rintro d H1 ⟨v1,rfl,rfl⟩<;>refine s_ ?_)
  | (refine p_ (numbersJ3_dc _ _ _ _ _ _) ?_ (ha:=by exact sv_pstate_dc);rintro d H1 ⟨v1,rfl,rfl⟩<;>refine s_ ?_)
  | (refine p_ (numbersJ6_dc _ _ _ _ _ _ _ _ _) ?_ (ha:=by exact sv_pstate_dc);rintro d H1 ⟨v1,rfl,rfl⟩<;>refine s_ ?_)
  | (refine p_ (textJ_dc _ _ _ _) ?_ (ha:=by exact sv_pstate_dc);rintro d H1 ⟨v1,rfl,rfl⟩<;>refine s_ ?_)
  | (refine p_ (plines_dc _ _ _ _) ?_ (ha:=by exact sv_pstate_dc);rintro d H1 ⟨v1,rfl,rfl⟩<;>refine s_ ?_)
  | refine o_ ?_
  | refine f_ ?_
  | refine vm_ ?_
  | with_reducible intro b)
 all_goals first
 | (exfalso;omega)
 | (refine ⟨(k+1,v1,ls++fenceBy (fe.getD k default)),⟨?_,?_,?_⟩,?_,?_,?_⟩;(dsimp only;omega);(dsimp only;rw [hs,flatBy_next fenceBy (show k<fe.length by omega)];simp only [List.append_assoc]);(dsimp only;rw [List.length_append];have hx:=fenceBy_len (fe.getD k default);omega);(dsimp only;omega);(simp [Sub,get,fenceBy]<;>fail);(dsimp only;(try simp only [fenceBy,List.append_assoc]);(exact sub_));done)
 | (have hq1:=hrf _ hlt
    refine ⟨(k2+1,v1,ls2++routeBy (ro.getD k2 default)),⟨?_,?_,?_⟩,?_,?_,?_⟩;(dsimp only;omega);(dsimp only;rw [hs2,flatBy_next routeBy (show k2<ro.length by omega)];simp only [List.append_assoc]);(dsimp only;rw [List.length_append];have hx:=routeBy_len (ro.getD k2 default);omega);(dsimp only;omega);(simp [Sub,get,routeBy]<;>fail);(dsimp only;(try simp only [routeBy,List.append_assoc]);(exact sub_));done)
 | (have hq1:=hct _ hlt;have hq2:=hcp _ hlt;have hg:goneI (ce.getD k3 default).gone=1:=by rw [hb];rfl
    have hg2:goneI (ce[k3]?.getD default).gone=1:=by rw [<-List.getD_eq_getElem?_getD];exact hg
    refine ⟨(k3+1,v1,ls3++cellBy (ce.getD k3 default)),⟨?_,?_,?_⟩,?_,?_,?_⟩;(dsimp only;omega);(dsimp only;rw [hs3,flatBy_next cellBy (show k3<ce.length by omega)];simp only [List.append_assoc]);(dsimp only;rw [List.length_append];have hx:=cellBy_len (ce.getD k3 default);omega);(dsimp only;omega);(simp [Sub,get,cellBy,hg,hg2]<;>fail);(dsimp only;(try simp only [cellBy,hg,List.append_assoc]);(exact sub_));done)
 | (have hq1:=hct _ hlt;have hq2:=hcp _ hlt;have hg:goneI (ce.getD k3 default).gone=0:=by rw [hb];rfl
    have hg2:goneI (ce[k3]?.getD default).gone=0:=by rw [<-List.getD_eq_getElem?_getD];exact hg
    refine ⟨(k3+1,v1,ls3++cellBy (ce.getD k3 default)),⟨?_,?_,?_⟩,?_,?_,?_⟩;(dsimp only;omega);(dsimp only;rw [hs3,flatBy_next cellBy (show k3<ce.length by omega)];simp only [List.append_assoc]);(dsimp only;rw [List.length_append];have hx:=cellBy_len (ce.getD k3 default);omega);(dsimp only;omega);(simp [Sub,get,cellBy,hg,hg2]<;>fail);(dsimp only;(try simp only [cellBy,hg,List.append_assoc]);(exact sub_));done)
 | (have hkx:k3=ce.length:=by omega
    subst hkx
    rw [List.take_length] at hs3
    have e:ls3=l++tableBy ⟨se,fe,ro,ce⟩:=by rw [hs3];unfold tableBy;simp only [List.append_assoc]
    rw [<-e]
    refine ⟨_,_,le.rfl_,⟨_,rfl,rfl⟩,?_⟩;(exact sub_);done)
 | (trace_state;fail)
end
end
end Go.Proofs.YtbmbcjmgjdnlnaaGreatDoor
