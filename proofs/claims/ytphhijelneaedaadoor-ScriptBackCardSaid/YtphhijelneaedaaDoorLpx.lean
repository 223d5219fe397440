/- Loops as plain functions: all, the first, those that, folds; tables as data. No statement of the program. -/
import Derived.Test.YtphhijelneaedaaDoorEn
import Derived.KernelRfl
namespace Go.Proofs.YtphhijelneaedaaDoor
open Go.RowKit
set_option linter.unusedSimpArgs false
set_option linter.unusedVariables false
set_option linter.unusedSectionVars false
section
def allK (p:Nat->Bool) (k:Nat):Bool:=(List.range k).all p
theorem allK_more (p:Nat->Bool) (k:Nat):allK p (k+1)=(allK p k&&p k):=by simp [allK,List.range_succ]
theorem allK_next {p:Nat->Bool} {k:Nat} (h:allK p k=true) (hk:p k=true):allK p (k+1)=true:=by rw [allK_more,h,hk];rfl
theorem allK_not {p:Nat->Bool} {k n:Nat} (hk:p k=false) (h:k<n):allK p n=false:=by
 cases ha:allK p n with
 | false=>rfl
 | true =>
  have:=List.all_eq_true.1 ha k (List.mem_range.2 h)
  rw [hk] at this;cases this
section
variable {α:Type} [Inhabited α]
end
abbrev Str:=List UInt8
structure TDot where
 node:Int
 epoch:Int
 n:Int
 deriving DecidableEq,Inhabited
structure TFence where
 node:Int
 epoch:Int
 deriving DecidableEq,Inhabited
structure TRoute where
 dot:TDot
 filter:Str
 deriving DecidableEq,Inhabited
structure TStamp where
 l:Int
 c:Int
 node:Int
 deriving DecidableEq,Inhabited
structure TCell where
 dot:TDot
 stamp:TStamp
 topic:Str
 payload:Str
 qos:Int
 gone:Bool
 deriving DecidableEq,Inhabited
structure TTable where
 seen:List TDot
 fences:List TFence
 routes:List TRoute
 cells:List TCell
 deriving DecidableEq,Inhabited
end
section
set_option maxHeartbeats 4000000
set_option maxRecDepth 100000
attribute [local irreducible] DW SeqD DV DOp DC DVX
def andU (a m:Int):Int:=IntKind.u8.wrap ((BitVec.ofInt IntKind.u8.bits a &&& BitVec.ofInt IntKind.u8.bits m).toNat:Int)
theorem andU_fold (a m:Int):IntKind.u8.wrap ((BitVec.ofInt IntKind.u8.bits a &&& BitVec.ofInt IntKind.u8.bits m).toNat:Int)=andU a m:=rfl
def shI (r:Int):Int:=IntKind.i32.wrap (r * 2 ^ min 6 IntKind.i32.bits)
def rU (r x:Int):Int:=IntKind.i32.wrap ((BitVec.ofInt IntKind.i32.bits (shI r)|||BitVec.ofInt IntKind.i32.bits x).toNat:Int)
def loopR (l:Str) (r0:Int):Nat->Int
 | 0=>r0
 | j+1=>rU (loopR l r0 j) (IntKind.i32.wrap (andU ((l.getD (j+1) 0).toNat:Int) 63))
def contAt (l:Str) (j:Nat):Bool:=decide (j=0)||andU ((l.getD j 0).toNat:Int) 192==128
def clsM (c:Int):Nat×Int×Int :=
 if 192<=c/\c<224 then (2,128,IntKind.i32.wrap (andU c 31)) else if 224<=c/\c<240 then (3,2048,IntKind.i32.wrap (andU c 15)) else if 240<=c/\c<248 then (4,65536,IntKind.i32.wrap (andU c 7)) else (0,0,0)
def okR (r least:Int):Bool:=!(decide (r<least)||decide (1114111<r)||(decide (55296<=r)&&decide (r<57344)))
def runM (l:Str) (n:Nat) (least r0:Int):Int×Int×Bool :=
 if l.length<n then (0,1,false) else if allK (contAt l) n=true then (if okR (loopR l r0 (n - 1)) least=true then (loopR l r0 (n - 1),(n:Int),true) else (0,1,false)) else (0,1,false)
def stepM (l:Str):Int×Int×Bool :=
 if ((l.getD 0 0).toNat:Int)<128 then (((l.getD 0 0).toNat:Int),1,true)
 else if (clsM ((l.getD 0 0).toNat:Int)).1=0 then (0,1,false) else runM l (clsM ((l.getD 0 0).toNat:Int)).1 (clsM ((l.getD 0 0).toNat:Int)).2.1 (clsM ((l.getD 0 0).toNat:Int)).2.2
theorem runM_ok {l:Str} {n:Nat} {a b:Int} (h:(runM l n a b).2.2=true) (hn:1<=n):1<=(runM l n a b).2.1/\(runM l n a b).2.1<=l.length:=by
 unfold runM at h ⊢
 split at h
 · cases h
 · rename_i h1
   rw [if_neg h1]
   split at h
   · rename_i h2
     rw [if_pos h2]
     split at h
     · rename_i h3;rw [if_pos h3];constructor<;>simp only<;>omega
     · cases h
   · cases h
theorem stepM_ok {l:Str} (hl:l≠[]) (h:(stepM l).2.2=true):1<=(stepM l).2.1/\(stepM l).2.1<=l.length:=by
 have h0:1<=l.length:=List.length_pos_iff.2 hl
 unfold stepM at h ⊢
 split at h
 · rename_i h1;rw [if_pos h1];constructor<;>simp only<;>omega
 · rename_i h1
   rw [if_neg h1]
   split at h
   · cases h
   · rename_i h2
     rw [if_neg h2]
     exact runM_ok h (by omega)
theorem stepM_1 {l:Str} (h:((l.getD 0 0).toNat:Int)<128):stepM l=(((l.getD 0 0).toNat:Int),1,true):=by rw [stepM,if_pos h]
theorem stepM_0 {l:Str} (h:128<=((l.getD 0 0).toNat:Int)) (h2:((l.getD 0 0).toNat:Int)<192\/248<=((l.getD 0 0).toNat:Int)):stepM l=(0,1,false):=by
 have e:(clsM ((l.getD 0 0).toNat:Int)).1=0:=by unfold clsM;rw [if_neg (by omega),if_neg (by omega),if_neg (by omega)]
 rw [stepM,if_neg (by omega),if_pos e]
theorem stepM_n {l:Str} {n:Nat} {a b:Int} (h:128<=((l.getD 0 0).toNat:Int)) (h2:clsM ((l.getD 0 0).toNat:Int)=(n,a,b)) (h3:n≠0):stepM l=runM l n a b:=by
 rw [stepM,if_neg (by omega),h2,if_neg h3]
theorem clsM_2 {c:Int} (h1:192<=c) (h2:c<224):clsM c=(2,128,IntKind.i32.wrap (andU c 31)):=by rw [clsM,if_pos ⟨h1,h2⟩]
theorem clsM_3 {c:Int} (h1:224<=c) (h2:c<240):clsM c=(3,2048,IntKind.i32.wrap (andU c 15)):=by rw [clsM,if_neg (by omega),if_pos ⟨h1,h2⟩]
theorem clsM_4 {c:Int} (h1:240<=c) (h2:c<248):clsM c=(4,65536,IntKind.i32.wrap (andU c 7)):=by rw [clsM,if_neg (by omega),if_neg (by omega),if_pos ⟨h1,h2⟩]
theorem runM_short {l:Str} {n:Nat} {a b:Int} (h:l.length<n):runM l n a b=(0,1,false):=by rw [runM,if_pos h]
theorem runM_bad {l:Str} {n:Nat} {a b:Int} (k:Nat) (h1:1<=k) (h2:k<n) (h:¬ andU ((l.getD k 0).toNat:Int) 192=128):runM l n a b=(0,1,false):=by
 have hf:contAt l k=false:=by unfold contAt;rw [decide_eq_false (by omega)];simpa using h
 unfold runM
 split
 · rfl
 · rw [if_neg (by rw [allK_not hf h2];simp)]
theorem runM_not {l:Str} {n:Nat} {a b:Int} (h:okR (loopR l b (n - 1)) a=false):runM l n a b=(0,1,false):=by
 unfold runM
 split
 · rfl
 · split
   · rw [if_neg (by rw [h];simp)]
   · rfl
theorem runM_yes {l:Str} {n:Nat} {a b:Int} (h1:n<=l.length) (h2:allK (contAt l) n=true) (h:okR (loopR l b (n - 1)) a=true):runM l n a b=(loopR l b (n - 1),(n:Int),true):=by
 rw [runM,if_neg (by omega),if_pos h2,if_pos h]
theorem okR_no {r a:Int} (h:r<a\/1114111<r\/(55296<=r/\r<57344)):okR r a=false:=by
 unfold okR
 rcases h with h | h | ⟨h,h2⟩
 · rw [decide_eq_true h];rfl
 · rw [decide_eq_true h];simp
 · rw [decide_eq_true h,decide_eq_true h2];simp
theorem okR_yes {r a:Int} (h1:a<=r) (h2:r<=1114111) (h3:r<55296\/57344<=r):okR r a=true:=by
 unfold okR
 rw [decide_eq_false (show ¬ r<a by omega),decide_eq_false (show ¬ 1114111<r by omega)]
 rcases h3 with h | h
 · rw [decide_eq_false (show ¬ 55296<=r by omega)];rfl
 · rw [decide_eq_false (show ¬ r<57344 by omega)];simp
theorem loopR_next {l:Str} {r0:Int} {k:Nat} (h:1<=k):loopR l r0 (k+1 - 1)=rU (loopR l r0 (k - 1)) (IntKind.i32.wrap (andU ((l.getD k 0).toNat:Int) 63)):=by
 obtain ⟨j,rfl⟩:∃ j,k=j+1:=⟨k - 1,by omega⟩
 rfl
theorem getD0 (l:Str) (i:Nat):l.getD i default=l.getD i 0:=rfl
theorem u8_b (b:UInt8):0<=(b.toNat:Int)/\(b.toNat:Int)<=255:=by have:=b.toNat_lt;omega
theorem shI_fold (r:Int):IntKind.i32.wrap (r * 2 ^ min 6 IntKind.i32.bits)=shI r:=rfl
theorem rU_fold (r x:Int):IntKind.i32.wrap ((BitVec.ofInt IntKind.i32.bits (shI r)|||BitVec.ofInt IntKind.i32.bits x).toNat:Int)=rU r x:=rfl
section
attribute [local push_cast 2000] u8
end
section
attribute [local push_cast 2000] u8 andU_fold shI_fold rU_fold getD0
theorem step_dc (l:Str) (F:Own):(1<=l.length/\l.length<=1000000000)->DC Tryd.prog 113 [.sl (l.map u8)] (([]:Own)++F) fun d G=>d = .tup [.int .i32 (stepM l).1, .int .i64 (stepM l).2.1, .bool (stepM l).2.2]/\G=[]++F:=by
 intro hA
 obtain ⟨hl,hb⟩:=hA
 refine DC.bodyS (n_:=88) (show Tryd.prog.funcs[113]? = some Tryd.f113 by kernel_rfl) rfl rfl (by rfl) ?_
 simp only [env0,List.cons_append,List.nil_append]
 have kw:=ksIs [0,2,3,4,5,6,7,8,9,14,17,27,37,50,53,61,85]
 have ow:=ownIs []
 have hc:=u8_b (l.getD 0 0)
 repeat' (first
  | ((with_reducible refine DW.loopB 1 (X:=Nat) (fun x=>(1<=x/\x<=2)/\allK (contAt l) x=true) (fun x=>[(0, .sl (l.map u8)),(6, .int .i64 2),(7, .int .i32 128),(8, .int .i32 (loopR l (IntKind.i32.wrap (andU ((l.getD 0 0).toNat:Int) 31)) (x - 1))),(9, .int .i64 x)]) (fun x=>([]:Own)) (fun x=>2 - x) (1) ?_ ?_ ?_);exact (⟨⟨by decide,by decide⟩,rfl⟩);(simp [Sub,get,keepL,loopR]<;>fail);(try simp only [List.cons_append,List.nil_append]);refine pl_ ?_;intro k ⟨hk,ha⟩;(try simp only [List.cons_append,List.nil_append]))
  | ((with_reducible refine DW.loopB 1 (X:=Nat) (fun x=>(1<=x/\x<=3)/\allK (contAt l) x=true) (fun x=>[(0, .sl (l.map u8)),(6, .int .i64 3),(7, .int .i32 2048),(8, .int .i32 (loopR l (IntKind.i32.wrap (andU ((l.getD 0 0).toNat:Int) 15)) (x - 1))),(9, .int .i64 x)]) (fun x=>([]:Own)) (fun x=>3 - x) (1) ?_ ?_ ?_);exact (⟨⟨by decide,by decide⟩,rfl⟩);(simp [Sub,get,keepL,loopR]<;>fail);(try simp only [List.cons_append,List.nil_append]);refine pl_ ?_;intro k ⟨hk,ha⟩;(try simp only [List.cons_append,List.nil_append]))
  | ((with_reducible refine DW.loopB 1 (X:=Nat) (fun x=>(1<=x/\x<=4)/\allK (contAt l) x=true) (fun x=>[(0, .sl (l.map u8)),(6, .int .i64 4),(7, .int .i32 65536),(8, .int .i32 (loopR l (IntKind.i32.wrap (andU ((l.getD 0 0).toNat:Int) 7)) (x - 1))),(9, .int .i64 x)]) (fun x=>([]:Own)) (fun x=>4 - x) (1) ?_ ?_ ?_);exact (⟨⟨by decide,by decide⟩,rfl⟩);(simp [Sub,get,keepL,loopR]<;>fail);(try simp only [List.cons_append,List.nil_append]);refine pl_ ?_;intro k ⟨hk,ha⟩;(try simp only [List.cons_append,List.nil_append]))
  | refine g_ ?_
  | ((with_reducible refine And.intro ?_ ?_);(exact sv))
  | (refine DW.cond (by rfl) ?_ ?_<;>(first | exact i0_ | (refine ic_ ?_;intro hb)))
  | ((with_reducible refine FVg_cases ?_ ?_)<;>(intro hb;rw [hb];revert hb;(first | exact i0_ | (refine i_ ?_;intro hb))))
  | refine r_ ?_
  | refine k_ ?_
  | refine o_ ?_
  | refine f_ ?_
  | with_reducible intro b)
 all_goals first
 | (rw [stepM_1 (by omega)];refine ⟨_,_,le.of_eq ?_,⟨rfl,rfl⟩,SubP.refl⟩;rfl)
 | (rw [stepM_0 (by omega) (by omega)];refine ⟨_,_,le.of_eq ?_,⟨rfl,rfl⟩,SubP.refl⟩;rfl)
 | (have e:=stepM_n (l:=l) (by omega) (clsM_2 (by omega) (by omega)) (by decide)
    rw [e,runM_short (by omega)];refine ⟨_,_,le.of_eq ?_,⟨rfl,rfl⟩,SubP.refl⟩;rfl)
 | (have e:=stepM_n (l:=l) (by omega) (clsM_2 (by omega) (by omega)) (by decide)
    rw [e,runM_bad k (by omega) (by omega) (by assumption)];refine ⟨_,_,le.of_eq ?_,⟨rfl,rfl⟩,SubP.refl⟩;rfl)
 | (have e:=stepM_n (l:=l) (by omega) (clsM_2 (by omega) (by omega)) (by decide)
    have hkn:k=2:=by omega
    subst hkn
    rw [e,runM_not (okR_no (by omega))];refine ⟨_,_,le.of_eq ?_,⟨rfl,rfl⟩,SubP.refl⟩;rfl)
 | (have e:=stepM_n (l:=l) (by omega) (clsM_2 (by omega) (by omega)) (by decide)
    have hkn:k=2:=by omega
    subst hkn
    rw [e,runM_yes (by omega) ha (okR_yes (by omega) (by omega) (by omega))];refine ⟨_,_,le.of_eq ?_,⟨rfl,rfl⟩,SubP.refl⟩;rfl)
 | (have e:=stepM_n (l:=l) (by omega) (clsM_3 (by omega) (by omega)) (by decide)
    rw [e,runM_short (by omega)];refine ⟨_,_,le.of_eq ?_,⟨rfl,rfl⟩,SubP.refl⟩;rfl)
 | (have e:=stepM_n (l:=l) (by omega) (clsM_3 (by omega) (by omega)) (by decide)
    rw [e,runM_bad k (by omega) (by omega) (by assumption)];refine ⟨_,_,le.of_eq ?_,⟨rfl,rfl⟩,SubP.refl⟩;rfl)
 | (have e:=stepM_n (l:=l) (by omega) (clsM_3 (by omega) (by omega)) (by decide)
    have hkn:k=3:=by omega
    subst hkn
    rw [e,runM_not (okR_no (by omega))];refine ⟨_,_,le.of_eq ?_,⟨rfl,rfl⟩,SubP.refl⟩;rfl)
 | (have e:=stepM_n (l:=l) (by omega) (clsM_3 (by omega) (by omega)) (by decide)
    have hkn:k=3:=by omega
    subst hkn
    rw [e,runM_yes (by omega) ha (okR_yes (by omega) (by omega) (by omega))];refine ⟨_,_,le.of_eq ?_,⟨rfl,rfl⟩,SubP.refl⟩;rfl)
 | (have e:=stepM_n (l:=l) (by omega) (clsM_4 (by omega) (by omega)) (by decide)
    rw [e,runM_short (by omega)];refine ⟨_,_,le.of_eq ?_,⟨rfl,rfl⟩,SubP.refl⟩;rfl)
 | (have e:=stepM_n (l:=l) (by omega) (clsM_4 (by omega) (by omega)) (by decide)
    rw [e,runM_bad k (by omega) (by omega) (by assumption)];refine ⟨_,_,le.of_eq ?_,⟨rfl,rfl⟩,SubP.refl⟩;rfl)
 | (have e:=stepM_n (l:=l) (by omega) (clsM_4 (by omega) (by omega)) (by decide)
    have hkn:k=4:=by omega
    subst hkn
    rw [e,runM_not (okR_no (by omega))];refine ⟨_,_,le.of_eq ?_,⟨rfl,rfl⟩,SubP.refl⟩;rfl)
 | (have e:=stepM_n (l:=l) (by omega) (clsM_4 (by omega) (by omega)) (by decide)
    have hkn:k=4:=by omega
    subst hkn
    rw [e,runM_yes (by omega) ha (okR_yes (by omega) (by omega) (by omega))];refine ⟨_,_,le.of_eq ?_,⟨rfl,rfl⟩,SubP.refl⟩;rfl)
 | (have h1:contAt l k=true:=by unfold contAt;rw [‹andU _ _=128›];simp
    refine ⟨k+1,⟨by omega,allK_next ha h1⟩,by omega,?_,?_⟩;(rw [loopR_next hk.1];simp [Sub,get]<;>fail);(exact sub_);done)
end
end
end Go.Proofs.YtphhijelneaedaaDoor
