/- Loops as plain functions: all, the first, those that, folds; tables as data. No statement of the program. -/
import Derived.Test.YtgekknefphagbaaGreatDoorEn
import Derived.KernelRfl
import Derived.Test.YtgekknefphagbaaGreatDoorEu
namespace Go.Proofs.YtgekknefphagbaaGreatDoor
open Go.RowKit
set_option linter.unusedSimpArgs false
set_option linter.unusedVariables false
set_option linter.unusedSectionVars false
section
def allK (p:Nat->Bool) (k:Nat):Bool:=(List.range k).all p
theorem zmq (p:Nat->Bool) (k:Nat):allK p (k+1)=(allK p k&&p k):=by simp [allK,List.range_succ]
theorem zou {p:Nat->Bool} {k:Nat} (h:allK p k=true) (hk:p k=true):allK p (k+1)=true:=by rw [zmq,h,hk];rfl
theorem zpV {p:Nat->Bool} {k n:Nat} (hk:p k=false) (h:k<n):allK p n=false:=by
 cases ha:allK p n with
 | false=>rfl
 | true =>
  have:=List.all_eq_true.1 ha k (List.mem_range.2 h)
  rw [hk] at this;cases this
def anyK (p:Nat->Bool) (k:Nat):Bool:=(List.range k).any p
section
variable {α:Type} [Inhabited α]
end
abbrev Str:=List UInt8
structure TDot where
 node:Int
 epoch:Int
 n:Int
 deriving DecidableEq,Inhabited
structure TFence where
 node:Int
 epoch:Int
 deriving DecidableEq,Inhabited
structure TRoute where
 dot:TDot
 filter:Str
 deriving DecidableEq,Inhabited
structure TStamp where
 l:Int
 c:Int
 node:Int
 deriving DecidableEq,Inhabited
structure TCell where
 dot:TDot
 stamp:TStamp
 topic:Str
 payload:Str
 qos:Int
 gone:Bool
 deriving DecidableEq,Inhabited
structure TTable where
 seen:List TDot
 fences:List TFence
 routes:List TRoute
 cells:List TCell
 deriving DecidableEq,Inhabited
end
section
set_option maxHeartbeats 4000000
set_option maxRecDepth 100000
attribute [local irreducible] DW SeqD DV DOp DC DVX
def hasAt (t:Str) (c:Int) (i:Nat):Bool:=decide (((t.getD i 0).toNat:Int)=c)
def hasC (t:Str) (c:Int):Bool:=anyK (hasAt t c) t.length
def andU (a m:Int):Int:=IntKind.u8.wrap ((BitVec.ofInt IntKind.u8.bits a &&& BitVec.ofInt IntKind.u8.bits m).toNat:Int)
theorem zmh (a m:Int):IntKind.u8.wrap ((BitVec.ofInt IntKind.u8.bits a &&& BitVec.ofInt IntKind.u8.bits m).toNat:Int)=andU a m:=rfl
def shI (r:Int):Int:=IntKind.i32.wrap (r * 2 ^ min 6 IntKind.i32.bits)
def rU (r x:Int):Int:=IntKind.i32.wrap ((BitVec.ofInt IntKind.i32.bits (shI r)|||BitVec.ofInt IntKind.i32.bits x).toNat:Int)
def zci (l:Str) (r0:Int):Nat->Int
 | 0=>r0
 | j+1=>rU (zci l r0 j) (IntKind.i32.wrap (andU ((l.getD (j+1) 0).toNat:Int) 63))
def zcq (l:Str) (j:Nat):Bool:=decide (j=0)||andU ((l.getD j 0).toNat:Int) 192==128
def clsM (c:Int):Nat×Int×Int :=
 if 192<=c/\c<224 then (2,128,IntKind.i32.wrap (andU c 31)) else if 224<=c/\c<240 then (3,2048,IntKind.i32.wrap (andU c 15)) else if 240<=c/\c<248 then (4,65536,IntKind.i32.wrap (andU c 7)) else (0,0,0)
def okR (r least:Int):Bool:=!(decide (r<least)||decide (1114111<r)||(decide (55296<=r)&&decide (r<57344)))
def runM (l:Str) (n:Nat) (least r0:Int):Int×Int×Bool :=
 if l.length<n then (0,1,false) else if allK (zcq l) n=true then (if okR (zci l r0 (n - 1)) least=true then (zci l r0 (n - 1),(n:Int),true) else (0,1,false)) else (0,1,false)
def zaJ (l:Str):Int×Int×Bool :=
 if ((l.getD 0 0).toNat:Int)<128 then (((l.getD 0 0).toNat:Int),1,true)
 else if (clsM ((l.getD 0 0).toNat:Int)).1=0 then (0,1,false) else runM l (clsM ((l.getD 0 0).toNat:Int)).1 (clsM ((l.getD 0 0).toNat:Int)).2.1 (clsM ((l.getD 0 0).toNat:Int)).2.2
theorem runM_ok {l:Str} {n:Nat} {a b:Int} (h:(runM l n a b).2.2=true) (hn:1<=n):1<=(runM l n a b).2.1/\(runM l n a b).2.1<=l.length:=by
 unfold runM at h ⊢
 split at h
 · cases h
 · rename_i h1
   rw [if_neg h1]
   split at h
   · rename_i h2
     rw [if_pos h2]
     split at h
     · rename_i h3;rw [if_pos h3];constructor<;>simp only<;>omega
     · cases h
   · cases h
theorem zqt {l:Str} (hl:l≠[]) (h:(zaJ l).2.2=true):1<=(zaJ l).2.1/\(zaJ l).2.1<=l.length:=by
 have h0:1<=l.length:=List.length_pos_iff.2 hl
 unfold zaJ at h ⊢
 split at h
 · rename_i h1;rw [if_pos h1];constructor<;>simp only<;>omega
 · rename_i h1
   rw [if_neg h1]
   split at h
   · cases h
   · rename_i h2
     rw [if_neg h2]
     exact runM_ok h (by omega)
theorem zm2 {l:Str} (h:((l.getD 0 0).toNat:Int)<128):zaJ l=(((l.getD 0 0).toNat:Int),1,true):=by rw [zaJ,if_pos h]
theorem zjQ {l:Str} (h:128<=((l.getD 0 0).toNat:Int)) (h2:((l.getD 0 0).toNat:Int)<192\/248<=((l.getD 0 0).toNat:Int)):zaJ l=(0,1,false):=by
 have e:(clsM ((l.getD 0 0).toNat:Int)).1=0:=by unfold clsM;rw [if_neg (by omega),if_neg (by omega),if_neg (by omega)]
 rw [zaJ,if_neg (by omega),if_pos e]
theorem zbW {l:Str} {n:Nat} {a b:Int} (h:128<=((l.getD 0 0).toNat:Int)) (h2:clsM ((l.getD 0 0).toNat:Int)=(n,a,b)) (h3:n≠0):zaJ l=runM l n a b:=by
 rw [zaJ,if_neg (by omega),h2,if_neg h3]
theorem ziV {c:Int} (h1:192<=c) (h2:c<224):clsM c=(2,128,IntKind.i32.wrap (andU c 31)):=by rw [clsM,if_pos ⟨h1,h2⟩]
theorem zjd {c:Int} (h1:224<=c) (h2:c<240):clsM c=(3,2048,IntKind.i32.wrap (andU c 15)):=by rw [clsM,if_neg (by omega),if_pos ⟨h1,h2⟩]
theorem ziH {c:Int} (h1:240<=c) (h2:c<248):clsM c=(4,65536,IntKind.i32.wrap (andU c 7)):=by rw [clsM,if_neg (by omega),if_neg (by omega),if_pos ⟨h1,h2⟩]
theorem zfj {l:Str} {n:Nat} {a b:Int} (h:l.length<n):runM l n a b=(0,1,false):=by rw [runM,if_pos h]
theorem zhR {l:Str} {n:Nat} {a b:Int} (k:Nat) (h1:1<=k) (h2:k<n) (h:¬ andU ((l.getD k 0).toNat:Int) 192=128):runM l n a b=(0,1,false):=by
 have hf:zcq l k=false:=by unfold zcq;rw [decide_eq_false (by omega)];simpa using h
 unfold runM
 split
 · rfl
 · rw [if_neg (by rw [zpV hf h2];simp)]
theorem zhW {l:Str} {n:Nat} {a b:Int} (h:okR (zci l b (n - 1)) a=false):runM l n a b=(0,1,false):=by
 unfold runM
 split
 · rfl
 · split
   · rw [if_neg (by rw [h];simp)]
   · rfl
theorem zfN {l:Str} {n:Nat} {a b:Int} (h1:n<=l.length) (h2:allK (zcq l) n=true) (h:okR (zci l b (n - 1)) a=true):runM l n a b=(zci l b (n - 1),(n:Int),true):=by
 rw [runM,if_neg (by omega),if_pos h2,if_pos h]
theorem zmW {r a:Int} (h:r<a\/1114111<r\/(55296<=r/\r<57344)):okR r a=false:=by
 unfold okR
 rcases h with h | h | ⟨h,h2⟩
 · rw [decide_eq_true h];rfl
 · rw [decide_eq_true h];simp
 · rw [decide_eq_true h,decide_eq_true h2];simp
theorem zjH {r a:Int} (h1:a<=r) (h2:r<=1114111) (h3:r<55296\/57344<=r):okR r a=true:=by
 unfold okR
 rw [decide_eq_false (show ¬ r<a by omega),decide_eq_false (show ¬ 1114111<r by omega)]
 rcases h3 with h | h
 · rw [decide_eq_false (show ¬ 55296<=r by omega)];rfl
 · rw [decide_eq_false (show ¬ r<57344 by omega)];simp
theorem zlB {l:Str} {r0:Int} {k:Nat} (h:1<=k):zci l r0 (k+1 - 1)=rU (zci l r0 (k - 1)) (IntKind.i32.wrap (andU ((l.getD k 0).toNat:Int) 63)):=by
 obtain ⟨j,rfl⟩:∃ j,k=j+1:=⟨k - 1,by omega⟩
 rfl
theorem zgi (l:Str) (i:Nat):l.getD i default=l.getD i 0:=rfl
theorem u8_b (b:UInt8):0<=(b.toNat:Int)/\(b.toNat:Int)<=255:=by have:=b.toNat_lt;omega
theorem zpX (r:Int):IntKind.i32.wrap (r * 2 ^ min 6 IntKind.i32.bits)=shI r:=rfl
theorem rU_fold (r x:Int):IntKind.i32.wrap ((BitVec.ofInt IntKind.i32.bits (shI r)|||BitVec.ofInt IntKind.i32.bits x).toNat:Int)=rU r x:=rfl
section
attribute [local push_cast 2000] u8
end
section
attribute [local push_cast 2000] u8 zmh zpX rU_fold zgi
theorem step_dc (l:Str) (F:Own):(1<=l.length/\l.length<=1000000000)->DC Tryz.prog 160 [.sl (l.map u8)] (([]:Own)++F) fun d G=>d = .tup [.int .i32 (zaJ l).1, .int .i64 (zaJ l).2.1, .bool (zaJ l).2.2]/\G=[]++F:=by
 intro hA
 obtain ⟨hl,hb⟩:=hA
 refine DC.bodyS (n_:=88) (show Tryz.prog.funcs[160]? = some Tryz.f160 by kernel_rfl) rfl rfl (by rfl) ?_
 simp only [env0,List.cons_append,List.nil_append]
 have kw:=ksIs [0,2,3,4,5,6,7,8,9,14,17,27,37,50,53,61,85]
 have ow:=zaf []
 have hc:=u8_b (l.getD 0 0)
 repeat' (first
  | ((with_reducible refine DW.loopB 1 (X:=Nat) (fun x=>(1<=x/\x<=2)/\allK (zcq l) x=true) (fun x=>[(0, .sl (l.map u8)),(6, .int .i64 2),(7, .int .i32 128),(8, .int .i32 (zci l (IntKind.i32.wrap (andU ((l.getD 0 0).toNat:Int) 31)) (x - 1))),(9, .int .i64 x)]) (fun x=>([]:Own)) (fun x=>2 - x) (1) ?_ ?_ ?_);exact (⟨⟨by decide,by decide⟩,rfl⟩);(simp [Sub,get,zaP,zci]<;>fail);(try simp only [List.cons_append,List.nil_append]);refine pl_ ?_;intro k ⟨hk,ha⟩;(try simp only [List.cons_append,List.nil_append]))
  | ((with_reducible refine DW.loopB 1 (X:=Nat) (fun x=>(1<=x/\x<=3)/\allK (zcq l) x=true) (fun x=>[(0, .sl (l.map u8)),(6, .int .i64 3),(7, .int .i32 2048),(8, .int .i32 (zci l (IntKind.i32.wrap (andU ((l.getD 0 0).toNat:Int) 15)) (x - 1))),(9, .int .i64 x)]) (fun x=>([]:Own)) (fun x=>3 - x) (1) ?_ ?_ ?_);exact (⟨⟨by decide,by decide⟩,rfl⟩);(simp [Sub,get,zaP,zci]<;>fail);(try simp only [List.cons_append,List.nil_append]);refine pl_ ?_;intro k ⟨hk,ha⟩;(try simp only [List.cons_append,List.nil_append]))
  | ((with_reducible refine DW.loopB 1 (X:=Nat) (fun x=>(1<=x/\x<=4)/\allK (zcq l) x=true) (fun x=>[(0, .sl (l.map u8)),(6, .int .i64 4),(7, .int .i32 65536),(8, .int .i32 (zci l (IntKind.i32.wrap (andU ((l.getD 0 0).toNat:Int) 7)) (x - 1))),(9, .int .i64 x)]) (fun x=>([]:Own)) (fun x=>4 - x) (1) ?_ ?_ ?_);exact (⟨⟨by decide,by decide⟩,rfl⟩);(simp [Sub,get,zaP,zci]<;>fail);(try simp only [List.cons_append,List.nil_append]);refine pl_ ?_;intro k ⟨hk,ha⟩;(try simp only [List.cons_append,List.nil_append]))
  | refine g_ ?_
  | ((with_reducible refine And.intro ?_ ?_);(exact sv))
  | (refine DW.cond (by rfl) ?_ ?_<;>(first | exact i0_ | (refine ic_ ?_;intro hb)))
  | ((with_reducible refine zaa ?_ ?_)<;>(intro hb;rw [hb];revert hb;(first | exact i0_ | (refine i_ ?_;intro hb))))
  | refine r_ ?_
  | refine k_ ?_
  | refine o_ ?_
  | refine f_ ?_
  | with_reducible intro b)
 all_goals first
 | (rw [zm2 (by omega)];refine ⟨_,_,le.of_eq ?_,⟨rfl,rfl⟩,SubP.refl⟩;rfl)
 | (rw [zjQ (by omega) (by omega)];refine ⟨_,_,le.of_eq ?_,⟨rfl,rfl⟩,SubP.refl⟩;rfl)
 | (have e:=zbW (l:=l) (by omega) (ziV (by omega) (by omega)) (by decide)
    rw [e,zfj (by omega)];refine ⟨_,_,le.of_eq ?_,⟨rfl,rfl⟩,SubP.refl⟩;rfl)
 | (have e:=zbW (l:=l) (by omega) (ziV (by omega) (by omega)) (by decide)
    rw [e,zhR k (by omega) (by omega) (by assumption)];refine ⟨_,_,le.of_eq ?_,⟨rfl,rfl⟩,SubP.refl⟩;rfl)
 | (have e:=zbW (l:=l) (by omega) (ziV (by omega) (by omega)) (by decide)
    have hkn:k=2:=by omega
    subst hkn
    rw [e,zhW (zmW (by omega))];refine ⟨_,_,le.of_eq ?_,⟨rfl,rfl⟩,SubP.refl⟩;rfl)
 | (have e:=zbW (l:=l) (by omega) (ziV (by omega) (by omega)) (by decide)
    have hkn:k=2:=by omega
    subst hkn
    rw [e,zfN (by omega) ha (zjH (by omega) (by omega) (by omega))];refine ⟨_,_,le.of_eq ?_,⟨rfl,rfl⟩,SubP.refl⟩;rfl)
 | (have e:=zbW (l:=l) (by omega) (zjd (by omega) (by omega)) (by decide)
    rw [e,zfj (by omega)];refine ⟨_,_,le.of_eq ?_,⟨rfl,rfl⟩,SubP.refl⟩;rfl)
 | (have e:=zbW (l:=l) (by omega) (zjd (by omega) (by omega)) (by decide)
    rw [e,zhR k (by omega) (by omega) (by assumption)];refine ⟨_,_,le.of_eq ?_,⟨rfl,rfl⟩,SubP.refl⟩;rfl)
 | (have e:=zbW (l:=l) (by omega) (zjd (by omega) (by omega)) (by decide)
    have hkn:k=3:=by omega
    subst hkn
    rw [e,zhW (zmW (by omega))];refine ⟨_,_,le.of_eq ?_,⟨rfl,rfl⟩,SubP.refl⟩;rfl)
 | (have e:=zbW (l:=l) (by omega) (zjd (by omega) (by omega)) (by decide)
    have hkn:k=3:=by omega
    subst hkn
    rw [e,zfN (by omega) ha (zjH (by omega) (by omega) (by omega))];refine ⟨_,_,le.of_eq ?_,⟨rfl,rfl⟩,SubP.refl⟩;rfl)
 | (have e:=zbW (l:=l) (by omega) (ziH (by omega) (by omega)) (by decide)
    rw [e,zfj (by omega)];refine ⟨_,_,le.of_eq ?_,⟨rfl,rfl⟩,SubP.refl⟩;rfl)
 | (have e:=zbW (l:=l) (by omega) (ziH (by omega) (by omega)) (by decide)
    rw [e,zhR k (by omega) (by omega) (by assumption)];refine ⟨_,_,le.of_eq ?_,⟨rfl,rfl⟩,SubP.refl⟩;rfl)
 | (have e:=zbW (l:=l) (by omega) (ziH (by omega) (by omega)) (by decide)
    have hkn:k=4:=by omega
    subst hkn
    rw [e,zhW (zmW (by omega))];refine ⟨_,_,le.of_eq ?_,⟨rfl,rfl⟩,SubP.refl⟩;rfl)
 | (have e:=zbW (l:=l) (by omega) (ziH (by omega) (by omega)) (by decide)
    have hkn:k=4:=by omega
    subst hkn
    rw [e,zfN (by omega) ha (zjH (by omega) (by omega) (by omega))];refine ⟨_,_,le.of_eq ?_,⟨rfl,rfl⟩,SubP.refl⟩;rfl)
 | (have h1:zcq l k=true:=by unfold zcq;rw [‹andU _ _=128›];simp
    refine ⟨k+1,⟨by omega,zou ha h1⟩,by omega,?_,?_⟩;(rw [zlB hk.1];simp [Sub,get]<;>fail);(exact sub_);done)
end
end
section
set_option maxHeartbeats 4000000
set_option maxRecDepth 100000
attribute [local irreducible] DW SeqD DV DOp DC DVX
def chkF:Nat->Str->Bool
 | 0,_=>true
 | f+1,l=>if l.length=0 then true else (zaJ l).2.2&&(zaJ l).1 != 0&&chkF f (l.drop (zaJ l).2.1.toNat)
def chkB (l:Str):Bool:=chkF l.length l
theorem zko:∀ f,chkF f []=true
 | 0=>rfl
 | f+1=>by unfold chkF;simp
theorem ziu (f:Nat) {l:Str} (h:l.length≠0):chkF (f+1) l=((zaJ l).2.2&&(zaJ l).1 != 0&&chkF f (l.drop (zaJ l).2.1.toNat)):=by
 conv=>lhs;unfold chkF
 rw [if_neg h]
theorem dropM1 (n:Nat) (l:Str):List.drop n (List.map u8 l)=List.map u8 (List.drop n l):=List.map_drop.symm
theorem takeM1 (n:Nat) (l:Str):List.take n (List.map u8 l)=List.map u8 (List.take n l):=List.map_take.symm
theorem takeL1 (l:Str):List.take l.length l=l:=List.take_length
theorem znC {l:Str} {f k:Nat} (hk:k<l.length) (hf:l.length - k<=f) (h:(zaJ (l.drop k)).2.2=false\/(zaJ (l.drop k)).1=0):chkF f (l.drop k)=false:=by
 obtain ⟨g,rfl⟩:∃ g,f=g+1:=⟨f - 1,by omega⟩
 rw [ziu g kxcd]
 rcases h with h | h<;>rw [h]<;>simp
theorem znr {l:Str} {f k:Nat} (hk:k<l.length) (hf:l.length - k<=f) (h1:(zaJ (l.drop k)).2.2=true) (h2:¬ (zaJ (l.drop k)).1=0):∃ m g:Nat,((zaJ (l.drop k)).2.1=(m:Int))/\1<=m/\k+m<=l.length/\l.length - (k+m)<=g/\chkF f (l.drop k)=chkF g (l.drop (k+m)):=by
 obtain ⟨g,rfl⟩:∃ g,f=g+1:=⟨f - 1,by omega⟩
 have hne:l.drop k≠[]:=fun e=>by have:=congrArg List.length e;rw [List.length_drop] at this;simp at this;omega
 obtain ⟨a1,a2⟩:=zqt hne h1
 rw [List.length_drop] at a2
 refine ⟨(zaJ (l.drop k)).2.1.toNat,g,by omega,by omega,by omega,by omega,?_⟩
 rw [ziu g kxcd,h1,List.drop_drop]
 have:((zaJ (l.drop k)).1 != 0)=true:=by simpa using h2
 rw [this]
 rfl
theorem zgy {p:Prop} (h:p:=by first | exact sv | (simp [u8];omega) | (simp [u8]<;>omega) | (simp only [List.length_drop];omega) | fail):p:=h
section
attribute [local push_cast 2000] dropM1 takeM1 takeL1 List.length_drop
theorem zpd (l:Str) (F:Own):(l.length<=1000000000)->DC Tryz.prog 101 [.sl (l.map u8)] (([]:Own)++F) fun d G=>∃ i:Int,d = .int .i64 i/\decide (i<0)=chkB l/\G=[]++F:=by
 intro hA
 have hl:=hA
 refine DC.bodyS (n_:=29) (show Tryz.prog.funcs[101]? = some Tryz.f101 by kernel_rfl) rfl rfl (by rfl) ?_
 simp only [env0,List.cons_append,List.nil_append]
 have kw:=ksIs [0,2,3,4,5,6,10,24]
 have ow:=zaf []
 repeat' (first
  | ((with_reducible refine DW.loopB 0 (X:=Nat) (fun x=>x<=l.length/\∃ f,l.length - x<=f/\chkB l=chkF f (l.drop x)) (fun x=>[(0, .sl (l.map u8)),(3, .int .i64 x)]) (fun x=>([]:Own)) (fun x=>l.length - x) (0) ?_ ?_ ?_);exact (⟨Nat.zero_le _,l.length,by omega,by rw [List.drop_zero];rfl⟩);(exact kxcm);(try simp only [List.cons_append,List.nil_append]);refine pl_ ?_;intro k ⟨hk,f,hf,ha⟩;(try simp only [List.cons_append,List.nil_append]))
  | refine g_ ?_
  | ((with_reducible refine And.intro ?_ ?_);(exact zgy))
  | (refine DW.cond (by rfl) ?_ ?_<;>(first | exact i0_ | (refine ic_ ?_;intro hb)))
  | ((with_reducible refine zaa ?_ ?_)<;>(intro hb;rw [hb];revert hb;(first | exact i0_ | (refine i_ ?_;intro hb))))
  | refine r_ ?_
  | refine k_ ?_
  | (refine q_ (step_dc _ _) ?_ (ha:=by exact zgy))
  | refine o_ ?_
  | refine f_ ?_
  | with_reducible intro b)
 all_goals first
 | (have hkl:k=l.length:=by omega
    subst hkl
    rw [List.drop_length,zko] at ha
    refine ⟨_,_,le.rfl_,⟨-1,rfl,by rw [ha];rfl,rfl⟩,SubP.refl⟩)
 | (have hb2:=znC (show k<l.length by omega) hf (by first | (left;assumption) | (right;assumption))
    rw [hb2] at ha
    refine ⟨_,_,le.rfl_,⟨(k:Int),rfl,by rw [ha];exact decide_eq_false (by omega),rfl⟩,SubP.refl⟩)
 | (obtain ⟨m,g,e1,e2,e3,e4,e5⟩:=znr (show k<l.length by omega) hf (by assumption) (by assumption)
    refine ⟨k+m,⟨e3,g,e4,by rw [ha,e5]⟩,by omega,?_,?_⟩;(simp [Sub,get,e1,wrap_i64 ((k:Int)+(m:Int)) (by omega) (by omega)]<;>fail);(exact sub_);done)
end
def zdV (t:Str):Bool:=decide (1<=t.length)&&decide (t.length<=65535)&&chkB t
def zb5 (t:Str):Bool:=zdV t && !hasC t 43 && !hasC t 35
end
section
set_option maxHeartbeats 4000000
set_option maxRecDepth 100000
attribute [local irreducible] DW SeqD DV DOp DC DVX
def zcT (acc:List Str) (c:UInt8):List Str:=if (c.toNat:Int)=47 then acc++[[]] else acc.set (acc.length - 1) (acc.getD (acc.length - 1) []++[c])
def lev (t:Str) (k:Nat):List Str:=(t.take k).foldl zcT [[]]
theorem lev_0 (t:Str):lev t 0=[[]]:=rfl
theorem zlY (l:Str) (k:Nat) (h:k<l.length):l.take (k+1)=l.take k++[l.getD k 0]:=by rw [List.take_add_one];simp [List.getD_eq_getElem?_getD,h]
theorem zkC {t:Str} {k:Nat} (h:k<t.length):lev t (k+1)=zcT (lev t k) (t.getD k 0):=by rw [lev,zlY t k h,List.foldl_append];rfl
theorem zj8 (acc:List Str) (c:UInt8):acc.length<=(zcT acc c).length/\(zcT acc c).length<=acc.length+1:=by
 unfold zcT;split<;>simp
theorem znu {t:Str} {k:Nat} (h:k<=t.length):∀ j,((lev t k).getD j []).length<=k:=by
 induction k with
 | zero=>intro j;rw [lev_0];cases j<;>simp
 | succ k ih =>
  intro j
  rw [zkC (by omega),zcT]
  have h1:=ih (by omega)
  split
  · by_cases hj:j<(lev t k).length
    · have:=h1 j
      rw [List.getD_eq_getElem?_getD,List.getElem?_append_left hj,<-List.getD_eq_getElem?_getD];omega
    · rw [List.getD_eq_getElem?_getD,List.getElem?_append_right (by omega)]
      cases hq:j - (lev t k).length<;>simp
  · by_cases hj:j=(lev t k).length - 1
    · subst hj
      have:=h1 ((lev t k).length - 1)
      by_cases hl:(lev t k).length - 1<(lev t k).length
      · simp only [List.getD_eq_getElem?_getD,List.getElem?_set_self hl,Option.getD_some,List.length_append,List.length_singleton] at this ⊢;omega
      · rw [List.getD_eq_getElem?_getD,List.getElem?_eq_none (by simp;omega)];simp
    · have:=h1 j
      simp only [List.getD_eq_getElem?_getD,List.getElem?_set_ne (Ne.symm hj)] at this ⊢;omega
theorem lev_len {t:Str} {k:Nat} (h:k<=t.length):1<=(lev t k).length/\(lev t k).length<=k+1:=by
 induction k with
 | zero=>simp [lev_0]
 | succ k ih=>rw [zkC (by omega)];have:=zj8 (lev t k) (t.getD k 0);have:=ih (by omega);omega
theorem zp2 (a b d:List V) (m:Nat):layV (a++b) (a.length+m) d=a++layV b m d:=by
 unfold layV
 rw [List.take_append,List.take_of_length_le (by omega),List.drop_append,List.drop_of_length_le (by omega),List.nil_append,Nat.add_sub_cancel_left,show a.length+m+d.length - a.length=m+d.length from by omega]
 simp [List.append_assoc]
def strs (l:List Str):List V:=l.map .str
theorem zoH:strs [[]]=[V.str []]:=rfl
theorem zqu (l:List Str) (k:Nat) (s:Str) (h:k<l.length):layV (strs l) k [.str s]=strs (l.set k s):=by
 unfold strs
 induction l generalizing k with
 | nil=>cases h
 | cons a l ih =>
  cases k with
  | zero=>rfl
  | succ k =>
   have:=ih k (by simpa using h)
   rw [List.set_cons_succ,List.map_cons,List.map_cons,<-this]
   show layV ([V.str a]++_) (k+1) _=_
   rw [show k+1=([V.str a]:List V).length+k from by simp;omega,zp2];rfl
theorem znl {acc:List Str} {c:UInt8} (h:(c.toNat:Int)=47):zcT acc c=acc++[[]]:=by rw [zcT,if_pos h]
theorem znt {acc:List Str} {c:UInt8} (h:¬ (c.toNat:Int)=47):zcT acc c=acc.set (acc.length - 1) (acc.getD (acc.length - 1) []++[c]):=by rw [zcT,if_neg h]
section
attribute [local push_cast 2000] u8 zqu lev_0 zoH
end
def zpH (L:List Str) (i:Nat):Bool:=!(hasC (L.getD i []) 43&&L.getD i [] != [43]||hasC (L.getD i []) 35&&(L.getD i [] != [35]||decide (i+1<L.length)))
def filterB (t:Str):Bool:=zdV t&&allK (zpH (lev t t.length)) (lev t t.length).length
theorem znK {t:Str} (h:zdV t=true):1<=t.length/\t.length<=65535:=by
 unfold zdV at h;simp only [Bool.and_eq_true,decide_eq_true_eq] at h;omega
def sNe (a b:Str):Bool:=a != b
theorem zq0 (a b:Str):(!(a==b))=sNe a b:=rfl
attribute [local irreducible] zdV hasC lev zpH sNe
section
attribute [local push_cast 2000] zq0
end
end
end Go.Proofs.YtgekknefphagbaaGreatDoor
