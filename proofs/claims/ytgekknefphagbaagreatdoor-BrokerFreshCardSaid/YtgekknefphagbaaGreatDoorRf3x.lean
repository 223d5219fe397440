/- Levels of a filter; which texts are filters. -/
import Derived.Test.YtgekknefphagbaaGreatDoorLpx
import Derived.Test.YtgekknefphagbaaGreatDoorEu
import Derived.KernelRfl
import Derived.Test.YtgekknefphagbaaGreatDoorEzx
import Derived.Test.YtgekknefphagbaaGreatDoorSo
import Derived.Lib.Overlaps
namespace Go.Proofs.YtgekknefphagbaaGreatDoor
open Go.RowKit
set_option linter.unusedSimpArgs false
set_option linter.unusedVariables false
set_option linter.unusedSectionVars false
set_option maxHeartbeats 4000000
set_option maxRecDepth 100000
section
attribute [local irreducible] DW SeqD DV DOp DC DVX
def zcK (acc:List Str) (c:UInt8):List Str:=if (c.toNat:Int)=47 then acc++[[]] else acc.set (acc.length - 1) (acc.getD (acc.length - 1) []++[c])
def lev (t:Str) (k:Nat):List Str:=(t.take k).foldl zcK [[]]
theorem lev_0 (t:Str):lev t 0=[[]]:=rfl
theorem zll (l:Str) (k:Nat) (h:k<l.length):l.take (k+1)=l.take k++[l.getD k 0]:=by rw [List.take_add_one];simp [List.getD_eq_getElem?_getD,h]
theorem zkW {t:Str} {k:Nat} (h:k<t.length):lev t (k+1)=zcK (lev t k) (t.getD k 0):=by rw [lev,zll t k h,List.foldl_append];rfl
theorem zj2 (acc:List Str) (c:UInt8):acc.length<=(zcK acc c).length/\(zcK acc c).length<=acc.length+1:=by
 unfold zcK;split<;>simp
theorem zm5 {t:Str} {k:Nat} (h:k<=t.length):∀ j,((lev t k).getD j []).length<=k:=by
 induction k with
 | zero=>intro j;rw [lev_0];cases j<;>simp
 | succ k ih =>
  intro j
  rw [zkW (by omega),zcK]
  have h1:=ih (by omega)
  split
  · by_cases hj:j<(lev t k).length
    · have:=h1 j
      rw [List.getD_eq_getElem?_getD,List.getElem?_append_left hj,<-List.getD_eq_getElem?_getD];omega
    · rw [List.getD_eq_getElem?_getD,List.getElem?_append_right (by omega)]
      cases hq:j - (lev t k).length<;>simp
  · by_cases hj:j=(lev t k).length - 1
    · subst hj
      have:=h1 ((lev t k).length - 1)
      by_cases hl:(lev t k).length - 1<(lev t k).length
      · simp only [List.getD_eq_getElem?_getD,List.getElem?_set_self hl,Option.getD_some,List.length_append,List.length_singleton] at this ⊢;omega
      · rw [List.getD_eq_getElem?_getD,List.getElem?_eq_none (by simp;omega)];simp
    · have:=h1 j
      simp only [List.getD_eq_getElem?_getD,List.getElem?_set_ne (Ne.symm hj)] at this ⊢;omega
theorem lev_len {t:Str} {k:Nat} (h:k<=t.length):1<=(lev t k).length/\(lev t k).length<=k+1:=by
 induction k with
 | zero=>simp [lev_0]
 | succ k ih=>rw [zkW (by omega)];have:=zj2 (lev t k) (t.getD k 0);have:=ih (by omega);omega
theorem zpr (a b d:List V) (m:Nat):layV (a++b) (a.length+m) d=a++layV b m d:=by
 unfold layV
 rw [List.take_append,List.take_of_length_le (by omega),List.drop_append,List.drop_of_length_le (by omega),List.nil_append,Nat.add_sub_cancel_left,show a.length+m+d.length - a.length=m+d.length from by omega]
 simp [List.append_assoc]
def strs (l:List Str):List V:=l.map .str
theorem zqr:strs [[]]=[V.str []]:=rfl
theorem zpH (l:List Str) (k:Nat) (s:Str) (h:k<l.length):layV (strs l) k [.str s]=strs (l.set k s):=by
 unfold strs
 induction l generalizing k with
 | nil=>cases h
 | cons a l ih =>
  cases k with
  | zero=>rfl
  | succ k =>
   have:=ih k (by simpa using h)
   rw [List.set_cons_succ,List.map_cons,List.map_cons,<-this]
   show layV ([V.str a]++_) (k+1) _=_
   rw [show k+1=([V.str a]:List V).length+k from by simp;omega,zpr];rfl
theorem zmZ {acc:List Str} {c:UInt8} (h:(c.toNat:Int)=47):zcK acc c=acc++[[]]:=by rw [zcK,if_pos h]
theorem zmJ {acc:List Str} {c:UInt8} (h:¬ (c.toNat:Int)=47):zcK acc c=acc.set (acc.length - 1) (acc.getD (acc.length - 1) []++[c]):=by rw [zcK,if_neg h]
section
attribute [local push_cast 2000] u8 zpH lev_0 zqr
end
def zp4 (L:List Str) (i:Nat):Bool:=!(hasC (L.getD i []) 43&&L.getD i [] != [43]||hasC (L.getD i []) 35&&(L.getD i [] != [35]||decide (i+1<L.length)))
def filterB (t:Str):Bool:=zdD t&&allK (zp4 (lev t t.length)) (lev t t.length).length
theorem zms {t:Str} (h:zdD t=true):1<=t.length/\t.length<=65535:=by
 unfold zdD at h;simp only [Bool.and_eq_true,decide_eq_true_eq] at h;omega
def sNe (a b:Str):Bool:=a != b
theorem zpi (a b:Str):(!(a==b))=sNe a b:=rfl
attribute [local irreducible] zdD hasC lev zp4 sNe
section
attribute [local push_cast 2000] zpi
end
end
section
section
variable {P:Program} {o:Oper} {f:Operand->V} {H:Own} {K:V->Own->Prop}
def AppZ (P:Program) (sT xT:TypeId) (n:Nat) (m:Int):Prop:=(ty P sT).kind=4/\(ty P (ty P sT).elem).kind≠0/\(ty P (ty P sT).elem).kind≠11/\(ty P xT).ik=some .i64/\0<(ty P (ty P sT).elem).size /\
 (ty P (ty P sT).elem).zero.length=(ty P (ty P sT).elem).size/\(n+m.toNat) * (ty P (ty P sT).elem).bytes<=140737488355328/\n+m.toNat<=4611686018427387904
theorem DOp.appsubz_ {s x:Operand} {sT xT:TypeId} {v:Value} {sz lo n:Nat} {kk:IntKind} {m:Int} (hop:o.op = .call { callee:=.builtin .append,args:=#[s,x],argTypes:=#[sT,xT] }) (hfs:f s = .sub sz v lo n) (hfx:f x = .int kk m)
  (h:OnA H v fun z cs _=>(z=sz/\sz=(ty P (ty P sT).elem).size/\lo * sz+n * sz<=cs.length/\AppZ P sT xT n m/\0<m/\(capI v:Int)<lo+n+m)/\∀ v',K (.ar v' (n+m.toNat)) (.arr sz v' ((cs.drop (lo * sz)).take (n * sz)++List.replicate (m.toNat * sz) .any)::H)):DOp P o f H K:=by
 obtain ⟨z,cs,L1,L2,rfl,⟨hzz,hsz,hf,hA,hm0,hcp⟩,hk⟩:=h
 have hzz:=hzz.symm
 subst hzz
 generalize hE:(ty P sT).elem=E at *
 refine DOp.step fun a w hs hr=>?_
 have hvs:=hr s (by simp [hop,Op.operands,Call.operands])
 rw [hfs] at hvs
 generalize hvv:a.eval s=u at hvs
 cases hvs with
 | sub sz A N cap lo n hc ha =>
 obtain ⟨hA0,hA1,hA2,hA3,hA6,hA7,hA8,hA9⟩:=hA
 rw [hE] at hA1 hA2 hA6 hA7 hA8
 rw [<-hsz] at hA6 hA7
 obtain ⟨mm,rfl⟩:∃ mm:Nat,m=mm:=⟨m.toNat,by omega⟩
 have hcp:(cap:Int)<lo+n+mm:=hcp
 have hcp:cap - lo<n+mm:=by omega
 simp only [Int.toNat_natCast] at hA8 hA9 hk
 have hxv:a.eval x = .int kk mm:=by
  have:=hr x (by simp [hop,Op.operands,Call.operands])
  rw [hfx] at this
  generalize a.eval x=y at this ⊢
  cases this;rfl
 have hu:=zaQ hA0
 rw [hE] at hu
 have hEsz:∀ w,(sizeOf E).run P w = .ok sz w:=fun w=>by rw [za5 hA1 hA2,<-hsz]
 have hdx:=zgv (P:=P) hA3
 have hfit:¬ n+mm<=cap - lo:=by omega
 have hneed:cap - lo<n+mm:=by omega
 have hgrow:=growslice_fits hneed hA8
 obtain ⟨i,d',hi,_,_,_,hby,hz⟩:=zcA (t:=E) rfl hA1 hA2
 cases hzz:i.zero with
 | none=>rw [hzz] at hz;simp [hz] at hA7;omega
 | some z =>
  obtain ⟨zr1,zr2⟩:=zda (P:=P) (S:=stable w (L1 ++ .arr sz (.slice A N cap) cs::L2)) (w:=w) hi hzz hz
  have hzr:∀ w,(zeroValue E).run P w = .ok z w:=fun w=>by simp [zeroValue,typeInfo,program,Sem.run,hi,hzz]
  have hti:∀ w,(typeInfo E).run P w = .ok i w:=fun w=>by simp [typeInfo,program,Sem.run,hi]
  have hdr:=hs.drew
  obtain ⟨olds,o1,o2,o3⟩:=zk4 (P:=P) (n:=n) (H:=L1 ++ .arr sz (.slice A N cap) cs::L2) hdr.1 n (Nat.le_refl _) hf
  have hcl:((cs.drop (lo * sz)).take (n * sz)).length=n * sz:=by rw [List.length_take,List.length_drop];omega
  have hge:=grownCap_ge w (n+mm) (cap - lo) E
  generalize hcapn:grownCap w (n+mm) (cap - lo) E=newCap at *
  have hrest:=size_zeroCells z.cells (newCap - (n+mm))
  generalize hrs:Builtin.zeroCells z.cells (newCap - (n+mm))=rest at *
  have hzc:z.cells.size=sz:=zr1.trans hA7
  have hnews:=size_zeroCells z.cells mm
  generalize hns:Builtin.zeroCells z.cells mm=news' at *
  have hsize:(olds.toArray++news'++rest).size=newCap * sz:=by
   simp only [Array.size_append,List.size_toArray,o2,hnews,hrest,hzc,<-Nat.add_mul]
   congr 1;omega
  have hmul:n * sz+mm * sz<=newCap * sz:=by rw [<-Nat.add_mul];exact Nat.mul_le_mul_right _ hge
  have hv1:∀ j,j<n * sz->(olds.toArray++news'++rest).getD j undef=olds.getD j undef:=fun j hj=>by
   simp only [Array.getD_eq_getD_getElem?,List.getD_eq_getElem?_getD]
   rw [Array.append_assoc,Array.getElem?_append_left (by simp;omega)]
   simp
  generalize hA:olds.toArray++news'++rest=row at *
  have hsw:=hs.add (w':=w.drew.alloc (.cells row E)) (e1:=.arr sz (.slice (some ⟨w.heap.size,0,none⟩) (n+mm) newCap) ((cs.drop (lo * sz)).take (n * sz)++List.replicate (mm * sz) .any)) rfl rfl rfl (by simp) (fun b hb=>Below.heap_alloc w.drew _ b hb)
   (fun b h=>Nat.le_of_eq h.1.symm) (fun hst=>⟨hge,by rw [List.length_append,hcl,List.length_replicate,Nat.add_mul],fun _=>⟨rfl,row,E,(0,0),heap_alloc_new w.drew _,⟨.inl rfl,fun _=>rfl⟩,by simp only [hsize,Nat.zero_add];exact Nat.le_refl _,fun k hk=>by
     rw [List.length_append,hcl,List.length_replicate] at hk
     simp only [Nat.zero_add]
     by_cases hkc:k<n * sz
     · rw [hv1 k hkc,List.getD_eq_getElem?_getD (l:=(cs.drop (lo * sz)).take (n * sz)++List.replicate (mm * sz) V.any),List.getElem?_append_left (by omega),<-List.getD_eq_getElem?_getD]
       exact (o3 k hkc).mono hst
     · rw [List.getD_eq_getElem?_getD (l:=(cs.drop (lo * sz)).take (n * sz)++List.replicate (mm * sz) V.any),List.getElem?_append_right (by omega),hcl,List.getElem?_replicate,if_pos (by omega)]
       exact .any _⟩⟩)
  refine ⟨.slice (some ⟨w.heap.size,0,none⟩) (n+mm) newCap,w.drew.alloc (.cells row E), .ar _ (n+mm),_,?_,hsw, .ar _ _ _ hge (fun h=>nomatch h),hk _⟩
  unfold execOp
  rw [hop]
  have hg2:¬ 281474976710656<Builtin.nextslicecap (n+mm) (cap - lo) * i.bytes:=by rw [<-hby];omega
  have hzd:(zeroValue E).run P w.drew = .ok z w.drew:=hzr w.drew
  have htd:(typeInfo E).run P w.drew = .ok i w.drew:=hti w.drew
  have hask:(askRoom (newCap * i.bytes)).run P w.drew = .ok () w.drew:=by unfold askRoom;split<;>rfl
  unfold grownCap at hcapn
  revert o1 hvv
  generalize (if cap=lo then A else A.map (·.add (lo * sz)))=base
  intro hvv o1
  have hwr:IntKind.i64.wrap (mm:Int)=mm:=by rw [IntKind.wrap_i64]<;>omega
  have hneg:¬ ((mm:Int)<0):=by omega
  have hb48:¬ (281474976710656<(mm:Int) * (i.bytes:Int)):=by
   rw [<-Int.natCast_mul]
   have:mm * i.bytes<=(n+mm) * i.bytes:=Nat.mul_le_mul_right _ (by omega)
   rw [<-hby] at this ⊢
   omega
  have hns0:¬ (mm * sz=0):=Nat.mul_ne_zero (by omega) (by omega)
  have h63:¬ (9223372036854775807<((n:Int)+(mm:Int))):=by omega
  simp [resolve,invoke,Go.builtin,Builtin.append_,hvv,hxv,run_underlying hu,run_underlying hdx,hEsz,asInt,asIntOf,hwr,hneg,hb48,hns0,h63,hfit,hti,hg2,Question.forced,hcapn,hask,o1,hzd,hns,hrs,newRow]
  rw [<-hA,Array.append_assoc]
inductive InA (sz:Nat) (u:Value):Own->Prop
 | here {cs:List V} {H:Own}:InA sz u (.arr sz u cs::H)
 | next {e:Ent} {H:Own} (h:InA sz u H):InA sz u (e::H)
inductive Two (sz:Nat) (v u:Value):Own->Prop
 | here {cs:List V} {H:Own} (h:InA sz u H):Two sz v u (.arr sz v cs::H)
 | there {cs:List V} {H:Own} (h:InA sz v H):Two sz v u (.arr sz u cs::H)
 | next {e:Ent} {H:Own} (h:Two sz v u H):Two sz v u (e::H)
theorem InA.mem {sz:Nat} {u:Value} {H:Own} (h:InA sz u H):∃ cs,Ent.arr sz u cs∈H:=by
 induction h with
 | here=>exact ⟨_,List.mem_cons_self ..⟩
 | next _ ih=>obtain ⟨cs,h⟩:=ih;exact ⟨cs,List.mem_cons_of_mem _ h⟩
theorem SeqD.opP {ops:Array Oper} {K:Env->Own->Prop} {e:Env} {o:Oper} {rest:List Oper} (hg:o.guard=none) (h:side P o (opd e)/\SeqD P ops K rest (putO e o.dst (val P o (opd e))) H):SeqD P ops K (o::rest) e H:=SeqD.op hg (SeqD.one h.1 h.2)
end
end
end Go.Proofs.YtgekknefphagbaaGreatDoor
