/- Appends of zeros; two rows that are owned do not overlap. No statement of the program. -/
import Derived.Test.YtgekknefphagbaaGreatDoorEzx
import Derived.Test.YtgekknefphagbaaGreatDoorEqx
import Derived.Lib.Overlaps
import Derived.Shelf.Strings.Split
import Derived.Test.YtgekknefphagbaaGreatDoorProg
namespace Go.Proofs.YtgekknefphagbaaGreatDoor
open Go.RowKit
set_option linter.unusedSimpArgs false
set_option linter.unusedVariables false
set_option linter.unusedSectionVars false
section
section
variable {P:Program} {o:Oper} {f:Operand->V} {H:Own} {K:V->Own->Prop}
def AppZ (P:Program) (sT xT:TypeId) (n:Nat) (m:Int):Prop:=(ty P sT).kind=4/\(ty P (ty P sT).elem).kind≠0/\(ty P (ty P sT).elem).kind≠11/\(ty P xT).ik=some .i64/\0<(ty P (ty P sT).elem).size /\
 (ty P (ty P sT).elem).zero.length=(ty P (ty P sT).elem).size/\(n+m.toNat) * (ty P (ty P sT).elem).bytes<=140737488355328/\n+m.toNat<=4611686018427387904
theorem DOp.appsubz_ {s x:Operand} {sT xT:TypeId} {v:Value} {sz lo n:Nat} {kk:IntKind} {m:Int} (hop:o.op = .call { callee:=.builtin .append,args:=#[s,x],argTypes:=#[sT,xT] }) (hfs:f s = .sub sz v lo n) (hfx:f x = .int kk m)
  (h:OnA H v fun z cs _=>(z=sz/\sz=(ty P (ty P sT).elem).size/\lo * sz+n * sz<=cs.length/\AppZ P sT xT n m/\0<m/\(capI v:Int)<lo+n+m)/\∀ v',K (.ar v' (n+m.toNat)) (.arr sz v' ((cs.drop (lo * sz)).take (n * sz)++List.replicate (m.toNat * sz) .any)::H)):DOp P o f H K:=by
 obtain ⟨z,cs,L1,L2,rfl,⟨hzz,hsz,hf,hA,hm0,hcp⟩,hk⟩:=h
 have hzz:=hzz.symm
 subst hzz
 generalize hE:(ty P sT).elem=E at *
 refine DOp.step fun a w hs hr=>?_
 have hvs:=hr s kxb6
 rw [hfs] at hvs
 generalize hvv:a.eval s=u at hvs
 cases hvs with
 | sub sz A N cap lo n hc ha =>
 obtain ⟨hA0,hA1,hA2,hA3,hA6,hA7,hA8,hA9⟩:=hA
 rw [hE] at hA1 hA2 hA6 hA7 hA8
 rw [<-hsz] at hA6 hA7
 obtain ⟨mm,rfl⟩:∃ mm:Nat,m=mm:=⟨m.toNat,by omega⟩
 have hcp:(cap:Int)<lo+n+mm:=hcp
 have hcp:cap - lo<n+mm:=by omega
 simp only [Int.toNat_natCast] at hA8 hA9 hk
 have hxv:a.eval x = .int kk mm:=by
  have:=hr x kxb6
  rw [hfx] at this
  generalize a.eval x=y at this ⊢
  cases this;rfl
 have hu:=zaT hA0
 rw [hE] at hu
 have hEsz:∀ w,(sizeOf E).run P w = .ok sz w:=fun w=>by rw [za4 hA1 hA2,<-hsz]
 have hdx:=zgB (P:=P) hA3
 have hfit:¬ n+mm<=cap - lo:=by omega
 have hneed:cap - lo<n+mm:=by omega
 have hgrow:=growslice_fits hneed hA8
 obtain ⟨i,d',hi,_,_,_,hby,hz⟩:=zcF (t:=E) rfl hA1 hA2
 cases hzz:i.zero with
 | none=>rw [hzz] at hz;simp [hz] at hA7;omega
 | some z =>
  obtain ⟨zr1,zr2⟩:=zdf (P:=P) (S:=stable w (L1 ++ .arr sz (.slice A N cap) cs::L2)) (w:=w) hi hzz hz
  have hzr:∀ w,(zeroValue E).run P w = .ok z w:=fun w=>by simp [zeroValue,typeInfo,program,Sem.run,hi,hzz]
  have hti:∀ w,(typeInfo E).run P w = .ok i w:=fun w=>by simp [typeInfo,program,Sem.run,hi]
  have hdr:=hs.drew
  obtain ⟨olds,o1,o2,o3⟩:=zkA (P:=P) (n:=n) (H:=L1 ++ .arr sz (.slice A N cap) cs::L2) hdr.1 n (Nat.le_refl _) hf
  have hcl:((cs.drop (lo * sz)).take (n * sz)).length=n * sz:=by rw [List.length_take,List.length_drop];omega
  have hge:=grownCap_ge w (n+mm) (cap - lo) E
  generalize hcapn:grownCap w (n+mm) (cap - lo) E=newCap at *
  have hrest:=size_zeroCells z.cells (newCap - (n+mm))
  generalize hrs:Builtin.zeroCells z.cells (newCap - (n+mm))=rest at *
  have hzc:z.cells.size=sz:=zr1.trans hA7
  have hnews:=size_zeroCells z.cells mm
  generalize hns:Builtin.zeroCells z.cells mm=news' at *
  have hsize:(olds.toArray++news'++rest).size=newCap * sz:=by
   simp only [Array.size_append,List.size_toArray,o2,hnews,hrest,hzc,<-Nat.add_mul]
   congr 1;omega
  have hmul:n * sz+mm * sz<=newCap * sz:=by rw [<-Nat.add_mul];exact Nat.mul_le_mul_right _ hge
  have hv1:∀ j,j<n * sz->(olds.toArray++news'++rest).getD j undef=olds.getD j undef:=fun j hj=>by
   simp only [Array.getD_eq_getD_getElem?,List.getD_eq_getElem?_getD]
   rw [Array.append_assoc,Array.getElem?_append_left (by simp;omega)]
   simp
  generalize hA:olds.toArray++news'++rest=row at *
  have hsw:=hs.add (w':=w.drew.alloc (.cells row E)) (e1:=.arr sz (.slice (some ⟨w.heap.size,0,none⟩) (n+mm) newCap) ((cs.drop (lo * sz)).take (n * sz)++List.replicate (mm * sz) .any)) rfl rfl rfl (by simp) (fun b hb=>Below.heap_alloc w.drew _ b hb)
   (fun b h=>Nat.le_of_eq h.1.symm) (fun hst=>⟨hge,by rw [List.length_append,hcl,List.length_replicate,Nat.add_mul],fun _=>⟨rfl,row,E,(0,0),heap_alloc_new w.drew _,⟨.inl rfl,fun _=>rfl⟩,by simp only [hsize,Nat.zero_add];exact Nat.le_refl _,fun k hk=>by
     rw [List.length_append,hcl,List.length_replicate] at hk
     simp only [Nat.zero_add]
     by_cases hkc:k<n * sz
     · rw [hv1 k hkc,List.getD_eq_getElem?_getD (l:=(cs.drop (lo * sz)).take (n * sz)++List.replicate (mm * sz) V.any),List.getElem?_append_left (by omega),<-List.getD_eq_getElem?_getD]
       exact (o3 k hkc).mono hst
     · rw [List.getD_eq_getElem?_getD (l:=(cs.drop (lo * sz)).take (n * sz)++List.replicate (mm * sz) V.any),List.getElem?_append_right (by omega),hcl,List.getElem?_replicate,if_pos (by omega)]
       exact .any _⟩⟩)
  refine ⟨.slice (some ⟨w.heap.size,0,none⟩) (n+mm) newCap,w.drew.alloc (.cells row E), .ar _ (n+mm),_,?_,hsw, .ar _ _ _ hge (fun h=>nomatch h),hk _⟩
  unfold execOp
  rw [hop]
  have hg2:¬ 281474976710656<Builtin.nextslicecap (n+mm) (cap - lo) * i.bytes:=by rw [<-hby];omega
  have hzd:(zeroValue E).run P w.drew = .ok z w.drew:=hzr w.drew
  have htd:(typeInfo E).run P w.drew = .ok i w.drew:=hti w.drew
  have hask:(askRoom (newCap * i.bytes)).run P w.drew = .ok () w.drew:=by unfold askRoom;split<;>rfl
  unfold grownCap at hcapn
  revert o1 hvv
  generalize (if cap=lo then A else A.map (·.add (lo * sz)))=base
  intro hvv o1
  have hwr:IntKind.i64.wrap (mm:Int)=mm:=by rw [IntKind.wrap_i64]<;>omega
  have hneg:¬ ((mm:Int)<0):=by omega
  have hb48:¬ (281474976710656<(mm:Int) * (i.bytes:Int)):=by
   rw [<-Int.natCast_mul]
   have:mm * i.bytes<=(n+mm) * i.bytes:=Nat.mul_le_mul_right _ (by omega)
   rw [<-hby] at this ⊢
   omega
  have hns0:¬ (mm * sz=0):=Nat.mul_ne_zero (by omega) (by omega)
  have h63:¬ (9223372036854775807<((n:Int)+(mm:Int))):=by omega
  simp [resolve,invoke,Go.builtin,Builtin.append_,hvv,hxv,run_underlying hu,run_underlying hdx,hEsz,asInt,asIntOf,hwr,hneg,hb48,hns0,h63,hfit,hti,hg2,Question.forced,hcapn,hask,o1,hzd,hns,hrs,newRow]
  rw [<-hA,Array.append_assoc]
inductive InA (sz:Nat) (u:Value):Own->Prop
 | here {cs:List V} {H:Own}:InA sz u (.arr sz u cs::H)
 | next {e:Ent} {H:Own} (h:InA sz u H):InA sz u (e::H)
inductive Two (sz:Nat) (v u:Value):Own->Prop
 | here {cs:List V} {H:Own} (h:InA sz u H):Two sz v u (.arr sz v cs::H)
 | there {cs:List V} {H:Own} (h:InA sz v H):Two sz v u (.arr sz u cs::H)
 | next {e:Ent} {H:Own} (h:Two sz v u H):Two sz v u (e::H)
theorem InA.mem {sz:Nat} {u:Value} {H:Own} (h:InA sz u H):∃ cs,Ent.arr sz u cs∈H:=by
 induction h with
 | here=>exact ⟨_,List.mem_cons_self ..⟩
 | next _ ih=>obtain ⟨cs,h⟩:=ih;exact ⟨cs,List.mem_cons_of_mem _ h⟩
theorem SeqD.opP {ops:Array Oper} {K:Env->Own->Prop} {e:Env} {o:Oper} {rest:List Oper} (hg:o.guard=none) (h:side P o (opd e)/\SeqD P ops K rest (putO e o.dst (val P o (opd e))) H):SeqD P ops K (o::rest) e H:=SeqD.op hg (SeqD.one h.1 h.2)
end
end
section
open Go.Shelf Go.RowKit
def laySplit_ren:Go.Shelf.Ren:=⟨fun | 146=>173 | 221=>231 | 268=>263 | 138=>264 | 143=>265 | 195=>284 | 197=>285 | 218=>286 | 219=>287 | 260=>295 | 217=>296 | 225=>297 | 224=>298 | 267=>299 | 266=>301 | 314=>302 | n=>n,fun | 9=>9 | 31=>36 | 3=>3 | 4=>4 | 0=>0 | 105=>302 | 21=>21 | 5=>5 | 46=>221 | 119=>342 | 139=>345 | 138=>344 | 146=>351 | 51=>281 | n=>n,fun | 1=>3 | 3=>1 | 4=>2 | n=>n⟩
theorem zkF:Go.Proofs.Lays.n146 Tryz.prog laySplit_ren:={
 mixed:=by kernel_rfl
 f138:=Tryz.func264.trans (congrArg some (by kernel_rfl))
 f143:=Tryz.func265.trans (congrArg some (by kernel_rfl))
 f146:=Tryz.func173.trans (congrArg some (by kernel_rfl))
 f195:=Tryz.func284.trans (congrArg some (by kernel_rfl))
 f197:=Tryz.func285.trans (congrArg some (by kernel_rfl))
 f217:=Tryz.func296.trans (congrArg some (by kernel_rfl))
 f218:=Tryz.func286.trans (congrArg some (by kernel_rfl))
 f219:=Tryz.func287.trans (congrArg some (by kernel_rfl))
 f221:=Tryz.func231.trans (congrArg some (by kernel_rfl))
 f224:=Tryz.func298.trans (congrArg some (by kernel_rfl))
 f225:=Tryz.func297.trans (congrArg some (by kernel_rfl))
 f260:=Tryz.func295.trans (congrArg some (by kernel_rfl))
 f266:=Tryz.func301.trans (congrArg some (by kernel_rfl))
 f267:=Tryz.func299.trans (congrArg some (by kernel_rfl))
 f268:=Tryz.func263.trans (congrArg some (by kernel_rfl))
 f314:=Tryz.func302.trans (congrArg some (by kernel_rfl))
 t0:=Tryz.underlying0
 a0:=Tryz.isAgg0
 z0:=Tryz.sizeOf0
 v0:=Tryz.zeroValue0
 t3:=Tryz.underlying3
 a3:=Tryz.isAgg3
 z3:=Tryz.sizeOf3
 v3:=Tryz.zeroValue3
 t4:=Tryz.underlying4
 a4:=Tryz.isAgg4
 z4:=Tryz.sizeOf4
 v4:=Tryz.zeroValue4
 t5:=Tryz.underlying5
 a5:=Tryz.isAgg5
 z5:=Tryz.sizeOf5
 v5:=Tryz.zeroValue5
 t9:=Tryz.underlying9
 a9:=Tryz.isAgg9
 z9:=Tryz.sizeOf9
 v9:=Tryz.zeroValue9
 t21:=Tryz.underlying21
 a21:=Tryz.isAgg21
 z21:=Tryz.sizeOf21
 v21:=Tryz.zeroValue21
 t31:=Tryz.underlying36
 a31:=Tryz.isAgg36
 z31:=Tryz.sizeOf36
 v31:=Tryz.zeroValue36
 t46:=Tryz.underlying221
 a46:=Tryz.isAgg221
 z46:=Tryz.sizeOf221
 v46:=Tryz.zeroValue221
 t51:=Tryz.underlying281
 a51:=Tryz.isAgg281
 z51:=Tryz.sizeOf281
 v51:=Tryz.zeroValue281
 t105:=Tryz.underlying302
 a105:=Tryz.isAgg302
 z105:=Tryz.sizeOf302
 v105:=Tryz.zeroValue302
 t119:=Tryz.underlying342
 a119:=Tryz.isAgg342
 z119:=Tryz.sizeOf342
 t138:=Tryz.underlying344
 a138:=Tryz.isAgg344
 z138:=Tryz.sizeOf344
 v138:=Tryz.zeroValue344
 t139:=Tryz.underlying345
 a139:=Tryz.isAgg345
 z139:=Tryz.sizeOf345
 v139:=Tryz.zeroValue345
 t146:=Tryz.underlying351
 a146:=Tryz.isAgg351
 z146:=Tryz.sizeOf351
 v146:=Tryz.zeroValue351
 g1:=by kernel_rfl
 g3:=by kernel_rfl
 g4:=by kernel_rfl }
end
end Go.Proofs.YtgekknefphagbaaGreatDoor
