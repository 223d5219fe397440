/- Lists and made slices whose elements are owned. No statement of the program. -/
import Derived.Test.YtgekknefphagbaaGreatDoorEm
namespace Go.Proofs.YtgekknefphagbaaGreatDoor
open Go.RowKit
set_option linter.unusedSimpArgs false
set_option linter.unusedVariables false
set_option linter.unusedSectionVars false
set_option maxHeartbeats 2000000
section
variable {P:Program}
theorem znw {o:Oper} {f:Operand->V} {H:Own} {t:TypeId} {n:Nat} {parts:Array (Nat×Operand)} (hop:o.op = .buildSlice t n parts) (h:side P o f) {a:Act} {w:World} (hs:Sim w H) (hr:∀ x,x∈o.op.operands->R (stable w H) w (a.eval x) (f x)) :
  ∃ ys E,(execOp a.eval o).run P w = .ok (.value (.slice (some ⟨w.heap.size,0,none⟩) n n)) (w.alloc (.cells ys E))/\ys.size=n * (ty P (ty P t).elem).size/\(zdM (fun i=>some (i * (ty P (ty P t).elem).size,(ty P (ty P t).elem).size)) ((List.replicate n (ty P (ty P t).elem).zero).flatten) (parts.toList.map fun (i,x)=>(i,f x))).length=n * (ty P (ty P t).elem).size/\∀ k,k<(zdM (fun i=>some (i * (ty P (ty P t).elem).size,(ty P (ty P t).elem).size)) ((List.replicate n (ty P (ty P t).elem).zero).flatten) (parts.toList.map fun (i,x)=>(i,f x))).length->R (stable w H) w (ys.getD k undef) ((zdM (fun i=>some (i * (ty P (ty P t).elem).size,(ty P (ty P t).elem).size)) ((List.replicate n (ty P (ty P t).elem).zero).flatten) (parts.toList.map fun (i,x)=>(i,f x))).getD k .any):=by
 unfold side at h
 rw [hop] at h
 simp only at h
 obtain ⟨h1,h2,h3,h4,h5,h6,h7,h8⟩:=h
 generalize hE:(ty P t).elem=E at *
 have hsz0:(ty P E).size=(ty P E).size:=rfl
 obtain ⟨i,d,hi,_,_,hsz,_,hz⟩:=zcF (t:=E) rfl h2 h3
 cases hzz:i.zero with
 | none=>rw [hzz] at hz;simp [hz] at h5;omega
 | some z =>
  obtain ⟨z1,z2⟩:=zdf (S:=stable w H) (w:=w) hi hzz hz
  have hzn:z.cells.size=(ty P E).size:=z1.trans h5
  have hlen:((List.replicate n (ty P E).zero).flatten).length=n * (ty P E).size:=by simp [h5]
  have hmod:∀ k,k<n * (ty P E).size->((List.replicate n (ty P E).zero).flatten).getD k .any=(ty P E).zero.getD (k%(ty P E).size) .any:=fun k hk=>by
   have:=zhB (ty P E).zero n k (by rw [h5];exact hk)
   rwa [h5] at this
  obtain ⟨ys,e1,e2,e3,e4⟩:=zeG (S:=stable w H) (w:=w) (fun i=>some (i * (ty P E).size,(ty P E).size)) (parts.toList.map fun (i,x)=>(i,a.eval x)) (parts.toList.map fun (i,x)=>(i,f x))
   ((Array.range (n * (ty P E).size)).map (z.cells[· % z.cells.size]!)) ((List.replicate n (ty P E).zero).flatten) (by simp)
   (fun k hk=>by
     simp only [List.length_map,Array.length_toList] at hk
     have hin:parts[k].2∈o.op.operands:=by
      rw [hop]
      simp [Op.operands]
      exact ⟨parts[k].1,Array.getElem_mem hk⟩
     have:=hr _ hin
     simpa [List.getD_eq_getElem?_getD,hk] using this) (by simp [hlen]) (fun k hk=>by
     rw [hlen] at hk
     rw [hmod k hk]
     have hm:k%(ty P E).size<(ty P E).size:=Nat.mod_lt _ h6
     have:=z2 (k%(ty P E).size) (by omega)
     have e:((Array.range (n * (ty P E).size)).map (z.cells[· % z.cells.size]!)).getD k undef=z.cells.getD (k%(ty P E).size) undef:=by
      simp [Array.getD_eq_getD_getElem?,hk,hzn]
      rw [getElem!_pos z.cells _ (by omega)]
      have:k%(ty P E).size<z.cells.size:=by omega
      simp [this]
     rw [e];exact this) h8
  have hm:=hs.new (.cells ys E)
  have hlen2:=e3.trans hlen
  refine ⟨ys,E,?_,by rw [hsz0,e2,hlen2],?_⟩
  · have hzr:(zeroValue E).run P w = .ok z w:=by simp [zeroValue,typeInfo,program,Sem.run,hi,hzz]
    unfold execOp
    rw [hop]
    simp only [Sem.run_bind]
    have:(Instr.buildSlice t n (parts.map fun (i,x)=>(i,a.eval x))).run P w = .ok (.slice (some ⟨w.heap.size,0,none⟩) n n) (w.alloc (.cells ys E)):=by
     unfold Instr.buildSlice
     have hu:=zaT h1
     rw [hE] at hu
     simp only [Sem.run_bind,run_underlying hu,Result.andThen,za4 h2 h3]
     rw [if_neg (by omega)]
     by_cases h0:n * (ty P E).size=0
     · rw [if_pos h0]
       rw [h0] at e1 ⊢
       rw [Sem.run_bind]
       simp only [Sem.run_pure,Result.andThen]
       rw [show ((Array.range 0).map ((#[]:Array Value)[· % (#[]:Array Value).size]!))=((Array.range 0).map (z.cells[· % z.cells.size]!)) from by simp]
       simp only [Array.toList_map]
       rw [e1]
       simp [newRow]
     · rw [if_neg h0]
       simp only [Sem.run_bind,hzr,Sem.run_pure,Result.andThen,Array.toList_map]
       rw [e1]
       simp [newRow]
    rw [this]
    rfl
  · exact ⟨hlen2,e4⟩
theorem DOp.lista_ {o:Oper} {f:Operand->V} {H:Own} {K:V->Own->Prop} {t:TypeId} {n:Nat} {parts:Array (Nat×Operand)} (arr:List Nat) (hd:o.dst.any (fun d=>arr.contains d)=true) (hop:o.op = .buildSlice t n parts)
  (h:side P o f/\∀ v,K (.ar v n) (.arr (ty P (ty P t).elem).size v (zdM (fun i=>some (i * (ty P (ty P t).elem).size,(ty P (ty P t).elem).size)) ((List.replicate n (ty P (ty P t).elem).zero).flatten) (parts.toList.map fun (i,x)=>(i,f x)))::H)):DOp P o f H K:=by
 obtain ⟨hsd,h⟩:=h
 refine DOp.step fun a w hs hr=>?_
 obtain ⟨ys,E,h1,h2,h3,h4⟩:=znw hop hsd hs hr
 have hx:=hs.add (w':=w.alloc (.cells ys E)) (e1:=.arr (ty P (ty P t).elem).size (.slice (some ⟨w.heap.size,0,none⟩) n n) (zdM (fun i=>some (i * (ty P (ty P t).elem).size,(ty P (ty P t).elem).size)) ((List.replicate n (ty P (ty P t).elem).zero).flatten) (parts.toList.map fun (i,x)=>(i,f x)))) rfl rfl rfl (by simp) (fun b hb=>Below.heap_alloc w _ b hb) (fun b hb=>Nat.le_of_eq hb.1.symm) (fun hst =>
  ⟨Nat.le_refl _,h3,fun _=>⟨rfl,ys,E,(0,0),heap_alloc_new w _,⟨.inl rfl,fun _=>rfl⟩,by simp only [h2,Nat.zero_add];exact Nat.le_refl _,fun k hk=>by simp only [Nat.zero_add];exact (h4 k hk).mono hst⟩⟩)
 exact ⟨_,_, .ar (.slice (some ⟨w.heap.size,0,none⟩) n n) n,_,h1,hx, .ar _ _ _ (Nat.le_refl _) (fun h=>nomatch h),h _⟩
end
end Go.Proofs.YtgekknefphagbaaGreatDoor
namespace Go.Proofs.YtgekknefphagbaaGreatDoor
open Go.RowKit
set_option linter.unusedSimpArgs false
set_option linter.unusedVariables false
set_option linter.unusedSectionVars false
set_option maxHeartbeats 2000000
theorem zpZ {y:V} (h:isU8 y=true):y.cs=[y]/\y.n=1:=by
 cases y<;>first | exact ⟨rfl,rfl⟩ | (simp [isU8] at h)
theorem zl3:∀ cs:List V,cs.all isU8=true->cells cs=cs
 | [],_=>rfl
 | y::cs,h=>by
  rw [List.all_cons,Bool.and_eq_true] at h
  rw [zbc,zl3 cs h.2,(zpZ h.1).1];rfl
section
variable {P:Program} {o:Oper} {f:Operand->V} {H:Own} {K:V->Own->Prop}
end
end Go.Proofs.YtgekknefphagbaaGreatDoor
namespace Go.Proofs.YtgekknefphagbaaGreatDoor
open Go.RowKit
set_option linter.unusedSimpArgs false
set_option linter.unusedVariables false
set_option linter.unusedSectionVars false
set_option maxHeartbeats 2000000
def capI:Value->Nat
 | .slice _ _ cap=>cap
 | _=>0
theorem zhx:loN none=0:=rfl
theorem zjF (k:IntKind) (n:Int):loN (some (.int k n))=n.toNat:=rfl
theorem zh0 (n:Nat):hiN n none=n:=rfl
theorem zjX (n:Nat) (k:IntKind) (m:Int):hiN n (some (.int k m))=m.toNat:=rfl
attribute [push_cast] zhx zjF zh0 zjX
section
variable {P:Program}
theorem zm0 {w:World} {L1 L2:Own} {sz bb bo n cap:Nat} {cs ds:List V} {news:List Value} {off:Nat} (hs:Sim w (L1 ++ .arr sz (.slice (some ⟨bb,bo,none⟩) n cap) cs::L2)) (hcz:cap≠0)
  (hl:news.length=ds.length) (hf:off+ds.length<=cs.length) (hr:∀ j,j<ds.length->R (stable w (L1 ++ .arr sz (.slice (some ⟨bb,bo,none⟩) n cap) cs::L2)) w (news.getD j undef) (ds.getD j .any)) (h1:∀ u∈news,u.oneCell'=true) :
  (storeCells ⟨bb,bo+off,none⟩ news).run P w = .ok () (w.setCells bb (bo+off) news) /\
  (Sim (w.setCells bb (bo+off) news) (L1 ++ .arr sz (.slice (some ⟨bb,bo,none⟩) n cap) (layV cs off ds)::L2)/\Ext w (L1 ++ .arr sz (.slice (some ⟨bb,bo,none⟩) n cap) cs::L2) (w.setCells bb (bo+off) news) (L1 ++ .arr sz (.slice (some ⟨bb,bo,none⟩) n cap) (layV cs off ds)::L2)):=by
 obtain ⟨s0,hnc,hln,xs,T,fr,g1,g2,g3,g4,g5,g6⟩:=zcU hs hcz
 simp only at g1 g2 g3 g4 g5
 have hrun:=run_storeCells_cells (P:=P) bb (bo+off) news 0 w (fun j hj=>by
  rw [Nat.add_zero,(g5 (bo+off+j) (by omega) (by omega)).1];rfl) (fun j hj=>by
  rw [Nat.add_zero];exact (g5 (bo+off+j) (by omega) (by omega)).2) h1
 rw [Nat.add_zero] at hrun
 obtain ⟨ys,y1,y2,y3⟩:=zcg bb news (bo+off) w xs T fr g1 (by omega)
 obtain ⟨r1,r2,r3⟩:=zbQ bb news (bo+off) w
 obtain ⟨l1,l2⟩:=zkT cs ds off (by omega)
 refine ⟨hrun,Sim.swap hs (e1:=.arr sz (.slice (some ⟨bb,bo,none⟩) n cap) (layV cs off ds)) r1 r2 r3 kxcc (fun k hk hn=>zbE bb _ _ _ k fun e=>hn ⟨e,hcz⟩) (fun q hq hn=>World.cell?_setCells_out bb _ _ _ q fun e1 e2=>by
   have hn':¬ (q.block=bb/\bo<=q.off/\q.off<bo+cap * sz):=hn
   omega)
  (fun k h=>.inl h) (fun q h=>.inl h) (fun hst=>?_)⟩
 refine ⟨hnc,by rw [l1];exact hln,fun _=>⟨rfl,ys,T,fr,y1,g2,by rw [y2];exact g3,fun k hk=>?_⟩⟩
 simp only
 rw [y3 (bo+k),l2 k]
 rw [l1] at hk
 by_cases hk':off<=k/\k<off+ds.length
 · rw [if_pos hk',if_pos (by omega)]
   have:=(hr (k - off) (by omega)).mono hst
   rwa [show bo+k - (bo+off)=k - off by omega]
 · rw [if_neg hk',if_neg (by omega)]
   exact (g4 k hk).mono hst
theorem zoZ {w:World} {L1 L2:Own} {sz n cap:Nat} {p:Addr} {cs:List V} (hs:Sim w (L1 ++ .arr sz (.slice (some p) n cap) cs::L2)) (hcz:cap≠0) (off m:Nat) (hf:off+m<=cs.length) :
  ∃ olds:List Value,olds.length=m/\(∀ j v,olds[j]? = some v->w.cell? ⟨p.block,p.off+off+j,none⟩=some v)/\∀ j,j<m->R (stable w (L1 ++ .arr sz (.slice (some p) n cap) cs::L2)) w (olds.getD j undef) (cs.getD (off+j) .any):=by
 obtain ⟨s0,hnc,hl,ys,T,fr,g1,g2,g3,g4,g5,g6⟩:=zcU hs hcz
 refine ⟨(List.range m).map fun j=>zbb w ⟨p.block,p.off+off+j,none⟩,by simp,fun j u hj=>?_,fun j hj=>?_⟩
 · have hj':j<m:=by
    have:=(List.getElem?_eq_some_iff.1 hj).1
    simpa using this
   rw [List.getElem?_map] at hj
   simp [hj'] at hj
   rw [<-hj,zbb,(g5 (p.off+off+j) (by omega) (by omega)).1];rfl
 · have:=g4 (off+j) (by omega)
   have e:zbb w ⟨p.block,p.off+off+j,none⟩=ys.getD (p.off+(off+j)) undef:=by rw [zbb,(g5 (p.off+off+j) (by omega) (by omega)).1,Nat.add_assoc];rfl
   simpa [List.getD_eq_getElem?_getD,hj,e] using this
theorem zgq {w:World} {L1 L2:Own} {sz n cap:Nat} {p:Option Addr} {cs:List V} (hs:Sim w (L1 ++ .arr sz (.slice p n cap) cs::L2)) (h:0<cs.length):cap≠0/\∃ q,p=some q:=by
 have hh:=hs.holds (.arr sz (.slice p n cap) cs) (by simp)
 cases p with
 | none=>obtain ⟨_,_,h0⟩:=hh;rw [h0] at h;exact absurd h (Nat.lt_irrefl _)
 | some q =>
  obtain ⟨q1,q2,_⟩:=hh
  refine ⟨fun e=>?_,q,rfl⟩
  have hn0:n=0:=by omega
  rw [hn0,Nat.zero_mul] at q2
  omega
theorem zm6 {S:Addr->Prop} {w:World} {vs:List Value} {ds:List V} (hl:vs.length=ds.length) (hr:∀ j,j<ds.length->R S w (vs.getD j undef) (ds.getD j .any)) (ho:ds.all V.one=true):∀ u∈vs,u.oneCell'=true:=by
 intro u hu
 obtain ⟨j,hj,rfl⟩:=List.getElem_of_mem hu
 have h:=hr j (by omega)
 have hj':j<ds.length:=by omega
 rw [show ds.getD j .any=ds[j] by simp [List.getD_eq_getElem?_getD,hj'],show vs.getD j undef=vs[j] by simp [List.getD_eq_getElem?_getD,hj]] at h
 exact ze3 h (List.all_eq_true.1 ho _ (List.getElem_mem hj'))
end
section
variable {P:Program} {o:Oper} {f:Operand->V} {H:Own} {K:V->Own->Prop}
theorem bnd_run {a:Act} {w:World} {S:Addr->Prop} {lo hi:Option Operand} {t:TypeId} {x:Operand} (hop:o.op = .slice t x lo hi none) (hr:∀ x,x∈o.op.operands->R S w (a.eval x) (f x)) {n c:Nat} (isS:Bool) (hnc:n<=c) (hb:bndS n (lo.map f) (hi.map f)) :
  (Instr.sliceBounds isS n c (lo.map a.eval) (hi.map a.eval) none).run P w = .ok (loN (lo.map f),hiN n (hi.map f),c) w/\loN (lo.map f)<=hiN n (hi.map f)/\hiN n (hi.map f)<=n:=by
 have iv:∀ y,y∈o.op.operands->∀ k m,f y = .int k m->a.eval y = .int k m:=fun y hy k m he=>by
  have:=hr y hy
  rw [he] at this
  generalize a.eval y=v at this
  cases this
  rfl
 have inlo:∀ y,lo=some y->y∈o.op.operands:=fun y e=>by rw [hop,e];simp [Op.operands]
 have inhi:∀ y,hi=some y->y∈o.op.operands:=fun y e=>by rw [hop,e];simp [Op.operands]
 cases hlo:lo with
 | none =>
  cases hhi:hi with
  | none=>simp [Instr.sliceBounds,loN,hiN]
  | some y =>
   rw [hlo,hhi] at hb
   simp only [Option.map_none,Option.map_some] at hb ⊢
   cases hy:f y with
   | int k m =>
    rw [hy] at hb
    simp only [bndS] at hb
    have:=iv y (inhi y hhi) k m hy
    refine ⟨?_,by simp [loN],by simp only [hiN];omega⟩
    simp [Instr.sliceBounds,this,Instr.sliceBound,asIntOf,loN,hiN,hb.1,show m<=(c:Int) by omega]
   | _=>rw [hy] at hb;exact hb.elim
 | some z =>
  cases hhi:hi with
  | none =>
   rw [hlo,hhi] at hb
   simp only [Option.map_none,Option.map_some] at hb ⊢
   cases hz:f z with
   | int k m =>
    rw [hz] at hb
    simp only [bndS] at hb
    have:=iv z (inlo z hlo) k m hz
    refine ⟨?_,by simp only [loN,hiN];omega,by simp only [hiN];omega⟩
    simp [Instr.sliceBounds,this,Instr.sliceBound,asIntOf,loN,hiN,hb.1,hb.2]
   | _=>rw [hz] at hb;exact hb.elim
  | some y =>
   rw [hlo,hhi] at hb
   simp only [Option.map_some] at hb ⊢
   cases hz:f z with
   | int k m =>
    cases hy:f y with
    | int k' m' =>
     rw [hz,hy] at hb
     simp only [bndS] at hb
     have e1:=iv z (inlo z hlo) k m hz
     have e2:=iv y (inhi y hhi) k' m' hy
     refine ⟨?_,by simp only [loN,hiN];omega,by simp only [hiN];omega⟩
     simp [Instr.sliceBounds,e1,e2,Instr.sliceBound,asIntOf,loN,hiN,hb.1,show 0<=m' by omega,show m'<=(c:Int) by omega,show m<=max m' 0 by omega]
    | _=>rw [hz,hy] at hb;exact hb.elim
   | _=>rw [hz] at hb;revert hb;cases f y<;>intro hb<;>exact hb.elim
theorem DOp.slicea_ {t:TypeId} {x:Operand} {lo hi:Option Operand} {v:Value} {n:Nat} (hop:o.op = .slice t x lo hi none) (hx:f x = .ar v n)
  (h:((ty P t).kind=4/\(ty P (ty P t).elem).kind≠0/\(ty P (ty P t).elem).kind≠11/\bndS n (lo.map f) (hi.map f))/\K (.sub (ty P (ty P t).elem).size v (loN (lo.map f)) (hiN n (hi.map f) - loN (lo.map f))) H):DOp P o f H K:=by
 obtain ⟨⟨h1,h2,h3,h4⟩,hk⟩:=h
 refine DOp.step fun a w hs hr=>?_
 have hv:=hr x kxcl
 rw [hx] at hv
 generalize hva:a.eval x=u at hv
 cases hv with
 | ar A n cap hc ha =>
 obtain ⟨b1,b2,b3⟩:=bnd_run (P:=P) hop hr true hc h4
 refine ⟨_,w,_,_,?_,⟨hs, .refl _ _⟩, .sub (ty P (ty P t).elem).size A n cap (loN (lo.map f)) (hiN n (hi.map f) - loN (lo.map f)) (by omega) ha,hk⟩
 have hu:=zaT h1
 have hrun:(Instr.sliceAt t (a.eval x) (lo.map a.eval) (hi.map a.eval) none).run P w = .ok (.slice (if cap=loN (lo.map f) then A else A.map (·.add (loN (lo.map f) * (ty P (ty P t).elem).size))) (hiN n (hi.map f) - loN (lo.map f)) (cap - loN (lo.map f))) w:=by
  rw [hva]
  simp only [Instr.sliceAt,Instr.slice,Sem.run_bind,run_underlying hu,Result.andThen,b1,za4 h2 h3,Sem.run_pure]
 unfold execOp
 rw [hop]
 simp only [Option.map_none]
 rw [Sem.run_bind,hrun]
 rfl
theorem DOp.capa_ {x:Operand} {T:TypeId} {v:Value} {n:Nat} (hop:o.op = .call { callee:=.builtin .cap,args:=#[x],argTypes:=#[T] }) (hx:f x = .ar v n) (h:(ty P T).kind=4/\(n<=capI v->K (.int .i64 (capI v)) H)):DOp P o f H K:=by
 obtain ⟨h1,hk⟩:=h
 refine DOp.step fun a w hs hr=>?_
 have hv:=hr x kxb6
 rw [hx] at hv
 generalize hva:a.eval x=u at hv
 cases hv with
 | ar A n cap hc ha =>
 refine ⟨.int .i64 cap,w,_,_,?_,⟨hs, .refl _ _⟩, .int _ _,hk hc⟩
 unfold execOp
 rw [hop]
 simp [resolve,invoke,Go.builtin,Builtin.cap_,hva,run_underlying (zaT h1),goInt]
theorem DOp.slicex_ {t:TypeId} {x y:Operand} {v:Value} {n:Nat} {k:IntKind} {m:Int} (hop:o.op = .slice t x none (some y) none) (hx:f x = .ar v n) (hy:f y = .int k m)
  (h:OnA H v fun sz cs C=>(((ty P t).kind=4/\(ty P (ty P t).elem).kind≠0/\(ty P (ty P t).elem).kind≠11)/\(n:Int)<=m/\m<=(capI v:Int))/\∀ v',capI v'=capI v->K (.ar v' m.toNat) (C (.arr sz v' (cs++List.replicate ((m.toNat - n) * sz) .any)))):DOp P o f H K:=by
 obtain ⟨sz,cs,L1,L2,rfl,⟨⟨h1,h2,h3⟩,h4,h5⟩,hk⟩:=h
 refine DOp.step fun a w hs hr=>?_
 have hv:=hr x kxcl
 have hyv:=hr y kxcl
 rw [hx] at hv
 rw [hy] at hyv
 have hye:a.eval y = .int k m:=by generalize a.eval y=u at hyv;cases hyv;rfl
 generalize hva:a.eval x=u at hv
 cases hv with
 | ar A n cap hc ha =>
 have h5:m<=(cap:Int):=h5
 have hrun:(Instr.sliceAt t (a.eval x) none (some (a.eval y)) none).run P w = .ok (.slice A m.toNat cap) w:=by
  have hu:=zaT h1
  rw [hva,hye]
  have hb:(Instr.sliceBounds true n cap none (some (.int k m)) none).run P w = .ok (0,m.toNat,cap) w:=by
   simp [Instr.sliceBounds,Instr.sliceBound,asIntOf,show 0<=m by omega,h5]
  simp only [Instr.sliceAt,Instr.slice,Sem.run_bind,run_underlying hu,Result.andThen,hb,za4 h2 h3,Sem.run_pure,Nat.zero_mul,Nat.sub_zero]
  congr 2
  split
  · rfl
  · cases A with
    | none=>rfl
    | some p=>simp only [Option.map_some];unfold Addr.add;split<;>simp_all
 refine ⟨.slice A m.toNat cap,w, .ar (.slice A m.toNat cap) m.toNat,_,?_,Sim.swap (e1:=.arr sz (.slice A m.toNat cap) (cs++List.replicate ((m.toNat - n) * sz) .any)) hs rfl rfl rfl (Nat.le_refl _) (fun _ _ _=>rfl) (fun _ _ _=>rfl) (fun b h=>?_) (fun q h=>?_) (fun hst=>?_), .ar _ _ _ (by omega) ha,hk (.slice A m.toNat cap) rfl⟩
 · unfold execOp
   rw [hop]
   simp only [Option.map_none,Option.map_some]
   rw [Sem.run_bind,hrun]
   rfl
 · cases A with
   | none=>exact h.elim
   | some p=>exact .inl h
 · cases A with
   | none=>exact h.elim
   | some p=>exact .inl h
 · have hh:=hs.holds (.arr sz (.slice A n cap) cs) (by simp)
   cases A with
   | none =>
    obtain ⟨q1,q2,q3⟩:=hh
    refine ⟨by omega,q2,?_⟩
    rw [q3,show m.toNat - n=0 by omega];simp
   | some p =>
    obtain ⟨q1,q2,q3⟩:=hh
    refine ⟨by omega,?_,fun hcz=>?_⟩
    · rw [List.length_append,List.length_replicate,q2,<-Nat.add_mul];congr 1;omega
    · obtain ⟨s0,xs,T,fr,g1,g2,g3,g4⟩:=q3 hcz
      refine ⟨s0,xs,T,fr,g1,g2,g3,fun j hj=>?_⟩
      by_cases hjc:j<cs.length
      · rw [List.getD_eq_getElem?_getD,List.getElem?_append_left hjc,<-List.getD_eq_getElem?_getD]
        exact (g4 j hjc).mono hst
      · rw [List.getD_eq_getElem?_getD,List.getElem?_append_right (by omega),<-List.getD_eq_getElem?_getD]
        have:(List.replicate ((m.toNat - n) * sz) V.any).getD (j - cs.length) .any = .any:=by
         simp only [List.getD_eq_getElem?_getD,List.getElem?_replicate]
         split<;>rfl
        rw [this];exact .any _
theorem zkA {w:World} {H:Own} {sz:Nat} {A:Option Addr} {N cap lo n:Nat} {cs:List V} {L1 L2:Own} (hs:Sim w (L1 ++ .arr sz (.slice A N cap) cs::L2)) (m:Nat) (hm:m<=n) (hf:lo * sz+m * sz<=cs.length) :
  ∃ olds:List Value,(Builtin.firstCells sz m (.slice (if cap=lo then A else A.map (·.add (lo * sz))) n (cap - lo))).run P w = .ok olds.toArray w/\olds.length=m * sz /\
   ∀ j,j<m * sz->R (stable w (L1 ++ .arr sz (.slice A N cap) cs::L2)) w (olds.getD j undef) (((cs.drop (lo * sz)).take (m * sz)).getD j .any):=by
 by_cases h0:m * sz=0
 · refine ⟨[],?_,by simpa using h0.symm,fun j hj=>by omega⟩
   cases A with
   | none=>cases (Nat.decEq cap lo) with
    | isTrue h=>simp [h,Builtin.firstCells]
    | isFalse h=>simp [h,Builtin.firstCells]
   | some p=>cases (Nat.decEq cap lo) with
    | isTrue h=>simp only [if_pos h];exact run_firstCells_some w sz m _ _ _ [] (by simpa using h0.symm) (by simp)
    | isFalse h=>simp only [if_neg h,Option.map_some];exact run_firstCells_some w sz m _ _ _ [] (by simpa using h0.symm) (by simp)
 · obtain ⟨hcz,p,rfl⟩:=zgq hs (by omega)
   obtain ⟨s0,hnc,hl,_⟩:=zcU hs hcz
   have hlo:¬ cap=lo:=by
    intro e
    have h1:N * sz<=cap * sz:=Nat.mul_le_mul_right _ hnc
    rw [e] at h1
    omega
   obtain ⟨olds,o1,o2,o3⟩:=zoZ hs hcz (lo * sz) (m * sz) hf
   refine ⟨olds,?_,o1,fun j hj=>?_⟩
   · rw [if_neg hlo,Option.map_some]
     refine run_firstCells_some w sz m _ _ _ olds o1 fun j u hj=>?_
     have:=o2 j u hj
     rw [zbn p _ s0,zbn _ j rfl]
     exact this
   · have:=o3 j hj
     have e:((cs.drop (lo * sz)).take (m * sz)).getD j V.any=cs.getD (lo * sz+j) .any:=by
      rw [List.getD_eq_getElem?_getD,List.getElem?_take,if_pos hj,List.getElem?_drop,<-List.getD_eq_getElem?_getD]
     rw [e]
     exact this
theorem zn8 {w:World} {sz:Nat} {A:Option Addr} {N cap lo:Nat} {cs ds:List V} {L1 L2:Own} {news:List Value} (hs:Sim w (L1 ++ .arr sz (.slice A N cap) cs::L2)) (hl:news.length=ds.length) (hf:lo * sz+ds.length<=cs.length)
  (hr:∀ j,j<ds.length->R (stable w (L1 ++ .arr sz (.slice A N cap) cs::L2)) w (news.getD j undef) (ds.getD j .any)) (h1:ds.all V.one=true) {base:Option Addr} (hb:base=if cap=lo then A else A.map (·.add (lo * sz))) :
  ∃ w',(match base with | some a=>storeCells a news | none=>pure ()).run P w = .ok () w'/\(Sim w' (L1 ++ .arr sz (.slice A N cap) (layV cs (lo * sz) ds)::L2)/\Ext w (L1 ++ .arr sz (.slice A N cap) cs::L2) w' (L1 ++ .arr sz (.slice A N cap) (layV cs (lo * sz) ds)::L2)):=by
 by_cases h0:ds.length=0
 · have hd0:ds=[]:=List.eq_nil_of_length_eq_zero h0
   have hn0:news=[]:=List.eq_nil_of_length_eq_zero (by omega)
   subst hd0
   subst hn0
   refine ⟨w,?_,by rw [show layV cs (lo * sz) []=cs from by simp [layV]];exact ⟨hs, .refl _ _⟩⟩
   cases base<;>simp [storeCells]
 · obtain ⟨hcz,p,rfl⟩:=zgq hs (by omega)
   obtain ⟨s0,hnc,hln,_⟩:=zcU hs hcz
   have hlo:¬ cap=lo:=by
    intro e
    have h2:N * sz<=cap * sz:=Nat.mul_le_mul_right _ hnc
    rw [e] at h2
    omega
   obtain ⟨bb,bo,bsp⟩:=p
   simp only at s0
   subst s0
   obtain ⟨e1,e2⟩:=zm0 (P:=P) (off:=lo * sz) hs hcz hl hf hr (zm6 hl hr h1)
   refine ⟨_,?_,e2⟩
   rw [hb,if_neg hlo,Option.map_some]
   simp only
   rw [zbn _ _ rfl]
   exact e1
theorem DOp.copyaa_ {d s:Operand} {T T':TypeId} {sz lo n lo2 n2:Nat} {v v2:Value} (hop:o.op = .call { callee:=.builtin .copy,args:=#[d,s],argTypes:=#[T,T'] }) (hd:f d = .sub sz v lo n) (hs2:f s = .sub sz v2 lo2 n2)
  (h:((ty P T).kind=4/\(ty P (ty P T).elem).kind≠0/\(ty P (ty P T).elem).kind≠11/\(ty P (ty P T).elem).size=sz) /\
    OnA H v2 fun z2 cs2 _=>(z2=sz/\lo2 * sz+min n2 n * sz<=cs2.length/\((cs2.drop (lo2 * sz)).take (min n2 n * sz)).all V.one=true) /\
    OnA H v fun z cs C=>(z=sz/\lo * sz+min n2 n * sz<=cs.length)/\K (.int .i64 (min n2 n:Nat)) (C (.arr sz v (layV cs (lo * sz) ((cs2.drop (lo2 * sz)).take (min n2 n * sz)))))):DOp P o f H K:=by
 obtain ⟨⟨t1,t2,t3,t4⟩,z2,cs2,M1,M2,hM,⟨hz2,h2,h3⟩,z,cs,L1,L2,rfl,⟨hzz,h4⟩,hk⟩:=h
 have hz2:=hz2.symm
 subst hz2
 have hzz:=hzz.symm
 subst hzz
 refine DOp.step fun a w hs hr=>?_
 have hdv:=hr d kxb6
 have hsv:=hr s kxb6
 rw [hd] at hdv
 rw [hs2] at hsv
 generalize hda:a.eval d=u at hdv
 generalize hsa:a.eval s=u2 at hsv
 cases hdv with
 | sub sz A N cap lo n hc ha =>
 cases hsv with
 | sub sz A2 N2 cap2 lo2 n2 hc2 ha2 =>
 have hlen:((cs2.drop (lo2 * sz)).take (min n2 n * sz)).length=min n2 n * sz:=by rw [List.length_take,List.length_drop];omega
 obtain ⟨olds,o1,o2,o3⟩:=zkA (P:=P) (n:=n2) (H:=L1 ++ .arr sz (.slice A N cap) cs::L2) (hM▸hs:Sim w (M1 ++ .arr sz (.slice A2 N2 cap2) cs2::M2)) (min n2 n) (Nat.min_le_left _ _) h2
 rw [<-hM] at o3
 obtain ⟨w',e1,e2⟩:=zn8 (P:=P) (lo:=lo) (ds:=(cs2.drop (lo2 * sz)).take (min n2 n * sz)) (news:=olds) hs (by rw [hlen,o2]) (by rw [hlen];exact h4) (fun j hj=>o3 j (by omega)) h3 rfl
 refine ⟨.int .i64 (min n2 n:Nat),w',_,_,?_,e2, .int _ _,hk⟩
 have hsz:(sizeOf (ty P T).elem).run P w = .ok sz w:=by rw [za4 t2 t3,t4]
 have hmin:Nat.min n2 n=min n2 n:=rfl
 revert e1 hda
 generalize (if cap=lo then A else A.map (·.add (lo * sz)))=base
 intro hda e1
 unfold execOp
 rw [hop]
 simp only [resolve,invoke,Go.builtin,Builtin.copy_]
 cases base with
 | none =>
  obtain rfl:w=w':=by simpa using e1
  simp [hda,hsa,run_underlying (zaT t1),Builtin.lenOf,hsz,hmin,o1,goInt]
 | some b =>
  simp only at e1
  simp [hda,hsa,run_underlying (zaT t1),Builtin.lenOf,hsz,hmin,o1,goInt,e1]
end
end Go.Proofs.YtgekknefphagbaaGreatDoor
namespace Go.Proofs.YtgekknefphagbaaGreatDoor
open Go.RowKit
set_option linter.unusedSimpArgs false
set_option linter.unusedVariables false
set_option linter.unusedSectionVars false
set_option maxHeartbeats 2000000
section
variable {P:Program} {o:Oper} {f:Operand->V} {H:Own} {K:V->Own->Prop}
end
section
variable {P:Program} {n:Nat} {Q:Exit->Env->Own->Prop} {e:Env} {H:Own}
theorem DW.pre_ (t:Nat) {c:Code} {sz m:Nat} {v:Value} (ht:get e t = .sub sz v 0 m) (h:OnA H v fun z cs C=>(z=sz/\m * sz<=cs.length)/\∀ v',DW P n c Q (put e t (.ar v' m)) (C (.arr sz v' (cs.take (m * sz))))):DW P n c Q e H:=by
 obtain ⟨z,cs,L1,L2,rfl,⟨hzz,h1⟩,hk⟩:=h
 have hzz:=hzz.symm
 subst hzz
 intro a w hs hr
 have hv:=hr.slot t
 rw [ht] at hv
 generalize hva:a.tmps.getD t undef=u at hv
 cases hv with
 | sub sz A N cap lo m hc ha =>
 have hh:=hs.holds (.arr sz (.slice A N cap) cs) (by simp)
 have hu:(if cap=0 then A else A.map (·.add (0 * sz)))=A:=by
  by_cases hcz:cap=0
  · rw [if_pos hcz]
  · rw [if_neg hcz,Nat.zero_mul]
    cases A with
    | none=>rfl
    | some p=>simp only [Option.map_some];unfold Addr.add;split<;>simp_all
 have hsw:=Sim.swap (w':=w) (e1:=.arr sz (.slice A m cap) (cs.take (m * sz))) hs rfl rfl rfl (Nat.le_refl _) (fun _ _ _=>rfl) (fun _ _ _=>rfl) (fun b h=>by
  cases A with
  | none=>exact h.elim
  | some p=>exact .inl h) (fun q h=>by
  cases A with
  | none=>exact h.elim
  | some p=>exact .inl h) (fun hst=>by
  cases A with
  | none =>
   obtain ⟨q1,q2,q3⟩:=hh
   refine ⟨by omega,q2,by rw [q3];simp⟩
  | some p =>
   obtain ⟨q1,q2,q3⟩:=hh
   refine ⟨by omega,by rw [List.length_take];omega,fun hcz=>?_⟩
   obtain ⟨s0,xs,T,fr,g1,g2,g3,g4⟩:=q3 hcz
   refine ⟨s0,xs,T,fr,g1,g2,g3,fun j hj=>?_⟩
   rw [List.length_take] at hj
   rw [List.getD_eq_getElem?_getD,List.getElem?_take,if_pos (by omega),<-List.getD_eq_getElem?_getD]
   exact (g4 j (by omega)).mono hst)
 refine wp_mono (hk (.slice A m cap) a w hsw.1 ⟨hr.size,fun u=>?_⟩) fun x a1 w1 ⟨hd,e1,H1,s,r,x1,q⟩=>⟨hd,e1,H1,s,r,hsw.2.trans x1,q⟩
 by_cases hut:u=t
 · subst hut
   rw [zcf,hva,hu,Nat.sub_zero]
   exact .ar _ _ _ (by omega) ha
 · rw [zcR _ _ _ _ hut]
   exact hsw.2.rel (hr.slot u)
theorem DW.preR (id t:Nat) {ops:Array Oper} {d:Bool} {sz m:Nat} {v:Value} (ht:get e t = .sub sz v 0 m) (h:OnA H v fun z cs C=>(z=sz/\m * sz<=cs.length)/\∀ v',DW P n (.region id ops d) Q (put e t (.ar v' m)) (C (.arr sz v' (cs.take (m * sz))))):DW P n (.region id ops d) Q e H:=DW.pre_ t ht h
end
end Go.Proofs.YtgekknefphagbaaGreatDoor
namespace Go.Proofs.YtgekknefphagbaaGreatDoor
open Go.RowKit
set_option linter.unusedSimpArgs false
set_option linter.unusedVariables false
set_option linter.unusedSectionVars false
set_option maxHeartbeats 2000000
section
variable {P:Program} {o:Oper} {f:Operand->V} {H:Own} {K:V->Own->Prop}
end
end Go.Proofs.YtgekknefphagbaaGreatDoor
