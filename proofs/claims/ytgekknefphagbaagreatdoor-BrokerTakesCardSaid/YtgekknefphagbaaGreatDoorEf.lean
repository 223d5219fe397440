/- That the operations that look at no memory that changes yield what val says. No statement of the program. -/
import Derived.Test.YtgekknefphagbaaGreatDoorEa
import Derived.Laws.BytesArg
import Derived.Laws.BytesString
import Derived.Laws.IdiomStrings
import Derived.Laws.Concat
import Derived.Laws.Strings2
import Derived.Laws.IdiomCopy
namespace Go.Proofs.YtgekknefphagbaaGreatDoor
open Go.RowKit
set_option linter.unusedSimpArgs false
set_option linter.unusedVariables false
set_option linter.unusedSectionVars false
section
variable {P:Program} {S:Addr->Prop} {w:World}
theorem ziI (off:Nat):∀ (vs:List Value) (j:Nat) (cs:Array Value),off+j+vs.length<=cs.size ->
  ((vs.zipIdx j).foldl (fun cs (x:Value×Nat)=>cs.setIfInBounds (off+x.2) x.1) cs).size=cs.size /\
  ∀ k,((vs.zipIdx j).foldl (fun cs (x:Value×Nat)=>cs.setIfInBounds (off+x.2) x.1) cs).getD k undef=if off+j<=k/\k<off+j+vs.length then vs.getD (k - (off+j)) undef else cs.getD k undef
 | [],j,cs,h=>by
  refine ⟨rfl,fun k=>?_⟩
  rw [if_neg (by simp<;>omega)]
  rfl
 | v::vs,j,cs,h=>by
  have h':off+(j+1)+vs.length<=(cs.setIfInBounds (off+j) v).size:=by simp at h ⊢;omega
  obtain ⟨g1,g2⟩:=ziI off vs (j+1) (cs.setIfInBounds (off+j) v) h'
  refine ⟨by simpa [List.zipIdx_cons] using g1,fun k=>?_⟩
  have:=g2 k
  simp only [List.zipIdx_cons,List.foldl_cons]
  rw [this]
  simp only [List.length_cons] at h ⊢
  by_cases hk:k=off+j
  · subst hk
    rw [if_neg (by omega),if_pos (by omega)]
    simp [Array.getD_eq_getD_getElem?,Array.getElem?_setIfInBounds]
    rw [if_pos (by omega)];rfl
  · by_cases hk2:off+(j+1)<=k/\k<off+(j+1)+vs.length
    · rw [if_pos hk2,if_pos (by omega)]
      rw [show k - (off+j)=(k - (off+(j+1)))+1 by omega]
      rfl
    · rw [if_neg hk2,if_neg (by omega)]
      simp [Array.getD_eq_getD_getElem?,Array.getElem?_setIfInBounds,Ne.symm hk]
theorem zkT (cs d:List V) (off:Nat) (h:off+d.length<=cs.length):(layV cs off d).length=cs.length/\∀ k,(layV cs off d).getD k .any=if off<=k/\k<off+d.length then d.getD (k - off) .any else cs.getD k .any:=by
 refine ⟨by simp [layV];omega,fun k=>?_⟩
 simp only [layV,List.getD_eq_getElem?_getD,List.append_assoc]
 have hl:(cs.take off).length=off:=by simp;omega
 by_cases h1:k<off
 · rw [List.getElem?_append_left (by omega),List.getElem?_take,if_pos h1,if_neg (by omega)]
 · rw [List.getElem?_append_right (by omega),hl]
   by_cases h2:k<off+d.length
   · rw [List.getElem?_append_left (by omega),if_pos (by omega)]
   · rw [List.getElem?_append_right (by omega),if_neg (by omega),List.getElem?_drop,show off+d.length+(k - off - d.length)=k by omega]
theorem zeG (place:Nat->Option (Nat×Nat)):∀ (parts:List (Nat×Value)) (ds:List (Nat×V)) (xs:Array Value) (cs:List V),parts.length=ds.length ->
  (∀ i,i<ds.length->(parts.getD i (0,undef)).1=(ds.getD i (0, .any)).1/\R S w (parts.getD i (0,undef)).2 (ds.getD i (0, .any)).2) ->
  xs.size=cs.length->(∀ k,k<cs.length->R S w (xs.getD k undef) (cs.getD k .any))->zlc place cs ds ->
  ∃ ys,Instr.fill place xs parts=some ys/\ys.size=(zdM place cs ds).length/\(zdM place cs ds).length=cs.length/\∀ k,k<(zdM place cs ds).length->R S w (ys.getD k undef) ((zdM place cs ds).getD k .any)
 | [],[],xs,cs,_,_,hn,h,_=>⟨xs,rfl,hn,rfl,h⟩
 | (i,v)::parts,(j,d)::ds,xs,cs,hl,hr,hn,h,hs=>by
  have h0:=hr 0 (by simp)
  simp only [List.getD_cons_zero] at h0
  obtain ⟨rfl,hv⟩:=h0
  simp only [zlc] at hs
  cases hp:place i with
  | none=>rw [hp] at hs;exact hs.elim
  | some os =>
   obtain ⟨off,sz⟩:=os
   rw [hp] at hs
   obtain ⟨s1,s2,s3,s4⟩:=hs
   obtain ⟨c1,c2⟩:=hv.solid s1
   have hfit:off+0+v.cells.toList.length<=xs.size:=by simp;omega
   obtain ⟨g1,g2⟩:=ziI off v.cells.toList 0 xs hfit
   obtain ⟨l1,l2⟩:=zkT cs d.cs off (by omega)
   have hz:(v.cells.zipIdx.foldl (fun cs (x:Value×Nat)=>cs.setIfInBounds (off+x.2) x.1) xs)=(v.cells.toList.zipIdx 0).foldl (fun cs (x:Value×Nat)=>cs.setIfInBounds (off+x.2) x.1) xs:=by
    rw [<-Array.foldl_toList,Array.toList_zipIdx]
   obtain ⟨ys,e1,e2,e3,e4⟩:=zeG place parts ds (v.cells.zipIdx.foldl (fun cs (x:Value×Nat)=>cs.setIfInBounds (off+x.2) x.1) xs) (layV cs off d.cs) (by simpa using hl)
    (fun k hk=>by have:=hr (k+1) (by simpa using hk);simpa using this) (by rw [hz,g1,l1];exact hn) (fun k hk=>by
      rw [hz,g2 k,l2 k]
      simp only [Array.length_toList,Nat.add_zero]
      by_cases hk':off<=k/\k<off+v.cells.size
      · rw [if_pos hk',if_pos (by omega)]
        have:=c2 (k - off) (by omega)
        simpa [Array.getD_eq_getD_getElem?,List.getD_eq_getElem?_getD] using this
      · rw [if_neg hk',if_neg (by omega)]
        exact h k (by omega)) s4
   refine ⟨ys,?_,by simpa [zdM,hp] using e2,by simpa [zdM,hp,l1] using e3,by simpa [zdM,hp] using e4⟩
   simp only [Instr.fill,hp]
   rw [if_neg (by simp;omega)]
   exact e1
 | [],_::_,_,_,hl,_,_,_,_=>by simp at hl
 | _::_,[],_,_,hl,_,_,_,_=>by simp at hl
theorem zdf {t:TypeId} {z:Value} {i:TypeInfo} (h:P.info? t=some i) (hz:i.zero=some z) (hT:(ty P t).zero=(i.zero.map (·.cells.toList.map zby)).getD []) :
  z.cells.size=(ty P t).zero.length/\∀ k,k<(ty P t).zero.length->R S w (z.cells.getD k undef) ((ty P t).zero.getD k .any):=by
 rw [hT,hz]
 simp only [Option.map_some,Option.getD_some,List.length_map,Array.length_toList]
 refine ⟨(by first | rfl | trivial),fun k hk=>?_⟩
 have:=R.const1 S w z.cells[k]
 simpa [Array.getD_eq_getD_getElem?,List.getD_eq_getElem?_getD,hk] using this
theorem zkS (sz:Nat) (agg:Bool):∀ (n:Nat) (cs:List V),(zdY sz agg n cs).length=n/\∀ i,i<n->(zdY sz agg n cs).getD i .any=if agg then .agg ((cs.drop (i * sz)).take sz) else (cs.drop (i * sz)).getD 0 .any
 | 0,_=>⟨rfl,fun i h=>absurd h (Nat.not_lt_zero _)⟩
 | n+1,cs=>by
  obtain ⟨h1,h2⟩:=zkS sz agg n (cs.drop sz)
  refine ⟨by simp [zdY,h1],fun i hi=>?_⟩
  cases i with
  | zero=>simp [zdY]
  | succ i =>
   have:=h2 i (by omega)
   simp only [zdY,List.getD_cons_succ,this,List.drop_drop]
   rw [show sz+i * sz=(i+1) * sz by rw [Nat.add_mul];omega]
theorem zkc {H:Own} {w:World} (hs:Sim w H) (xs:Array Value) (T:TypeId) (cs:List V) (n sz:Nat) (agg:Bool) (hsz:0<sz) (h1:agg=false->sz=1/\cs.all V.flat=true) (hx:xs.size=cs.length) (hc:cs.length=n * sz)
  (hr:∀ k,k<cs.length->R (stable w H) w (xs.getD k undef) (cs.getD k .any)) :
  R (stable (w.alloc (.cells xs T)) H) (w.alloc (.cells xs T)) (.slice (some ⟨w.heap.size,0,none⟩) n n) (.sl (zdY sz agg n cs)):=by
 obtain ⟨g1,g2⟩:=zkS sz agg n cs
 have hcell:∀ k,k<cs.length->zbb (w.alloc (.cells xs T)) ⟨w.heap.size,k,none⟩=xs.getD k undef:=fun k hk=>by
  unfold zbb
  rw [World.cell?_alloc_new]
  simp [Array.getD_eq_getD_getElem?]
 have hlt:∀ i k,i<n->k<sz->i * sz+k<cs.length:=fun i k hi hk=>by
  rw [hc]
  calc i * sz+k<i * sz+sz:=by omega
   _=(i+1) * sz:=by rw [Nat.add_mul];omega
   _<=n * sz:=Nat.mul_le_mul_right _ hi
 refine .sl _ n n _ sz g1.symm (Nat.le_refl _) (fun h=>nomatch h) (fun b hb _=>by injection hb with hb;subst hb;rfl) (fun i hi=>?_) (fun b i k hb hi hk=>?_) (fun b i k hb hi hk=>?_)
 · rw [g1] at hi
   rw [g2 i hi]
   cases agg with
   | true =>
    simp only [if_true,V.n,List.length_take,List.length_drop]
    have:=hlt i (sz - 1) hi (by omega)
    omega
   | false =>
    simp only [Bool.false_eq_true,if_false]
    obtain ⟨e1,e2⟩:=h1 rfl
    have hl:=hlt i 0 hi hsz
    rw [Nat.add_zero] at hl
    have e3:(cs.drop (i * sz)).getD 0 .any=cs[i * sz]:=by simp [List.getD_eq_getElem?_getD,List.getElem?_drop,hl]
    rw [e3]
    exact ((V.flat_n (List.all_eq_true.1 e2 _ (List.getElem_mem hl))).1).trans e1.symm
 · injection hb with hb;subst hb
   rw [g1] at hi
   have:=hlt i k hi hk
   simp only [Nat.zero_add]
   exact zgV hs xs T _ (by omega)
 · injection hb with hb;subst hb
   rw [g1] at hi
   have hl:=hlt i k hi hk
   simp only [Nat.zero_add]
   rw [hcell _ hl,g2 i hi]
   have:=(Sim.new hs (.cells xs T)).2.rel (hr _ hl)
   cases agg with
   | true =>
    simp only [if_true,V.cell]
    have e:(List.take sz (cs.drop (i * sz))).getD k .any=cs.getD (i * sz+k) .any:=by
     simp only [List.getD_eq_getElem?_getD,List.getElem?_take,List.getElem?_drop]
     rw [if_pos hk]
    rw [e];exact this
   | false =>
    obtain ⟨hs1,e2⟩:=h1 rfl
    have hk0:k=0:=by omega
    subst hk0
    simp only [Bool.false_eq_true,if_false]
    rw [Nat.add_zero] at hl this ⊢
    have e3:(cs.drop (i * sz)).getD 0 .any=cs[i * sz]:=by simp [List.getD_eq_getElem?_getD,List.getElem?_drop,hl]
    have e4:cs.getD (i * sz) .any=cs[i * sz]:=by simp [List.getD_eq_getElem?_getD,hl]
    rw [e4] at this
    rw [e3,(V.flat_n (List.all_eq_true.1 e2 _ (List.getElem_mem hl))).2]
    exact this
def zg0 (f:Field):Sem (Nat×Nat):=do pure (f.offset,<-sizeOf f.type)
theorem zkb {fs:Array Field} {w:World} (hall:∀ p∈(fs.toList.map fun f=>(f.offset,f.type)),(ty P p.2).kind≠0/\(ty P p.2).kind≠11) :
  ∃ places:Array (Nat×Nat),(fs.mapM (m:=Sem) zg0).run P w = .ok places w/\∀ i:Nat,places[i]? = ((fs.toList.map fun f=>(f.offset,f.type))[i]?).map fun p=>(p.1,(ty P p.2).size):=by
 refine ⟨(fs.toList.map fun f=>(f.offset,(ty P f.type).size)).toArray,?_,fun i=>?_⟩
 · have key:∀ l:List Field,(∀ p∈(l.map fun f=>(f.offset,f.type)),(ty P p.2).kind≠0/\(ty P p.2).kind≠11)->(l.mapM (m:=Sem) zg0).run P w = .ok (l.map fun f=>(f.offset,(ty P f.type).size)) w:=fun l=>by
    induction l with
    | nil=>intro _;simp
    | cons f l ih =>
     intro h
     have h0:=h (f.offset,f.type) (by simp)
     have ih:=ih fun p hp=>h p (by simp at hp ⊢;exact .inr hp)
     have e:(zg0 f).run P w = .ok (f.offset,(ty P f.type).size) w:=by unfold zg0;simp [za4 h0.1 h0.2]
     rw [List.mapM_cons,Sem.run_bind,e]
     simp [ih]
   rw [Array.mapM_eq_mapM_toList]
   simp [key fs.toList hall]
 · simp only [List.getElem?_toArray,List.getElem?_map,Option.map_map]
   rfl
theorem zpC {S:Addr->Prop} {w:World} {l:List V} (h:l.all isU8=true) {i:Nat} (hi:i<l.length) {v:Value} (hr:R S w v ((l.getD i .any).cell 0)):v = .int .u8 (match l.getD i .any with | .int _ n=>n | _=>0):=by
 have h1:=List.all_eq_true.1 h _ (List.getElem_mem hi)
 have e:l.getD i .any=l[i]:=by simp [List.getD_eq_getElem?_getD,hi]
 rw [e] at hr ⊢
 generalize l[i]=d at *
 cases d with
 | int k n =>
  cases k<;>first | cases h1 | skip
  simp only [V.cell] at hr
  cases hr
  rfl
 | _=>cases h1
theorem ziJ {S:Addr->Prop} {w:World} {v:Value} {l:List V} (hS:∀ a,S a->(w.cell? a).isSome=true) (h:R S w v (.sl l)) (h8:l.all isU8=true):(Conv.bytesToString v).run P w = .ok (.string (bs (l.map zg8))) w:=by
 obtain ⟨a,cap,sz,rfl,hc,ha,g1,g2,g3,g4⟩:=h.slc
 cases a with
 | none =>
  rw [ha rfl]
  simp [Conv.bytesToString,bs]
  rfl
 | some b =>
  have hsz:∀ i,i<l.length->0<sz:=fun i hi=>by
   have h1:=List.all_eq_true.1 h8 _ (List.getElem_mem hi)
   have:=g2 i hi
   rw [show l.getD i .any=l[i] by simp [List.getD_eq_getElem?_getD,hi]] at this
   generalize l[i]=d at *
   cases d<;>first | cases h1 | (simp only [V.n] at this;omega)
  have hsz1:∀ i,i<l.length->sz=1:=fun i hi=>by
   have h1:=List.all_eq_true.1 h8 _ (List.getElem_mem hi)
   have:=g2 i hi
   rw [show l.getD i .any=l[i] by simp [List.getD_eq_getElem?_getD,hi]] at this
   generalize l[i]=d at *
   cases d<;>first | cases h1 | (simp only [V.n] at this;omega)
  have hcell:∀ j,j<l.length->w.cell? (b.add j)=some (.int .u8 (match l.getD j .any with | .int _ n=>n | _=>0)):=fun j hj=>by
   have s1:=hsz1 j hj
   subst s1
   have:=zpC h8 hj (g4 b j 0 rfl hj (by omega))
   rw [zbn b j (g1 b rfl (fun h=>by rw [h] at hj;simp at hj))]
   obtain ⟨u,hu⟩:=Option.isSome_iff_exists.1 (hS _ (g3 b j 0 rfl hj (by omega)))
   simp only [Nat.mul_one,Nat.add_zero] at hu this
   rw [zbb,hu] at this
   rw [hu]
   simpa using this
  have hl:=run_loadCells (P:=P) w b l.length (fun j=>.int .u8 (match l.getD j .any with | .int _ n=>n | _=>0)) hcell
  have hmap:((List.range l.length).map fun j=>(Value.int .u8 (match l.getD j .any with | .int _ n=>n | _=>0)))=(l.map fun d=>(match d with | .int _ n=>n | _=>0)).map (Value.int .u8):=by
   apply List.ext_getElem
   · simp
   · intro i h1 h2
     simp at h1 h2
     simp [List.getD_eq_getElem?_getD,h1]
  have hbytes:((l.map fun d=>(match d with | .int _ n=>n | _=>0)).map fun n=>UInt8.ofNat n.toNat)=l.map zg8:=by
   rw [List.map_map]
   refine List.map_congr_left fun d hd=>?_
   have h1:=List.all_eq_true.1 h8 d hd
   cases d<;>first | cases h1 | rfl
  have hl':(loadCells b l.length).run P w = .ok ((l.map fun d=>(match d with | .int _ n=>n | _=>0)).map (Value.int .u8)).toArray w:=by
   rw [hl,<-hmap]
  rw [run_bytesToString w b l.length cap _ hl',foldl_push_bytes,hbytes]
  simp [bs]
theorem R.part_ {S:Addr->Prop} {w:World} {v:Value} {l:List V} {T:Ty} (h:R S w v (.sl l)) (hn:∀ x∈l,x.n=T.size) (lo hi:Nat) (h1:lo<=hi) (h2:hi<=l.length) :
  ∀ a cap,v = .slice a l.length cap->R S w (.slice (if cap=lo then a else a.map (·.add (lo * T.size))) (hi - lo) (cap - lo)) (.sl ((l.take hi).drop lo)):=by
 obtain ⟨a,cap,sz,rfl,hc,ha,g1,g2,g3,g4⟩:=h.slc
 intro a' cap' e
 injection e with e1 e2 e3
 subst e1
 subst e3
 have hlen:((l.take hi).drop lo).length=hi - lo:=by simp;omega
 have hget:∀ i,i<hi - lo->((l.take hi).drop lo).getD i .any=l.getD (lo+i) .any:=fun i hi'=>by
  simp only [List.getD_eq_getElem?_getD,List.getElem?_drop,List.getElem?_take]
  rw [if_pos (by omega)]
 have hsz:∀ i,i<l.length->sz=T.size:=fun i hi=>by
  have:=g2 i hi
  rw [show l.getD i .any=l[i] by simp [List.getD_eq_getElem?_getD,hi]] at this
  rw [<-this];exact hn _ (List.getElem_mem hi)
 have hb:∀ b,(if cap=lo then a else a.map (·.add (lo * T.size)))=some b->0<hi - lo->∃ b0,a=some b0/\b=⟨b0.block,b0.off+lo * T.size,none⟩:=fun b hb hpos=>by
  rw [if_neg (by omega)] at hb
  cases a with
  | none=>cases hb
  | some b0 =>
   simp only [Option.map_some,Option.some.injEq] at hb
   exact ⟨b0,rfl,by rw [<-hb,zbn b0 _ (g1 b0 rfl (fun h=>by rw [h] at h2;simp at h2;omega))]⟩
 refine .sl _ _ _ _ sz hlen.symm (by omega) (fun h0=>?_) (fun b hb' hne=>?_) (fun i hi'=>?_) (fun b i k hb' hi' hk=>?_) (fun b i k hb' hi' hk=>?_)
 · have:a=none:=by
    split at h0
    · exact h0
    · cases a with
      | none=>rfl
      | some b=>cases h0
   rw [ha this];simp
 · have hl:l≠[]:=fun h=>hne (by rw [h];simp)
   split at hb'
   · exact g1 b hb' hl
   · cases a with
     | none=>cases hb'
     | some b0 =>
      simp only [Option.map_some,Option.some.injEq] at hb'
      rw [<-hb',zbn b0 _ (g1 b0 rfl hl)]
 · rw [hlen] at hi'
   rw [hget i hi'];exact g2 _ (by omega)
 · rw [hlen] at hi'
   obtain ⟨b0,e0,rfl⟩:=hb b hb' (by omega)
   have:=g3 b0 (lo+i) k e0 (by omega) hk
   rw [<-hsz (lo+i) (by omega)]
   simp only
   rw [show b0.off+lo * sz+i * sz+k=b0.off+(lo+i) * sz+k by rw [Nat.add_mul];omega]
   exact this
 · rw [hlen] at hi'
   obtain ⟨b0,e0,rfl⟩:=hb b hb' (by omega)
   have:=g4 b0 (lo+i) k e0 (by omega) hk
   rw [hget i hi',<-hsz (lo+i) (by omega)]
   simp only
   rw [show b0.off+lo * sz+i * sz+k=b0.off+(lo+i) * sz+k by rw [Nat.add_mul];omega]
   exact this
def u8v (c:List UInt8) (i:Nat):Value:=.int .u8 (((c.getD i 0).toNat:Nat):Int)
def loN:Option V->Nat
 | some (.int _ h)=>h.toNat
 | _=>0
def hiN (n:Nat):Option V->Nat
 | some (.int _ h)=>h.toNat
 | _=>n
theorem zhB (z:List V):∀ (n k:Nat),k<n * z.length->((List.replicate n z).flatten).getD k .any=z.getD (k%z.length) .any
 | 0,k,h=>by simp at h
 | n+1,k,h=>by
  rw [List.replicate_succ,List.flatten_cons]
  by_cases hk:k<z.length
  · rw [Nat.mod_eq_of_lt hk]
    simp only [List.getD_eq_getElem?_getD,List.getElem?_append_left hk]
  · have ih:=zhB z n (k - z.length) (by rw [Nat.add_mul] at h;omega)
    rw [<-Nat.mod_eq_sub_mod (by omega)] at ih
    rw [<-ih]
    simp only [List.getD_eq_getElem?_getD]
    rw [List.getElem?_append_right (by omega)]
theorem zeH {o:Oper} {f:Operand->V} {H:Own} (h:side P o f):DOp P o f H fun d' H'=>d'=val P o f/\H'=H:=by
 unfold side at h
 unfold val
 cases hop:o.op with
 | move x=>exact DOp.same fun a w hs hr=>⟨a.eval x,by simp [execOp,hop],hr x kxcl⟩
 | assign x=>exact DOp.same fun a w hs hr=>⟨a.eval x,by simp [execOp,hop],hr x kxcl⟩
 | pick c x y =>
  rw [hop] at h
  refine DOp.same fun a w hs hr=>?_
  have hc:=hr c kxcl
  have hx:=hr x kxcl
  have hy:=hr y kxcl
  simp only at h ⊢
  split at h
  · rename_i b hb
    rw [hb] at hc ⊢
    have hv:a.eval c = .bool b:=by generalize a.eval c=v at hc;cases hc;rfl
    refine ⟨if b then a.eval x else a.eval y,by simp [execOp,hop,hv,asBool],?_⟩
    simp only [pickV]
    cases b
    · exact hy
    · exact hx
  · exact h.elim
 | binOp op t x y ty' =>
  rw [hop] at h
  refine DOp.same fun a w hs hr=>?_
  obtain ⟨v,h1,h2⟩:=bin_run x y (hr x kxcl) (hr y kxcl) h
  refine ⟨v,?_,h2⟩
  unfold execOp
  rw [hop]
  simp only
  rw [Sem.run_bind,h1]
  rfl
 | unOp op t x =>
  rw [hop] at h
  refine DOp.same fun a w hs hr=>?_
  have hx:=hr x kxcl
  simp only at h ⊢
  unfold execOp
  rw [hop]
  simp only
  generalize f x=d at *
  generalize a.eval x=v at *
  cases hx<;>simp only [unS] at h
  · subst h;exact ⟨_,by simp [Op.unary], .bool _⟩
  · rcases h with h | h
    · subst h;exact ⟨_,by simp [Op.unary,Op.intArith], .int _ _⟩
    · subst h;exact ⟨_,by simp [Op.unary,Op.intBits], .int _ _⟩
 | convert sT dT x =>
  rw [hop] at h
  simp only at h
  have run:∀ (a:Act) (w:World) v w',(Go.convert sT dT (a.eval x)).run P w = .ok v w'->(execOp a.eval o).run P w = .ok (.value v) w':=fun a w v w' hv=>by
   unfold execOp
   rw [hop]
   simp only
   rw [Sem.run_bind,hv]
   rfl
  simp only
  cases hd:f x with
  | int k n =>
   rw [hd] at h
   obtain ⟨h1,h2⟩:=h
   refine DOp.same fun a w hs hr=>?_
   have hx:=hr x kxcl
   rw [hd] at hx
   have hv:a.eval x = .int k n:=by generalize a.eval x=v at hx;cases hx;rfl
   cases hk:(ty P dT).ik with
   | none=>rw [hk] at h1;cases h1
   | some k' =>
    refine ⟨.int k' (k'.wrap n),run a w _ w ?_,by simp only [zjT,hk];exact .int _ _⟩
    rw [hv]
    have hu:=zgB hk
    have hsrc:∃ d,P.underlying sT=some d:=by
     unfold ty at h2
     split at h2
     · rename_i i d hi hd';exact ⟨d,hd'⟩
     · exact absurd rfl h2
    obtain ⟨ds,hds⟩:=hsrc
    simp [convert,run_underlying hds,run_underlying hu,Conv.intToInt]
  | str c =>
   rw [hd] at h
   obtain ⟨h1,h2⟩:=h
   rcases h2 with h2 | ⟨h2,h3⟩
   · refine DOp.same fun a w hs hr=>?_
     have hx:=hr x kxcl
     rw [hd] at hx
     have hv:a.eval x = .string (bs c):=by generalize a.eval x=v at hx;cases hx;rfl
     refine ⟨.string (bs c),run a w _ w ?_,?_⟩
     · rw [hv];simp [convert,run_underlying (zbS h1),run_underlying (zbS h2)]
     · simp only [zjT,h2];exact .str c
   · refine DOp.new fun a w hs hr=>?_
     have hx:=hr x kxcl
     rw [hd] at hx
     have hv:a.eval x = .string (bs c):=by generalize a.eval x=v at hx;cases hx;rfl
     have hrun:=run_bytes_of_string (P:=P) w sT dT (ty P dT).elem (bs c) (zbS h1) (zaT h2) (zgB h3)
     have hm:=hs.more (w':=w.drew.alloc (.cells (bytesRow (bs c) (grownCap w (bs c).size 0 (ty P dT).elem)) (ty P dT).elem ((bytesRow (bs c) (grownCap w (bs c).size 0 (ty P dT).elem)).size,(bytesRow (bs c) (grownCap w (bs c).size 0 (ty P dT).elem)).size+1))) rfl rfl rfl (by simp) (fun b hb=>Below.heap_alloc w.drew _ b hb)
     refine ⟨_,_,run a w _ _ (by rw [hv];exact hrun),hm,?_⟩
     simp only [zjT,h2,if_true]
     have hcell:∀ i,i<c.length->(w.drew.alloc (.cells (bytesRow (bs c) (grownCap w (bs c).size 0 (ty P dT).elem)) (ty P dT).elem ((bytesRow (bs c) (grownCap w (bs c).size 0 (ty P dT).elem)).size,(bytesRow (bs c) (grownCap w (bs c).size 0 (ty P dT).elem)).size+1))).cell? ⟨w.heap.size,i,none⟩=some (u8v c i):=fun i hi=>by
      have:=World.cell?_alloc_mark w.drew (bytesRow (bs c) (grownCap w (bs c).size 0 (ty P dT).elem)) (ty P dT).elem ((bytesRow (bs c) (grownCap w (bs c).size 0 (ty P dT).elem)).size,(bytesRow (bs c) (grownCap w (bs c).size 0 (ty P dT).elem)).size+1) i
      refine this.trans ?_
      have hi':i<(bs c).data.size:=by simpa [bs] using hi
      rw [bytesRow_at (bs c) _ i hi']
      simp [bs,u8v,hi]
     refine .sl _ _ _ _ 1 (by simp [zdk]) (grownCap_ge w _ 0 _) (fun h=>nomatch h) (fun b hb _=>by injection hb with hb;subst hb;rfl) (fun i hi=>?_) (fun b i k hb hi hk=>?_) (fun b i k hb hi hk=>?_)
     · simp at hi;simp [hi,u8,V.n]
     · injection hb with hb;subst hb
       simp only [List.length_map] at hi
       have hk0:k=0:=by omega
       subst hk0
       simp only [Nat.zero_add,Nat.mul_one,Nat.add_zero]
       refine ⟨by rw [hcell i hi];rfl,fun e he ha=>absurd (zjt hs he ha) (Nat.lt_irrefl _)⟩
     · injection hb with hb;subst hb
       simp only [List.length_map] at hi
       have hk0:k=0:=by omega
       subst hk0
       simp only [Nat.zero_add,Nat.mul_one,Nat.add_zero]
       rw [zbb,hcell i hi]
       simp [hi,u8,V.cell,u8v]
       exact .int _ _
  | sl l =>
   rw [hd] at h
   obtain ⟨h1,h2,h3,h4⟩:=h
   refine DOp.same fun a w hs hr=>?_
   have hx:=hr x kxcl
   rw [hd] at hx
   have hb:=ziJ (P:=P) (fun a ha=>ha.1) hx h4
   refine ⟨_,run a w _ w ?_,by simp only [zjT];exact .str _⟩
   obtain ⟨p,cap,sz,hv,_⟩:=hx.slc
   rw [hv] at hb ⊢
   rw [run_convert_bytes_string w sT dT _ _ _ _ (zaT h1) (zgB h3) (zbS h2)]
   exact hb
  | gs v l =>
   rw [hd] at h
   obtain ⟨h1,h2,h3,h4⟩:=h
   refine DOp.same fun a w hs hr=>?_
   have hx:=hr x kxcl
   rw [hd] at hx
   have hx:R (stable w H) w (a.eval x) (.sl l):=by generalize a.eval x=u at hx;cases hx with | gs v l h=>exact h
   have hb:=ziJ (P:=P) (fun a ha=>ha.1) hx h4
   refine ⟨_,run a w _ w ?_,by simp only [zjT];exact .str _⟩
   obtain ⟨p,cap,sz,hv,_⟩:=hx.slc
   rw [hv] at hb ⊢
   rw [run_convert_bytes_string w sT dT _ _ _ _ (zaT h1) (zgB h3) (zbS h2)]
   exact hb
  | _=>rw [hd] at h;exact h.elim
 | nilCheck x =>
  rw [hop] at h
  simp only at h ⊢
  refine DOp.same fun a w hs hr=>?_
  have hx:=hr x kxcl
  have key:∃ p,a.eval x = .pointer (some p):=by
   generalize a.eval x=v at hx
   split at h
   · rename_i cs hd;rw [hd] at hx;cases hx with | sp b cs h1 h3 h4=>exact ⟨b,rfl⟩
   · rename_i p hd;rw [hd] at hx;cases hx;exact ⟨p,rfl⟩
   · rename_i v k hd;rw [hd] at hx;cases hx with | ep b n cap k=>exact ⟨_,rfl⟩
   · exact h.elim
  obtain ⟨p,hp⟩:=key
  exact ⟨a.eval x,by unfold execOp;rw [hop];simp [hp],hx⟩
 | load t x =>
  rw [hop] at h
  simp only at h ⊢
  refine DOp.same fun a w hs hr=>?_
  have hx:=hr x kxcl
  split at h
  · rename_i cs hd
    rw [hd] at hx
    generalize ha:a.eval x=v at hx
    cases hx with
    | sp b cs h1 h3 h4 =>
     obtain ⟨v,hv,hR⟩:=zcY (P:=P) (t:=t) h1 (fun k hk=>(h3 k hk).1) h4 h
     refine ⟨v,?_,hR⟩
     unfold execOp
     rw [hop]
     simp [Instr.loadAt,ha,Instr.sureAddr,hv]
  · exact h.elim
 | fieldAddr sT x i =>
  rw [hop] at h
  simp only at h ⊢
  refine DOp.same fun a w hs hr=>?_
  have hx:=hr x kxcl
  have run:∀ b:Addr,a.eval x = .pointer (some b)->(ty P sT).kind=6->i<(ty P sT).offs.length->(ty P ((ty P sT).offs.getD i (0,0)).2).kind≠0->(ty P ((ty P sT).offs.getD i (0,0)).2).kind≠11->(ty P ((ty P sT).offs.getD i (0,0)).2).size≠0 ->
    (execOp a.eval o).run P w = .ok (.value (.pointer (some (b.add ((ty P sT).offs.getD i (0,0)).1)))) w:=fun b hb h1 h2 h3 h4 h5=>by
   obtain ⟨fs,hu,ho⟩:=zeY h1
   have hi:i<fs.size:=by rw [ho] at h2;simpa using h2
   have hf:(ty P sT).offs.getD i (0,0)=(fs[i].offset,fs[i].type):=by rw [ho];simp [List.getD_eq_getElem?_getD,hi]
   rw [hf] at h3 h4 h5
   rw [hf]
   unfold execOp
   rw [hop]
   simp [Instr.fieldAt,run_underlying hu,hi,hb,Instr.sureAddr,fieldPlace,za4 h3 h4,h5]
  split at h
  · rename_i cs hd
    obtain ⟨h1,h2,h3,h4,h5⟩:=h
    rw [hd] at hx
    generalize ha:a.eval x=v at hx
    cases hx with
    | sp b cs g1 g3 g4 =>
     refine ⟨_,run b ha h1 h2 h3 h4 h5,?_⟩
     rw [zbn b _ g1]
     refine .sp _ _ rfl (fun k hk=>?_) (fun k hk=>?_)
     · have hk':((ty P sT).offs.getD i (0,0)).1+k<cs.length:=by rw [List.length_drop] at hk;omega
       simp only [Nat.add_assoc]
       exact g3 _ hk'
     · have hk':((ty P sT).offs.getD i (0,0)).1+k<cs.length:=by rw [List.length_drop] at hk;omega
       have:=g4 _ hk'
       simp only [List.getD_eq_getElem?_getD,List.getElem?_drop,Nat.add_assoc] at this ⊢
       exact this
  · rename_i b hd
    obtain ⟨h1,h2,h3,h4,h5⟩:=h
    rw [hd] at hx
    generalize ha:a.eval x=v at hx
    cases hx
    exact ⟨_,run b ha h1 h2 h3 h4 h5, .raw _⟩
  · rename_i v k hd
    obtain ⟨h1,h2,h3,h4,h5⟩:=h
    rw [hd] at hx
    generalize ha:a.eval x=u at hx
    cases hx with
    | ep b n cap k =>
     refine ⟨_,run (b.add k) ha h1 h2 h3 h4 h5,?_⟩
     rw [zo6]
     exact .ep b n cap _
  · exact h.elim
 | field sT x i =>
  rw [hop] at h
  simp only at h ⊢
  refine DOp.same fun a w hs hr=>?_
  have hx:=hr x kxcl
  split at h
  · rename_i cs hd
    obtain ⟨h1,h2,h3⟩:=h
    rw [hd] at hx
    generalize ha:a.eval x=v at hx
    cases hx with
    | agg xs cs hn hk =>
     obtain ⟨fs,hu,ho⟩:=zeY h1
     have hi:i<fs.size:=by rw [ho] at h2;simpa using h2
     have hf:(ty P sT).offs.getD i (0,0)=(fs[i].offset,fs[i].type):=by rw [ho];simp [List.getD_eq_getElem?_getD,hi]
     rw [hf] at h3 ⊢
     obtain ⟨v,hv,hR⟩:=ze7 (P:=P) hn hk h3
     refine ⟨v,?_,hR⟩
     unfold execOp
     rw [hop]
     simp [Instr.field,run_underlying hu,hi,ha,asAgg,hv]
  · exact h.elim
 | extract x i =>
  rw [hop] at h
  simp only at h ⊢
  refine DOp.same fun a w hs hr=>?_
  have hx:=hr x kxcl
  split at h
  · rename_i ds hd
    rw [hd] at hx
    generalize ha:a.eval x=v at hx
    cases hx with
    | tup xs ds hn hk =>
     have hi:i<xs.size:=by omega
     refine ⟨xs.getD i undef,?_,hk i h⟩
     unfold execOp
     rw [hop]
     simp [Instr.extract,ha,hi]
  · exact h.elim
 | box t x =>
  rw [hop] at h
  simp only at h ⊢
  refine DOp.new fun a w hs hr=>?_
  have hx:=hr x kxcl
  obtain ⟨c1,c2⟩:=hx.solid h
  have hm:=hs.new (.cells (a.eval x).cells t)
  refine ⟨.pointer (some ⟨w.heap.size,0,none⟩),w.alloc (.cells (a.eval x).cells t),?_,hm,?_⟩
  · unfold execOp
    rw [hop]
    simp [Instr.box,newVar,newRow]
  · refine .sp _ _ rfl (fun k hk=>?_) (fun k hk=>?_)
    · simp only [Nat.zero_add]
      exact zgV hs _ t k (by omega)
    · simp only [Nat.zero_add]
      have e:zbb (w.alloc (.cells (a.eval x).cells t)) ⟨w.heap.size,k,none⟩=(a.eval x).cells.getD k undef:=by
       unfold zbb
       rw [World.cell?_alloc_new]
       simp [Array.getD_eq_getD_getElem?]
      rw [e]
      exact hm.2.rel (c2 k hk)
 | makeFunc fn first cap =>
  simp only
  refine DOp.same fun a w hs hr=>?_
  refine ⟨.func fn (first.map a.eval) (cap.map a.eval),by unfold execOp;rw [hop];simp [Instr.makeFunc],?_⟩
  have hin:∀ x,x∈first\/x∈cap->R (stable w H) w (a.eval x) (f x):=fun x hx=>hr x (by simp [hop,Op.operands];exact hx)
  refine .fn _ _ _ _ _ (by simp) (fun k hk=>?_) (by simp) (fun k hk=>?_)
  · have hk':k<first.size:=by simpa using hk
    have:=hin first[k] (.inl (Array.getElem_mem hk'))
    simpa [Array.getD_eq_getD_getElem?,List.getD_eq_getElem?_getD,hk'] using this
  · have hk':k<cap.size:=by simpa using hk
    have:=hin cap[k] (.inr (Array.getElem_mem hk'))
    simpa [Array.getD_eq_getD_getElem?,List.getD_eq_getElem?_getD,hk'] using this
 | indexAddr t x i =>
  rw [hop] at h
  simp only at h ⊢
  refine DOp.same fun a w hs hr=>?_
  have hx:=hr x kxcl
  have hi:=hr i kxcl
  have run:∀ u,(Instr.indexAt t (a.eval x) (a.eval i)).run P w = .ok u w->(execOp a.eval o).run P w = .ok (.value u) w:=fun u hu=>by
   unfold execOp
   rw [hop]
   simp [hu]
  cases hdi:f i with
  | int k n =>
   rw [hdi] at hi
   have hvi:a.eval i = .int k n:=by generalize a.eval i=v at hi;cases hi;rfl
   rw [hvi] at run
   cases hdx:f x with
   | sl l =>
    rw [hdx] at hx h
    rw [hdi] at h
    obtain ⟨h1,h2,h3,h4,h5,h6,_⟩:=h
    obtain ⟨u,hu,hR⟩:=znm (P:=P) (k:=k) hx h1 h2 h3 h4 h5 h6
    exact ⟨u,run u hu,hR⟩
   | gs v l =>
    rw [hdx] at hx h
    rw [hdi] at h
    have hx:R (stable w H) w (a.eval x) (.sl l):=by generalize a.eval x=u at hx;cases hx with | gs v l h=>exact h
    obtain ⟨h1,h2,h3,h4,h5,h6,_⟩:=h
    obtain ⟨u,hu,hR⟩:=znm (P:=P) (k:=k) hx h1 h2 h3 h4 h5 h6
    exact ⟨u,run u hu,hR⟩
   | raw v =>
    rw [hdx] at hx h
    rw [hdi] at h
    have hvx:a.eval x=v:=by generalize a.eval x=u at hx;cases hx;rfl
    rw [hvx] at run
    cases v with
    | slice p n' cap =>
     cases p with
     | none=>exact h.elim
     | some p =>
      obtain ⟨h1,h2,h3,h4,h5⟩:=h
      refine ⟨_,run _ ?_, .raw _⟩
      simp [Instr.indexAt,asIntOf,run_underlying (zaT h1),h4,h5,za4 h2 h3]
    | pointer p =>
     cases p with
     | none=>exact h.elim
     | some p =>
      obtain ⟨h1,h2,h3,h4,h5⟩:=h
      refine ⟨_,run _ ?_, .raw _⟩
      simp [Instr.indexAt,asIntOf,run_underlying (zeW h1),h4,h5,za4 h2 h3,Instr.sureAddr]
    | _=>exact h.elim
   | sp cs =>
    rw [hdx] at hx h
    rw [hdi] at h
    obtain ⟨h1,h2,h3,h4,h5⟩:=h
    generalize ha:a.eval x=v at hx run
    cases hx with
    | sp b cs g1 g3 g4 =>
     refine ⟨_,run (.pointer (some (b.add (n.toNat * (ty P (ty P t).elem).size)))) (by simp [Instr.indexAt,asIntOf,run_underlying (zeW h1),h4,h5,za4 h2 h3,Instr.sureAddr]),?_⟩
     rw [zbn b _ g1]
     refine .sp _ _ rfl (fun k hk=>?_) (fun k hk=>?_)
     · have hk':n.toNat * (ty P (ty P t).elem).size+k<cs.length:=by rw [List.length_drop] at hk;omega
       simp only [Nat.add_assoc]
       exact g3 _ hk'
     · have hk':n.toNat * (ty P (ty P t).elem).size+k<cs.length:=by rw [List.length_drop] at hk;omega
       have:=g4 _ hk'
       simp only [List.getD_eq_getElem?_getD,List.getElem?_drop,Nat.add_assoc] at this ⊢
       exact this
   | ar v n' =>
    rw [hdx] at hx h
    rw [hdi] at h
    obtain ⟨h1,h2,h3,h4,h5⟩:=h
    generalize ha:a.eval x=u at hx run
    cases hx with
    | ar p n' cap hc hnone =>
     cases p with
     | none=>have:=hnone rfl;omega
     | some p=>exact ⟨_,run (.pointer (some (p.add (n.toNat * (ty P (ty P t).elem).size)))) (by simp [Instr.indexAt,asIntOf,run_underlying (zaT h1),h4,h5,za4 h2 h3]), .ep p n' cap _⟩
   | _=>rw [hdx] at h;exact h.elim
  | _=>rw [hdi] at h;revert h;cases f x<;>intro h<;>first | exact h.elim | (simp only [zhs] at h) | skip
 | index t x i =>
  rw [hop] at h
  simp only at h ⊢
  refine DOp.same fun a w hs hr=>?_
  have hx:=hr x kxcl
  have hi:=hr i kxcl
  have run:∀ u,(Instr.index t (a.eval x) (a.eval i)).run P w = .ok u w->(execOp a.eval o).run P w = .ok (.value u) w:=fun u hu=>by
   unfold execOp
   rw [hop]
   simp [hu]
  cases hdi:f i with
  | int k n =>
   rw [hdi] at hi
   have hvi:a.eval i = .int k n:=by generalize a.eval i=v at hi;cases hi;rfl
   rw [hvi] at run
   cases hdx:f x with
   | str c =>
    rw [hdx] at hx h
    rw [hdi] at h
    obtain ⟨h1,h2,h3⟩:=h
    have hvx:a.eval x = .string (bs c):=by generalize a.eval x=v at hx;cases hx;rfl
    rw [hvx] at run
    have hlt:n.toNat<c.length:=by omega
    refine ⟨.int .u8 ((c.getD n.toNat 0).toNat:Nat),run _ ?_,by simp only [idxV,u8];exact .int _ _⟩
    have hb:(bs c)[n.toNat]? = some c[n.toNat]:=by
     rw [getElem?_pos (bs c) n.toNat (by rw [zdk];exact hlt)]
     rfl
    simp [Instr.index,asIntOf,run_underlying (zbS h1),h2,hb,List.getD_eq_getElem?_getD,hlt]
   | agg cs =>
    rw [hdx] at hx h
    rw [hdi] at h
    obtain ⟨h1,h2,h3,h4⟩:=h
    generalize ha:a.eval x=v at hx run
    cases hx with
    | agg xs cs hn hk =>
     obtain ⟨v,hv,hR⟩:=ze7 (P:=P) hn hk h4
     refine ⟨v,run v ?_,hR⟩
     simp [Instr.index,asIntOf,run_underlying (zeW h1),h2,h3,za4 h4.1 h4.2.1,hv]
   | _=>rw [hdx] at h;exact h.elim
  | _=>rw [hdi] at h;revert h;cases f x<;>intro h<;>exact h.elim
 | build t parts =>
  rw [hop] at h
  simp only at h ⊢
  refine DOp.same fun a w hs hr=>?_
  obtain ⟨h12,h3,h4⟩:=h
  have hk:(ty P t).kind≠0/\(ty P t).kind≠11:=by rcases h12 with h | h<;>rw [h.1]<;>decide
  obtain ⟨i,d,hi,_,_,_,_,hz⟩:=zcF rfl hk.1 hk.2
  cases hzz:i.zero with
  | none=>rw [hzz] at hz;exact absurd hz h3
  | some z =>
   obtain ⟨z1,z2⟩:=zdf (S:=stable w H) (w:=w) hi hzz hz
   obtain ⟨ys,e1,e2,e3,e4⟩:=zeG (S:=stable w H) (w:=w) (zf7 P t) (parts.toList.map fun (i,x)=>(i,a.eval x)) (parts.toList.map fun (i,x)=>(i,f x)) z.cells (ty P t).zero (by simp)
    (fun k hk=>by
      simp only [List.length_map,Array.length_toList] at hk
      have hin:parts[k].2∈o.op.operands:=by
       rw [hop]
       simp [Op.operands]
       exact ⟨parts[k].1,Array.getElem_mem hk⟩
      have:=hr _ hin
      simpa [List.getD_eq_getElem?_getD,hk] using this) z1 z2 h4
   refine ⟨.agg ys,?_, .agg _ _ e2 e4⟩
   have hzr:(zeroValue t).run P w = .ok z w:=by simp [zeroValue,typeInfo,program,Sem.run,hi,hzz]
   unfold execOp
   rw [hop]
   simp only [Sem.run_bind]
   have:(Instr.build t (parts.map fun (i,x)=>(i,a.eval x))).run P w = .ok (.agg ys) w:=by
    rcases h12 with ⟨h1,h2⟩ | ⟨h1,h2,h2'⟩
    · obtain ⟨fs,hu,ho⟩:=zeY h1
      rw [ho] at h2
      obtain ⟨places,hp,hpl⟩:=zkb (P:=P) (fs:=fs) (w:=w) h2
      have hplace:zf7 P t=(places[·]?):=by
       unfold zf7
       rw [if_neg (by rw [h1];decide)]
       funext i;rw [hpl,ho]
      rw [hplace] at e1
      unfold Instr.build
      simp only [Sem.run_bind,hzr,Result.andThen,run_underlying hu]
      rw [show (fs.mapM (m:=Sem) fun f=>do pure (f.offset,<-sizeOf f.type))=fs.mapM zg0 from rfl,hp]
      simp [e1]
    · have hu:=zeW h1
      have hplace:zf7 P t=fun i=>some (i * (ty P (ty P t).elem).size,(ty P (ty P t).elem).size):=by
       unfold zf7
       rw [if_pos h1]
      rw [hplace] at e1
      unfold Instr.build
      simp only [Sem.run_bind,hzr,Result.andThen,run_underlying hu,za4 h2 h2']
      simp [e1]
   rw [this]
   rfl
 | buildSlice t n parts =>
  rw [hop] at h
  simp only at h ⊢
  refine DOp.new fun a w hs hr=>?_
  obtain ⟨h1,h2,h3,h4,h5,h6,h7,h8⟩:=h
  generalize hE:(ty P t).elem=E at *
  obtain ⟨i,d,hi,_,_,hsz,_,hz⟩:=zcF (t:=E) rfl h2 h3
  cases hzz:i.zero with
  | none=>rw [hzz] at hz;simp [hz] at h5;omega
  | some z =>
   obtain ⟨z1,z2⟩:=zdf (S:=stable w H) (w:=w) hi hzz hz
   have hzn:z.cells.size=(ty P E).size:=z1.trans h5
   have hlen:((List.replicate n (ty P E).zero).flatten).length=n * (ty P E).size:=by simp [h5]
   have hmod:∀ k,k<n * (ty P E).size->((List.replicate n (ty P E).zero).flatten).getD k .any=(ty P E).zero.getD (k%(ty P E).size) .any:=fun k hk=>by
    have:=zhB (ty P E).zero n k (by rw [h5];exact hk)
    rwa [h5] at this
   obtain ⟨ys,e1,e2,e3,e4⟩:=zeG (S:=stable w H) (w:=w) (fun i=>some (i * (ty P E).size,(ty P E).size)) (parts.toList.map fun (i,x)=>(i,a.eval x)) (parts.toList.map fun (i,x)=>(i,f x))
    ((Array.range (n * (ty P E).size)).map (z.cells[· % z.cells.size]!)) ((List.replicate n (ty P E).zero).flatten) (by simp)
    (fun k hk=>by
      simp only [List.length_map,Array.length_toList] at hk
      have hin:parts[k].2∈o.op.operands:=by
       rw [hop]
       simp [Op.operands]
       exact ⟨parts[k].1,Array.getElem_mem hk⟩
      have:=hr _ hin
      simpa [List.getD_eq_getElem?_getD,hk] using this) (by simp [hlen]) (fun k hk=>by
      rw [hlen] at hk
      rw [hmod k hk]
      have hm:k%(ty P E).size<(ty P E).size:=Nat.mod_lt _ h6
      have:=z2 (k%(ty P E).size) (by omega)
      have e:((Array.range (n * (ty P E).size)).map (z.cells[· % z.cells.size]!)).getD k undef=z.cells.getD (k%(ty P E).size) undef:=by
       simp [Array.getD_eq_getD_getElem?,hk,hzn]
       rw [getElem!_pos z.cells _ (by omega)]
       have:k%(ty P E).size<z.cells.size:=by omega
       simp [this]
      rw [e];exact this) h8
   have hm:=hs.new (.cells ys E)
   have hlen2:=e3.trans hlen
   refine ⟨.slice (some ⟨w.heap.size,0,none⟩) n n,w.alloc (.cells ys E),?_,hm,?_⟩
   · have hzr:(zeroValue E).run P w = .ok z w:=by simp [zeroValue,typeInfo,program,Sem.run,hi,hzz]
     unfold execOp
     rw [hop]
     simp only [Sem.run_bind]
     have:(Instr.buildSlice t n (parts.map fun (i,x)=>(i,a.eval x))).run P w = .ok (.slice (some ⟨w.heap.size,0,none⟩) n n) (w.alloc (.cells ys E)):=by
      unfold Instr.buildSlice
      have hu:=zaT h1
      rw [hE] at hu
      simp only [Sem.run_bind,run_underlying hu,Result.andThen,za4 h2 h3]
      rw [if_neg (by omega)]
      by_cases h0:n * (ty P E).size=0
      · rw [if_pos h0]
        rw [h0] at e1 ⊢
        rw [Sem.run_bind]
        simp only [Sem.run_pure,Result.andThen]
        rw [show ((Array.range 0).map ((#[]:Array Value)[· % (#[]:Array Value).size]!))=((Array.range 0).map (z.cells[· % z.cells.size]!)) from by simp]
        simp only [Array.toList_map]
        rw [e1]
        simp [newRow]
      · rw [if_neg h0]
        simp only [Sem.run_bind,hzr,Sem.run_pure,Result.andThen,Array.toList_map]
        rw [e1]
        simp [newRow]
     rw [this]
     rfl
   · refine zkc hs ys E _ n (ty P E).size (ty P E).agg h6 h7 e2 hlen2 e4
 | slice t x lo hi mx =>
  rw [hop] at h
  cases mx with
  | some m=>exact h.elim
  | none =>
  simp only at h ⊢
  refine DOp.same fun a w hs hr=>?_
  have hx:=hr x kxcl
  have run:∀ u,(Instr.sliceAt t (a.eval x) (lo.map a.eval) (hi.map a.eval) none).run P w = .ok u w->(execOp a.eval o).run P w = .ok (.value u) w:=fun u hu=>by
   unfold execOp
   rw [hop]
   simp only [Option.map_none]
   rw [Sem.run_bind,hu]
   rfl
  have bnd:∀ n c isS,n<=c->bndS n (lo.map f) (hi.map f)->(Instr.sliceBounds isS n c (lo.map a.eval) (hi.map a.eval) none).run P w = .ok (loN (lo.map f),hiN n (hi.map f),c) w/\loN (lo.map f)<=hiN n (hi.map f)/\hiN n (hi.map f)<=n:=fun n c isS hnc hb=>by
   have iv:∀ y,y∈o.op.operands->∀ k m,f y = .int k m->a.eval y = .int k m:=fun y hy k m he=>by
    have:=hr y hy
    rw [he] at this
    generalize a.eval y=v at this
    cases this
    rfl
   have inlo:∀ y,lo=some y->y∈o.op.operands:=fun y e=>by rw [hop,e];simp [Op.operands]
   have inhi:∀ y,hi=some y->y∈o.op.operands:=fun y e=>by rw [hop,e];simp [Op.operands]
   cases hlo:lo with
   | none =>
    cases hhi:hi with
    | none=>simp [Instr.sliceBounds,loN,hiN]
    | some y =>
     rw [hlo,hhi] at hb
     simp only [Option.map_none,Option.map_some] at hb ⊢
     cases hy:f y with
     | int k m =>
      rw [hy] at hb
      simp only [bndS] at hb
      have:=iv y (inhi y hhi) k m hy
      refine ⟨?_,by simp [loN],by simp only [hiN];omega⟩
      simp [Instr.sliceBounds,this,Instr.sliceBound,asIntOf,loN,hiN,hb.1,show m<=(c:Int) by omega]
     | _=>rw [hy] at hb;exact hb.elim
   | some z =>
    cases hhi:hi with
    | none =>
     rw [hlo,hhi] at hb
     simp only [Option.map_none,Option.map_some] at hb ⊢
     cases hz:f z with
     | int k m =>
      rw [hz] at hb
      simp only [bndS] at hb
      have:=iv z (inlo z hlo) k m hz
      refine ⟨?_,by simp only [loN,hiN];omega,by simp only [hiN];omega⟩
      simp [Instr.sliceBounds,this,Instr.sliceBound,asIntOf,loN,hiN,hb.1,hb.2]
     | _=>rw [hz] at hb;exact hb.elim
    | some y =>
     rw [hlo,hhi] at hb
     simp only [Option.map_some] at hb ⊢
     cases hz:f z with
     | int k m =>
      cases hy:f y with
      | int k' m' =>
       rw [hz,hy] at hb
       simp only [bndS] at hb
       have e1:=iv z (inlo z hlo) k m hz
       have e2:=iv y (inhi y hhi) k' m' hy
       refine ⟨?_,by simp only [loN,hiN];omega,by simp only [hiN];omega⟩
       simp [Instr.sliceBounds,e1,e2,Instr.sliceBound,asIntOf,loN,hiN,hb.1,show 0<=m' by omega,show m'<=(c:Int) by omega,show m<=max m' 0 by omega]
      | _=>rw [hz,hy] at hb;exact hb.elim
     | _=>rw [hz] at hb;revert hb;cases f y<;>intro hb<;>exact hb.elim
  have sl:∀ l,R (stable w H) w (a.eval x) (.sl l)->(ty P t).kind=4->(ty P (ty P t).elem).kind≠0->(ty P (ty P t).elem).kind≠11->bndS l.length (lo.map f) (hi.map f)->(∀ y∈l,y.n=(ty P (ty P t).elem).size) ->
    ∃ v,(execOp a.eval o).run P w = .ok (.value v) w/\R (stable w H) w v (.sl ((l.take (hiN l.length (hi.map f))).drop (loN (lo.map f)))):=fun l hR h1 h2 h3 h4 h5=>by
   obtain ⟨p,cap,sz,hv,hc,_⟩:=hR.slc
   obtain ⟨b1,b2,b3⟩:=bnd l.length cap true hc h4
   refine ⟨_,run _ ?_,hR.part_ h5 _ _ b2 b3 p cap hv⟩
   have hu:=zaT h1
   rw [hv]
   simp only [Instr.sliceAt,Instr.slice,Sem.run_bind,run_underlying hu,Result.andThen,b1,za4 h2 h3,Sem.run_pure]
  cases hd:f x with
  | sl l =>
   rw [hd] at hx h
   obtain ⟨h1,h2,h3,h4,h5⟩:=h
   exact sl l hx h1 h2 h3 h4 h5
  | gs v l =>
   rw [hd] at hx h
   obtain ⟨h1,h2,h3,h4,h5⟩:=h
   exact sl l (by generalize a.eval x=u at hx;cases hx with | gs v l h=>exact h) h1 h2 h3 h4 h5
  | str c =>
   rw [hd] at hx h
   obtain ⟨h1,h2⟩:=h
   have hv:a.eval x = .string (bs c):=by generalize a.eval x=v at hx;cases hx;rfl
   obtain ⟨b1,b2,b3⟩:=bnd c.length c.length false (Nat.le_refl _) h2
   refine ⟨.string ((bs c).extract (loN (lo.map f)) (hiN c.length (hi.map f))),run _ ?_,?_⟩
   · have hu:=zbS h1
     rw [hv]
     simp [Instr.sliceAt,Instr.slice,run_underlying hu,zdk,b1]
   · have:(bs c).extract (loN (lo.map f)) (hiN c.length (hi.map f))=bs ((c.take (hiN c.length (hi.map f))).drop (loN (lo.map f))):=by
      rw [List.drop_take]
      exact ByteArray.extract_mk c _ _
     rw [this]
     exact .str _
  | _=>rw [hd] at h;exact h.elim
 | call c =>
  rw [hop] at h
  obtain ⟨callee,args,argTypes⟩:=c
  cases callee with
  | builtin b =>
   cases b<;>first | exact h.elim | skip
   case len =>
    simp only at h ⊢
    refine DOp.same fun a w hs hr=>?_
    obtain ⟨args⟩:=args
    obtain ⟨argTypes⟩:=argTypes
    match args,argTypes,h with
    | [x],[T],h3 =>
    simp only at h3 ⊢
    have hx:=hr x kxb4
    have run:∀ u,(Builtin.len_ #[T] o.type #[a.eval x]).run P w = .ok u w->(execOp a.eval o).run P w = .ok (.value u) w:=fun u hu=>by
     unfold execOp
     rw [hop]
     simp [resolve,invoke,Go.builtin,hu]
    cases hd:f x with
    | sl l =>
     rw [hd] at hx h3
     obtain ⟨p,cap,sz,hv,_⟩:=hx.slc
     exact ⟨_,run _ kxb0, .int _ _⟩
    | gs v l =>
     rw [hd] at hx h3
     have hx:R (stable w H) w (a.eval x) (.sl l):=by generalize a.eval x=u at hx;cases hx with | gs v l h=>exact h
     obtain ⟨p,cap,sz,hv,_⟩:=hx.slc
     exact ⟨_,run _ kxb0, .int _ _⟩
    | str c =>
     rw [hd] at hx h3
     have hv:a.eval x = .string (bs c):=by generalize a.eval x=v at hx;cases hx;rfl
     exact ⟨_,run _ (by rw [hv];simp [Builtin.len_,run_underlying (zbS h3),goInt,zdk]), .int _ _⟩
    | raw v =>
     rw [hd] at hx h3
     have hv:a.eval x=v:=by generalize a.eval x=u at hx;cases hx;rfl
     cases v with
     | slice p n cap=>exact ⟨_,run _ kxb0, .int _ _⟩
     | _=>exact h3.elim
    | ar v n =>
     rw [hd] at hx h3
     generalize ha:a.eval x=u at hx run
     cases hx with
     | ar p n cap hc hnone=>exact ⟨_,run _ (by simp [Builtin.len_,run_underlying (zaT h3),goInt]), .int _ _⟩
    | _=>rw [hd] at h3;exact h3.elim
   case max =>
    simp only at h ⊢
    refine DOp.same fun a w hs hr=>?_
    obtain ⟨args⟩:=args
    match args,h with
    | [x,y],h3 =>
    simp only at h3 ⊢
    have hx:=hr x kxb4
    have hy:=hr y kxb4
    generalize f x=dx at *
    generalize f y=dy at *
    generalize hvx:a.eval x=vx at *
    generalize hvy:a.eval y=vy at *
    cases hx<;>first | exact h3.elim | skip
    cases hy<;>first | exact h3.elim | skip
    rename_i k m k' m'
    refine ⟨.int k (max m m'),?_,by simp only [mmV,if_true];exact .int _ _⟩
    have e:(if m' > m then m' else m)=max m m':=by rw [Int.max_def];split<;>split<;>omega
    unfold execOp
    rw [hop]
    simp [resolve,invoke,Go.builtin,Builtin.max_,Builtin.max2,hvx,hvy,e]
   case min =>
    simp only at h ⊢
    refine DOp.same fun a w hs hr=>?_
    obtain ⟨args⟩:=args
    match args,h with
    | [x,y],h3 =>
    simp only at h3 ⊢
    have hx:=hr x kxb4
    have hy:=hr y kxb4
    generalize f x=dx at *
    generalize f y=dy at *
    generalize hvx:a.eval x=vx at *
    generalize hvy:a.eval y=vy at *
    cases hx<;>first | exact h3.elim | skip
    cases hy<;>first | exact h3.elim | skip
    rename_i k m k' m'
    refine ⟨.int k (min m m'),?_,by simp only [mmV,if_false,Bool.false_eq_true];exact .int _ _⟩
    have e:(if m'<m then m' else m)=min m m':=by rw [Int.min_def];split<;>split<;>omega
    unfold execOp
    rw [hop]
    simp [resolve,invoke,Go.builtin,Builtin.min_,Builtin.min2,hvx,hvy,e]
  | _=>exact h.elim
 | _=>rw [hop] at h;exact h.elim
theorem list_run {o:Oper} {f:Operand->V} {H:Own} {t:TypeId} {n:Nat} {parts:Array (Nat×Operand)} (hop:o.op = .buildSlice t n parts) (h:side P o f) {a:Act} {w:World} (hs:Sim w H) (hr:∀ x,x∈o.op.operands->R (stable w H) w (a.eval x) (f x)) :
  ∃ ys E,(execOp a.eval o).run P w = .ok (.value (.slice (some ⟨w.heap.size,0,none⟩) n n)) (w.alloc (.cells ys E))/\ys.size=n * (ty P (ty P t).elem).size/\R (stable (w.alloc (.cells ys E)) H) (w.alloc (.cells ys E)) (.slice (some ⟨w.heap.size,0,none⟩) n n) (val P o f):=by
 unfold side at h
 unfold val
 rw [hop] at h ⊢
 simp only at h ⊢
 obtain ⟨h1,h2,h3,h4,h5,h6,h7,h8⟩:=h
 generalize hE:(ty P t).elem=E at *
 have hsz0:(ty P E).size=(ty P E).size:=rfl
 obtain ⟨i,d,hi,_,_,hsz,_,hz⟩:=zcF (t:=E) rfl h2 h3
 cases hzz:i.zero with
 | none=>rw [hzz] at hz;simp [hz] at h5;omega
 | some z =>
  obtain ⟨z1,z2⟩:=zdf (S:=stable w H) (w:=w) hi hzz hz
  have hzn:z.cells.size=(ty P E).size:=z1.trans h5
  have hlen:((List.replicate n (ty P E).zero).flatten).length=n * (ty P E).size:=by simp [h5]
  have hmod:∀ k,k<n * (ty P E).size->((List.replicate n (ty P E).zero).flatten).getD k .any=(ty P E).zero.getD (k%(ty P E).size) .any:=fun k hk=>by
   have:=zhB (ty P E).zero n k (by rw [h5];exact hk)
   rwa [h5] at this
  obtain ⟨ys,e1,e2,e3,e4⟩:=zeG (S:=stable w H) (w:=w) (fun i=>some (i * (ty P E).size,(ty P E).size)) (parts.toList.map fun (i,x)=>(i,a.eval x)) (parts.toList.map fun (i,x)=>(i,f x))
   ((Array.range (n * (ty P E).size)).map (z.cells[· % z.cells.size]!)) ((List.replicate n (ty P E).zero).flatten) (by simp)
   (fun k hk=>by
     simp only [List.length_map,Array.length_toList] at hk
     have hin:parts[k].2∈o.op.operands:=by
      rw [hop]
      simp [Op.operands]
      exact ⟨parts[k].1,Array.getElem_mem hk⟩
     have:=hr _ hin
     simpa [List.getD_eq_getElem?_getD,hk] using this) (by simp [hlen]) (fun k hk=>by
     rw [hlen] at hk
     rw [hmod k hk]
     have hm:k%(ty P E).size<(ty P E).size:=Nat.mod_lt _ h6
     have:=z2 (k%(ty P E).size) (by omega)
     have e:((Array.range (n * (ty P E).size)).map (z.cells[· % z.cells.size]!)).getD k undef=z.cells.getD (k%(ty P E).size) undef:=by
      simp [Array.getD_eq_getD_getElem?,hk,hzn]
      rw [getElem!_pos z.cells _ (by omega)]
      have:k%(ty P E).size<z.cells.size:=by omega
      simp [this]
     rw [e];exact this) h8
  have hm:=hs.new (.cells ys E)
  have hlen2:=e3.trans hlen
  refine ⟨ys,E,?_,by rw [hsz0,e2,hlen2],?_⟩
  · have hzr:(zeroValue E).run P w = .ok z w:=by simp [zeroValue,typeInfo,program,Sem.run,hi,hzz]
    unfold execOp
    rw [hop]
    simp only [Sem.run_bind]
    have:(Instr.buildSlice t n (parts.map fun (i,x)=>(i,a.eval x))).run P w = .ok (.slice (some ⟨w.heap.size,0,none⟩) n n) (w.alloc (.cells ys E)):=by
     unfold Instr.buildSlice
     have hu:=zaT h1
     rw [hE] at hu
     simp only [Sem.run_bind,run_underlying hu,Result.andThen,za4 h2 h3]
     rw [if_neg (by omega)]
     by_cases h0:n * (ty P E).size=0
     · rw [if_pos h0]
       rw [h0] at e1 ⊢
       rw [Sem.run_bind]
       simp only [Sem.run_pure,Result.andThen]
       rw [show ((Array.range 0).map ((#[]:Array Value)[· % (#[]:Array Value).size]!))=((Array.range 0).map (z.cells[· % z.cells.size]!)) from by simp]
       simp only [Array.toList_map]
       rw [e1]
       simp [newRow]
     · rw [if_neg h0]
       simp only [Sem.run_bind,hzr,Sem.run_pure,Result.andThen,Array.toList_map]
       rw [e1]
       simp [newRow]
    rw [this]
    rfl
  · refine zkc hs ys E _ n (ty P E).size (ty P E).agg h6 h7 e2 hlen2 e4
end
end Go.Proofs.YtgekknefphagbaaGreatDoor
namespace Go.Proofs.YtgekknefphagbaaGreatDoor
open Go.RowKit
set_option linter.unusedSimpArgs false
set_option linter.unusedVariables false
set_option linter.unusedSectionVars false
theorem ziN {P:Program} (o:Oper) (f f':Operand->V) (h:∀ x,x∈o.op.operands->f x=f' x):val P o f=val P o f'/\(side P o f->side P o f'):=by
 have hl:∀ (parts:Array (Nat×Operand)),(∀ p,p∈parts->f p.2=f' p.2)->(parts.toList.map fun (i,x)=>(i,f x))=(parts.toList.map fun (i,x)=>(i,f' x)):=fun parts hp =>
  List.map_congr_left fun p hp'=>by
   obtain ⟨i,x⟩:=p
   simp only
   rw [hp (i,x) (by simpa using hp')]
 have ha:∀ (l:Array Operand),(∀ p,p∈l->f p=f' p)->l.toList.map f=l.toList.map f':=fun l hp=>List.map_congr_left fun p hp'=>hp p (by simpa using hp')
 unfold val side
 cases hop:o.op with
 | move x=>simp only;rw [h x kxcl];exact ⟨rfl,id⟩
 | assign x=>simp only;rw [h x kxcl];exact ⟨rfl,id⟩
 | pick c a b=>simp only;rw [h c kxcl,h a kxcl,h b kxcl];exact ⟨rfl,id⟩
 | binOp op t x y z=>simp only;rw [h x kxcl,h y kxcl];exact ⟨rfl,id⟩
 | unOp op t x=>simp only;rw [h x kxcl];exact ⟨rfl,id⟩
 | convert s d x=>simp only;rw [h x kxcl];exact ⟨rfl,id⟩
 | nilCheck x=>simp only;rw [h x kxcl];exact ⟨rfl,id⟩
 | load t x=>simp only;rw [h x kxcl];exact ⟨rfl,id⟩
 | fieldAddr s x i=>simp only;rw [h x kxcl];exact ⟨rfl,id⟩
 | field s x i=>simp only;rw [h x kxcl];exact ⟨rfl,id⟩
 | indexAddr t x i=>simp only;rw [h x kxcl,h i kxcl];exact ⟨rfl,id⟩
 | index t x i=>simp only;rw [h x kxcl,h i kxcl];exact ⟨rfl,id⟩
 | extract x i=>simp only;rw [h x kxcl];exact ⟨rfl,id⟩
 | box t x=>simp only;rw [h x kxcl];exact ⟨rfl,id⟩
 | build t parts =>
  simp only
  rw [hl parts fun p hp=>h p.2 kxbp]
  exact ⟨rfl,id⟩
 | buildSlice t n parts =>
  simp only
  rw [hl parts fun p hp=>h p.2 kxbp]
  exact ⟨rfl,id⟩
 | makeFunc fn first cap =>
  simp only
  rw [ha first fun p hp=>h p (by simp [hop,Op.operands,hp]),ha cap fun p hp=>h p (by simp [hop,Op.operands,hp])]
  exact ⟨rfl,id⟩
 | slice t x lo hi mx =>
  cases mx with
  | some m=>exact ⟨rfl,id⟩
  | none =>
   simp only
   have hx:=h x kxcl
   have hlo:lo.map f=lo.map f':=by cases lo with | none=>rfl | some y=>simp only [Option.map_some];rw [h y kxcl]
   have hhi:hi.map f=hi.map f':=by cases hi with | none=>rfl | some y=>simp only [Option.map_some];rw [h y kxcl]
   rw [hx,hlo,hhi]
   exact ⟨rfl,id⟩
 | call c =>
  obtain ⟨callee,args,argTypes⟩:=c
  cases callee with
  | builtin b =>
   have two:∀ (args:Array Operand) (G:V->V->V) (G':V->V->Prop),(∀ x,x∈args->f x=f' x) ->
     (match args.toList with | [x,y]=>G (f x) (f y) | _=>.any)=(match args.toList with | [x,y]=>G (f' x) (f' y) | _=>V.any)/\((match args.toList with | [x,y]=>G' (f x) (f y) | _=>False)->(match args.toList with | [x,y]=>G' (f' x) (f' y) | _=>False)):=fun args G G' h=>by
    obtain ⟨args⟩:=args
    match args with
    | [x,y]=>simp only;rw [h x (by simp),h y (by simp)];exact ⟨rfl,id⟩
    | []=>exact ⟨rfl,id⟩
    | [_]=>exact ⟨rfl,id⟩
    | _::_::_::_=>exact ⟨rfl,id⟩
   cases b<;>first | exact ⟨rfl,id⟩ | skip
   case max=>exact two args (mmV true) mmS fun x hx=>h x (by simp [hop,Op.operands,Call.operands,hx])
   case min=>exact two args (mmV false) mmS fun x hx=>h x (by simp [hop,Op.operands,Call.operands,hx])
   simp only
   obtain ⟨args⟩:=args
   obtain ⟨argTypes⟩:=argTypes
   match args,argTypes with
   | [x],[T]=>simp only;rw [h x kxb6];exact ⟨rfl,id⟩
   | [],_=>exact ⟨rfl,id⟩
   | _::_::_,_=>exact ⟨rfl,id⟩
   | [_],[]=>exact ⟨rfl,id⟩
   | [_],_::_::_=>exact ⟨rfl,id⟩
  | _=>exact ⟨rfl,id⟩
 | _=>exact ⟨rfl,id⟩
end Go.Proofs.YtgekknefphagbaaGreatDoor
namespace Go.Proofs.YtgekknefphagbaaGreatDoor
open Go.RowKit
set_option linter.unusedSimpArgs false
set_option linter.unusedVariables false
set_option linter.unusedSectionVars false
def On (H:Own) (e:Ent) (G:(Ent->Own)->Prop):Prop:=∃ L1 L2,H=L1++e::L2/\G fun x=>L1++x::L2
theorem On.here {H:Own} {e:Ent} {G:(Ent->Own)->Prop} (h:G fun x=>x::H):On (e::H) e G:=⟨[],H,rfl,h⟩
theorem On.mid {L1 L2:Own} {e:Ent} {G:(Ent->Own)->Prop} (h:G fun x=>L1++x::L2):On (L1++e::L2) e G:=⟨L1,L2,rfl,h⟩
theorem On.next {H:Own} {e y:Ent} {G:(Ent->Own)->Prop} (h:On H e fun C=>G fun x=>y::C x):On (y::H) e G:=by
 obtain ⟨L1,L2,rfl,h⟩:=h
 exact ⟨y::L1,L2,rfl,h⟩
theorem On.mono {H:Own} {e:Ent} {G G':(Ent->Own)->Prop} (h:On H e G) (hg:∀ C,G C->G' C):On H e G':=by
 obtain ⟨L1,L2,rfl,h⟩:=h
 exact ⟨L1,L2,rfl,hg _ h⟩
def OnB (H:Own) (b:Nat) (G:List V->(Ent->Own)->Prop):Prop:=∃ cs,On H (.blk b cs) (G cs)
theorem OnB.here {H:Own} {b:Nat} {cs:List V} {G:List V->(Ent->Own)->Prop} (h:G cs fun x=>x::H):OnB (.blk b cs::H) b G:=⟨cs,On.here h⟩
theorem OnB.mid {L1 L2:Own} {b:Nat} {cs:List V} {G:List V->(Ent->Own)->Prop} (h:G cs fun x=>L1++x::L2):OnB (L1 ++ .blk b cs::L2) b G:=⟨cs,On.mid h⟩
theorem OnB.next {H:Own} {b:Nat} {y:Ent} {G:List V->(Ent->Own)->Prop} (h:OnB H b fun cs C=>G cs fun x=>y::C x):OnB (y::H) b G:=by
 obtain ⟨cs,h⟩:=h
 exact ⟨cs,On.next h⟩
theorem Sim.swap {w w':World} {L1 L2:Own} {e0 e1:Ent} (hs:Sim w (L1++e0::L2)) (ho:w'.os=w.os) (ht:w'.tape=w.tape) (hp:w'.output=w.output) (hz:w.heap.size<=w'.heap.size)
  (hb:∀ b,b<w.heap.size->¬ e0.touches b->w'.heap[b]? = w.heap[b]?) (hc:∀ a,(w.cell? a).isSome=true->¬ e0.owns a->w'.cell? a=w.cell? a)
  (h1:∀ b,e1.touches b->e0.touches b\/w.heap.size<=b) (h2:∀ a,e1.owns a->e0.owns a\/w.heap.size<=a.block)
  (hh:(∀ a,stable w (L1++e0::L2) a->stable w' (L1++e1::L2) a/\w'.cell? a=w.cell? a)->e1.holds (stable w' (L1++e1::L2)) w')
  (hdr:w.drawn<=w'.drawn:=by first | exact Nat.le_refl _ | exact Nat.le_succ _ | exact Nat.le_of_eq (zcy _ _ _ _).symm | exact Nat.le_of_eq (drawn_freeze _ _ _).symm)
  (hlo:e1≠loose:=by intro h;cases h) :
  Sim w' (L1++e1::L2)/\Ext w (L1++e0::L2) w' (L1++e1::L2):=by
 have hst:∀ a,stable w (L1++e0::L2) a->stable w' (L1++e1::L2) a/\w'.cell? a=w.cell? a:=fun a ha=>by
  have hn0:¬ e0.owns a:=ha.2 e0 (by simp)
  have e:=hc a ha.1 hn0
  refine ⟨⟨by rw [e];exact ha.1,fun x hx ho=>?_⟩,e⟩
  rcases List.mem_append.1 hx with hx | hx
  · exact ha.2 x (by simp [hx]) ho
  · rcases List.mem_cons.1 hx with hx | hx
    · subst hx
      rcases h2 a ho with h | h
      · exact hn0 h
      · have:=ha.lt;omega
    · exact ha.2 x (by simp [hx]) ho
 have hap:=hs.apart
 rw [List.pairwise_append,List.pairwise_cons] at hap
 obtain ⟨p1,⟨p2,p3⟩,p4⟩:=hap
 have others:∀ x,x∈L1\/x∈L2->(∀ b,x.touches b->¬ e0.touches b)/\x∈L1++e0::L2:=fun x hx=>by
  rcases hx with hx | hx
  · exact ⟨fun b hb h0=>p4 x hx e0 (by simp) b hb h0,by simp [hx]⟩
  · exact ⟨fun b hb h0=>p2 x hx b h0 hb,by simp [hx]⟩
 have hold:∀ x,x∈L1\/x∈L2->x.holds (stable w' (L1++e1::L2)) w':=fun x hx=>by
  obtain ⟨hn,hm⟩:=others x hx
  have hxh:=hs.holds x hm
  exact Ent.holds_mono hxh hst (fun b hxb=>hb b (zcQ hs hm hxb) (hn b hxb))
 have t1:∀ x,x∈L1\/x∈L2->∀ b,x.touches b->¬ e1.touches b:=fun x hx b hxb h=>by
  obtain ⟨hn,hm⟩:=others x hx
  rcases h1 b h with h | h
  · exact hn b hxb h
  · have:=zcQ hs hm hxb;omega
 have hap':(L1++e1::L2).Pairwise (fun e f=>∀ b,e.touches b->¬ f.touches b):=by
  rw [List.pairwise_append,List.pairwise_cons]
  refine ⟨p1,⟨fun x hx b hb hxb=>t1 x (.inr hx) b hxb hb,p3⟩,fun x hx y hy b hxb hyb=>?_⟩
  rcases List.mem_cons.1 hy with hy | hy
  · subst hy;exact t1 x (.inl hx) b hxb hyb
  · exact p4 x hx y (by simp [hy]) b hxb hyb
 refine ⟨⟨fun x hx=>?_,hap'.imp fun {x y} h a hxa hya=>h _ (Ent.touch hxa) (Ent.touch hya),hap'⟩,⟨ho,ht,hp,hz,hst,fun b hlt h=>?_,fun n=>⟨fun h=>?_,hdr⟩⟩⟩
 · rcases List.mem_append.1 hx with hx | hx
   · exact hold x (.inl hx)
   · rcases List.mem_cons.1 hx with hx | hx
     · subst hx;exact hh hst
     · exact hold x (.inr hx)
 · refine ⟨hb b hlt (h e0 (by simp)),fun x hx hxb=>?_⟩
   rcases List.mem_append.1 hx with hx | hx
   · exact h x (by simp [hx]) hxb
   · rcases List.mem_cons.1 hx with hx | hx
     · subst hx
       rcases h1 b hxb with h' | h'
       · exact h e0 (by simp) h'
       · omega
     · exact h x (by simp [hx]) hxb
 · rcases List.mem_append.1 h with h | h
   · exact n (by simp [h])
   · rcases List.mem_cons.1 h with h | h
     · exact hlo h.symm
     · exact n (by simp [h])
theorem Sim.add {w w':World} {H:Own} {e1:Ent} (hs:Sim w H) (ho:w'.os=w.os) (ht:w'.tape=w.tape) (hp:w'.output=w.output) (hz:w.heap.size<=w'.heap.size)
  (hb:∀ b,b<w.heap.size->w'.heap[b]? = w.heap[b]?) (h1:∀ b,e1.touches b->w.heap.size<=b)
  (hh:(∀ a,stable w H a->stable w' (e1::H) a/\w'.cell? a=w.cell? a)->e1.holds (stable w' (e1::H)) w') (hdr:w.drawn<=w'.drawn:=by first | exact Nat.le_refl _ | exact Nat.le_succ _ | exact Nat.le_of_eq (zcy _ _ _ _).symm | exact Nat.le_of_eq (drawn_freeze _ _ _).symm) (hlo:e1≠loose:=by intro h;cases h):Sim w' (e1::H)/\Ext w H w' (e1::H):=by
 have he:Sim w (Ent.tail 0 (.slice none 0 0)::H):=by
  have hS:stable w (Ent.tail 0 (.slice none 0 0)::H)=stable w H:=by
   funext a
   refine propext ⟨fun h=>⟨h.1,fun e he=>h.2 e (by simp [he])⟩,fun h=>⟨h.1,fun e he=>?_⟩⟩
   rcases List.mem_cons.1 he with he | he
   · subst he;exact fun h=>h.elim
   · exact h.2 e he
  refine ⟨fun e he=>?_,?_,?_⟩
  · rw [hS]
    rcases List.mem_cons.1 he with he | he
    · subst he;exact ⟨rfl,rfl⟩
    · exact hs.holds e he
  · exact List.pairwise_cons.2 ⟨fun _ _ _ h=>h.elim,hs.disj⟩
  · exact List.pairwise_cons.2 ⟨fun _ _ _ h=>h.elim,hs.apart⟩
 have hS:∀ a,stable w H a->stable w (Ent.tail 0 (.slice none 0 0)::H) a:=fun a h=>⟨h.1,fun e he=>by
  rcases List.mem_cons.1 he with he | he
  · subst he;exact fun h=>h.elim
  · exact h.2 e he⟩
 obtain ⟨g1,g2⟩:=Sim.swap (L1:=[]) (L2:=H) (e0:=Ent.tail 0 (.slice none 0 0)) (e1:=e1) he ho ht hp hz (fun b hlt _=>hb b hlt) (fun a ha _=>by
  obtain ⟨v,hv⟩:=Option.isSome_iff_exists.1 ha
  exact World.cell?_of_block (w:=w) (hb a.block (World.block_lt_of_cell? w a hv))) (fun b h=>.inr (h1 b h)) (fun a h=>.inr (h1 _ (Ent.touch h))) (fun h=>hh fun a ha=>h a (hS a ha)) hdr hlo
 refine ⟨g1,⟨g2.os,g2.tape,g2.output,g2.size,fun a ha=>g2.cells a (hS a ha),fun b hlt h=>g2.full b hlt fun e he=>?_,fun n=>⟨fun h=>?_,hdr⟩⟩⟩
 · rcases List.mem_cons.1 he with he | he
   · subst he;exact fun h=>h.elim
   · exact h e he
 · rcases List.mem_cons.1 h with h | h
   · exact hlo h.symm
   · exact n h
theorem Sim.addBlk {w:World} {H:Own} (hs:Sim w H) (xs:Array Value) (T:TypeId) (cs:List V) (hn:xs.size=cs.length) (hr:∀ k,k<cs.length->R (stable w H) w (xs.getD k undef) (cs.getD k .any)) :
  Sim (w.alloc (.cells xs T)) (.blk w.heap.size cs::H)/\Ext w H (w.alloc (.cells xs T)) (.blk w.heap.size cs::H) :=
 hs.add rfl rfl rfl (by simp) (fun b hb=>Below.heap_alloc w _ b hb) (fun b h=>Nat.le_of_eq h.symm) fun hst =>
  ⟨xs,T,(0,0),heap_alloc_new w _, .inl rfl,hn,fun k hk=>(hr k hk).mono hst⟩
section
variable {P:Program} {o:Oper} {f:Operand->V} {H:Own} {K:V->Own->Prop}
theorem DOp.step (h:∀ (a:Act) (w:World),Sim w H->(∀ x,x∈o.op.operands->R (stable w H) w (a.eval x) (f x)) ->
  ∃ v w' d H',(execOp a.eval o).run P w = .ok (.value v) w'/\(Sim w' H'/\Ext w H w' H')/\R (stable w' H') w' v d/\K d H'):DOp P o f H K:=fun a w next Q hs hr hn=>by
 obtain ⟨v,w',d,H',h1,⟨h2,h3⟩,h4,h5⟩:=h a w hs hr
 unfold Oper.wp
 rw [h1]
 exact hn v w' d H' h2 h3 h4 h5
theorem DOp.skip_ (h:∀ (a:Act) (w:World),Sim w H->(∀ x,x∈o.op.operands->R (stable w H) w (a.eval x) (f x)) ->
  ∃ w' H',(execOp a.eval o).run P w = .ok .skip w'/\(Sim w' H'/\Ext w H w' H')/\K .any H'):DOp P o f H K:=fun a w next Q hs hr hn=>by
 obtain ⟨w',H',h1,⟨h2,h3⟩,h5⟩:=h a w hs hr
 unfold Oper.wp
 rw [h1]
 exact hn undef w' .any H' h2 h3 (.any _) h5
theorem DOp.alloc_ {t:TypeId} (hop:o.op = .alloc t) (h:(ty P t).zero≠[]/\(ty P t).kind≠0/\(ty P t).kind≠11/\∀ b,K (.raw (.pointer (some ⟨b,0,none⟩))) (.blk b (ty P t).zero::H)):DOp P o f H K :=
 DOp.step fun a w hs hr=>by
  obtain ⟨h0,h1,h2,h⟩:=h
  obtain ⟨i,d,hi,_,_,_,_,hz⟩:=zcF (t:=t) rfl h1 h2
  cases hzz:i.zero with
  | none=>rw [hzz] at hz;exact absurd hz h0
  | some z =>
   obtain ⟨z1,z2⟩:=zdf (P:=P) (S:=stable w H) (w:=w) hi hzz hz
   refine ⟨.pointer (some ⟨w.heap.size,0,none⟩),_,_,_,?_,Sim.addBlk hs z.cells t (ty P t).zero z1 z2, .raw _,h _⟩
   unfold execOp
   rw [hop]
   simp [Instr.alloc,zeroValue,typeInfo,program,Sem.run,hi,hzz,newVar,newRow]
theorem DOp.box_ {t:TypeId} {x:Operand} (hop:o.op = .box t x) (h:(f x).solid=true/\∀ b,K (.raw (.pointer (some ⟨b,0,none⟩))) (.blk b (f x).cs::H)):DOp P o f H K :=
 DOp.step fun a w hs hr=>by
  obtain ⟨h1,h⟩:=h
  obtain ⟨c1,c2⟩:=(hr x kxcl).solid h1
  refine ⟨.pointer (some ⟨w.heap.size,0,none⟩),_,_,_,?_,Sim.addBlk hs (a.eval x).cells t (f x).cs c1 c2, .raw _,h _⟩
  unfold execOp
  rw [hop]
  simp [Instr.box,newVar,newRow]
theorem zk3 {w:World} {L1 L2:Own} {b:Nat} {cs:List V} (hs:Sim w (L1 ++ .blk b cs::L2)):∃ xs T fr,w.heap[b]? = some (.cells xs T fr)/\free fr 0 xs.size/\xs.size=cs.length/\(∀ k,k<cs.length->R (stable w (L1 ++ .blk b cs::L2)) w (xs.getD k undef) (cs.getD k .any)) /\
  ∀ k,k<cs.length->w.cell? ⟨b,k,none⟩=some (xs.getD k undef)/\w.frozen? ⟨b,k,none⟩=false:=by
 obtain ⟨xs,T,fr,h1,h2,h3,h4⟩:=hs.holds (.blk b cs) (by simp)
 refine ⟨xs,T,fr,h1,h2,h3,h4,fun k hk=>⟨?_,?_⟩⟩
 · have hk':k<xs.size:=by omega
   simp [World.cell?,h1,Array.getD_eq_getD_getElem?,hk']
 · have:=h2.at k (Nat.zero_le _) (by omega)
   simp [World.frozen?,h1]
   omega
theorem DOp.load_ {t:TypeId} {x:Operand} {b off:Nat} (hop:o.op = .load t x) (hx:f x = .raw (.pointer (some ⟨b,off,none⟩))) (h:OnB H b fun cs _=>zdO (ty P t) (cs.drop off) 0/\K (zcw (ty P t) (cs.drop off) 0) H):DOp P o f H K:=by
 obtain ⟨cs,L1,L2,rfl,hp,hk⟩:=h
 refine DOp.step fun a w hs hr=>?_
 have hv:=hr x kxcl
 rw [hx] at hv
 have hv:a.eval x = .pointer (some ⟨b,off,none⟩):=by generalize a.eval x=v at hv;cases hv;rfl
 obtain ⟨xs,T,fr,h1,h2,h3,h4,h5⟩:=zk3 hs
 obtain ⟨v,e1,e2⟩:=zcY (P:=P) (S:=stable w (L1 ++ .blk b cs::L2)) (w:=w) (t:=t) (b:=⟨b,off,none⟩) (cs:=cs.drop off) rfl (fun k hk=>by
  rw [List.length_drop] at hk
  simp only
  rw [(h5 (off+k) (by omega)).1];rfl) (fun k hk=>by
  rw [List.length_drop] at hk
  have:=h4 (off+k) (by omega)
  simp only
  rw [zbb,(h5 (off+k) (by omega)).1]
  simpa [List.getD_eq_getElem?_getD,List.getElem?_drop] using this) hp
 refine ⟨v,w,_,_,?_,⟨hs, .refl _ _⟩,e2,hk⟩
 unfold execOp
 rw [hop]
 simp [Instr.loadAt,hv,Instr.sureAddr,e1]
end
theorem zbN (b:Nat):∀ (vs:List Value) (o:Nat) (w:World),(w.setCells b o vs).heap.size=w.heap.size
 | [],_,_=>rfl
 | v::vs,o,w=>by rw [World.setCells];rw [zbN b vs];simp
end Go.Proofs.YtgekknefphagbaaGreatDoor
namespace Go.Proofs.YtgekknefphagbaaGreatDoor
open Go.RowKit
set_option linter.unusedSimpArgs false
set_option linter.unusedVariables false
set_option linter.unusedSectionVars false
theorem zcg (b:Nat):∀ (vs:List Value) (o:Nat) (w:World) (xs:Array Value) (T:TypeId) (fr:Nat×Nat),w.heap[b]? = some (.cells xs T fr)->o+vs.length<=xs.size ->
  ∃ ys,(w.setCells b o vs).heap[b]? = some (.cells ys T fr)/\ys.size=xs.size/\∀ k,ys.getD k undef=if o<=k/\k<o+vs.length then vs.getD (k - o) undef else xs.getD k undef
 | [],o,w,xs,T,fr,h,_=>⟨xs,h,rfl,fun k=>by rw [if_neg (by simp<;>omega)]⟩
 | v::vs,o,w,xs,T,fr,h,hl=>by
  have h1:(w.setCell ⟨b,o,none⟩ v).heap[b]? = some (.cells (xs.setIfInBounds o v) T fr):=by simp [World.setCell,Array.getElem?_modify,h]
  obtain ⟨ys,g1,g2,g3⟩:=zcg b vs (o+1) (w.setCell ⟨b,o,none⟩ v) _ T fr h1 (by simp at hl ⊢;omega)
  refine ⟨ys,g1,by simpa using g2,fun k=>?_⟩
  rw [g3 k]
  simp only [List.length_cons] at hl ⊢
  by_cases hk:k=o
  · subst hk
    rw [if_neg (by omega),if_pos (by omega)]
    simp [Array.getD_eq_getD_getElem?,Array.getElem?_setIfInBounds]
    rw [if_pos (by omega)];rfl
  · by_cases hk2:o+1<=k/\k<o+1+vs.length
    · rw [if_pos hk2,if_pos (by omega),show k - o=(k - (o+1))+1 by omega];rfl
    · rw [if_neg hk2,if_neg (by omega)]
      simp [Array.getD_eq_getD_getElem?,Array.getElem?_setIfInBounds,Ne.symm hk]
theorem zbE (b:Nat):∀ (vs:List Value) (o:Nat) (w:World) (k:Nat),k≠b->(w.setCells b o vs).heap[k]? = w.heap[k]?
 | [],_,_,_,_=>rfl
 | v::vs,o,w,k,h=>by rw [World.setCells,zbE b vs _ _ k h];exact Below.heap_setCell _ _ _ _ h
theorem zbQ (b:Nat):∀ (vs:List Value) (o:Nat) (w:World),(w.setCells b o vs).os=w.os/\(w.setCells b o vs).tape=w.tape/\(w.setCells b o vs).output=w.output
 | [],_,_=>⟨rfl,rfl,rfl⟩
 | v::vs,o,w=>by rw [World.setCells];exact zbQ b vs (o+1) _
theorem ze3 {S:Addr->Prop} {w:World} {v:Value} {d:V} (h:R S w v d) (hd:d.one=true):v.oneCell'=true:=by
 obtain ⟨h1,h2⟩:=h.one_ hd
 cases v<;>first | rfl | exact absurd rfl (h1 _) | exact absurd rfl (h2 _)
section
variable {P:Program} {o:Oper} {f:Operand->V} {H:Own} {K:V->Own->Prop}
theorem DOp.store_ {t:TypeId} {p x:Operand} {b off:Nat} (hop:o.op = .store t p x) (hp:f p = .raw (.pointer (some ⟨b,off,none⟩)))
  (h:OnB H b fun cs C=>(f x).solid=true/\(f x).cs.all V.one=true/\(ty P t).kind≠0/\(ty P t).kind≠11/\(f x).cs.length=(ty P t).size/\off+(ty P t).size<=cs.length/\K .any (C (.blk b (layV cs off (f x).cs)))):DOp P o f H K:=by
 obtain ⟨cs,L1,L2,rfl,h1,h2,h3,h4,h5,h6,hk⟩:=h
 refine DOp.skip_ fun a w hs hr=>?_
 have hv:=hr p kxcl
 rw [hp] at hv
 have hv:a.eval p = .pointer (some ⟨b,off,none⟩):=by generalize a.eval p=v at hv;cases hv;rfl
 have hx:=hr x kxcl
 obtain ⟨c1,c2⟩:=hx.solid h1
 obtain ⟨xs,T,fr,g1,g2,g3,g4,g5⟩:=zk3 hs
 have hone:∀ u∈(a.eval x).cells.toList,u.oneCell'=true:=fun u hu=>by
  obtain ⟨i,hi,rfl⟩:=List.getElem_of_mem hu
  have hi':i<(a.eval x).cells.size:=by simpa using hi
  have:=c2 i (by omega)
  have h1':=List.all_eq_true.1 h2 ((f x).cs[i]'(by omega)) (List.getElem_mem _)
  have e:(f x).cs.getD i .any=(f x).cs[i]'(by omega):=by
   have:i<(f x).cs.length:=by omega
   simp [List.getD_eq_getElem?_getD,this]
  rw [e] at this
  have:=ze3 this h1'
  simpa [Array.getD_eq_getD_getElem?,hi'] using this
 have hrun:=run_storeCells_cells (P:=P) b off (a.eval x).cells.toList 0 w (fun j hj=>by
  simp only [Array.length_toList] at hj
  rw [Nat.add_zero,(g5 (off+j) (by omega)).1];rfl) (fun j hj=>by
  simp only [Array.length_toList] at hj
  rw [Nat.add_zero];exact (g5 (off+j) (by omega)).2) hone
 rw [Nat.add_zero] at hrun
 obtain ⟨ys,y1,y2,y3⟩:=zcg b (a.eval x).cells.toList off w xs T fr g1 (by simp;omega)
 obtain ⟨r1,r2,r3⟩:=zbQ b (a.eval x).cells.toList off w
 obtain ⟨l1,l2⟩:=zkT cs (f x).cs off (by omega)
 refine ⟨w.setCells b off (a.eval x).cells.toList,_,?_,Sim.swap hs (e1:=.blk b (layV cs off (f x).cs)) r1 r2 r3 kxcc (fun k hk hn=>zbE b _ _ _ k fun e=>hn e) (fun q hq hn=>World.cell?_setCells_out b _ _ _ q fun e _=>absurd e hn)
  (fun k h=>.inl h) (fun q h=>.inl h) (fun hst=>?_),hk⟩
 · unfold execOp
   rw [hop]
   simp [Instr.storeAt,hv,Instr.sureAddr,storeVar,za4 h3 h4,c1,h5,hrun]
 · refine ⟨ys,T,fr,y1,by rw [y2];exact g2,by rw [y2,g3,l1],fun k hk=>?_⟩
   rw [y3 k,l2 k]
   rw [l1] at hk
   simp only [Array.length_toList]
   by_cases hk':off<=k/\k<off+(f x).cs.length
   · rw [if_pos hk',if_pos (by omega)]
     have:=(c2 (k - off) (by omega)).mono hst
     simpa [Array.getD_eq_getD_getElem?,List.getD_eq_getElem?_getD] using this
   · rw [if_neg hk',if_neg (by omega)]
     exact (g4 k hk).mono hst
theorem DOp.call_ {c:Operand} {args:Array Operand} {ts:Array TypeId} {k:FuncId} {first caps:List V} (hop:o.op = .call { callee:=.value c,args,argTypes:=ts }) (hc:f c = .fn (.func k) first caps) (h:DC P k (first++args.toList.map f++caps) H K):DOp P o f H K:=by
 intro a w next Q hs hr hn
 have hcv:=hr c kxb6
 rw [hc] at hcv
 generalize hv:a.eval c=v at hcv
 cases hcv with
 | fn _ xs ys _ _ n1 r1 n2 r2 =>
  obtain ⟨he,hcall⟩:=h
  unfold zdL at he
  cases hf:P.funcs[k]? with
  | none=>rw [hf] at he;cases he
  | some fn =>
   rw [hf] at he
   simp only [Bool.and_eq_true,bne_iff_ne,ne_eq] at he
   have hrun:(execOp a.eval o).run P w = .ok (.enter k (xs++args.map a.eval++ys)) w:=by
    unfold execOp
    rw [hop]
    have hb:fn.body≠none:=fun e=>by rw [e] at he;cases he.1
    simp [resolve,hv,Deferred.ofValue,invoke,callFunc,program,Sem.run,hf,he.2,hb]
   unfold Oper.wp
   rw [hrun]
   refine (hcall (xs++args.map a.eval++ys) w hs (by simp;omega) fun j hj=>?_).mono fun e w' ⟨v,d,H',e1,s,x,r,k'⟩=>?_
   · simp only [List.append_assoc] at hj ⊢
     by_cases h1:j<first.length
     · have:=r1 j h1
       simp only [Array.getD_eq_getD_getElem?,List.getD_eq_getElem?_getD] at this ⊢
       rw [List.getElem?_append_left h1,Array.append_assoc,Array.getElem?_append_left (by omega)]
       exact this
     · by_cases h2:j - first.length<args.size
       · have:=hr args[j - first.length] kxb6
         simp only [Array.getD_eq_getD_getElem?,List.getD_eq_getElem?_getD] at this ⊢
         rw [List.getElem?_append_right (by omega),List.getElem?_append_left (by simp;exact h2),Array.append_assoc,Array.getElem?_append_right (by omega),Array.getElem?_append_left (by simp;omega)]
         rw [n1]
         simpa [h2] using this
       · have:=r2 (j - first.length - args.size) (by simp at hj;omega)
         simp only [Array.getD_eq_getD_getElem?,List.getD_eq_getElem?_getD] at this ⊢
         rw [List.getElem?_append_right (by omega),List.getElem?_append_right (by simp;omega),Array.append_assoc,Array.getElem?_append_right (by omega),Array.getElem?_append_right (by simp;omega)]
         rw [n1]
         simpa using this
   · subst e1
     exact hn v w' d H' s x r k'
theorem Sim.tail0 {w:World} (sz:Nat) (hs:Sim w H):Sim w (.tail sz (.slice none 0 0)::H)/\Ext w H w (.tail sz (.slice none 0 0)::H) :=
 hs.add rfl rfl rfl (Nat.le_refl _) (fun _ _=>rfl) (fun _ h=>h.elim) fun _=>⟨rfl,rfl⟩
theorem DOp.tail0 (sz:Nat) (h:DOp P o f (.tail sz (.slice none 0 0)::H) K):DOp P o f H K:=fun a w next Q hs hr hn=>by
 obtain ⟨g1,g2⟩:=hs.tail0 sz
 exact h a w next Q g1 (fun x hx=>g2.rel (hr x hx)) fun v w' d H' s x r k=>hn v w' d H' s (g2.trans x) r k
def srcL:V->Option (List V)
 | .sl l=>some l
 | .gs _ l=>some l
 | .str s=>some (s.map u8)
 | _=>none
theorem zhM {S:Addr->Prop} {w:World} {v:Value} {d:V} {xs:List V} {sz:Nat} (hS:∀ a,S a->(w.cell? a).isSome=true) (h:R S w v d) (hx:srcL d=some xs) (hz:∀ y∈xs,y.n=sz) :
  (Builtin.lenOf v).run P w = .ok xs.length w/\∃ news:List Value,(Builtin.firstCells sz xs.length v).run P w = .ok news.toArray w/\news.length=xs.length * sz /\
    ∀ i k,i<xs.length->k<sz->R S w (news.getD (i * sz+k) undef) ((xs.getD i .any).cell k):=by
 have sl:∀ l,R S w v (.sl l)->l=xs->(Builtin.lenOf v).run P w = .ok xs.length w/\∃ news:List Value,(Builtin.firstCells sz xs.length v).run P w = .ok news.toArray w/\news.length=xs.length * sz /\
   ∀ i k,i<xs.length->k<sz->R S w (news.getD (i * sz+k) undef) ((xs.getD i .any).cell k):=fun l h e=>by
  subst e
  obtain ⟨a,cap,sz',rfl,hc,ha,g1,g2,g3,g4⟩:=h.slc
  refine ⟨by simp [Builtin.lenOf],?_⟩
  cases a with
  | none =>
   rw [ha rfl]
   exact ⟨[],by simp [Builtin.firstCells],by simp,fun i k hi=>absurd hi (Nat.not_lt_zero _)⟩
  | some b =>
   have hsz:∀ i,i<l.length->sz'=sz:=fun i hi=>by
    have:=g2 i hi
    rw [show l.getD i .any=l[i] by simp [List.getD_eq_getElem?_getD,hi]] at this
    rw [<-this];exact hz _ (List.getElem_mem hi)
   refine ⟨(List.range (l.length * sz)).map fun j=>zbb w ⟨b.block,b.off+j,none⟩,?_,by simp,fun i k hi hk=>?_⟩
   · refine run_firstCells_some (P:=P) w sz l.length b l.length cap _ (by simp) fun j u hj=>?_
     have hj':j<l.length * sz:=by
      have:=(List.getElem?_eq_some_iff.1 hj).1
      simpa using this
     rw [zbn b j (g1 b rfl (fun h=>by rw [h] at hj';simp at hj'))]
     have hpos:0<sz:=by
      rcases Nat.eq_zero_or_pos sz with h0 | h0
      · rw [h0] at hj';simp at hj'
      · exact h0
     have hi:j / sz<l.length:=Nat.div_lt_of_lt_mul (by rw [Nat.mul_comm];exact hj')
     have e1:=hsz _ hi
     have:=hS _ (g3 b (j / sz) (j%sz) rfl hi (by rw [e1];exact Nat.mod_lt _ hpos))
     rw [e1] at this
     rw [Nat.add_assoc,show j / sz * sz+j%sz=j by rw [Nat.mul_comm];exact Nat.div_add_mod j sz] at this
     obtain ⟨u',hu'⟩:=Option.isSome_iff_exists.1 this
     rw [List.getElem?_map] at hj
     simp [hj'] at hj
     rw [<-hj,zbb,hu'];rfl
   · have hlt:i * sz+k<l.length * sz:=by
      calc i * sz+k<i * sz+sz:=by omega
       _=(i+1) * sz:=by rw [Nat.add_mul];omega
       _<=l.length * sz:=Nat.mul_le_mul_right _ hi
     have e1:=hsz i hi
     have:=g4 b i k rfl hi (by omega)
     rw [e1] at this
     simpa [List.getD_eq_getElem?_getD,hlt,Nat.add_assoc] using this
 cases d with
 | sl l=>exact sl l h (by injection hx)
 | gs u l=>exact sl l (by cases h with | gs v l h=>exact h) (by injection hx)
 | str s =>
  injection hx with hx
  subst hx
  have hv:v = .string (bs s):=by cases h;rfl
  subst hv
  refine ⟨by simp [Builtin.lenOf,zdk],?_⟩
  refine ⟨s.map fun b=>.int .u8 (b.toNat:Nat),?_,?_,fun i k hi hk=>?_⟩
  · have:(bs s).extract 0 (s.map u8).length=bs s:=by
     rw [List.length_map,<-zdk s];exact ByteArray.extract_zero_size
    simp only [Builtin.firstCells,this,Sem.run_pure]
    congr 1
    simp [bs]
  · by_cases h0:s=[]
    · subst h0;simp
    · have:sz=1:=by
       obtain ⟨c,s',rfl⟩:=List.exists_cons_of_ne_nil h0
       exact (hz (u8 c) (by simp)).symm
      subst this;simp
  · have hi':i<s.length:=by simpa using hi
    have:sz=1:=(hz (u8 s[i]) (List.mem_map_of_mem (List.getElem_mem hi'))).symm.trans rfl
    subst this
    have hk0:k=0:=by omega
    subst hk0
    simp [List.getD_eq_getElem?_getD,hi',u8,V.cell]
    exact .int _ _
 | _=>cases hx
theorem zim {w:World} {b k:Nat} {xs:Array Value} {T:TypeId} {fr:Nat×Nat} (h:w.heap[b]? = some (.cells xs T fr)) (hk:¬ (fr.1<=k/\k<fr.2)):w.frozen? ⟨b,k,none⟩=false:=by
 obtain ⟨lo,hi⟩:=fr
 unfold World.frozen?
 simp only [h]
 simp at hk ⊢
 exact hk
structure AppS (P:Program) (sT xT:TypeId) (l xs:List V):Prop where
 k:(ty P sT).kind=4
 e0:(ty P (ty P sT).elem).kind≠0
 e1:(ty P (ty P sT).elem).kind≠11
 x0:(ty P xT).kind≠0
 x1:(ty P xT).kind≠11
 x2:(ty P xT).kind≠2
 pos:0<(ty P (ty P sT).elem).size
 zero:(ty P (ty P sT).elem).zero.length=(ty P (ty P sT).elem).size
 room:(l.length+xs.length) * (ty P (ty P sT).elem).bytes<=140737488355328
 len:l.length+xs.length<=4611686018427387904
 old:∀ y∈l,y.n=(ty P (ty P sT).elem).size
 new:∀ y∈xs,y.n=(ty P (ty P sT).elem).size/\y.cs.all V.one=true
theorem zeL {i k n sz:Nat} (hi:i<n) (hk:k<sz):i * sz+k<n * sz:=by
 calc i * sz+k<i * sz+sz:=by omega
  _=(i+1) * sz:=by rw [Nat.add_mul];omega
  _<=n * sz:=Nat.mul_le_mul_right _ hi
theorem znq {t:TypeId} {w:World} (h0:(ty P t).kind≠0) (h1:(ty P t).kind≠11) (h2:(ty P t).kind≠2):∃ d,P.underlying t=some d/\∀ k,d ≠ .int k:=by
 obtain ⟨i,d,hi,hd,he,_⟩:=zcF (t:=t) rfl h0 h1
 exact ⟨d,hd,fun k e=>by subst e;rw [he] at h2;exact h2 rfl⟩
theorem DOp.append_ {s x:Operand} {sT xT:TypeId} {v:Value} {l xs:List V} {d:V} (hop:o.op = .call { callee:=.builtin .append,args:=#[s,x],argTypes:=#[sT,xT] }) (hfs:f s = .gs v l) (hfx:srcL (f x)=some xs)
  (h:On H (.tail (ty P (ty P sT).elem).size v) fun C=>AppS P sT xT l xs/\∀ v',K (.gs v' (l++xs)) (C (.tail (ty P (ty P sT).elem).size v'))):DOp P o f H K:=by
 obtain ⟨L1,L2,rfl,hA,hk⟩:=h
 generalize hE:(ty P sT).elem=E at *
 refine DOp.step fun a w hs hr=>?_
 have hS:∀ q,stable w (L1 ++ .tail (ty P E).size v::L2) q->(w.cell? q).isSome=true:=fun q hq=>hq.1
 have hvs:=hr s kxb6
 rw [hfs] at hvs
 have hvv:a.eval s=v:=by generalize a.eval s=u at hvs;cases hvs;rfl
 rw [hvv] at hvs
 have hvs:R (stable w (L1 ++ .tail (ty P E).size v::L2)) w v (.sl l):=by cases hvs with | gs v l h=>exact h
 obtain ⟨base,cap,sz0,hv,hcap,hnil,b1,b2,b3,b4⟩:=hvs.slc
 subst hv
 obtain ⟨hA0,hA1,hA2,hA3,hA4,hA5,hA6,hA7,hA8,hA9,hA10,hA11⟩:=hA
 rw [hE] at hA1 hA2 hA6 hA7 hA8 hA10 hA11
 generalize hsz:(ty P E).size=sz at *
 obtain ⟨x1,news,x2,x3,x4⟩:=zhM (P:=P) hS (hr x kxb6) hfx (fun y hy=>(hA11 y hy).1)
 have hsz0:∀ i,i<l.length->sz0=sz:=fun i hi=>by
  have:=b2 i hi
  rw [show l.getD i .any=l[i] by simp [List.getD_eq_getElem?_getD,hi]] at this
  rw [<-this];exact hA10 _ (List.getElem_mem hi)
 have hu:=zaT hA0
 rw [hE] at hu
 have hEsz:(sizeOf E).run P w = .ok sz w:=by rw [za4 hA1 hA2,hsz]
 obtain ⟨dx,hdx,hdi⟩:=znq (w:=w) hA3 hA4 hA5
 have hm:(dx matches .int _)=false:=by cases dx<;>first | rfl | exact absurd rfl (hdi _)
 have hget:∀ i,(l++xs).getD i .any=if i<l.length then l.getD i .any else xs.getD (i - l.length) .any:=fun i=>by
  simp only [List.getD_eq_getElem?_getD]
  split
  · rename_i hi;rw [List.getElem?_append_left hi]
  · rename_i hi;rw [List.getElem?_append_right (by omega)]
 have hall:∀ i,i<(l++xs).length->((l++xs).getD i .any).n=sz:=fun i hi=>by
  rw [hget]
  simp only [List.length_append] at hi
  split
  · rename_i h;rw [show l.getD i .any=l[i] by simp [List.getD_eq_getElem?_getD,h]];exact hA10 _ (List.getElem_mem h)
  · rename_i h
    have h':i - l.length<xs.length:=by omega
    rw [show xs.getD (i - l.length) .any=xs[i - l.length] by simp [List.getD_eq_getElem?_getD,h']]
    exact (hA11 _ (List.getElem_mem h')).1
 by_cases hfit:l.length+xs.length<=cap
 ·
   cases base with
   | none =>
    have hl0:=hnil rfl
    have htail:=hs.holds (.tail sz (.slice none l.length cap)) (by simp)
    obtain ⟨t1,t2⟩:=htail
    subst t2
    have hx0:xs=[]:=List.eq_nil_of_length_eq_zero (by omega)
    subst hx0
    subst hl0
    refine ⟨_,w, .gs _ ([]++[]),_,?_,⟨hs, .refl _ _⟩, .gs _ _ (by simpa using hvs),hk _⟩
    unfold execOp
    rw [hop]
    have hn0:news=[]:=List.eq_nil_of_length_eq_zero (by simpa using x3)
    subst hn0
    have x1':(Builtin.lenOf (a.eval x)).run P w = .ok 0 w:=x1
    have x2':(Builtin.firstCells sz 0 (a.eval x)).run P w = .ok #[] w:=x2
    simp [resolve,invoke,Go.builtin,Builtin.append_,hvv,run_underlying hu,run_underlying hdx,hm,hEsz,x1',x2']
   | some b =>
    have htail:=hs.holds (.tail sz (.slice (some b) l.length cap)) (by simp)
    by_cases hcz:cap=0
    · subst hcz
      have hx0:xs=[]:=List.eq_nil_of_length_eq_zero (by omega)
      have hl0:l=[]:=List.eq_nil_of_length_eq_zero (by omega)
      subst hx0
      subst hl0
      have hn0:news=[]:=List.eq_nil_of_length_eq_zero (by simpa using x3)
      subst hn0
      refine ⟨_,w, .gs _ ([]++[]),_,?_,⟨hs, .refl _ _⟩, .gs _ _ (by simpa using hvs),hk _⟩
      unfold execOp
      rw [hop]
      have x1':(Builtin.lenOf (a.eval x)).run P w = .ok 0 w:=x1
      have x2':(Builtin.firstCells sz 0 (a.eval x)).run P w = .ok #[] w:=x2
      simp [resolve,invoke,Go.builtin,Builtin.append_,hvv,run_underlying hu,run_underlying hdx,hm,hEsz,x1',x2',storeCells]
    obtain ⟨t2,htail⟩:=htail
    obtain ⟨t1,ys,T,fr,g1,g2,g3⟩:=htail hcz
    obtain ⟨bb,bo,bs'⟩:=b
    simp only at t1
    subst t1
    have g3:bo+cap * sz<=ys.size:=g3
    have hone:∀ u∈news,u.oneCell'=true:=fun u hu'=>by
     obtain ⟨j,hj,rfl⟩:=List.getElem_of_mem hu'
     rw [x3] at hj
     have hi:j / sz<xs.length:=Nat.div_lt_of_lt_mul (by rw [Nat.mul_comm];exact hj)
     have hm':=Nat.mod_lt j hA6
     have:=x4 (j / sz) (j%sz) hi hm'
     rw [show j / sz * sz+j%sz=j by rw [Nat.mul_comm];exact Nat.div_add_mod j sz] at this
     have hin:=hA11 _ (List.getElem_mem hi)
     have e:xs.getD (j / sz) .any=xs[j / sz]:=by simp [List.getD_eq_getElem?_getD,hi]
     rw [e] at this
     have hlt:j%sz<(xs[j / sz]).cs.length:=by rw [cs_n,hin.1];exact hm'
     rw [zhV _ _ hlt] at this
     have e2:(xs[j / sz]).cs.getD (j%sz) .any=(xs[j / sz]).cs[j%sz]:=by simp [List.getD_eq_getElem?_getD,hlt]
     rw [e2] at this
     have h1:=ze3 this (List.all_eq_true.1 hin.2 _ (List.getElem_mem hlt))
     have e3:news.getD j undef=news[j]'(by rw [x3];exact hj):=by simp [List.getD_eq_getElem?_getD,x3,hj]
     rw [e3] at h1
     exact h1
    have hcells:∀ j,j<news.length->bo+l.length * sz+j<ys.size/\bo+l.length * sz+j<bo+cap * sz:=fun j hj=>by
     rw [x3] at hj
     have:l.length * sz+xs.length * sz<=cap * sz:=by rw [<-Nat.add_mul];exact Nat.mul_le_mul_right _ hfit
     omega
    have hc1:∀ k,k<ys.size->w.cell? ⟨bb,k,none⟩=some (ys.getD k undef):=fun k hk=>by simp [World.cell?,g1,Array.getD_eq_getD_getElem?,hk]
    have hrun:=run_storeCells_cells (P:=P) bb (bo+l.length * sz) news 0 w (fun j hj=>by
     rw [Nat.add_zero,hc1 _ (hcells j hj).1];rfl) (fun j hj=>by
     rw [Nat.add_zero]
     exact zim g1 (g2.at (bo+l.length * sz+j) (by simp only;omega) (hcells j hj).2)) hone
    rw [Nat.add_zero] at hrun
    obtain ⟨zs,z1,z2,z3⟩:=zcg bb news (bo+l.length * sz) w ys T fr g1 (by
     have:l.length * sz+xs.length * sz<=cap * sz:=by rw [<-Nat.add_mul];exact Nat.mul_le_mul_right _ hfit
     rw [x3];omega)
    obtain ⟨r1,r2,r3⟩:=zbQ bb news (bo+l.length * sz) w
    have hsw:=Sim.swap (w':=w.setCells bb (bo+l.length * sz) news) hs (e1:=.tail sz (.slice (some ⟨bb,bo,none⟩) (l.length+xs.length) cap)) r1 r2 r3 kxcc
     (fun k hk hn=>zbE bb _ _ _ k fun e=>hn ⟨e,hcz⟩) (fun q hq hn=>World.cell?_setCells_out bb _ _ _ q fun e1 e2=>by
       have hn':¬ (q.block=bb/\bo+l.length * sz<=q.off/\q.off<bo+cap * sz):=hn
       have:l.length * sz+xs.length * sz<=cap * sz:=by rw [<-Nat.add_mul];exact Nat.mul_le_mul_right _ hfit
       rw [x3];omega)
     (fun k h=>.inl h) (fun q h=>.inl (by
       have h':q.block=bb/\bo+(l.length+xs.length) * sz<=q.off/\q.off<bo+cap * sz:=h
       rw [Nat.add_mul] at h'
       exact ⟨h'.1,by simp only;omega,h'.2.2⟩)) (fun hst=>by
       refine ⟨hfit,fun _=>⟨rfl,zs,T,fr,z1,g2,by rw [z2];exact g3⟩⟩)
    refine ⟨_,_, .gs (.slice (some ⟨bb,bo,none⟩) (l.length+xs.length) cap) (l++xs),_,?_,hsw, .gs _ _ ?_,hk _⟩
    · unfold execOp
      rw [hop]
      have hadd:(⟨bb,bo,none⟩:Addr).add (l.length * sz)=⟨bb,bo+l.length * sz,none⟩:=zbn _ _ rfl
      simp [resolve,invoke,Go.builtin,Builtin.append_,hvv,run_underlying hu,run_underlying hdx,hm,hEsz,x1,x2,hfit,hadd,hrun]
    · have hcell2:∀ k,k<ys.size->(w.setCells bb (bo+l.length * sz) news).cell? ⟨bb,k,none⟩=some (zs.getD k undef):=fun k hk=>by
       simp [World.cell?,z1,Array.getD_eq_getD_getElem?,z2,hk]
      have hfree:∀ k,k<bo+(l.length+xs.length) * sz->k<ys.size->bo<=k->stable (w.setCells bb (bo+l.length * sz) news) (L1 ++ .tail sz (.slice (some ⟨bb,bo,none⟩) (l.length+xs.length) cap)::L2) ⟨bb,k,none⟩:=fun k hk hky hbk=>by
       refine ⟨by rw [hcell2 k hky];rfl,fun e he ho=>?_⟩
       have hap:=hs.apart
       rw [List.pairwise_append,List.pairwise_cons] at hap
       obtain ⟨p1,⟨p2,p3⟩,p4⟩:=hap
       have htb:Ent.touches (.tail sz (.slice (some ⟨bb,bo,none⟩) l.length cap)) bb:=⟨rfl,hcz⟩
       rcases List.mem_append.1 he with he | he
       · exact p4 e he _ (by simp) bb (Ent.touch ho) htb
       · rcases List.mem_cons.1 he with he | he
         · subst he
           have ho':bb=bb/\bo+(l.length+xs.length) * sz<=k/\k<bo+cap * sz:=ho
           omega
         · exact p2 e he bb htb (Ent.touch ho)
      have hbnd:∀ i k,i<(l++xs).length->k<sz->bo+i * sz+k<bo+(l.length+xs.length) * sz/\bo+i * sz+k<ys.size:=fun i k hi hk=>by
       rw [List.length_append] at hi
       have:=zeL hi hk
       have h2:(l.length+xs.length) * sz<=cap * sz:=Nat.mul_le_mul_right _ hfit
       omega
      refine .sl _ _ _ _ sz (by simp) hfit (fun h=>nomatch h) (fun b hb _=>by injection hb with hb;subst hb;rfl) hall (fun b i k hb hi hk=>?_) (fun b i k hb hi hk=>?_)
      · injection hb with hb;subst hb
        have:=hbnd i k hi hk
        exact hfree (bo+i * sz+k) this.1 this.2 (by omega)
      · injection hb with hb;subst hb
        have hb2:=hbnd i k hi hk
        simp only
        rw [zbb,hcell2 _ hb2.2,Option.getD_some,z3,hget]
        by_cases hil:i<l.length
        · have h1:=zeL hil hk
          rw [if_neg (by omega),if_pos hil]
          have:=b4 ⟨bb,bo,none⟩ i k rfl hil (by rw [hsz0 i hil];exact hk)
          rw [hsz0 i hil,zbb,hc1 _ hb2.2,Option.getD_some] at this
          exact hsw.2.rel this
        · rw [List.length_append] at hi
          have hi2:i - l.length<xs.length:=by omega
          have h1:=zeL hi2 hk
          have e1:i * sz=l.length * sz+(i - l.length) * sz:=by rw [<-Nat.add_mul];congr 1;omega
          rw [if_pos (by rw [x3];omega),if_neg hil]
          have:=x4 (i - l.length) k hi2 hk
          rw [show bo+i * sz+k - (bo+l.length * sz)=(i - l.length) * sz+k by omega]
          exact hsw.2.rel this
 ·
   have hneed:cap<l.length+xs.length:=by omega
   have hgrow:=growslice_fits hneed hA8
   obtain ⟨i,d',hi,_,_,_,hby,hz⟩:=zcF (t:=E) rfl hA1 hA2
   cases hzz:i.zero with
   | none=>rw [hzz] at hz;simp [hz] at hA7;omega
   | some z =>
    obtain ⟨zr1,zr2⟩:=zdf (P:=P) (S:=stable w (L1 ++ .tail sz (.slice base l.length cap)::L2)) (w:=w) hi hzz hz
    have hzr:∀ w,(zeroValue E).run P w = .ok z w:=fun w=>by simp [zeroValue,typeInfo,program,Sem.run,hi,hzz]
    have hti:∀ w,(typeInfo E).run P w = .ok i w:=fun w=>by simp [typeInfo,program,Sem.run,hi]
    have hold:∃ olds:List Value,(Builtin.firstCells sz l.length (.slice base l.length cap)).run P w.drew = .ok olds.toArray w.drew/\olds.length=l.length * sz /\
      ∀ i k,i<l.length->k<sz->R (stable w (L1 ++ .tail sz (.slice base l.length cap)::L2)) w (olds.getD (i * sz+k) undef) ((l.getD i .any).cell k):=by
     cases base with
     | none =>
      have h0:=hnil rfl
      subst h0
      exact ⟨[],by simp [Builtin.firstCells],by simp,fun i k hi=>absurd hi (Nat.not_lt_zero _)⟩
     | some b =>
      refine ⟨(List.range (l.length * sz)).map fun j=>zbb w ⟨b.block,b.off+j,none⟩,?_,by simp,fun i k hi hk=>?_⟩
      · refine run_firstCells_some (P:=P) w.drew sz l.length b l.length cap _ (by simp) fun j u hj=>?_
        have hj':j<l.length * sz:=by
         have:=(List.getElem?_eq_some_iff.1 hj).1
         simpa using this
        rw [zbn b j (b1 b rfl (fun h=>by rw [h] at hj';simp at hj'))]
        have hii:j / sz<l.length:=Nat.div_lt_of_lt_mul (by rw [Nat.mul_comm];exact hj')
        have e1:=hsz0 _ hii
        have hst:=b3 b (j / sz) (j%sz) rfl hii (by rw [e1];exact Nat.mod_lt _ hA6)
        rw [e1] at hst
        rw [Nat.add_assoc,show j / sz * sz+j%sz=j by rw [Nat.mul_comm];exact Nat.div_add_mod j sz] at hst
        obtain ⟨u',hu'⟩:=Option.isSome_iff_exists.1 hst.1
        rw [List.getElem?_map] at hj
        simp [hj'] at hj
        rw [World.cell?_drew,<-hj,zbb,hu'];rfl
      · have hlt:=zeL hi hk
        have e1:=hsz0 i hi
        have:=b4 b i k rfl hi (by omega)
        rw [e1] at this
        simpa [List.getD_eq_getElem?_getD,hlt,Nat.add_assoc] using this
    obtain ⟨olds,o1,o2,o3⟩:=hold
    have hdr:=hs.drew
    obtain ⟨_,news',x2',x3',x4'⟩:=zhM (P:=P) (fun q (hq:stable w.drew _ q)=>hq.1) (hdr.2.rel (hr x kxb6)) hfx (fun y hy=>(hA11 y hy).1)
    have hge:=grownCap_ge w (l.length+xs.length) cap E
    generalize hcapn:grownCap w (l.length+xs.length) cap E=newCap at *
    have hrest:=size_zeroCells z.cells (newCap - (l.length+xs.length))
    generalize hrs:Builtin.zeroCells z.cells (newCap - (l.length+xs.length))=rest at *
    have hzc:z.cells.size=sz:=zr1.trans hA7
    have hsize:(olds.toArray++news'.toArray++rest).size=newCap * sz:=by
     simp only [Array.size_append,List.size_toArray,o2,x3',hrest,hzc,<-Nat.add_mul]
     congr 1;omega
    have hv1:∀ i k,i<l.length->k<sz->(olds.toArray++news'.toArray++rest).getD (i * sz+k) undef=olds.getD (i * sz+k) undef:=fun i k hi hk=>by
     have:=zeL hi hk
     simp only [Array.getD_eq_getD_getElem?,List.getD_eq_getElem?_getD]
     rw [Array.append_assoc,Array.getElem?_append_left (by simp;omega)]
     simp
    have hv2:∀ i k,i<xs.length->k<sz->(olds.toArray++news'.toArray++rest).getD ((l.length+i) * sz+k) undef=news'.getD (i * sz+k) undef:=fun i k hi hk=>by
     have:=zeL hi hk
     have e1:(l.length+i) * sz+k=l.length * sz+(i * sz+k):=by rw [Nat.add_mul];omega
     simp only [Array.getD_eq_getD_getElem?,List.getD_eq_getElem?_getD]
     rw [Array.append_assoc,e1,Array.getElem?_append_right (by simp;omega),Array.getElem?_append_left (by simp;omega)]
     simp [o2]
    generalize hA:olds.toArray++news'.toArray++rest=row at *
    have hin:∀ b e,e∈L1 ++ .tail sz (.slice base l.length cap)::L2->e.touches b->b<w.heap.size:=fun b e he ht=>zcQ hs he ht
    have hsw:=Sim.swap (w':=w.drew.alloc (.cells row E)) hs (e1:=.tail sz (.slice (some ⟨w.heap.size,0,none⟩) (l.length+xs.length) newCap)) rfl rfl rfl (by simp) (fun b hb _=>Below.heap_alloc w.drew _ b hb)
     (fun q hq _=>by
       obtain ⟨u,hu⟩:=Option.isSome_iff_exists.1 hq
       exact World.cell?_of_block (w:=w) (Below.heap_alloc w.drew _ q.block (World.block_lt_of_cell? w q hu)))
     (fun b h=>.inr (Nat.le_of_eq h.1.symm)) (fun q h=>.inr (Nat.le_of_eq h.1.symm)) (fun hst=>⟨hge,fun _=>⟨rfl,row,E,(0,0),heap_alloc_new w.drew _, .inl rfl,by simp only [hsize,Nat.zero_add];exact Nat.le_refl _⟩⟩)
    refine ⟨.slice (some ⟨w.heap.size,0,none⟩) (l.length+xs.length) newCap,w.drew.alloc (.cells row E), .gs _ (l++xs),_,?_,hsw, .gs _ _ ?_,hk _⟩
    · unfold execOp
      rw [hop]
      have hg2:¬ 281474976710656<Builtin.nextslicecap (l.length+xs.length) cap * i.bytes:=by rw [<-hby];omega
      have hzd:(zeroValue E).run P w.drew = .ok z w.drew:=hzr w.drew
      have htd:(typeInfo E).run P w.drew = .ok i w.drew:=hti w.drew
      have hask:(askRoom (newCap * i.bytes)).run P w.drew = .ok () w.drew:=by unfold askRoom;split<;>rfl
      unfold grownCap at hcapn
      simp [resolve,invoke,Go.builtin,Builtin.append_,hvv,run_underlying hu,run_underlying hdx,hm,hEsz,x1,hfit,hti,hg2,Question.forced,hcapn,hask,o1,x2',hzd,hrs,newRow]
      rw [if_neg fun h=>by have:=h.1;omega,<-hA,Array.append_assoc]
    · have hcell:∀ k,k<row.size->(w.drew.alloc (.cells row E)).cell? ⟨w.heap.size,k,none⟩=some (row.getD k undef):=fun k hk=>by
       rw [show w.heap.size=w.drew.heap.size from rfl,World.cell?_alloc_new]
       simp [Array.getD_eq_getD_getElem?,hk]
      have hlt:∀ i k,i<(l++xs).length->k<sz->i * sz+k<row.size/\i * sz+k<(l.length+xs.length) * sz:=fun i k hi hk=>by
       rw [List.length_append] at hi
       have h1:=zeL hi hk
       have h2:(l.length+xs.length) * sz<=newCap * sz:=Nat.mul_le_mul_right _ hge
       rw [hsize];omega
      refine .sl _ _ _ _ sz (by simp) hge (fun h=>nomatch h) (fun b hb _=>by injection hb with hb;subst hb;rfl) hall (fun b i k hb hi hk=>?_) (fun b i k hb hi hk=>?_)
      · injection hb with hb;subst hb
        have h1:=hlt i k hi hk
        simp only [Nat.zero_add]
        refine ⟨by rw [hcell _ h1.1];rfl,fun e he ho=>?_⟩
        rcases List.mem_append.1 he with he | he
        · exact absurd (hin _ e (by simp [he]) (Ent.touch ho)) (Nat.lt_irrefl _)
        · rcases List.mem_cons.1 he with he | he
          · subst he
            have h2:0+(l.length+xs.length) * sz<=i * sz+k:=ho.2.1
            omega
          · exact absurd (hin _ e (by simp [he]) (Ent.touch ho)) (Nat.lt_irrefl _)
      · injection hb with hb;subst hb
        have h1:=hlt i k hi hk
        simp only [Nat.zero_add]
        rw [zbb,hcell _ h1.1,Option.getD_some,hget]
        by_cases hil:i<l.length
        · rw [if_pos hil,hv1 i k hil hk]
          exact hsw.2.rel (o3 i k hil hk)
        · rw [List.length_append] at hi
          have hi2:i - l.length<xs.length:=by omega
          rw [if_neg hil]
          have e:=hv2 (i - l.length) k hi2 hk
          rw [show l.length+(i - l.length)=i by omega] at e
          rw [e]
          have:=x4' (i - l.length) k hi2 hk
          exact this.mono fun q hq=>hsw.2.cells q hq
theorem DOp.append0_ {s x:Operand} {sT xT:TypeId} {xs:List V} (hop:o.op = .call { callee:=.builtin .append,args:=#[s,x],argTypes:=#[sT,xT] }) (hfs:f s = .gs (.slice none 0 0) []) (hfx:srcL (f x)=some xs)
  (h:AppS P sT xT [] xs/\∀ v',K (.gs v' xs) (.tail (ty P (ty P sT).elem).size v'::H)):DOp P o f H K :=
 DOp.tail0 (ty P (ty P sT).elem).size (DOp.append_ (d:=.any) hop hfs hfx (On.here h))
end
end Go.Proofs.YtgekknefphagbaaGreatDoor
namespace Go.Proofs.YtgekknefphagbaaGreatDoor
open Go.RowKit
set_option linter.unusedSimpArgs false
set_option linter.unusedVariables false
set_option linter.unusedSectionVars false
def isF (own:List Nat) (o:Oper) (f:Operand->V):Bool :=
 match o.op with
 | .move _ | .assign _ | .pick .. | .binOp .. | .unOp .. | .nilCheck _ | .fieldAddr .. | .field .. | .indexAddr .. | .index .. | .extract .. | .build .. | .makeFunc ..=>true
 | .slice _ _ _ _ none=>true
 | .load _ x=>match f x with
  | .sp _=>true
  | _=>false
 | .convert .. | .box .. | .buildSlice ..=>match o.dst with
  | some d=>!own.contains d
  | none=>false
 | .call { callee:=.builtin .len, .. }=>match o.dst with
  | some d=>!own.contains d
  | none=>true
 | .call { callee:=.builtin .max, .. } | .call { callee:=.builtin .min, .. }=>true
 | _=>false
def gd:V->Prop->Prop->Prop
 | .bool b,x,y=>if b=true then x else y
 | .tup _,_,y=>y
 | _,_,_=>False
def gf:V->Prop->Prop->Prop
 | .bool b,x,y=>if b=true then x else y
 | .tup _,x,_=>x
 | _,_,_=>False
theorem zjj (l:List V) (x y:Prop):gd (.tup l) x y=y:=rfl
theorem ziZ (l:List V) (x y:Prop):gf (.tup l) x y=x:=rfl
theorem zet (x y:Prop):gf (.bool true) x y=x:=by simp [gf]
theorem zd7 (x y:Prop):gf (.bool false) x y=y:=by simp [gf]
@[congr] theorem gf_congr {v v':V} (x y:Prop) (h:v=v'):gf v x y=gf v' x y:=by rw [h]
theorem zez (x y:Prop):gd (.bool true) x y=x:=by simp [gd]
theorem zd1 (x y:Prop):gd (.bool false) x y=y:=by simp [gd]
@[congr] theorem gd_congr {v v':V} (x y:Prop) (h:v=v'):gd v x y=gd v' x y:=by rw [h]
def FV (P:Program) (own:List Nat) (ops:Array Oper) (K:List Oper->Env->Prop):List Oper->Env->Prop
 | [],e=>K [] e
 | o::rest,e=>match o.guard with
  | none=>if isF own o (opd e)=true then side P o (opd e)/\FV P own ops K rest (putO e o.dst (val P o (opd e))) else K (o::rest) e
  | some (j,true)=>gd (gval ops e j) (if isF own o (opd e)=true then side P o (opd e)/\FV P own ops K rest (putO e o.dst (val P o (opd e))) else K (o::rest) e) (FV P own ops K rest (putO e o.dst (.tup [])))
  | some (j,false)=>gf (gval ops e j) (FV P own ops K rest (putO e o.dst (.tup []))) (if isF own o (opd e)=true then side P o (opd e)/\FV P own ops K rest (putO e o.dst (val P o (opd e))) else K (o::rest) e)
section
variable {P:Program} {own:List Nat} {ops:Array Oper} {K:Env->Own->Prop} {e:Env} {H:Own}
theorem SeqD.one {o:Oper} {rest:List Oper} (hs:side P o (opd e)) (h:SeqD P ops K rest (putO e o.dst (val P o (opd e))) H):DOp P o (opd e) H fun d H'=>SeqD P ops K rest (putO e o.dst d) H' :=
 (zeH hs).mono fun d H' ⟨hd,hH⟩=>by subst hd;subst hH;exact h
theorem SeqD.go:∀ (l:List Oper) (e:Env),FV P own ops (fun l' e'=>SeqD P ops K l' e' H) l e->SeqD P ops K l e H
 | [],e,h=>h
 | o::rest,e,h=>by
  have run:(if isF own o (opd e)=true then side P o (opd e)/\FV P own ops (fun l' e'=>SeqD P ops K l' e' H) rest (putO e o.dst (val P o (opd e))) else SeqD P ops K (o::rest) e H)->(SeqD P ops K (o::rest) e H\/DOp P o (opd e) H fun d H'=>SeqD P ops K rest (putO e o.dst d) H'):=fun h=>by
   split at h
   · exact .inr (SeqD.one h.1 (SeqD.go rest _ h.2))
   · exact .inl h
  unfold FV at h
  cases hg:o.guard with
  | none =>
   rw [hg] at h
   rcases run h with h | h
   · exact h
   · unfold SeqD;rw [hg];exact h
  | some jw =>
   obtain ⟨j,want⟩:=jw
   rw [hg] at h
   cases want with
   | true =>
    simp only at h
    cases hb:gval ops e j with
    | bool b =>
     rw [hb] at h
     cases b with
     | true =>
      rw [zez] at h
      rcases run h with h | h
      · exact h
      · unfold SeqD;rw [hg];simp only;rw [hb];unfold onB;simp only [if_true];exact h
     | false =>
      rw [zd1] at h
      unfold SeqD;rw [hg];simp only;rw [hb];unfold onB;simp only [Bool.false_eq_true,if_false];exact SeqD.go rest _ h
    | tup ds=>rw [hb,zjj] at h;unfold SeqD;rw [hg];simp only;rw [hb];unfold onB;simp only;exact SeqD.go rest _ h
    | _=>rw [hb] at h;exact h.elim
   | false =>
    simp only at h
    cases hb:gval ops e j with
    | bool b =>
     rw [hb] at h
     cases b with
     | true =>
      rw [zet] at h
      unfold SeqD;rw [hg];simp only;rw [hb];unfold onB;simp only [Bool.true_eq_false,if_false];exact SeqD.go rest _ h
     | false =>
      rw [zd7] at h
      rcases run h with h | h
      · exact h
      · unfold SeqD;rw [hg];simp only;rw [hb];unfold onB;simp only [if_true];exact h
    | tup ds=>rw [hb,ziZ] at h;unfold SeqD;rw [hg];simp only;rw [hb];unfold onB;simp only;exact SeqD.go rest _ h
    | _=>rw [hb] at h;exact h.elim
theorem SeqD.nil (h:K e H):SeqD P ops K [] e H:=h
theorem SeqD.op {o:Oper} {rest:List Oper} (hg:o.guard=none) (h:DOp P o (opd e) H fun d H'=>SeqD P ops K rest (putO e o.dst d) H'):SeqD P ops K (o::rest) e H:=by unfold SeqD;rw [hg];exact h
theorem SeqD.opF (own:List Nat) {o:Oper} {rest:List Oper} (hg:o.guard=none) (h:DOp P o (opd e) H fun d H'=>FV P own ops (fun l' e'=>SeqD P ops K l' e' H') rest (putO e o.dst d)):SeqD P ops K (o::rest) e H:=by
 unfold SeqD;rw [hg];exact h.mono fun d H' h=>SeqD.go _ _ h
theorem SeqD.opgF (own:List Nat) {o:Oper} {rest:List Oper} {j:Nat} {want:Bool} (hg:o.guard=some (j,want)) (hb:gval ops e j = .bool want) (h:DOp P o (opd e) H fun d H'=>FV P own ops (fun l' e'=>SeqD P ops K l' e' H') rest (putO e o.dst d)):SeqD P ops K (o::rest) e H:=by
 unfold SeqD;rw [hg];simp only;rw [hb];unfold onB;simp only [if_true];exact h.mono fun d H' h=>SeqD.go _ _ h
end
def Next (P:Program) (n:Nat) (y:Code) (Q:Exit->Env->Own->Prop) (e:Env) (H:Own):Prop:=DW P n y Q e H
@[congr] theorem Next_congr (P:Program) (n:Nat) (y:Code) (Q:Exit->Env->Own->Prop) {e e':Env} {H H':Own} (h:e=e') (hH:H=H'):Next P n y Q e H=Next P n y Q e' H':=by rw [h,hH]
@[congr] theorem DW_congr (P:Program) (n:Nat) (y:Code) (Q:Exit->Env->Own->Prop) {e e':Env} {H H':Own} (h:e=e') (hH:H=H'):DW P n y Q e H=DW P n y Q e' H':=by rw [h,hH]
@[congr] theorem SeqD_congr (P:Program) (ops:Array Oper) (K:Env->Own->Prop) (l:List Oper) {e e':Env} {H H':Own} (h:e=e') (hH:H=H'):SeqD P ops K l e H=SeqD P ops K l e' H':=by rw [h,hH]
@[congr] theorem FV_congr (P:Program) (own:List Nat) (ops:Array Oper) (K:List Oper->Env->Prop) (l:List Oper) {e e':Env} (h:e=e'):FV P own ops K l e=FV P own ops K l e':=by rw [h]
@[congr] theorem thenD_congr (next:Env->Own->Prop) (Q:Exit->Env->Own->Prop) (x:Exit) {e e':Env} {H H':Own} (h:e=e') (hH:H=H'):zfC next Q x e H=zfC next Q x e' H':=by rw [h,hH]
@[congr] theorem zqE (id:Nat) (Q:Exit->Env->Own->Prop) (x:Exit) {e e':Env} {H H':Own} (h:e=e') (hH:H=H'):zdF id Q x e H=zdF id Q x e' H':=by rw [h,hH]
@[congr] theorem retQ_congr (P:Program) (fn:Func) (K:V->Own->Prop) (x:Exit) {e e':Env} {H H':Own} (h:e=e') (hH:H=H'):retQ P fn K x e H=retQ P fn K x e' H':=by rw [h,hH]
section
variable {P:Program} {n:Nat} {Q:Exit->Env->Own->Prop} {e:Env} {H:Own} {next:Env->Own->Prop} {id id':Nat}
theorem Next.go {y:Code} (h:DW P n y Q e H):Next P n y Q e H:=h
theorem DW.sq {x y:Code} (h:DW P n x (zfC (Next P n y Q) Q) e H):DW P n (.seq x y) Q e H:=DW.seq h
theorem then_n (h:next e H):zfC next Q .normal e H:=h
theorem then_x (h:Q (.exit id) e H):zfC next Q (.exit id) e H:=h
theorem then_r (h:Q .ret e H):zfC next Q .ret e H:=h
theorem blk_n (h:Q .normal e H):zdF id Q .normal e H:=h
theorem blk_r (h:Q .ret e H):zdF id Q .ret e H:=h
theorem blk_x (h:Q .normal e H):zdF id Q (.exit id) e H:=by simp only [zdF,if_true];exact h
theorem blk_y (hn:id'≠id) (h:Q (.exit id') e H):zdF id Q (.exit id') e H:=by simp only [zdF,if_neg hn];exact h
theorem ret_r {fn:Func} {K:V->Own->Prop} {ds:List V} (hd:retV e fn.results.toList=some ds) (h:K (one_ ds) H):retQ P fn K .ret e H:=⟨ds,RetR.of hd,h⟩
theorem ret_n {fn:Func} {K:V->Own->Prop} {ds:List V} (hd:retV e fn.results.toList=some ds) (h:K (one_ ds) H):retQ P fn K .normal e H:=⟨ds,RetR.of hd,h⟩
theorem DW.ct {c:Operand} {x y:Code} (hc:opd e c = .bool true) (h:DW P n x Q e H):DW P n (.cond c x y) Q e H:=DW.cond hc (fun _=>h) (fun h=>nomatch h)
theorem DW.cf {c:Operand} {x y:Code} (hc:opd e c = .bool false) (h:DW P n y Q e H):DW P n (.cond c x y) Q e H:=DW.cond hc (fun h=>nomatch h) (fun _=>h)
def keep (m:Nat):Env->Env
 | []=>[]
 | (k,v)::e=>if k<m then (k,v)::keep m e else keep m e
theorem zhU (m:Nat):∀ (e:Env) (t:Nat),get (keep m e) t=get e t\/get (keep m e) t = .any
 | [],t=>.inl rfl
 | (k,v)::e,t=>by
  simp only [keep]
  split
  · simp only [get]
    split
    · exact .inl rfl
    · exact zhU m e t
  · simp only [get]
    split
    · rename_i h1 h2
      subst h2
      right
      have:∀ e:Env,∀ t,¬ t<m->get (keep m e) t = .any:=fun e=>by
       induction e with
       | nil=>intro t _;rfl
       | cons x e ih =>
        intro t ht
        obtain ⟨k',v'⟩:=x
        simp only [keep]
        split
        · rename_i hk;simp only [get];rw [if_neg (by omega)];exact ih t ht
        · exact ih t ht
      exact this e t h1
    · exact zhU m e t
theorem Next.keep (m:Nat) {y:Code} (h:DW P n y Q (keep m e) H):Next P n y Q e H:=DW.weak _ H (zhU m e) (List.Sublist.refl _) h
end
def Sub:Env->Env->Prop
 | [],_=>True
 | (k,v)::E,e=>get e k=v/\Sub E e
theorem Sub.get:∀ {E e:Env},Sub E e->∀ t,get E t=get e t\/get E t = .any
 | [],_,_,_=>.inr rfl
 | (k,v)::E,e,h,t=>by
  simp only [Go.Proofs.YtgekknefphagbaaGreatDoor.get]
  split
  · rename_i hk;subst hk;exact .inl h.1.symm
  · exact Sub.get h.2 t
section
variable {P:Program} {n:Nat} {Q:Exit->Env->Own->Prop} {e:Env} {H:Own}
theorem DW.sub {c:Code} (e':Env) (he:Sub e' e) (h:DW P n c Q e' H):DW P n c Q e H:=DW.weak e' H he.get (List.Sublist.refl _) h
theorem DW.freeze {c:Code} (t b:Nat) {cs:List V} (ht:get e t = .raw (.pointer (some ⟨b,0,none⟩))) {L1 L2:Own} (hH:H=L1 ++ .blk b cs::L2) (h:DW P n c Q (put e t (.sp cs)) (L1++L2)):DW P n c Q e H:=by
 subst hH
 intro a w hs hr
 have hsub:(L1++L2).Sublist (L1 ++ .blk b cs::L2):=List.Sublist.append_left (List.sublist_cons_self _ _) _
 have hs':=hs.drop hsub
 have hx:Ext w (L1 ++ .blk b cs::L2) w (L1++L2):=Ext.drop fun x hx=>hsub.subset hx
 obtain ⟨xs,T,fr,h1,h2,h3,h4,h5⟩:=zk3 hs
 have hst:∀ k,k<cs.length->stable w (L1++L2) ⟨b,k,none⟩:=fun k hk=>by
  refine ⟨by rw [(h5 k hk).1];rfl,fun x hx ho=>?_⟩
  have hap:=hs.apart
  rw [List.pairwise_append,List.pairwise_cons] at hap
  obtain ⟨p1,⟨p2,p3⟩,p4⟩:=hap
  rcases List.mem_append.1 hx with hx | hx
  · exact p4 x hx (.blk b cs) (by simp) b (Ent.touch ho) rfl
  · exact p2 x hx b rfl (Ent.touch ho)
 have hre:RE n w (L1++L2) a.tmps (put e t (.sp cs)):=by
  refine ⟨hr.size,fun u=>?_⟩
  by_cases hu:u=t
  · subst hu
    rw [zcf]
    have hv:=hr.slot u
    rw [ht] at hv
    generalize a.tmps.getD u undef=v at hv
    cases hv
    refine .sp _ _ rfl (fun k hk=>by simpa using hst k hk) (fun k hk=>?_)
    simp only [Nat.zero_add]
    rw [zbb,(h5 k hk).1]
    exact hx.rel (h4 k hk)
  · rw [zcR _ _ _ _ hu];exact hx.rel (hr.slot u)
 exact wp_mono (h a w hs' hre) fun x a1 w1 ⟨hd,e1,H1,s,r,x1,q⟩=>⟨hd,e1,H1,s,r,hx.trans x1,q⟩
end
theorem zpP {α:Type} [Inhabited α] (enc:α->V) (l:List α) (i:Nat) (h:i<l.length):(l.map enc).getD i .any=enc (l.getD i default):=by
 simp [List.getD_eq_getElem?_getD,h]
end Go.Proofs.YtgekknefphagbaaGreatDoor
namespace Go.Proofs.YtgekknefphagbaaGreatDoor
open Go.RowKit
set_option linter.unusedSimpArgs false
set_option linter.unusedVariables false
set_option linter.unusedSectionVars false
theorem DC.bodyN {P:Program} {f:FuncId} {fn:Func} {c:Code} {args:List V} {H:Own} {K:V->Own->Prop} (n_:Nat) (hf:P.funcs[f]? = some fn) (hb:fn.body=some c) (hn:(fn.name != "runtime.NumGoroutine")=true)
 (hN:args.length+(fn.ntmps - args.length)=n_) (h:DW P n_ c (retQ P fn K) (env0 0 args) H):DC P f args H K:=DC.body hf hb hn (hN▸h)
def zaP (ks:List Nat):Env->Env
 | []=>[]
 | (k,v)::e=>if ks.contains k=true then (k,v)::zaP ks e else zaP ks e
theorem zdy (ks:List Nat) (t:Nat) (ht:ks.contains t=false):∀ e:Env,get (zaP ks e) t = .any
 | []=>rfl
 | (k,v)::e=>by
  simp only [zaP]
  split
  · rename_i hk
    simp only [get]
    rw [if_neg fun h=>by rw [h,hk] at ht;cases ht]
    exact zdy ks t ht e
  · exact zdy ks t ht e
theorem zgg (ks:List Nat):∀ (e:Env) (t:Nat),get (zaP ks e) t=get e t\/get (zaP ks e) t = .any
 | [],t=>.inl rfl
 | (k,v)::e,t=>by
  by_cases ht:ks.contains t=true
  · left
    have:∀ e:Env,get (zaP ks e) t=get e t:=fun e=>by
     induction e with
     | nil=>rfl
     | cons x e ih =>
      obtain ⟨k',v'⟩:=x
      simp only [zaP]
      split
      · simp only [get];split
        · rfl
        · exact ih
      · rename_i hk
        simp only [get]
        rw [if_neg fun (h:t=k')=>hk (by rw [<-h];exact ht)]
        exact ih
    exact this _
  · exact .inr (zdy ks t (by simpa using ht) _)
section
variable {P:Program} {n:Nat} {Q:Exit->Env->Own->Prop} {e:Env} {H:Own}
theorem DW.regK (ks:List Nat) {id:Nat} {l:List Oper} (hd:dstB n l=true) (h:SeqD P l.toArray (Q .normal) l (zaP ks e) H):DW P n (.region id l.toArray false) Q e H :=
 DW.weak _ H (zgg ks e) (List.Sublist.refl _) (DW.region hd h)
def DV (P:Program) (mv tm:List Nat) (ops:Array Oper) (K:Env->Own->Prop):Nat->List Oper->Env->Own->Prop
 | _,[],e,H=>K e H
 | i,o::rest,e,H=>match o.guard with
  | none=>if mv.contains i=true then DOp P o (opd e) H fun d H'=>DV P mv tm ops K (i+1) rest (putO e o.dst d) H'
   else if tm.contains i=true then ∃ d,(DOp P o (opd e) H fun d' H'=>d'=d/\H'=H)/\DV P mv tm ops K (i+1) rest (putO e o.dst d) H
   else side P o (opd e)/\DV P mv tm ops K (i+1) rest (putO e o.dst (val P o (opd e))) H
  | some (j,true)=>gd (gval ops e j) (if mv.contains i=true then DOp P o (opd e) H fun d H'=>DV P mv tm ops K (i+1) rest (putO e o.dst d) H'
   else if tm.contains i=true then ∃ d,(DOp P o (opd e) H fun d' H'=>d'=d/\H'=H)/\DV P mv tm ops K (i+1) rest (putO e o.dst d) H
   else side P o (opd e)/\DV P mv tm ops K (i+1) rest (putO e o.dst (val P o (opd e))) H) (DV P mv tm ops K (i+1) rest (putO e o.dst (.tup [])) H)
  | some (j,false)=>gf (gval ops e j) (DV P mv tm ops K (i+1) rest (putO e o.dst (.tup [])) H) (if mv.contains i=true then DOp P o (opd e) H fun d H'=>DV P mv tm ops K (i+1) rest (putO e o.dst d) H'
   else if tm.contains i=true then ∃ d,(DOp P o (opd e) H fun d' H'=>d'=d/\H'=H)/\DV P mv tm ops K (i+1) rest (putO e o.dst d) H
   else side P o (opd e)/\DV P mv tm ops K (i+1) rest (putO e o.dst (val P o (opd e))) H)
@[congr] theorem DV_congr (P:Program) (mv tm:List Nat) (ops:Array Oper) (K:Env->Own->Prop) (i:Nat) (l:List Oper) {e e':Env} {H H':Own} (h:e=e') (hH:H=H'):DV P mv tm ops K i l e H=DV P mv tm ops K i l e' H':=by rw [h,hH]
def DVop (P:Program) (mv tm:List Nat) (ops:Array Oper) (K:Env->Own->Prop) (i:Nat) (o:Oper) (rest:List Oper) (e:Env) (H:Own):Prop :=
 if mv.contains i=true then DOp P o (opd e) H fun d H'=>DV P mv tm ops K (i+1) rest (putO e o.dst d) H'
 else if tm.contains i=true then ∃ d,(DOp P o (opd e) H fun d' H'=>d'=d/\H'=H)/\DV P mv tm ops K (i+1) rest (putO e o.dst d) H
 else side P o (opd e)/\DV P mv tm ops K (i+1) rest (putO e o.dst (val P o (opd e))) H
theorem zky {ops:List Oper} {e:Env} {o:Oper} {j:Nat} {want b:Bool} (hg:o.guard=some (j,want)) (hb:gval ops.toArray e j = .bool b):gst ops o (get e)=some (b==want):=by
 unfold gst
 rw [hg]
 unfold gval at hb
 simp only [List.getElem?_toArray] at hb
 simp only
 cases hd:(ops[j]?).bind (·.dst) with
 | none=>rw [hd] at hb;cases hb
 | some t=>rw [hd] at hb;simp only at hb ⊢;rw [hb]
theorem znI {ops:List Oper} {e:Env} {o:Oper} {j:Nat} {want:Bool} {ds:List V} (hg:o.guard=some (j,want)) (hb:gval ops.toArray e j = .tup ds):gst ops o (get e)=some false:=by
 unfold gst
 rw [hg]
 unfold gval at hb
 simp only [List.getElem?_toArray] at hb
 simp only
 cases hd:(ops[j]?).bind (·.dst) with
 | none=>rw [hd] at hb;cases hb
 | some t=>rw [hd] at hb;simp only at hb ⊢;rw [hb]
def tV (P:Program) (tm:List Nat) (tbl:Nat->V) (k:Nat) (o:Oper) (f:Operand->V):V:=if tm.contains k=true then tbl k else val P o f
def tS (P:Program) (tm:List Nat) (H0:Own) (tbl:Nat->V) (k:Nat) (o:Oper) (f:Operand->V):Prop:=if tm.contains k=true then (DOp P o f H0 fun d H'=>d=tbl k/\H'=H0) else side P o f
def KF (K:Env->Own->Prop) (F:Nat->V) (H:Own):Prop:=∃ e,get e=F/\K e H
theorem DV.cases {mv tm:List Nat} {ops:List Oper} {K:Env->Own->Prop} {i:Nat} {o:Oper} {rest:List Oper} (h:DV P mv tm ops.toArray K i (o::rest) e H) :
  (gst ops o (get e)=some true/\DVop P mv tm ops.toArray K i o rest e H)\/(gst ops o (get e)=some false/\DV P mv tm ops.toArray K (i+1) rest (putO e o.dst (.tup [])) H):=by
 unfold DV at h
 cases hg:o.guard with
 | none=>rw [hg] at h;exact .inl ⟨by unfold gst;rw [hg],h⟩
 | some jw =>
  obtain ⟨j,want⟩:=jw
  rw [hg] at h
  cases want with
  | true =>
   simp only at h
   cases hb:gval ops.toArray e j with
   | bool b =>
    rw [zky hg hb]
    rw [hb] at h
    cases b with
    | true=>rw [zez] at h;exact .inl ⟨rfl,h⟩
    | false=>rw [zd1] at h;exact .inr ⟨rfl,h⟩
   | tup ds=>rw [znI hg hb];rw [hb,zjj] at h;exact .inr ⟨rfl,h⟩
   | _=>rw [hb] at h;exact h.elim
  | false =>
   simp only at h
   cases hb:gval ops.toArray e j with
   | bool b =>
    rw [zky hg hb]
    rw [hb] at h
    cases b with
    | true=>rw [zet] at h;exact .inr ⟨rfl,h⟩
    | false=>rw [zd7] at h;exact .inl ⟨rfl,h⟩
   | tup ds=>rw [znI hg hb];rw [hb,ziZ] at h;exact .inr ⟨rfl,h⟩
   | _=>rw [hb] at h;exact h.elim
theorem DV.rv0 {mv tm:List Nat} {ops:List Oper} {K:Env->Own->Prop} {H0:Own} {tbl:Nat->V}:∀ (l:List Oper) (i:Nat) (e:Env) (H:Own),(∀ k,i<=k->k<i+l.length->tm.contains k=false)->DV P mv tm ops.toArray K i l e H ->
  RV P ops mv (tV P tm tbl) (tS P tm H0 tbl) (KF K) (fun _=>false) i l (get e) H
 | [],i,e,H,_,h=>⟨e,rfl,h⟩
 | o::rest,i,e,H,ht,h=>by
  have ht':∀ k,i+1<=k->k<i+1+rest.length->tm.contains k=false:=fun k h1 h2=>ht k (by omega) (by simp;omega)
  have hti:=ht i (Nat.le_refl _) (by simp)
  unfold RV
  rw [if_neg (by simp)]
  rcases h.cases with ⟨hg,h⟩ | ⟨hg,h⟩
  · rw [hg]
    simp only
    unfold DVop at h
    rw [zeV]
    split at h
    · rename_i hm
      rw [if_pos hm]
      exact h.mono fun d H' h=>by rw [<-zcz];exact DV.rv0 rest (i+1) _ _ ht' h
    · rename_i hm
      rw [if_neg hm]
      rw [if_neg (by rw [hti];exact Bool.false_ne_true)] at h
      refine ⟨by unfold tS;rw [if_neg (by rw [hti];exact Bool.false_ne_true)];exact h.1,?_⟩
      have:tV P tm tbl i o (opd e)=val P o (opd e):=by unfold tV;rw [if_neg (by rw [hti];exact Bool.false_ne_true)]
      rw [this,<-zcz]
      exact DV.rv0 rest (i+1) _ _ ht' h.2
  · rw [hg]
    simp only
    rw [<-zcz]
    exact DV.rv0 rest (i+1) _ _ ht' h
theorem RV.congrT {mv tm:List Nat} {ops:List Oper} {K:(Nat->V)->Own->Prop} {H0:Own} {tbl tbl':Nat->V}:∀ (l:List Oper) (i:Nat) (F:Nat->V) (H:Own),(∀ k,i<=k->tbl k=tbl' k) ->
  RV P ops mv (tV P tm tbl) (tS P tm H0 tbl) K (fun _=>false) i l F H->RV P ops mv (tV P tm tbl') (tS P tm H0 tbl') K (fun _=>false) i l F H
 | [],_,_,_,_,h=>h
 | o::rest,i,F,H,ht,h=>by
  have ih:=fun F H=>RV.congrT (mv:=mv) (tm:=tm) (ops:=ops) (K:=K) (H0:=H0) rest (i+1) F H fun k hk=>ht k (by omega)
  unfold RV at h ⊢
  rw [if_neg (by simp)] at h ⊢
  cases hg:gst ops o F with
  | none=>rw [hg] at h;exact h.elim
  | some b =>
   rw [hg] at h
   cases b with
   | false=>exact ih _ _ h
   | true =>
    simp only at h ⊢
    split
    · rename_i hm;rw [if_pos hm] at h;exact h.mono fun d H' h=>ih _ _ h
    · rename_i hm
      rw [if_neg hm] at h
      have e1:tV P tm tbl i o (opdF F)=tV P tm tbl' i o (opdF F):=by unfold tV;rw [ht i (Nat.le_refl _)]
      refine ⟨?_,by rw [<-e1];exact ih _ _ h.2⟩
      have:=h.1
      unfold tS at this ⊢
      rw [<-ht i (Nat.le_refl _)]
      exact this
theorem DV.rv {mv tm:List Nat} {ops:List Oper} {K:Env->Own->Prop} (hord:∀ i m,tm.contains i=true->mv.contains m=true->m<ops.length->i<ops.length->i<m):∀ (l:List Oper) (i:Nat) (e:Env),i+l.length=ops.length->DV P mv tm ops.toArray K i l e H ->
  ∃ tbl,RV P ops mv (tV P tm tbl) (tS P tm H tbl) (KF K) (fun _=>false) i l (get e) H
 | [],i,e,_,h=>⟨fun _=>.any,e,rfl,h⟩
 | o::rest,i,e,hl,h=>by
  have hl':i+1+rest.length=ops.length:=by simp at hl;omega
  rcases h.cases with ⟨hg,h⟩ | ⟨hg,h⟩
  · unfold DVop at h
    split at h
    · rename_i hm
      refine ⟨fun _=>.any,?_⟩
      unfold RV
      rw [if_neg (by simp),hg]
      simp only
      rw [if_pos hm,zeV]
      refine h.mono fun d H' h=>?_
      rw [<-zcz]
      refine DV.rv0 rest (i+1) _ _ (fun k h1 h2=>?_) h
      cases hk:tm.contains k with
      | false=>rfl
      | true=>have:=hord k i hk hm (by omega) (by omega);omega
    · rename_i hm
      split at h
      · rename_i ht
        obtain ⟨d,h1,h2⟩:=h
        obtain ⟨tbl,h3⟩:=DV.rv hord rest (i+1) _ hl' h2
        refine ⟨fun k=>if k=i then d else tbl k,?_⟩
        unfold RV
        rw [if_neg (by simp),hg]
        simp only
        rw [if_neg hm,zeV]
        refine ⟨by unfold tS;rw [if_pos ht];simpa using h1,?_⟩
        have:tV P tm (fun k=>if k=i then d else tbl k) i o (opd e)=d:=by unfold tV;rw [if_pos ht];simp
        rw [this,<-zcz]
        exact RV.congrT rest (i+1) _ _ (fun k hk=>by rw [if_neg (by omega)]) h3
      · rename_i ht
        obtain ⟨tbl,h3⟩:=DV.rv hord rest (i+1) _ hl' h.2
        refine ⟨tbl,?_⟩
        unfold RV
        rw [if_neg (by simp),hg]
        simp only
        rw [if_neg hm,zeV]
        refine ⟨by unfold tS;rw [if_neg ht];exact h.1,?_⟩
        have:tV P tm tbl i o (opd e)=val P o (opd e):=by unfold tV;rw [if_neg ht]
        rw [this,<-zcz]
        exact h3
  · obtain ⟨tbl,h3⟩:=DV.rv hord rest (i+1) _ hl' h
    refine ⟨tbl,?_⟩
    unfold RV
    rw [if_neg (by simp),hg]
    simp only
    rw [<-zcz]
    exact h3
theorem DW.draw (mv tm:List Nat) {id:Nat} {l:List Oper} (hm:P.follows .mixedOrders=true) (hd:dstB n l=true) (hB:zlq l mv tm=true) (h:DV P mv tm l.toArray (Q .normal) 0 l e H):DW P n (.region id l.toArray true) Q e H:=fun a w hs hr=>by
 refine wp_region_any hm ?_
 have hok:=ziW hB
 obtain ⟨tbl,hrv⟩:=DV.rv (fun i m hi hm h1 h2=>(hok.first i m l[i] l[m] (by simp [h2]) (by simp [h1]) hm hi).2) l 0 e (by simp) h
 have hdr:=hs.drew
 have hinv:HeadInv .any l.toArray l.length (Array.replicate l.toArray.size false):=⟨by simp,fun j oj _ hl=>(by rw [getD_replicate_false] at hl;cases hl),fun t _ ht=>getD_in (by simpa using ht) (getD_replicate_false _ _)⟩
 refine RV.all (n:=n) (mv:=mv) (tm:=tm) (H0:=H) (K:=KF (Q .normal)) (val:=tV P tm tbl) (side:=tS P tm H tbl) (fun k o f f' hf=>?_) hok (fun k o ho hk f H' hh hs=>?_) hd (Q:=_) (w0:=w) (G0:=H) (D:=a.defers) (fun a' w' F' H' hd' s r x ⟨e',he,hq⟩=>⟨hd',e',H',s,⟨r.size,fun t=>by rw [he];exact r.slot t⟩,x,hq⟩)
  l.toArray.size (Array.replicate l.toArray.size false) (get e) H a w.drew (by simp) hinv ?_ hdr.1 (fun _=>rfl) ⟨hr.size,fun t=>hdr.2.rel (hr.slot t)⟩ hdr.2 rfl
 · unfold tV tS
   split
   · exact ⟨rfl,fun h=>h.congr hf⟩
   · exact ziN o f f' hf
 · unfold tS at hs
   unfold tV
   split at hs
   · rename_i ht
     rw [if_pos ht,hh ht]
     exact hs
   · rename_i ht
     rw [if_neg ht]
     exact zeH hs
 · exact RV.congrL (L:=fun _=>false) l 0 _ _ (fun j _=>(getD_replicate_false _ _).symm) hrv
theorem DW.drawK (ks mv tm:List Nat) {id:Nat} {l:List Oper} (hm:P.follows .mixedOrders=true) (hd:dstB n l=true) (hB:zlq l mv tm=true) (h:DV P mv tm l.toArray (Q .normal) 0 l (zaP ks e) H):DW P n (.region id l.toArray true) Q e H :=
 DW.weak _ H (zgg ks e) (List.Sublist.refl _) (DW.draw mv tm hm hd hB h)
def FD (P:Program) (mv:List Nat) (ops:Array Oper) (K:Nat->List Oper->Env->Prop):Nat->List Oper->Env->Prop
 | i,[],e=>K i [] e
 | i,o::rest,e=>match o.guard with
  | none=>if mv.contains i=true then K i (o::rest) e else side P o (opd e)/\FD P mv ops K (i+1) rest (putO e o.dst (val P o (opd e)))
  | some (j,true)=>gd (gval ops e j) (if mv.contains i=true then K i (o::rest) e else side P o (opd e)/\FD P mv ops K (i+1) rest (putO e o.dst (val P o (opd e)))) (FD P mv ops K (i+1) rest (putO e o.dst (.tup [])))
  | some (j,false)=>gf (gval ops e j) (FD P mv ops K (i+1) rest (putO e o.dst (.tup []))) (if mv.contains i=true then K i (o::rest) e else side P o (opd e)/\FD P mv ops K (i+1) rest (putO e o.dst (val P o (opd e))))
@[congr] theorem FD_congr (P:Program) (mv:List Nat) (ops:Array Oper) (K:Nat->List Oper->Env->Prop) (i:Nat) (l:List Oper) {e e':Env} (h:e=e'):FD P mv ops K i l e=FD P mv ops K i l e':=by rw [h]
theorem DV.mk {mv tm:List Nat} {ops:Array Oper} {K:Env->Own->Prop} {i:Nat} {o:Oper} {rest:List Oper} (hg:o.guard=none) (h:DVop P mv tm ops K i o rest e H):DV P mv tm ops K i (o::rest) e H:=by unfold DV;rw [hg];exact h
theorem DV.mkg {mv tm:List Nat} {ops:Array Oper} {K:Env->Own->Prop} {i:Nat} {o:Oper} {rest:List Oper} {j:Nat} {want:Bool} (hg:o.guard=some (j,want)) (hb:gval ops e j = .bool want) (h:DVop P mv tm ops K i o rest e H):DV P mv tm ops K i (o::rest) e H:=by
 unfold DV;rw [hg];cases want<;>simp only<;>rw [hb]<;>first | (rw [zez];exact h) | (rw [zd7];exact h)
theorem DV.go (tm mv:List Nat) {ops:Array Oper} {K:Env->Own->Prop}:∀ (l:List Oper) (i:Nat) (e:Env),FD P (mv++tm) ops (fun i' l' e'=>DV P mv tm ops K i' l' e' H) i l e->DV P mv tm ops K i l e H
 | [],i,e,h=>h
 | o::rest,i,e,h=>by
  have run:(if (mv++tm).contains i=true then DV P mv tm ops K i (o::rest) e H else side P o (opd e)/\FD P (mv++tm) ops (fun i' l' e'=>DV P mv tm ops K i' l' e' H) (i+1) rest (putO e o.dst (val P o (opd e)))) ->
    DV P mv tm ops K i (o::rest) e H\/DVop P mv tm ops K i o rest e H:=fun h=>by
   split at h
   · exact .inl h
   · rename_i hm
     simp only [List.contains_append,Bool.or_eq_true,not_or] at hm
     refine .inr ?_
     unfold DVop
     rw [if_neg hm.1,if_neg hm.2]
     exact ⟨h.1,DV.go tm mv rest (i+1) _ h.2⟩
  unfold FD at h
  cases hg:o.guard with
  | none =>
   rw [hg] at h
   rcases run h with h | h
   · exact h
   · exact DV.mk hg h
  | some jw =>
   obtain ⟨j,want⟩:=jw
   rw [hg] at h
   cases want with
   | true =>
    simp only at h
    cases hb:gval ops e j with
    | bool b =>
     rw [hb] at h
     cases b with
     | true =>
      rw [zez] at h
      rcases run h with h | h
      · exact h
      · exact DV.mkg hg hb h
     | false=>rw [zd1] at h;unfold DV;rw [hg];simp only;rw [hb,zd1];exact DV.go tm mv rest (i+1) _ h
    | tup ds=>rw [hb,zjj] at h;unfold DV;rw [hg];simp only;rw [hb,zjj];exact DV.go tm mv rest (i+1) _ h
    | _=>rw [hb] at h;exact h.elim
   | false =>
    simp only at h
    cases hb:gval ops e j with
    | bool b =>
     rw [hb] at h
     cases b with
     | true=>rw [zet] at h;unfold DV;rw [hg];simp only;rw [hb,zet];exact DV.go tm mv rest (i+1) _ h
     | false =>
      rw [zd7] at h
      rcases run h with h | h
      · exact h
      · exact DV.mkg hg hb h
    | tup ds=>rw [hb,ziZ] at h;unfold DV;rw [hg];simp only;rw [hb,ziZ];exact DV.go tm mv rest (i+1) _ h
    | _=>rw [hb] at h;exact h.elim
theorem DV.nil {mv tm:List Nat} {ops:Array Oper} {K:Env->Own->Prop} {i:Nat} (h:K e H):DV P mv tm ops K i [] e H:=h
section
variable {mv tm:List Nat} {ops:Array Oper} {K:Env->Own->Prop} {i:Nat} {o:Oper} {rest:List Oper}
theorem DVop.mv_ (hm:mv.contains i=true) (h:DOp P o (opd e) H fun d H'=>FD P (mv++tm) ops (fun i' l' e'=>DV P mv tm ops K i' l' e' H') (i+1) rest (putO e o.dst d)):DVop P mv tm ops K i o rest e H:=by
 unfold DVop;rw [if_pos hm];exact h.mono fun d H' h=>DV.go tm mv _ _ _ h
theorem DVop.tm_ (hm:mv.contains i=false) (ht:tm.contains i=true) {d:V} (h1:DOp P o (opd e) H fun d' H'=>d'=d/\H'=H) (h:FD P (mv++tm) ops (fun i' l' e'=>DV P mv tm ops K i' l' e' H) (i+1) rest (putO e o.dst d)):DVop P mv tm ops K i o rest e H:=by
 unfold DVop;rw [if_neg kxca,if_pos ht];exact ⟨d,h1,DV.go tm mv _ _ _ h⟩
theorem DVop.load_ {t:TypeId} {x:Operand} {b off:Nat} (hm:mv.contains i=false) (ht:tm.contains i=true) (hop:o.op = .load t x) (hx:opd e x = .raw (.pointer (some ⟨b,off,none⟩)))
  (h:OnB H b fun cs _=>zdO (ty P t) (cs.drop off) 0/\FD P (mv++tm) ops (fun i' l' e'=>DV P mv tm ops K i' l' e' H) (i+1) rest (putO e o.dst (zcw (ty P t) (cs.drop off) 0))):DVop P mv tm ops K i o rest e H:=by
 obtain ⟨cs,L1,L2,hH,h1,h2⟩:=h
 exact DVop.tm_ hm ht (DOp.load_ hop hx ⟨cs,L1,L2,hH,h1,rfl,rfl⟩) h2
theorem DVop.f_ (hm:mv.contains i=false) (h:side P o (opd e)/\FD P (mv++tm) ops (fun i' l' e'=>DV P mv tm ops K i' l' e' H) (i+1) rest (putO e o.dst (val P o (opd e)))):DVop P mv tm ops K i o rest e H:=by
 unfold DVop;rw [if_neg kxca]
 split
 · exact ⟨_,zeH h.1,DV.go tm mv _ _ _ h.2⟩
 · exact ⟨h.1,DV.go tm mv _ _ _ h.2⟩
theorem DVop.call_ {c:Operand} {args:Array Operand} {ts:Array TypeId} {k:FuncId} {first caps:List V} {d:V} (hm:mv.contains i=false) (ht:tm.contains i=true) (hop:o.op = .call { callee:=.value c,args,argTypes:=ts }) (hc:opd e c = .fn (.func k) first caps)
  (h1:DC P k (first++args.toList.map (opd e)++caps) H fun d' H'=>d'=d/\H'=H) (h:FD P (mv++tm) ops (fun i' l' e'=>DV P mv tm ops K i' l' e' H) (i+1) rest (putO e o.dst d)):DVop P mv tm ops K i o rest e H :=
 DVop.tm_ hm ht (DOp.call_ hop hc h1) h
end
end
end Go.Proofs.YtgekknefphagbaaGreatDoor
