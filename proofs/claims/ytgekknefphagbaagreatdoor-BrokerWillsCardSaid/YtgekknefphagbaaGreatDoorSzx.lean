/- slices.SortFunc at elements that are owned: what it leaves is the same elements, one behind another as the comparison says. No statement of the program. -/
import Derived.Test.YtgekknefphagbaaGreatDoorSox
import Derived.Shelf.SlSortCmp.WholeK
import Derived.Shelf.SlSortCmp.NoneTotal
import Derived.Test.YtgekknefphagbaaGreatDoorWax
import Derived.Test.YtgekknefphagbaaGreatDoorFxx
import Derived.Test.YtgekknefphagbaaGreatDoorGzx
import Derived.KernelRfl
namespace Go.Proofs.YtgekknefphagbaaGreatDoor
open Go.RowKit
set_option linter.unusedSimpArgs false
set_option linter.unusedVariables false
set_option linter.unusedSectionVars false
section
section
variable {P:Program} {T:Type} {encV:T->V} {ok:T->Prop}
theorem zjc {k:Nat} (hcs:∀ x,ok x->∃ cs,encV x = .agg cs/\cs.length=k/\cs.all V.one=true) (l:List T) (hl:∀ x∈l,ok x):(cells (l.map encV)).length=l.length * k:=by
 rw [zdK (sz:=k) _ (fun y hy=>by
  obtain ⟨x,hx,rfl⟩:=List.mem_map.1 hy
  obtain ⟨cs,e,h,_⟩:=hcs x (hl x hx)
  rw [e];exact h),List.length_map]
theorem zf2 {k:Nat} (hcs:∀ x,ok x->∃ cs,encV x = .agg cs/\cs.length=k/\cs.all V.one=true) (l:List T) (hl:∀ x∈l,ok x) (i j:Nat) (hi:i<l.length) (hj:j<k):(cells (l.map encV)).getD (i * k+j) .any=(encV l[i]).cell j:=by
 rw [zfJ (sz:=k) _ i j (fun y hy=>by
  obtain ⟨x,hx,rfl⟩:=List.mem_map.1 hy
  obtain ⟨cs,e,h,_⟩:=hcs x (hl x hx)
  rw [e];exact h) (by simpa using hi) hj]
 congr 1
 simp [List.getD_eq_getElem?_getD,hi]
theorem DC.sortF {ρ : Go.Shelf.Ren} {k g:Nat} {cf:T->T->Int} (L:SlLaysF0.n6 P ρ) (aE:∀ w,(isAgg (ρ.t 24)).run P w = .ok true w) (zE:∀ w,(Go.sizeOf (ρ.t 24)).run P w = .ok k w) (eg:∀ args w,(callFunc g args).run P w = .ok (.enter g args) w)
  (hk0:0<k) (hcs:∀ x,ok x->∃ cs,encV x = .agg cs/\cs.length=k/\cs.all V.one=true) (hO:Go.Sort.SWO (fun x y:T=>decide (cf x y<0))) (he:zd6 P (ρ.f 6)=true)
  (hcmp:∀ x y:T,ok x->ok y->DC P g [encV x,encV y] [] fun d G=>d = .int .i64 (cf x y))
  (l:List T) (v:Value) (n:Nat) (F:Own) (hn:n=l.length/\l.length<4611686018427387904/\∀ x∈l,ok x) :
  DC P (ρ.f 6) [.ar v n, .fn (.func g) [] []] ([.arr k v (cells (l.map encV))]++F) fun d G=>d = .tup []/\∃ l':List T,l'.Perm l/\l'.Pairwise (fun x y=>¬ cf y x<0)/\G=[.arr k v (cells (l'.map encV))]++F:=by
 obtain ⟨rfl,hlen,hok⟩:=hn
 refine ⟨he,fun xs w hs hsz hr=>?_⟩
 have h0:=hr 0 (by simp)
 have h1:=hr 1 (by simp)
 obtain ⟨x0,x1,rfl⟩:=zqx hsz
 clear hr hsz
 have hcl:=zjc hcs l hok
 change R _ w x0 (.ar v l.length) at h0
 change R _ w x1 (.fn (.func g) [] []) at h1
 cases h1 with
 | fn f ys zs cs ds hn h hm h' =>
 have hy:=zm9 (show ys.size=0 from hn);subst hy
 have hz:=zm9 (show zs.size=0 from hm);subst hz
 generalize hN:l.length=N at h0
 cases h0 with
 | ar a _ cap hc ha =>
 subst hN
 by_cases hl0:l=[]
 · subst hl0
   refine (AnyF.slices_SortFunc_none L a cap _ w).mono ?_
   rintro e w' ⟨rfl,rfl⟩
   exact ⟨_, .tup [],_,rfl,hs, .refl _ _, .tup _ _ rfl (fun k hk=>absurd hk (by simp)),rfl,[],List.Perm.refl _,List.Pairwise.nil,rfl⟩
 · have hpos:0<l.length:=List.length_pos_iff.2 hl0
   have hlk:0<l.length * k:=Nat.mul_pos hpos hk0
   obtain ⟨hcz,p,rfl⟩:=zfQ (L1:=[]) hs (by rw [hcl];exact hlk)
   obtain ⟨s0,hnc,hln,xs,Ty,fr,g1,g2,g3,g4,g5,g6⟩:=zcG (L1:=[]) hs hcz
   obtain ⟨pb,po,ps⟩:=p
   simp only at s0 g1 g2 g3 g4 g5
   subst s0
   have hkc:l.length * k<=cap * k:=Nat.mul_le_mul_right _ hc
   have hrel:∀ i (hi:i<l.length) j,j<k->R (stable w (.arr k (.slice (some ⟨pb,po,none⟩) l.length cap) (cells (l.map encV))::F)) w (xs.getD (po+(i * k+j)) undef) ((encV l[i]).cell j):=by
    intro i hi j hj
    have hb:i * k+j<l.length * k:=by
     have:=Nat.mul_le_mul_right k (show i+1<=l.length from hi)
     rw [Nat.add_mul,Nat.one_mul] at this;omega
    have:=g4 (i * k+j) (by rw [hcl];exact hb)
    rwa [zf2 hcs l hok i j hi hj] at this
   let E:=Elm (stable w (.arr k (.slice (some ⟨pb,po,none⟩) l.length cap) (cells (l.map encV))::F)) w k encV ok
   let el:(i:Nat)->i<l.length->E:=fun i hi =>
    { t:=l[i],vs:=(List.range k).map fun j=>xs.getD (po+(i * k+j)) undef,len:=by simp
      one:=by
       intro u hu
       obtain ⟨j,hj,rfl⟩:=List.mem_map.1 hu
       have hj':=List.mem_range.1 hj
       obtain ⟨cs,e,h3,h4⟩:=hcs _ (hok _ (List.getElem_mem hi))
       have:=hrel i hi j hj'
       rw [e] at this
       have h5:V.one (cs.getD j .any)=true:=by
        rw [List.getD_eq_getElem?_getD,List.getElem?_eq_getElem (by omega)]
        exact List.all_eq_true.1 h4 _ (List.getElem_mem _)
       exact zmZ (vs:=[xs.getD (po+(i * k+j)) undef]) (ds:=[cs.getD j .any]) rfl (fun q hq=>by
        obtain rfl:q=0:=by simpa using hq
        exact this) (by simp only [List.all_cons,List.all_nil,h5,Bool.and_true]) _ (List.mem_singleton.2 rfl)
      rel:=fun j hj=>by
       have:=hrel i hi j hj
       rw [List.getD_eq_getElem?_getD]
       simpa [hj] using this
      good:=hok _ (List.getElem_mem hi) }
   haveI:Inhabited E:=⟨el 0 hpos⟩
   let d:Array E:=Array.ofFn (n:=l.length) fun i=>el i.1 i.2
   have hds:d.size=l.length:=by simp [d]
   have hdt:d.toList.map Elm.t=l:=by
    apply List.ext_getElem
    · simp [d]
    · intro i h1 h2
      simp [d,el]
   have hdg:∀ i,i<l.length->∀ j,j<k->((d[i]!).vs)[j]! = xs.getD (po+(i * k+j)) undef:=by
    intro i hi j hj
    rw [getElem!_pos d i (by rw [hds];exact hi)]
    simp [d,el,hj]
   have hH:Go.Sort.HoldsK Elm.vs k w pb po d:=by
    intro t ht
    rw [Go.Sort.size_flatK,hds] at ht
    have hq:t / k<l.length:=(Nat.div_lt_iff_lt_mul hk0).2 ht
    have hm:t%k<k:=Nat.mod_lt _ hk0
    rw [Go.Sort.get_flatK _ _ _ _ (by rw [hds];exact ht),hdg _ hq _ hm,Nat.mul_comm,Nat.div_add_mod]
    exact g5 (po+t) (by omega) (by omega)
   have hpb:pb<w.heap.size:=by
    rcases Nat.lt_or_ge pb w.heap.size with h | h
    · exact h
    · rw [Array.getElem?_eq_none h] at g1;cases g1
   have hsim:∀ (m:Nat) (os:Array Obj) (dk:Array E),dk.size=d.size ->
     Sim (sortWorldK Elm.vs k w pb po m dk os) (.arr k (.slice (some ⟨pb,po,none⟩) l.length cap) (cells (dk.toList.map fun x=>encV x.t))::F) /\
     Ext w (.arr k (.slice (some ⟨pb,po,none⟩) l.length cap) (cells (l.map encV))::F) (sortWorldK Elm.vs k w pb po m dk os) (.arr k (.slice (some ⟨pb,po,none⟩) l.length cap) (cells (dk.toList.map fun x=>encV x.t))::F):=by
    intro m os dk hdk
    rw [hds] at hdk
    have hheap:(sortWorldK Elm.vs k w pb po m dk os).heap=w.heap.modify pb (Go.Sort.onCells (Go.Sort.putCells id po (Go.Sort.flatK Elm.vs k dk)))++os:=rfl
    have hmz:(w.heap.modify pb (Go.Sort.onCells (Go.Sort.putCells id po (Go.Sort.flatK Elm.vs k dk)))).size=w.heap.size:=Array.size_modify
    have hblk:(sortWorldK Elm.vs k w pb po m dk os).heap[pb]? = some (.cells (Go.Sort.putCells id po (Go.Sort.flatK Elm.vs k dk) xs) Ty fr):=by
     rw [hheap,Array.getElem?_append_left (by rw [hmz];exact hpb),Array.getElem?_modify,if_pos rfl,g1]
     rfl
    have hoth:∀ b,b<w.heap.size->b≠pb->(sortWorldK Elm.vs k w pb po m dk os).heap[b]? = w.heap[b]?:=by
     intro b hb hne
     rw [hheap,Array.getElem?_append_left (by rw [hmz];exact hb),Array.getElem?_modify,if_neg (Ne.symm hne)]
    have hput:∀ j,(Go.Sort.putCells id po (Go.Sort.flatK Elm.vs k dk) xs)[j]? = if po<=j/\j<po+l.length * k then (xs[j]?).map (fun _=>(Go.Sort.flatK Elm.vs k dk)[j - po]!) else xs[j]?:=by
     intro j
     unfold Go.Sort.putCells
     rw [Array.getElem?_mapIdx,Go.Sort.size_flatK,hdk]
     by_cases hc':po<=j/\j<po+l.length * k
     · simp only [if_pos hc',id]
     · simp only [if_neg hc']
       cases xs[j]? <;> rfl
    have hpsz:(Go.Sort.putCells id po (Go.Sort.flatK Elm.vs k dk) xs).size=xs.size:=by simp [Go.Sort.putCells]
    have hokd:∀ x∈dk.toList.map Elm.t,ok x:=by
     intro x hx
     obtain ⟨y,_,rfl⟩:=List.mem_map.1 hx
     exact y.good
    have hmm:(dk.toList.map fun x=>encV x.t)=(dk.toList.map Elm.t).map encV:=by rw [List.map_map];rfl
    have hcl':(cells (dk.toList.map fun x=>encV x.t)).length=l.length * k:=by
     rw [hmm,zjc hcs _ hokd];simp [hdk]
    refine Sim.swap (w':=sortWorldK Elm.vs k w pb po m dk os) (L1:=[]) hs (e1:=.arr k (.slice (some ⟨pb,po,none⟩) l.length cap) (cells (dk.toList.map fun x=>encV x.t))) rfl rfl rfl (by rw [hheap,Array.size_append,hmz];omega)
     (fun b hb hn=>hoth b hb fun e=>hn ⟨e,hcz⟩) (fun q hq hn=>?_) (fun b h=>.inl h) (fun q h=>.inl h) (fun hst=>?_) (Nat.le_add_right _ _)
    · have hn':¬ (q.block=pb/\po<=q.off/\q.off<po+cap * k):=hn
      obtain ⟨u,hu⟩:=Option.isSome_iff_exists.1 hq
      have hqb:=World.block_lt_of_cell? w q hu
      by_cases hqp:q.block=pb
      · unfold World.cell?
        rw [hqp,hblk,g1]
        simp only
        by_cases hsp:q.spot.isSome=true
        · rw [if_pos hsp,if_pos hsp]
        · rw [if_neg hsp,if_neg hsp,hput,if_neg (by omega)]
      · unfold World.cell?
        rw [hoth _ hqb hqp]
    · refine ⟨hc,hcl',fun _=>⟨rfl,_,Ty,fr,hblk,g2,by rw [hpsz];exact g3,fun t ht=>?_⟩⟩
      rw [hcl'] at ht
      have hq:t / k<l.length:=(Nat.div_lt_iff_lt_mul hk0).2 ht
      have hm:t%k<k:=Nat.mod_lt _ hk0
      have hxt:po+t<xs.size:=by omega
      have e1:(Go.Sort.putCells id po (Go.Sort.flatK Elm.vs k dk) xs).getD (po+t) undef=((dk[t / k]!).vs)[t%k]!:=by
       rw [Array.getD_eq_getD_getElem?,hput,if_pos (by omega),Array.getElem?_eq_getElem hxt]
       simp only [Option.map_some,Option.getD_some,Nat.add_sub_cancel_left]
       exact Go.Sort.get_flatK _ _ _ _ (by rw [hdk];exact ht)
      have e2:(cells (dk.toList.map fun x=>encV x.t)).getD t .any=(encV (dk[t / k]!).t).cell (t%k):=by
       rw [hmm]
       have:=zf2 hcs (dk.toList.map Elm.t) hokd (t / k) (t%k) (by simp [hdk];exact hq) hm
       rw [Nat.mul_comm,Nat.div_add_mod] at this
       rw [this,getElem!_pos dk (t / k) (by rw [hdk];exact hq)]
       simp
      simp only
      rw [e1,e2]
      have:=((dk[t / k]!).rel (t%k) hm).mono hst
      have hl5:=(dk[t / k]!).len
      rwa [List.getD_eq_getElem?_getD,List.getElem?_eq_getElem (by omega),Option.getD_some,<-getElem!_pos] at this
   have hcmp':CmpLays P g #[] (fun x:E=>x.vs) k (fun x y:E=>cf x.t y.t) pb po d.size w:=by
    intro m os dk hdk x y
    obtain ⟨hs',hx'⟩:=hsim m os dk hdk
    obtain ⟨cx,ex,lx,ox⟩:=hcs x.t x.good
    obtain ⟨cy,ey,ly,oy⟩:=hcs y.t y.good
    have hrx:∀ (z:E) cz,encV z.t = .agg cz->cz.length=k->R (stable (sortWorldK Elm.vs k w pb po m dk os) []) (sortWorldK Elm.vs k w pb po m dk os) (.agg z.vs.toArray) (encV z.t):=by
     intro z cz ez lz
     rw [ez]
     refine .agg _ _ (by rw [lz];simpa using z.len) fun j hj=>?_
     have:=(hx'.rel (z.rel j (by omega))).mono (S':=stable (sortWorldK Elm.vs k w pb po m dk os) []) (w':=sortWorldK Elm.vs k w pb po m dk os) (fun a ha=>⟨ha.drop (by simp),rfl⟩)
     rw [ez] at this
     simpa [Array.getD_eq_getD_getElem?,List.getD_eq_getElem?_getD,V.cell] using this
    have:=(hcmp x.t y.t x.good y.good).2 #[.agg x.vs.toArray, .agg y.vs.toArray] (sortWorldK Elm.vs k w pb po m dk os) (sim_nil _) rfl (by
     intro q hq
     match q,hq with
     | 0,_=>exact hrx x cx ex lx
     | 1,_=>exact hrx y cy ey ly)
    refine this.mono ?_
    rintro e w' ⟨u,dd,H',rfl,_,hE,hR,rfl⟩
    cases hR
    exact ⟨rfl,zpX hE⟩
   have hswo:Go.Sort.SWO (ltOf fun x y:E=>cf x.t y.t):=⟨fun x=>hO.irrefl x.t,fun x y z=>hO.trans x.t y.t z.t,fun x y z=>hO.ntrans x.t y.t z.t⟩
   have key:=AnyQ.slices_SortFunc (α:=E) L k aE zE (fun x=>x.vs) (fun x=>x.len) (fun x=>x.one) (fun x y=>cf x.t y.t) hswo g #[] pb po cap d w eg hcmp' hH hpb (by rw [hds];exact hlen)
   rw [hds] at key
   refine key.mono ?_
   rintro e w' ⟨rfl,d',m,os,⟨hp1,_,hp3⟩,hsrt,rfl⟩
   obtain ⟨hs',hx'⟩:=hsim m os d' (by rw [hds] at *;exact hp1)
   refine ⟨_, .tup [],_,rfl,hs',hx', .tup _ _ rfl (fun k hk=>absurd hk (by simp)),rfl,d'.toList.map Elm.t,?_,?_,?_⟩
   · have e1:d'.extract 0 l.length=d':=by rw [<-hds,<-hp1];simp
     have e2:d.extract 0 l.length=d:=by rw [<-hds];simp
     rw [e1,e2] at hp3
     have:=hp3.map Elm.t
     rwa [hdt] at this
   · rw [List.pairwise_map,List.pairwise_iff_getElem]
     intro i j hi hj hij
     have hj':j<d'.size:=by simpa using hj
     have h9:=hsrt i j (Nat.zero_le _) hij (by rw [<-hds,<-hp1];exact hj')
     rw [getElem!_pos d' j hj',getElem!_pos d' i (by omega)] at h9
     simpa [ltOf] using h9
   · rw [List.map_map];rfl
end
end
section
set_option maxHeartbeats 4000000
set_option maxRecDepth 100000
abbrev YSx:=List UInt8
def zdd (n:Int):Nat:=if n<0\/268435455<n then 0 else if n<128 then 1 else if n<16384 then 2 else if n<2097152 then 3 else 4
theorem zkB {n:Int} (h:zdd n≠0):0<=n/\n<268435456:=by
 unfold zdd at h
 split at h
 · exact absurd rfl h
 · omega
theorem fdiv7 (m k:Nat) (hk:k<=3):((m:Int)).fdiv (2 ^ min (7 * (k:Int)).toNat IntKind.i64.bits)=((m / 128 ^ k:Nat):Int):=by
 obtain rfl | rfl | rfl | rfl:k=0\/k=1\/k=2\/k=3:=by omega
 · rw [Int.fdiv_eq_ediv_of_nonneg _ (by decide)];simp
 · rw [Int.fdiv_eq_ediv_of_nonneg _ (by decide),show (2:Int) ^ min (7 * ((1:Nat):Int)).toNat IntKind.i64.bits=128 from by decide];omega
 · rw [Int.fdiv_eq_ediv_of_nonneg _ (by decide),show (2:Int) ^ min (7 * ((2:Nat):Int)).toNat IntKind.i64.bits=16384 from by decide];omega
 · rw [Int.fdiv_eq_ediv_of_nonneg _ (by decide),show (2:Int) ^ min (7 * ((3:Nat):Int)).toNat IntKind.i64.bits=2097152 from by decide];omega
def varM (n:Int):YS:=(List.range (zdd n)).map fun k=>zbw ((if k+1<zdd n then n.toNat / 128 ^ k%128+128 else n.toNat / 128 ^ k%128:Nat):Int)
theorem zie (n:Int):(varM n).length=zdd n:=by simp [varM]
theorem zqI {n:Int} {k:Nat} (h:k<zdd n):(varM n).take (k+1)=(varM n).take k++[zbw ((if k+1<zdd n then n.toNat / 128 ^ k%128+128 else n.toNat / 128 ^ k%128:Nat):Int)]:=by
 rw [List.take_add_one];congr 1;unfold varM;simp [h]
theorem var_hi {n:Int} {k:Nat} (h:k+1<zdd n):(varM n).take (k+1)=(varM n).take k++[zbw ((n.toNat / 128 ^ k%128+128:Nat):Int)]:=by rw [zqI (by omega),if_pos h]
theorem var_lo {n:Int} {k:Nat} (h:k<zdd n) (h2:¬ k+1<zdd n):(varM n).take (k+1)=(varM n).take k++[zbw ((n.toNat / 128 ^ k%128:Nat):Int)]:=by rw [zqI h,if_neg h2]
theorem zk3 (n:Int):zdd n<=4:=by unfold zdd;(repeat' split)<;>decide
attribute [local irreducible] DW SeqD DV DOp DC DVX zdd varM
end
end Go.Proofs.YtgekknefphagbaaGreatDoor
