/- Texts that are owned, sorted; the keys of a map, sorted. No statement of the program. -/
import Derived.Test.YtgekknefphagbaaGreatDoorCzx
import Derived.Test.YtgekknefphagbaaGreatDoorSkx
import Derived.Test.YtgekknefphagbaaGreatDoorPtfx
import Derived.Shelf.Slices.CompactS
import Derived.Test.YtgekknefphagbaaGreatDoorThx
import Derived.KernelRfl
import Derived.Test.YtgekknefphagbaaGreatDoorFxx
import Derived.Test.YtgekknefphagbaaGreatDoorLkx
namespace Go.Proofs.YtgekknefphagbaaGreatDoor
open Go.RowKit
set_option linter.unusedSimpArgs false
set_option linter.unusedVariables false
set_option linter.unusedSectionVars false
section
theorem znA (x:List UInt8):encStr x=Value.string (bs x):=rfl
theorem zoB {w:World} {F:Own} {pb po n cap:Nat} {cs:List V} (hs:Sim w (.arr 1 (.slice (some ⟨pb,po,none⟩) n cap) cs::F)) (hcz:cap≠0) (m:Nat) (os:Array Obj) (ds:List (List UInt8)) (hd:ds.length<=cap) :
  Sim (Go.Sort.grow (Go.Sort.putRow encStr (Go.Sort.ahead w m) pb po ds.toArray) os) (.arr 1 (.slice (some ⟨pb,po,none⟩) ds.length cap) (ds.map V.str)::F) /\
  Ext w (.arr 1 (.slice (some ⟨pb,po,none⟩) n cap) cs::F) (Go.Sort.grow (Go.Sort.putRow encStr (Go.Sort.ahead w m) pb po ds.toArray) os) (.arr 1 (.slice (some ⟨pb,po,none⟩) ds.length cap) (ds.map V.str)::F):=by
 obtain ⟨s0,hnc,hln,xs,Ty,fr,g1,g2,g3,g4,g5,g6⟩:=zcU (L1:=[]) hs hcz
 simp only at s0 g1 g2 g3 g4 g5
 have hpb:pb<w.heap.size:=by
  rcases Nat.lt_or_ge pb w.heap.size with h | h
  · exact h
  · rw [Array.getElem?_eq_none h] at g1;cases g1
 generalize hw:Go.Sort.grow (Go.Sort.putRow encStr (Go.Sort.ahead w m) pb po ds.toArray) os=w2
 have hheap:w2.heap=w.heap.modify pb (Go.Sort.onCells (Go.Sort.putCells encStr po ds.toArray))++os:=by rw [<-hw];rfl
 have hmz:(w.heap.modify pb (Go.Sort.onCells (Go.Sort.putCells encStr po ds.toArray))).size=w.heap.size:=Array.size_modify
 have hblk:w2.heap[pb]? = some (.cells (Go.Sort.putCells encStr po ds.toArray xs) Ty fr):=by
  rw [hheap,Array.getElem?_append_left (by rw [hmz];exact hpb),Array.getElem?_modify,if_pos rfl,g1]
  rfl
 have hoth:∀ b,b<w.heap.size->b≠pb->w2.heap[b]? = w.heap[b]?:=by
  intro b hb hne
  rw [hheap,Array.getElem?_append_left (by rw [hmz];exact hb),Array.getElem?_modify,if_neg (Ne.symm hne)]
 have hput:∀ j,(Go.Sort.putCells encStr po ds.toArray xs)[j]? = if po<=j/\j<po+ds.length then (xs[j]?).map (fun _=>encStr (ds.toArray[j - po]!)) else xs[j]?:=by
  intro j
  unfold Go.Sort.putCells
  rw [Array.getElem?_mapIdx,List.size_toArray]
  by_cases hc':po<=j/\j<po+ds.length
  · simp only [if_pos hc']
  · simp only [if_neg hc']
    cases xs[j]? <;> rfl
 have hpsz:(Go.Sort.putCells encStr po ds.toArray xs).size=xs.size:=by simp [Go.Sort.putCells]
 refine Sim.swap (w':=w2) (L1:=[]) hs (e1:=.arr 1 (.slice (some ⟨pb,po,none⟩) ds.length cap) (ds.map V.str)) (by rw [<-hw];rfl) (by rw [<-hw];rfl) (by rw [<-hw];rfl) (by rw [hheap,Array.size_append,hmz];omega)
  (fun b hb hn=>hoth b hb fun e=>hn ⟨e,hcz⟩) (fun q hq hn=>?_) (fun b h=>.inl h) (fun q h=>.inl h) (fun hst=>?_) (by rw [<-hw];exact Nat.le_add_right _ _)
 · have hn':¬ (q.block=pb/\po<=q.off/\q.off<po+cap * 1):=hn
   obtain ⟨u,hu⟩:=Option.isSome_iff_exists.1 hq
   have hqb:=World.block_lt_of_cell? w q hu
   by_cases hqp:q.block=pb
   · unfold World.cell?
     rw [hqp,hblk,g1]
     simp only
     by_cases hsp:q.spot.isSome=true
     · rw [if_pos hsp,if_pos hsp]
     · rw [if_neg hsp,if_neg hsp,hput,if_neg (by omega)]
   · unfold World.cell?
     rw [hoth _ hqb hqp]
 · have hl:(ds.map V.str).length=ds.length:=List.length_map ..
   refine ⟨by omega,by rw [hl,Nat.mul_one],fun _=>⟨rfl,_,Ty,fr,hblk,g2,by rw [hpsz];exact g3,fun t ht=>?_⟩⟩
   rw [hl] at ht
   have hxt:po+t<xs.size:=by omega
   have e1:(Go.Sort.putCells encStr po ds.toArray xs).getD (po+t) undef=encStr (ds[t]):=by
    rw [Array.getD_eq_getD_getElem?,hput,if_pos (by omega),Array.getElem?_eq_getElem hxt]
    simp only [Option.map_some,Option.getD_some,Nat.add_sub_cancel_left]
    rw [getElem!_pos ds.toArray t (by simpa using ht)]
    simp
   have e2:(ds.map V.str).getD t .any=V.str (ds[t]):=by
    rw [List.getD_eq_getElem?_getD,List.getElem?_map,List.getElem?_eq_getElem ht];rfl
   simp only
   rw [e1,e2,znA]
   exact .str _
theorem zhl {w:World} {F:Own} {pb po cap:Nat} {l:List (List UInt8)} (hs:Sim w (.arr 1 (.slice (some ⟨pb,po,none⟩) l.length cap) (l.map V.str)::F)) (hcz:cap≠0):Go.Sort.Holds encStr w pb po l.toArray/\pb<w.heap.size/\l.length<=cap:=by
 obtain ⟨s0,hnc,hln,xs,Ty,fr,g1,g2,g3,g4,g5,g6⟩:=zcU (L1:=[]) hs hcz
 simp only at s0 g1 g2 g3 g4 g5
 refine ⟨fun t ht=>?_,?_,hnc⟩
 · have ht:t<l.length:=by simpa using ht
   have h:=g4 t (by simpa using ht)
   obtain ⟨h1,h2⟩:=g5 (po+t) (by omega) (by omega)
   have e:(l.map V.str).getD t .any=V.str l[t]:=by
    rw [List.getD_eq_getElem?_getD,List.getElem?_map,List.getElem?_eq_getElem ht];rfl
   rw [e] at h
   refine ⟨?_,h2⟩
   rw [h1,getElem!_pos l.toArray t (by simpa using ht)]
   generalize xs.getD (po+t) undef=u at h
   cases h
   simp [znA]
 · rcases Nat.lt_or_ge pb w.heap.size with h | h
   · exact h
   · rw [Array.getElem?_eq_none h] at g1;cases g1
theorem DC.sortS (he:zdL Tryz.prog 105=true) (l:List Str) (v:Value) (n:Nat) (F:Own) (hn:n=l.length/\l.length<4611686018427387904) :
  DC Tryz.prog 105 [.ar v n] ([.arr 1 v (l.map V.str)]++F) fun d G=>d = .tup []/\G=[.arr 1 v ((Go.Proofs.YtgekknefphagbaaGreatDoor.sortS l).map V.str)]++F:=by
 obtain ⟨rfl,hlen⟩:=hn
 refine ⟨he,fun xs w hs hsz hr=>?_⟩
 have h0:=hr 0 (by simp)
 obtain ⟨x0,rfl⟩:=ziL hsz
 clear hr hsz
 change R _ w x0 (.ar v l.length) at h0
 generalize hN:l.length=N at h0
 cases h0 with
 | ar a _ cap hc ha =>
 subst hN
 by_cases hl0:l=[]
 · subst hl0
   refine (AnyM.slices_Sort_string_none zfQ a cap w).mono ?_
   rintro e w' ⟨rfl,rfl⟩
   exact ⟨_, .tup [],_,rfl,hs, .refl _ _, .tup _ _ rfl (fun k hk=>absurd hk (by simp)),rfl,by simp [Go.Proofs.YtgekknefphagbaaGreatDoor.sortS]⟩
 · have hpos:0<l.length:=List.length_pos_iff.2 hl0
   obtain ⟨hcz,p,rfl⟩:=zgq (L1:=[]) hs (by simpa using hpos)
   obtain ⟨pb,po,ps⟩:=p
   obtain ⟨s0,_⟩:=zcU (L1:=[]) hs hcz
   simp only at s0
   subst s0
   obtain ⟨hH,hb,hcap⟩:=zhl hs hcz
   refine (AnyM.slices_Sort_string zfQ pb po cap l w hH hb hlen).mono ?_
   rintro e w' ⟨rfl,m,os,rfl⟩
   have hz:(Go.Proofs.YtgekknefphagbaaGreatDoor.sortS l).length=l.length:=zeb l
   obtain ⟨h1,h2⟩:=zoB hs hcz m os (Go.Proofs.YtgekknefphagbaaGreatDoor.sortS l) (by rw [hz];exact hcap)
   rw [hz] at h1 h2
   exact ⟨_, .tup [],_,rfl,h1,h2, .tup _ _ rfl (fun k hk=>absurd hk (by simp)),rfl,rfl⟩
theorem DC.mkeys (he:zdL Tryz.prog 123=true) (mk:Nat) (F:Own):True ->
  DC Tryz.prog 123 [.raw (.map (some mk))] (([]:Own)++F) fun d G=>∃ nb,d = .fn (.func (layKeys_ren.f 10)) [] [.raw (.pointer (some ⟨nb,0,none⟩))]/\G = .row nb (.cells #[.map (some mk)] (layKeys_ren.t 23))::F:=fun _=>by
 refine ⟨he,fun xs w hs hsz hr=>?_⟩
 have h0:=hr 0 (by simp)
 obtain ⟨x0,rfl⟩:=ziL hsz
 have h0:R (stable w (([]:Own)++F)) w x0 (.raw (.map (some mk))):=h0
 cases h0
 refine (callsIn_wide.1 (AnyZ.keys_in layKeys Fence.wide 5 trivial rfl (some mk) w)).mono ?_
 rintro e w' ⟨rfl,rfl⟩
 have sw:=hs.add (w':=w.alloc (.cells #[.map (some mk)] (layKeys_ren.t 23))) (e1:=.row w.heap.size (.cells #[.map (some mk)] (layKeys_ren.t 23))) rfl rfl rfl (by simp) (fun b hb=>Below.heap_alloc w _ b hb) (fun b h=>Nat.le_of_eq h.symm) (fun _=>heap_alloc_new w _)
 refine ⟨_, .fn (.func (layKeys_ren.f 10)) [] [.raw (.pointer (some ⟨w.heap.size,0,none⟩))],_,rfl,sw.1,sw.2,?_,w.heap.size,rfl,rfl⟩
 exact .fn _ _ _ _ _ rfl (fun _ h=>absurd h (Nat.not_lt_zero _)) rfl (fun k hk=>by
  match k,hk with
  | 0,_=>exact .raw _)
def RU:Value->Option (DataW Unit×List MemPlace):=fun _=>some (.lit (.bool true),[])
theorem zqj {w:World} {S:Addr->Prop} {mk:Nat} {l:List (Str×Int)} {ty_:TypeId} (hu:Tryz.prog.underlying ty_=some .string) (h:(Ent.map mk (entM V.str (V.int .i64) l)).holds S w) (hn:(l.map (·.1)).Nodup) (hz:l.length<=1000000000) (hk:∀ x∈l,x.1.length<=1000000000) :
  ∃ D:DataW Unit,w.ownsMap Tryz.prog ty_ RU mk l.length D/\Maps.size D=l.length/\(strKeys D).Perm (l.map (·.1)):=by
 obtain ⟨es,clock,h1,h2,h3,h4,h5⟩:=h
 rw [za2] at h2 h3
 have hkey:∀ k,(hk:k<l.length)->(es.getD k default).key=encStr l[k].1:=fun k hk=>by
  have:=(h3 k hk).1
  have e:((entM V.str (V.int .i64) l).getD k (.any, .any)).1 = .str l[k].1:=by simp [entM,List.getD_eq_getElem?_getD,hk]
  rw [e] at this
  generalize (es.getD k default).key=u at this
  cases this;rfl
 have hkeys:es.toList.map (·.key)=l.map fun x=>encStr x.1:=by
  apply List.ext_getElem
  · simp [h2]
  · intro i h1' h2'
    have hi:i<l.length:=by simpa using h2'
    have:=hkey i hi
    have hi':i<es.size:=by omega
    simp only [List.getElem_map,Array.getElem_toList]
    rw [<-this]
    simp [Array.getD_eq_getD_getElem?,hi']
 have hrd:∀ x∈es.toList,∃ y,y∈l/\x.key=encStr y.1:=fun x hx=>by
  have:x.key∈es.toList.map (·.key):=List.mem_map.2 ⟨x,hx,rfl⟩
  rw [hkeys] at this
  obtain ⟨y,hy,e⟩:=List.mem_map.1 this
  exact ⟨y,hy,e.symm⟩
 have hko:∀ y∈l,keyOf Tryz.prog ty_ (encStr y.1)=some (.string y.1):=fun y hy=>by
  have hb:=hk y hy
  have hs:(⟨y.1.toArray⟩:ByteArray).size<=maxLen:=by
   show y.1.toArray.size<=maxLen
   rw [List.size_toArray];unfold maxLen;omega
  simp [keyOf,hu,mapKey,encStr,hs]
 have hrg:∀ x∈es.toList,∃ y∈l,Go.WideElems.rd Tryz.prog ty_ RU x=some (.string y.1, .lit (.bool true))/\x.key=encStr y.1:=fun x hx=>by
  obtain ⟨y,hy,e⟩:=hrd x hx
  refine ⟨y,hy,?_,e⟩
  unfold Go.WideElems.rd
  rw [e,hko y hy];rfl
 refine ⟨_,⟨es,clock,h1,⟨?_,⟨fun x hx=>?_,?_,?_⟩,fun x hx=>?_⟩,by omega,rfl⟩,?_,?_⟩
 · unfold maxLen;omega
 · obtain ⟨i,hi,rfl⟩:=List.getElem_of_mem hx
   have hi':i<es.size:=by simpa using hi
   have:=h5 i hi'
   simpa [Array.getD_eq_getD_getElem?,hi'] using this
 · rw [List.Nodup,List.pairwise_map]
   exact (zfn h4).imp fun h=>by omega
 · rw [hkeys]
   rw [List.Nodup,List.pairwise_map] at hn ⊢
   exact hn.imp fun hne e=>hne (encStr_inj e)
 · obtain ⟨y,_,e,_⟩:=hrg x hx
   exact ⟨_,e⟩
 · show ((es.toList.map (Go.WideElems.rg Tryz.prog ty_ RU)).foldr DataW.insert []).length=l.length
   rw [(Go.WideShapes.sorted_perm _).length_eq];simp [h2]
 · show (((es.toList.map (Go.WideElems.rg Tryz.prog ty_ RU)).foldr DataW.insert []).map fun p=>strOf p.1).Perm (l.map (·.1))
   refine ((Go.WideShapes.sorted_perm _).map _).trans (List.Perm.of_eq ?_)
   rw [List.map_map]
   have e1:es.toList.map ((fun p:Lit×DataW Unit=>strOf p.1) ∘ Go.WideElems.rg Tryz.prog ty_ RU)=(es.toList.map (·.key)).map fun v=>match v with | .string s=>s.data.toList | _=>[]:=by
    rw [List.map_map]
    refine List.map_congr_left fun x hx=>?_
    obtain ⟨y,_,e,ek⟩:=hrg x hx
    simp only [Function.comp]
    unfold Go.WideElems.rg
    rw [e,ek]
    simp [strOf,encStr]
   rw [e1,hkeys,List.map_map]
   refine List.map_congr_left fun x _=>?_
   simp [encStr]
theorem zo9 {w w':World} {H:Own} {T:TypeId} {v:Value} {l:List Str} (hs:Sim w H) (ho:w'.ownsRow w.heap.size T 1 v l.length (l.map encStr)):R (stable w' H) w' v (.sl (l.map V.str)):=by
 obtain ⟨_,⟨rfl,hz⟩ | ⟨g,cap,cur,rfl,hb,hg,hc,_,hsz,htk⟩⟩:=ho
 · obtain rfl:l=[]:=List.length_eq_zero_iff.1 hz
   exact .sl none 0 0 [] 1 rfl (Nat.le_refl _) (fun _=>rfl) (fun _ h=>(nomatch h)) (fun _ h=>absurd h (Nat.not_lt_zero _)) (fun _ _ _ h=>nomatch h) (fun _ _ _ h=>nomatch h)
 · have hcell:∀ i,(hi:i<l.length)->zbb w' ⟨g,i,none⟩=encStr l[i]/\(w'.cell? ⟨g,i,none⟩).isSome=true:=fun i hi=>by
    have hi2:i<cur.size:=by omega
    have e:cur[i]=encStr l[i]:=by
     have:(cur.toList.take (l.length * 1))[i]? = (l.map encStr)[i]?:=by rw [htk]
     rw [List.getElem?_take,if_pos (by omega),List.getElem?_map,List.getElem?_eq_getElem hi] at this
     simpa [hi2] using this
    have ec:w'.cell? ⟨g,i,none⟩=some (encStr l[i]):=by simp [World.cell?,hg,hi2,e]
    exact ⟨by unfold zbb;rw [ec];rfl,by rw [ec];rfl⟩
   refine .sl (some ⟨g,0,none⟩) l.length cap (l.map V.str) 1 (by simp) hc (fun h=>nomatch h) (fun b hb _=>by cases hb;rfl) (fun i hi=>?_) (fun b i k hbb hi hk=>?_) (fun b i k hbb hi hk=>?_)
   · have hi':i<l.length:=by simpa using hi
     simp [List.getD_eq_getElem?_getD,hi',V.n]
   · cases hbb
     have hi':i<l.length:=by simpa using hi
     obtain rfl:k=0:=by omega
     refine ⟨by simpa using (hcell i hi').2,fun e he ha=>?_⟩
     have:=zjt hs he ha
     simp only at this
     omega
   · cases hbb
     have hi':i<l.length:=by simpa using hi
     obtain rfl:k=0:=by omega
     have e2:(l.map V.str).getD i .any = .str l[i]:=by rw [List.getD_eq_getElem?_getD,List.getElem?_map,List.getElem?_eq_getElem hi'];rfl
     rw [e2]
     show R _ _ (zbb w' ⟨g,0+i * 1+0,none⟩) (.str l[i])
     rw [show 0+i * 1+0=i by omega,(hcell i hi').1]
     exact .str _
theorem zpD (m:Nat):AnyZ.SortsIn Tryz.prog laySorted_ren Fence.wide m :=
 ⟨fun blk off cap ss W hH hblk hsz=>callsIn_wide.2 (AnyM.slices_Sort_string zfQ blk off cap ss W hH hblk hsz),
  fun p cap W=>callsIn_wide.2 (AnyM.slices_Sort_string_none zfQ p cap W)⟩
theorem DC.sortedKeys (he:zdL Tryz.prog 122=true) (he1:∀ args w,(callFunc (laySorted_ren.f 9) args).run Tryz.prog w = .ok (.enter (laySorted_ren.f 9) args) w) (he2:∀ args w,(callFunc (layKeys_ren.f 10) args).run Tryz.prog w = .ok (.enter (layKeys_ren.f 10) args) w)
  (mk nb:Nat) (l:List (Str×Int)) (F:Own):(l.map (·.1)).Nodup/\l.length<=1000000000/\(∀ x∈l,x.1.length<=1000000000) ->
  DC Tryz.prog 122 [.fn (.func (layKeys_ren.f 10)) [] [.raw (.pointer (some ⟨nb,0,none⟩))]] ([loose, .row nb (.cells #[.map (some mk)] (layKeys_ren.t 23)), .map mk (entM V.str (V.int .i64) l)]++F) fun d G=>d = .sl ((Go.Proofs.YtgekknefphagbaaGreatDoor.sortS (l.map (·.1))).map V.str)/\G=[loose, .row nb (.cells #[.map (some mk)] (layKeys_ren.t 23)), .map mk (entM V.str (V.int .i64) l)]++F:=fun ⟨hn,hz,hk⟩=>by
 refine ⟨he,fun xs w hs hsz hr=>?_⟩
 have h0:=hr 0 (by simp)
 obtain ⟨x0,rfl⟩:=ziL hsz
 have h0:R (stable w _) w x0 (.fn (.func (layKeys_ren.f 10)) [] [.raw (.pointer (some ⟨nb,0,none⟩))]):=h0
 obtain ⟨ys,rfl,hy⟩:∃ ys:Array Value,x0 = .func (.func (layKeys_ren.f 10)) #[] ys/\ys = #[.pointer (some ⟨nb,0,none⟩)]:=by
  cases h0 with
  | fn f xs ys cs ds e1 e2 e3 e4 =>
   have hxs:xs = #[]:=Array.eq_empty_of_size_eq_zero e1
   obtain ⟨y,rfl⟩:=ziL e3
   have:=e4 0 (by simp)
   have:R (stable w _) w y (.raw (.pointer (some ⟨nb,0,none⟩))):=this
   subst hxs
   have e:y = .pointer (some ⟨nb,0,none⟩):=by cases this;rfl
   exact ⟨_,rfl,by rw [e]⟩
 subst hy
 have hrow:w.heap[nb]? = some (.cells #[.map (some mk)] (layKeys_ren.t 23)):=hs.holds (.row nb (.cells #[.map (some mk)] (layKeys_ren.t 23))) (by simp)
 have hmap:=hs.holds (.map mk (entM V.str (V.int .i64) l)) (by simp)
 obtain ⟨D,hown,hsD,hpD⟩:=zqj (ty_:=layKeys_ren.t 26) layKeys.t26 hmap hn hz hk
 have hnb:nb<w.heap.size:=by
  rcases Nat.lt_or_ge nb w.heap.size with h | h
  · exact h
  · rw [Array.getElem?_eq_none h] at hrow;cases hrow
 have hseq:SeqGives Fence.wide 2 Tryz.prog (layKeys_ren.f 10) #[.pointer (some ⟨nb,0,none⟩)] encStr (fun ss=>ss.Perm (strKeys D)) (Maps.size D) w :=
  AnyZ.keys_gives (ρ:=layKeys_ren) { layKeys with } Fence.wide _ trivial rfl (by omega) nb mk l.length D _ hnb (by simp [World.cell?,hrow]) hown
 have c:=AnyZ.sorted_in zof Fence.wide 5 trivial trivial trivial trivial rfl (by omega) (zpD _) he1 (layKeys_ren.f 10) #[.pointer (some ⟨nb,0,none⟩)] trivial he2 _ _ (by rw [hsD];unfold maxLen;omega) (by rw [hsD];omega) w hseq
 refine (callsIn_wide.1 c).mono ?_
 rintro e w' ⟨v,ss,rfl,hS,hrow',_,hb⟩
 obtain ⟨k1,k2⟩:=hs.moreL (by simp) hb
 have hso:ss.mergeSort (fun x y=>decide (x<=y))=Go.Proofs.YtgekknefphagbaaGreatDoor.sortS (l.map (·.1)):=mergeSort_of_perm (hS.trans hpD)
 rw [hso] at hrow'
 have hlen:ss.length=(Go.Proofs.YtgekknefphagbaaGreatDoor.sortS (l.map (·.1))).length:=by rw [<-hso];exact (List.length_mergeSort ss).symm
 rw [hlen] at hrow'
 exact ⟨v,_,_,rfl,k1,k2,zo9 hs hrow',rfl,rfl⟩
end
section
theorem zpr {w:World} {F:Own} {pb po n cap:Nat} {cs:List V} (hs:Sim w (.arr 1 (.slice (some ⟨pb,po,none⟩) n cap) cs::F)) (hcz:cap≠0) (m:Nat) (os:Array Obj) (ds:List (List UInt8)) (hd:ds.length<=cap) (n':Nat) (hn':n'<=ds.length) :
  Sim (Go.Sort.grow (Go.Sort.putRow encStr (Go.Sort.ahead w m) pb po ds.toArray) os) (.arr 1 (.slice (some ⟨pb,po,none⟩) n' cap) ((ds.take n').map V.str)::F) /\
  Ext w (.arr 1 (.slice (some ⟨pb,po,none⟩) n cap) cs::F) (Go.Sort.grow (Go.Sort.putRow encStr (Go.Sort.ahead w m) pb po ds.toArray) os) (.arr 1 (.slice (some ⟨pb,po,none⟩) n' cap) ((ds.take n').map V.str)::F):=by
 obtain ⟨s0,hnc,hln,xs,Ty,fr,g1,g2,g3,g4,g5,g6⟩:=zcU (L1:=[]) hs hcz
 simp only at s0 g1 g2 g3 g4 g5
 have hpb:pb<w.heap.size:=by
  rcases Nat.lt_or_ge pb w.heap.size with h | h
  · exact h
  · rw [Array.getElem?_eq_none h] at g1;cases g1
 generalize hw:Go.Sort.grow (Go.Sort.putRow encStr (Go.Sort.ahead w m) pb po ds.toArray) os=w2
 have hheap:w2.heap=w.heap.modify pb (Go.Sort.onCells (Go.Sort.putCells encStr po ds.toArray))++os:=by rw [<-hw];rfl
 have hmz:(w.heap.modify pb (Go.Sort.onCells (Go.Sort.putCells encStr po ds.toArray))).size=w.heap.size:=Array.size_modify
 have hblk:w2.heap[pb]? = some (.cells (Go.Sort.putCells encStr po ds.toArray xs) Ty fr):=by
  rw [hheap,Array.getElem?_append_left (by rw [hmz];exact hpb),Array.getElem?_modify,if_pos rfl,g1]
  rfl
 have hoth:∀ b,b<w.heap.size->b≠pb->w2.heap[b]? = w.heap[b]?:=by
  intro b hb hne
  rw [hheap,Array.getElem?_append_left (by rw [hmz];exact hb),Array.getElem?_modify,if_neg (Ne.symm hne)]
 have hput:∀ j,(Go.Sort.putCells encStr po ds.toArray xs)[j]? = if po<=j/\j<po+ds.length then (xs[j]?).map (fun _=>encStr (ds.toArray[j - po]!)) else xs[j]?:=by
  intro j
  unfold Go.Sort.putCells
  rw [Array.getElem?_mapIdx,List.size_toArray]
  by_cases hc':po<=j/\j<po+ds.length
  · simp only [if_pos hc']
  · simp only [if_neg hc']
    cases xs[j]? <;> rfl
 have hpsz:(Go.Sort.putCells encStr po ds.toArray xs).size=xs.size:=by simp [Go.Sort.putCells]
 refine Sim.swap (w':=w2) (L1:=[]) hs (e1:=.arr 1 (.slice (some ⟨pb,po,none⟩) n' cap) ((ds.take n').map V.str)) (by rw [<-hw];rfl) (by rw [<-hw];rfl) (by rw [<-hw];rfl) (by rw [hheap,Array.size_append,hmz];omega)
  (fun b hb hn=>hoth b hb fun e=>hn ⟨e,hcz⟩) (fun q hq hn=>?_) (fun b h=>.inl h) (fun q h=>.inl h) (fun hst=>?_) (by rw [<-hw];exact Nat.le_add_right _ _)
 · have hn':¬ (q.block=pb/\po<=q.off/\q.off<po+cap * 1):=hn
   obtain ⟨u,hu⟩:=Option.isSome_iff_exists.1 hq
   have hqb:=World.block_lt_of_cell? w q hu
   by_cases hqp:q.block=pb
   · unfold World.cell?
     rw [hqp,hblk,g1]
     simp only
     by_cases hsp:q.spot.isSome=true
     · rw [if_pos hsp,if_pos hsp]
     · rw [if_neg hsp,if_neg hsp,hput,if_neg (by omega)]
   · unfold World.cell?
     rw [hoth _ hqb hqp]
 · have hl:((ds.take n').map V.str).length=n':=by rw [List.length_map,List.length_take];omega
   refine ⟨by omega,by rw [hl,Nat.mul_one],fun _=>⟨rfl,_,Ty,fr,hblk,g2,by rw [hpsz];exact g3,fun t ht=>?_⟩⟩
   rw [hl] at ht
   have hxt:po+t<xs.size:=by omega
   have e1:(Go.Sort.putCells encStr po ds.toArray xs).getD (po+t) undef=encStr (ds[t]'(by omega)):=by
    rw [Array.getD_eq_getD_getElem?,hput,if_pos (by omega),Array.getElem?_eq_getElem hxt]
    simp only [Option.map_some,Option.getD_some,Nat.add_sub_cancel_left]
    rw [getElem!_pos ds.toArray t (by simpa using (by omega:t<ds.length))]
    simp
   have e2:((ds.take n').map V.str).getD t .any=V.str (ds[t]'(by omega)):=by
    rw [List.getD_eq_getElem?_getD,List.getElem?_map,List.getElem?_take,if_pos ht,List.getElem?_eq_getElem (by omega)]
    rfl
   simp only
   rw [e1,e2,znA]
   exact .str _
section
variable {P:Program} {ρ : Go.Shelf.Ren}
theorem DC.compactS (L:Lays.n194 P ρ) (he:zdL P (ρ.f 194)=true) (l:List Str) (v:Value) (n:Nat) (F:Own) (hn:n=l.length/\l.length<4611686018427387904) :
  DC P (ρ.f 194) [.ar v n] ([.arr 1 v (l.map V.str)]++F) fun d G=>∃ v',d = .ar v' (Go.Lib.compact l).length/\G=[.arr 1 v' ((Go.Lib.compact l).map V.str)]++F:=by
 obtain ⟨rfl,hlen⟩:=hn
 refine ⟨he,fun xs w hs hsz hr=>?_⟩
 have h0:=hr 0 (by simp)
 obtain ⟨x0,rfl⟩:=ziL hsz
 clear hr hsz
 change R _ w x0 (.ar v l.length) at h0
 generalize hN:l.length=N at h0
 cases h0 with
 | ar a _ cap hc ha =>
 subst hN
 by_cases hl0:l=[]
 · subst hl0
   refine (Any.slices_Compact_string_empty L a cap w).mono ?_
   rintro e w' ⟨rfl,rfl⟩
   exact ⟨_,_,_,rfl,hs, .refl _ _, .ar a 0 cap hc ha,_,rfl,rfl⟩
 · have hpos:0<l.length:=List.length_pos_iff.2 hl0
   obtain ⟨hcz,p,rfl⟩:=zgq (L1:=[]) hs (by simpa using hpos)
   obtain ⟨pb,po,ps⟩:=p
   obtain ⟨s0,_⟩:=zcU (L1:=[]) hs hcz
   simp only at s0
   subst s0
   obtain ⟨hH,hb,hcap⟩:=zhl hs hcz
   refine (Any.slices_Compact_string L pb po cap l w hH (by omega) hcap).mono ?_
   rintro e w' ⟨rfl,m,rfl⟩
   have hz:(Go.Lib.compact l).length<=l.length:=Go.Lib.compact_length_le l
   obtain ⟨h1,h2⟩:=zpr hs hcz m #[] (Go.Lib.compact l++List.replicate (l.length - (Go.Lib.compact l).length) []) (by simp;omega) (Go.Lib.compact l).length (by simp)
   rw [List.take_left' rfl] at h1 h2
   have hg:∀ w:World,Go.Sort.grow w #[]=w:=fun w=>by simp [Go.Sort.grow]
   rw [hg] at h1 h2
   exact ⟨_,_,_,rfl,h1,h2, .ar _ _ _ (by omega) (fun h=>nomatch h),_,rfl,rfl⟩
end
end
section
set_option maxHeartbeats 4000000
set_option maxRecDepth 100000
theorem znY (r:Nat) (m:List Str->Str->Option Int) (key:Str):∀ (l:List Str) (h:List Nd) (p:List Str) (b:Nat) (F:Own),(Tri h r m/\fol h r p=some b/\l.length<=1000000000)->DC Tryz.prog 159 [.raw (.pointer (some ⟨b,0,none⟩)), .sl (l.map V.str), .str key] ((ownH h++[])++F) fun d G=>∃ h':List Nd,DropP h h' r m p l key/\d = .bool (m (p++l) key).isSome/\G=ownH h'++F
 | [],h,p,b,F,⟨ht,hp,_⟩=>by
  obtain ⟨x,hx⟩:=ht.at hp
  exact zpT r m key h p b x F ⟨ht,hp,hx⟩
 | y::t,h,p,b,F,⟨ht,hp,hl⟩=>by
  obtain ⟨x,hx⟩:=ht.at hp
  rw [List.length_cons] at hl
  cases hlk:lookA y x.next with
  | none=>exact zpM r m key h p b x y t F ⟨⟨ht,hp,hx⟩,hlk,by omega⟩
  | some c=>exact zoP r m key h p b x y t c F ⟨⟨ht,hp,hx⟩,hlk,by omega,fun h p b F hq=>znY r m key t h p b F ⟨hq.1,hq.2,by omega⟩⟩
theorem zmE {L:TL} (hn:(L.map (·.1)).Nodup) (f k:Str):mDrop (mOf L) (spl f) k=mOf (za0 (f,k) L):=by
 funext q j
 unfold mDrop
 by_cases hq:q=spl f
 · subst hq
   rw [zeB,zeB,zeh hn]
   by_cases e:j=k
   · rw [if_pos ⟨rfl,e⟩,if_pos (by rw [e])]
   · rw [if_neg (fun h=>e h.2),if_neg (fun h=>e (Prod.mk.inj h).2)]
 · rw [if_neg (fun h=>hq h.1)]
   unfold mOf
   by_cases hs:spl (joinS q)=q
   · rw [if_pos hs,if_pos hs,zeh hn,if_neg (fun e=>hq (by rw [<-hs,(Prod.mk.inj e).1]))]
   · rw [if_neg hs,if_neg hs]
theorem zi0 {s:TS} (hs:TOK s) {f:Str} (hf:filterB f=false) (k:Str):lookA (f,k) s.L=none:=zbF.2 fun x hx e=>by
 have:=hs.fl x hx
 rw [<-e,hf] at this;cases this
theorem drop_ok {s:TS} (hs:TOK s) {f ky:Str} {h':List Nd} (D:DropP s.h h' s.r (mOf s.L) [] (spl f) ky):TOK ⟨s.r,h',za0 (f,ky) s.L⟩:=by
 have:=D.tri
 rw [List.nil_append,zmE hs.nd] at this
 exact ⟨this,zdx hs.nd,fun e he=>hs.fl e (dropA_sub.subset he),fun e he=>hs.kl e (dropA_sub.subset he)⟩
theorem zqg (ts:TS) (f ky:Str) (F:Own):(TOK ts/\(spl f).length<=1000000000)->DC Tryz.prog 159 [.raw (.pointer (some ⟨ts.r,0,none⟩)), .sl ((spl f).map V.str), .str ky] ((ownH ts.h++[])++F) fun d G=>∃ ts':TS,(TOK ts'/\ts'.r=ts.r/\ts'.L=za0 (f,ky) ts.L)/\d = .bool (lookA (f,ky) ts.L).isSome/\G=ownH ts'.h++F:=fun ⟨hs,hl⟩=>by
 refine (znY ts.r (mOf ts.L) ky (spl f) ts.h [] ts.r F ⟨hs.tri,rfl,hl⟩).mono fun d G hd=>?_
 obtain ⟨h',D,hd,hG⟩:=hd
 rw [List.nil_append,zeB] at hd
 exact ⟨⟨ts.r,h',za0 (f,ky) ts.L⟩,⟨drop_ok hs D,rfl,rfl⟩,hd,hG⟩
theorem zmT {α:Type} [DecidableEq α]:∀ {l l':List α},l.Nodup->(∀ x∈l,x∈l')->l.length<=l'.length
 | [],_,_,_=>Nat.zero_le _
 | x::l,l',hn,hs=>by
  rw [List.nodup_cons] at hn
  obtain ⟨a,b,rfl⟩:=List.append_of_mem (hs x List.mem_cons_self)
  have:=zmT (l':=a++b) hn.2 fun y hy=>by
   have h1:=hs y (List.mem_cons_of_mem _ hy)
   rcases List.mem_append.1 h1 with h1 | h1
   · exact List.mem_append_left _ h1
   · rcases List.mem_cons.1 h1 with rfl | h1
     · exact absurd hy hn.1
     · exact List.mem_append_right _ h1
  simp only [List.length_append,List.length_cons] at this ⊢
  omega
theorem nodeK {s:TS} (hs:TOK s) {f:Str} {c:Nat} {nd:Nd} (hf:fol s.h s.r (spl f)=some c) (hx:fnd s.h c=some nd):zpo nd.keys/\nd.keys.length<=s.L.length/\(∀ x∈nd.keys,x.1.length<=1000000000)/\∀ x,x∈nd.keys.map (·.1)↔x∈zcl s.L f:=by
 have hn:=(hs.tri.nn _ _ hx).2
 have hl:=zjs hs.tri hf hx
 have hm:∀ x,x∈nd.keys.map (·.1)↔(f,x)∈s.L.map (·.1):=fun x=>by rw [<-zcd,<-zcd,hl]
 refine ⟨hn,?_,fun x hx'=>?_,fun x=>?_⟩
 · have:=zmT (l:=(nd.keys.map (·.1)).map fun k=>(f,k)) (l':=s.L.map (·.1)) (by
    rw [List.Nodup,List.pairwise_map];exact hn.imp fun h e=>h (Prod.mk.inj e).2) fun x hx'=>by
    obtain ⟨k,hk,rfl⟩:=List.mem_map.1 hx'
    exact (hm k).1 hk
   simpa using this
 · obtain ⟨e,he,e1⟩:=List.mem_map.1 ((hm x.1).1 (List.mem_map.2 ⟨x,hx',rfl⟩))
   have:=hs.kl e he
   rw [e1] at this;exact this
 · rw [hm,(zjM s.L f).2]
   constructor
   · intro h
     obtain ⟨e,he,e1⟩:=List.mem_map.1 h
     exact ⟨e,he,by rw [e1],by rw [e1]⟩
   · rintro ⟨e,he,e1,e2⟩
     exact List.mem_map.2 ⟨e,he,by rw [<-e1,<-e2]⟩
theorem zgZ {s:TS} {f:Str} (h:∀ k,lookA (f,k) s.L=none):zcl s.L f=[]:=List.eq_nil_iff_forall_not_mem.2 fun x hx=>by
 obtain ⟨e,he,e1,e2⟩:=((zjM s.L f).2 x).1 hx
 exact zbF.1 (h x) e he (by rw [<-e1,<-e2])
theorem none_of {α:Type} {o:Option α} (h:o.isSome=false):o=none:=by cases o with
 | none=>rfl
 | some _=>cases h
theorem zp1 {L:TL} {f k:Str} (h:(lookA (f,k) L).isSome=true):(((za0 (f,k) L).length:Nat):Int)=(L.length:Int) - 1:=by
 obtain ⟨v,hv⟩:=Option.isSome_iff_exists.1 h
 have:=zjb hv
 omega
theorem zom {s:TS} (hs:TOK s) {f:Str} {k:Nat} (h:fol s.h s.r ((spl f).take k)=none) (j:Str):lookA (f,j) s.L=none:=by
 rw [<-zeB]
 refine hs.tri.all _ j ?_
 rw [<-List.take_append_drop k (spl f),zfk,h];rfl
theorem zoM {s:TS} {f:Str} {l:IM} (hn:zpo l) (hm:∀ x,x∈l.map (·.1)↔x∈zcl s.L f):sortS (l.map (·.1))=zcl s.L f:=zhy hn (zjM s.L f).1 hm
theorem zoE (mk:Nat) (F:Own):True->DC Tryz.prog 123 [.raw (.map (some mk))] (([]:Own)++F) fun d G=>∃ nb,d = .fn (.func 176) [] [.raw (.pointer (some ⟨nb,0,none⟩))]/\G = .row nb (.cells #[.map (some mk)] 172)::F:=DC.mkeys (by kernel_rfl) mk F
theorem zo8 (mk nb:Nat) (l:IM) (F:Own):(zpo l/\l.length<=1000000000/\(∀ x∈l,x.1.length<=1000000000))->DC Tryz.prog 122 [.fn (.func 176) [] [.raw (.pointer (some ⟨nb,0,none⟩))]] ([loose, .row nb (.cells #[.map (some mk)] 172), .map mk (entM V.str (V.int .i64) l)]++F) fun d G=>d = .sl ((sortS (l.map (·.1))).map V.str)/\G=[loose, .row nb (.cells #[.map (some mk)] 172), .map mk (entM V.str (V.int .i64) l)]++F :=
 DC.sortedKeys (by kernel_rfl) (enters_of Tryz.func105 (by kernel_rfl) rfl) (enters_of Tryz.func176 (by kernel_rfl) rfl) mk nb l F
attribute [local irreducible] DW SeqD DV DOp DC DVX Nd.own ownH filterB spl zcl
theorem zbP {p:Prop} (h:p:=by first | exact sv | (refine ⟨hs,?_⟩;(have hl6:(spl f).length<=65536:=zew hb);omega) | fail):p:=h
theorem zbH {P Q:Prop} (q:Q) (h:Hid Q->P:=by (intro q;simp (maxSteps:=1000000) (disch:=omega) only [push_cast,↓reduceIte,reduceCtorEq,Nat.reduceAdd,Nat.reduceMul,Nat.reduceLT,Nat.reduceLeDiff,Nat.reduceEqDiff,Nat.reduceSub,Int.reduceToNat,Int.reduceLT,Int.reduceLE,Int.reduceAdd,Int.reduceSub,Int.reduceMul,Int.reduceNeg,Nat.reduceBEq,Int.reduceBEq,Int.reduceBNe,Nat.reduceBNe,Int.reduceEq,hlk,hC];exact q.1)):P:=h ⟨q⟩
attribute [local push_cast 2000] za9 zaW za8 zaL za3 zaG zaV za7 zax za2 zaX zaB zaC zaY zaE zaq za6 zat zaZ za5 zas zba zaD zar zap zaR zcO zaH zaF Option.getD_some Option.getD_none Option.isSome_some Option.isSome_none
section
theorem zlh (m:Int) (t:Nat) (ts:TS) (f ky:Str) (F:Own):(TOK ts/\f.length<=1000000/\ts.L.length<=1000000000)->DC Tryz.prog 100 [.raw (.pointer (some ⟨t,0,none⟩)), .str f, .str ky] (knF::knA::knM m::(ownT t ts++[])++F) fun d G=>∃ ts':TS,(TOK ts'/\ts'.L=za0 (f,ky) ts.L)/\d = .bool (lookA (f,ky) ts.L).isSome/\G=knF::knA::knM m::(ownT t ts'++F):=by
 intro hA
 obtain ⟨hs,hlf,hln⟩:=hA
 refine DC.bodyS (n_:=29) (show Tryz.prog.funcs[100]? = some Tryz.f100 by kernel_rfl) rfl rfl (by rfl) ?_
 simp only [env0,List.append_assoc,List.cons_append,List.nil_append]
 have kw:=ksIs [0,1,2,6,7,20]
 have ow:=zaf []
 have dw1:=drIs 1 [10] [1,6,8]
 have hlk:True:=trivial
 have hC:True:=trivial
 simp only [ownT,List.cons_append,List.append_assoc,List.nil_append]
 repeat' (first
  | ((refine DOp.load_ rfl rfl ?_);(repeat (with_reducible first | refine OnB.here ?_ | refine OnB.next ?_ | (refine OnB.inH (by assumption) ?_;with_reducible intro C) | refine OnB.skip ?_));refine zbH ?_)
  | ((refine dm_ ?_);(refine DVop.load_ rfl rfl rfl rfl ?_);(repeat (with_reducible first | refine OnB.here ?_ | refine OnB.next ?_ | (refine OnB.inH (by assumption) ?_;with_reducible intro C) | refine OnB.skip ?_));refine zbH ?_)
  | refine g_ ?_
  | ((with_reducible refine And.intro ?_ ?_);(exact zbP))
  | (refine DW.cond (by rfl) ?_ ?_<;>(first | exact i0_ | (intro hb;(try simp only [↓reduceCtorEq,not_true_eq_false,not_false_eq_true,hbs,Int.reduceBEq,Int.reduceBNe,Int.reduceEq] at hb);(try refine zbH ?_))))
  | ((with_reducible first | refine zaa ?_ ?_ | refine zak ?_ ?_)<;>(intro hb;rw [hb];revert hb;(first | exact i0_ | (intro hb;(try simp only [↓reduceCtorEq,not_true_eq_false,not_false_eq_true,hbs,Int.reduceBEq,Int.reduceBNe,Int.reduceEq] at hb);(try refine zbH ?_)))))
  | ((first | refine rn_ ?_ | refine dn_ ?_ | refine kn_ ?_)<;>(refine zbH ?_))
  | ((refine dm_ ?_);(first | ((first | refine v_ (zcv _ _ _) ?_ (ha:=by exact zbP) (hk:=fun q=>q.1) | refine v_ (zht _ _ _) ?_ (ha:=by exact zbP) (hk:=fun q=>q.1));refine zbH ?_)))
  | ((refine von_ ?_);refine zbH ?_)
  | ((first | refine q_ (zcv _ _ _) ?_ (ha:=by exact zbP) (hk:=fun q=>q.1) | refine q_ (zht _ _ _) ?_ (ha:=by exact zbP) (hk:=fun q=>q.1));refine zbH ?_)
  | (refine p_ (zqg _ _ _ _) ?_ (ha:=by exact zbP);rintro d H1 ⟨ts2,⟨hs2,hr2,hL2⟩,rfl,rfl⟩<;>refine zbH ?_)
  | ((refine on_ ?_);refine zbH ?_)
  | refine f_ ?_
  | refine vm_ ?_
  | with_reducible intro b)
 all_goals first
 | (refine ⟨_,_,le.rfl_,⟨ts2,⟨hs2,hL2⟩,rfl,rfl⟩,?_⟩;(try unfold ownT);(rw [hr2,hL2,zp1 hb]);(exact sub_);done)
 | (refine ⟨_,_,le.rfl_,⟨ts2,⟨hs2,hL2⟩,rfl,rfl⟩,?_⟩;(try unfold ownT);(rw [hr2,hL2,zfd (none_of hb)]);(exact sub_);done)
 | (have hno:=zi0 hs hb ky
    refine ⟨_,_,le.of_eq ?_,⟨ts,⟨hs,(zfd hno).symm⟩,rfl,rfl⟩,?_⟩;(focus (rw [hno];rfl));(try unfold ownT);(try simp only [List.cons_append]);(exact sub_);done)
 | (trace_state;fail)
end
theorem zcV {p:Prop} (h:p:=by first | exact sv | (show (spl f).length<=_;omega) | exact ⟨hkn,Nat.le_trans hkz hln,hkb⟩ | fail):p:=h
section
theorem zfG (m:Int) (t:Nat) (ts:TS) (f:Str) (F:Own):(TOK ts/\f.length<=1000000/\ts.L.length<=1000000000)->DC Tryz.prog 95 [.raw (.pointer (some ⟨t,0,none⟩)), .str f] (loose::knF::knA::knM m::(ownT t ts++[])++F) fun d G=>d = .sl ((zcl ts.L f).map V.str)/\G=(loose::knF::knA::knM m::(ownT t ts++[]))++F:=by
 intro hA
 obtain ⟨hs,hlf,hln⟩:=hA
 refine DC.bodyS (n_:=37) (show Tryz.prog.funcs[95]? = some Tryz.f95 by kernel_rfl) rfl rfl (by rfl) ?_
 simp only [env0,List.append_assoc,List.cons_append,List.nil_append]
 have kw:=ksIs [0,1,4,5,7,10,16,17,18,19,29]
 have ow:=zaf []
 have hlk:True:=trivial
 have hC:True:=trivial
 simp only [ownT,List.cons_append,List.append_assoc,List.nil_append]
 repeat' (first
  | ((fail_if_success (have zz:=hop));(obtain ⟨_,rfl⟩:=zbR hx);(with_reducible apply DW.openR 11 hx);(repeat (with_reducible first | refine OutL.here ?_ | refine OutL.next ?_ | refine OutL.skip ?_));(intro g1 g2 hg);(have hop:True:=trivial);(unfold Nd.own;simp only [List.cons_append,List.nil_append]))
  | ((refine DOp.load_ rfl rfl ?_);(repeat (with_reducible first | refine OnB.here ?_ | refine OnB.next ?_ | (refine OnB.inH (by assumption) ?_;with_reducible intro C) | refine OnB.skip ?_));refine zbH ?_)
  | ((refine DOp.look_ rfl rfl ?_);(repeat (with_reducible first | refine OnM.here ?_ | refine OnM.next ?_ | (refine OnM.inN (by assumption) ?_;with_reducible intro C hC) | (refine OnM.inK (by assumption) ?_;with_reducible intro C hC) | refine OnM.skip ?_));refine zbH ?_)
  | ((with_reducible refine DW.loopB 0 (X:=Nat×Nat) (fun x=>x.1<=(spl f).length/\fol ts.h ts.r ((spl f).take x.1)=some x.2) (fun x=>[(5, .raw (.pointer (some ⟨x.2,0,none⟩))),(16, .sl ((spl f).map V.str)),(17, .int .i64 (spl f).length),(18, .int .i64 x.1)]) (fun x=>([]:Own)) (fun x=>(spl f).length - x.1) ((0,ts.r)) ?_ ?_ ?_);exact (⟨Nat.zero_le _,rfl⟩);(exact kxcm);(try simp only [List.append_assoc,List.cons_append,List.nil_append]);refine pl_ ?_;intro ⟨k,c⟩ ⟨hk,hf⟩;(try simp only [List.append_assoc,List.cons_append,List.nil_append]);(try simp only at hk hf);have hl6:(spl f).length<=65536:=zew (by assumption);(obtain ⟨nd,hx⟩:=hs.tri.at hf);by_cases hkl:k<(spl f).length;(rcases hlk:lookA ((spl f).getD k default) nd.next with _ | c2);rotate_left 2;((have hkl2:k=(spl f).length:=by omega);(rw [hkl2,List.take_length] at hf);(obtain ⟨hkn,hkz,hkb,hkm⟩:=nodeK hs hf hx)))
  | refine g_ ?_
  | ((with_reducible refine And.intro ?_ ?_);(exact zcV))
  | (refine DW.cond (by rfl) ?_ ?_<;>(first | exact i0_ | (intro hb;(try simp only [↓reduceCtorEq,not_true_eq_false,not_false_eq_true,hbs,Int.reduceBEq,Int.reduceBNe,Int.reduceEq] at hb);(try refine zbH ?_))))
  | ((with_reducible refine zaa ?_ ?_)<;>(intro hb;rw [hb];revert hb;(first | exact i0_ | (intro hb;(try simp only [↓reduceCtorEq,not_true_eq_false,not_false_eq_true,hbs,Int.reduceBEq,Int.reduceBNe,Int.reduceEq] at hb);(try refine zbH ?_)))))
  | ((first | refine rn_ ?_ | refine kn_ ?_)<;>(refine zbH ?_))
  | ((first | (refine DOp.look_ rfl rfl ?_;(repeat (with_reducible first | refine OnM.here ?_ | refine OnM.next ?_))) | (refine DOp.lenm_ rfl rfl ?_;(repeat (with_reducible first | refine OnM.here ?_ | refine OnM.next ?_))))<;>(refine zbH ?_))
  | ((first | refine q_ (zcv _ _ _) ?_ (ha:=by exact zcV) (hk:=fun q=>q.1) | refine q_ (zht _ _ _) ?_ (ha:=by exact zcV) (hk:=fun q=>q.1));refine zbH ?_)
  | (refine p_ (zoE _ _) ?_ (ha:=by exact zcV);rintro d H1 ⟨nb,rfl,rfl⟩<;>refine zbH ?_)
  | (refine q_ (zo8 _ _ _ _) ?_ (ha:=by exact zcV) (hk:=fun q=>q.1);refine zbH ?_)
  | ((refine on_ ?_);refine zbH ?_)
  | refine f_ ?_
  | with_reducible intro b)
 all_goals first
 | (have hno:=fun k=>zi0 hs (by assumption) k
    rw [zgZ hno];(first | exact fin_ | refine finq_ ?_);done)
 | (have hno:∀ j,lookA (f,j) ts.L=none:=zom hs (k:=k+1) (by rw [zks hkl,hs.tri.fkid hf hx];exact hlk)
    rw [zgZ hno];(first | exact fin_ | refine finq_ ?_);done)
 | (refine ⟨(k+1,c2),⟨by (try simp only);omega,?_⟩,by (try simp only);omega,by simp [Sub,get],?_⟩;(focus ((try dsimp only);rw [zks hkl,hs.tri.fkid hf hx];exact hlk));(exact kxce);done)
 | (rw [zoM hkn hkm,hg];(refine ⟨_,_,le.rfl_,⟨rfl,rfl⟩,?_⟩);(repeat (first | refine SubP.pick ?_ | refine Out.here ?_ | refine Out.next ?_ | refine Out.skip ?_));(refine SubP.closeR ?_);(unfold Nd.own;simp only [List.cons_append,List.nil_append]);(exact sub_);done)
 | (trace_state;fail)
end
end
section
set_option maxHeartbeats 4000000
set_option maxRecDepth 100000
attribute [local irreducible] DW SeqD DV DOp DC DVX Nd.own ownH zb5 spl zgt vis zlD hidT sortS
section
attribute [local push_cast 2000] za9 zaW za8 zaL za3 zaG zaV za7 zax za2 zaX zaB zaC zaY zaE zaq za6 zat zaZ za5 zas zba zaD zar zap zaR zcO zaH zaF Option.getD_some Option.getD_none Option.isSome_some Option.isSome_none
end
end
section
set_option maxHeartbeats 4000000
set_option maxRecDepth 100000
theorem zb3:∀ l:List Str,cells (l.map V.str)=l.map V.str
 | []=>rfl
 | x::l=>by rw [List.map_cons,zbc,zb3 l];rfl
def outS (Q:List (List Str)):List V:=(Q.map joinS).map V.str
theorem outS_s (Q:List (List Str)) (p:List Str):outS (Q++[p])=outS Q++[.str (joinS p)]:=by simp [outS]
def cntQ (Q:List (List Str)):Nat:=Q.length
theorem cntQ_s (Q:List (List Str)) (p:List Str):cntQ (Q++[p])=cntQ Q+1:=by simp [cntQ]
theorem DC.frzT {P:Program} {f:FuncId} {args:List V} {H F:Own} {sz:Nat} {l:List V} (hz:0<sz) (hl:∀ y∈l,y.n=sz)
  (h:DC P f args H fun d G=>∃ v,d = .ar v l.length/\G = .arr sz v (cells l)::F):DC P f args H fun d G=>∃ v,d = .gs v l/\G = .tail sz v::F :=
 ⟨h.1,fun xs w hs hn hr=>(h.2 xs w hs hn hr).mono fun e w' ⟨u,d,H',he,s,ex,r,v,hd,hG⟩=>by
   subst hd hG
   obtain ⟨⟨g1,g2⟩,g3⟩:=Sim.frz (L1:=[]) s hz hl
   exact ⟨u, .gs v l,_,he,g1,ex.trans g2,R.cv g3 (Cv.hit _) (g2.rel r),v,rfl,rfl⟩⟩
attribute [local irreducible] DW SeqD DV DOp DC DVX
theorem zj7 {p:Prop} (h:p:=by first | exact sv | (simp [V.one]<;>omega) | fail):p:=h
theorem zoA (l:List Str) (p:Addr) (n cap:Nat) (F:Own):(l.length<=1000000000)->DC Tryz.prog 189 [.gs (.slice (some p) n cap) (l.map V.str)] (([]:Own)++F) fun d G=>∃ v,d = .ar v l.length/\G = .arr 1 v (cells (l.map V.str))::F:=by
 intro hA
 have hl:=hA
 refine DC.bodyS (n_:=8) (show Tryz.prog.funcs[189]? = some Tryz.f189 by kernel_rfl) rfl rfl (by rfl) ?_
 simp only [env0,List.cons_append,List.nil_append]
 have kw:=ksIs [0,2,4]
 have ow:=zaf [5]
 repeat' (first
  | refine g_ ?_
  | ((with_reducible refine And.intro ?_ ?_);(exact zj7))
  | (refine DW.cond (by rfl) ?_ ?_<;>(first | exact i0_ | (refine ic_ ?_;intro hb)))
  | ((with_reducible refine zaa ?_ ?_)<;>(intro hb;rw [hb];revert hb;(first | exact i0_ | (refine i_ ?_;intro hb))))
  | refine r_ ?_
  | refine k_ ?_
  | ((first | (refine DOp.lista_ [5] rfl rfl ?_) | (refine DOp.makea_ [5] rfl rfl rfl rfl ?_))<;>(refine s_ ?_))
  | refine o_ ?_
  | refine f_ ?_
  | with_reducible intro b)
 all_goals first
 | (exact kxb2)
theorem zoD (n cap:Nat) (F:Own):(True)->DC Tryz.prog 189 [.gs (.slice none n cap) []] (([]:Own)++F) fun d G=>d = .gs (.slice none 0 0) []/\G=[]++F:=by
 intro hA
 refine DC.bodyS (n_:=8) (show Tryz.prog.funcs[189]? = some Tryz.f189 by kernel_rfl) rfl rfl (by rfl) ?_
 simp only [env0,List.cons_append,List.nil_append]
 have kw:=ksIs [0,2,4]
 have ow:=zaf []
 repeat' (first
  | refine g_ ?_
  | ((with_reducible refine And.intro ?_ ?_);(exact sv))
  | (refine DW.cond (by rfl) ?_ ?_<;>(first | exact i0_ | (refine ic_ ?_;intro hb)))
  | ((with_reducible refine zaa ?_ ?_)<;>(intro hb;rw [hb];revert hb;(first | exact i0_ | (refine i_ ?_;intro hb))))
  | refine r_ ?_
  | refine k_ ?_
  | ((first | (refine DOp.lista_ [5] rfl rfl ?_) | (refine DOp.makea_ [5] rfl rfl rfl rfl ?_))<;>(refine s_ ?_))
  | refine o_ ?_
  | refine f_ ?_
  | with_reducible intro b)
 (first | exact fin_ | refine finq_ ?_)
 all_goals rfl
theorem clos_dc (l:List Str) (F:Own):l.length<=1000000000->DC Tryz.prog 189 [.sl (l.map V.str)] (([]:Own)++F) fun d G=>∃ v,d = .ar v l.length/\G = .arr 1 v (cells (l.map V.str))::F:=fun h=>DC.someV (by kernel_rfl) fun a cap ha=>by
 cases a with
 | none =>
  have e:=ha rfl
  have el:l=[]:=List.map_eq_nil_iff.1 e
  subst el
  exact (DC.own0 1 (zoD _ _ F trivial)).mono fun d G ⟨h1,h2⟩=>⟨_,h1,h2⟩
 | some p=>exact zoA l p _ _ F h
theorem zo1 (l:List Str) (F:Own):l.length<=1000000000->DC Tryz.prog 189 [.sl (l.map V.str)] (([]:Own)++F) fun d G=>∃ v,d = .gs v (l.map V.str)/\G = .tail 1 v::F:=fun h =>
 DC.frzT (by decide) (fun y hy=>by obtain ⟨x,_,rfl⟩:=List.mem_map.1 hy;rfl) ((clos_dc l F h).mono fun d G ⟨v,h1,h2⟩=>⟨v,by rw [List.length_map];exact h1,h2⟩)
theorem layXtra:Go.Proofs.Builder.Extra Tryz.prog zgu where
 sizeBuilder:=by kernel_rfl
 liesBuilder:=by kernel_rfl
 t5:=Tryz.underlying5
 a5:=Tryz.isAgg5
 z5:=Tryz.sizeOf5
 v5:=Tryz.zeroValue5
 infoByte:=by kernel_rfl
 cellsByte:=by kernel_rfl
 sizeByte:=by kernel_rfl
 neB5:=by decide
theorem zoI (p:List Str) (F:Own):(p.length<=1000000/\(joinS p).length<=1000000000)->DC Tryz.prog 188 [.sl (p.map V.str), .str [47]] ([loose]++F) fun d G=>d = .str (joinS p)/\G=[loose]++F:=fun h =>
 DC.join layJoin layXtra (by kernel_rfl) p [47] F ⟨h.1,Nat.le_trans h.2 (by decide)⟩
def zoo (h hs:List Nd) (r:Nat) (p:List Str):Prop:=∀ s d,fol h r (p++s)=some d->∃ x,fnd h d=some x/\fnd hs d=some x
theorem zkm {x:Nd} {d:Nat} (hd:x.b≠d):∀ {h1 h2:List Nd},fnd (h1++x::h2) d=fnd (h1++h2) d
 | [],h2=>by rw [List.nil_append,zco,if_neg hd];rfl
 | y::h1,h2=>by rw [List.cons_append,List.cons_append,zco,zco,zkm hd]
theorem zpK {h h1 h2:List Nd} {r:Nat} {m:List Str->Str->Option Int} {p:List Str} {nd:Nd} (ht:Tri h r m) (hp:fol h r p=some nd.b) (hh:zoo h (h1++nd::h2) r p) (x:Str):zoo h (h1++h2) r (p++[x]):=by
 intro s d hd
 rw [List.append_assoc] at hd
 obtain ⟨y,y1,y2⟩:=hh ([x]++s) d hd
 refine ⟨y,y1,?_⟩
 rw [<-zkm (x:=nd) (fun e=>?_)]
 · exact y2
 · rw [<-e] at hd
   have:=congrArg List.length (ht.inj _ _ _ hd hp)
   simp at this
structure WI (m:List Str->Str->Option Int) (p:List Str) (Q0:List (List Str)) (Lf:List (Str×Nat)) (Q:List (List Str)):Prop where
 nl:(Lf.map (·.1)).Nodup
 nd:Q.Nodup
 mem:∀ q,q∈Q↔q∈Q0\/(p <+: q/\(∃ k,(m q k).isSome=true)/\∀ e∈Lf,¬ (p++[e.1]) <+: q)
structure WQ (m:List Str->Str->Option Int) (p:List Str) (Q:List (List Str)):Prop where
 nd:Q.Nodup
 has:∀ q∈Q,∃ k,(m q k).isSome=true
 off:∀ q∈Q,¬ p <+: q
theorem pre_two {p q:List Str} {x y:Str} (h1:(p++[x]) <+: q) (h2:(p++[y]) <+: q):x=y:=by
 obtain ⟨s,rfl⟩:=h1
 obtain ⟨t,h⟩:=h2
 simp only [List.append_assoc,List.cons_append,List.nil_append] at h
 have:=List.append_cancel_left h
 injection this with h1 _
 exact h1.symm
theorem zkp {p q:List Str} (h:p <+: q):q=p\/∃ x,(p++[x]) <+: q:=by
 obtain ⟨s,rfl⟩:=h
 cases s with
 | nil=>exact .inl (List.append_nil p)
 | cons x s=>exact .inr ⟨x,s,by simp⟩
section
variable {h:List Nd} {r b:Nat} {m:List Str->Str->Option Int} {p:List Str} {nd:Nd} {Q0 Q:List (List Str)} (ht:Tri h r m) (hp:fol h r p=some b) (hx:fnd h b=some nd)
include ht hp hx
theorem zmz {q:List Str} {x k:Str} (hm:(m q k).isSome=true) (hq:(p++[x]) <+: q):∃ e∈nd.next,e.1=x:=by
 have hf:=ht.fkid hp hx x
 cases hl:lookA x nd.next with
 | some c=>exact ⟨_,zcP hl,rfl⟩
 | none =>
  rw [hl] at hf
  obtain ⟨s,rfl⟩:=hq
  rw [ht.gone hf s k] at hm;cases hm
theorem zjp (hW:WQ m p Q0) (hk:nd.keys=[]):WI m p Q0 nd.next Q0:=by
 refine ⟨(ht.nn _ _ hx).1,hW.nd,fun q=>⟨.inl,?_⟩⟩
 rintro (h1 | ⟨h1,⟨k,h2⟩,h3⟩)
 · exact h1
 · exfalso
   rcases zkp h1 with rfl | ⟨x,hx'⟩
   · rw [<-ht.has _ _ _ hp hx,hk] at h2;cases h2
   · obtain ⟨e,he,rfl⟩:=zmz ht hp hx h2 hx'
     exact h3 e he hx'
theorem zig (hW:WQ m p Q0) (hk:nd.keys≠[]):WI m p Q0 nd.next (Q0++[p]):=by
 have hs:∃ k,(m p k).isSome=true:=by
  cases hks:nd.keys with
  | nil=>exact absurd hks hk
  | cons e l=>exact ⟨e.1,by rw [<-ht.has _ _ _ hp hx,hks,zb7,if_pos rfl];rfl⟩
 refine ⟨(ht.nn _ _ hx).1,?_,fun q=>?_⟩
 · rw [List.nodup_append]
   exact ⟨hW.nd,by simp,fun a ha c hc e=>by rw [List.mem_singleton.1 hc] at e;exact hW.off a ha (e▸List.prefix_refl _)⟩
 · rw [List.mem_append,List.mem_singleton]
   constructor
   · rintro (h1 | rfl)
     · exact .inl h1
     · exact .inr ⟨List.prefix_refl _,hs,fun e _ hh=>zkK _ _ hh⟩
   · rintro (h1 | ⟨h1,⟨k,h2⟩,h3⟩)
     · exact .inl h1
     · rcases zkp h1 with rfl | ⟨x,hx'⟩
       · exact .inr rfl
       · exfalso
         obtain ⟨e,he,rfl⟩:=zmz ht hp hx h2 hx'
         exact h3 e he hx'
end
theorem wi_kid {m:List Str->Str->Option Int} {p:List Str} {Q0 Q:List (List Str)} {A C:List (Str×Nat)} {e:Str×Nat} (hW:WQ m p Q0) (hI:WI m p Q0 (A++e::C) Q):WQ m (p++[e.1]) Q:=by
 refine ⟨hI.nd,fun q hq=>?_,fun q hq hh=>?_⟩
 · rcases (hI.mem q).1 hq with h1 | h1
   · exact hW.has q h1
   · exact h1.2.1
 · rcases (hI.mem q).1 hq with h1 | h1
   · exact hW.off q h1 ((List.prefix_append _ _).trans hh)
   · exact h1.2.2 e (by simp) hh
theorem wi_next {m:List Str->Str->Option Int} {p:List Str} {Q0 Q Q':List (List Str)} {A C:List (Str×Nat)} {e:Str×Nat} (hI:WI m p Q0 (A++e::C) Q) (hn:Q'.Nodup) (hm:∀ q,q∈Q'↔q∈Q\/((p++[e.1]) <+: q/\∃ k,(m q k).isSome=true)):WI m p Q0 (A++C) Q':=by
 have hnl:=hI.nl
 rw [List.map_append,List.map_cons,List.nodup_append,List.nodup_cons] at hnl
 refine ⟨?_,hn,fun q=>?_⟩
 · have:=hI.nl
   rw [List.map_append,List.map_cons] at this
   rw [List.map_append]
   exact this.sublist ((List.sublist_cons_self _ _).append_left _)
 · rw [hm,hI.mem]
   constructor
   · rintro ((h1 | ⟨h1,h2,h3⟩) | ⟨h1,h2⟩)
     · exact .inl h1
     · exact .inr ⟨h1,h2,fun x hx=>h3 x (by
        rcases List.mem_append.1 hx with h | h
        · exact List.mem_append_left _ h
        · exact List.mem_append_right _ (List.mem_cons_of_mem _ h))⟩
     · refine .inr ⟨(List.prefix_append _ _).trans h1,h2,fun x hx hh=>?_⟩
       have e1:=pre_two h1 hh
       rcases List.mem_append.1 hx with h | h
       · exact hnl.2.2 x.1 (List.mem_map.2 ⟨x,h,rfl⟩) e.1 List.mem_cons_self e1.symm
       · exact hnl.2.1.1 (e1▸List.mem_map.2 ⟨x,h,rfl⟩)
   · rintro (h1 | ⟨h1,h2,h3⟩)
     · exact .inl (.inl h1)
     · by_cases hh:(p++[e.1]) <+: q
       · exact .inr ⟨hh,h2⟩
       · refine .inl (.inr ⟨h1,h2,fun x hx=>?_⟩)
         rcases List.mem_append.1 hx with h | h
         · exact h3 x (List.mem_append_left _ h)
         · rcases List.mem_cons.1 h with rfl | h
           · exact hh
           · exact h3 x (List.mem_append_right _ h)
structure WB (m:List Str->Str->Option Int):Prop where
 few:∀ Q:List (List Str),Q.Nodup->(∀ q∈Q,∃ k,(m q k).isSome=true)->Q.length<=1000000000
 small:∀ p k,(m p k).isSome=true->(joinS p).length<=65535
attribute [local irreducible] Nd.own ownH joinS outS cntQ
theorem fil1_dc (p:List Str) (ob:Nat) (v:Value) (Q:List (List Str)) (F:Own):(cntQ Q<=2000000000)->DC Tryz.prog 142 [.str (joinS p), .raw (.pointer (some ⟨ob,0,none⟩))] (.blk ob [.ar v (cntQ Q)] :: .arr 1 v (outS Q)::[]++F) fun d G=>∃ v',d = .tup []/\G = .blk ob [.ar v' (cntQ (Q++[p]))] :: .arr 1 v' (outS (Q++[p]))::F:=by
 intro hA
 have hQ:=hA
 refine DC.bodyS (n_:=7) (show Tryz.prog.funcs[142]? = some Tryz.f142 by kernel_rfl) rfl rfl (by rfl) ?_
 simp only [env0,List.cons_append,List.nil_append]
 have kw:=ksIs [0,1]
 have ow:=zaf []
 repeat' (first
  | refine g_ ?_
  | ((with_reducible refine And.intro ?_ ?_);(exact sv))
  | (refine DW.cond (by rfl) ?_ ?_<;>(first | exact i0_ | (refine ic_ ?_;intro hb)))
  | ((with_reducible refine zaa ?_ ?_)<;>(intro hb;rw [hb];revert hb;(first | exact i0_ | (refine i_ ?_;intro hb))))
  | refine r_ ?_
  | refine k_ ?_
  | refine o_ ?_
  | refine f_ ?_
  | with_reducible intro b)
 all_goals first
 | (refine ⟨_,_,le.rfl_,⟨b,rfl,rfl⟩,?_⟩;(rw [outS_s,cntQ_s]);(exact sub_);done)
 | (trace_state;fail)
abbrev PM:=List (Str×Nat)
abbrev QL:=List (List Str)
theorem zcS {p:Prop} (h:p:=by first | exact sv | exact ⟨hpl,hjl (by (try simp only at hb);omega)⟩ | (refine ⟨zpK ht hp hh _,hkid _ (hsub _ ?_),wi_kid hW hI⟩;simp) | exact hQl | fail):p:=h
section
attribute [local push_cast 2000] za9 zaW za8 zaL za3 zaG zaV za7 zax za2 zaX zaB zaC zaY zaE zaq za6 zat zaZ za5 zas zba zaD zar zap zaR zcO zaH zaF Option.getD_some Option.getD_none Option.isSome_some Option.isSome_none ze4
theorem zp7 (h:List Nd) (r:Nat) (m:List Str->Str->Option Int) (ob:Nat) (hs:List Nd) (p:List Str) (b:Nat) (v:Value) (Q:List (List Str)) (nd:Nd) (F:Own):((Tri h r m/\WB m)/\(zoo h hs r p/\fol h r p=some b/\WQ m p Q)/\(fnd h b=some nd/\fnd hs b=some nd)/\(∀ (hs:List Nd) (x:Str) (c:Nat) (v:Value) (Q:List (List Str)) (F:Own),(zoo h hs r (p++[x])/\fol h r (p++[x])=some c/\WQ m (p++[x]) Q)->DC Tryz.prog 141 [.raw (.pointer (some ⟨c,0,none⟩)), .sl (p.map V.str++[.str x]), .fn (.func 142) [] [.raw (.pointer (some ⟨ob,0,none⟩))]] ((loose :: .blk ob [.ar v (cntQ Q)] :: .arr 1 v (outS Q)::(ownH hs++[]))++F) fun d G=>∃ (Q':List (List Str)) (v':Value),(Q'.Nodup/\∀ q,q∈Q'↔q∈Q\/((p++[x]) <+: q/\∃ k,(m q k).isSome=true))/\d = .tup []/\G=loose :: .blk ob [.ar v' (cntQ Q')] :: .arr 1 v' (outS Q')::(ownH hs++F)))->DC Tryz.prog 141 [.raw (.pointer (some ⟨b,0,none⟩)), .sl (p.map V.str), .fn (.func 142) [] [.raw (.pointer (some ⟨ob,0,none⟩))]] (loose :: .blk ob [.ar v (cntQ Q)] :: .arr 1 v (outS Q)::(ownH hs++[])++F) fun d G=>∃ (Q':List (List Str)) (v':Value),(Q'.Nodup/\∀ q,q∈Q'↔q∈Q\/(p <+: q/\∃ k,(m q k).isSome=true))/\d = .tup []/\G=loose :: .blk ob [.ar v' (cntQ Q')] :: .arr 1 v' (outS Q')::(ownH hs++F):=by
 intro hA
 obtain ⟨⟨ht,hWB⟩,⟨hh,hp,hW⟩,⟨hxx,hx2⟩,hcl⟩:=hA
 refine DC.bodyS (n_:=36) (show Tryz.prog.funcs[141]? = some Tryz.f141 by kernel_rfl) rfl rfl (by rfl) ?_
 simp only [env0,List.append_assoc,List.cons_append,List.nil_append]
 have kw:=ksIs [0,1,2,6,7,13,22,24]
 have ow:=zaf [12]
 have hlk:True:=trivial
 have hC:True:=trivial
 have hpl:p.length<=1000000:=Nat.le_trans (ht.dep _ _ hp) (by decide)
 have hjl:0<nd.keys.length->(joinS p).length<=1000000000:=fun h0=>by
  cases hks:nd.keys with
  | nil=>rw [hks] at h0;exact absurd h0 (Nat.lt_irrefl _)
  | cons e l=>exact Nat.le_trans (hWB.small p e.1 (by rw [<-ht.has _ _ _ hp hxx,hks,zb7,if_pos rfl];rfl)) (by decide)
 have hQl:cntQ Q<=2000000000:=Nat.le_trans (by unfold cntQ;exact hWB.few Q hW.nd hW.has) (by decide)
 repeat' (first
  | ((fail_if_success (have zz:=hop));(obtain ⟨_,rfl⟩:=zbR hx2);(with_reducible apply DW.openR 2 hx2);(repeat (with_reducible first | refine OutL.here ?_ | refine OutL.next ?_ | refine OutL.skip ?_));(intro g1 g2 hg);(subst hg);(have hop:True:=trivial);(have hkid:∀ e∈nd.next,fol h r (p++[e.1])=some e.2:=fun e he=>by rw [ht.fkid hp hxx];exact zdQ (ht.nn _ _ hxx).1 he);(unfold Nd.own;simp only [List.cons_append,List.nil_append]))
  | ((refine DOp.rangem_ rfl rfl ?_);(repeat (with_reducible first | refine OnM.here ?_ | refine OnM.next ?_ | (refine OnM.inN (by assumption) ?_;with_reducible intro C hC) | (refine OnM.inK (by assumption) ?_;with_reducible intro C hC) | refine OnM.skip ?_));(refine And.intro (by rw [zqZ]) ?_);(with_reducible intro rI);refine zbH ?_)
  | ((refine DOp.entrym_ rfl rfl ?_);(repeat (with_reducible first | refine OnG.here ?_ | refine OnG.next ?_ | refine OnG.skip ?_));(refine ⟨_,rfl,?_⟩);refine zbH ?_)
  | ((refine DOp.nextm_ (t:=0) rfl rfl ?_);(repeat (with_reducible first | refine OnG.here ?_ | refine OnG.next ?_ | refine OnG.skip ?_));(refine zhQ (fun A x C hL=>?_) (fun hL=>?_))<;>(subst hL)<;>(refine zbH ?_))
  | ((with_reducible apply DW.unitE (r:=rI));(repeat (with_reducible first | refine Out.here ?_ | refine Out.next ?_ | refine Out.skip ?_));(with_reducible refine zqq ?_))
  | ((refine DOp.load_ rfl rfl ?_);(repeat (with_reducible first | refine OnB.here ?_ | refine OnB.next ?_ | (refine OnB.inH (by assumption) ?_;with_reducible intro C) | refine OnB.skip ?_));refine zbH ?_)
  | ((refine DOp.look_ rfl rfl ?_);(repeat (with_reducible first | refine OnM.here ?_ | refine OnM.next ?_ | (refine OnM.inN (by assumption) ?_;with_reducible intro C hC) | (refine OnM.inK (by assumption) ?_;with_reducible intro C hC) | refine OnM.skip ?_));refine zbH ?_)
  | ((refine DOp.lenm_ rfl rfl ?_);(repeat (with_reducible first | refine OnM.here ?_ | refine OnM.next ?_ | (refine OnM.inN (by assumption) ?_;with_reducible intro C hC) | (refine OnM.inK (by assumption) ?_;with_reducible intro C hC) | refine OnM.skip ?_));refine zbH ?_)
  | ((with_reducible refine DW.loopB 0 (X:=PM×QL×Value×VM) (fun x=>WI m p Q x.1 x.2.1/\(∀ e∈x.1,e∈nd.next)) (fun x=>[(1, .sl (p.map V.str)),(2, .fn (.func 142) [] [.raw (.pointer (some ⟨ob,0,none⟩))]),(22, .raw (.pointer (some ⟨rI,0,none⟩)))]) (fun x=>loose :: .blk ob [.ar x.2.2.1 (cntQ x.2.1)] :: .arr 1 x.2.2.1 (outS x.2.1) :: .miter rI nd.nm (entM V.str pv nd.next) (entM V.str pv x.1) x.2.2.2::(ownH (g1++g2)++[])) (fun x=>x.1.length) ((nd.next,Q++[p],v2,[])) ?_ ?_ ?_);exact (⟨zig ht hp hxx hW (fun e=>by rw [e] at hb;simp at hb),fun _ h=>h⟩);(exact kxcm);(try simp only [List.append_assoc,List.cons_append,List.nil_append]);refine pl_ ?_;intro ⟨Lf,Q1,v1,cur⟩ ⟨hI,hsub⟩;(try simp only [List.append_assoc,List.cons_append,List.nil_append]);try simp only at hI hsub)
  | ((with_reducible refine DW.loopB 0 (X:=PM×QL×Value×VM) (fun x=>WI m p Q x.1 x.2.1/\(∀ e∈x.1,e∈nd.next)) (fun x=>[(1, .sl (p.map V.str)),(2, .fn (.func 142) [] [.raw (.pointer (some ⟨ob,0,none⟩))]),(22, .raw (.pointer (some ⟨rI,0,none⟩)))]) (fun x=>loose :: .blk ob [.ar x.2.2.1 (cntQ x.2.1)] :: .arr 1 x.2.2.1 (outS x.2.1) :: .miter rI nd.nm (entM V.str pv nd.next) (entM V.str pv x.1) x.2.2.2::(ownH (g1++g2)++[])) (fun x=>x.1.length) ((nd.next,Q,v,[])) ?_ ?_ ?_);exact (⟨zjp ht hp hxx hW (zjx (by omega)),fun _ h=>h⟩);(exact kxcm);(try simp only [List.append_assoc,List.cons_append,List.nil_append]);refine pl_ ?_;intro ⟨Lf,Q1,v1,cur⟩ ⟨hI,hsub⟩;(try simp only [List.append_assoc,List.cons_append,List.nil_append]);try simp only at hI hsub)
  | refine g_ ?_
  | ((with_reducible refine And.intro ?_ ?_);(exact zcS))
  | (refine DW.cond (by rfl) ?_ ?_<;>(first | exact i0_ | (intro hb;(try simp only [↓reduceCtorEq,not_true_eq_false,not_false_eq_true,hbs,Int.reduceBEq,Int.reduceBNe,Int.reduceEq] at hb);(try refine zbH ?_))))
  | ((with_reducible refine zaa ?_ ?_)<;>(intro hb;rw [hb];revert hb;(first | exact i0_ | (intro hb;(try simp only [↓reduceCtorEq,not_true_eq_false,not_false_eq_true,hbs,Int.reduceBEq,Int.reduceBNe,Int.reduceEq] at hb);(try refine zbH ?_)))))
  | ((refine Both.imp ?_ ?_)<;>(first | exact i0_ | (intro hb;(try simp only [↓reduceCtorEq,not_true_eq_false,not_false_eq_true,hbs,Int.reduceBEq,Int.reduceBNe,Int.reduceEq] at hb);(try refine zbH ?_))))
  | ((first | refine rn_ ?_ | refine kn_ ?_)<;>(refine zbH ?_))
  | ((first | (refine DOp.lenm_ rfl rfl ?_;(repeat (with_reducible first | refine OnM.here ?_ | refine OnM.next ?_))) | (refine DOp.rangem_ rfl rfl ?_;(repeat (with_reducible first | refine OnM.here ?_ | refine OnM.next ?_))) | (refine DOp.nextm_ (t:=0) rfl rfl ?_;(repeat (with_reducible first | refine OnG.here ?_ | refine OnG.next ?_))) | (refine DOp.entrym_ rfl rfl ?_;(repeat (with_reducible first | refine OnG.here ?_ | refine OnG.next ?_))))<;>(refine zbH ?_))
  | (refine q_ (zoI _ _) ?_ (ha:=by exact zcS) (hk:=fun q=>q.1);refine zbH ?_)
  | (refine p_ (fil1_dc _ _ _ _ _) ?_ (ha:=by exact zcS);rintro d H1 ⟨v2,rfl,rfl⟩<;>refine zbH ?_)
  | (refine p_ (zo1 _ _) ?_ (ha:=by exact zcS);rintro d H1 ⟨v3,rfl,rfl⟩<;>refine zbH ?_)
  | (refine p_ (hcl _ _ _ _ _ _) ?_ (ha:=by exact zcS);rintro d H1 ⟨Q2,v4,⟨hQ2,hm2⟩,rfl,rfl⟩<;>refine zbH ?_)
  | ((refine on_ ?_);refine zbH ?_)
  | refine f_ ?_
  | with_reducible intro b)
 all_goals first
 | (refine ⟨(A++C,Q2,v4,[(.str x.1,pv x.2)]),⟨wi_next hI hQ2 hm2,fun e he=>hsub e kxb3⟩,by (try simp only);simp only [List.length_append,List.length_cons];omega,by simp [Sub,get],?_⟩;(exact kxce);done)
 | (refine ⟨_,_,le.rfl_,⟨Q1,v1,⟨hI.nd,fun q=>by rw [hI.mem];simp⟩,rfl,rfl⟩,?_⟩;(repeat (first | refine SubP.pick ?_ | refine Out.here ?_ | refine Out.next ?_ | refine Out.skip ?_));(refine SubP.closeR ?_);(unfold Nd.own;simp only [List.cons_append,List.nil_append]);(exact sub_);done)
 | (trace_state;fail)
end
end
end Go.Proofs.YtgekknefphagbaaGreatDoor
