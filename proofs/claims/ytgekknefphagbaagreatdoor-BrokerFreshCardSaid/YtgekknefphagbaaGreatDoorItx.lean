/- Texts that are owned, sorted; the keys of a map, sorted. No statement of the program. -/
import Derived.Test.YtgekknefphagbaaGreatDoorPv2x
import Derived.Test.YtgekknefphagbaaGreatDoorSkx
import Derived.Test.YtgekknefphagbaaGreatDoorFxx
import Derived.Shelf.Slices.CompactS
namespace Go.Proofs.YtgekknefphagbaaGreatDoor
open Go.RowKit
set_option linter.unusedSimpArgs false
set_option linter.unusedVariables false
set_option linter.unusedSectionVars false
section
theorem zmP (x:List UInt8):encStr x=Value.string (bs x):=rfl
theorem zqt {w:World} {F:Own} {pb po n cap:Nat} {cs:List V} (hs:Sim w (.arr 1 (.slice (some ⟨pb,po,none⟩) n cap) cs::F)) (hcz:cap≠0) (m:Nat) (os:Array Obj) (ds:List (List UInt8)) (hd:ds.length<=cap) :
  Sim (Go.Sort.grow (Go.Sort.putRow encStr (Go.Sort.ahead w m) pb po ds.toArray) os) (.arr 1 (.slice (some ⟨pb,po,none⟩) ds.length cap) (ds.map V.str)::F) /\
  Ext w (.arr 1 (.slice (some ⟨pb,po,none⟩) n cap) cs::F) (Go.Sort.grow (Go.Sort.putRow encStr (Go.Sort.ahead w m) pb po ds.toArray) os) (.arr 1 (.slice (some ⟨pb,po,none⟩) ds.length cap) (ds.map V.str)::F):=by
 obtain ⟨s0,hnc,hln,xs,Ty,fr,g1,g2,g3,g4,g5,g6⟩:=zcH (L1:=[]) hs hcz
 simp only at s0 g1 g2 g3 g4 g5
 have hpb:pb<w.heap.size:=by
  rcases Nat.lt_or_ge pb w.heap.size with h | h
  · exact h
  · rw [Array.getElem?_eq_none h] at g1;cases g1
 generalize hw:Go.Sort.grow (Go.Sort.putRow encStr (Go.Sort.ahead w m) pb po ds.toArray) os=w2
 have hheap:w2.heap=w.heap.modify pb (Go.Sort.onCells (Go.Sort.putCells encStr po ds.toArray))++os:=by rw [<-hw];rfl
 have hmz:(w.heap.modify pb (Go.Sort.onCells (Go.Sort.putCells encStr po ds.toArray))).size=w.heap.size:=Array.size_modify
 have hblk:w2.heap[pb]? = some (.cells (Go.Sort.putCells encStr po ds.toArray xs) Ty fr):=by
  rw [hheap,Array.getElem?_append_left (by rw [hmz];exact hpb),Array.getElem?_modify,if_pos rfl,g1]
  rfl
 have hoth:∀ b,b<w.heap.size->b≠pb->w2.heap[b]? = w.heap[b]?:=by
  intro b hb hne
  rw [hheap,Array.getElem?_append_left (by rw [hmz];exact hb),Array.getElem?_modify,if_neg (Ne.symm hne)]
 have hput:∀ j,(Go.Sort.putCells encStr po ds.toArray xs)[j]? = if po<=j/\j<po+ds.length then (xs[j]?).map (fun _=>encStr (ds.toArray[j - po]!)) else xs[j]?:=by
  intro j
  unfold Go.Sort.putCells
  rw [Array.getElem?_mapIdx,List.size_toArray]
  by_cases hc':po<=j/\j<po+ds.length
  · simp only [if_pos hc']
  · simp only [if_neg hc']
    cases xs[j]? <;> rfl
 have hpsz:(Go.Sort.putCells encStr po ds.toArray xs).size=xs.size:=by simp [Go.Sort.putCells]
 refine Sim.swap (w':=w2) (L1:=[]) hs (e1:=.arr 1 (.slice (some ⟨pb,po,none⟩) ds.length cap) (ds.map V.str)) (by rw [<-hw];rfl) (by rw [<-hw];rfl) (by rw [<-hw];rfl) (by rw [hheap,Array.size_append,hmz];omega)
  (fun b hb hn=>hoth b hb fun e=>hn ⟨e,hcz⟩) (fun q hq hn=>?_) (fun b h=>.inl h) (fun q h=>.inl h) (fun hst=>?_) (by rw [<-hw];exact Nat.le_add_right _ _)
 · have hn':¬ (q.block=pb/\po<=q.off/\q.off<po+cap * 1):=hn
   obtain ⟨u,hu⟩:=Option.isSome_iff_exists.1 hq
   have hqb:=World.block_lt_of_cell? w q hu
   by_cases hqp:q.block=pb
   · unfold World.cell?
     rw [hqp,hblk,g1]
     simp only
     by_cases hsp:q.spot.isSome=true
     · rw [if_pos hsp,if_pos hsp]
     · rw [if_neg hsp,if_neg hsp,hput,if_neg (by omega)]
   · unfold World.cell?
     rw [hoth _ hqb hqp]
 · have hl:(ds.map V.str).length=ds.length:=List.length_map ..
   refine ⟨by omega,by rw [hl,Nat.mul_one],fun _=>⟨rfl,_,Ty,fr,hblk,g2,by rw [hpsz];exact g3,fun t ht=>?_⟩⟩
   rw [hl] at ht
   have hxt:po+t<xs.size:=by omega
   have e1:(Go.Sort.putCells encStr po ds.toArray xs).getD (po+t) undef=encStr (ds[t]):=by
    rw [Array.getD_eq_getD_getElem?,hput,if_pos (by omega),Array.getElem?_eq_getElem hxt]
    simp only [Option.map_some,Option.getD_some,Nat.add_sub_cancel_left]
    rw [getElem!_pos ds.toArray t (by simpa using ht)]
    simp
   have e2:(ds.map V.str).getD t .any=V.str (ds[t]):=by
    rw [List.getD_eq_getElem?_getD,List.getElem?_map,List.getElem?_eq_getElem ht];rfl
   simp only
   rw [e1,e2,zmP]
   exact .str _
theorem zgS {w:World} {F:Own} {pb po cap:Nat} {l:List (List UInt8)} (hs:Sim w (.arr 1 (.slice (some ⟨pb,po,none⟩) l.length cap) (l.map V.str)::F)) (hcz:cap≠0):Go.Sort.Holds encStr w pb po l.toArray/\pb<w.heap.size/\l.length<=cap:=by
 obtain ⟨s0,hnc,hln,xs,Ty,fr,g1,g2,g3,g4,g5,g6⟩:=zcH (L1:=[]) hs hcz
 simp only at s0 g1 g2 g3 g4 g5
 refine ⟨fun t ht=>?_,?_,hnc⟩
 · have ht:t<l.length:=by simpa using ht
   have h:=g4 t (by simpa using ht)
   obtain ⟨h1,h2⟩:=g5 (po+t) (by omega) (by omega)
   have e:(l.map V.str).getD t .any=V.str l[t]:=by
    rw [List.getD_eq_getElem?_getD,List.getElem?_map,List.getElem?_eq_getElem ht];rfl
   rw [e] at h
   refine ⟨?_,h2⟩
   rw [h1,getElem!_pos l.toArray t (by simpa using ht)]
   generalize xs.getD (po+t) undef=u at h
   cases h
   simp [zmP]
 · rcases Nat.lt_or_ge pb w.heap.size with h | h
   · exact h
   · rw [Array.getElem?_eq_none h] at g1;cases g1
theorem DC.sortS (he:zdA Tryz.prog 105=true) (l:List Str) (v:Value) (n:Nat) (F:Own) (hn:n=l.length/\l.length<4611686018427387904) :
  DC Tryz.prog 105 [.ar v n] ([.arr 1 v (l.map V.str)]++F) fun d G=>d = .tup []/\G=[.arr 1 v ((Go.Proofs.YtgekknefphagbaaGreatDoor.sortS l).map V.str)]++F:=by
 obtain ⟨rfl,hlen⟩:=hn
 refine ⟨he,fun xs w hs hsz hr=>?_⟩
 have h0:=hr 0 (by simp)
 obtain ⟨x0,rfl⟩:=zfw hsz
 clear hr hsz
 change R _ w x0 (.ar v l.length) at h0
 generalize hN:l.length=N at h0
 cases h0 with
 | ar a _ cap hc ha =>
 subst hN
 by_cases hl0:l=[]
 · subst hl0
   refine (AnyM.slices_Sort_string_none zfL a cap w).mono ?_
   rintro e w' ⟨rfl,rfl⟩
   exact ⟨_, .tup [],_,rfl,hs, .refl _ _, .tup _ _ rfl (fun k hk=>absurd hk (by simp)),rfl,by simp [Go.Proofs.YtgekknefphagbaaGreatDoor.sortS]⟩
 · have hpos:0<l.length:=List.length_pos_iff.2 hl0
   obtain ⟨hcz,p,rfl⟩:=zgi (L1:=[]) hs (by simpa using hpos)
   obtain ⟨pb,po,ps⟩:=p
   obtain ⟨s0,_⟩:=zcH (L1:=[]) hs hcz
   simp only at s0
   subst s0
   obtain ⟨hH,hb,hcap⟩:=zgS hs hcz
   refine (AnyM.slices_Sort_string zfL pb po cap l w hH hb hlen).mono ?_
   rintro e w' ⟨rfl,m,os,rfl⟩
   have hz:(Go.Proofs.YtgekknefphagbaaGreatDoor.sortS l).length=l.length:=zeR l
   obtain ⟨h1,h2⟩:=zqt hs hcz m os (Go.Proofs.YtgekknefphagbaaGreatDoor.sortS l) (by rw [hz];exact hcap)
   rw [hz] at h1 h2
   exact ⟨_, .tup [],_,rfl,h1,h2, .tup _ _ rfl (fun k hk=>absurd hk (by simp)),rfl,rfl⟩
theorem DC.mkeys (he:zdA Tryz.prog 123=true) (mk:Nat) (F:Own):True ->
  DC Tryz.prog 123 [.raw (.map (some mk))] (([]:Own)++F) fun d G=>∃ nb,d = .fn (.func (layKeys_ren.f 10)) [] [.raw (.pointer (some ⟨nb,0,none⟩))]/\G = .row nb (.cells #[.map (some mk)] (layKeys_ren.t 23))::F:=fun _=>by
 refine ⟨he,fun xs w hs hsz hr=>?_⟩
 have h0:=hr 0 (by simp)
 obtain ⟨x0,rfl⟩:=zfw hsz
 have h0:R (stable w (([]:Own)++F)) w x0 (.raw (.map (some mk))):=h0
 cases h0
 refine (callsIn_wide.1 (AnyZ.keys_in layKeys Fence.wide 5 trivial rfl (some mk) w)).mono ?_
 rintro e w' ⟨rfl,rfl⟩
 have sw:=hs.add (w':=w.alloc (.cells #[.map (some mk)] (layKeys_ren.t 23))) (e1:=.row w.heap.size (.cells #[.map (some mk)] (layKeys_ren.t 23))) rfl rfl rfl (by simp) (fun b hb=>Below.heap_alloc w _ b hb) (fun b h=>Nat.le_of_eq h.symm) (fun _=>heap_alloc_new w _)
 refine ⟨_, .fn (.func (layKeys_ren.f 10)) [] [.raw (.pointer (some ⟨w.heap.size,0,none⟩))],_,rfl,sw.1,sw.2,?_,w.heap.size,rfl,rfl⟩
 exact .fn _ _ _ _ _ rfl (fun _ h=>absurd h (Nat.not_lt_zero _)) rfl (fun k hk=>by
  match k,hk with
  | 0,_=>exact .raw _)
def RU:Value->Option (DataW Unit×List MemPlace):=fun _=>some (.lit (.bool true),[])
theorem zpV {w:World} {S:Addr->Prop} {mk:Nat} {l:List (Str×Int)} {ty_:TypeId} (hu:Tryz.prog.underlying ty_=some .string) (h:(Ent.map mk (entM V.str (V.int .i64) l)).holds S w) (hn:(l.map (·.1)).Nodup) (hz:l.length<=1000000000) (hk:∀ x∈l,x.1.length<=1000000000) :
  ∃ D:DataW Unit,w.ownsMap Tryz.prog ty_ RU mk l.length D/\Maps.size D=l.length/\(strKeys D).Perm (l.map (·.1)):=by
 obtain ⟨es,clock,h1,h2,h3,h4,h5⟩:=h
 rw [za7] at h2 h3
 have hkey:∀ k,(hk:k<l.length)->(es.getD k default).key=encStr l[k].1:=fun k hk=>by
  have:=(h3 k hk).1
  have e:((entM V.str (V.int .i64) l).getD k (.any, .any)).1 = .str l[k].1:=by simp [entM,List.getD_eq_getElem?_getD,hk]
  rw [e] at this
  generalize (es.getD k default).key=u at this
  cases this;rfl
 have hkeys:es.toList.map (·.key)=l.map fun x=>encStr x.1:=by
  apply List.ext_getElem
  · simp [h2]
  · intro i h1' h2'
    have hi:i<l.length:=by simpa using h2'
    have:=hkey i hi
    have hi':i<es.size:=by omega
    simp only [List.getElem_map,Array.getElem_toList]
    rw [<-this]
    simp [Array.getD_eq_getD_getElem?,hi']
 have hrd:∀ x∈es.toList,∃ y,y∈l/\x.key=encStr y.1:=fun x hx=>by
  have:x.key∈es.toList.map (·.key):=List.mem_map.2 ⟨x,hx,rfl⟩
  rw [hkeys] at this
  obtain ⟨y,hy,e⟩:=List.mem_map.1 this
  exact ⟨y,hy,e.symm⟩
 have hko:∀ y∈l,keyOf Tryz.prog ty_ (encStr y.1)=some (.string y.1):=fun y hy=>by
  have hb:=hk y hy
  have hs:(⟨y.1.toArray⟩:ByteArray).size<=maxLen:=by
   show y.1.toArray.size<=maxLen
   rw [List.size_toArray];unfold maxLen;omega
  simp [keyOf,hu,mapKey,encStr,hs]
 have hrg:∀ x∈es.toList,∃ y∈l,Go.WideElems.rd Tryz.prog ty_ RU x=some (.string y.1, .lit (.bool true))/\x.key=encStr y.1:=fun x hx=>by
  obtain ⟨y,hy,e⟩:=hrd x hx
  refine ⟨y,hy,?_,e⟩
  unfold Go.WideElems.rd
  rw [e,hko y hy];rfl
 refine ⟨_,⟨es,clock,h1,⟨?_,⟨fun x hx=>?_,?_,?_⟩,fun x hx=>?_⟩,by omega,rfl⟩,?_,?_⟩
 · unfold maxLen;omega
 · obtain ⟨i,hi,rfl⟩:=List.getElem_of_mem hx
   have hi':i<es.size:=by simpa using hi
   have:=h5 i hi'
   simpa [Array.getD_eq_getD_getElem?,hi'] using this
 · rw [List.Nodup,List.pairwise_map]
   exact (zee h4).imp fun h=>by omega
 · rw [hkeys]
   rw [List.Nodup,List.pairwise_map] at hn ⊢
   exact hn.imp fun hne e=>hne (encStr_inj e)
 · obtain ⟨y,_,e,_⟩:=hrg x hx
   exact ⟨_,e⟩
 · show ((es.toList.map (Go.WideElems.rg Tryz.prog ty_ RU)).foldr DataW.insert []).length=l.length
   rw [(Go.WideShapes.sorted_perm _).length_eq];simp [h2]
 · show (((es.toList.map (Go.WideElems.rg Tryz.prog ty_ RU)).foldr DataW.insert []).map fun p=>strOf p.1).Perm (l.map (·.1))
   refine ((Go.WideShapes.sorted_perm _).map _).trans (List.Perm.of_eq ?_)
   rw [List.map_map]
   have e1:es.toList.map ((fun p:Lit×DataW Unit=>strOf p.1) ∘ Go.WideElems.rg Tryz.prog ty_ RU)=(es.toList.map (·.key)).map fun v=>match v with | .string s=>s.data.toList | _=>[]:=by
    rw [List.map_map]
    refine List.map_congr_left fun x hx=>?_
    obtain ⟨y,_,e,ek⟩:=hrg x hx
    simp only [Function.comp]
    unfold Go.WideElems.rg
    rw [e,ek]
    simp [strOf,encStr]
   rw [e1,hkeys,List.map_map]
   refine List.map_congr_left fun x _=>?_
   simp [encStr]
theorem zoM {w w':World} {H:Own} {T:TypeId} {v:Value} {l:List Str} (hs:Sim w H) (ho:w'.ownsRow w.heap.size T 1 v l.length (l.map encStr)):R (stable w' H) w' v (.sl (l.map V.str)):=by
 obtain ⟨_,⟨rfl,hz⟩ | ⟨g,cap,cur,rfl,hb,hg,hc,_,hsz,htk⟩⟩:=ho
 · obtain rfl:l=[]:=List.length_eq_zero_iff.1 hz
   exact .sl none 0 0 [] 1 rfl (Nat.le_refl _) (fun _=>rfl) (fun _ h=>(nomatch h)) (fun _ h=>absurd h (Nat.not_lt_zero _)) (fun _ _ _ h=>nomatch h) (fun _ _ _ h=>nomatch h)
 · have hcell:∀ i,(hi:i<l.length)->zaP w' ⟨g,i,none⟩=encStr l[i]/\(w'.cell? ⟨g,i,none⟩).isSome=true:=fun i hi=>by
    have hi2:i<cur.size:=by omega
    have e:cur[i]=encStr l[i]:=by
     have:(cur.toList.take (l.length * 1))[i]? = (l.map encStr)[i]?:=by rw [htk]
     rw [List.getElem?_take,if_pos (by omega),List.getElem?_map,List.getElem?_eq_getElem hi] at this
     simpa [hi2] using this
    have ec:w'.cell? ⟨g,i,none⟩=some (encStr l[i]):=by simp [World.cell?,hg,hi2,e]
    exact ⟨by unfold zaP;rw [ec];rfl,by rw [ec];rfl⟩
   refine .sl (some ⟨g,0,none⟩) l.length cap (l.map V.str) 1 (by simp) hc (fun h=>nomatch h) (fun b hb _=>by cases hb;rfl) (fun i hi=>?_) (fun b i k hbb hi hk=>?_) (fun b i k hbb hi hk=>?_)
   · have hi':i<l.length:=by simpa using hi
     simp [List.getD_eq_getElem?_getD,hi',V.n]
   · cases hbb
     have hi':i<l.length:=by simpa using hi
     obtain rfl:k=0:=by omega
     refine ⟨by simpa using (hcell i hi').2,fun e he ha=>?_⟩
     have:=zhE hs he ha
     simp only at this
     omega
   · cases hbb
     have hi':i<l.length:=by simpa using hi
     obtain rfl:k=0:=by omega
     have e2:(l.map V.str).getD i .any = .str l[i]:=by rw [List.getD_eq_getElem?_getD,List.getElem?_map,List.getElem?_eq_getElem hi'];rfl
     rw [e2]
     show R _ _ (zaP w' ⟨g,0+i * 1+0,none⟩) (.str l[i])
     rw [show 0+i * 1+0=i by omega,(hcell i hi').1]
     exact .str _
theorem zp6 (m:Nat):AnyZ.SortsIn Tryz.prog laySorted_ren Fence.wide m :=
 ⟨fun blk off cap ss W hH hblk hsz=>callsIn_wide.2 (AnyM.slices_Sort_string zfL blk off cap ss W hH hblk hsz),
  fun p cap W=>callsIn_wide.2 (AnyM.slices_Sort_string_none zfL p cap W)⟩
theorem DC.sortedKeys (he:zdA Tryz.prog 122=true) (he1:∀ args w,(callFunc (laySorted_ren.f 9) args).run Tryz.prog w = .ok (.enter (laySorted_ren.f 9) args) w) (he2:∀ args w,(callFunc (layKeys_ren.f 10) args).run Tryz.prog w = .ok (.enter (layKeys_ren.f 10) args) w)
  (mk nb:Nat) (l:List (Str×Int)) (F:Own):(l.map (·.1)).Nodup/\l.length<=1000000000/\(∀ x∈l,x.1.length<=1000000000) ->
  DC Tryz.prog 122 [.fn (.func (layKeys_ren.f 10)) [] [.raw (.pointer (some ⟨nb,0,none⟩))]] ([loose, .row nb (.cells #[.map (some mk)] (layKeys_ren.t 23)), .map mk (entM V.str (V.int .i64) l)]++F) fun d G=>d = .sl ((Go.Proofs.YtgekknefphagbaaGreatDoor.sortS (l.map (·.1))).map V.str)/\G=[loose, .row nb (.cells #[.map (some mk)] (layKeys_ren.t 23)), .map mk (entM V.str (V.int .i64) l)]++F:=fun ⟨hn,hz,hk⟩=>by
 refine ⟨he,fun xs w hs hsz hr=>?_⟩
 have h0:=hr 0 (by simp)
 obtain ⟨x0,rfl⟩:=zfw hsz
 have h0:R (stable w _) w x0 (.fn (.func (layKeys_ren.f 10)) [] [.raw (.pointer (some ⟨nb,0,none⟩))]):=h0
 obtain ⟨ys,rfl,hy⟩:∃ ys:Array Value,x0 = .func (.func (layKeys_ren.f 10)) #[] ys/\ys = #[.pointer (some ⟨nb,0,none⟩)]:=by
  cases h0 with
  | fn f xs ys cs ds e1 e2 e3 e4 =>
   have hxs:xs = #[]:=Array.eq_empty_of_size_eq_zero e1
   obtain ⟨y,rfl⟩:=zfw e3
   have:=e4 0 (by simp)
   have:R (stable w _) w y (.raw (.pointer (some ⟨nb,0,none⟩))):=this
   subst hxs
   have e:y = .pointer (some ⟨nb,0,none⟩):=by cases this;rfl
   exact ⟨_,rfl,by rw [e]⟩
 subst hy
 have hrow:w.heap[nb]? = some (.cells #[.map (some mk)] (layKeys_ren.t 23)):=hs.holds (.row nb (.cells #[.map (some mk)] (layKeys_ren.t 23))) (by simp)
 have hmap:=hs.holds (.map mk (entM V.str (V.int .i64) l)) (by simp)
 obtain ⟨D,hown,hsD,hpD⟩:=zpV (ty_:=layKeys_ren.t 26) layKeys.t26 hmap hn hz hk
 have hnb:nb<w.heap.size:=by
  rcases Nat.lt_or_ge nb w.heap.size with h | h
  · exact h
  · rw [Array.getElem?_eq_none h] at hrow;cases hrow
 have hseq:SeqGives Fence.wide 2 Tryz.prog (layKeys_ren.f 10) #[.pointer (some ⟨nb,0,none⟩)] encStr (fun ss=>ss.Perm (strKeys D)) (Maps.size D) w :=
  AnyZ.keys_gives (ρ:=layKeys_ren) { layKeys with } Fence.wide _ trivial rfl (by omega) nb mk l.length D _ hnb (by simp [World.cell?,hrow]) hown
 have c:=AnyZ.sorted_in zn9 Fence.wide 5 trivial trivial trivial trivial rfl (by omega) (zp6 _) he1 (layKeys_ren.f 10) #[.pointer (some ⟨nb,0,none⟩)] trivial he2 _ _ (by rw [hsD];unfold maxLen;omega) (by rw [hsD];omega) w hseq
 refine (callsIn_wide.1 c).mono ?_
 rintro e w' ⟨v,ss,rfl,hS,hrow',_,hb⟩
 obtain ⟨k1,k2⟩:=hs.moreL (by simp) hb
 have hso:ss.mergeSort (fun x y=>decide (x<=y))=Go.Proofs.YtgekknefphagbaaGreatDoor.sortS (l.map (·.1)):=mergeSort_of_perm (hS.trans hpD)
 rw [hso] at hrow'
 have hlen:ss.length=(Go.Proofs.YtgekknefphagbaaGreatDoor.sortS (l.map (·.1))).length:=by rw [<-hso];exact (List.length_mergeSort ss).symm
 rw [hlen] at hrow'
 exact ⟨v,_,_,rfl,k1,k2,zoM hs hrow',rfl,rfl⟩
end
section
theorem zoZ {w:World} {F:Own} {pb po n cap:Nat} {cs:List V} (hs:Sim w (.arr 1 (.slice (some ⟨pb,po,none⟩) n cap) cs::F)) (hcz:cap≠0) (m:Nat) (os:Array Obj) (ds:List (List UInt8)) (hd:ds.length<=cap) (n':Nat) (hn':n'<=ds.length) :
  Sim (Go.Sort.grow (Go.Sort.putRow encStr (Go.Sort.ahead w m) pb po ds.toArray) os) (.arr 1 (.slice (some ⟨pb,po,none⟩) n' cap) ((ds.take n').map V.str)::F) /\
  Ext w (.arr 1 (.slice (some ⟨pb,po,none⟩) n cap) cs::F) (Go.Sort.grow (Go.Sort.putRow encStr (Go.Sort.ahead w m) pb po ds.toArray) os) (.arr 1 (.slice (some ⟨pb,po,none⟩) n' cap) ((ds.take n').map V.str)::F):=by
 obtain ⟨s0,hnc,hln,xs,Ty,fr,g1,g2,g3,g4,g5,g6⟩:=zcH (L1:=[]) hs hcz
 simp only at s0 g1 g2 g3 g4 g5
 have hpb:pb<w.heap.size:=by
  rcases Nat.lt_or_ge pb w.heap.size with h | h
  · exact h
  · rw [Array.getElem?_eq_none h] at g1;cases g1
 generalize hw:Go.Sort.grow (Go.Sort.putRow encStr (Go.Sort.ahead w m) pb po ds.toArray) os=w2
 have hheap:w2.heap=w.heap.modify pb (Go.Sort.onCells (Go.Sort.putCells encStr po ds.toArray))++os:=by rw [<-hw];rfl
 have hmz:(w.heap.modify pb (Go.Sort.onCells (Go.Sort.putCells encStr po ds.toArray))).size=w.heap.size:=Array.size_modify
 have hblk:w2.heap[pb]? = some (.cells (Go.Sort.putCells encStr po ds.toArray xs) Ty fr):=by
  rw [hheap,Array.getElem?_append_left (by rw [hmz];exact hpb),Array.getElem?_modify,if_pos rfl,g1]
  rfl
 have hoth:∀ b,b<w.heap.size->b≠pb->w2.heap[b]? = w.heap[b]?:=by
  intro b hb hne
  rw [hheap,Array.getElem?_append_left (by rw [hmz];exact hb),Array.getElem?_modify,if_neg (Ne.symm hne)]
 have hput:∀ j,(Go.Sort.putCells encStr po ds.toArray xs)[j]? = if po<=j/\j<po+ds.length then (xs[j]?).map (fun _=>encStr (ds.toArray[j - po]!)) else xs[j]?:=by
  intro j
  unfold Go.Sort.putCells
  rw [Array.getElem?_mapIdx,List.size_toArray]
  by_cases hc':po<=j/\j<po+ds.length
  · simp only [if_pos hc']
  · simp only [if_neg hc']
    cases xs[j]? <;> rfl
 have hpsz:(Go.Sort.putCells encStr po ds.toArray xs).size=xs.size:=by simp [Go.Sort.putCells]
 refine Sim.swap (w':=w2) (L1:=[]) hs (e1:=.arr 1 (.slice (some ⟨pb,po,none⟩) n' cap) ((ds.take n').map V.str)) (by rw [<-hw];rfl) (by rw [<-hw];rfl) (by rw [<-hw];rfl) (by rw [hheap,Array.size_append,hmz];omega)
  (fun b hb hn=>hoth b hb fun e=>hn ⟨e,hcz⟩) (fun q hq hn=>?_) (fun b h=>.inl h) (fun q h=>.inl h) (fun hst=>?_) (by rw [<-hw];exact Nat.le_add_right _ _)
 · have hn':¬ (q.block=pb/\po<=q.off/\q.off<po+cap * 1):=hn
   obtain ⟨u,hu⟩:=Option.isSome_iff_exists.1 hq
   have hqb:=World.block_lt_of_cell? w q hu
   by_cases hqp:q.block=pb
   · unfold World.cell?
     rw [hqp,hblk,g1]
     simp only
     by_cases hsp:q.spot.isSome=true
     · rw [if_pos hsp,if_pos hsp]
     · rw [if_neg hsp,if_neg hsp,hput,if_neg (by omega)]
   · unfold World.cell?
     rw [hoth _ hqb hqp]
 · have hl:((ds.take n').map V.str).length=n':=by rw [List.length_map,List.length_take];omega
   refine ⟨by omega,by rw [hl,Nat.mul_one],fun _=>⟨rfl,_,Ty,fr,hblk,g2,by rw [hpsz];exact g3,fun t ht=>?_⟩⟩
   rw [hl] at ht
   have hxt:po+t<xs.size:=by omega
   have e1:(Go.Sort.putCells encStr po ds.toArray xs).getD (po+t) undef=encStr (ds[t]'(by omega)):=by
    rw [Array.getD_eq_getD_getElem?,hput,if_pos (by omega),Array.getElem?_eq_getElem hxt]
    simp only [Option.map_some,Option.getD_some,Nat.add_sub_cancel_left]
    rw [getElem!_pos ds.toArray t (by simpa using (by omega:t<ds.length))]
    simp
   have e2:((ds.take n').map V.str).getD t .any=V.str (ds[t]'(by omega)):=by
    rw [List.getD_eq_getElem?_getD,List.getElem?_map,List.getElem?_take,if_pos ht,List.getElem?_eq_getElem (by omega)]
    rfl
   simp only
   rw [e1,e2,zmP]
   exact .str _
section
variable {P:Program} {ρ : Go.Shelf.Ren}
theorem DC.compactS (L:Lays.n194 P ρ) (he:zdA P (ρ.f 194)=true) (l:List Str) (v:Value) (n:Nat) (F:Own) (hn:n=l.length/\l.length<4611686018427387904) :
  DC P (ρ.f 194) [.ar v n] ([.arr 1 v (l.map V.str)]++F) fun d G=>∃ v',d = .ar v' (Go.Lib.compact l).length/\G=[.arr 1 v' ((Go.Lib.compact l).map V.str)]++F:=by
 obtain ⟨rfl,hlen⟩:=hn
 refine ⟨he,fun xs w hs hsz hr=>?_⟩
 have h0:=hr 0 (by simp)
 obtain ⟨x0,rfl⟩:=zfw hsz
 clear hr hsz
 change R _ w x0 (.ar v l.length) at h0
 generalize hN:l.length=N at h0
 cases h0 with
 | ar a _ cap hc ha =>
 subst hN
 by_cases hl0:l=[]
 · subst hl0
   refine (Any.slices_Compact_string_empty L a cap w).mono ?_
   rintro e w' ⟨rfl,rfl⟩
   exact ⟨_,_,_,rfl,hs, .refl _ _, .ar a 0 cap hc ha,_,rfl,rfl⟩
 · have hpos:0<l.length:=List.length_pos_iff.2 hl0
   obtain ⟨hcz,p,rfl⟩:=zgi (L1:=[]) hs (by simpa using hpos)
   obtain ⟨pb,po,ps⟩:=p
   obtain ⟨s0,_⟩:=zcH (L1:=[]) hs hcz
   simp only at s0
   subst s0
   obtain ⟨hH,hb,hcap⟩:=zgS hs hcz
   refine (Any.slices_Compact_string L pb po cap l w hH (by omega) hcap).mono ?_
   rintro e w' ⟨rfl,m,rfl⟩
   have hz:(Go.Lib.compact l).length<=l.length:=Go.Lib.compact_length_le l
   obtain ⟨h1,h2⟩:=zoZ hs hcz m #[] (Go.Lib.compact l++List.replicate (l.length - (Go.Lib.compact l).length) []) (by simp;omega) (Go.Lib.compact l).length (by simp)
   rw [List.take_left' rfl] at h1 h2
   have hg:∀ w:World,Go.Sort.grow w #[]=w:=fun w=>by simp [Go.Sort.grow]
   rw [hg] at h1 h2
   exact ⟨_,_,_,rfl,h1,h2, .ar _ _ _ (by omega) (fun h=>nomatch h),_,rfl,rfl⟩
end
end
end Go.Proofs.YtgekknefphagbaaGreatDoor
